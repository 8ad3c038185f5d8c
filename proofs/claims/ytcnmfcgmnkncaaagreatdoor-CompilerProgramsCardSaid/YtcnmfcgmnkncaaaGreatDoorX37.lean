/-
  CkRefExpr, CkOwn, CkExplain, CkSame.
-/
import Derived.Test.YtcnmfcgmnkncaaaGreatDoorX36
import Derived.Test.YtcnmfcgmnkncaaaGreatDoorX31
import Derived.Test.YtcnmfcgmnkncaaaGreatDoorX24
set_option maxRecDepth 100000
set_option maxHeartbeats 40000000
open Go.Proofs.Tryz
namespace Go.Proofs.YtcnmfcgmnkncaaaGreatDoor
section
open Go.RowKit Go.Maps
theorem zHC {w:World} {g:Nat} {cur:Array Value} {t:TypeId} {r:Nat × Nat} (h:w.heap[g]? =some (.cells cur t r)) {j:Nat} {u:Value} (hu:cur[j]? =some u):w.cell? ⟨g,j,none⟩=some u:=by
 simp only [World.cell?,h]
 simpa using hu
def zAI (f:Nat->Bool):Array Value:= #[.bool (f 0),.bool (f 1),.bool (f 2),.bool (f 3),.bool (f 4),.bool (f 5),.bool (f 6),.bool (f 7),.bool (f 8),.bool (f 9),.bool (f 10),.bool (f 11),.bool (f 12)]
def zAX (cv:Value) (c:Tr.C) (fv mv:Value) (FB:Nat):Array Value:= #[cv,.string c.name,.bool c.actor,fv,mv,.slice (some ⟨FB,0,none⟩) 13 13]
structure FindAt (w:World) (P FB:Nat) (cv:Value) (c:Tr.C) (fv mv:Value) (f:Nat->Bool):Prop where
 fin:w.heap[P]? =some (.cells (zAX cv c fv mv FB) 160 (0,0))
 fnd:w.heap[FB]? =some (.cells (zAI f) 4 (0,0))
theorem zEI {w:World} {FB:Nat} {f:Nat->Bool} {t:TypeId} {r:Nat × Nat} (h:w.heap[FB]? =some (.cells (zAI f) t r)) {k:Nat} (hk:k<13):w.cell? ⟨FB,k,none⟩=some (.bool (f k)):=by
 refine zHC h ?_
 match k,hk with
 |0,_=>rfl|1,_=>rfl|2,_=>rfl|3,_=>rfl|4,_=>rfl|5,_=>rfl|6,_=>rfl|7,_=>rfl|8,_=>rfl|9,_=>rfl|10,_=>rfl|11,_=>rfl|12,_=>rfl
theorem zGD {w:World} {FB:Nat} {f:Nat->Bool} {t:TypeId} (h:w.heap[FB]? =some (.cells (zAI f) t (0,0))) (k:Nat):w.frozen? ⟨FB,k,none⟩=false:=by simp [World.frozen?,h]
theorem zRK (f:Nat->Bool) (b:Bool) {k:Nat} (hk:k<13):(zAI f).setIfInBounds k (.bool b)=zAI (fun t=>if t=k then b else f t):=by
 unfold zAI
 match k,hk with
 |0,_=>simp|1,_=>simp|2,_=>simp|3,_=>simp|4,_=>simp|5,_=>simp|6,_=>simp|7,_=>simp|8,_=>simp|9,_=>simp|10,_=>simp|11,_=>simp|12,_=>simp
theorem zL1 {w:World} {FB:Nat} {f:Nat->Bool} {t:TypeId} (h:w.heap[FB]? =some (.cells (zAI f) t (0,0))) (b:Bool) {k:Nat} (hk:k<13):
 (w.setCell ⟨FB,k,none⟩ (.bool b)).heap[FB]? =some (.cells (zAI (fun t=>if t=k then b else f t)) t (0,0)):=by
 rw [heap_set _ h,zRK f b hk]
section
variable {w w':World} {P FB:Nat} {cv fv mv:Value} {c:Tr.C} {f:Nat->Bool}
theorem FindAt.ne (h:FindAt w P FB cv c fv mv f):P≠FB:=by
 rintro rfl;have:=h.fin.symm.trans h.fnd;simp only [Option.some.injEq,Obj.cells.injEq] at this;exact absurd this.2.1 (by decide)
theorem FindAt.cell (h:FindAt w P FB cv c fv mv f) {j:Nat} {u:Value} (hj:(zAX cv c fv mv FB)[j]? =some u):w.cell? ⟨P,j,none⟩=some u:=zHC h.fin hj
theorem FindAt.keep (h:FindAt w P FB cv c fv mv f) (hb:Below w.heap.size w w'):FindAt w' P FB cv c fv mv f:=
 ⟨(hb.block P (lt_of_block h.fin)).trans h.fin,(hb.block FB (lt_of_block h.fnd)).trans h.fnd⟩
theorem FindAt.congr (h:FindAt w P FB cv c fv mv f) {g:Nat->Bool} (he:∀t,f t=g t):FindAt w P FB cv c fv mv g:=by
 have:f=g:=funext he;rw [<-this];exact h
theorem FindAt.set (h:FindAt w P FB cv c fv mv f) {k:Nat} (hk:k<13):FindAt (w.setCell ⟨FB,k,none⟩ (.bool true)) P FB cv c fv mv (fun t=>f t||(t == k)):=by
 have h1:FindAt (w.setCell ⟨FB,k,none⟩ (.bool true)) P FB cv c fv mv (fun t=>if t=k then true else f t):=
  ⟨((zB6 w FB k (.bool true)).block P (lt_of_block h.fin) (fun e=>h.ne (Option.some.inj e))).trans h.fin,zL1 h.fnd true hk⟩
 refine h1.congr (fun t=>?_);by_cases e:t=k
 ·subst e;simp
 ·simp [e]
theorem zPN {f:Nat->Bool} {i:Nat} {u:Value} (h:(zAI f)[i]? =some u):∃b,u= .bool b:=by
 have:=Array.mem_of_getElem? h;unfold zAI at this;simp only [List.mem_toArray,kV,List.not_mem_nil,or_false] at this;rcases this with rfl|rfl|rfl|rfl|rfl|rfl|rfl|rfl|rfl|rfl|rfl|rfl|rfl<;>exact ⟨_,rfl⟩
theorem SlStr.find {v:Value} {l:List BA} {t:TypeId} (h:SlStr w v l) (hf:w.heap[FB]? =some (.cells (zAI f) t (0,0))) (hg:w.grownBy w' (some FB)):SlStr w' v l:=by
 obtain⟨p,c,e,hl,hn,hx⟩:=h;refine⟨p,c,e,hl,hn,fun j s hj=>?_⟩;obtain⟨hs,b,o,e2,h1,h2⟩:=hx j s hj;refine⟨hs,b,o,e2,kP h1 hg.size,hg.cell h2 ?_⟩;intro e3;cases e3;simp only [World.cell?,hf] at h2;obtain⟨b,hb⟩:=zPN (by simpa using h2);cases hb
end
structure RSt (w:World) (P FB bx:Nat) (cv:Value) (c:Tr.C) (fv mv vv:Value) (vars:List BA) (cells:Array Value) (f:Nat->Bool) (W:World):Prop where
 find:FindAt W P FB cv c fv mv f
 vs:SlStr W vv vars
 grown:w.grownBy W (some FB)
 box:∀(j:Nat) (u:Value),cells[j]? =some u->W.cell? ⟨bx,j,none⟩=some u
 ne:bx≠FB
section
variable {w:World} {P FB bx:Nat} {cv:Value} {c:Tr.C} {fv mv vv:Value} {vars:List BA} {cells:Array Value} {f:Nat->Bool} {W W':World}
theorem RSt.next (h:RSt w P FB bx cv c fv mv vv vars cells f W) {g:Nat->Bool} (hp:FindAt W' P FB cv c fv mv g) (hg:W.grownBy W' (some FB)):RSt w P FB bx cv c fv mv vv vars cells g W':=
 ⟨hp,h.vs.find h.find.fnd hg,zCP h.grown hg,fun j u hu=>hg.cell (h.box j u hu) (fun e=>h.ne (Option.some.inj e)),h.ne⟩
theorem RSt.keep (h:RSt w P FB bx cv c fv mv vv vars cells f W) (hb:Below W.heap.size W W'):RSt w P FB bx cv c fv mv vv vars cells f W':=h.next (h.find.keep hb) (zL hb)
theorem RSt.drew (h:RSt w P FB bx cv c fv mv vv vars cells f W):RSt w P FB bx cv c fv mv vv vars cells f W.drew:=h.keep (Below.refl _ _).drew
theorem RSt.drewN (h:RSt w P FB bx cv c fv mv vv vars cells f W) (q:Nat):RSt w P FB bx cv c fv mv vv vars cells f (W.drewN q):=h.keep (quietB (Below.refl _ _))
theorem RSt.congr (h:RSt w P FB bx cv c fv mv vv vars cells f W) {g:Nat->Bool} (he:∀t,f t=g t):RSt w P FB bx cv c fv mv vv vars cells g W:=⟨h.find.congr he,h.vs,h.grown,h.box,h.ne⟩
theorem RSt.set (h:RSt w P FB bx cv c fv mv vv vars cells f W) {k:Nat} (hk:k<13):RSt w P FB bx cv c fv mv vv vars cells (fun t=>f t||(t == k)) (W.setCell ⟨FB,k,none⟩ (.bool true)):=h.next (h.find.set hk) (zB6 _ _ _ _)
theorem RSt.made (hp:FindAt w P FB cv c fv mv f) (hs:SlStr w vv vars) (cells:Array Value) (t:TypeId):RSt w P FB w.heap.size cv c fv mv vv vars cells f (w.alloc (.cells cells t)):=
 ⟨hp.keep (zD _ _),hs.keep (zD _ _),World.grownBy_alloc _ _ _,fun j u hu=>zJ w cells t j u hu,by have:=lt_of_block hp.fnd;omega⟩
theorem RSt.fcell (h:RSt w P FB bx cv c fv mv vv vars cells f W) {k:Nat} (hk:k<13):W.cell? ⟨FB,k,none⟩=some (.bool (f k)):=zEI h.find.fnd hk
theorem RSt.free (h:RSt w P FB bx cv c fv mv vv vars cells f W) (k:Nat):W.frozen? ⟨FB,k,none⟩=false:=zGD h.find.fnd k
end
theorem rfin {w:World} {P FB bx:Nat} {cv:Value} {c:Tr.C} {fv mv vv:Value} {vars:List BA} {cells:Array Value} {f F:Nat->Bool} {W:World} {cs:List Tr.C} {k o i:Int} {nm:BA} {at_:Bool} {l:List Tr.E}
 (h:RSt w P FB bx cv c fv mv vv vars cells F W) (he:∀t,F t=((f t||Ck.zAA cs c.fields vars l t)||Ck.ownE cs c.fields vars k nm at_ l t)):
 FindAt W P FB cv c fv mv (fun t=>f t||Ck.faultE cs c.fields vars (.mk k o i nm at_ l) t)/\w.grownBy W (some FB):=
 ⟨h.find.congr (fun t=>by rw [he,zJN];cases f t<;>cases Ck.zAA cs c.fields vars l t<;>cases Ck.ownE cs c.fields vars k nm at_ l t<;>rfl),h.grown⟩
theorem zEC {a b:Value} {q1 q2:Addr} {w:World} {P FB bx:Nat} {cv:Value} {c:Tr.C} {fv mv vv:Value} {vars:List BA} {cells:Array Value} {f:Nat->Bool} {W W':World} (h:W.cell? q1=some a/\W.cell? q2=some b/\Hid (RSt w P FB bx cv c fv mv vv vars cells f W)) (hb:Below W.heap.size W W'):
 W'.cell? q1=some a/\W'.cell? q2=some b/\Hid (RSt w P FB bx cv c fv mv vv vars cells f W'):=
 ⟨(zL (r:=none) hb).cell h.1 (by simp),(zL (r:=none) hb).cell h.2.1 (by simp),h.2.2.keep hb⟩
theorem zI2 {p q:Prop} {w:World} {P FB bx:Nat} {cv:Value} {c:Tr.C} {fv mv vv:Value} {vars:List BA} {cells:Array Value} {f:Nat->Bool} {W:World} (h:p/\q/\Hid (RSt w P FB bx cv c fv mv vv vars cells f W)):RSt w P FB bx cv c fv mv vv vars cells f W:=h.2.2.out
theorem zC7 {p q:Prop} {w0 w:World} {P FB bx:Nat} {cv:Value} {c:Tr.C} {fv mv vv:Value} {vars:List BA} {cells:Array Value} {f:Nat->Bool} {W:World} (hb:Below w0.heap.size w0 w) (hP:w0.heap.size<=FB) (h:p/\q/\Hid (RSt w P FB bx cv c fv mv vv vars cells f W)):Below w0.heap.size w0 W:=zO hb h.2.2.grown hP
def RExprOk (w0:World) (cs:List Tr.C) (cv:Value) (c:Tr.C) (fv mv:Value) (P FB d:Nat):Prop:=
 ∀(e:Tr.E) (a:Value) (w:World) (f:Nat->Bool) (vv:Value) (vars:List BA),e.deep<=d->Tr.zE e=true->BdE e->SlE w0 a e.args->Below w0.heap.size w0 w->FindAt w P FB cv c fv mv f->SlStr w vv vars->
  Calls prog 140 #[.pointer (some ⟨P,0,none⟩),zK e a,vv] w fun r w'=>r= .returned (.tuple #[])/\FindAt w' P FB cv c fv mv (fun t=>f t||Ck.faultE cs c.fields vars e t)/\w.grownBy w' (some FB)
theorem zR5 (w0:World) (cs:List Tr.C) (cv:Value) (hcs:SlC w0 cv cs) (c:Tr.C) (fv mv:Value) (hfv:SlStr w0 fv c.fields) (P FB:Nat) (hP0:w0.heap.size<=FB):∀(d:Nat),RExprOk w0 cs cv c fv mv P FB d:=by
 intro d
 induction d with
 |zero=>intro e a w f vv vars hd;have:=e.deep_pos;omega
 |succ d ih=>
  intro e a w f vv vars hd hvd hbd hS hb hP hB;obtain⟨k,o,i,nm,at_,l⟩:=e;have hnm:nm.size<=maxLen:=hbd.name;have hk1:=hbd.kind;have hS':SlE w0 a l:=hS;obtain⟨p,c5,rfl,hcap⟩:=hS'.form;have hll:=hS'.len;unfold maxLen at hll;obtain⟨pv,cpv,rfl⟩:=hcs.form;obtain⟨pf,cf,rfl⟩:=hfv.form;obtain⟨pvv,cvv,rfl⟩:=hB.form;have hcl:=hcs.len;unfold maxLen at hcl;rw [Tr.zE,kW] at hvd;obtain⟨hvs,hok⟩:=hvd;obtain⟨N,hN⟩:∃N,l.length=N:=⟨_,rfl⟩;rw [hN] at hS' hll hok;obtain⟨CN,hCN⟩:∃N,cs.length=N:=⟨_,rfl⟩;obtain⟨FN,hFN⟩:∃N,c.fields.length=N:=⟨_,rfl⟩;obtain⟨VN,hVN⟩:∃N,vars.length=N:=⟨_,rfl⟩;have HE0:=zh (RSt.made hP hB #[.int .i64 k,.int .i64 o,.int .i64 i,.string nm,.bool at_,.slice p N c5] 37);have HS:=zh hS';have HN:=zh hN;have HD:=zh hd;have HIH:=zh ih;have HVS:=zh hvs;have HBW:=zh hb;have HCS:=zh hcs;have HFV:=zh hfv;have HOK:=zh hok;rw [hCN] at HCS HE0 hcl;rw [hFN] at HFV HE0;rw [hVN] at HE0;rw [hCN,hFN] at HIH;have HCN:=zh hCN;have HVN:=zh hVN;unfold zK;simp only [Tr.E.kind,Tr.E.op,Tr.E.int,Tr.E.name,Tr.E.at_];rw [hN,hCN,hFN,hVN];have KC:Hid (∀(W:World),Below w0.heap.size w0 W->Calls prog 139 #[.slice pf FN cf,.string nm] W fun e w'=>e= .returned (.bool (Ck.hasS c.fields nm))/\w'=W):=fun W hb=>zF9 _ _ _ _ (HFV.keep hb)
  have KV:Hid (∀(W:World),SlStr W (.slice pvv VN cvv) vars->Calls prog 139 #[.slice pvv VN cvv,.string nm] W fun e w'=>e= .returned (.bool (Ck.hasS vars nm))/\w'=W):=fun W hb=>zF9 _ _ _ _ hb
  have KCL:Hid (∀(W:World),Below w0.heap.size w0 W->Calls prog 94 #[.agg #[.slice pv CN cpv],.string nm] W fun e w'=>e= .returned (.tuple #[.int .i64 ((Ck.zAB cs nm).getD 0:Nat),.bool (Ck.zAB cs nm).isSome])/\Below W.heap.size W w'):=fun W hb=>zD2 nm cs _ W (HCS.keep hb)
  have hB1:=zh (hb.trans ((zD w (.cells #[.int .i64 k,.int .i64 o,.int .i64 i,.string nm,.bool at_,.slice p N c5] 37)).mono hb.size));obtain⟨w1,hw1⟩:∃w1,w1=w.alloc (.cells #[.int .i64 k,.int .i64 o,.int .i64 i,.string nm,.bool at_,.slice p N c5] 37):=⟨_,rfl⟩;rw [<-hw1] at HE0 hB1;have HW1:=zh hw1;clear hbd hS hS' hcs hfv hN hd ih hvs hb hCN hFN hw1 hP hB hok hVN;go_in;go_upto_region 1 with fail;rw [<-HW1.out];clear HW1;go_wp2_with fail
  go_loopw [6] (fun s6 wr=>∃j:Nat,s6= .int .i64 j/\j<=N/\Hid (RSt w P FB w.heap.size (.slice pv CN cpv) c (.slice pf FN cf) mv (.slice pvv VN cvv) vars #[.int .i64 k,.int .i64 o,.int .i64 i,.string nm,.bool at_,.slice p N c5] (fun t=>f t||Ck.zAA cs c.fields vars (l.take j) t) wr)) (fun s6 _=>N -(intOf s6).toNat)
  case atStart=>exact ⟨0,rfl,kO _,zh (HE0.congr (fun t=>by rw [List.take_zero,Ck.zAA,Bool.or_false]))⟩
  case round=>
   obtain⟨j,rfl,hj,HST⟩:=hrel;clear HE0;have HBR:=zh (zO HBW HST.grown hP0);have b5:=HST.box 5 _ rfl;by_cases hlt:j<N
   ·obtain⟨x,hx⟩:∃x,l[j]? =some x:=⟨_,kB (by rw [HN.out];exact hlt)⟩;obtain⟨b,oo,aa,rfl,hblt,hc,hbd,hsl⟩:=HS.get hx;obtain⟨x0,x1,x2,x3,x4,x5⟩:=hc.keep HBR;obtain⟨pa,ca,rfl,_⟩:=hsl.form;obtain⟨AN,hAN⟩:∃N,x.args.length=N:=⟨_,rfl⟩;rw [hAN] at hsl x5;have hcall:=HIH x (.slice pa AN ca) _ _ (.slice pvv VN cvv) vars (Tr.E.deep_args HD (e:= .mk k o i nm at_ l) hx) (zDL HVS hx) hbd hsl HBR HST.find HST.vs;unfold zK at hcall;have HX:=zh hx;have HCALL:=zh hcall;clear hx hbd hsl hc hAN hcall;go_wp2_with fail;refine HCALL.mono ?_;rintro e w2 ⟨rfl,hP2,hg2⟩;have HN2:=zh (HST.next hP2 hg2);clear hP2 hg2;go_wp2_with fail;go_roundw
    case rel=>exact ⟨j+1,by go_num,by omega,zh (HN2.congr (fun t=>by rw [zA3 HX.out,zCY,Bool.or_assoc]))⟩
    case measure=>simp [intOf];omega
   ·have hfull:l.take j=l:=kR (by rw [HN.out];omega);rw [hfull] at HST;have b0:=HST.box 0 _ rfl;have q5:=HST.find.cell (j:=5) (u:= .slice (some ⟨FB,0,none⟩) 13 13) rfl;clear hfull HIH;obtain rfl:j=N:=by omega
    by_cases h3:k=3
    ·subst h3;have b3:=HST.box 3 _ rfl;have hlk:=zh (KV _ HST.vs);have f7:=HST.fcell (k:=7) (by omega);have g7:=HST.free 7;clear hk1;cases hv:Ck.hasS vars nm
     ·rw [hv] at hlk;have HV:=zh hv;clear hv;go_wp2_with fail;refine hlk.mono ?_;rintro e w2 ⟨rfl,rfl⟩;have HS1:=zh (HST.set (k:=7) (by omega));go_wp2_with fail;go_end0;exact⟨rfl,rfin HS1 (fun t=>by unfold Ck.ownE;rw [kD rfl,HV.out];simp)⟩
     ·rw [hv] at hlk;have HV:=zh hv;clear hv;go_wp2_with fail;refine hlk.mono ?_;rintro e w2 ⟨rfl,rfl⟩;go_wp2_with fail;go_end0;exact⟨rfl,rfin HST (fun t=>by unfold Ck.ownE;rw [kD rfl,HV.out];simp)⟩
    ·by_cases h5:k=5
     ·subst h5;have hat1:at_=true->0<j:=okE_5 HOK;clear hk1 h3;have b3:=HST.box 3 _ rfl;have b4:=HST.box 4 _ rfl;have q0:=HST.find.cell (j:=0) (u:= .slice pv CN cpv) rfl;cases hcl:Ck.zAB cs nm with
      |none=>
       rw [hcl] at KCL;simp only [Option.getD_none,Option.isSome_none] at KCL;have HCL:=zh hcl;clear hcl;cases at_
       ·skip;clear hat1;go_wp2_with fail
        go_region_held3 (fun w'=>w'.cell? ⟨P,0,none⟩=some (.slice pv CN cpv)/\w'.cell? ⟨w.heap.size,3,none⟩=some (.string nm)/\Hid (RSt w P FB w.heap.size (.slice pv CN cpv) c (.slice pf FN cf) mv (.slice pvv VN cvv) vars #[.int .i64 5,.int .i64 o,.int .i64 i,.string nm,.bool false,.slice p j c5] (fun t=>f t||Ck.zAA cs c.fields vars l t) w')) (first|exact zEC (by assumption) hb|exact ⟨q0,b3,HST⟩|exact ⟨q0,b3,zh HST.out.drew⟩|go_keep) (first|(go_at_call 94;(with_reducible refine(KCL.out _ (zC7 HBW.out hP0 (by assumption))).mono ?_);rintro e w' ⟨rfl,hb⟩))
        have HL0:=zh (zI2 (by assumption));clear b0 b3 b4 b5 q0 q5;have q5:=HL0.find.cell (j:=5) (u:= .slice (some ⟨FB,0,none⟩) 13 13) rfl;have b4:=HL0.box 4 _ rfl;have b5:=HL0.box 5 _ rfl;have f8:=HL0.fcell (k:=8) (by omega);have g8:=HL0.free 8;have HS1:=zh (HL0.set (k:=8) (by omega));go_wp2_with fail;go_end0;exact⟨rfl,rfin HS1 (fun t=>by unfold Ck.ownE;rw [kC (by decide),kC (by decide),kD rfl,HCL.out])⟩
       ·skip;have hat2:=hat1 rfl;clear hat1;go_wp2_with fail
        go_region_held3 (fun w'=>w'.cell? ⟨P,0,none⟩=some (.slice pv CN cpv)/\w'.cell? ⟨w.heap.size,3,none⟩=some (.string nm)/\Hid (RSt w P FB w.heap.size (.slice pv CN cpv) c (.slice pf FN cf) mv (.slice pvv VN cvv) vars #[.int .i64 5,.int .i64 o,.int .i64 i,.string nm,.bool true,.slice p j c5] (fun t=>f t||Ck.zAA cs c.fields vars l t) w')) (first|exact zEC (by assumption) hb|exact ⟨q0,b3,HST⟩|exact ⟨q0,b3,zh HST.out.drew⟩|go_keep) (first|(go_at_call 94;(with_reducible refine(KCL.out _ (zC7 HBW.out hP0 (by assumption))).mono ?_);rintro e w' ⟨rfl,hb⟩))
        have HL0:=zh (zI2 (by assumption));clear b0 b3 b4 b5 q0 q5;have q5:=HL0.find.cell (j:=5) (u:= .slice (some ⟨FB,0,none⟩) 13 13) rfl;have b4:=HL0.box 4 _ rfl;have b5:=HL0.box 5 _ rfl;have f8:=HL0.fcell (k:=8) (by omega);have g8:=HL0.free 8;have HS1:=zh (HL0.set (k:=8) (by omega));go_wp2_with fail;go_end0;exact⟨rfl,rfin HS1 (fun t=>by unfold Ck.ownE;rw [kC (by decide),kC (by decide),kD rfl,HCL.out])⟩
      |some q=>
       rw [hcl] at KCL;simp only [Option.getD_some,Option.isSome_some] at KCL;have hql:=zGE hcl;obtain⟨cc,hq⟩:∃x,cs[q]? =some x:=⟨_,kB hql⟩;obtain⟨b,oo,vf,vm,rfl,hblt,hc,hnmc,hsf,hsm⟩:=HCS.get hq;obtain⟨pf2,cf2,rfl⟩:=hsf.form;obtain⟨FL,hFL⟩:∃N,cc.fields.length=N:=⟨_,rfl⟩;have HC2:=zh hc.2.2.1;rw [hFL] at HC2;have hfl:=hsf.len;unfold maxLen at hfl;rw [hFL] at hfl;have HFL:=zh hFL;have HCL:=zh hcl;have hi:=zh hq;rw [HCN.out] at hql;clear hcl hq hc hnmc hsf hsm hFL;cases at_
       ·skip;clear hat1;by_cases hgt:FL<j
        ·skip;go_wp2_with fail
         go_region_held3 (fun w'=>w'.cell? ⟨P,0,none⟩=some (.slice (some ⟨b,oo,none⟩) CN cpv)/\w'.cell? ⟨w.heap.size,3,none⟩=some (.string nm)/\Hid (RSt w P FB w.heap.size (.slice (some ⟨b,oo,none⟩) CN cpv) c (.slice pf FN cf) mv (.slice pvv VN cvv) vars #[.int .i64 5,.int .i64 o,.int .i64 i,.string nm,.bool false,.slice p j c5] (fun t=>f t||Ck.zAA cs c.fields vars l t) w')) (first|exact zEC (by assumption) hb|exact ⟨q0,b3,HST⟩|exact ⟨q0,b3,zh HST.out.drew⟩|go_keep) (first|(go_at_call 94;(with_reducible refine(KCL.out _ (zC7 HBW.out hP0 (by assumption))).mono ?_);rintro e w' ⟨rfl,hb⟩))
         have HL0:=zh (zI2 (by assumption));clear b0 b3 b4 b5 q0 q5;have q5:=HL0.find.cell (j:=5) (u:= .slice (some ⟨FB,0,none⟩) 13 13) rfl;have b4:=HL0.box 4 _ rfl;have b5:=HL0.box 5 _ rfl;have q0:=HL0.find.cell (j:=0) (u:= .slice (some ⟨b,oo,none⟩) CN cpv) rfl;have HB3:=zh (zO HBW HL0.grown hP0);have z2:=zA HB3 HC2;have f9:=HL0.fcell (k:=9) (by omega);have g9:=HL0.free 9;have HS1:=zh (HL0.set (k:=9) (by omega));go_wp2_with fail;go_end0;exact⟨rfl,rfin HS1 (fun t=>by rw [zD4 HCL.out hi.out,HFL.out,HN.out,kC (by decide),kS (p:=(FL:Int)<(j:Int) - 0) (by omega)];simp)⟩
        ·skip;go_wp2_with fail
         go_region_held3 (fun w'=>w'.cell? ⟨P,0,none⟩=some (.slice (some ⟨b,oo,none⟩) CN cpv)/\w'.cell? ⟨w.heap.size,3,none⟩=some (.string nm)/\Hid (RSt w P FB w.heap.size (.slice (some ⟨b,oo,none⟩) CN cpv) c (.slice pf FN cf) mv (.slice pvv VN cvv) vars #[.int .i64 5,.int .i64 o,.int .i64 i,.string nm,.bool false,.slice p j c5] (fun t=>f t||Ck.zAA cs c.fields vars l t) w')) (first|exact zEC (by assumption) hb|exact ⟨q0,b3,HST⟩|exact ⟨q0,b3,zh HST.out.drew⟩|go_keep) (first|(go_at_call 94;(with_reducible refine(KCL.out _ (zC7 HBW.out hP0 (by assumption))).mono ?_);rintro e w' ⟨rfl,hb⟩))
         have HL0:=zh (zI2 (by assumption));clear b0 b3 b4 b5 q0 q5;have q5:=HL0.find.cell (j:=5) (u:= .slice (some ⟨FB,0,none⟩) 13 13) rfl;have b4:=HL0.box 4 _ rfl;have b5:=HL0.box 5 _ rfl;have q0:=HL0.find.cell (j:=0) (u:= .slice (some ⟨b,oo,none⟩) CN cpv) rfl;have HB3:=zh (zO HBW HL0.grown hP0);have z2:=zA HB3 HC2;go_wp2_with fail;go_end0;exact⟨rfl,rfin HL0 (fun t=>by rw [zD4 HCL.out hi.out,HFL.out,HN.out,kC (by decide),kE (p:=(FL:Int)<(j:Int) - 0) (by omega)];simp)⟩
       ·skip;have hat2:=hat1 rfl;clear hat1;by_cases hgt:FL+1<j
        ·skip;go_wp2_with fail
         go_region_held3 (fun w'=>w'.cell? ⟨P,0,none⟩=some (.slice (some ⟨b,oo,none⟩) CN cpv)/\w'.cell? ⟨w.heap.size,3,none⟩=some (.string nm)/\Hid (RSt w P FB w.heap.size (.slice (some ⟨b,oo,none⟩) CN cpv) c (.slice pf FN cf) mv (.slice pvv VN cvv) vars #[.int .i64 5,.int .i64 o,.int .i64 i,.string nm,.bool true,.slice p j c5] (fun t=>f t||Ck.zAA cs c.fields vars l t) w')) (first|exact zEC (by assumption) hb|exact ⟨q0,b3,HST⟩|exact ⟨q0,b3,zh HST.out.drew⟩|go_keep) (first|(go_at_call 94;(with_reducible refine(KCL.out _ (zC7 HBW.out hP0 (by assumption))).mono ?_);rintro e w' ⟨rfl,hb⟩))
         have HL0:=zh (zI2 (by assumption));clear b0 b3 b4 b5 q0 q5;have q5:=HL0.find.cell (j:=5) (u:= .slice (some ⟨FB,0,none⟩) 13 13) rfl;have b4:=HL0.box 4 _ rfl;have b5:=HL0.box 5 _ rfl;have q0:=HL0.find.cell (j:=0) (u:= .slice (some ⟨b,oo,none⟩) CN cpv) rfl;have HB3:=zh (zO HBW HL0.grown hP0);have z2:=zA HB3 HC2;have f9:=HL0.fcell (k:=9) (by omega);have g9:=HL0.free 9;have HS1:=zh (HL0.set (k:=9) (by omega));go_wp2_with fail;go_end0;exact⟨rfl,rfin HS1 (fun t=>by rw [zD4 HCL.out hi.out,HFL.out,HN.out,kD rfl,kS (p:=(FL:Int)<(j:Int) - 1) (by omega)];simp)⟩
        ·skip;go_wp2_with fail
         go_region_held3 (fun w'=>w'.cell? ⟨P,0,none⟩=some (.slice (some ⟨b,oo,none⟩) CN cpv)/\w'.cell? ⟨w.heap.size,3,none⟩=some (.string nm)/\Hid (RSt w P FB w.heap.size (.slice (some ⟨b,oo,none⟩) CN cpv) c (.slice pf FN cf) mv (.slice pvv VN cvv) vars #[.int .i64 5,.int .i64 o,.int .i64 i,.string nm,.bool true,.slice p j c5] (fun t=>f t||Ck.zAA cs c.fields vars l t) w')) (first|exact zEC (by assumption) hb|exact ⟨q0,b3,HST⟩|exact ⟨q0,b3,zh HST.out.drew⟩|go_keep) (first|(go_at_call 94;(with_reducible refine(KCL.out _ (zC7 HBW.out hP0 (by assumption))).mono ?_);rintro e w' ⟨rfl,hb⟩))
         have HL0:=zh (zI2 (by assumption));clear b0 b3 b4 b5 q0 q5;have q5:=HL0.find.cell (j:=5) (u:= .slice (some ⟨FB,0,none⟩) 13 13) rfl;have b4:=HL0.box 4 _ rfl;have b5:=HL0.box 5 _ rfl;have q0:=HL0.find.cell (j:=0) (u:= .slice (some ⟨b,oo,none⟩) CN cpv) rfl;have HB3:=zh (zO HBW HL0.grown hP0);have z2:=zA HB3 HC2;go_wp2_with fail;go_end0;exact⟨rfl,rfin HL0 (fun t=>by rw [zD4 HCL.out hi.out,HFL.out,HN.out,kD rfl,kE (p:=(FL:Int)<(j:Int) - 1) (by omega)];simp)⟩
     ·by_cases h4:k=4
      ·subst h4;have hN1:=okE_4 HOK;obtain⟨x0,hx0⟩:∃x,l[0]? =some x:=⟨_,kB (by rw [HN.out];omega)⟩;obtain⟨b,oo,aa,rfl,hblt,hc,hbd,hsl⟩:=HS.get hx0;rw [Nat.zero_mul,Nat.add_zero] at hc;have y0:=(hc.keep HBR).1;have hhead:Hid (Ck.zA9 l=x0.kind):=by
        show _=_
        cases hl:l with
        |nil=>rw [hl] at hx0;cases hx0
        |cons z r=>rw [hl] at hx0;cases hx0;rfl
       have hN0:(0:Int)<(j:Int):=(by omega);clear hx0 hc hbd hsl hk1 h3 h5;have b3:=HST.box 3 _ rfl;have q3:=HST.find.cell (j:=3) (u:= .slice pf FN cf) rfl;have f10:=HST.fcell (k:=10) (by omega);have g10:=HST.free 10;by_cases hth:x0.kind=2
       ·have hth1:(x0.kind == 2)=true:=kX.2 hth;have HTH:=zh hth;clear hth;cases hv:Ck.hasS c.fields nm
        ·rw [hv] at KC;have HV:=zh hv;clear hv;go_wp2_with fail
         go_quiet ((go_at_call 139;exact Calls.quiet_of_same (KC _ (by first|exact HBR|exact HBR.drew|exact HBR.drew.drew|exact quietB HBR))))
         have HQ:=zh (HST.drewN nq);clear b0 b3 b5 q3 q5 y0 f10 g10 hth1;have q5:=HQ.find.cell (j:=5) (u:= .slice (some ⟨FB,0,none⟩) 13 13) rfl;have f10:=HQ.fcell (k:=10) (by omega);have g10:=HQ.free 10;have HS1:=zh (HQ.set (k:=10) (by omega));go_wp2_with fail;go_end0;exact⟨rfl,rfin HS1 (fun t=>by unfold Ck.ownE;rw [kC (by decide),kD rfl,hhead.out,kS HTH.out,HV.out];simp)⟩
        ·rw [hv] at KC;have HV:=zh hv;clear hv;go_wp2_with fail
         go_quiet ((go_at_call 139;exact Calls.quiet_of_same (KC _ (by first|exact HBR|exact HBR.drew|exact HBR.drew.drew|exact quietB HBR))))
         have HQ:=zh (HST.drewN nq);clear b0 b3 b5 q3 q5 y0 f10 g10 hth1;have q5:=HQ.find.cell (j:=5) (u:= .slice (some ⟨FB,0,none⟩) 13 13) rfl;have f10:=HQ.fcell (k:=10) (by omega);have g10:=HQ.free 10;go_wp2_with fail;go_end0;exact⟨rfl,rfin HQ (fun t=>by unfold Ck.ownE;rw [kC (by decide),kD rfl,hhead.out,kS HTH.out,HV.out];simp)⟩
       ·have hth1:(x0.kind == 2)=false:=kA.2 hth;have HTH:=zh hth;clear hth;go_wp2_with fail
        go_quiet (fail)
        have HQ:=zh (HST.drewN nq);clear b0 b3 b5 q3 q5 y0 f10 g10 hth1;go_wp2_with fail;go_end0;exact⟨rfl,rfin HQ (fun t=>by unfold Ck.ownE;rw [kC (by decide),kD rfl,hhead.out,kE HTH.out];simp)⟩
      ·have h3b:(k == 3)=false:=kA.2 h3;have h4b:(k == 4)=false:=kA.2 h4;have h5b:(k == 5)=false:=kA.2 h5;have hown:Hid (∀t,Ck.ownE cs c.fields vars k nm at_ l t=false):=fun t=>by unfold Ck.ownE;rw [kC h3,kC h4,kC h5]
       clear h3 h4 h5 hk1;go_wp2_with fail;go_end0;exact⟨rfl,rfin HST (fun t=>by rw [hown.out,Bool.or_false])⟩
end
section
open Go.RowKit Go.Maps
section
variable {α:Type} (f:α->List Value) (k:Nat)
def flatV (l:List α):List Value:=l.flatMap f
theorem flatV_append (l r:List α):flatV f (l++r)=flatV f l++flatV f r:=List.flatMap_append
theorem flatV_nil:flatV f []= []:=rfl
theorem flatV_cons (x:α) (r:List α):flatV f (x::r)=f x++flatV f r:=List.flatMap_cons
variable (hf:∀a,(f a).length=k)
include hf
theorem flatV_len:∀l:List α,(flatV f l).length=l.length*k
 | []=>by simp [flatV]
 |x::r=>by rw [flatV_cons,kN,hf,flatV_len r,kI,Nat.add_mul,Nat.one_mul,Nat.add_comm]
theorem flatV_get:∀(l:List α) (j:Nat) (a:α) (i:Nat),i<k->l[j]? =some a->(flatV f l)[j*k+i]? =(f a)[i]?
 | [],j,a,i,_,h=>by simp at h
 |x::r,0,a,i,hi,h=>by
  simp only [List.getElem?_cons_zero,Option.some.injEq] at h;subst h;rw [flatV_cons,Nat.zero_mul,Nat.zero_add,List.getElem?_append_left (by rw [hf];exact hi)]
 |x::r,j+1,a,i,hi,h=>by
  rw [List.getElem?_cons_succ] at h;rw [flatV_cons,List.getElem?_append_right (by rw [hf,Nat.add_mul];omega),hf];have e:(j+1)*k+i -k=j*k+i:=by rw [Nat.add_mul];omega
  rw [e];exact flatV_get r j a i hi h
theorem flatV_cells {w:World} {b:Nat}:∀(l:List α) (o:Nat),(∀j a,l[j]? =some a->∀i u,(f a)[i]? =some u->w.cell? ⟨b,o+j*k+i,none⟩=some u)->∀j u,(flatV f l)[j]? =some u->w.cell? ⟨b,o+j,none⟩=some u
 | [],o,_,j,u,h=>by simp [flatV] at h
 |x::r,o,h,j,u,hj=>by
  rw [flatV_cons] at hj;by_cases hlt:j<k
  ·rw [List.getElem?_append_left (by rw [hf];exact hlt)] at hj;have:=h 0 x rfl j u hj;rw [Nat.zero_mul,Nat.add_zero] at this;exact this
  ·rw [List.getElem?_append_right (by rw [hf];omega),hf] at hj;have:=flatV_cells r (o+k) (fun j' a hj' i u hu=>by
    have:=h (j'+1) a (by rw [List.getElem?_cons_succ];exact hj') i u hu;rw [Nat.add_mul,Nat.one_mul,Nat.add_comm (j'*k) k,<-Nat.add_assoc] at this;exact this) (j -k) u hj
   have e:o+k+(j -k)=o+j:=(by omega);rw [e] at this;exact this
end
def SrcAt {α:Type} (w:World) (f:α->List Value) (v:Value) (l:List α):Prop:=
 (l= []/\∃p c,v= .slice p 0 c)\/∃b o c,v= .slice (some ⟨b,o,none⟩) l.length c/\∀j u,(flatV f l)[j]? =some u->w.cell? ⟨b,o+j,none⟩=some u
theorem SrcAt.keep {α:Type} {f:α->List Value} {w w':World} {v:Value} {l:List α} (h:SrcAt w f v l) (hb:Below w.heap.size w w'):SrcAt w' f v l:=by
 rcases h with h|⟨b,o,c,e,h⟩
 ·exact .inl h
 ·exact .inr ⟨b,o,c,e,fun j u hj=>zA hb (h j u hj)⟩
theorem run_append_owned_empty {P:Program} {w:World} (base:Nat) (t ty e:TypeId) (i:TypeInfo) (size:Nat) (ht:P.underlying t=some (.slice e)) (hi:P.info? e=some i)
 (v:Value) (n:Nat) (xs:List Value) (hown:w.ownsRow base e size v n xs) (p:Option Addr) (c:Nat):
 (Builtin.append_ #[t,t] ty #[v,.slice p 0 c]).run P w= .ok v w:=by
 cases p with
 |none=>
  rcases hown.2 with ⟨rfl,rfl⟩|⟨g,cap,cur,rfl,_,_,hnc,_⟩
  ·simp [Builtin.append_,run_underlying ht,sizeOf,typeInfo,hi,Builtin.lenOf,Builtin.firstCells]
  ·simp [Builtin.append_,run_underlying ht,sizeOf,typeInfo,hi,Builtin.lenOf,Builtin.firstCells,hnc,storeCells]
 |some q=>
  rcases hown.2 with ⟨rfl,rfl⟩|⟨g,cap,cur,rfl,_,_,hnc,_⟩
  ·simp [Builtin.append_,run_underlying ht,sizeOf,typeInfo,hi,Builtin.lenOf,Builtin.firstCells,loadCells,loadCellsFrom]
  ·simp [Builtin.append_,run_underlying ht,sizeOf,typeInfo,hi,Builtin.lenOf,Builtin.firstCells,hnc,storeCells,loadCells,loadCellsFrom,storeCells]
theorem SrcAt.lit {α:Type} {f:α->List Value} (w:World) (x:α) (t:TypeId) (cs:Array Value) (hcs:cs.toList=f x) (c:Nat):SrcAt (w.alloc (.cells cs t)) f (.slice (some ⟨w.heap.size,0,none⟩) 1 c) [x]:=by
 refine .inr ⟨w.heap.size,0,c,rfl,fun j u hj=>?_⟩;rw [flatV_cons,flatV_nil,List.append_nil,<-hcs,Array.getElem?_toList] at hj;rw [Nat.zero_add];exact zJ w cs t j u hj
theorem wp_append_src {P:Program} {α:Type} (f:α->List Value) (k:Nat) (hf:∀a,(f a).length=k)
 {w:World} {o:Oper} {a:Act} {K:Act->World->Prop} {Q:Exit->Act->World->Prop} (s x:Operand) (t:TypeId)
 (ho:o.op= .call { callee:= .builtin .append,args:= #[s,x],argTypes:= #[t,t] })
 (base:Nat) (e:TypeId) (i:TypeInfo) (z:Value) (bytes:Nat) (ht:P.underlying t=some (.slice e)) (hi:P.info? e=some i) (hz:i.zero=some z)
 (hsize:i.size=k) (hby:i.bytes=bytes) (hzs:z.cells.size=k) (hsz:0<k)
 (v v2:Value) (tr news:List α) (hs:a.eval s=v) (hx:a.eval x=v2) (hown:w.ownsRow base e k v tr.length (flatV f tr)) (hsrc:SrcAt w f v2 news) (h1:∀a∈news,∀u∈f a,u.oneCell'=true)
 (h63:tr.length+news.length<=maxLen) (hbytes:(tr.length+news.length)*bytes<=140737488355328) (hbase:base<=w.heap.size)
 (h:∀v' w',w'.ownsRow base e k v' (tr++news).length (flatV f (tr++news))->w.grownBy w' v.ownBlock->K (a.put o.dst v') w'):o.wp P a w K Q:=by
 rcases hsrc with ⟨rfl,p,c,rfl⟩|⟨b,of,c,rfl,hc⟩
 ·have hrun:=run_append_owned_empty (P:=P) (w:=w) base t o.type e i k ht hi v _ _ hown p c;unfold Oper.wp;simp [execOp,ho,resolve,invoke,builtin,hs,hx,hrun,Result.andThen];exact h v w (by rw [List.append_nil];exact hown) (grown_refl w _)
 ·refine wp_append_own w s x t ho base e i z k bytes ht hi hz hsize hby hzs hsz v tr.length (flatV f tr) hs hown ⟨b,of,none⟩ news.length c (flatV f news) hx (flatV_len f k hf news) (fun j u hj=>?_) (fun u hu=>?_) h63 hbytes hbase fun v' w' a1 a2 _=>h v' w' ?_ a2
  ·have e:(⟨b,of,none⟩:Addr).add j=⟨b,of+j,none⟩:=by unfold Addr.add;split<;>simp_all
   rw [e];exact hc j u hj
  ·unfold flatV at hu;obtain⟨x,hx1,hx⟩:=List.mem_flatMap.1 hu;exact h1 x hx1 u hx
  ·rw [kN,flatV_append];exact a1
theorem wpList_append_src {P:Program} {α:Type} (f:α->List Value) (k:Nat) (hf:∀a,(f a).length=k)
 {w:World} {ops:Array Oper} {rest:List Oper} {o:Oper} {a:Act} {Q:Exit->Act->World->Prop} (hgd:o.guard=none) (s x:Operand) (t:TypeId)
 (ho:o.op= .call { callee:= .builtin .append,args:= #[s,x],argTypes:= #[t,t] })
 (base:Nat) (e:TypeId) (i:TypeInfo) (z:Value) (bytes:Nat) (ht:P.underlying t=some (.slice e)) (hi:P.info? e=some i) (hz:i.zero=some z)
 (hsize:i.size=k) (hby:i.bytes=bytes) (hzs:z.cells.size=k) (hsz:0<k)
 (v v2:Value) (tr news:List α) (hs:a.eval s=v) (hx:a.eval x=v2) (hown:w.ownsRow base e k v tr.length (flatV f tr)) (hsrc:SrcAt w f v2 news) (h1:∀a∈news,∀u∈f a,u.oneCell'=true)
 (h63:tr.length+news.length<=maxLen) (hbytes:(tr.length+news.length)*bytes<=140737488355328) (hbase:base<=w.heap.size)
 (h:∀v' w',w'.ownsRow base e k v' (tr++news).length (flatV f (tr++news))->w.grownBy w' v.ownBlock->wpList P ops Q rest (a.put o.dst v') w'):wpList P ops Q (o::rest) a w:=
 wpList_plain hgd fun _ hK=>wp_append_src f k hf s x t ho base e i z bytes ht hi hz hsize hby hzs hsz v v2 tr news hs hx hown hsrc h1 h63 hbytes hbase fun v' w' h2 h3=>hK _ _ (h v' w' h2 h3)
theorem own_empty (w:World) (t:TypeId) (k:Nat):(w.alloc (.cells #[] t)).ownsRow w.heap.size t k (.slice (some ⟨w.heap.size,0,none⟩) 0 0) 0 []:=
 ⟨by simp,.inr ⟨w.heap.size,0,#[],rfl,kL _,(MapKept.heap_alloc w _).1,kL _,by unfold maxLen;omega,by simp,by simp⟩⟩
theorem own_ge {w:World} {base:Nat} {e:TypeId} {size n:Nat} {v:Value} {xs:List Value} (h:w.ownsRow base e size v n xs) {q:Nat} (hq:v.ownBlock=some q):base<=q/\∃cur,w.heap[q]? =some (.cells cur e (0,0)):=by
 rcases h.2 with ⟨rfl,_⟩|⟨g,cap,cur,rfl,hb,hg,_⟩
 ·cases hq
 ·cases hq;exact⟨hb,cur,hg⟩
abbrev CT:=Tr.C × Value × Value
abbrev MT:=Tr.M × Value × Value
def cCells (x:CT):List Value:= [.string x.1.name,.bool x.1.actor,x.2.1,x.2.2]
def mCells (x:MT):List Value:= [.string x.1.name,x.2.1,x.2.2]
theorem cCells_len (x:CT):(cCells x).length=4:=rfl
theorem mCells_len (x:MT):(mCells x).length=3:=rfl
theorem SlStr.one {w:World} {v:Value} {l:List BA} (h:SlStr w v l):v.oneCell'=true:=by
 obtain⟨p,c,rfl,_⟩:=h;rfl
theorem SlS.one {w:World} {v:Value} {l:List Tr.S} (h:SlS w v l):v.oneCell'=true:=by
 obtain⟨p,c,rfl,_⟩:=h.form;rfl
theorem SlM.one {w:World} {v:Value} {l:List Tr.M} (h:SlM w v l):v.oneCell'=true:=by
 obtain⟨p,c,rfl,_⟩:=h;rfl
theorem own_cells {α:Type} {f:α->List Value} {k:Nat} (hf:∀a,(f a).length=k) {w:World} {base:Nat} {t:TypeId} {v:Value} {l:List α} (h:w.ownsRow base t k v l.length (flatV f l)):
 (l= []/\v= .slice none 0 0)\/∃g cap,v= .slice (some ⟨g,0,none⟩) l.length cap/\g<w.heap.size/\l.length<=cap/\cap<=maxLen/\∀j a,l[j]? =some a->∀i u,(f a)[i]? =some u->w.cell? ⟨g,j*k+i,none⟩=some u:=by
 rcases h.2 with ⟨rfl,h0⟩|⟨g,cap,cur,rfl,_,hg,hnc,hcm,hcs,htk⟩
 ·exact .inl ⟨List.eq_nil_of_length_eq_zero h0,rfl⟩
 ·refine .inr ⟨g,cap,rfl,lt_of_block hg,hnc,hcm,fun j a hj i u hu=>?_⟩;have hi:i<k:=by have:=(kJ.1 hu).1;rw [hf] at this;exact this
  have h2:=flatV_get f k hf l j a i hi hj;rw [hu] at h2;have hlt:=(kJ.1 h2).1;rw [flatV_len f k hf] at hlt;rw [<-htk,List.getElem?_take_of_lt hlt] at h2;exact zB8 hg (by rw [<-Array.getElem?_toList];exact h2)
theorem SlC.rows {w:World} {v:Value} {cs:List Tr.C} (h:SlC w v cs):∃l:List CT,l.map Prod.fst=cs/\(∀x∈l,ReadC w x.1 x.2.1 x.2.2)/\SrcAt w cCells v l:=by
 obtain⟨p,c,rfl,hl,hn,hx⟩:=h;by_cases h0:cs= []
 ·subst h0;exact⟨[],rfl,fun x hx=>absurd hx (by simp),.inl ⟨rfl,p,c,rfl⟩⟩
 ·obtain⟨b,o,rfl⟩:∃b o,p=some ⟨b,o,none⟩:=by
   cases cs with
   |nil=>exact absurd rfl h0
   |cons a r=>obtain ⟨_,b,o,_,_,e,_⟩:=hx 0 a rfl;exact⟨b,o,e⟩
  have key:∀j,∃a:Value × Value,∀m,cs[j]? =some m->ReadC w m a.1 a.2/\CellsC w b (o+j*4) m a.1 a.2:=by
   intro j;cases hj:cs[j]? with
   |none=>exact ⟨(.bool false,.bool false),fun m hm=>by cases hm⟩
   |some m=>
    obtain⟨hnm,b',o',x,y,e,_,hc,h1,h2⟩:=hx j m hj;cases e;exact⟨(x,y),fun m' hm=>by cases hm;exact⟨⟨hnm,h1,h2⟩,hc⟩⟩
  let A:Nat->Value × Value:=fun j=>Classical.choose (key j)
  have hA:∀j m,cs[j]? =some m->ReadC w m (A j).1 (A j).2/\CellsC w b (o+j*4) m (A j).1 (A j).2:=fun j=>Classical.choose_spec (key j)
  have hget:∀(j:Nat) (x:CT),(cs.mapIdx fun j m=>((m,A j):CT))[j]? =some x->cs[j]? =some x.1/\x.2=A j:=by
   intro j x hj;rw [List.getElem?_mapIdx,Option.map_eq_some_iff] at hj;obtain⟨m,hm,rfl⟩:=hj;exact⟨hm,rfl⟩
  refine⟨cs.mapIdx fun j m=>(m,A j),?_,fun x hxm=>?_,.inr ⟨b,o,c,by rw [List.length_mapIdx],fun j u hj=>?_⟩⟩
  ·apply List.ext_getElem?
   intro j;rw [List.getElem?_map,List.getElem?_mapIdx,Option.map_map];cases cs[j]? <;>rfl
  ·obtain⟨j,hj,rfl⟩:=List.getElem_of_mem hxm;obtain⟨e1,e2⟩:=hget j _ (kB hj);have:=(hA j _ e1).1;rw [<-e2] at this;exact this
  ·refine flatV_cells cCells 4 cCells_len _ o (fun j a ha i u hu=>?_) j u hj;obtain⟨e1,e2⟩:=hget j a ha;have h4:=(hA j _ e1).2;rw [<-e2] at h4
   match i,hu with
   |0,hu=>cases hu;exact h4.1
   |1,hu=>cases hu;exact h4.2.1
   |2,hu=>cases hu;exact h4.2.2.1
   |3,hu=>cases hu;exact h4.2.2.2
theorem SlM.rows {w:World} {v:Value} {cs:List Tr.M} (h:SlM w v cs):∃l:List MT,l.map Prod.fst=cs/\(∀x∈l,ReadM w x.1 x.2.1 x.2.2)/\SrcAt w mCells v l:=by
 obtain⟨p,c,rfl,hl,hn,hx⟩:=h;by_cases h0:cs= []
 ·subst h0;exact⟨[],rfl,fun x hx=>absurd hx (by simp),.inl ⟨rfl,p,c,rfl⟩⟩
 ·obtain⟨b,o,rfl⟩:∃b o,p=some ⟨b,o,none⟩:=by
   cases cs with
   |nil=>exact absurd rfl h0
   |cons a r=>obtain ⟨_,b,o,_,_,e,_⟩:=hx 0 a rfl;exact⟨b,o,e⟩
  have key:∀j,∃a:Value × Value,∀m,cs[j]? =some m->ReadM w m a.1 a.2/\CellsM w b (o+j*3) m a.1 a.2:=by
   intro j;cases hj:cs[j]? with
   |none=>exact ⟨(.bool false,.bool false),fun m hm=>by cases hm⟩
   |some m=>
    obtain⟨hnm,b',o',x,y,e,_,hc,h1,h2⟩:=hx j m hj;cases e;exact⟨(x,y),fun m' hm=>by cases hm;exact⟨⟨hnm,h1,h2⟩,hc⟩⟩
  let A:Nat->Value × Value:=fun j=>Classical.choose (key j)
  have hA:∀j m,cs[j]? =some m->ReadM w m (A j).1 (A j).2/\CellsM w b (o+j*3) m (A j).1 (A j).2:=fun j=>Classical.choose_spec (key j)
  have hget:∀(j:Nat) (x:MT),(cs.mapIdx fun j m=>((m,A j):MT))[j]? =some x->cs[j]? =some x.1/\x.2=A j:=by
   intro j x hj;rw [List.getElem?_mapIdx,Option.map_eq_some_iff] at hj;obtain⟨m,hm,rfl⟩:=hj;exact⟨hm,rfl⟩
  refine⟨cs.mapIdx fun j m=>(m,A j),?_,fun x hxm=>?_,.inr ⟨b,o,c,by rw [List.length_mapIdx],fun j u hj=>?_⟩⟩
  ·apply List.ext_getElem?
   intro j;rw [List.getElem?_map,List.getElem?_mapIdx,Option.map_map];cases cs[j]? <;>rfl
  ·obtain⟨j,hj,rfl⟩:=List.getElem_of_mem hxm;obtain⟨e1,e2⟩:=hget j _ (kB hj);have:=(hA j _ e1).1;rw [<-e2] at this;exact this
  ·refine flatV_cells mCells 3 mCells_len _ o (fun j a ha i u hu=>?_) j u hj;obtain⟨e1,e2⟩:=hget j a ha;have h4:=(hA j _ e1).2;rw [<-e2] at h4
   match i,hu with
   |0,hu=>cases hu;exact h4.1
   |1,hu=>cases hu;exact h4.2.1
   |2,hu=>cases hu;exact h4.2.2
end
section
open Go.RowKit Go.Maps
def strCellsB (l:List BA):List Value:=l.map Value.string
theorem strInfo2:(prog.info? 9).map (fun i=>(i.zero,i.size,i.bytes))=some (some (.string ⟨#[]⟩),1,16):=by kernel_rfl
def RdI (w:World) (v:Value) (l:List Nat):Prop:=
 ∃p c,v= .slice p l.length c/\l.length<=maxLen/\(l≠ []->l.length<=c/\c<=maxLen)/\∀j n,l[j]? =some n->∃b o,p=some ⟨b,o,none⟩/\b<w.heap.size/\w.cell? ⟨b,o+j,none⟩=some (.int .i64 (n:Nat))
theorem RdI.keep {w w':World} {v:Value} {l:List Nat} (h:RdI w v l) (hb:Below w.heap.size w w'):RdI w' v l:=by
 obtain⟨p,c,e,hl,hn,hx⟩:=h;refine⟨p,c,e,hl,hn,fun j s hj=>?_⟩;obtain⟨b,o,e2,h1,h2⟩:=hx j s hj;exact⟨b,o,e2,kP h1 hb.size,zA hb h2⟩
theorem slStr_own {w:World} {base:Nat} {v:Value} {l:List BA} (h:w.ownsRow base 9 1 v l.length (strCellsB l)) (hs:∀s∈l,s.size<=maxLen):SlStr w v l:=by
 rcases h.2 with ⟨rfl,h0⟩|⟨g,cap,cur,rfl,_,hg,hnc,hcm,hcs,htk⟩
 ·have hnil:l= []:=List.eq_nil_of_length_eq_zero h0;subst hnil;exact⟨_,_,rfl,kO _,fun h=>absurd rfl h,fun j n hj=>by simp at hj⟩
 ·refine⟨_,_,rfl,by omega,fun _=>⟨hnc,hcm⟩,fun j n hj=>⟨hs n (kM hj),g,0,rfl,lt_of_block hg,?_⟩⟩;have hjl:=(kJ.1 hj).1;have h2:(strCellsB l)[j]? =some (.string n):=by unfold strCellsB;rw [List.getElem?_map,hj];rfl
  rw [<-htk,List.getElem?_take_of_lt (by omega)] at h2;rw [Nat.zero_add];exact zB8 hg (by rw [<-Array.getElem?_toList];exact h2)
end
end Go.Proofs.YtcnmfcgmnkncaaaGreatDoor
