/-
  Several texts in one: CoBlock, CoBranch.
-/
import Derived.Test.YtcnmfcgmnkncaaaGreatDoorG12
import Derived.Test.YtcnmfcgmnkncaaaGreatDoorG13
import Derived.Test.YtcnmfcgmnkncaaaGreatDoorG6
namespace Go.Proofs.YtcnmfcgmnkncaaaGreatDoor
namespace Cw
open Go.RowKit Go.Maps Pw
def RS (a:Value) (l:List Tr.S):World→Prop:=fun W=>SlS W a l
theorem rs_mn {a:Value} {l:List Tr.S}:Mn (RS a l):=fun _ _ hi h=>SlS.inc h hi
def BC (B0 gb:Nat) (cs:List Tr.C) (cl:Tr.C) (pv fv mv:Value) (d:Nat):Prop:=∀(l:List Tr.S) (g:Co.G) (cv nv vv:Value) (w:World) (a:Value) (n:Nat),Tr.S.deep.deeps l≤d→Tr.validSs l=true→GS B0 gb cs cl pv fv mv g cv nv vv w→B0≤w.heap.size→(Co.Bd n g∧n+Co.wSs l≤900000)→SlS (hide (upL 0 (owl gb cv nv vv)) w) a l→
    Calls Tryz.prog 56 #[.pointer (some ⟨gb,0,none⟩),a] w (GQ B0 gb cs cl pv fv mv (Co.gB cs cl.fields g l) cv nv vv w)
def SC (B0 gb:Nat) (cs:List Tr.C) (cl:Tr.C) (pv fv mv:Value) (d:Nat):Prop:=∀(s:Tr.S) (g:Co.G) (cv nv vv:Value) (w:World) (x y z:Value) (n:Nat),s.deep≤d→Tr.validS s=true→BdS s→GS B0 gb cs cl pv fv mv g cv nv vv w→B0≤w.heap.size→(Co.Bd n g∧n+Co.wS s≤900000)→SlE (hide (upL 0 (owl gb cv nv vv)) w) x s.exprs→SlS (hide (upL 0 (owl gb cv nv vv)) w) y s.body→SlS (hide (upL 0 (owl gb cv nv vv)) w) z s.els→
    Calls Tryz.prog 90 #[.pointer (some ⟨gb,0,none⟩),stmtV s x y z] w (GQ B0 gb cs cl pv fv mv (Co.gS cs cl.fields g s) cv nv vv w)
section
variable {B0 gb:Nat} {cs:List Tr.C} {cl:Tr.C} {pv fv mv:Value} {g:Co.G} {cv nv vv:Value} {w W:World} {o0:List Nat} {bs:List Bk} {os:List (World→Prop)}
theorem Mg.sightS (h:Mg B0 gb cs cl pv fv mv w o0 g cv nv vv bs os W) (i:Nat) {a:Value} {l:List Tr.S} (hi:os[i]? =some (RS a l)):SlS (hide (upL 0 (owl gb cv nv vv)) W) a l:=
 SlS.inc (h.o i hi) (hid_mono (Nat.le_refl _) (fun _ hb=>List.mem_append.2 (.inl hb)))
theorem Mg.underS (h:Mg B0 gb cs cl pv fv mv w o0 g cv nv vv bs os W) (i:Nat) {p:Option Addr} {N c:Nat} {l:List Tr.S} (hi:os[i]? =some (RS (.slice p N c) l)) {j:Nat} {s:Tr.S} (hs:l[j]? =some s):
 ∃b oo px nx cx py ny cy pz nz cz,p=some ⟨b,oo,none⟩∧b<W.heap.size∧CellsS W b (oo+j*5) s (.slice px nx cx) (.slice py ny cy) (.slice pz nz cz)∧BdS s∧Hid (Mg B0 gb cs cl pv fv mv w o0 g cv nv vv bs (RE (.slice px nx cx) s.exprs::RS (.slice py ny cy) s.body::RS (.slice pz nz cz) s.els::os) W):=by
 obtain⟨b,oo,x,y,z,hp,hb,hc,hbd,h1,h2,h3⟩:=SlS.get (h.o i hi) hs
 obtain⟨px,cx,rfl,_⟩:=h1.form
 obtain⟨py,cy,rfl,_⟩:=h2.form
 obtain⟨pz,cz,rfl,_⟩:=h3.form
 rw [hide_size] at hb
 exact⟨b,oo,_,_,_,_,_,_,_,_,_,hp,hb,⟨(hide_cell hc.1).2,(hide_cell hc.2.1).2,(hide_cell hc.2.2.1).2,(hide_cell hc.2.2.2.1).2,(hide_cell hc.2.2.2.2).2⟩,hbd,Lib.hid (((h.get rs_mn h3).get rs_mn h2).get re_mn h1)⟩
theorem Mg.adopt (h:Mg B0 gb cs cl pv fv mv w o0 g cv nv vv bs os W) {W':World} {B:Nat} {cs':Array Value} {t:TypeId} (hm:My W [(B,cs',t)] [] W') {r:World→Prop} (hr:Mn r) (hs:r (hide (upL W.heap.size [B]) W')):Mg B0 gb cs cl pv fv mv w o0 g cv nv vv ((B,cs',t)::bs) (r::os) W':=by
 have hb:=My.fin hm
 have h1:=Mz.callB (nb:= [(B,cs',t)]) h (Gr.below hb (owl gb cv nv vv)) (fun b hb'=>⟨Nat.lt_of_lt_of_le (h.ol b hb').1 hb.size,(h.ol b hb').2⟩) (h.pk hb.size (fun b hlt _=>hb.block b hlt) h.q) h.pk (fun x hx=>by
  rw [List.mem_singleton.1 hx]
  have h2:=hm.lt 0 rfl
  exact⟨hm.b 0 rfl,h2.1,fun h3=>by have:=(h.ol B h3).1;omega⟩) (by simp)
 refine Mz.get h1 hr (hr _ _ (up_mono (fun q _ hq=>?_)) hs)
 rcases hq with hq|hq
 ·omega
 ·rcases List.mem_append.1 hq with hq|hq
  ·exact .inl (h.ol q hq).1
  ·rw [List.map_append] at hq
   rcases List.mem_append.1 hq with hq|hq
   ·exact .inr hq
   ·exact .inl (h.lts hq).2.1
theorem GS.takeV (h:GS B0 gb cs cl pv fv mv g cv nv vv W) {p:Option Addr} {m c k:Nat} (hvv:vv= .slice p m c) (hk:k≤g.vars.length):
 GS B0 gb cs cl pv fv mv { g with vars:=g.vars.take k } cv nv (.slice p k c) (W.setCell ⟨gb,7,none⟩ (.slice p k c))∧Gr W (owl gb cv nv vv) (W.setCell ⟨gb,7,none⟩ (.slice p k c)) (owl gb cv nv (.slice p k c)):=by
 have how:(Value.slice p k c).ownBlock=vv.ownBlock:=by
  rw [hvv]
  rcases p with _|⟨b,o,sp⟩<;>rfl
 have hol:owl gb cv nv (.slice p k c)=owl gb cv nv vv:=by unfold owl ownL;rw [how]
 rw [hol]
 have hg:=gr_set W gb 7 (.slice p k c)
 obtain⟨⟨d1,d2,d3⟩,d4,d5⟩:=nd_owl.1 h.nd
 have ho:∀q,q≠gb→q<W.heap.size→(W.setCell ⟨gb,7,none⟩ (.slice p k c)).heap[q]? =W.heap[q]?:=fun q hq hlt=>hg.block q hlt (ne_sm hq)
 have hkk:(g.vars.take k).length=k:=by rw [List.length_take];omega
 refine⟨⟨?_,?_,?_,?_,by rw [hol];exact h.nd,h.ge,h.ns,fun x hx=>h.vs x (List.mem_of_mem_take hx),h.pc.inc ?_,h.fc.inc ?_⟩,Gr.by hg (mem_owl.2 (.inl rfl))⟩
 ·exact Pw.heap_set (j:=7) _ h.blk
 ·exact own_kept h.code (fun q hq=>ho q (fun e=>d1 (e▸hq)) (own_lt h.code hq).2)
 ·exact own_kept h.names (fun q hq=>ho q (fun e=>d2 (e▸hq)) (own_lt h.names hq).2)
 ·have h1:=own_kept h.vars (fun q hq=>ho q (fun e=>d3 (e▸hq)) (own_lt h.vars hq).2)
  rw [hkk]
  refine⟨by rw [flatV_len vCells 2 vCells_len,hkk],?_⟩
  rcases h1.2 with ⟨e,e2⟩|⟨b,cap,cur,e,hb,hblk,hn,hmx,hcs,ht⟩
  ·rw [hvv] at e
   injection e with e3 e4 e5
   have hz:k=0:=by
    omega
   subst hz e3 e5
   exact .inl ⟨rfl,rfl⟩
  ·rw [hvv] at e
   injection e with e3 e4 e5
   subst e3 e5
   refine .inr ⟨b,c,cur,rfl,hb,hblk,by omega,hmx,hcs,?_⟩
   have h2:flatV vCells (g.vars.take k)=(flatV vCells g.vars).take (k*2):=by
    have h3:flatV vCells g.vars=flatV vCells (g.vars.take k)++flatV vCells (g.vars.drop k):=by rw [←flatV_append,List.take_append_drop]
    rw [h3,List.take_left' (by rw [flatV_len vCells 2 vCells_len,hkk])]
   show _=flatV vCells (g.vars.take k)
   rw [h2,←ht,List.take_take]
   congr 1
   omega
 ·exact lo_inc hg.size (fun b hb h0=>ho b (by have:=h.ge;omega) hb)
 ·exact lo_inc hg.size (fun b hb h0=>ho b (by have:=h.ge;omega) hb)
end
theorem gEs_vars (cs:List Tr.C) (fs:List ByteArray):∀(l:List Tr.E) (g:Co.G),(Co.gEs cs fs g l).vars=g.vars
 | [],g=>by rw [Co.gEs]
 |e::r,g=>by rw [Co.gEs,gEs_vars cs fs r,Co.gE_vars]
theorem gSs_app (cs:List Tr.C) (fs:List ByteArray):∀(l:List Tr.S) (g:Co.G) (x:Tr.S),Co.gSs cs fs g (l++ [x])=Co.gS cs fs (Co.gSs cs fs g l) x
 | [],g,x=>by rw [List.nil_append,Co.gSs,Co.gSs,Co.gSs]
 |y::r,g,x=>by rw [List.cons_append,Co.gSs,Co.gSs,gSs_app cs fs r]
theorem name_vars (g:Co.G) (s:ByteArray):(Co.name g s).1.vars=g.vars:=by
 unfold Co.name
 split<;>rfl
theorem gS_vars (cs:List Tr.C) (fs:List ByteArray) (g:Co.G) (s:Tr.S):∃t,(Co.gS cs fs g s).vars=g.vars++t:=by
 obtain⟨k,nm,x,b,l⟩:=s
 rw [Co.gS]
 dsimp only
 have hz:∀g':Co.G,g'.vars=g.vars→∃t,g'.vars=g.vars++t:=fun g' e=>⟨[],by rw [e,List.append_nil]⟩
 have hem:∀(g':Co.G) (o a b p q:Int),(Co.emit g' o a b p q).vars=g'.vars:=fun _ _ _ _ _ _=>rfl
 have hpa:∀(g':Co.G) (i:Nat),(Co.patch g' i).vars=g'.vars:=fun _ _=>rfl
 have hsh:∀(g0 g':Co.G),(Co.shut g0 g').vars=g0.vars:=fun _ _=>rfl
 split
 ·exact⟨[(nm,_)],by show(Co.gEs cs fs g ((Co.folds x).take 1)).vars++_=_;rw [gEs_vars]⟩
 ·split
  ·exact hz _ (by rw [hem,gEs_vars])
  ·split
   ·split
    ·exact hz _ (by rw [hem,gEs_vars])
    ·exact hz _ (by rw [hem,name_vars,gEs_vars])
   ·split
    ·split
     ·exact hz _ (by rw [hpa,hsh,hem,gEs_vars])
     ·exact hz _ (by rw [hpa,hsh,hsh,hem,gEs_vars])
    ·split
     ·exact hz _ (by rw [hpa,hem,hsh,hem,gEs_vars])
     ·split
      ·exact hz _ (by rw [hem];show(Co.name (Co.gEs cs fs g (Co.folds x)) nm).1.vars=_;rw [name_vars,gEs_vars])
      ·split
       ·exact hz _ (by rw [hem,gEs_vars])
       ·split
        ·exact hz _ (by rw [hem,gEs_vars])
        ·split
         ·exact hz _ (by rw [hem,name_vars,gEs_vars])
         ·exact hz _ (by rw [hem])
theorem gSs_vars (cs:List Tr.C) (fs:List ByteArray):∀(l:List Tr.S) (g:Co.G),∃t,(Co.gSs cs fs g l).vars=g.vars++t
 | [],g=>⟨[],by rw [Co.gSs,List.append_nil]⟩
 |s::r,g=>by
  rw [Co.gSs]
  obtain⟨t1,h1⟩:=gS_vars cs fs g s
  obtain⟨t2,h2⟩:=gSs_vars cs fs r (Co.gS cs fs g s)
  exact⟨t1++t2,by rw [h2,h1,List.append_assoc]⟩
theorem gB_vars (cs:List Tr.C) (fs:List ByteArray) (g:Co.G) (l:List Tr.S):Co.gB cs fs g l= { Co.gSs cs fs g l with vars:=(Co.gSs cs fs g l).vars.take g.vars.length }:=by
 obtain⟨t,h⟩:=gSs_vars cs fs l g
 unfold Co.gB Co.shut
 rw [h,List.take_left' rfl]
theorem wSs_upto:∀ {l:List Tr.S} {j:Nat} {x:Tr.S},l[j]? =some x→Co.wSs (l.take j)+Co.wS x≤Co.wSs l
 | [],j,x,h=>by simp at h
 |y::r,0,x,h=>by cases h;rw [List.take_zero,Co.wSs,Co.wSs];omega
 |y::r,j+1,x,h=>by
  rw [List.take_succ_cons,Co.wSs,Co.wSs]
  have:=wSs_upto (l:=r) (j:=j) (x:=x) (by simpa using h)
  omega
theorem wS_pos (s:Tr.S):32≤Co.wS s:=by cases s;rw [Co.wS];omega
theorem wSs_len:∀l:List Tr.S,l.length≤Co.wSs l
 | []=>Nat.zero_le _
 |e::r=>by rw [Co.wSs,List.length_cons];have:=wSs_len r;have:=wS_pos e;omega
theorem validSs_get:∀ {l:List Tr.S} {j:Nat} {e:Tr.S},Tr.validSs l=true→l[j]? =some e→Tr.validS e=true
 | [],j,e,_,h=>by simp at h
 |x::r,0,e,hv,h=>by cases h;rw [Tr.validSs,Bool.and_eq_true] at hv;exact hv.1
 |x::r,j+1,e,hv,h=>by rw [Tr.validSs,Bool.and_eq_true] at hv;exact validSs_get (l:=r) (j:=j) hv.2 (by simpa using h)
set_option maxRecDepth 100000 in
set_option maxHeartbeats 16000000 in
theorem block_of {B0 gb:Nat} {cs:List Tr.C} {cl:Tr.C} {pv fv mv:Value} {d:Nat} (hE:SC B0 gb cs cl pv fv mv d):BC B0 gb cs cl pv fv mv d:=by
 intro l g cv nv vv w a n hd hv h hB hbd hS
 obtain⟨p,c,rfl,_⟩:=hS.form
 obtain⟨N,hN⟩:∃q,l.length=q:=⟨_,rfl⟩
 have hll:=wSs_len l
 rw [hN] at hS hll ⊢
 obtain⟨X,hX⟩:∃q,Co.gB cs cl.fields g l=q:=⟨_,rfl⟩
 rw [hX]
 rw [gB_vars] at hX
 have HX:=Lib.hid hX
 have HN:=Lib.hid hN
 have HBD:=Lib.hid hbd
 have HEC:=Lib.hid hE
 have HD:Hid (∀(j:Nat) (x:Tr.S),l[j]? =some x→x.deep≤d):=Lib.hid (fun j x hx=>Nat.le_trans (Tr.S.deeps_get l j x hx) hd)
 have HV:=Lib.hid hv
 obtain⟨pq,cq,hvv⟩:=own_form h.vars
 have HVV:=Lib.hid hvv
 obtain⟨VN,hVN⟩:∃q,g.vars.length=q:=⟨_,rfl⟩
 have HVN:=Lib.hid hVN
 rw [hVN] at HVV
 have C0:=Lib.hid (Mg.start (os:= [RS (.slice p N c) l]) h hB (fun r hr=>by rw [List.mem_singleton.1 hr];exact⟨rs_mn,hS⟩))
 have gl:=lt_of_block C0.out.q.blk
 have g7:=gcell C0.out.q (j:=7) (u:=vv) rfl
 rw [HVV.out] at g7
 have hnb:=HBD.out.2
 clear hX hN h hB hbd hE hd hv hS hvv hVN
 go_enter Tryz.func56,Tryz.ntmps56
 go_wp2_with fail
 clear g7 gl
 go_loopg [14] N (fun gg s14 wr=>∃j:Nat,s14= .int .i64 j∧j≤N∧gg=N -j∧∃cv' nv' vv',Hid (Mg B0 gb cs cl pv fv mv w (owl gb cv nv vv) (Co.gSs cs cl.fields g (l.take j)) cv' nv' vv' [] [RS (.slice p N c) l] wr))
 case atStart=>exact ⟨0,rfl,Nat.zero_le _,rfl,cv,nv,vv,Lib.hid (by rw [List.take_zero,Co.gSs];exact C0.out)⟩
 case round=>
  clear C0
  obtain⟨j,rfl,hj,rfl,cv',nv',vv',CR⟩:=hrel
  by_cases hlt:j<N
  ·obtain⟨x,hx⟩:∃x,l[j]? =some x:=⟨_,List.getElem?_eq_getElem (by rw [HN.out];exact hlt)⟩
   obtain⟨b,oo,px,nx,cx,py,ny,cy,pz,nz,cz,rfl,hblt,⟨x0,x1,x2,x3,x4⟩,hbx,CU⟩:=Mg.underS CR.out 0 rfl hx
   have HTK:Hid (Co.gSs cs cl.fields g (l.take (j+1))=Co.gS cs cl.fields (Co.gSs cs cl.fields g (l.take j)) x):=Lib.hid (by rw [take_next hx,gSs_app])
   have HW9:=Lib.hid (wSs_upto hx)
   have HBX:=Lib.hid hbx
   have HDX:=Lib.hid (HD.out j x hx)
   have HVX:=Lib.hid (validSs_get HV.out hx)
   have b3j:(j:Int)<(N:Int):=by omega
   have b0j:(0:Int)≤(j:Int):=by omega
   obtain⟨w4,HW4⟩:∃q,Hid (q=wr.alloc (.cells #[.int .i64 x.kind,.string x.name,.slice px nx cx,.slice py ny cy,.slice pz nz cz] 71)):=⟨_,Lib.hid rfl⟩
   have hb4:Below wr.heap.size wr w4:=by rw [HW4.out];exact below_box _ _
   have C4:=Lib.hid (CU.out.below hb4)
   clear hx hbx CU CR hb4
   go_wp2_with fail
   rw [←HW4.out]
   clear HW4 x0 x1 x2 x3 x4 hblt
   have hk9:=HEC.out x _ _ _ _ w4 (.slice px nx cx) (.slice py ny cy) (.slice pz nz cz) (n+Co.wSs (l.take j)) HDX.out HVX.out HBX.out C4.out.q (Nat.le_trans C4.out.hB C4.out.le) ⟨Co.gSs_bd cs cl.fields n g (l.take j) HBD.out.1,by have h8:=HW9.out;have h7:=HBD.out.2;omega⟩ (Mg.sight C4.out 0 rfl) (Mg.sightS C4.out 1 rfl) (Mg.sightS C4.out 2 rfl)
   unfold stmtV at hk9
   refine hk9.mono ?_
   clear hk9
   rintro e w5 hp5
   obtain⟨rfl,cv5,nv5,vv5,C5⟩:=Mg.done C4.out hp5
   have C6:=Lib.hid (C5.out.few (os':= [RS (.slice (some ⟨b,oo,none⟩) N c) l]) (fun r hr=>by rw [List.mem_singleton.1 hr];simp))
   rw [←HTK.out] at C6
   clear hp5 C4 C5
   go_wp2_with fail
   go_roundg (N -(j+1))
   case measure=>omega
   case rel=>exact ⟨j+1,by go_num,by omega,rfl,cv5,nv5,vv5,C6⟩
  ·obtain rfl:j=N:=by omega
   rw [List.take_of_length_le (by rw [HN.out];exact Nat.le_refl _)] at CR
   obtain⟨pe,ce,hve⟩:=own_form CR.out.q.vars
   have hvl:VN≤(Co.gSs cs cl.fields g l).vars.length:=by
    obtain⟨t,ht⟩:=gSs_vars cs cl.fields l g
    rw [ht,List.length_append,HVN.out]
    omega
   obtain⟨h1,h2⟩:=GS.takeV CR.out.q hve hvl
   have C7:=Lib.hid (Mg.move CR.out h1 h2)
   have hcap:VN≤ce:=by
    rcases CR.out.q.vars.2 with ⟨e,e2⟩|⟨b,cap,cur,e,hb,hblk,hn,hmx,hcs,ht⟩
    ·rw [hve] at e
     injection e with e1 e2 e3
     omega
    ·rw [hve] at e
     injection e with e1 e2 e3
     omega
   have gl:=lt_of_block CR.out.q.blk
   have g7:=gcell CR.out.q (j:=7) (u:=vv') rfl
   have gf7:=gfree CR.out.q 7
   obtain⟨VE,hVE⟩:∃q,(Co.gSs cs cl.fields g l).vars.length=q:=⟨_,rfl⟩
   rw [hve,hVE] at g7
   rw [hVE] at hvl
   have bv0:(0:Int)≤(VN:Int):=by omega
   have bv1:(VN:Int)≤(ce:Int):=by omega
   clear h1 h2 hve hVE
   rw [HVN.out] at HX
   go_wp2_with fail
   go_end0
   have h9:=Mg.fin C7.out
   rw [HX.out] at h9
   exact h9
end Cw
end Go.Proofs.YtcnmfcgmnkncaaaGreatDoor
namespace Go.Proofs.YtcnmfcgmnkncaaaGreatDoor
namespace Cw
open Go.RowKit Go.Maps Pw
theorem name_code (g:Co.G) (s:ByteArray):(Co.name g s).1.code=g.code:=by
 unfold Co.name
 split<;>rfl
theorem gEs_len (cs:List Tr.C) (fs:List ByteArray):∀(l:List Tr.E) (g:Co.G),g.code.length≤(Co.gEs cs fs g l).code.length
 | [],g=>by rw [Co.gEs];exact Nat.le_refl _
 |e::r,g=>by rw [Co.gEs];exact Nat.le_trans (Co.gE_keep cs fs g e).len (gEs_len cs fs r _)
mutual
theorem gS_len (cs:List Tr.C) (fs:List ByteArray):∀(g:Co.G) (s:Tr.S),g.code.length≤(Co.gS cs fs g s).code.length
 |g,.mk k nm x b l=>by
  have t1:=gEs_len cs fs ((Co.folds x).take 1) g
  have d1:=gEs_len cs fs ((Co.folds x).drop 1) g
  have a1:=gEs_len cs fs (Co.folds x) g
  have hem:∀ {g0 g':Co.G} (o a b p q:Int),g0.code.length≤g'.code.length→g0.code.length≤(Co.emit g' o a b p q).code.length:=fun o a b p q h=>by rw [Co.emit_len];omega
  have hpa:∀ {g0 g':Co.G} (i:Nat),g0.code.length≤g'.code.length→g0.code.length≤(Co.patch g' i).code.length:=fun i h=>by rw [Co.patch_len];exact h
  have hsh:∀ {g0 g1 g':Co.G},g0.code.length≤g'.code.length→g0.code.length≤(Co.shut g1 g').code.length:=fun h=>h
  have hnm:∀ {g0 g':Co.G} (s:ByteArray),g0.code.length≤g'.code.length→g0.code.length≤(Co.name g' s).1.code.length:=fun s h=>by rw [name_code];exact h
  rw [Co.gS]
  dsimp only
  split
  ·exact hem (g':=Co.gEs cs fs g ((Co.folds x).take 1)) 4 g.locals 0 1 0 t1
  ·split
   ·exact hem _ _ _ _ _ t1
   ·split
    ·split
     ·exact hem _ _ _ _ _ d1
     ·exact hem _ _ _ _ _ (hnm _ a1)
    ·have h1:=hem 19 0 0 1 0 t1
     have h2:=Nat.le_trans h1 (gSs_len cs fs _ b)
     split
     ·split
      ·exact hpa _ (hsh h2)
      ·refine hpa _ (hsh (Nat.le_trans ?_ (gSs_len cs fs _ l)))
       exact hpa _ (hem _ _ _ _ _ (hsh h2))
     ·split
      ·exact hpa _ (hem _ _ _ _ _ (hsh h2))
      ·split
       ·exact hem (g':= { (Co.name (Co.gEs cs fs g (Co.folds x)) nm).1 with large:=(Co.name (Co.gEs cs fs g (Co.folds x)) nm).1.large||decide (8<(Co.folds x).length -1) }) _ _ _ _ _ (hnm nm a1)
       ·split
        ·exact hem _ _ _ _ _ t1
        ·split
         ·exact hem _ _ _ _ _ a1
         ·split
          ·exact hem _ _ _ _ _ (hnm _ a1)
          ·exact hem _ _ _ _ _ (Nat.le_refl _)
theorem gSs_len (cs:List Tr.C) (fs:List ByteArray):∀(g:Co.G) (l:List Tr.S),g.code.length≤(Co.gSs cs fs g l).code.length
 |g,[]=>by rw [Co.gSs];exact Nat.le_refl _
 |g,s::r=>by
  rw [Co.gSs]
  exact Nat.le_trans (gS_len cs fs g s) (gSs_len cs fs _ r)
end
theorem gB_len (cs:List Tr.C) (fs:List ByteArray) (g:Co.G) (l:List Tr.S):g.code.length≤(Co.gB cs fs g l).code.length:=gSs_len cs fs g l
set_option maxRecDepth 100000 in
set_option maxHeartbeats 16000000 in
theorem branch_any {B0 gb:Nat} {cs:List Tr.C} {cl:Tr.C} {pv fv mv:Value} {g:Co.G} {cv nv vv:Value} {w:World} {d:Nat} (hC:BC B0 gb cs cl pv fv mv d) (s:Tr.S) (hdb:Tr.S.deep.deeps s.body≤d) (hdl:Tr.S.deep.deeps s.els≤d) (hvb:Tr.validSs s.body=true) (hvl:Tr.validSs s.els=true) (h:GS B0 gb cs cl pv fv mv g cv nv vv w) (hB:B0≤w.heap.size) {n:Nat} (hbd:Co.Bd n g∧n+Co.wSs s.body+Co.wSs s.els+9≤900000) {x y z:Value} (hx:∃p N c,x= .slice p N c) (hy:SlS (hide (upL 0 (owl gb cv nv vv)) w) y s.body) (hz:SlS (hide (upL 0 (owl gb cv nv vv)) w) z s.els):
 Calls Tryz.prog 136 #[.pointer (some ⟨gb,0,none⟩),stmtV s x y z] w (GQ B0 gb cs cl pv fv mv (let h:=Co.emit g 19 0 0 1 0;let g2:=Co.gB cs cl.fields h s.body;if s.els.isEmpty then Co.patch g2 g.code.length else Co.patch (Co.gB cs cl.fields (Co.patch (Co.emit g2 18 0 0 0 0) g.code.length) s.els) g2.code.length) cv nv vv w):=by
 obtain⟨X,hX⟩:∃q,(let h:=Co.emit g 19 0 0 1 0;let g2:=Co.gB cs cl.fields h s.body;if s.els.isEmpty then Co.patch g2 g.code.length else Co.patch (Co.gB cs cl.fields (Co.patch (Co.emit g2 18 0 0 0 0) g.code.length) s.els) g2.code.length)=q:=⟨_,rfl⟩
 rw [hX]
 obtain⟨k,nm,x0,b,l⟩:=s
 change (if l.isEmpty then Co.patch (Co.gB cs cl.fields (Co.emit g 19 0 0 1 0) b) g.code.length else Co.patch (Co.gB cs cl.fields (Co.patch (Co.emit (Co.gB cs cl.fields (Co.emit g 19 0 0 1 0) b) 18 0 0 0 0) g.code.length) l) (Co.gB cs cl.fields (Co.emit g 19 0 0 1 0) b).code.length)=X at hX
 have hy':SlS (hide (upL 0 (owl gb cv nv vv)) w) y b:=hy
 have hz':SlS (hide (upL 0 (owl gb cv nv vv)) w) z l:=hz
 obtain⟨px,NX,cx,rfl⟩:=hx
 obtain⟨py,cy,rfl,_⟩:=hy'.form
 obtain⟨pz,cz,rfl,_⟩:=hz'.form
 obtain⟨NB,hNB⟩:∃q,b.length=q:=⟨_,rfl⟩
 obtain⟨NL,hNL⟩:∃q,l.length=q:=⟨_,rfl⟩
 rw [hNB] at hy'
 rw [hNL] at hz'
 have HBD:Hid (Co.Bd n g∧n≤900000):=Lib.hid ⟨hbd.1,by have:=hbd.2;omega⟩
 have hbd2:n+Co.wSs b+Co.wSs l+9≤900000:=hbd.2
 have HT:=Lib.hid hbd2
 have HBC:=Lib.hid hC
 have hd1:Tr.S.deep.deeps b≤d:=hdb
 have hd2:Tr.S.deep.deeps l≤d:=hdl
 have hv1:Tr.validSs b=true:=hvb
 have hv2:Tr.validSs l=true:=hvl
 have HD1:=Lib.hid hd1
 have HD2:=Lib.hid hd2
 have HV1:=Lib.hid hv1
 have HV2:=Lib.hid hv2
 have HNL:=Lib.hid hNL
 have C0:=Lib.hid (Mg.start (os:= [RS (.slice py NB cy) b,RS (.slice pz NL cz) l]) h hB (fun r hr=>by
  rcases List.mem_cons.1 hr with rfl|hr
  ·exact⟨rs_mn,hy'⟩
  rw [List.mem_singleton.1 hr]
  exact⟨rs_mn,hz'⟩))
 have HX:=Lib.hid hX
 unfold stmtV
 simp only [Tr.S.kind,Tr.S.name]
 rw [hNB,hNL]
 clear hX h hB hbd hbd2 hy hz hy' hz' hC hdb hdl hvb hvl hd1 hd2 hv1 hv2 hNB hNL
 obtain⟨S,w1,HX1,HW1,hx1,C1⟩:=C0.out.boxE #[.int .i64 k,.string nm,.slice px NX cx,.slice py NB cy,.slice pz NL cz] 71
 go_enter Tryz.func136,Tryz.ntmps136
 go_upto_region 1 with fail
 rw [←HX1.out,←HW1.out]
 clear HX1 HW1 C0
 go_wp2_with fail
 refine(jump_any C1.out.q (Nat.le_trans C1.out.hB C1.out.le) HBD.out (19) (1) ⟨by omega,by omega⟩).mono ?_
 rintro e w2 hp2
 obtain⟨X1,A1,cv2,nv2,vv2,rfl,C2⟩:=Mg.jumped C1.out hp2
 clear hp2 C1
 unfold labV
 have HB3:Hid (Co.Bd (n+1+1) (Co.emit (g) (19) 0 0 (1) 0)∧n+1+1≤900000):=Lib.hid ⟨HBD.out.1.em (m:=1) ⟨by omega,by omega⟩ ⟨by omega,by omega⟩,by have h9:=HT.out;omega⟩
 clear HBD
 have q2:=cells5 (C2.out.b 2 rfl)
 go_wp2_with fail
 clear q2
 refine(HBC.out b _ _ _ _ w2 (.slice py NB cy) _ HD1.out HV1.out C2.out.q (Nat.le_trans C2.out.hB C2.out.le) ⟨HB3.out.1,by have:=HT.out;omega⟩ (Mg.sightS C2.out 0 rfl)).mono ?_
 rintro e w4 hp4
 obtain⟨rfl,cv4,nv4,vv4,C4⟩:=Mg.done C2.out hp4
 clear hp4 C2
 have HB5:Hid (Co.Bd (n+1+1+Co.wSs b) (Co.gB cs cl.fields (Co.emit (g) (19) 0 0 (1) 0) b)∧n+1+1+Co.wSs b≤900000):=Lib.hid ⟨(Co.gSs_bd cs cl.fields _ _ b HB3.out.1).shut (HB3.out.1.mono (by omega)),by have h9:=HT.out;omega⟩
 clear HB3
 have HK2:Hid ((Co.emit g 19 0 0 1 0).code.length≤(Co.gB cs cl.fields (Co.emit g 19 0 0 1 0) b).code.length):=Lib.hid (gB_len cs cl.fields _ b)
 by_cases h0:NL=0
 ·obtain rfl:l= []:=List.length_eq_zero_iff.1 (by rw [HNL.out];exact h0)
  subst h0
  have q2:=cells5 (C4.out.b 2 rfl)
  go_wp2_with fail
  clear q2
  refine(patch_any C4.out.q HB5.out (k:=g.code.length) (by have h9:=HK2.out;rw [Co.emit_len g] at h9;omega) (C4.out.b 1 rfl) (C4.out.b 0 rfl) (C4.out.lts (q:=X1) (by simp)).2.2 (C4.out.lts (q:=A1) (by simp)).2.2).mono ?_
  rintro e w6 hp6
  obtain⟨rfl,cv6,nv6,vv6,C6⟩:=Mg.done C4.out hp6
  clear hp6 C4
  have HB7:Hid (Co.Bd (n+1+1+Co.wSs b) (Co.patch (Co.gB cs cl.fields (Co.emit (g) (19) 0 0 (1) 0) b) (g.code.length))∧n+1+1+Co.wSs b≤900000):=Lib.hid ⟨HB5.out.1.patch _,by have h9:=HT.out;omega⟩
  clear HB5
  go_wp2_with fail
  have hx9:=HX.out
  rw [if_pos (by rfl)] at hx9
  have HX:=Lib.hid hx9
  clear hx9
  go_end0
  have h9:=Mg.fin C6.out
  rw [HX.out] at h9
  exact h9
 ·have hlb:l.isEmpty=false:=by
   cases l with
   |nil=>exact absurd HNL.out.symm h0
   |cons _ _=>rfl
  rw [hlb,if_neg (by decide)] at HX
  have hn0:((NL:Int) == 0)=false:=beq_eq_false_iff_ne.2 (by omega)
  clear hlb
  have q2:=cells5 (C4.out.b 2 rfl)
  go_wp2_with fail
  clear q2
  refine(jump_any C4.out.q (Nat.le_trans C4.out.hB C4.out.le) HB5.out (18) (0) ⟨by omega,by omega⟩).mono ?_
  rintro e w8 hp8
  obtain⟨X2,A2,cv8,nv8,vv8,rfl,C8⟩:=Mg.jumped C4.out hp8
  clear hp8 C4
  unfold labV
  have HB9:Hid (Co.Bd (n+1+1+Co.wSs b+0+1) (Co.emit (Co.gB cs cl.fields (Co.emit (g) (19) 0 0 (1) 0) b) (18) 0 0 (0) 0)∧n+1+1+Co.wSs b+0+1≤900000):=Lib.hid ⟨HB5.out.1.em (m:=0) ⟨by omega,by omega⟩ ⟨by omega,by omega⟩,by have h9:=HT.out;omega⟩
  clear HB5
  go_wp2_with fail
  refine(patch_any C8.out.q HB9.out (k:=g.code.length) (by have h9:=HK2.out;rw [Co.emit_len g] at h9;rw [Co.emit_len (Co.gB cs cl.fields (Co.emit g 19 0 0 1 0) b)];omega) (C8.out.b 3 rfl) (C8.out.b 2 rfl) (C8.out.lts (q:=X1) (by simp)).2.2 (C8.out.lts (q:=A1) (by simp)).2.2).mono ?_
  rintro e w10 hp10
  obtain⟨rfl,cv10,nv10,vv10,C10⟩:=Mg.done C8.out hp10
  clear hp10 C8
  have HB11:Hid (Co.Bd (n+1+1+Co.wSs b+0+1) (Co.patch (Co.emit (Co.gB cs cl.fields (Co.emit (g) (19) 0 0 (1) 0) b) (18) 0 0 (0) 0) (g.code.length))∧n+1+1+Co.wSs b+0+1≤900000):=Lib.hid ⟨HB9.out.1.patch _,by have h9:=HT.out;omega⟩
  clear HB9
  have q4:=cells5 (C10.out.b 4 rfl)
  go_wp2_with fail
  clear q4
  refine(HBC.out l _ _ _ _ w10 (.slice pz NL cz) _ HD2.out HV2.out C10.out.q (Nat.le_trans C10.out.hB C10.out.le) ⟨HB11.out.1,by have:=HT.out;omega⟩ (Mg.sightS C10.out 1 rfl)).mono ?_
  rintro e w12 hp12
  obtain⟨rfl,cv12,nv12,vv12,C12⟩:=Mg.done C10.out hp12
  clear hp12 C10
  have HB13:Hid (Co.Bd (n+1+1+Co.wSs b+0+1+Co.wSs l) (Co.gB cs cl.fields (Co.patch (Co.emit (Co.gB cs cl.fields (Co.emit (g) (19) 0 0 (1) 0) b) (18) 0 0 (0) 0) (g.code.length)) l)∧n+1+1+Co.wSs b+0+1+Co.wSs l≤900000):=Lib.hid ⟨(Co.gSs_bd cs cl.fields _ _ l HB11.out.1).shut (HB11.out.1.mono (by omega)),by have h9:=HT.out;omega⟩
  clear HB11
  go_wp2_with fail
  refine(patch_any C12.out.q HB13.out (k:=(Co.gB cs cl.fields (Co.emit g 19 0 0 1 0) b).code.length) (by have h9:=gB_len cs cl.fields (Co.patch (Co.emit (Co.gB cs cl.fields (Co.emit g 19 0 0 1 0) b) 18 0 0 0 0) g.code.length) l;rw [Co.patch_len (Co.emit (Co.gB cs cl.fields (Co.emit g 19 0 0 1 0) b) 18 0 0 0 0),Co.emit_len (Co.gB cs cl.fields (Co.emit g 19 0 0 1 0) b)] at h9;omega) (C12.out.b 1 rfl) (C12.out.b 0 rfl) (C12.out.lts (q:=X2) (by simp)).2.2 (C12.out.lts (q:=A2) (by simp)).2.2).mono ?_
  rintro e w14 hp14
  obtain⟨rfl,cv14,nv14,vv14,C14⟩:=Mg.done C12.out hp14
  clear hp14 C12
  have HB15:Hid (Co.Bd (n+1+1+Co.wSs b+0+1+Co.wSs l) (Co.patch (Co.gB cs cl.fields (Co.patch (Co.emit (Co.gB cs cl.fields (Co.emit (g) (19) 0 0 (1) 0) b) (18) 0 0 (0) 0) (g.code.length)) l) ((Co.gB cs cl.fields (Co.emit g 19 0 0 1 0) b).code.length))∧n+1+1+Co.wSs b+0+1+Co.wSs l≤900000):=Lib.hid ⟨HB13.out.1.patch _,by have h9:=HT.out;omega⟩
  clear HB13
  go_wp2_with fail
  go_end0
  have h9:=Mg.fin C14.out
  rw [HX.out] at h9
  exact h9
end Cw
end Go.Proofs.YtcnmfcgmnkncaaaGreatDoor
