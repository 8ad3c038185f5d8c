/-
  The reference's code and Check, walked.
-/
import Derived.Test.YtcnmfcgmnkncaaaGreatDoorX39
import Derived.Test.YtcnmfcgmnkncaaaGreatDoorX40
set_option maxRecDepth 100000
set_option maxHeartbeats 40000000
open Go.Proofs.Tryz
namespace Go.Proofs.YtcnmfcgmnkncaaaGreatDoor
open Go.RowKit Go.Maps
theorem zSE (t:Nat) (ht:t<13) (w:World):Calls prog 60 #[.int .i64 t] w fun e w'=>e= .returned (.int .i64 (Ck.code t:Nat))/\w'=w:=by
 match t,ht with
 |0,_=>
  go_in;go_wp2;go_ret;exact⟨rfl,rfl⟩
 |1,_=>
  go_in;go_wp2;go_ret;exact⟨rfl,rfl⟩
 |2,_=>
  go_in;go_wp2;go_ret;exact⟨rfl,rfl⟩
 |3,_=>
  go_in;go_wp2;go_ret;exact⟨rfl,rfl⟩
 |4,_=>
  go_in;go_wp2;go_ret;exact⟨rfl,rfl⟩
 |5,_=>
  go_in;go_wp2;go_ret;exact⟨rfl,rfl⟩
 |6,_=>
  go_in;go_wp2;go_ret;exact⟨rfl,rfl⟩
 |7,_=>
  go_in;go_wp2;go_ret;exact⟨rfl,rfl⟩
 |8,_=>
  go_in;go_wp2;go_ret;exact⟨rfl,rfl⟩
 |9,_=>
  go_in;go_wp2;go_ret;exact⟨rfl,rfl⟩
 |10,_=>
  go_in;go_wp2;go_ret;exact⟨rfl,rfl⟩
 |11,_=>
  go_in;go_wp2;go_ret;exact⟨rfl,rfl⟩
 |12,_=>
  go_in;go_wp2;go_ret;exact⟨rfl,rfl⟩
theorem zL5 (cs:List Tr.C) (h:Tr.validP cs=true):Ck.check cs=(Ck.faults cs).map fun f=>Ck.code f.line:=by
 unfold Ck.check;rw [kD h]
theorem zNB (cs:List Tr.C):∀f∈Ck.faults cs,f.line<13:=by
 intro f hf;have h1:=Ck.zI3 cs;have h2:f.line∈(Ck.rows cs).map Prod.snd:=by rw [h1];exact List.mem_map.2 ⟨f,hf,rfl⟩
 obtain⟨x,hx,e⟩:=List.mem_map.1 h2;rw [<-e];exact zJ5 cs cs 0 x hx
theorem zPY (v:Value) (cs:List Tr.C) (w:World) (h:SlC w v cs) (hsm:Ck.Small cs):
 Calls prog 36 #[.agg #[v]] w (CheckPost cs w):=by
 obtain⟨i0,hi0,hz0,hz1,hz2⟩:=info_parts errInfo;obtain⟨pv,cpv,rfl⟩:=h.form;have hbx:=zD w (.cells #[.slice pv cs.length cpv] 24);have hcall:=zOL _ cs _ (h.keep hbx);cases hv:Tr.validP cs
 ·rw [hv] at hcall;have hck:Hid (Ck.check cs= [1]):=by show _=_;unfold Ck.check;rw [hv];rfl
  have HC:=zh hcall;have HB:=zh hbx;obtain⟨CN,hCN⟩:∃N,cs.length=N:=⟨_,rfl⟩;rw [hCN] at HC HB |-;clear h hcall hv hbx hCN;go_in;go_wp2_with fail;refine HC.mono ?_;rintro e w2 ⟨rfl,hb2⟩;go_wp2;go_ret;have hB2:=HB.trans (hb2.mono HB.size);refine⟨_,rfl,?_,hB2.alloc hB2.size _⟩;rw [hck.out];exact⟨rfl,.inr ⟨w2.heap.size,1,#[.int .i64 1],rfl,hB2.size,(MapKept.heap_alloc w2 _).1,kL _,by decide,rfl,rfl⟩⟩
 ·rw [hv] at hcall;have hck:=zh (zL5 cs hv);have HC:=zh hcall;have HB:=zh hbx;have KF:Hid (∀W,Below w.heap.size w W->Calls prog 59 #[.agg #[.slice pv cs.length cpv]] W (FaultsRPost cs W)):=fun W hb=>zNC _ cs W (h.keep hb) hv hsm
  have hrl:=zIF cs cs 0;have hcnt:=hsm.cnt;have hlen:(Ck.faults cs).length<=13000000:=by unfold Ck.faults;omega
  obtain⟨R,hR⟩:∃r,Ck.faults cs=r:=⟨_,rfl⟩;have hlt13:Hid (∀x∈R,x.line<13):=by rw [<-hR];exact zNB cs
  rw [hR] at hlen hck;have HR:=zh hR;have c0:=zJ w #[.slice pv cs.length cpv] 24 0 _ rfl;obtain⟨CN,hCN⟩:∃N,cs.length=N:=⟨_,rfl⟩;rw [hCN] at HC HB KF c0 |-;have C0:=zh c0;clear h hcall hv hbx hCN hsm hrl hcnt hR c0;go_in;go_wp2_with fail;refine HC.mono ?_;rintro e w2 ⟨rfl,hb2⟩;have hB2:=zh (HB.trans (hb2.mono HB.size));have c0:=zA hb2 C0;clear hb2;go_wp2_with fail;refine(KF _ hB2).mono ?_;rintro e w3 ⟨fv,rfl,ho3,hb3⟩;rw [HR.out] at ho3;have hB3:=zh (hB2.trans (hb3.mono hB2.size));obtain⟨pf,cf,rfl⟩:=own_form ho3;have HO3:=zh ho3;obtain⟨N,hN⟩:∃N,R.length=N:=⟨_,rfl⟩;have HN:=zh hN;rw [hN] at hlen |-;have HE3:=zh (own_empty w3 30 1);have HBE:=zh (zD w3 (.cells #[] 30));clear hb3 ho3 c0 hN KF;go_wp2
  go_loopg [4,5] N (fun g s4 s5 wr=>∃k:Nat,s5= .int .i64 k/\k<=N/\g=N -k/\Hid (wr.ownsRow w3.heap.size 30 1 s4 k (codeCells ((R.take k).map fun x=>Ck.code x.line)))/\Hid (Below w3.heap.size w3 wr))
  case atStart=>exact ⟨0,rfl,kO _,rfl,HE3,HBE⟩
  case round=>
   obtain⟨k,rfl,hk,rfl,HO,HBR⟩:=hrel;clear HE3 HBE;by_cases hlt:k<N
   ·obtain⟨x,hx⟩:∃x,R[k]? =some x:=⟨_,kB (by rw [HN.out];exact hlt)⟩;obtain⟨rfl,_⟩|⟨g3,cap3,e3,hg3,hnc,hnm,hq⟩:=own_cells zJQ HO3
    ·simp at hx
    injection e3 with e31 e32 e33
    subst e31;subst e33;have q0:=hq k x hx 0 _ rfl;rw [Nat.add_zero] at q0;have r0:=zA HBR q0;have hx13:=hlt13 x (kM hx);have HX:=zh hx;have hsz:=HBR.size;have HCD:=zh (zSE x.line hx13 wr);have b3k:(k:Int)<(N:Int):=(by omega);clear q0 e32 hx hq hnc hnm hg3;go_wp2_with fail;refine HCD.mono ?_;rintro e w4 ⟨rfl,rfl⟩;have HOA:=zh (HO.alloc (.cells #[.int .i64 (Ck.code x.line:Nat)] 30));go_wp2_with (at_builtin;refine wpList_append_own _ rfl _ _ 77 rfl w3.heap.size 30 i0 (.int .i64 0) 1 8 underlying77 hi0 hz0 hz1 hz2 rfl (by decide) _ _ _ rfl HOA ⟨w4.heap.size,0,none⟩ 1 1 [.int .i64 (Ck.code x.line:Nat)] rfl rfl (zBN (cs:= #[.int .i64 (Ck.code x.line:Nat)]) rfl (by simp)) (by simp [Value.oneCell']) (by unfold maxLen;omega) (by omega) (by have:=HBR.size;simp<;>omega) ?_;intro v7 w7 ho7 hg7 _);go_roundg (N -(k+1))
    case measure=>omega
    case rel=>
     refine⟨k+1,by go_num,by omega,rfl,zh ?_,zh ((HBR.alloc HBR.size _).grown hg7 (by have:=HBR.size;simp<;>omega) fun q hq=>(HO.lt q hq).1)⟩;rw [zA3 HX.out,List.map_append];unfold codeCells at ho7 |-;rw [List.map_append];exact ho7
   ·obtain rfl:k=N:=by omega
    go_wp2;go_ret;refine⟨_,rfl,?_,hB3.trans (HBR.mono hB3.size)⟩;rw [hck.out,List.length_map,HN.out];have h9:=HO.out;rw [kR (by rw [HN.out];exact kL _)] at h9;exact zJ9 h9 hB3.size
end Go.Proofs.YtcnmfcgmnkncaaaGreatDoor
