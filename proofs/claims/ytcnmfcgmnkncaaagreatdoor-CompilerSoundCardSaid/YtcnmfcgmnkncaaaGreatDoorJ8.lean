/-
  Several texts in one: CoPut, TrAllM, TrAllC, CkFind, CoName.
-/
import Derived.Test.YtcnmfcgmnkncaaaGreatDoorJ7
namespace Go.Proofs.YtcnmfcgmnkncaaaGreatDoor
namespace Cw
open Go.RowKit Go.Maps Pw
theorem instrInfo:(Tryz.prog.info? 65).map (fun i=>(i.zero,i.size,i.bytes))=some (some (.agg #[.int .i64 0,.int .i64 0,.int .i64 0]),3,24):=by kernel_rfl
theorem varInfo:(Tryz.prog.info? 106).map (fun i=>(i.zero,i.size,i.bytes))=some (some (.agg #[.string ⟨#[]⟩,.int .i64 0]),2,24):=by kernel_rfl
theorem gcell {B0 gb:Nat} {cs:List Tr.C} {cl:Tr.C} {pv fv mv:Value} {g:Co.G} {cv nv vv:Value} {w:World} (h:GS B0 gb cs cl pv fv mv g cv nv vv w) {j:Nat} {u:Value} (hu:(#[pv,.string cl.name,.bool cl.actor,fv,mv,cv,nv,vv,.int .i64 g.locals,.int .i64 g.depth,.int .i64 g.most,.bool g.large]:Array Value)[j]? =some u):w.cell? ⟨gb,j,none⟩=some u:=zB h.blk hu
theorem gfree {B0 gb:Nat} {cs:List Tr.C} {cl:Tr.C} {pv fv mv:Value} {g:Co.G} {cv nv vv:Value} {w:World} (h:GS B0 gb cs cl pv fv mv g cv nv vv w) (j:Nat):w.frozen? ⟨gb,j,none⟩=false:=zI h.blk j
theorem zAJ {W:World} {X b j k:Nat} {u:Value} (h:X≠b):(W.setCell ⟨b,j,none⟩ u).cell? ⟨X,k,none⟩=W.cell? ⟨X,k,none⟩:=by
 have h1:=(zH W b j u)
 have h2:(W.setCell ⟨b,j,none⟩ u).heap[X]? =W.heap[X]?:=heap_setCell_other W ⟨b,j,none⟩ X u h
 unfold World.cell?
 rw [h2]
theorem zFV {W:World} {b j k:Nat} {u:Value} (h:j≠k):(W.setCell ⟨b,j,none⟩ u).cell? ⟨b,k,none⟩=W.cell? ⟨b,k,none⟩:=World.cell?_setCell_other (w:=W) (a:=⟨b,j,none⟩) (b:=⟨b,k,none⟩) (v:=u) (fun e=>h (by injection e))
set_option maxRecDepth 100000 in
set_option maxHeartbeats 16000000 in
theorem zPF {B0 gb:Nat} {cs:List Tr.C} {cl:Tr.C} {pv fv mv:Value} {g:Co.G} {cv nv vv:Value} {w:World} (h:GS B0 gb cs cl pv fv mv g cv nv vv w) (hB:B0≤w.heap.size) {n:Nat} (hbd:Co.Bd n g∧n≤900000) (o a b p q:Int) (hp:0≤p∧p≤1000000) (hq:0≤q∧q≤1000000):
 Calls Tryz.prog 91 #[.pointer (some ⟨gb,0,none⟩),.agg #[.int .i64 o,.int .i64 a,.int .i64 b],.int .i64 p,.int .i64 q] w (GQ B0 gb cs cl pv fv mv (Co.emit g o a b p q) cv nv vv w):=by
 obtain⟨i0,hi0,hz0,hz1,hz2⟩:=info_parts instrInfo
 have HBD:=zh hbd
 have HP:=zh hp
 have HQ:=zh hq
 have C0:=zh (Mg.start (os:= []) h hB (fun _ h=>by cases h))
 clear h hB hbd hp hq
 obtain⟨X,w1,HX1,HW1,hx1,C1⟩:=C0.out.boxE #[.int .i64 o,.int .i64 a,.int .i64 b] 65
 go_enter Tryz.func91,Tryz.ntmps91
 go_upto_region 1 with fail
 rw [←HX1.out,←HW1.out]
 clear HX1 HW1 C0
 obtain⟨wd,HWD,CD⟩:=C1.out.drewE
 obtain⟨lx,x0,xf0,x1,xf1,x2,xf2⟩:=cells3 (CD.out.b 0 rfl)
 have y0:=zh x0
 have y1:=zh x1
 have y2:=zh x2
 clear x0 xf0 x1 xf1 x2 xf2
 refine wp_region_held_drew (S:=fun W=>W.cell? ⟨X,0,none⟩=some (.int .i64 o)∧W.cell? ⟨X,1,none⟩=some (.int .i64 a)∧W.cell? ⟨X,2,none⟩=some (.int .i64 b)) (by kernel_rfl) (by rw [←HWD.out];exact⟨y0.out,y1.out,y2.out⟩) (fun hHeld=>?_)
 rw [←HWD.out] at hHeld ⊢
 clear HWD C1
 refine rU 0 (some 8) ?_
 refine rU 1 (some 9) ?_
 refine rU 2 (some 10) ?_
 refine rU 3 (some 11) ?_
 refine rU 5 (some 13) ?_
 have hHeld2:=zh hHeld
 have HXN:Hid (X≠gb):=zh (fun e=>(CD.out.lts (q:=X) (by simp)).2.2 (zQ.2 (.inl e)))
 refine rR2 4 (some 12) 6 (some 14) (fun K hK=>?_) (fun K hK=>?_)
 ·have gl:=lt_of_block CD.out.q.blk
  have g5:=gcell CD.out.q (j:=5) rfl
  have gf5:=gfree CD.out.q 5
  go_simp
  refine hK.out _ _ hHeld2.out (fun hHeld=>?_)
  clear hK K
  try simp only [Act.put,q0,q1,q2]
  clear gl g5 gf5
  refine rR1 6 (some 14) (fun K hK=>?_)
  obtain⟨G,wg,HG,HWG,hxg,CG⟩:=CD.out.boxE #[.int .i64 o,.int .i64 a,.int .i64 b] 65
  go_simp
  refine hK.out _ _ ⟨zA (zD wd _) hHeld2.out.1,zA (zD wd _) hHeld2.out.2.1,zA (zD wd _) hHeld2.out.2.2⟩ (fun hHeld=>?_)
  clear hK K
  try simp only [Act.put,q0,q1,q2]
  rw [←HG.out,←HWG.out]
  rw [←HWG.out] at hHeld
  clear HG HWG CD hHeld2
  have hHeld2:=zh hHeld
  refine rR1 7 (some 15) (fun K hK=>?_)
  clear hHeld
  refine zD3 zDC rfl _ _ 57 rfl i0 (.agg #[.int .i64 0,.int .i64 0,.int .i64 0]) 24 Tryz.underlying57 hi0 hz0 hz1 hz2 rfl (by decide) rfl CG.out.q.code G #[.int .i64 o,.int .i64 a,.int .i64 b] (o,a,b) rfl (CG.out.b 0 rfl) rfl (zHS _) (by have:=HBD.out.1.code;have:=HBD.out.2;unfold maxLen;omega) (by have:=HBD.out.1.code;have:=HBD.out.2;omega) (Nat.le_trans CG.out.hB CG.out.le) ?_
  intro v' wa hr9 hg9 hf9
  obtain⟨h1,h2⟩:=CG.out.q.addCode hr9 hg9 hf9
  have CA:=zh (Mg.move CG.out h1 h2)
  obtain⟨pc,cc,hv'⟩:=own_form hr9
  have HS9:Hid (wa.cell? ⟨X,0,none⟩=some (.int .i64 o)∧wa.cell? ⟨X,1,none⟩=some (.int .i64 a)∧wa.cell? ⟨X,2,none⟩=some (.int .i64 b)):=zh (by
   have hxn:some X≠cv.ownBlock:=fun e=>(CG.out.lts (q:=X) (by simp)).2.2 (zQ.2 (.inr (.inl e.symm)))
   have hx9:=gr_at hg9 (CG.out.b 1 rfl) hxn
   exact⟨zB hx9 (j:=0) rfl,zB hx9 (j:=1) rfl,zB hx9 (j:=2) rfl⟩)
  have hb9:=gr_at hg9 CG.out.q.blk (fun e=>(zA3.1 CG.out.q.nd).1.1 e.symm)
  have gl:=lt_of_block hb9
  have g5:=zB hb9 (j:=5) (u:=cv) rfl
  have gf5:=zI hb9 5
  subst hv'
  clear h1 h2 hr9 hg9 hf9 hb9 CG
  refine hK.out _ _ HS9.out (fun hHeld=>?_)
  clear hK K
  try simp only [Act.put,q0,q1,q2]
  refine rU 8 (some 16) ?_
  refine rU 9 (some 17) ?_
  refine rR1 10 none (fun K hK=>?_)
  go_simp
  refine hK.out _ _ ?_ (fun _=>?_)
  ·exact⟨by rw [zAJ HXN.out];exact HS9.out.1,by rw [zAJ HXN.out];exact HS9.out.2.1,by rw [zAJ HXN.out];exact HS9.out.2.2⟩
  clear hK K
  try simp only [Act.put,q0,q1,q2]
  refine wpAnyH_done (by kernel_rfl) ?_ _
  clear g5 gf5 gl HS9 y0 y1 y2
  obtain⟨wb,HWB⟩:∃wq,Hid (wq=wa.setCell ⟨gb,5,none⟩ (.slice pc (g.code.length+1) cc)):=⟨_,zh rfl⟩
  have hl9:(g.code++ [(o,a,b)]).length=g.code.length+1:=by simp
  rw [hl9,←HWB.out] at CA
  rw [←HWB.out]
  clear HWB hl9
  have gq:=CA.out.q
  have gl:=lt_of_block gq.blk
  have g9:=gcell gq (j:=9) (u:= .int .i64 g.depth) rfl
  have gf9:=gfree gq 9
  have hdb:=HBD.out.1.dep
  have hnn:=HBD.out.2
  have hp1:=HP.out
  have hq1:=HQ.out
  have hw1:wrap64 (q -p)=q -p:=by unfold wrap64;omega
  have hw2:wrap64 (g.depth+(q -p))=g.depth+(q -p):=by unfold wrap64;omega
  obtain⟨h1,h2⟩:=gq.put 9 (.int .i64 (g.depth+(q -p))) (g':= { { g with code:=g.code++ [(o,a,b)] } with depth:=g.depth+(q -p) }) rfl rfl rfl rfl
  obtain⟨wz,HWZ⟩:∃wq,Hid (wq=wb.setCell ⟨gb,9,none⟩ (.int .i64 (g.depth+(q -p)))):=⟨_,zh rfl⟩
  have CZ:=zh (Mg.move CA.out h1 h2)
  rw [←HWZ.out] at CZ
  clear h1 h2 gq hdb hnn hp1 hq1
  go_upto_region 3 with fail
  rw [←HWZ.out]
  clear HWZ CA gl g9 gf9 hw1 hw2
  obtain⟨wy,HWY,CY⟩:=CZ.out.drewE
  have z9:=zh (gcell CY.out.q (j:=9) (u:= .int .i64 (g.depth+(q -p))) rfl)
  refine wp_region_held_drew (S:=fun W=>W.cell? ⟨gb,9,none⟩=some (.int .i64 (g.depth+(q -p)))) (by kernel_rfl) (by rw [←HWY.out];exact z9.out) (fun hHeld=>?_)
  rw [←HWY.out] at hHeld ⊢
  clear HWY CZ
  refine rU 0 (some 28) ?_
  refine rU 1 (some 29) ?_
  refine rU 2 (some 30) ?_
  refine rU 3 (some 31) ?_
  refine rU 5 (some 33) ?_
  refine rU 6 (some 34) ?_
  refine rU 7 (some 35) ?_
  refine rU 8 (some 36) ?_
  refine rR1 4 (some 32) (fun K hK=>?_)
  have gl:=lt_of_block CY.out.q.blk
  have g10:=gcell CY.out.q (j:=10) (u:= .int .i64 g.most) rfl
  have gf10:=gfree CY.out.q 10
  go_simp
  refine hK.out _ _ hHeld (fun hHeld=>?_)
  clear hK K
  try simp only [Act.put,q0,q1,q2]
  refine rR1 9 (some 37) (fun K hK=>?_)
  go_simp
  refine hK.out _ _ hHeld (fun hHeld=>?_)
  clear hK K
  try simp only [Act.put,q0,q1,q2]
  refine rU 10 (some 38) ?_
  refine rU 11 (some 39) ?_
  obtain⟨h1,h2⟩:=CY.out.q.put 10 (.int .i64 (max g.most (g.depth+(q -p)))) (g':= { { g with code:=g.code++ [(o,a,b)] } with depth:=g.depth+(q -p),most:=max g.most (g.depth+(q -p)) }) rfl rfl rfl rfl
  have CX:=zh (Mg.move CY.out h1 h2)
  clear h1 h2
  refine rR1 12 none (fun K hK=>?_)
  go_simp
  refine hK.out _ _ (by rw [zFV (by decide)];exact hHeld) (fun _=>?_)
  clear hK K
  try simp only [Act.put,q0,q1,q2]
  refine wpAnyH_done (by kernel_rfl) ?_ _
  go_wp2_with fail
  go_end0
  have he:Co.emit g o a b p q= { { g with code:=g.code++ [(o,a,b)] } with depth:=g.depth+(q -p),most:=max g.most (g.depth+(q -p)) }:=by
   unfold Co.emit
   have e1:g.depth -p+q=g.depth+(q -p):=by omega
   rw [e1]
  rw [he]
  exact Mg.fin CX.out
 ·obtain⟨G,wg,HG,HWG,hxg,CG⟩:=CD.out.boxE #[.int .i64 o,.int .i64 a,.int .i64 b] 65
  go_simp
  refine hK.out _ _ ⟨zA (zD wd _) hHeld2.out.1,zA (zD wd _) hHeld2.out.2.1,zA (zD wd _) hHeld2.out.2.2⟩ (fun hHeld=>?_)
  clear hK K
  try simp only [Act.put,q0,q1,q2]
  rw [←HG.out,←HWG.out]
  rw [←HWG.out] at hHeld
  clear HG HWG CD hHeld2
  have hHeld2:=zh hHeld
  refine rR1 4 (some 12) (fun K hK=>?_)
  have gl:=lt_of_block CG.out.q.blk
  have g5:=gcell CG.out.q (j:=5) rfl
  have gf5:=gfree CG.out.q 5
  go_simp
  refine hK.out _ _ hHeld2.out (fun hHeld=>?_)
  clear hK K
  try simp only [Act.put,q0,q1,q2]
  clear gl g5 gf5
  refine rR1 7 (some 15) (fun K hK=>?_)
  clear hHeld
  refine zD3 zDC rfl _ _ 57 rfl i0 (.agg #[.int .i64 0,.int .i64 0,.int .i64 0]) 24 Tryz.underlying57 hi0 hz0 hz1 hz2 rfl (by decide) rfl CG.out.q.code G #[.int .i64 o,.int .i64 a,.int .i64 b] (o,a,b) rfl (CG.out.b 0 rfl) rfl (zHS _) (by have:=HBD.out.1.code;have:=HBD.out.2;unfold maxLen;omega) (by have:=HBD.out.1.code;have:=HBD.out.2;omega) (Nat.le_trans CG.out.hB CG.out.le) ?_
  intro v' wa hr9 hg9 hf9
  obtain⟨h1,h2⟩:=CG.out.q.addCode hr9 hg9 hf9
  have CA:=zh (Mg.move CG.out h1 h2)
  obtain⟨pc,cc,hv'⟩:=own_form hr9
  have HS9:Hid (wa.cell? ⟨X,0,none⟩=some (.int .i64 o)∧wa.cell? ⟨X,1,none⟩=some (.int .i64 a)∧wa.cell? ⟨X,2,none⟩=some (.int .i64 b)):=zh (by
   have hxn:some X≠cv.ownBlock:=fun e=>(CG.out.lts (q:=X) (by simp)).2.2 (zQ.2 (.inr (.inl e.symm)))
   have hx9:=gr_at hg9 (CG.out.b 1 rfl) hxn
   exact⟨zB hx9 (j:=0) rfl,zB hx9 (j:=1) rfl,zB hx9 (j:=2) rfl⟩)
  have hb9:=gr_at hg9 CG.out.q.blk (fun e=>(zA3.1 CG.out.q.nd).1.1 e.symm)
  have gl:=lt_of_block hb9
  have g5:=zB hb9 (j:=5) (u:=cv) rfl
  have gf5:=zI hb9 5
  subst hv'
  clear h1 h2 hr9 hg9 hf9 hb9 CG
  refine hK.out _ _ HS9.out (fun hHeld=>?_)
  clear hK K
  try simp only [Act.put,q0,q1,q2]
  refine rU 8 (some 16) ?_
  refine rU 9 (some 17) ?_
  refine rR1 10 none (fun K hK=>?_)
  go_simp
  refine hK.out _ _ ?_ (fun _=>?_)
  ·exact⟨by rw [zAJ HXN.out];exact HS9.out.1,by rw [zAJ HXN.out];exact HS9.out.2.1,by rw [zAJ HXN.out];exact HS9.out.2.2⟩
  clear hK K
  try simp only [Act.put,q0,q1,q2]
  refine wpAnyH_done (by kernel_rfl) ?_ _
  clear g5 gf5 gl HS9 y0 y1 y2
  obtain⟨wb,HWB⟩:∃wq,Hid (wq=wa.setCell ⟨gb,5,none⟩ (.slice pc (g.code.length+1) cc)):=⟨_,zh rfl⟩
  have hl9:(g.code++ [(o,a,b)]).length=g.code.length+1:=by simp
  rw [hl9,←HWB.out] at CA
  rw [←HWB.out]
  clear HWB hl9
  have gq:=CA.out.q
  have gl:=lt_of_block gq.blk
  have g9:=gcell gq (j:=9) (u:= .int .i64 g.depth) rfl
  have gf9:=gfree gq 9
  have hdb:=HBD.out.1.dep
  have hnn:=HBD.out.2
  have hp1:=HP.out
  have hq1:=HQ.out
  have hw1:wrap64 (q -p)=q -p:=by unfold wrap64;omega
  have hw2:wrap64 (g.depth+(q -p))=g.depth+(q -p):=by unfold wrap64;omega
  obtain⟨h1,h2⟩:=gq.put 9 (.int .i64 (g.depth+(q -p))) (g':= { { g with code:=g.code++ [(o,a,b)] } with depth:=g.depth+(q -p) }) rfl rfl rfl rfl
  obtain⟨wz,HWZ⟩:∃wq,Hid (wq=wb.setCell ⟨gb,9,none⟩ (.int .i64 (g.depth+(q -p)))):=⟨_,zh rfl⟩
  have CZ:=zh (Mg.move CA.out h1 h2)
  rw [←HWZ.out] at CZ
  clear h1 h2 gq hdb hnn hp1 hq1
  go_upto_region 3 with fail
  rw [←HWZ.out]
  clear HWZ CA gl g9 gf9 hw1 hw2
  obtain⟨wy,HWY,CY⟩:=CZ.out.drewE
  have z9:=zh (gcell CY.out.q (j:=9) (u:= .int .i64 (g.depth+(q -p))) rfl)
  refine wp_region_held_drew (S:=fun W=>W.cell? ⟨gb,9,none⟩=some (.int .i64 (g.depth+(q -p)))) (by kernel_rfl) (by rw [←HWY.out];exact z9.out) (fun hHeld=>?_)
  rw [←HWY.out] at hHeld ⊢
  clear HWY CZ
  refine rU 0 (some 28) ?_
  refine rU 1 (some 29) ?_
  refine rU 2 (some 30) ?_
  refine rU 3 (some 31) ?_
  refine rU 5 (some 33) ?_
  refine rU 6 (some 34) ?_
  refine rU 7 (some 35) ?_
  refine rU 8 (some 36) ?_
  refine rR1 4 (some 32) (fun K hK=>?_)
  have gl:=lt_of_block CY.out.q.blk
  have g10:=gcell CY.out.q (j:=10) (u:= .int .i64 g.most) rfl
  have gf10:=gfree CY.out.q 10
  go_simp
  refine hK.out _ _ hHeld (fun hHeld=>?_)
  clear hK K
  try simp only [Act.put,q0,q1,q2]
  refine rR1 9 (some 37) (fun K hK=>?_)
  go_simp
  refine hK.out _ _ hHeld (fun hHeld=>?_)
  clear hK K
  try simp only [Act.put,q0,q1,q2]
  refine rU 10 (some 38) ?_
  refine rU 11 (some 39) ?_
  obtain⟨h1,h2⟩:=CY.out.q.put 10 (.int .i64 (max g.most (g.depth+(q -p)))) (g':= { { g with code:=g.code++ [(o,a,b)] } with depth:=g.depth+(q -p),most:=max g.most (g.depth+(q -p)) }) rfl rfl rfl rfl
  have CX:=zh (Mg.move CY.out h1 h2)
  clear h1 h2
  refine rR1 12 none (fun K hK=>?_)
  go_simp
  refine hK.out _ _ (by rw [zFV (by decide)];exact hHeld) (fun _=>?_)
  clear hK K
  try simp only [Act.put,q0,q1,q2]
  refine wpAnyH_done (by kernel_rfl) ?_ _
  go_wp2_with fail
  go_end0
  have he:Co.emit g o a b p q= { { g with code:=g.code++ [(o,a,b)] } with depth:=g.depth+(q -p),most:=max g.most (g.depth+(q -p)) }:=by
   unfold Co.emit
   have e1:g.depth -p+q=g.depth+(q -p):=by omega
   rw [e1]
  rw [he]
  exact Mg.fin CX.out
set_option maxRecDepth 100000 in
set_option maxHeartbeats 4000000 in
theorem zW {B0 gb:Nat} {cs:List Tr.C} {cl:Tr.C} {pv fv mv:Value} {g:Co.G} {cv nv vv:Value} {w:World} (h:GS B0 gb cs cl pv fv mv g cv nv vv w) (hB:B0≤w.heap.size) {n:Nat} (hbd:Co.Bd n g∧n≤900000) (o a b p q:Int) (hp:0≤p∧p≤1000000) (hq:0≤q∧q≤1000000):
 Calls Tryz.prog 57 #[.pointer (some ⟨gb,0,none⟩),.int .i64 o,.int .i64 a,.int .i64 b,.int .i64 p,.int .i64 q] w (GQ B0 gb cs cl pv fv mv (Co.emit g o a b p q) cv nv vv w):=by
 have K:=zh (zPF h hB hbd o a b p q hp hq)
 clear h hB hbd hp hq
 go_enter Tryz.func57,Tryz.ntmps57
 go_wp2_with fail
 refine K.out.mono ?_
 rintro e w2 ⟨rfl,h⟩
 go_wp2_with fail
 go_end0
 exact⟨rfl,h⟩
end Cw
end Go.Proofs.YtcnmfcgmnkncaaaGreatDoor
namespace Go.Proofs.YtcnmfcgmnkncaaaGreatDoor
open Go.RowKit
def ReadM (W:World) (x:Tr.M) (a1 a2:Value):Prop:=x.name.size≤maxLen∧SlStr W a1 x.params∧SlS W a2 x.body
theorem ReadM.keep {w w':World} {x:Tr.M} {a1 a2:Value} (h:ReadM w x a1 a2) (hb:Below w.heap.size w w'):ReadM w' x a1 a2:=⟨h.1,h.2.1.keep hb,h.2.2.keep hb⟩
def HoldsM (w:World) (q:Tr.M→Bool) (l:List Tr.M):Prop:=
 ∀(W:World) (j:Nat) (x:Tr.M) (a1 a2:Value),Below w.heap.size w W→l[j]? =some x→ReadM W x a1 a2→Calls Tryz.prog 76 #[methV x a1 a2] W fun e w'=>e= .returned (.bool (q x))∧Below W.heap.size W w'
set_option maxRecDepth 100000 in
set_option maxHeartbeats 2000000 in
theorem zQ6 (q:Tr.M→Bool) (w0:World) (l:List Tr.M) (H:HoldsM w0 q l) (B:Nat) (W:World) (hW:Below w0.heap.size w0 W) (hB:W.cell? ⟨B,0,none⟩=some (.func (.func 76) #[] #[]))
 (j:Nat) (x:Tr.M) (a1 a2:Value) (hx:l[j]? =some x) (h:ReadM W x a1 a2):
 Calls Tryz.prog 122 #[methV x a1 a2,.pointer (some ⟨B,0,none⟩)] W fun e w'=>e= .returned (.bool (!q x))∧Below W.heap.size W w':=by
 have HR:=zh h
 obtain⟨pa,ca,rfl⟩:=h.2.1.form
 obtain⟨pb,cb,rfl,_⟩:=h.2.2.form
 obtain⟨AN,hAN⟩:∃N,x.params.length=N:=⟨_,rfl⟩
 obtain⟨BN,hBN⟩:∃N,x.body.length=N:=⟨_,rfl⟩
 rw [hAN,hBN]
 rw [hAN,hBN] at HR
 unfold methV
 have hbx:=zD W (.cells #[.string x.name,.slice pa AN ca,.slice pb BN cb] 62)
 have hcall:=H _ j x _ _ (zC hW hbx) hx (HR.out.keep hbx)
 unfold methV at hcall
 have HC:=zh hcall
 have HBX:=zh hbx
 have hB':=zA hbx hB
 clear h hcall hbx H
 go_enter Tryz.func122,Tryz.ntmps122
 go_wp2_with fail
 refine HC.out.mono ?_
 rintro e w2 ⟨rfl,hb2⟩
 go_wp2_with fail
 go_ret
 exact⟨rfl,HBX.out.trans (hb2.mono HBX.out.size)⟩
set_option maxRecDepth 100000 in
set_option maxHeartbeats 2000000 in
theorem zNW (q:Tr.M→Bool) (w0:World) (l:List Tr.M) (H:HoldsM w0 q l) (B:Nat) (W:World) (hW:Below w0.heap.size w0 W) (hB:W.cell? ⟨B,0,none⟩=some (.func (.func 76) #[] #[])) (v:Value) (hS:SlM W v l):
 Calls Tryz.prog 125 #[v,.func (.func 122) #[] #[.pointer (some ⟨B,0,none⟩)]] W (IdxPost (!l.all q) W):=by
 obtain⟨p,c,rfl⟩:=hS.form
 have hll:=hS.len
 unfold maxLen at hll
 obtain⟨N,hN⟩:∃N,l.length=N:=⟨_,rfl⟩
 rw [hN] at hS hll ⊢
 have HS:=zh hS
 have HN:=zh hN
 have HH:=zh H
 have HW:=zh hW
 clear hS hN H hW
 go_enter Tryz.func125,Tryz.ntmps125
 go_wp2
 go_loopw [8] (fun s8 wr=>∃j:Nat,s8= .int .i64 j∧j≤N∧(∀t x,t<j→l[t]? =some x→q x=true)∧Below W.heap.size W wr) (fun s8 _=>N -(intOf s8).toNat)
 case atStart=>exact ⟨0,rfl,Nat.zero_le _,fun t x ht=>by omega,Below.refl _ _⟩
 case round=>
  obtain⟨j,rfl,hj,hall,hbr⟩:=hrel
  have HA:=zh hall
  have HBR:=zh hbr
  have HB1:=zh (zA hbr hB)
  clear hall
  by_cases hlt:j<N
  ·obtain⟨x,hx⟩:∃x,l[j]? =some x:=⟨_,List.getElem?_eq_getElem (by rw [HN.out];exact hlt)⟩
   obtain⟨b,oo,a1,a2,rfl,_,hc,hnm,hsp,hsb⟩:=(HS.out.keep hbr).get hx
   obtain⟨x0,x1,x2⟩:=hc
   have hr:ReadM wr x a1 a2:=⟨hnm,hsp,hsb⟩
   have hcall:=zQ6 q w0 l HH.out B wr (zC HW.out HBR.out) HB1.out j x _ _ hx hr
   unfold methV at hcall
   have HX:=zh hx
   clear hx hr hbr hnm hsp hsb
   cases hv:q x
   ·rw [hv] at hcall
    have HCL:=zh hcall
    have hf:=zh (zH5 HX.out hv)
    clear hcall hv
    go_wp2_with fail
    refine HCL.out.mono ?_
    rintro e w2 ⟨rfl,hb2⟩
    go_wp2_with fail
    go_ret
    exact⟨(j:Int),rfl,by rw [hf.out];simp,zC HBR.out hb2⟩
   ·rw [hv] at hcall
    have HCL:=zh hcall
    have HV:=zh hv
    clear hcall hv
    go_wp2_with fail
    refine HCL.out.mono ?_
    rintro e w2 ⟨rfl,hb2⟩
    go_wp2_with fail
    go_roundw
    case rel=>
     refine⟨j+1,by go_num,by omega,fun t y ht hty=>?_,zC HBR.out hb2⟩
     by_cases e:t=j
     ·subst e;rw [HX.out] at hty;cases hty;exact HV.out
     ·exact HA.out t y (by omega) hty
    case measure=>simp [intOf];omega
  ·have hf:=zh (zE3 HN.out (p:=q) (fun t x ht=>HA.out t x (by omega)))
   clear hbr
   go_wp2_with fail
   go_ret
   exact⟨-1,rfl,by rw [hf.out];simp,HBR.out⟩
set_option maxHeartbeats 1000000 in
theorem zIV (q:Tr.M→Bool) (w0:World) (l:List Tr.M) (H:HoldsM w0 q l) (B:Nat) (W:World) (hW:Below w0.heap.size w0 W) (hB:W.cell? ⟨B,0,none⟩=some (.func (.func 76) #[] #[])) (v:Value) (hS:SlM W v l):
 Calls Tryz.prog 121 #[v,.func (.func 122) #[] #[.pointer (some ⟨B,0,none⟩)]] W fun e w'=>e= .returned (.bool (!l.all q))∧Below W.heap.size W w':=by
 have HI:=zh (zNW q w0 l H B W hW hB v hS)
 obtain⟨p,c,rfl⟩:=hS.form
 clear H hB hS hW
 go_enter Tryz.func121,Tryz.ntmps121
 go_wp2_with fail
 refine HI.out.mono ?_
 rintro e w2 ⟨i,rfl,hi,hb⟩
 have HII:=zh hi
 clear hi
 go_wp2_with fail
 go_ret
 exact⟨zAV HII.out,hb⟩
set_option maxHeartbeats 1000000 in
theorem zSQ (q:Tr.M→Bool) (l:List Tr.M) (W:World) (H:HoldsM W q l) (v:Value) (hS:SlM W v l):
 Calls Tryz.prog 82 #[v,.func (.func 76) #[] #[]] W fun e w'=>e= .returned (.bool (l.all q))∧Below W.heap.size W w':=by
 have hbx:=zD W (.cells #[.func (.func 76) #[] #[]] 137)
 have HI:=zh (zIV q W l H W.heap.size _ hbx (zP W #[.func (.func 76) #[] #[]] 137 0 _ rfl) v (hS.keep hbx))
 have HBX:=zh hbx
 obtain⟨p,c,rfl⟩:=hS.form
 clear H hS hbx
 go_enter Tryz.func82,Tryz.ntmps82
 go_wp2_with fail
 refine HI.out.mono ?_
 rintro e w2 ⟨rfl,hb⟩
 go_wp2_with fail
 go_ret
 exact⟨rfl,HBX.out.trans (hb.mono HBX.out.size)⟩
def ReadC (W:World) (x:Tr.C) (a1 a2:Value):Prop:=x.name.size≤maxLen∧SlStr W a1 x.fields∧SlM W a2 x.methods
theorem ReadC.keep {w w':World} {x:Tr.C} {a1 a2:Value} (h:ReadC w x a1 a2) (hb:Below w.heap.size w w'):ReadC w' x a1 a2:=⟨h.1,h.2.1.keep hb,h.2.2.keep hb⟩
def HoldsC (VB:Nat) (w:World) (q:Tr.C→Bool) (l:List Tr.C):Prop:=
 ∀(W:World) (j:Nat) (x:Tr.C) (a1 a2:Value),Below w.heap.size w W→l[j]? =some x→ReadC W x a1 a2→Calls Tryz.prog 81 #[classV x a1 a2,.pointer (some ⟨VB,0,none⟩)] W fun e w'=>e= .returned (.bool (q x))∧Below W.heap.size W w'
set_option maxRecDepth 100000 in
set_option maxHeartbeats 2000000 in
theorem zQ8 (VB:Nat) (q:Tr.C→Bool) (w0:World) (l:List Tr.C) (H:HoldsC VB w0 q l) (B:Nat) (W:World) (hW:Below w0.heap.size w0 W) (hB:W.cell? ⟨B,0,none⟩=some (.func (.func 81) #[] #[.pointer (some ⟨VB,0,none⟩)]))
 (j:Nat) (x:Tr.C) (a1 a2:Value) (hx:l[j]? =some x) (h:ReadC W x a1 a2):
 Calls Tryz.prog 120 #[classV x a1 a2,.pointer (some ⟨B,0,none⟩)] W fun e w'=>e= .returned (.bool (!q x))∧Below W.heap.size W w':=by
 have HR:=zh h
 obtain⟨pa,ca,rfl⟩:=h.2.1.form
 obtain⟨pb,cb,rfl⟩:=h.2.2.form
 obtain⟨AN,hAN⟩:∃N,x.fields.length=N:=⟨_,rfl⟩
 obtain⟨BN,hBN⟩:∃N,x.methods.length=N:=⟨_,rfl⟩
 rw [hAN,hBN]
 rw [hAN,hBN] at HR
 unfold classV
 have hbx:=zD W (.cells #[.string x.name,.bool x.actor,.slice pa AN ca,.slice pb BN cb] 55)
 have hcall:=H _ j x _ _ (zC hW hbx) hx (HR.out.keep hbx)
 unfold classV at hcall
 have HC:=zh hcall
 have HBX:=zh hbx
 have hB':=zA hbx hB
 clear h hcall hbx H
 go_enter Tryz.func120,Tryz.ntmps120
 go_wp2_with fail
 refine HC.out.mono ?_
 rintro e w2 ⟨rfl,hb2⟩
 go_wp2_with fail
 go_ret
 exact⟨rfl,HBX.out.trans (hb2.mono HBX.out.size)⟩
set_option maxRecDepth 100000 in
set_option maxHeartbeats 2000000 in
theorem zNY (VB:Nat) (q:Tr.C→Bool) (w0:World) (l:List Tr.C) (H:HoldsC VB w0 q l) (B:Nat) (W:World) (hW:Below w0.heap.size w0 W) (hB:W.cell? ⟨B,0,none⟩=some (.func (.func 81) #[] #[.pointer (some ⟨VB,0,none⟩)])) (v:Value) (hS:SlC W v l):
 Calls Tryz.prog 123 #[v,.func (.func 120) #[] #[.pointer (some ⟨B,0,none⟩)]] W (IdxPost (!l.all q) W):=by
 obtain⟨p,c,rfl⟩:=hS.form
 have hll:=hS.len
 unfold maxLen at hll
 obtain⟨N,hN⟩:∃N,l.length=N:=⟨_,rfl⟩
 rw [hN] at hS hll ⊢
 have HS:=zh hS
 have HN:=zh hN
 have HH:=zh H
 have HW:=zh hW
 clear hS hN H hW
 go_enter Tryz.func123,Tryz.ntmps123
 go_wp2
 go_loopw [8] (fun s8 wr=>∃j:Nat,s8= .int .i64 j∧j≤N∧(∀t x,t<j→l[t]? =some x→q x=true)∧Below W.heap.size W wr) (fun s8 _=>N -(intOf s8).toNat)
 case atStart=>exact ⟨0,rfl,Nat.zero_le _,fun t x ht=>by omega,Below.refl _ _⟩
 case round=>
  obtain⟨j,rfl,hj,hall,hbr⟩:=hrel
  have HA:=zh hall
  have HBR:=zh hbr
  have HB1:=zh (zA hbr hB)
  clear hall
  by_cases hlt:j<N
  ·obtain⟨x,hx⟩:∃x,l[j]? =some x:=⟨_,List.getElem?_eq_getElem (by rw [HN.out];exact hlt)⟩
   obtain⟨b,oo,a1,a2,rfl,_,hc,hnm,hsp,hsb⟩:=(HS.out.keep hbr).get hx
   obtain⟨x0,x1,x2,x3⟩:=hc
   have hr:ReadC wr x a1 a2:=⟨hnm,hsp,hsb⟩
   have hcall:=zQ8 VB q w0 l HH.out B wr (zC HW.out HBR.out) HB1.out j x _ _ hx hr
   unfold classV at hcall
   have HX:=zh hx
   clear hx hr hbr hnm hsp hsb
   cases hv:q x
   ·rw [hv] at hcall
    have HCL:=zh hcall
    have hf:=zh (zH5 HX.out hv)
    clear hcall hv
    go_wp2_with fail
    refine HCL.out.mono ?_
    rintro e w2 ⟨rfl,hb2⟩
    go_wp2_with fail
    go_ret
    exact⟨(j:Int),rfl,by rw [hf.out];simp,zC HBR.out hb2⟩
   ·rw [hv] at hcall
    have HCL:=zh hcall
    have HV:=zh hv
    clear hcall hv
    go_wp2_with fail
    refine HCL.out.mono ?_
    rintro e w2 ⟨rfl,hb2⟩
    go_wp2_with fail
    go_roundw
    case rel=>
     refine⟨j+1,by go_num,by omega,fun t y ht hty=>?_,zC HBR.out hb2⟩
     by_cases e:t=j
     ·subst e;rw [HX.out] at hty;cases hty;exact HV.out
     ·exact HA.out t y (by omega) hty
    case measure=>simp [intOf];omega
  ·have hf:=zh (zE3 HN.out (p:=q) (fun t x ht=>HA.out t x (by omega)))
   clear hbr
   go_wp2_with fail
   go_ret
   exact⟨-1,rfl,by rw [hf.out];simp,HBR.out⟩
set_option maxHeartbeats 1000000 in
theorem zIX (VB:Nat) (q:Tr.C→Bool) (w0:World) (l:List Tr.C) (H:HoldsC VB w0 q l) (B:Nat) (W:World) (hW:Below w0.heap.size w0 W) (hB:W.cell? ⟨B,0,none⟩=some (.func (.func 81) #[] #[.pointer (some ⟨VB,0,none⟩)])) (v:Value) (hS:SlC W v l):
 Calls Tryz.prog 119 #[v,.func (.func 120) #[] #[.pointer (some ⟨B,0,none⟩)]] W fun e w'=>e= .returned (.bool (!l.all q))∧Below W.heap.size W w':=by
 have HI:=zh (zNY VB q w0 l H B W hW hB v hS)
 obtain⟨p,c,rfl⟩:=hS.form
 clear H hB hS hW
 go_enter Tryz.func119,Tryz.ntmps119
 go_wp2_with fail
 refine HI.out.mono ?_
 rintro e w2 ⟨i,rfl,hi,hb⟩
 have HII:=zh hi
 clear hi
 go_wp2_with fail
 go_ret
 exact⟨zAV HII.out,hb⟩
set_option maxHeartbeats 1000000 in
theorem zSR (VB:Nat) (q:Tr.C→Bool) (l:List Tr.C) (W:World) (H:HoldsC VB W q l) (v:Value) (hS:SlC W v l):
 Calls Tryz.prog 80 #[v,.func (.func 81) #[] #[.pointer (some ⟨VB,0,none⟩)]] W fun e w'=>e= .returned (.bool (l.all q))∧Below W.heap.size W w':=by
 have hbx:=zD W (.cells #[.func (.func 81) #[] #[.pointer (some ⟨VB,0,none⟩)]] 140)
 have HI:=zh (zIX VB q W l H W.heap.size _ hbx (zP W #[.func (.func 81) #[] #[.pointer (some ⟨VB,0,none⟩)]] 140 0 _ rfl) v (hS.keep hbx))
 have HBX:=zh hbx
 obtain⟨p,c,rfl⟩:=hS.form
 clear H hS hbx
 go_enter Tryz.func80,Tryz.ntmps80
 go_wp2_with fail
 refine HI.out.mono ?_
 rintro e w2 ⟨rfl,hb⟩
 go_wp2_with fail
 go_ret
 exact⟨rfl,HBX.out.trans (hb.mono HBX.out.size)⟩
def idxI:Option Nat→Int
 |none=> -1
 |some i=>i
theorem zIO {α:Type} {p:α→Bool} {l:List α} {j:Nat} {x:α} (h:∀t x,t<j→l[t]? =some x→p x=false) (hj:l[j]? =some x) (hx:p x=true):l.findIdx? p=some j:=by
 obtain⟨hlt,hg⟩:=List.getElem?_eq_some_iff.1 hj
 rw [List.findIdx?_eq_some_iff_getElem]
 refine⟨hlt,by rw [hg];exact hx,fun t ht=>?_⟩
 have:=h t (l[t]'(by omega)) ht (List.getElem?_eq_getElem (by omega))
 simp [this]
theorem zLO {α:Type} {p:α→Bool} {l:List α} {n:Nat} (hn:l.length=n) (h:∀t x,t<n→l[t]? =some x→p x=false):l.findIdx? p=none:=by
 rw [List.findIdx?_eq_none_iff]
 intro x hx
 obtain⟨t,ht,rfl⟩:=List.getElem_of_mem hx
 exact h t _ (by omega) (List.getElem?_eq_getElem ht)
theorem zIN {α:Type} {p:α→Bool} {l:List α} {i:Nat} (h:l.findIdx? p=some i):i<l.length:=by
 rw [List.findIdx?_eq_some_iff_getElem] at h
 exact h.1
set_option maxRecDepth 100000 in
set_option maxHeartbeats 2000000 in
theorem zOC (nm:ByteArray) (B:Nat) (W:World) (hB:W.cell? ⟨B,0,none⟩=some (.string nm)) (x:Tr.C) (a1 a2:Value) (h:ReadC W x a1 a2):
 Calls Tryz.prog 124 #[classV x a1 a2,.pointer (some ⟨B,0,none⟩)] W fun e w'=>e= .returned (.bool (decide (x.name=nm)))∧Below W.heap.size W w':=by
 have hb0:=zZ hB
 obtain⟨pa,ca,rfl⟩:=h.2.1.form
 obtain⟨pb,cb,rfl⟩:=h.2.2.form
 obtain⟨AN,hAN⟩:∃N,x.fields.length=N:=⟨_,rfl⟩
 obtain⟨BN,hBN⟩:∃N,x.methods.length=N:=⟨_,rfl⟩
 rw [hAN,hBN]
 clear h hAN hBN
 unfold classV
 go_enter Tryz.func124,Tryz.ntmps124
 go_wp2
 go_ret
 exact⟨zAV (zAK _ _),zD _ _⟩
set_option maxRecDepth 100000 in
set_option maxHeartbeats 2000000 in
theorem zQQ (nm:ByteArray) (l:List Tr.C) (B:Nat) (W:World) (hB:W.cell? ⟨B,0,none⟩=some (.string nm)) (v:Value) (hS:SlC W v l):
 Calls Tryz.prog 123 #[v,.func (.func 124) #[] #[.pointer (some ⟨B,0,none⟩)]] W fun e w'=>e= .returned (.int .i64 (idxI (Ck.classAt l nm)))∧Below W.heap.size W w':=by
 obtain⟨p,c,rfl⟩:=hS.form
 have hll:=hS.len
 unfold maxLen at hll
 obtain⟨N,hN⟩:∃N,l.length=N:=⟨_,rfl⟩
 rw [hN] at hS hll ⊢
 have HS:=zh hS
 have HN:=zh hN
 clear hS hN
 go_enter Tryz.func123,Tryz.ntmps123
 go_wp2
 go_loopw [8] (fun s8 wr=>∃j:Nat,s8= .int .i64 j∧j≤N∧(∀t x,t<j→l[t]? =some x→decide (x.name=nm)=false)∧Below W.heap.size W wr) (fun s8 _=>N -(intOf s8).toNat)
 case atStart=>exact ⟨0,rfl,Nat.zero_le _,fun t x ht=>by omega,Below.refl _ _⟩
 case round=>
  obtain⟨j,rfl,hj,hall,hbr⟩:=hrel
  have HA:=zh hall
  have HBR:=zh hbr
  have HB1:=zh (zA hbr hB)
  clear hall
  by_cases hlt:j<N
  ·obtain⟨x,hx⟩:∃x,l[j]? =some x:=⟨_,List.getElem?_eq_getElem (by rw [HN.out];exact hlt)⟩
   obtain⟨b,oo,a1,a2,rfl,_,hc,hnm,hsp,hsb⟩:=(HS.out.keep hbr).get hx
   obtain⟨x0,x1,x2,x3⟩:=hc
   have hr:ReadC wr x a1 a2:=⟨hnm,hsp,hsb⟩
   have hcall:=zOC nm B wr HB1.out x _ _ hr
   unfold classV at hcall
   have HX:=zh hx
   clear hx hr hbr hnm hsp hsb
   cases hv:decide (x.name=nm)
   ·rw [hv] at hcall
    have HCL:=zh hcall
    have HV:=zh hv
    clear hcall hv
    go_wp2_with fail
    refine HCL.out.mono ?_
    rintro e w2 ⟨rfl,hb2⟩
    go_wp2_with fail
    go_roundw
    case rel=>
     refine⟨j+1,by go_num,by omega,fun t y ht hty=>?_,zC HBR.out hb2⟩
     by_cases e:t=j
     ·subst e;rw [HX.out] at hty;cases hty;exact HV.out
     ·exact HA.out t y (by omega) hty
    case measure=>simp [intOf];omega
   ·rw [hv] at hcall
    have HCL:=zh hcall
    have hf:=zh (zIO HA.out HX.out hv)
    clear hcall hv
    go_wp2_with fail
    refine HCL.out.mono ?_
    rintro e w2 ⟨rfl,hb2⟩
    go_wp2_with fail
    go_ret
    exact⟨by unfold Ck.classAt;rw [hf.out];rfl,zC HBR.out hb2⟩
  ·have hf:=zh (zLO (n:=N) HN.out (fun t x ht=>HA.out t x (by omega)))
   clear hbr
   go_wp2_with fail
   go_ret
   exact⟨by unfold Ck.classAt;rw [hf.out];rfl,HBR.out⟩
set_option maxRecDepth 100000 in
set_option maxHeartbeats 2000000 in
theorem zOB (nm:ByteArray) (B:Nat) (W:World) (hB:W.cell? ⟨B,0,none⟩=some (.string nm)) (x:Tr.M) (a1 a2:Value) (h:ReadM W x a1 a2):
 Calls Tryz.prog 126 #[methV x a1 a2,.pointer (some ⟨B,0,none⟩)] W fun e w'=>e= .returned (.bool (decide (x.name=nm)))∧Below W.heap.size W w':=by
 have hb0:=zZ hB
 obtain⟨pa,ca,rfl⟩:=h.2.1.form
 obtain⟨pb,cb,rfl,_⟩:=h.2.2.form
 obtain⟨AN,hAN⟩:∃N,x.params.length=N:=⟨_,rfl⟩
 obtain⟨BN,hBN⟩:∃N,x.body.length=N:=⟨_,rfl⟩
 rw [hAN,hBN]
 clear h hAN hBN
 unfold methV
 go_enter Tryz.func126,Tryz.ntmps126
 go_wp2
 go_ret
 exact⟨zAV (zAK _ _),zD _ _⟩
set_option maxRecDepth 100000 in
set_option maxHeartbeats 2000000 in
theorem zQP (nm:ByteArray) (l:List Tr.M) (B:Nat) (W:World) (hB:W.cell? ⟨B,0,none⟩=some (.string nm)) (v:Value) (hS:SlM W v l):
 Calls Tryz.prog 125 #[v,.func (.func 126) #[] #[.pointer (some ⟨B,0,none⟩)]] W fun e w'=>e= .returned (.int .i64 (idxI (Ck.methodAt l nm)))∧Below W.heap.size W w':=by
 obtain⟨p,c,rfl⟩:=hS.form
 have hll:=hS.len
 unfold maxLen at hll
 obtain⟨N,hN⟩:∃N,l.length=N:=⟨_,rfl⟩
 rw [hN] at hS hll ⊢
 have HS:=zh hS
 have HN:=zh hN
 clear hS hN
 go_enter Tryz.func125,Tryz.ntmps125
 go_wp2
 go_loopw [8] (fun s8 wr=>∃j:Nat,s8= .int .i64 j∧j≤N∧(∀t x,t<j→l[t]? =some x→decide (x.name=nm)=false)∧Below W.heap.size W wr) (fun s8 _=>N -(intOf s8).toNat)
 case atStart=>exact ⟨0,rfl,Nat.zero_le _,fun t x ht=>by omega,Below.refl _ _⟩
 case round=>
  obtain⟨j,rfl,hj,hall,hbr⟩:=hrel
  have HA:=zh hall
  have HBR:=zh hbr
  have HB1:=zh (zA hbr hB)
  clear hall
  by_cases hlt:j<N
  ·obtain⟨x,hx⟩:∃x,l[j]? =some x:=⟨_,List.getElem?_eq_getElem (by rw [HN.out];exact hlt)⟩
   obtain⟨b,oo,a1,a2,rfl,_,hc,hnm,hsp,hsb⟩:=(HS.out.keep hbr).get hx
   obtain⟨x0,x1,x2⟩:=hc
   have hr:ReadM wr x a1 a2:=⟨hnm,hsp,hsb⟩
   have hcall:=zOB nm B wr HB1.out x _ _ hr
   unfold methV at hcall
   have HX:=zh hx
   clear hx hr hbr hnm hsp hsb
   cases hv:decide (x.name=nm)
   ·rw [hv] at hcall
    have HCL:=zh hcall
    have HV:=zh hv
    clear hcall hv
    go_wp2_with fail
    refine HCL.out.mono ?_
    rintro e w2 ⟨rfl,hb2⟩
    go_wp2_with fail
    go_roundw
    case rel=>
     refine⟨j+1,by go_num,by omega,fun t y ht hty=>?_,zC HBR.out hb2⟩
     by_cases e:t=j
     ·subst e;rw [HX.out] at hty;cases hty;exact HV.out
     ·exact HA.out t y (by omega) hty
    case measure=>simp [intOf];omega
   ·rw [hv] at hcall
    have HCL:=zh hcall
    have hf:=zh (zIO HA.out HX.out hv)
    clear hcall hv
    go_wp2_with fail
    refine HCL.out.mono ?_
    rintro e w2 ⟨rfl,hb2⟩
    go_wp2_with fail
    go_ret
    exact⟨by unfold Ck.methodAt;rw [hf.out];rfl,zC HBR.out hb2⟩
  ·have hf:=zh (zLO (n:=N) HN.out (fun t x ht=>HA.out t x (by omega)))
   clear hbr
   go_wp2_with fail
   go_ret
   exact⟨by unfold Ck.methodAt;rw [hf.out];rfl,HBR.out⟩
set_option maxRecDepth 100000 in
set_option maxHeartbeats 2000000 in
theorem zG6 (nm:ByteArray) (cs:List Tr.C) (v:Value) (w:World) (h:SlC w v cs):
 Calls Tryz.prog 83 #[.agg #[v],.string nm] w fun e w'=>e= .returned (.tuple #[.int .i64 ((Ck.classAt cs nm).getD 0:Nat),.bool (Ck.classAt cs nm).isSome])∧Below w.heap.size w w':=by
 obtain⟨p,c,rfl⟩:=h.form
 have hll:=h.len
 unfold maxLen at hll
 have KF:Hid (∀W B,Below w.heap.size w W→W.cell? ⟨B,0,none⟩=some (.string nm)→Calls Tryz.prog 123 #[.slice p cs.length c,.func (.func 124) #[] #[.pointer (some ⟨B,0,none⟩)]] W fun e w'=>e= .returned (.int .i64 (idxI (Ck.classAt cs nm)))∧Below W.heap.size W w'):=fun W B hb hB=>
  zQQ nm cs B W hB _ (h.keep hb)
 cases hcl:Ck.classAt cs nm with
 |none=>
  rw [hcl] at KF
  simp only [idxI] at KF
  obtain⟨N,hN⟩:∃N,cs.length=N:=⟨_,rfl⟩
  rw [hN] at KF ⊢
  have hbx:=zC (zD w (.cells #[.slice p N c] 24)) (zD (w.alloc (.cells #[.slice p N c] 24)) (.cells #[.string nm] 9))
  have hcl2:=zP (w.alloc (.cells #[.slice p N c] 24)) #[.string nm] 9 0 _ rfl
  simp only [World.size_alloc] at hcl2
  have HC:=zh (KF.out _ _ hbx hcl2)
  have HBX:=zh hbx
  clear h hcl hN hbx hcl2 KF
  go_enter Tryz.func83,Tryz.ntmps83
  go_wp2_with fail
  refine HC.out.mono ?_
  rintro e w2 ⟨rfl,hb2⟩
  go_wp2_with fail
  go_ret2
  exact⟨rfl,zC HBX.out hb2⟩
 |some i=>
  rw [hcl] at KF
  simp only [idxI] at KF
  have hil:=zIN hcl
  obtain⟨N,hN⟩:∃N,cs.length=N:=⟨_,rfl⟩
  rw [hN] at KF hil hll ⊢
  have hbx:=zC (zD w (.cells #[.slice p N c] 24)) (zD (w.alloc (.cells #[.slice p N c] 24)) (.cells #[.string nm] 9))
  have hcl2:=zP (w.alloc (.cells #[.slice p N c] 24)) #[.string nm] 9 0 _ rfl
  simp only [World.size_alloc] at hcl2
  have HC:=zh (KF.out _ _ hbx hcl2)
  have HBX:=zh hbx
  clear h hcl hN hbx hcl2 KF
  go_enter Tryz.func83,Tryz.ntmps83
  go_wp2_with fail
  refine HC.out.mono ?_
  rintro e w2 ⟨rfl,hb2⟩
  go_wp2_with fail
  go_ret2
  exact⟨rfl,zC HBX.out hb2⟩
set_option maxRecDepth 100000 in
set_option maxHeartbeats 2000000 in
theorem method_any (nm:ByteArray) (cl:Tr.C) (fv v:Value) (w:World) (hfv:SlStr w fv cl.fields) (h:SlM w v cl.methods):
 Calls Tryz.prog 87 #[classV cl fv v,.string nm] w fun e w'=>e= .returned (.tuple #[.int .i64 ((Ck.methodAt cl.methods nm).getD 0:Nat),.bool (Ck.methodAt cl.methods nm).isSome])∧Below w.heap.size w w':=by
 obtain⟨p,c,rfl⟩:=h.form
 obtain⟨pf,cf,rfl⟩:=hfv.form
 obtain⟨FN,hFN⟩:∃N,cl.fields.length=N:=⟨_,rfl⟩
 unfold classV
 rw [hFN]
 clear hfv hFN
 have hll:=h.len
 unfold maxLen at hll
 have KF:Hid (∀W B,Below w.heap.size w W→W.cell? ⟨B,0,none⟩=some (.string nm)→Calls Tryz.prog 125 #[.slice p cl.methods.length c,.func (.func 126) #[] #[.pointer (some ⟨B,0,none⟩)]] W fun e w'=>e= .returned (.int .i64 (idxI (Ck.methodAt cl.methods nm)))∧Below W.heap.size W w'):=fun W B hb hB=>
  zQP nm cl.methods B W hB _ (h.keep hb)
 cases hcl:Ck.methodAt cl.methods nm with
 |none=>
  rw [hcl] at KF
  simp only [idxI] at KF
  obtain⟨N,hN⟩:∃N,cl.methods.length=N:=⟨_,rfl⟩
  rw [hN] at KF ⊢
  have hbx:=zC (zD w (.cells #[.string cl.name,.bool cl.actor,.slice pf FN cf,.slice p N c] 55)) (zD (w.alloc (.cells #[.string cl.name,.bool cl.actor,.slice pf FN cf,.slice p N c] 55)) (.cells #[.string nm] 9))
  have hcl2:=zP (w.alloc (.cells #[.string cl.name,.bool cl.actor,.slice pf FN cf,.slice p N c] 55)) #[.string nm] 9 0 _ rfl
  simp only [World.size_alloc] at hcl2
  have HC:=zh (KF.out _ _ hbx hcl2)
  have HBX:=zh hbx
  clear h hcl hN hbx hcl2 KF
  go_enter Tryz.func87,Tryz.ntmps87
  go_wp2_with fail
  refine HC.out.mono ?_
  rintro e w2 ⟨rfl,hb2⟩
  go_wp2_with fail
  go_ret2
  exact⟨rfl,zC HBX.out hb2⟩
 |some i=>
  rw [hcl] at KF
  simp only [idxI] at KF
  have hil:=zIN hcl
  obtain⟨N,hN⟩:∃N,cl.methods.length=N:=⟨_,rfl⟩
  rw [hN] at KF hil hll ⊢
  have hbx:=zC (zD w (.cells #[.string cl.name,.bool cl.actor,.slice pf FN cf,.slice p N c] 55)) (zD (w.alloc (.cells #[.string cl.name,.bool cl.actor,.slice pf FN cf,.slice p N c] 55)) (.cells #[.string nm] 9))
  have hcl2:=zP (w.alloc (.cells #[.string cl.name,.bool cl.actor,.slice pf FN cf,.slice p N c] 55)) #[.string nm] 9 0 _ rfl
  simp only [World.size_alloc] at hcl2
  have HC:=zh (KF.out _ _ hbx hcl2)
  have HBX:=zh hbx
  clear h hcl hN hbx hcl2 KF
  go_enter Tryz.func87,Tryz.ntmps87
  go_wp2_with fail
  refine HC.out.mono ?_
  rintro e w2 ⟨rfl,hb2⟩
  go_wp2_with fail
  go_ret2
  exact⟨rfl,zC HBX.out hb2⟩
end Go.Proofs.YtcnmfcgmnkncaaaGreatDoor
namespace Go.Proofs.YtcnmfcgmnkncaaaGreatDoor
namespace Cw
open Go.RowKit Go.Maps Pw
set_option maxRecDepth 100000 in
set_option maxHeartbeats 4000000 in
theorem zGU (s:ByteArray) (v:Value) (l:List ByteArray) (w:World) (h:SlStr w v l):
 Calls Tryz.prog 134 #[v,.string s] w fun e w'=>e= .returned (.int .i64 (Co.idx l s))∧w'=w:=by
 obtain⟨p,c,rfl,hl,hn,hx⟩:=h
 unfold maxLen at hl
 obtain⟨N,hN⟩:∃N,l.length=N:=⟨_,rfl⟩
 rw [hN] at hl ⊢
 have HX:=zh hx
 have HN:=zh hN
 clear hx hn hN
 go_enter Tryz.func134,Tryz.ntmps134
 go_wp2
 go_loop [8] (fun s8=>∃j:Nat,s8= .int .i64 j∧j≤N∧(∀t x,t<j→l[t]? =some x→decide (x=s)=false)) (fun s8=>N -(intOf s8).toNat)
 case atStart=>exact ⟨0,rfl,Nat.zero_le _,fun t x ht=>by omega⟩
 case round=>
  obtain⟨j,rfl,hj,hall⟩:=hrel
  have HA:=zh hall
  clear hall
  by_cases hlt:j<N
  ·obtain⟨x,hjx⟩:∃x,l[j]? =some x:=⟨_,List.getElem?_eq_getElem (by rw [HN.out];exact hlt)⟩
   obtain⟨_,b,o,rfl,_,hc⟩:=HX.out j x hjx
   have HJ:=zh hjx
   clear hjx
   cases hv:decide (x=s)
   ·have hv2:decide (s=x)=false:=by rw [←hv];congr 1;exact propext ⟨Eq.symm,Eq.symm⟩
    have hq:(s.toList == x.toList)=false:=by rw [zAK,hv2]
    have HV:=zh hv
    clear hv hv2
    go_wp2_with fail
    go_round
    case rel=>
     refine⟨j+1,by go_num,by omega,fun t y ht hty=>?_⟩
     by_cases e:t=j
     ·subst e;rw [HJ.out] at hty;cases hty;exact HV.out
     ·exact HA.out t y (by omega) hty
    case measure=>simp [intOf];omega
   ·have hv2:decide (s=x)=true:=by rw [←hv];congr 1;exact propext ⟨Eq.symm,Eq.symm⟩
    have hq:(s.toList == x.toList)=true:=by rw [zAK,hv2]
    have hf:Hid (Co.idx l s=(j:Int)):=zh (by unfold Co.idx;rw [zIO HA.out HJ.out hv])
    clear hv hv2
    go_wp2_with fail
    go_ret
    exact⟨by rw [hf.out];rfl,rfl⟩
  ·have hf:Hid (Co.idx l s= -1):=zh (by unfold Co.idx;rw [zLO (n:=N) HN.out (fun t x ht=>HA.out t x (by omega))])
   go_wp2_with fail
   go_ret
   exact⟨by rw [hf.out];rfl,rfl⟩
theorem zSB {g:Co.G} {s:ByteArray} (h:0≤Co.idx g.names s):(Co.name g s).1=g∧((Co.name g s).2:Int)=Co.idx g.names s:=by
 unfold Co.idx at h ⊢
 unfold Co.name
 cases hf:g.names.findIdx? (fun x=>decide (x=s)) with
 |some i=>exact ⟨rfl,rfl⟩
 |none=>rw [hf] at h;exact absurd h (by decide)
theorem zSA {g:Co.G} {s:ByteArray} (h:¬0≤Co.idx g.names s):(Co.name g s).1= { g with names:=g.names++ [s] }∧(Co.name g s).2=g.names.length:=by
 unfold Co.idx at h
 unfold Co.name
 cases hf:g.names.findIdx? (fun x=>decide (x=s)) with
 |some i=>rw [hf] at h;exact absurd (Int.natCast_nonneg i) h
 |none=>exact ⟨rfl,rfl⟩
def NQ (B0 gb:Nat) (cs:List Tr.C) (cl:Tr.C) (pv fv mv:Value) (g':Co.G) (r:Int) (cv nv vv:Value) (w:World) (e:Ending) (w':World):Prop:=
 e= .returned (.int .i64 r)∧∃cv' nv' vv',GS B0 gb cs cl pv fv mv g' cv' nv' vv' w'∧Gr w (owl gb cv nv vv) w' (owl gb cv' nv' vv')
theorem Mg.named {B0 gb:Nat} {cs:List Tr.C} {cl:Tr.C} {pv fv mv:Value} {g g':Co.G} {cv nv vv:Value} {w W W':World} {o0:List Nat} {bs:List Bk} {os:List (World→Prop)} {r:Int} (h:Mg B0 gb cs cl pv fv mv w o0 g cv nv vv bs os W) {e:Ending} (hp:NQ B0 gb cs cl pv fv mv g' r cv nv vv W e W'):e= .returned (.int .i64 r)∧∃cv' nv' vv',Hid (Mg B0 gb cs cl pv fv mv w o0 g' cv' nv' vv' bs os W'):=by
 obtain⟨he,c,n,v,h1,h2⟩:=hp
 exact⟨he,c,n,v,zh (Mg.move h h1 h2)⟩
set_option maxRecDepth 100000 in
set_option maxHeartbeats 16000000 in
theorem name_any {B0 gb:Nat} {cs:List Tr.C} {cl:Tr.C} {pv fv mv:Value} {g:Co.G} {cv nv vv:Value} {w:World} (h:GS B0 gb cs cl pv fv mv g cv nv vv w) (hB:B0≤w.heap.size) {n:Nat} (hbd:Co.Bd n g∧n≤900000) (s:ByteArray) (hsz:s.size≤maxLen):
 Calls Tryz.prog 135 #[.pointer (some ⟨gb,0,none⟩),.string s] w (NQ B0 gb cs cl pv fv mv (Co.name g s).1 (Co.name g s).2 cv nv vv w):=by
 obtain⟨i0,hi0,hz0,hz1,hz2⟩:=info_parts strInfo
 have hwl:wrap64 (g.names.length:Int)=g.names.length:=by have:=hbd.1.names;have:=hbd.2;unfold wrap64;omega
 have HBD:=zh hbd
 have HSZ:=zh hsz
 have KI:=zh (zGU s nv g.names w (zNH h.names h.ns))
 have CG:=zh (Mg.start (os:= []) h hB (fun _ h=>by cases h))
 have gl:=lt_of_block h.blk
 have g6:=gcell h (j:=6) rfl
 have gf6:=gfree h 6
 clear h hB hbd hsz
 by_cases hi:0≤Co.idx g.names s
 ·obtain⟨e1,e2⟩:=zSB hi
  rw [e1,e2]
  obtain⟨I,hI⟩:∃q,Co.idx g.names s=q:=⟨_,rfl⟩
  rw [hI] at KI hi ⊢
  clear hI e1 e2
  go_enter Tryz.func135,Tryz.ntmps135
  go_wp2_with fail
  refine KI.out.mono ?_
  rintro e w' ⟨rfl,hww⟩
  subst hww
  go_wp2_with fail
  go_ret
  exact⟨rfl,_,_,_,CG.out.q,CG.out.gr⟩
 ·obtain⟨e1,e2⟩:=zSA hi
  rw [e1,e2]
  obtain⟨I,hI⟩:∃q,Co.idx g.names s=q:=⟨_,rfl⟩
  rw [hI] at KI hi
  clear hI e1 e2
  go_enter Tryz.func135,Tryz.ntmps135
  go_wp2_with fail
  refine KI.out.mono ?_
  rintro e w' ⟨rfl,hww⟩
  rw [hww]
  clear hww
  obtain⟨G,wg,HG,HWG,hxg,CH⟩:=CG.out.boxE #[.string s] 9
  clear gl g6 gf6
  have gl:=lt_of_block CH.out.q.blk
  have g6:=gcell CH.out.q (j:=6) (u:=nv) rfl
  have gf6:=gfree CH.out.q 6
  have g60:=gcell CG.out.q (j:=6) (u:=nv) rfl
  go_wp2_with (at_builtin;rw [←HG.out,←HWG.out];refine zCB zB4 rfl _ _ 49 rfl i0 (.string ⟨#[]⟩) 16 Tryz.underlying49 hi0 hz0 hz1 hz2 rfl (by decide) rfl CH.out.q.names G #[.string s] s rfl (CH.out.b 0 rfl) rfl (zLG _) (by have:=HBD.out.1.names;have:=HBD.out.2;unfold maxLen;omega) (by have:=HBD.out.1.names;have:=HBD.out.2;omega) (Nat.le_trans CH.out.hB CH.out.le) ?_;intro v9 wa hr9 hg9 hf9;obtain⟨h1,h2⟩:=CH.out.q.addName hr9 hg9 hf9 HSZ.out;have CA:=zh (Mg.move CH.out h1 h2);obtain⟨pc,cc,hv9⟩:=own_form hr9;have hb9:=gr_at hg9 CH.out.q.blk (fun e=>(zA3.1 CH.out.q.nd).1.2.1 e.symm);have gla:=lt_of_block hb9;have ga6:=zB hb9 (j:=6) (u:=nv) rfl;have gaf6:=zI hb9 6;subst hv9;clear h1 h2 hr9 hg9 hf9 hb9 CH gl g6 gf6 g60)
  go_ret
  have hl9:(g.names++ [s]).length=g.names.length+1:=by simp
  rw [hl9] at CA
  refine⟨?_,_,_,_,CA.out.q,CA.out.gr⟩
  first|rfl|(simp [hwl];done)
end Cw
end Go.Proofs.YtcnmfcgmnkncaaaGreatDoor
