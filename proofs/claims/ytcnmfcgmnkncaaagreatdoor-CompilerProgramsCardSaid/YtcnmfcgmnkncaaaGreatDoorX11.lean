/-
  The words' operations, comparison, calculate, compute, walked.
-/
import Derived.Test.YtcnmfcgmnkncaaaGreatDoorX10
import Derived.Maps.OwnSet
set_option maxRecDepth 100000
set_option maxHeartbeats 40000000
open Go.Proofs.Tryz
namespace Go.Proofs.YtcnmfcgmnkncaaaGreatDoor
namespace Cw
open Go.RowKit Go.Maps Pw
theorem zMD (F:Nat) (cap:Array Value) (x y n er:Int) (her:er≠0) (hx:Q62 x) (hy:Q62 y) (R:World->Prop) (w:World) (hent:∀args W,(callFunc F args).run prog W= .ok (.enter F args) W)
 (H:Calls prog F (#[.int .i64 x,.int .i64 y]++cap) w fun e w'=>e= .returned (.tuple #[.int .i64 n,.int .i64 er])/\R w'):
 Calls prog 155 #[.int .u64 (enc x),.int .u64 (enc y),.func (.func F) #[] cap] w fun e w'=>e= .returned (.tuple #[.int .u64 0,.int .i64 er])/\R w':=by
 have K1:=zh (zDQ x hx w);have K2:=zh (zDQ y hy w);have HH:=zh H;have hne:(er != 0)=true:=by simp [her]
 clear H her;obtain⟨X,hX⟩:∃X,enc x=X:=⟨_,rfl⟩;obtain⟨Y,hY⟩:∃X,enc y=X:=⟨_,rfl⟩;rw [hX] at K1 |-;rw [hY] at K2 |-;clear hX hY;go_in;go_wp2_with fail;refine K1.mono ?_;rintro e w' ⟨rfl,rfl⟩;go_wp2_with fail;refine K2.mono ?_;rintro e w' ⟨rfl,rfl⟩;go_wp2_with fail;refine HH.mono ?_;rintro e w2 ⟨rfl,hR⟩;go_wp2_with fail;go_ret2;exact⟨rfl,hR⟩
theorem zC2 (n:Int):Co.wrap (wrap64 n)=Co.wrap n:=by
 unfold Co.wrap wrap64;omega
theorem zJ7 {a b:Int} (ha:Q62 a) (h: -2305843009213693951<=a):Q62 (a.tdiv b):=by
 have hd:(a.tdiv b).natAbs<=a.natAbs:=by rw [Int.natAbs_tdiv];exact Nat.div_le_self ..
 have:=ha.1;have:=ha.2;exact⟨by omega,by omega⟩
theorem zJ6 {a b:Int} (ha:Q62 a) (h: -2305843009213693951<=a):Q62 (a.tmod b):=by
 have hd:(a.tmod b).natAbs<=a.natAbs:=by rw [Int.natAbs_tmod];exact Nat.mod_le ..
 have:=ha.1;have:=ha.2;exact⟨by omega,by omega⟩
theorem addC (a b:Int) (w:World):Calls prog 177 #[.int .i64 a,.int .i64 b] w fun e w'=>e= .returned (.tuple #[.int .i64 (wrap64 (a+b)),.int .i64 0])/\w'=w:=by
 go_in;go_wp2_with fail;go_ret2;exact⟨rfl,rfl⟩
theorem addW (a b:Int) (ha:Q62 a) (hb:Q62 b) (w:World):Calls prog 158 #[.int .u64 (enc a),.int .u64 (enc b)] w fun e w'=>e= .returned (.tuple #[.int .u64 (enc (Co.wrap (a+b))),.int .i64 0])/\w'=w:=by
 have K:=zh (zEM 177 #[] a b (wrap64 (a+b)) ha hb (fun w'=>w'=w) w (enters_of func177 (by kernel_rfl) rfl) (addC a b w));rw [zC2] at K;obtain⟨X,hX⟩:∃X,enc a=X:=⟨_,rfl⟩;obtain⟨Y,hY⟩:∃X,enc b=X:=⟨_,rfl⟩;obtain⟨Z,hZ⟩:∃X,enc (Co.wrap (a+b))=X:=⟨_,rfl⟩;rw [hX,hY,hZ] at K |-;go_in;go_wp2_with fail;refine K.mono ?_;rintro e w' ⟨rfl,rfl⟩;go_wp2_with fail;go_ret2;exact⟨rfl,rfl⟩
theorem subC (a b:Int) (w:World):Calls prog 178 #[.int .i64 a,.int .i64 b] w fun e w'=>e= .returned (.tuple #[.int .i64 (wrap64 (a -b)),.int .i64 0])/\w'=w:=by
 go_in;go_wp2_with fail;go_ret2;exact⟨rfl,rfl⟩
theorem subW (a b:Int) (ha:Q62 a) (hb:Q62 b) (w:World):Calls prog 159 #[.int .u64 (enc a),.int .u64 (enc b)] w fun e w'=>e= .returned (.tuple #[.int .u64 (enc (Co.wrap (a -b))),.int .i64 0])/\w'=w:=by
 have K:=zh (zEM 178 #[] a b (wrap64 (a -b)) ha hb (fun w'=>w'=w) w (enters_of func178 (by kernel_rfl) rfl) (subC a b w));rw [zC2] at K;obtain⟨X,hX⟩:∃X,enc a=X:=⟨_,rfl⟩;obtain⟨Y,hY⟩:∃X,enc b=X:=⟨_,rfl⟩;obtain⟨Z,hZ⟩:∃X,enc (Co.wrap (a -b))=X:=⟨_,rfl⟩;rw [hX,hY,hZ] at K |-;go_in;go_wp2_with fail;refine K.mono ?_;rintro e w' ⟨rfl,rfl⟩;go_wp2_with fail;go_ret2;exact⟨rfl,rfl⟩
theorem mulC (a b:Int) (w:World):Calls prog 179 #[.int .i64 a,.int .i64 b] w fun e w'=>e= .returned (.tuple #[.int .i64 (wrap64 (a*b)),.int .i64 0])/\w'=w:=by
 go_in;go_wp2_with fail;go_ret2;exact⟨rfl,rfl⟩
theorem mulW (a b:Int) (ha:Q62 a) (hb:Q62 b) (w:World):Calls prog 160 #[.int .u64 (enc a),.int .u64 (enc b)] w fun e w'=>e= .returned (.tuple #[.int .u64 (enc (Co.wrap (a*b))),.int .i64 0])/\w'=w:=by
 have K:=zh (zEM 179 #[] a b (wrap64 (a*b)) ha hb (fun w'=>w'=w) w (enters_of func179 (by kernel_rfl) rfl) (mulC a b w));rw [zC2] at K;obtain⟨X,hX⟩:∃X,enc a=X:=⟨_,rfl⟩;obtain⟨Y,hY⟩:∃X,enc b=X:=⟨_,rfl⟩;obtain⟨Z,hZ⟩:∃X,enc (Co.wrap (a*b))=X:=⟨_,rfl⟩;rw [hX,hY,hZ] at K |-;go_in;go_wp2_with fail;refine K.mono ?_;rintro e w' ⟨rfl,rfl⟩;go_wp2_with fail;go_ret2;exact⟨rfl,rfl⟩
theorem divC0 (a:Int) (w:World):Calls prog 180 #[.int .i64 a,.int .i64 0] w fun e w'=>e= .returned (.tuple #[.int .i64 0,.int .i64 2])/\w'=w:=by
 go_in;go_wp2_with fail;go_ret2;exact⟨rfl,rfl⟩
theorem divC (a b:Int) (hb:b≠0) (ha:Q62 a) (ha2: -2305843009213693951<=a) (w:World):Calls prog 180 #[.int .i64 a,.int .i64 b] w fun e w'=>e= .returned (.tuple #[.int .i64 (a.tdiv b),.int .i64 0])/\w'=w:=by
 have h0:(b == 0)=false:=kA.2 hb;have hw:wrap64 (a.tdiv b)=a.tdiv b:=by have h:=zJ7 (b:=b) ha ha2;have:=h.1;have:=h.2;unfold wrap64;omega
 have HW:=zh hw;have HB:=zh hb;clear hw hb;go_in;go_wp2_with fail;go_ret2
 try rw [HW.out]
 exact⟨rfl,rfl⟩
theorem divW0 (a:Int) (ha:Q62 a) (w:World):Calls prog 161 #[.int .u64 (enc a),.int .u64 (enc 0)] w fun e w'=>e= .returned (.tuple #[.int .u64 0,.int .i64 2])/\w'=w:=by
 have K:=zh (zMD 180 #[] a 0 0 2 (by decide) ha ⟨by decide,by decide⟩ (fun w'=>w'=w) w (enters_of func180 (by kernel_rfl) rfl) (divC0 a w));obtain⟨X,hX⟩:∃X,enc a=X:=⟨_,rfl⟩;obtain⟨Y,hY⟩:∃X,enc 0=X:=⟨_,rfl⟩;rw [hX,hY] at K |-;go_in;go_wp2_with fail;refine K.mono ?_;rintro e w' ⟨rfl,rfl⟩;go_wp2_with fail;go_ret2;exact⟨rfl,rfl⟩
theorem divW (a b:Int) (h0:b≠0) (ha:Q62 a) (ha2: -2305843009213693951<=a) (hb:Q62 b) (w:World):Calls prog 161 #[.int .u64 (enc a),.int .u64 (enc b)] w fun e w'=>e= .returned (.tuple #[.int .u64 (enc (a.tdiv b)),.int .i64 0])/\w'=w:=by
 have K:=zh (zEM 180 #[] a b (a.tdiv b) ha hb (fun w'=>w'=w) w (enters_of func180 (by kernel_rfl) rfl) (divC a b h0 ha ha2 w));rw [wrap62 (zJ7 ha ha2)] at K;obtain⟨X,hX⟩:∃X,enc a=X:=⟨_,rfl⟩;obtain⟨Y,hY⟩:∃X,enc b=X:=⟨_,rfl⟩;obtain⟨Z,hZ⟩:∃X,enc (a.tdiv b)=X:=⟨_,rfl⟩;rw [hX,hY,hZ] at K |-;go_in;go_wp2_with fail;refine K.mono ?_;rintro e w' ⟨rfl,rfl⟩;go_wp2_with fail;go_ret2;exact⟨rfl,rfl⟩
theorem remC0 (a:Int) (w:World):Calls prog 181 #[.int .i64 a,.int .i64 0] w fun e w'=>e= .returned (.tuple #[.int .i64 0,.int .i64 2])/\w'=w:=by
 go_in;go_wp2_with fail;go_ret2;exact⟨rfl,rfl⟩
theorem remC (a b:Int) (hb:b≠0) (ha:Q62 a) (ha2: -2305843009213693951<=a) (w:World):Calls prog 181 #[.int .i64 a,.int .i64 b] w fun e w'=>e= .returned (.tuple #[.int .i64 (a.tmod b),.int .i64 0])/\w'=w:=by
 have h0:(b == 0)=false:=kA.2 hb;have hw:wrap64 (a.tmod b)=a.tmod b:=by have h:=zJ6 (b:=b) ha ha2;have:=h.1;have:=h.2;unfold wrap64;omega
 have HW:=zh hw;have HB:=zh hb;clear hw hb;go_in;go_wp2_with fail;go_ret2
 try rw [HW.out]
 exact⟨rfl,rfl⟩
theorem remW0 (a:Int) (ha:Q62 a) (w:World):Calls prog 162 #[.int .u64 (enc a),.int .u64 (enc 0)] w fun e w'=>e= .returned (.tuple #[.int .u64 0,.int .i64 2])/\w'=w:=by
 have K:=zh (zMD 181 #[] a 0 0 2 (by decide) ha ⟨by decide,by decide⟩ (fun w'=>w'=w) w (enters_of func181 (by kernel_rfl) rfl) (remC0 a w));obtain⟨X,hX⟩:∃X,enc a=X:=⟨_,rfl⟩;obtain⟨Y,hY⟩:∃X,enc 0=X:=⟨_,rfl⟩;rw [hX,hY] at K |-;go_in;go_wp2_with fail;refine K.mono ?_;rintro e w' ⟨rfl,rfl⟩;go_wp2_with fail;go_ret2;exact⟨rfl,rfl⟩
theorem remW (a b:Int) (h0:b≠0) (ha:Q62 a) (ha2: -2305843009213693951<=a) (hb:Q62 b) (w:World):Calls prog 162 #[.int .u64 (enc a),.int .u64 (enc b)] w fun e w'=>e= .returned (.tuple #[.int .u64 (enc (a.tmod b)),.int .i64 0])/\w'=w:=by
 have K:=zh (zEM 181 #[] a b (a.tmod b) ha hb (fun w'=>w'=w) w (enters_of func181 (by kernel_rfl) rfl) (remC a b h0 ha ha2 w));rw [wrap62 (zJ6 ha ha2)] at K;obtain⟨X,hX⟩:∃X,enc a=X:=⟨_,rfl⟩;obtain⟨Y,hY⟩:∃X,enc b=X:=⟨_,rfl⟩;obtain⟨Z,hZ⟩:∃X,enc (a.tmod b)=X:=⟨_,rfl⟩;rw [hX,hY,hZ] at K |-;go_in;go_wp2_with fail;refine K.mono ?_;rintro e w' ⟨rfl,rfl⟩;go_wp2_with fail;go_ret2;exact⟨rfl,rfl⟩
def cmpI (a b:Int):Int:=if a<b then -1 else if b<a then 1 else 0
theorem nanI (a:Int) (w:World):Calls prog 176 #[.int .i64 a] w fun e w'=>e= .returned (.bool false)/\w'=w:=by
 have h:(a != a)=false:=by simp
 go_in;go_wp2;go_ret
 try rw [h]
 exact⟨rfl,rfl⟩
theorem compareI (a b:Int) (w:World):Calls prog 157 #[.int .i64 a,.int .i64 b] w fun e w'=>e= .returned (.int .i64 (cmpI a b))/\w'=w:=by
 have K1:=zh (nanI a w);have K2:=zh (nanI b w);rcases Int.lt_trichotomy a b with h|h|h
 ·have HE:Hid (cmpI a b= -1):=zh (kD h);have h1:decide (a<b)=true:=kS h;go_in;go_wp2_with fail;refine K1.mono ?_;rintro e w' ⟨rfl,rfl⟩;go_wp2_with fail;refine K2.mono ?_;rintro e w' ⟨rfl,rfl⟩;go_wp2;go_ret;rw [HE.out];exact⟨rfl,rfl⟩
 ·have HE:Hid (cmpI a b=0):=zh (by unfold cmpI;rw [kC (by omega),kC (by omega)]);have h1:¬a<b:=(by omega);have h2:¬b<a:=(by omega);have h3:a<=b:=(by omega);have h4:b<=a:=(by omega);clear h;go_in;go_wp2_with fail;refine K1.mono ?_;rintro e w' ⟨rfl,rfl⟩;go_wp2_with fail;refine K2.mono ?_;rintro e w' ⟨rfl,rfl⟩;go_wp2;go_ret;rw [HE.out];exact⟨rfl,rfl⟩
 ·have HE:Hid (cmpI a b=1):=zh (by unfold cmpI;rw [kC (by omega),kD h]);have h1:¬a<b:=(by omega);have h3:b<=a:=(by omega);go_in;go_wp2_with fail;refine K1.mono ?_;rintro e w' ⟨rfl,rfl⟩;go_wp2_with fail;refine K2.mono ?_;rintro e w' ⟨rfl,rfl⟩;go_wp2;go_ret;rw [HE.out];exact⟨rfl,rfl⟩
theorem compareC (a b:Int) (X:Nat) (v:Value) (w:World) (hX:w.heap[X]? =some (.cells #[v] 3 (0,0))):Calls prog 156 #[.int .i64 a,.int .i64 b,.pointer (some ⟨X,0,none⟩)] w fun e w'=>e= .returned (.tuple #[.int .i64 0,.int .i64 0])/\w'=w.setCell ⟨X,0,none⟩ (.int .i64 (cmpI a b)):=by
 have K1:=zh (compareI a b w);obtain⟨l0,c0,f0⟩:=zS hX;clear hX;go_in;go_wp2_with fail;refine K1.mono ?_;rintro e w' ⟨rfl,rfl⟩;go_wp2_with fail;go_ret2;exact⟨rfl,rfl⟩
theorem compareW (a b:Int) (ha:Q62 a) (hb:Q62 b) (w:World):Calls prog 103 #[.int .u64 (enc a),.int .u64 (enc b)] w fun e w'=>e= .returned (.tuple #[.int .i64 (cmpI a b),.int .i64 0])/\Below w.heap.size w w':=by
 obtain⟨w1,HW,C1⟩:=(My.start w).boxR #[.int .i64 0] 3;have K:=zh (zEM 156 #[.pointer (some ⟨w.heap.size,0,none⟩)] a b 0 ha hb (fun w'=>w'=w1.setCell ⟨w.heap.size,0,none⟩ (.int .i64 (cmpI a b))) w1 (enters_of func156 (by kernel_rfl) rfl) (compareC a b w.heap.size _ w1 (C1.b 0 rfl)));obtain⟨X,hX⟩:∃X,enc a=X:=⟨_,rfl⟩;obtain⟨Y,hY⟩:∃X,enc b=X:=⟨_,rfl⟩;obtain⟨Z,hZ⟩:∃X,enc (Co.wrap 0)=X:=⟨_,rfl⟩;rw [hX,hY,hZ] at K;rw [hX,hY];clear hX hY hZ;have C2:=zh (C1.set 0 rfl (zW w1 w.heap.size 0 (.int .i64 (cmpI a b))) (heap_set (j:=0) (.int .i64 (cmpI a b)) (C1.b 0 rfl)));obtain⟨l0,c0,f0⟩:=zS (C1.b 0 rfl);obtain⟨d0,e0,g0⟩:=zS (C2.b 0 rfl);go_in;go_upto_region 2 with fail
 try rw [<-HW.out]
 go_wp2_with fail;refine K.mono ?_;rintro e w' ⟨rfl,rfl⟩;go_wp2_with fail;go_ret2;exact⟨rfl,My.fin C2⟩
theorem cmpC1 (a b:Int) (w:World):Calls prog 149 #[.int .i64 (cmpI a b)] w fun e w'=>e= .returned (.bool ((a == b)))/\w'=w:=by
 have HE:Hid ((cmpI a b == 0)=(a == b)):=zh (by
  unfold cmpI;rcases Int.lt_trichotomy a b with h|h|h
  ·rw [kD h];simp;try omega
  ·subst h;simp
  ·rw [kC (by omega),kD h];simp;try omega)
 obtain⟨c,hc⟩:∃q,cmpI a b=q:=⟨_,rfl⟩;rw [hc] at HE |-;go_in;go_wp2;go_ret;rw [<-HE.out];exact⟨rfl,rfl⟩
theorem cmpC2 (a b:Int) (w:World):Calls prog 150 #[.int .i64 (cmpI a b)] w fun e w'=>e= .returned (.bool ((a != b)))/\w'=w:=by
 have HE:Hid ((cmpI a b != 0)=(a != b)):=zh (by
  unfold cmpI;rcases Int.lt_trichotomy a b with h|h|h
  ·rw [kD h];simp;try omega
  ·subst h;simp
  ·rw [kC (by omega),kD h];simp;try omega)
 obtain⟨c,hc⟩:∃q,cmpI a b=q:=⟨_,rfl⟩;rw [hc] at HE |-;go_in;go_wp2;go_ret;rw [<-HE.out];exact⟨rfl,rfl⟩
theorem cmpC3 (a b:Int) (w:World):Calls prog 151 #[.int .i64 (cmpI a b)] w fun e w'=>e= .returned (.bool (decide (a<b)))/\w'=w:=by
 have HE:Hid (decide (cmpI a b<0)=decide (a<b)):=zh (by
  unfold cmpI;rcases Int.lt_trichotomy a b with h|h|h
  ·rw [kD h];simp;try omega
  ·subst h;simp
  ·rw [kC (by omega),kD h];simp;try omega)
 obtain⟨c,hc⟩:∃q,cmpI a b=q:=⟨_,rfl⟩;rw [hc] at HE |-;go_in;go_wp2;go_ret;rw [<-HE.out];exact⟨rfl,rfl⟩
theorem cmpC4 (a b:Int) (w:World):Calls prog 152 #[.int .i64 (cmpI a b)] w fun e w'=>e= .returned (.bool (decide (a<=b)))/\w'=w:=by
 have HE:Hid (decide (cmpI a b<=0)=decide (a<=b)):=zh (by
  unfold cmpI;rcases Int.lt_trichotomy a b with h|h|h
  ·rw [kD h];simp;try omega
  ·subst h;simp
  ·rw [kC (by omega),kD h];simp;try omega)
 obtain⟨c,hc⟩:∃q,cmpI a b=q:=⟨_,rfl⟩;rw [hc] at HE |-;go_in;go_wp2;go_ret;rw [<-HE.out];exact⟨rfl,rfl⟩
theorem cmpC5 (a b:Int) (w:World):Calls prog 153 #[.int .i64 (cmpI a b)] w fun e w'=>e= .returned (.bool (decide (b<a)))/\w'=w:=by
 have HE:Hid (decide (0<cmpI a b)=decide (b<a)):=zh (by
  unfold cmpI;rcases Int.lt_trichotomy a b with h|h|h
  ·rw [kD h];simp;try omega
  ·subst h;simp
  ·rw [kC (by omega),kD h];simp;try omega)
 obtain⟨c,hc⟩:∃q,cmpI a b=q:=⟨_,rfl⟩;rw [hc] at HE |-;go_in;go_wp2;go_ret;rw [<-HE.out];exact⟨rfl,rfl⟩
theorem cmpC6 (a b:Int) (w:World):Calls prog 154 #[.int .i64 (cmpI a b)] w fun e w'=>e= .returned (.bool (decide (b<=a)))/\w'=w:=by
 have HE:Hid (decide (0<=cmpI a b)=decide (b<=a)):=zh (by
  unfold cmpI;rcases Int.lt_trichotomy a b with h|h|h
  ·rw [kD h];simp;try omega
  ·subst h;simp
  ·rw [kC (by omega),kD h];simp;try omega)
 obtain⟨c,hc⟩:∃q,cmpI a b=q:=⟨_,rfl⟩;rw [hc] at HE |-;go_in;go_wp2;go_ret;rw [<-HE.out];exact⟨rfl,rfl⟩
theorem zAZ {H:Type} {P:Program} (w:World) {ops:Array Oper} {rest:List Oper} {o:Oper} {a:Act} {Q:Exit->Act->World->Prop}
 (hg:o.guard=none) (m x v:Operand) (t:TypeId) (hop:o.op=Op.insert t m x v)
 (k e:TypeId) (K:Keyed P k) (ht:P.underlying t=some (.map k e)) (R:Value->Option (DataW H × List MemPlace)) (b n:Nat) (D:DataW H)
 (hm:a.eval m= .map (some b)) (hown:w.ownsMap P k R b n D) (hn:n<maxLen) (key val:Value) (kl:Lit) (hx:a.eval x=key) (hv:a.eval v=val) (hkey:keyOf P k key=some kl)
 (d:DataW H) (ps:List MemPlace) (hval:R val=some (d,ps))
 (hK:∀w',w'.ownsMap P k R b (n+1) (D.put kl d)->w.grownBy w' (some b)->wpList P ops Q rest (a.put o.dst undef) w'):
 wpList P ops Q (o::rest) a w:=by
 refine wpList_plain hg fun K' hK'=>?_
 obtain⟨w',hrun,r1,r2⟩:=hown.update K ht hn hkey hval;unfold Oper.wp;simp [execOp,hop,hm,hx,hv,hrun,Result.andThen];exact hK' _ _ (hK w' r1 r2)
theorem keyI:Keyed prog 3:=int_keyed underlying3
theorem keyOfI (n:Int) (h0:0<=n) (h1:n<=100):keyOf prog 3 (.int .i64 n)=some (.int .i64 n):=keyOf_int_mk underlying3 (by simp [Lit.wf,IntKind.min,IntKind.max,IntKind.signed,IntKind.bits];omega)
def rdV (v:Value):Option (DataW Value × List MemPlace):=some (.held v,[])
def cmpV (o:Int):Value:=if o=5 then .func (.func 149) #[] #[] else if o=6 then .func (.func 150) #[] #[] else if o=7 then .func (.func 151) #[] #[] else if o=8 then .func (.func 152) #[] #[] else if o=9 then .func (.func 153) #[] #[] else if o=10 then .func (.func 154) #[] #[] else .nilFunc
def cmpM1:DataW Value:=((DataW.map []).put (.int .i64 5) (.held (cmpV 5)))
def cmpM2:DataW Value:=(cmpM1.put (.int .i64 6) (.held (cmpV 6)))
def cmpM3:DataW Value:=(cmpM2.put (.int .i64 7) (.held (cmpV 7)))
def cmpM4:DataW Value:=(cmpM3.put (.int .i64 8) (.held (cmpV 8)))
def cmpM5:DataW Value:=(cmpM4.put (.int .i64 9) (.held (cmpV 9)))
def cmpM6:DataW Value:=(cmpM5.put (.int .i64 10) (.held (cmpV 10)))
theorem zUO (o:Int) (z:DataW Value):cmpM6.atKey (.int .i64 o) z=if 5<=o/\o<=10 then .held (cmpV o) else z:=by
 have M1:IsMap cmpM1:=isMap_empty.put _ _;have M2:IsMap cmpM2:=M1.put _ _;have M3:IsMap cmpM3:=M2.put _ _;have M4:IsMap cmpM4:=M3.put _ _;have M5:IsMap cmpM5:=M4.put _ _;have hne:∀ {i:Int},o≠i->(Lit.int IntKind.i64 o)≠Lit.int IntKind.i64 i:=fun h e=>h (by injection e)
 by_cases h10:o=10
 ·subst h10;unfold cmpM6;rw [atKey_put_same M5 (by trivial)];rfl
 ·unfold cmpM6;rw [atKey_put_other (hne h10)];by_cases h9:o=9
  ·subst h9;unfold cmpM5;rw [atKey_put_same M4 (by trivial)];rfl
  ·unfold cmpM5;rw [atKey_put_other (hne h9)];by_cases h8:o=8
   ·subst h8;unfold cmpM4;rw [atKey_put_same M3 (by trivial)];rfl
   ·unfold cmpM4;rw [atKey_put_other (hne h8)];by_cases h7:o=7
    ·subst h7;unfold cmpM3;rw [atKey_put_same M2 (by trivial)];rfl
    ·unfold cmpM3;rw [atKey_put_other (hne h7)];by_cases h6:o=6
     ·subst h6;unfold cmpM2;rw [atKey_put_same M1 (by trivial)];rfl
     ·unfold cmpM2;rw [atKey_put_other (hne h6)];by_cases h5:o=5
      ·subst h5;unfold cmpM1;rw [atKey_put_same isMap_empty (by trivial)];rfl
      ·unfold cmpM1;rw [atKey_put_other (hne h5),kC (by omega)]
       rfl
theorem funcZero (w:World):(zeroValue 167).run prog w= .ok .nilFunc w:=by kernel_rfl
theorem zFY (w:World) (b n:Nat) (h:w.ownsMap prog 3 rdV b n cmpM6) (o:Int) (h0:0<=o) (h1:o<=12):
 (Instr.lookup 205 (.map (some b)) (.int .i64 o) true).run prog w= .ok (.tuple #[cmpV o,.bool (decide (5<=o/\o<=10))]) w:=by
 obtain⟨es,clock,hb,F,_,hD⟩:=h;rcases Maps.fit_look true keyI underlying205 (funcZero w) hb F (keyOfI o h0 (by omega)) with ⟨hrun,_,hat⟩|⟨e0,y,_,_,hrun,hRv,hat,_⟩
 ·rw [<-hD] at hat;rw [hrun];have h2:=hat (.lit (.bool false));rw [zUO] at h2;by_cases hc:5<=o/\o<=10
  ·rw [kD hc] at h2;cases h2
  ·rw [kE hc];have hv:cmpV o= .nilFunc:=by
    unfold cmpV;rw [kC (by omega),kC (by omega),kC (by omega),kC (by omega),kC (by omega),kC (by omega)]
   rw [hv]
   rfl
 ·rw [<-hD] at hat;rw [hrun];have h2:=hat (.lit (.bool false));rw [zUO] at h2;have hy:y=(.held e0.val,[]):=by
   unfold rdV at hRv;injection hRv with hRv
   exact hRv.symm
  rw [hy] at h2;by_cases hc:5<=o/\o<=10
  ·rw [kD hc] at h2;injection h2 with h2
   rw [kS hc,<-h2]
   rfl
  ·rw [kC hc] at h2;cases h2
theorem zER (o:Int) (h0:0<=o) (h1:o<=12) (w:World):Calls prog 102 #[.int .i64 o] w fun e w'=>e= .returned (.tuple #[cmpV o,.bool (decide (5<=o/\o<=10))])/\Below w.heap.size w w':=by
 obtain⟨V,hV⟩:∃q,cmpV o=q:=⟨_,rfl⟩;obtain⟨B,hB⟩:∃q,decide (5<=o/\o<=10)=q:=⟨_,rfl⟩;have zFY:=fun w b n h=>zFY w b n h o h0 h1
 rw [hV,hB] at zFY;rw [hV,hB];clear hV hB;have CL:=zh zFY;clear zFY;have h0':=zh h0;have h1':=zh h1;clear h0 h1;have hmm:=@run_makeMap prog;go_in;go_wp2_with (first
  |(refine zAZ _ rfl _ _ _ 205 rfl 3 167 keyI underlying205 rdV w.heap.size 5 cmpM5 rfl HO5 (by unfold maxLen;omega) (.int .i64 10) (cmpV 10) (.int .i64 10) rfl rfl (keyOfI 10 (by decide) (by decide)) (.held (cmpV 10)) [] rfl ?_;intro w6 ho6 hg6;have HL:=zh (CL w6 _ _ ho6);have hlook:=HL.out;have HO6:=zh ho6;have HG6:=zh hg6;clear ho6 hg6)
  |(refine zAZ _ rfl _ _ _ 205 rfl 3 167 keyI underlying205 rdV w.heap.size 4 cmpM4 rfl HO4 (by unfold maxLen;omega) (.int .i64 9) (cmpV 9) (.int .i64 9) rfl rfl (keyOfI 9 (by decide) (by decide)) (.held (cmpV 9)) [] rfl ?_;intro w5 ho5 hg5;have HO5:=zh ho5;have HG5:=zh hg5;clear ho5 hg5)
  |(refine zAZ _ rfl _ _ _ 205 rfl 3 167 keyI underlying205 rdV w.heap.size 3 cmpM3 rfl HO3 (by unfold maxLen;omega) (.int .i64 8) (cmpV 8) (.int .i64 8) rfl rfl (keyOfI 8 (by decide) (by decide)) (.held (cmpV 8)) [] rfl ?_;intro w4 ho4 hg4;have HO4:=zh ho4;have HG4:=zh hg4;clear ho4 hg4)
  |(refine zAZ _ rfl _ _ _ 205 rfl 3 167 keyI underlying205 rdV w.heap.size 2 cmpM2 rfl HO2 (by unfold maxLen;omega) (.int .i64 7) (cmpV 7) (.int .i64 7) rfl rfl (keyOfI 7 (by decide) (by decide)) (.held (cmpV 7)) [] rfl ?_;intro w3 ho3 hg3;have HO3:=zh ho3;have HG3:=zh hg3;clear ho3 hg3)
  |(refine zAZ _ rfl _ _ _ 205 rfl 3 167 keyI underlying205 rdV w.heap.size 1 cmpM1 rfl HO1 (by unfold maxLen;omega) (.int .i64 6) (cmpV 6) (.int .i64 6) rfl rfl (keyOfI 6 (by decide) (by decide)) (.held (cmpV 6)) [] rfl ?_;intro w2 ho2 hg2;have HO2:=zh ho2;have HG2:=zh hg2;clear ho2 hg2)
  |(refine zAZ _ rfl _ _ _ 205 rfl 3 167 keyI underlying205 rdV w.heap.size 0 (DataW.map []) rfl (World.ownsMap_made w _ _ _) (by unfold maxLen;omega) (.int .i64 5) (cmpV 5) (.int .i64 5) rfl rfl (keyOfI 5 (by decide) (by decide)) (.held (cmpV 5)) [] rfl ?_;intro w1 ho1 hg1;have HO1:=zh ho1;have HG1:=zh hg1;clear ho1 hg1))
 go_ret2;have hb1:Below w.heap.size w w1:=(zD w (.map #[] 0)).grown HG1 (by simp) (fun q hq=>by cases hq;exact kL _);have st:∀ {W W':World},Below w.heap.size w W->W.grownBy W' (some w.heap.size)->Below w.heap.size w W':=fun h g=>h.grown g h.size (fun q hq=>by cases hq;exact kL _)
 exact⟨rfl,st (st (st (st (st hb1 HG2) HG3) HG4) HG5) HG6⟩
theorem zKS (b:Bool) (w:World):Calls prog 67 #[.bool b] w fun e w'=>e= .returned (.int .i64 (Co.bit b))/\w'=w:=by
 cases b
 ·go_in;go_wp2;go_ret;exact⟨rfl,rfl⟩
 ·go_in;go_wp2;go_ret;exact⟨rfl,rfl⟩
theorem calc0 {X E:Int} (a b:Int) (K:∀w,Calls prog 158 #[.int .u64 (enc a),.int .u64 (enc b)] w fun e w'=>e= .returned (.tuple #[.int .u64 X,.int .i64 E])/\w'=w) (w:World):Calls prog 104 #[.int .i64 0,.int .u64 (enc a),.int .u64 (enc b)] w fun e w'=>e= .returned (.tuple #[.int .u64 X,.int .i64 E])/\w'=w:=by
 have KK:=zh (K w);obtain⟨Y,hX⟩:∃X,enc a=X:=⟨_,rfl⟩;obtain⟨Z,hY⟩:∃X,enc b=X:=⟨_,rfl⟩;rw [hX,hY] at KK |-;clear hX hY K;go_in;go_wp2_with fail;refine KK.mono ?_;rintro e w' ⟨rfl,rfl⟩;go_wp2_with fail;go_ret2;exact⟨rfl,rfl⟩
theorem calc1 {X E:Int} (a b:Int) (K:∀w,Calls prog 159 #[.int .u64 (enc a),.int .u64 (enc b)] w fun e w'=>e= .returned (.tuple #[.int .u64 X,.int .i64 E])/\w'=w) (w:World):Calls prog 104 #[.int .i64 1,.int .u64 (enc a),.int .u64 (enc b)] w fun e w'=>e= .returned (.tuple #[.int .u64 X,.int .i64 E])/\w'=w:=by
 have KK:=zh (K w);obtain⟨Y,hX⟩:∃X,enc a=X:=⟨_,rfl⟩;obtain⟨Z,hY⟩:∃X,enc b=X:=⟨_,rfl⟩;rw [hX,hY] at KK |-;clear hX hY K;go_in;go_wp2_with fail;refine KK.mono ?_;rintro e w' ⟨rfl,rfl⟩;go_wp2_with fail;go_ret2;exact⟨rfl,rfl⟩
theorem calc2 {X E:Int} (a b:Int) (K:∀w,Calls prog 160 #[.int .u64 (enc a),.int .u64 (enc b)] w fun e w'=>e= .returned (.tuple #[.int .u64 X,.int .i64 E])/\w'=w) (w:World):Calls prog 104 #[.int .i64 2,.int .u64 (enc a),.int .u64 (enc b)] w fun e w'=>e= .returned (.tuple #[.int .u64 X,.int .i64 E])/\w'=w:=by
 have KK:=zh (K w);obtain⟨Y,hX⟩:∃X,enc a=X:=⟨_,rfl⟩;obtain⟨Z,hY⟩:∃X,enc b=X:=⟨_,rfl⟩;rw [hX,hY] at KK |-;clear hX hY K;go_in;go_wp2_with fail;refine KK.mono ?_;rintro e w' ⟨rfl,rfl⟩;go_wp2_with fail;go_ret2;exact⟨rfl,rfl⟩
theorem calc3 {X E:Int} (a b:Int) (K:∀w,Calls prog 161 #[.int .u64 (enc a),.int .u64 (enc b)] w fun e w'=>e= .returned (.tuple #[.int .u64 X,.int .i64 E])/\w'=w) (w:World):Calls prog 104 #[.int .i64 3,.int .u64 (enc a),.int .u64 (enc b)] w fun e w'=>e= .returned (.tuple #[.int .u64 X,.int .i64 E])/\w'=w:=by
 have KK:=zh (K w);obtain⟨Y,hX⟩:∃X,enc a=X:=⟨_,rfl⟩;obtain⟨Z,hY⟩:∃X,enc b=X:=⟨_,rfl⟩;rw [hX,hY] at KK |-;clear hX hY K;go_in;go_wp2_with fail;refine KK.mono ?_;rintro e w' ⟨rfl,rfl⟩;go_wp2_with fail;go_ret2;exact⟨rfl,rfl⟩
theorem calc4 {X E:Int} (a b:Int) (K:∀w,Calls prog 162 #[.int .u64 (enc a),.int .u64 (enc b)] w fun e w'=>e= .returned (.tuple #[.int .u64 X,.int .i64 E])/\w'=w) (w:World):Calls prog 104 #[.int .i64 4,.int .u64 (enc a),.int .u64 (enc b)] w fun e w'=>e= .returned (.tuple #[.int .u64 X,.int .i64 E])/\w'=w:=by
 have KK:=zh (K w);obtain⟨Y,hX⟩:∃X,enc a=X:=⟨_,rfl⟩;obtain⟨Z,hY⟩:∃X,enc b=X:=⟨_,rfl⟩;rw [hX,hY] at KK |-;clear hX hY K;go_in;go_wp2_with fail;refine KK.mono ?_;rintro e w' ⟨rfl,rfl⟩;go_wp2_with fail;go_ret2;exact⟨rfl,rfl⟩
theorem zCT (d:Int) (e1:cmpV d= .nilFunc) (e2:decide ((5:Int)<=d/\d<=10)=false) (h1:0<=d) (h2:d<=12) (a b X E n:Int) (ok:Bool) (ha:Q62 a) (hb:Q62 b) (w:World) (KC:∀w,Calls prog 104 #[.int .i64 d,.int .u64 (enc a),.int .u64 (enc b)] w fun e w'=>e= .returned (.tuple #[.int .u64 X,.int .i64 E])/\w'=w) (KI:∀w,Calls prog 105 #[.int .u64 X] w fun e w'=>e= .returned (.tuple #[.int .i64 n,.bool ok])/\w'=w):
 Calls prog 68 #[.int .i64 d,.int .i64 a,.int .i64 b] w fun e w'=>e= .returned (.tuple #[.int .i64 n,.bool (E == 0)])/\Below w.heap.size w w':=by
 have K1:=zh (zCS a ha w);have K2:=zh (zCS b hb w);have K3:=zh (zER d h1 h2 w);rw [e1,e2] at K3;have KK:=zh KC;have KJ:=zh KI;obtain⟨Y,hX⟩:∃X,enc a=X:=⟨_,rfl⟩;obtain⟨Z,hY⟩:∃X,enc b=X:=⟨_,rfl⟩;rw [hX,hY] at KK;rw [hX] at K1;rw [hY] at K2;clear hX hY KC KI e1 e2 ha hb h1 h2;go_in;go_wp2_with fail;refine K1.mono ?_;rintro e w' ⟨rfl,rfl⟩;go_wp2_with fail;refine K2.mono ?_;rintro e w' ⟨rfl,rfl⟩;go_wp2_with fail;refine K3.mono ?_;rintro e w2 ⟨rfl,hb2⟩;go_wp2_with fail;refine(KK w2).mono ?_;rintro e w' ⟨rfl,rfl⟩;go_wp2_with fail;refine(KJ _).mono ?_;rintro e w' ⟨rfl,rfl⟩;go_wp2_with fail;go_ret2;exact⟨rfl,hb2⟩
theorem zDI (d:Int) (fn:FuncId) (BB:Bool) (e1:cmpV d= .func (.func fn) #[] #[]) (e2:decide ((5:Int)<=d/\d<=10)=true) (h1:0<=d) (h2:d<=12) (he:∀args W,(callFunc fn args).run prog W= .ok (.enter fn args) W) (a b:Int) (KF:∀w,Calls prog fn #[.int .i64 (cmpI a b)] w fun e w'=>e= .returned (.bool BB)/\w'=w) (ha:Q62 a) (hb:Q62 b) (w:World):
 Calls prog 68 #[.int .i64 d,.int .i64 a,.int .i64 b] w fun e w'=>e= .returned (.tuple #[.int .i64 (Co.bit BB),.bool true])/\Below w.heap.size w w':=by
 have K1:=zh (zCS a ha w);have K2:=zh (zCS b hb w);have K3:=zh (zER d h1 h2 w);rw [e1,e2] at K3;have K4:Hid (∀w,Calls prog 103 #[.int .u64 (enc a),.int .u64 (enc b)] w fun e w'=>e= .returned (.tuple #[.int .i64 (cmpI a b),.int .i64 0])/\Below w.heap.size w w'):=zh (compareW a b ha hb);have K5:=zh KF;have K6:Hid (∀w,Calls prog 67 #[.bool BB] w fun e w'=>e= .returned (.int .i64 (Co.bit BB))/\w'=w):=zh (zKS BB);obtain⟨Y,hX⟩:∃X,enc a=X:=⟨_,rfl⟩;obtain⟨Z,hY⟩:∃X,enc b=X:=⟨_,rfl⟩;obtain⟨c,hc⟩:∃X,cmpI a b=X:=⟨_,rfl⟩;obtain⟨m,hm⟩:∃X,Co.bit BB=X:=⟨_,rfl⟩;rw [hX,hY,hc] at K4;rw [hc] at K5;rw [hm] at K6;rw [hX] at K1;rw [hY] at K2;rw [hm];clear hX hY hc hm e1 e2 ha hb h1 h2 KF;go_in;go_wp2_with fail;refine K1.mono ?_;rintro e w' ⟨rfl,rfl⟩;go_wp2_with fail;refine K2.mono ?_;rintro e w' ⟨rfl,rfl⟩;go_wp2_with fail;refine K3.mono ?_;rintro e w2 ⟨rfl,hb2⟩;go_wp2_with fail;refine(K4 w2).mono ?_;rintro e w3 ⟨rfl,hb3⟩;go_wp2_with fail;refine(K5 _).mono ?_;rintro e w' ⟨rfl,rfl⟩;go_wp2_with fail;refine(K6 _).mono ?_;rintro e w' ⟨rfl,rfl⟩;go_wp2_with fail;go_ret2;exact⟨rfl,zC hb2 hb3⟩
theorem zNI (o a b:Int) (h0:0<=o) (h1:o<=10) (ha:Q62 a) (ha2: -2305843009213693951<=a) (hb:Q62 b) (w:World):
 Calls prog 68 #[.int .i64 o,.int .i64 a,.int .i64 b] w fun e w'=>e= .returned (.tuple #[.int .i64 ((Co.calcO o a b).getD 0),.bool (Co.calcO o a b).isSome])/\Below w.heap.size w w':=by
 have hcase:o=0\/o=1\/o=2\/o=3\/o=4\/o=5\/o=6\/o=7\/o=8\/o=9\/o=10:=by omega
 rcases hcase with rfl|rfl|rfl|rfl|rfl|rfl|rfl|rfl|rfl|rfl|rfl
 ·exact zCT 0 rfl rfl (by decide) (by decide) a b _ _ _ _ ha hb w (calc0 a b (fun w=>addW a b ha hb w)) (zDQ _ (zG1 _))
 ·exact zCT 1 rfl rfl (by decide) (by decide) a b _ _ _ _ ha hb w (calc1 a b (fun w=>subW a b ha hb w)) (zDQ _ (zG1 _))
 ·exact zCT 2 rfl rfl (by decide) (by decide) a b _ _ _ _ ha hb w (calc2 a b (fun w=>mulW a b ha hb w)) (zDQ _ (zG1 _))
 ·by_cases hz:b=0
  ·subst hz;exact zCT 3 rfl rfl (by decide) (by decide) a 0 _ _ _ _ ha hb w (calc3 a 0 (fun w=>divW0 a ha w)) zN2
  ·have e:Co.calcO 3 a b=some (a.tdiv b):=by unfold Co.calcO;rw [kC (by decide),kC (by decide),kC (by decide),kD rfl,kC hz]
   rw [e];exact zCT 3 rfl rfl (by decide) (by decide) a b _ _ _ _ ha hb w (calc3 a b (fun w=>divW a b hz ha ha2 hb w)) (zDQ _ (zJ7 ha ha2))
 ·by_cases hz:b=0
  ·subst hz;exact zCT 4 rfl rfl (by decide) (by decide) a 0 _ _ _ _ ha hb w (calc4 a 0 (fun w=>remW0 a ha w)) zN2
  ·have e:Co.calcO 4 a b=some (a.tmod b):=by unfold Co.calcO;rw [kC (by decide),kC (by decide),kC (by decide),kC (by decide),kD rfl,kC hz]
   rw [e];exact zCT 4 rfl rfl (by decide) (by decide) a b _ _ _ _ ha hb w (calc4 a b (fun w=>remW a b hz ha ha2 hb w)) (zDQ _ (zJ6 ha ha2))
 ·exact zDI 5 _ _ rfl rfl (by decide) (by decide) (enters_of func149 (by kernel_rfl) rfl) a b (cmpC1 a b) ha hb w
 ·exact zDI 6 _ _ rfl rfl (by decide) (by decide) (enters_of func150 (by kernel_rfl) rfl) a b (cmpC2 a b) ha hb w
 ·exact zDI 7 _ _ rfl rfl (by decide) (by decide) (enters_of func151 (by kernel_rfl) rfl) a b (cmpC3 a b) ha hb w
 ·exact zDI 8 _ _ rfl rfl (by decide) (by decide) (enters_of func152 (by kernel_rfl) rfl) a b (cmpC4 a b) ha hb w
 ·exact zDI 9 _ _ rfl rfl (by decide) (by decide) (enters_of func153 (by kernel_rfl) rfl) a b (cmpC5 a b) ha hb w
 ·exact zDI 10 _ _ rfl rfl (by decide) (by decide) (enters_of func154 (by kernel_rfl) rfl) a b (cmpC6 a b) ha hb w
end Cw
end Go.Proofs.YtcnmfcgmnkncaaaGreatDoor
