/-
  Several texts in one: CoWord, CoCalc.
-/
import Derived.Test.YtcnmfcgmnkncaaaGreatDoorJ2
import Derived.Laws.Bits64b
import Derived.WalkLawsBesides
import Derived.Maps.OwnSet
import Derived.Shelf.Abstract
import Derived.Deep.DeepCutAuto
namespace Go.Proofs.YtcnmfcgmnkncaaaGreatDoor
namespace Cw
open Go.RowKit Go.Maps Pw
theorem zTD (n:Int):wrap64 (n*4) / 4=Co.wrap n:=by
 unfold wrap64 Co.wrap
 omega
def Q62 (n:Int):Prop:= -2305843009213693952≤n∧n≤2305843009213693951
theorem wrap62 {n:Int} (h:Q62 n):Co.wrap n=n:=by
 unfold Co.wrap
 have:=h.1
 have:=h.2
 omega
theorem zFL (n:Int):Q62 (Co.wrap n):=Co.zOQ n
def enc (n:Int):Int:=(n*4+1) % 18446744073709551616
theorem enc_or (n:Int):bits BinOp.or IntKind.u64 (IntKind.u64.wrap (IntKind.u64.wrap n*4)) 1=enc n:=by
 have h1:IntKind.u64.wrap (IntKind.u64.wrap n*4)=(((4*(n % 4611686018427387904).toNat:Nat)):Int):=by
  rw [IntKind.wrap_u64,IntKind.wrap_u64]
  omega
 have h3:(1:Int)=((1:Nat):Int):=rfl
 rw [h1,h3,bits_or_u64_nat _ _ (by omega) (by decide)]
 have h2:=Nat.two_pow_add_eq_or_of_lt (i:=2) (b:=1) (by decide) (n % 4611686018427387904).toNat
 rw [show (2:Nat) ^ 2=4 from rfl] at h2
 rw [←h2]
 unfold enc
 omega
theorem zUB (n:Int):bits BinOp.and IntKind.u64 (enc n) 3=1:=by
 have h1:enc n=(((enc n).toNat:Nat):Int):=by unfold enc;omega
 have h3:(3:Int)=((3:Nat):Int):=rfl
 rw [h1,h3,bits_and_u64_nat _ _ (by unfold enc;omega) (by decide)]
 have h2:=Nat.and_two_pow_sub_one_eq_mod (enc n).toNat 2
 rw [show 2 ^ 2 -1=3 from rfl,show 2 ^ 2=4 from rfl] at h2
 rw [h2]
 unfold enc
 omega
theorem zUA {n:Int} (h:Q62 n):wrap64 (enc n) / 4=n:=by
 have:=h.1
 have:=h.2
 unfold wrap64 enc
 omega
set_option maxRecDepth 100000 in
set_option maxHeartbeats 1000000 in
theorem zE4 (n:Int) (w:World):Calls Tryz.prog 148 #[.int .i64 n] w fun e w'=>e= .returned (.int .i64 (Co.wrap n))∧w'=w:=by
 have HE:=zh (zTD n)
 go_enter Tryz.func148,Tryz.ntmps148
 go_wp2_with fail
 go_ret
 rw [←HE.out]
 exact⟨rfl,rfl⟩
set_option maxRecDepth 100000 in
set_option maxHeartbeats 1000000 in
theorem zK (n:Int) (h:Q62 n) (w:World):Calls Tryz.prog 101 #[.int .i64 n] w fun e w'=>e= .returned (.tuple #[.int .u64 (enc n),.int .i64 0])∧w'=w:=by
 have HK:=zh (zE4 n w)
 rw [wrap62 h] at HK
 have HE:=zh (enc_or n)
 go_enter Tryz.func101,Tryz.ntmps101
 go_wp2_with fail
 refine HK.out.mono ?_
 rintro e w' ⟨rfl,rfl⟩
 go_wp2_with fail
 go_ret2
 rw [HE.out]
 exact⟨rfl,rfl⟩
set_option maxRecDepth 100000 in
set_option maxHeartbeats 1000000 in
theorem zCH (n:Int) (h:Q62 n) (w:World):Calls Tryz.prog 105 #[.int .u64 (enc n)] w fun e w'=>e= .returned (.tuple #[.int .i64 n,.bool true])∧w'=w:=by
 have hb:(bits BinOp.and IntKind.u64 (enc n) 3 != 1)=false:=by rw [zUB];rfl
 have HD:=zh (zUA h)
 obtain⟨X,hX⟩:∃X,enc n=X:=⟨_,rfl⟩
 rw [hX] at hb HD ⊢
 go_enter Tryz.func105,Tryz.ntmps105
 go_wp2_with fail
 go_ret2
 rw [HD.out]
 exact⟨rfl,rfl⟩
theorem zMN (w:World):Calls Tryz.prog 105 #[.int .u64 0] w fun e w'=>e= .returned (.tuple #[.int .i64 0,.bool false])∧w'=w:=by
 have hb:(bits BinOp.and IntKind.u64 0 3 != 1)=true:=by decide
 go_enter Tryz.func105,Tryz.ntmps105
 go_wp2_with fail
 go_ret2
 exact⟨rfl,rfl⟩
set_option maxRecDepth 100000 in
set_option maxHeartbeats 2000000 in
theorem zDG (F:Nat) (cap:Array Value) (x y n:Int) (hx:Q62 x) (hy:Q62 y) (R:World→Prop) (w:World) (hent:∀args W,(callFunc F args).run Tryz.prog W= .ok (.enter F args) W)
 (H:Calls Tryz.prog F (#[.int .i64 x,.int .i64 y]++cap) w fun e w'=>e= .returned (.tuple #[.int .i64 n,.int .i64 0])∧R w'):
 Calls Tryz.prog 155 #[.int .u64 (enc x),.int .u64 (enc y),.func (.func F) #[] cap] w fun e w'=>e= .returned (.tuple #[.int .u64 (enc (Co.wrap n)),.int .i64 0])∧R w':=by
 have K1:=zh (zCH x hx w)
 have K2:=zh (zCH y hy w)
 have K3:Hid (∀w,Calls Tryz.prog 148 #[.int .i64 n] w fun e w'=>e= .returned (.int .i64 (Co.wrap n))∧w'=w):=zh (zE4 n)
 have K4:Hid (∀w,Calls Tryz.prog 101 #[.int .i64 (Co.wrap n)] w fun e w'=>e= .returned (.tuple #[.int .u64 (enc (Co.wrap n)),.int .i64 0])∧w'=w):=zh (zK _ (zFL n))
 have HH:=zh H
 clear H
 obtain⟨X,hX⟩:∃X,enc x=X:=⟨_,rfl⟩
 obtain⟨Y,hY⟩:∃X,enc y=X:=⟨_,rfl⟩
 obtain⟨M,hM⟩:∃X,Co.wrap n=X:=⟨_,rfl⟩
 obtain⟨Z,hZ⟩:∃X,enc M=X:=⟨_,rfl⟩
 rw [hX] at K1 ⊢
 rw [hY] at K2 ⊢
 rw [hM] at K3 K4 ⊢
 rw [hZ] at K4 ⊢
 clear hX hY hM hZ
 go_enter Tryz.func155,Tryz.ntmps155
 go_wp2_with fail
 refine K1.out.mono ?_
 rintro e w' ⟨rfl,rfl⟩
 go_wp2_with fail
 refine K2.out.mono ?_
 rintro e w' ⟨rfl,rfl⟩
 go_wp2_with fail
 refine HH.out.mono ?_
 rintro e w2 ⟨rfl,hR⟩
 go_wp2_with fail
 refine(K3.out _).mono ?_
 rintro e w' ⟨rfl,rfl⟩
 go_wp2_with fail
 refine(K4.out _).mono ?_
 rintro e w' ⟨rfl,rfl⟩
 go_wp2_with fail
 go_ret2
 exact⟨rfl,hR⟩
set_option maxRecDepth 100000 in
set_option maxHeartbeats 2000000 in
theorem zKL (F:Nat) (cap:Array Value) (x y n er:Int) (her:er≠0) (hx:Q62 x) (hy:Q62 y) (R:World→Prop) (w:World) (hent:∀args W,(callFunc F args).run Tryz.prog W= .ok (.enter F args) W)
 (H:Calls Tryz.prog F (#[.int .i64 x,.int .i64 y]++cap) w fun e w'=>e= .returned (.tuple #[.int .i64 n,.int .i64 er])∧R w'):
 Calls Tryz.prog 155 #[.int .u64 (enc x),.int .u64 (enc y),.func (.func F) #[] cap] w fun e w'=>e= .returned (.tuple #[.int .u64 0,.int .i64 er])∧R w':=by
 have K1:=zh (zCH x hx w)
 have K2:=zh (zCH y hy w)
 have HH:=zh H
 have hne:(er != 0)=true:=by simp [her]
 clear H her
 obtain⟨X,hX⟩:∃X,enc x=X:=⟨_,rfl⟩
 obtain⟨Y,hY⟩:∃X,enc y=X:=⟨_,rfl⟩
 rw [hX] at K1 ⊢
 rw [hY] at K2 ⊢
 clear hX hY
 go_enter Tryz.func155,Tryz.ntmps155
 go_wp2_with fail
 refine K1.out.mono ?_
 rintro e w' ⟨rfl,rfl⟩
 go_wp2_with fail
 refine K2.out.mono ?_
 rintro e w' ⟨rfl,rfl⟩
 go_wp2_with fail
 refine HH.out.mono ?_
 rintro e w2 ⟨rfl,hR⟩
 go_wp2_with fail
 go_ret2
 exact⟨rfl,hR⟩
theorem zBA (n:Int):Co.wrap (wrap64 n)=Co.wrap n:=by
 unfold Co.wrap wrap64
 omega
theorem zK9 {a b:Int} (ha:Q62 a) (h: -2305843009213693951≤a):Q62 (a.tdiv b):=by
 have hd:(a.tdiv b).natAbs≤a.natAbs:=by rw [Int.natAbs_tdiv];exact Nat.div_le_self ..
 have:=ha.1
 have:=ha.2
 exact⟨by omega,by omega⟩
theorem zK8 {a b:Int} (ha:Q62 a) (h: -2305843009213693951≤a):Q62 (a.tmod b):=by
 have hd:(a.tmod b).natAbs≤a.natAbs:=by rw [Int.natAbs_tmod];exact Nat.mod_le ..
 have:=ha.1
 have:=ha.2
 exact⟨by omega,by omega⟩
set_option maxRecDepth 100000 in
set_option maxHeartbeats 1000000 in
theorem addC (a b:Int) (w:World):Calls Tryz.prog 177 #[.int .i64 a,.int .i64 b] w fun e w'=>e= .returned (.tuple #[.int .i64 (wrap64 (a+b)),.int .i64 0])∧w'=w:=by
 go_enter Tryz.func177,Tryz.ntmps177
 go_wp2_with fail
 go_ret2
 exact⟨rfl,rfl⟩
set_option maxRecDepth 100000 in
set_option maxHeartbeats 1000000 in
theorem addW (a b:Int) (ha:Q62 a) (hb:Q62 b) (w:World):Calls Tryz.prog 158 #[.int .u64 (enc a),.int .u64 (enc b)] w fun e w'=>e= .returned (.tuple #[.int .u64 (enc (Co.wrap (a+b))),.int .i64 0])∧w'=w:=by
 have K:=zh (zDG 177 #[] a b (wrap64 (a+b)) ha hb (fun w'=>w'=w) w (enters_of Tryz.func177 (by kernel_rfl) rfl) (addC a b w))
 rw [zBA] at K
 obtain⟨X,hX⟩:∃X,enc a=X:=⟨_,rfl⟩
 obtain⟨Y,hY⟩:∃X,enc b=X:=⟨_,rfl⟩
 obtain⟨Z,hZ⟩:∃X,enc (Co.wrap (a+b))=X:=⟨_,rfl⟩
 rw [hX,hY,hZ] at K ⊢
 go_enter Tryz.func158,Tryz.ntmps158
 go_wp2_with fail
 refine K.out.mono ?_
 rintro e w' ⟨rfl,rfl⟩
 go_wp2_with fail
 go_ret2
 exact⟨rfl,rfl⟩
set_option maxRecDepth 100000 in
set_option maxHeartbeats 1000000 in
theorem subC (a b:Int) (w:World):Calls Tryz.prog 178 #[.int .i64 a,.int .i64 b] w fun e w'=>e= .returned (.tuple #[.int .i64 (wrap64 (a -b)),.int .i64 0])∧w'=w:=by
 go_enter Tryz.func178,Tryz.ntmps178
 go_wp2_with fail
 go_ret2
 exact⟨rfl,rfl⟩
set_option maxRecDepth 100000 in
set_option maxHeartbeats 1000000 in
theorem subW (a b:Int) (ha:Q62 a) (hb:Q62 b) (w:World):Calls Tryz.prog 159 #[.int .u64 (enc a),.int .u64 (enc b)] w fun e w'=>e= .returned (.tuple #[.int .u64 (enc (Co.wrap (a -b))),.int .i64 0])∧w'=w:=by
 have K:=zh (zDG 178 #[] a b (wrap64 (a -b)) ha hb (fun w'=>w'=w) w (enters_of Tryz.func178 (by kernel_rfl) rfl) (subC a b w))
 rw [zBA] at K
 obtain⟨X,hX⟩:∃X,enc a=X:=⟨_,rfl⟩
 obtain⟨Y,hY⟩:∃X,enc b=X:=⟨_,rfl⟩
 obtain⟨Z,hZ⟩:∃X,enc (Co.wrap (a -b))=X:=⟨_,rfl⟩
 rw [hX,hY,hZ] at K ⊢
 go_enter Tryz.func159,Tryz.ntmps159
 go_wp2_with fail
 refine K.out.mono ?_
 rintro e w' ⟨rfl,rfl⟩
 go_wp2_with fail
 go_ret2
 exact⟨rfl,rfl⟩
set_option maxRecDepth 100000 in
set_option maxHeartbeats 1000000 in
theorem mulC (a b:Int) (w:World):Calls Tryz.prog 179 #[.int .i64 a,.int .i64 b] w fun e w'=>e= .returned (.tuple #[.int .i64 (wrap64 (a*b)),.int .i64 0])∧w'=w:=by
 go_enter Tryz.func179,Tryz.ntmps179
 go_wp2_with fail
 go_ret2
 exact⟨rfl,rfl⟩
set_option maxRecDepth 100000 in
set_option maxHeartbeats 1000000 in
theorem mulW (a b:Int) (ha:Q62 a) (hb:Q62 b) (w:World):Calls Tryz.prog 160 #[.int .u64 (enc a),.int .u64 (enc b)] w fun e w'=>e= .returned (.tuple #[.int .u64 (enc (Co.wrap (a*b))),.int .i64 0])∧w'=w:=by
 have K:=zh (zDG 179 #[] a b (wrap64 (a*b)) ha hb (fun w'=>w'=w) w (enters_of Tryz.func179 (by kernel_rfl) rfl) (mulC a b w))
 rw [zBA] at K
 obtain⟨X,hX⟩:∃X,enc a=X:=⟨_,rfl⟩
 obtain⟨Y,hY⟩:∃X,enc b=X:=⟨_,rfl⟩
 obtain⟨Z,hZ⟩:∃X,enc (Co.wrap (a*b))=X:=⟨_,rfl⟩
 rw [hX,hY,hZ] at K ⊢
 go_enter Tryz.func160,Tryz.ntmps160
 go_wp2_with fail
 refine K.out.mono ?_
 rintro e w' ⟨rfl,rfl⟩
 go_wp2_with fail
 go_ret2
 exact⟨rfl,rfl⟩
set_option maxRecDepth 100000 in
set_option maxHeartbeats 1000000 in
theorem divC0 (a:Int) (w:World):Calls Tryz.prog 180 #[.int .i64 a,.int .i64 0] w fun e w'=>e= .returned (.tuple #[.int .i64 0,.int .i64 2])∧w'=w:=by
 go_enter Tryz.func180,Tryz.ntmps180
 go_wp2_with fail
 go_ret2
 exact⟨rfl,rfl⟩
set_option maxRecDepth 100000 in
set_option maxHeartbeats 1000000 in
theorem divC (a b:Int) (hb:b≠0) (ha:Q62 a) (ha2: -2305843009213693951≤a) (w:World):Calls Tryz.prog 180 #[.int .i64 a,.int .i64 b] w fun e w'=>e= .returned (.tuple #[.int .i64 (a.tdiv b),.int .i64 0])∧w'=w:=by
 have h0:(b == 0)=false:=beq_eq_false_iff_ne.2 hb
 have hw:wrap64 (a.tdiv b)=a.tdiv b:=by have h:=zK9 (b:=b) ha ha2;have:=h.1;have:=h.2;unfold wrap64;omega
 have HW:=zh hw
 have HB:=zh hb
 clear hw hb
 go_enter Tryz.func180,Tryz.ntmps180
 go_wp2_with fail
 go_ret2
 try rw [HW.out]
 exact⟨rfl,rfl⟩
set_option maxRecDepth 100000 in
set_option maxHeartbeats 1000000 in
theorem divW0 (a:Int) (ha:Q62 a) (w:World):Calls Tryz.prog 161 #[.int .u64 (enc a),.int .u64 (enc 0)] w fun e w'=>e= .returned (.tuple #[.int .u64 0,.int .i64 2])∧w'=w:=by
 have K:=zh (zKL 180 #[] a 0 0 2 (by decide) ha ⟨by decide,by decide⟩ (fun w'=>w'=w) w (enters_of Tryz.func180 (by kernel_rfl) rfl) (divC0 a w))
 obtain⟨X,hX⟩:∃X,enc a=X:=⟨_,rfl⟩
 obtain⟨Y,hY⟩:∃X,enc 0=X:=⟨_,rfl⟩
 rw [hX,hY] at K ⊢
 go_enter Tryz.func161,Tryz.ntmps161
 go_wp2_with fail
 refine K.out.mono ?_
 rintro e w' ⟨rfl,rfl⟩
 go_wp2_with fail
 go_ret2
 exact⟨rfl,rfl⟩
set_option maxRecDepth 100000 in
set_option maxHeartbeats 1000000 in
theorem divW (a b:Int) (h0:b≠0) (ha:Q62 a) (ha2: -2305843009213693951≤a) (hb:Q62 b) (w:World):Calls Tryz.prog 161 #[.int .u64 (enc a),.int .u64 (enc b)] w fun e w'=>e= .returned (.tuple #[.int .u64 (enc (a.tdiv b)),.int .i64 0])∧w'=w:=by
 have K:=zh (zDG 180 #[] a b (a.tdiv b) ha hb (fun w'=>w'=w) w (enters_of Tryz.func180 (by kernel_rfl) rfl) (divC a b h0 ha ha2 w))
 rw [wrap62 (zK9 ha ha2)] at K
 obtain⟨X,hX⟩:∃X,enc a=X:=⟨_,rfl⟩
 obtain⟨Y,hY⟩:∃X,enc b=X:=⟨_,rfl⟩
 obtain⟨Z,hZ⟩:∃X,enc (a.tdiv b)=X:=⟨_,rfl⟩
 rw [hX,hY,hZ] at K ⊢
 go_enter Tryz.func161,Tryz.ntmps161
 go_wp2_with fail
 refine K.out.mono ?_
 rintro e w' ⟨rfl,rfl⟩
 go_wp2_with fail
 go_ret2
 exact⟨rfl,rfl⟩
set_option maxRecDepth 100000 in
set_option maxHeartbeats 1000000 in
theorem remC0 (a:Int) (w:World):Calls Tryz.prog 181 #[.int .i64 a,.int .i64 0] w fun e w'=>e= .returned (.tuple #[.int .i64 0,.int .i64 2])∧w'=w:=by
 go_enter Tryz.func181,Tryz.ntmps181
 go_wp2_with fail
 go_ret2
 exact⟨rfl,rfl⟩
set_option maxRecDepth 100000 in
set_option maxHeartbeats 1000000 in
theorem remC (a b:Int) (hb:b≠0) (ha:Q62 a) (ha2: -2305843009213693951≤a) (w:World):Calls Tryz.prog 181 #[.int .i64 a,.int .i64 b] w fun e w'=>e= .returned (.tuple #[.int .i64 (a.tmod b),.int .i64 0])∧w'=w:=by
 have h0:(b == 0)=false:=beq_eq_false_iff_ne.2 hb
 have hw:wrap64 (a.tmod b)=a.tmod b:=by have h:=zK8 (b:=b) ha ha2;have:=h.1;have:=h.2;unfold wrap64;omega
 have HW:=zh hw
 have HB:=zh hb
 clear hw hb
 go_enter Tryz.func181,Tryz.ntmps181
 go_wp2_with fail
 go_ret2
 try rw [HW.out]
 exact⟨rfl,rfl⟩
set_option maxRecDepth 100000 in
set_option maxHeartbeats 1000000 in
theorem remW0 (a:Int) (ha:Q62 a) (w:World):Calls Tryz.prog 162 #[.int .u64 (enc a),.int .u64 (enc 0)] w fun e w'=>e= .returned (.tuple #[.int .u64 0,.int .i64 2])∧w'=w:=by
 have K:=zh (zKL 181 #[] a 0 0 2 (by decide) ha ⟨by decide,by decide⟩ (fun w'=>w'=w) w (enters_of Tryz.func181 (by kernel_rfl) rfl) (remC0 a w))
 obtain⟨X,hX⟩:∃X,enc a=X:=⟨_,rfl⟩
 obtain⟨Y,hY⟩:∃X,enc 0=X:=⟨_,rfl⟩
 rw [hX,hY] at K ⊢
 go_enter Tryz.func162,Tryz.ntmps162
 go_wp2_with fail
 refine K.out.mono ?_
 rintro e w' ⟨rfl,rfl⟩
 go_wp2_with fail
 go_ret2
 exact⟨rfl,rfl⟩
set_option maxRecDepth 100000 in
set_option maxHeartbeats 1000000 in
theorem remW (a b:Int) (h0:b≠0) (ha:Q62 a) (ha2: -2305843009213693951≤a) (hb:Q62 b) (w:World):Calls Tryz.prog 162 #[.int .u64 (enc a),.int .u64 (enc b)] w fun e w'=>e= .returned (.tuple #[.int .u64 (enc (a.tmod b)),.int .i64 0])∧w'=w:=by
 have K:=zh (zDG 181 #[] a b (a.tmod b) ha hb (fun w'=>w'=w) w (enters_of Tryz.func181 (by kernel_rfl) rfl) (remC a b h0 ha ha2 w))
 rw [wrap62 (zK8 ha ha2)] at K
 obtain⟨X,hX⟩:∃X,enc a=X:=⟨_,rfl⟩
 obtain⟨Y,hY⟩:∃X,enc b=X:=⟨_,rfl⟩
 obtain⟨Z,hZ⟩:∃X,enc (a.tmod b)=X:=⟨_,rfl⟩
 rw [hX,hY,hZ] at K ⊢
 go_enter Tryz.func162,Tryz.ntmps162
 go_wp2_with fail
 refine K.out.mono ?_
 rintro e w' ⟨rfl,rfl⟩
 go_wp2_with fail
 go_ret2
 exact⟨rfl,rfl⟩
def cmpI (a b:Int):Int:=if a<b then -1 else if b<a then 1 else 0
set_option maxRecDepth 100000 in
set_option maxHeartbeats 1000000 in
theorem nanI (a:Int) (w:World):Calls Tryz.prog 176 #[.int .i64 a] w fun e w'=>e= .returned (.bool false)∧w'=w:=by
 have h:(a != a)=false:=by simp
 go_enter Tryz.func176,Tryz.ntmps176
 go_wp2_with fail
 go_ret
 try rw [h]
 exact⟨rfl,rfl⟩
set_option maxRecDepth 100000 in
set_option maxHeartbeats 1000000 in
theorem compareI (a b:Int) (w:World):Calls Tryz.prog 157 #[.int .i64 a,.int .i64 b] w fun e w'=>e= .returned (.int .i64 (cmpI a b))∧w'=w:=by
 have K1:=zh (nanI a w)
 have K2:=zh (nanI b w)
 rcases Int.lt_trichotomy a b with h|h|h
 ·have HE:Hid (cmpI a b= -1):=zh (if_pos h)
  have h1:decide (a<b)=true:=decide_eq_true h
  go_enter Tryz.func157,Tryz.ntmps157
  go_wp2_with fail
  refine K1.out.mono ?_
  rintro e w' ⟨rfl,rfl⟩
  go_wp2_with fail
  refine K2.out.mono ?_
  rintro e w' ⟨rfl,rfl⟩
  go_wp2_with fail
  go_ret
  rw [HE.out]
  exact⟨rfl,rfl⟩
 ·have HE:Hid (cmpI a b=0):=zh (by unfold cmpI;rw [if_neg (by omega),if_neg (by omega)])
  have h1:¬a<b:=by omega
  have h2:¬b<a:=by omega
  have h3:a≤b:=by omega
  have h4:b≤a:=by omega
  clear h
  go_enter Tryz.func157,Tryz.ntmps157
  go_wp2_with fail
  refine K1.out.mono ?_
  rintro e w' ⟨rfl,rfl⟩
  go_wp2_with fail
  refine K2.out.mono ?_
  rintro e w' ⟨rfl,rfl⟩
  go_wp2_with fail
  go_ret
  rw [HE.out]
  exact⟨rfl,rfl⟩
 ·have HE:Hid (cmpI a b=1):=zh (by unfold cmpI;rw [if_neg (by omega),if_pos h])
  have h1:¬a<b:=by omega
  have h3:b≤a:=by omega
  go_enter Tryz.func157,Tryz.ntmps157
  go_wp2_with fail
  refine K1.out.mono ?_
  rintro e w' ⟨rfl,rfl⟩
  go_wp2_with fail
  refine K2.out.mono ?_
  rintro e w' ⟨rfl,rfl⟩
  go_wp2_with fail
  go_ret
  rw [HE.out]
  exact⟨rfl,rfl⟩
set_option maxRecDepth 100000 in
set_option maxHeartbeats 1000000 in
theorem compareC (a b:Int) (X:Nat) (v:Value) (w:World) (hX:w.heap[X]? =some (.cells #[v] 3 (0,0))):Calls Tryz.prog 156 #[.int .i64 a,.int .i64 b,.pointer (some ⟨X,0,none⟩)] w fun e w'=>e= .returned (.tuple #[.int .i64 0,.int .i64 0])∧w'=w.setCell ⟨X,0,none⟩ (.int .i64 (cmpI a b)):=by
 have K1:=zh (compareI a b w)
 obtain⟨l0,c0,f0⟩:=cells1 hX
 clear hX
 go_enter Tryz.func156,Tryz.ntmps156
 go_wp2_with fail
 refine K1.out.mono ?_
 rintro e w' ⟨rfl,rfl⟩
 go_wp2_with fail
 go_ret2
 exact⟨rfl,rfl⟩
set_option maxRecDepth 100000 in
set_option maxHeartbeats 1000000 in
theorem compareW (a b:Int) (ha:Q62 a) (hb:Q62 b) (w:World):Calls Tryz.prog 103 #[.int .u64 (enc a),.int .u64 (enc b)] w fun e w'=>e= .returned (.tuple #[.int .i64 (cmpI a b),.int .i64 0])∧Below w.heap.size w w':=by
 obtain⟨w1,HW,C1⟩:=(My.start w).boxR #[.int .i64 0] 3
 have K:=zh (zDG 156 #[.pointer (some ⟨w.heap.size,0,none⟩)] a b 0 ha hb (fun w'=>w'=w1.setCell ⟨w.heap.size,0,none⟩ (.int .i64 (cmpI a b))) w1 (enters_of Tryz.func156 (by kernel_rfl) rfl) (compareC a b w.heap.size _ w1 (C1.out.b 0 rfl)))
 obtain⟨X,hX⟩:∃X,enc a=X:=⟨_,rfl⟩
 obtain⟨Y,hY⟩:∃X,enc b=X:=⟨_,rfl⟩
 obtain⟨Z,hZ⟩:∃X,enc (Co.wrap 0)=X:=⟨_,rfl⟩
 rw [hX,hY,hZ] at K
 rw [hX,hY]
 clear hX hY hZ
 have C2:=zh (C1.out.set 0 rfl (zH w1 w.heap.size 0 (.int .i64 (cmpI a b))) (heap_set (j:=0) (.int .i64 (cmpI a b)) (C1.out.b 0 rfl)))
 obtain⟨l0,c0,f0⟩:=cells1 (C1.out.b 0 rfl)
 obtain⟨d0,e0,g0⟩:=cells1 (C2.out.b 0 rfl)
 go_enter Tryz.func103,Tryz.ntmps103
 go_upto_region 2 with fail
 try rw [←HW.out]
 go_wp2_with fail
 refine K.out.mono ?_
 rintro e w' ⟨rfl,rfl⟩
 go_wp2_with fail
 go_ret2
 exact⟨rfl,My.fin C2.out⟩
set_option maxRecDepth 100000 in
set_option maxHeartbeats 1000000 in
theorem cmpC1 (a b:Int) (w:World):Calls Tryz.prog 149 #[.int .i64 (cmpI a b)] w fun e w'=>e= .returned (.bool ((a == b)))∧w'=w:=by
 have HE:Hid ((cmpI a b == 0)=(a == b)):=zh (by
  unfold cmpI
  rcases Int.lt_trichotomy a b with h|h|h
  ·rw [if_pos h];simp;try omega
  ·subst h;simp
  ·rw [if_neg (by omega),if_pos h];simp;try omega)
 obtain⟨c,hc⟩:∃q,cmpI a b=q:=⟨_,rfl⟩
 rw [hc] at HE ⊢
 go_enter Tryz.func149,Tryz.ntmps149
 go_wp2_with fail
 go_ret
 rw [←HE.out]
 exact⟨rfl,rfl⟩
set_option maxRecDepth 100000 in
set_option maxHeartbeats 1000000 in
theorem cmpC2 (a b:Int) (w:World):Calls Tryz.prog 150 #[.int .i64 (cmpI a b)] w fun e w'=>e= .returned (.bool ((a != b)))∧w'=w:=by
 have HE:Hid ((cmpI a b != 0)=(a != b)):=zh (by
  unfold cmpI
  rcases Int.lt_trichotomy a b with h|h|h
  ·rw [if_pos h];simp;try omega
  ·subst h;simp
  ·rw [if_neg (by omega),if_pos h];simp;try omega)
 obtain⟨c,hc⟩:∃q,cmpI a b=q:=⟨_,rfl⟩
 rw [hc] at HE ⊢
 go_enter Tryz.func150,Tryz.ntmps150
 go_wp2_with fail
 go_ret
 rw [←HE.out]
 exact⟨rfl,rfl⟩
set_option maxRecDepth 100000 in
set_option maxHeartbeats 1000000 in
theorem cmpC3 (a b:Int) (w:World):Calls Tryz.prog 151 #[.int .i64 (cmpI a b)] w fun e w'=>e= .returned (.bool (decide (a<b)))∧w'=w:=by
 have HE:Hid (decide (cmpI a b<0)=decide (a<b)):=zh (by
  unfold cmpI
  rcases Int.lt_trichotomy a b with h|h|h
  ·rw [if_pos h];simp;try omega
  ·subst h;simp
  ·rw [if_neg (by omega),if_pos h];simp;try omega)
 obtain⟨c,hc⟩:∃q,cmpI a b=q:=⟨_,rfl⟩
 rw [hc] at HE ⊢
 go_enter Tryz.func151,Tryz.ntmps151
 go_wp2_with fail
 go_ret
 rw [←HE.out]
 exact⟨rfl,rfl⟩
set_option maxRecDepth 100000 in
set_option maxHeartbeats 1000000 in
theorem cmpC4 (a b:Int) (w:World):Calls Tryz.prog 152 #[.int .i64 (cmpI a b)] w fun e w'=>e= .returned (.bool (decide (a≤b)))∧w'=w:=by
 have HE:Hid (decide (cmpI a b≤0)=decide (a≤b)):=zh (by
  unfold cmpI
  rcases Int.lt_trichotomy a b with h|h|h
  ·rw [if_pos h];simp;try omega
  ·subst h;simp
  ·rw [if_neg (by omega),if_pos h];simp;try omega)
 obtain⟨c,hc⟩:∃q,cmpI a b=q:=⟨_,rfl⟩
 rw [hc] at HE ⊢
 go_enter Tryz.func152,Tryz.ntmps152
 go_wp2_with fail
 go_ret
 rw [←HE.out]
 exact⟨rfl,rfl⟩
set_option maxRecDepth 100000 in
set_option maxHeartbeats 1000000 in
theorem cmpC5 (a b:Int) (w:World):Calls Tryz.prog 153 #[.int .i64 (cmpI a b)] w fun e w'=>e= .returned (.bool (decide (b<a)))∧w'=w:=by
 have HE:Hid (decide (0<cmpI a b)=decide (b<a)):=zh (by
  unfold cmpI
  rcases Int.lt_trichotomy a b with h|h|h
  ·rw [if_pos h];simp;try omega
  ·subst h;simp
  ·rw [if_neg (by omega),if_pos h];simp;try omega)
 obtain⟨c,hc⟩:∃q,cmpI a b=q:=⟨_,rfl⟩
 rw [hc] at HE ⊢
 go_enter Tryz.func153,Tryz.ntmps153
 go_wp2_with fail
 go_ret
 rw [←HE.out]
 exact⟨rfl,rfl⟩
set_option maxRecDepth 100000 in
set_option maxHeartbeats 1000000 in
theorem cmpC6 (a b:Int) (w:World):Calls Tryz.prog 154 #[.int .i64 (cmpI a b)] w fun e w'=>e= .returned (.bool (decide (b≤a)))∧w'=w:=by
 have HE:Hid (decide (0≤cmpI a b)=decide (b≤a)):=zh (by
  unfold cmpI
  rcases Int.lt_trichotomy a b with h|h|h
  ·rw [if_pos h];simp;try omega
  ·subst h;simp
  ·rw [if_neg (by omega),if_pos h];simp;try omega)
 obtain⟨c,hc⟩:∃q,cmpI a b=q:=⟨_,rfl⟩
 rw [hc] at HE ⊢
 go_enter Tryz.func154,Tryz.ntmps154
 go_wp2_with fail
 go_ret
 rw [←HE.out]
 exact⟨rfl,rfl⟩
theorem z7 {H:Type} {P:Program} (w:World) {ops:Array Oper} {rest:List Oper} {o:Oper} {a:Act} {Q:Exit→Act→World→Prop}
 (hg:o.guard=none) (m x v:Operand) (t:TypeId) (hop:o.op=Op.insert t m x v)
 (k e:TypeId) (K:Keyed P k) (ht:P.underlying t=some (.map k e)) (R:Value→Option (DataW H × List MemPlace)) (b n:Nat) (D:DataW H)
 (hm:a.eval m= .map (some b)) (hown:w.ownsMap P k R b n D) (hn:n<maxLen) (key val:Value) (kl:Lit) (hx:a.eval x=key) (hv:a.eval v=val) (hkey:keyOf P k key=some kl)
 (d:DataW H) (ps:List MemPlace) (hval:R val=some (d,ps))
 (hK:∀w',w'.ownsMap P k R b (n+1) (D.put kl d)→w.grownBy w' (some b)→wpList P ops Q rest (a.put o.dst undef) w'):
 wpList P ops Q (o::rest) a w:=by
 refine wpList_plain hg fun K' hK'=>?_
 obtain⟨w',hrun,r1,r2⟩:=hown.update K ht hn hkey hval
 unfold Oper.wp
 simp [execOp,hop,hm,hx,hv,hrun,Result.andThen]
 exact hK' _ _ (hK w' r1 r2)
theorem keyI:Keyed Tryz.prog 3:=int_keyed Tryz.underlying3
theorem keyOfI (n:Int) (h0:0≤n) (h1:n≤100):keyOf Tryz.prog 3 (.int .i64 n)=some (.int .i64 n):=keyOf_int_mk Tryz.underlying3 (by simp [Lit.wf,IntKind.min,IntKind.max,IntKind.signed,IntKind.bits];omega)
def rdV (v:Value):Option (DataW Value × List MemPlace):=some (.held v,[])
def cmpV (o:Int):Value:=if o=5 then .func (.func 149) #[] #[] else if o=6 then .func (.func 150) #[] #[] else if o=7 then .func (.func 151) #[] #[] else if o=8 then .func (.func 152) #[] #[] else if o=9 then .func (.func 153) #[] #[] else if o=10 then .func (.func 154) #[] #[] else .nilFunc
def cmpM1:DataW Value:=((DataW.map []).put (.int .i64 5) (.held (cmpV 5)))
def cmpM2:DataW Value:=(cmpM1.put (.int .i64 6) (.held (cmpV 6)))
def cmpM3:DataW Value:=(cmpM2.put (.int .i64 7) (.held (cmpV 7)))
def cmpM4:DataW Value:=(cmpM3.put (.int .i64 8) (.held (cmpV 8)))
def cmpM5:DataW Value:=(cmpM4.put (.int .i64 9) (.held (cmpV 9)))
def cmpM6:DataW Value:=(cmpM5.put (.int .i64 10) (.held (cmpV 10)))
theorem zS8 (o:Int) (z:DataW Value):cmpM6.atKey (.int .i64 o) z=if 5≤o∧o≤10 then .held (cmpV o) else z:=by
 have M1:IsMap cmpM1:=isMap_empty.put _ _
 have M2:IsMap cmpM2:=M1.put _ _
 have M3:IsMap cmpM3:=M2.put _ _
 have M4:IsMap cmpM4:=M3.put _ _
 have M5:IsMap cmpM5:=M4.put _ _
 have hne:∀ {i:Int},o≠i→(Lit.int IntKind.i64 o)≠Lit.int IntKind.i64 i:=fun h e=>h (by injection e)
 by_cases h10:o=10
 ·subst h10;unfold cmpM6;rw [atKey_put_same M5 (by trivial)];rfl
 ·unfold cmpM6;rw [atKey_put_other (hne h10)]
  by_cases h9:o=9
  ·subst h9;unfold cmpM5;rw [atKey_put_same M4 (by trivial)];rfl
  ·unfold cmpM5;rw [atKey_put_other (hne h9)]
   by_cases h8:o=8
   ·subst h8;unfold cmpM4;rw [atKey_put_same M3 (by trivial)];rfl
   ·unfold cmpM4;rw [atKey_put_other (hne h8)]
    by_cases h7:o=7
    ·subst h7;unfold cmpM3;rw [atKey_put_same M2 (by trivial)];rfl
    ·unfold cmpM3;rw [atKey_put_other (hne h7)]
     by_cases h6:o=6
     ·subst h6;unfold cmpM2;rw [atKey_put_same M1 (by trivial)];rfl
     ·unfold cmpM2;rw [atKey_put_other (hne h6)]
      by_cases h5:o=5
      ·subst h5;unfold cmpM1;rw [atKey_put_same isMap_empty (by trivial)];rfl
      ·unfold cmpM1;rw [atKey_put_other (hne h5),if_neg (by omega)]
       rfl
theorem funcZero (w:World):(zeroValue 167).run Tryz.prog w= .ok .nilFunc w:=by kernel_rfl
set_option maxRecDepth 100000 in
theorem zEM (w:World) (b n:Nat) (h:w.ownsMap Tryz.prog 3 rdV b n cmpM6) (o:Int) (h0:0≤o) (h1:o≤12):
 (Instr.lookup 205 (.map (some b)) (.int .i64 o) true).run Tryz.prog w= .ok (.tuple #[cmpV o,.bool (decide (5≤o∧o≤10))]) w:=by
 obtain⟨es,clock,hb,F,_,hD⟩:=h
 rcases Maps.fit_look true keyI Tryz.underlying205 (funcZero w) hb F (keyOfI o h0 (by omega)) with ⟨hrun,_,hat⟩|⟨e0,y,_,_,hrun,hRv,hat,_⟩
 ·rw [←hD] at hat
  rw [hrun]
  have h2:=hat (.lit (.bool false))
  rw [zS8] at h2
  by_cases hc:5≤o∧o≤10
  ·rw [if_pos hc] at h2
   cases h2
  ·rw [decide_eq_false hc]
   have hv:cmpV o= .nilFunc:=by
    unfold cmpV
    rw [if_neg (by omega),if_neg (by omega),if_neg (by omega),if_neg (by omega),if_neg (by omega),if_neg (by omega)]
   rw [hv]
   rfl
 ·rw [←hD] at hat
  rw [hrun]
  have h2:=hat (.lit (.bool false))
  rw [zS8] at h2
  have hy:y=(.held e0.val,[]):=by
   unfold rdV at hRv
   injection hRv with hRv
   exact hRv.symm
  rw [hy] at h2
  by_cases hc:5≤o∧o≤10
  ·rw [if_pos hc] at h2
   injection h2 with h2
   rw [decide_eq_true hc,←h2]
   rfl
  ·rw [if_neg hc] at h2
   cases h2
set_option maxRecDepth 100000 in
set_option maxHeartbeats 4000000 in
theorem zU (o:Int) (h0:0≤o) (h1:o≤12) (w:World):Calls Tryz.prog 102 #[.int .i64 o] w fun e w'=>e= .returned (.tuple #[cmpV o,.bool (decide (5≤o∧o≤10))])∧Below w.heap.size w w':=by
 obtain⟨V,hV⟩:∃q,cmpV o=q:=⟨_,rfl⟩
 obtain⟨B,hB⟩:∃q,decide (5≤o∧o≤10)=q:=⟨_,rfl⟩
 have zEM:=fun w b n h=>zEM w b n h o h0 h1
 rw [hV,hB] at zEM
 rw [hV,hB]
 clear hV hB
 have CL:=zh zEM
 clear zEM
 have h0':=zh h0
 have h1':=zh h1
 clear h0 h1
 have hmm:=@run_makeMap Tryz.prog
 go_enter Tryz.func102,Tryz.ntmps102
 go_wp2_with (first
  |(refine z7 _ rfl _ _ _ 205 rfl 3 167 keyI Tryz.underlying205 rdV w.heap.size 5 cmpM5 rfl HO5.out (by unfold maxLen;omega) (.int .i64 10) (cmpV 10) (.int .i64 10) rfl rfl (keyOfI 10 (by decide) (by decide)) (.held (cmpV 10)) [] rfl ?_;intro w6 ho6 hg6;have HL:=zh (CL.out w6 _ _ ho6);have hlook:=HL.out;have HO6:=zh ho6;have HG6:=zh hg6;clear ho6 hg6)
  |(refine z7 _ rfl _ _ _ 205 rfl 3 167 keyI Tryz.underlying205 rdV w.heap.size 4 cmpM4 rfl HO4.out (by unfold maxLen;omega) (.int .i64 9) (cmpV 9) (.int .i64 9) rfl rfl (keyOfI 9 (by decide) (by decide)) (.held (cmpV 9)) [] rfl ?_;intro w5 ho5 hg5;have HO5:=zh ho5;have HG5:=zh hg5;clear ho5 hg5)
  |(refine z7 _ rfl _ _ _ 205 rfl 3 167 keyI Tryz.underlying205 rdV w.heap.size 3 cmpM3 rfl HO3.out (by unfold maxLen;omega) (.int .i64 8) (cmpV 8) (.int .i64 8) rfl rfl (keyOfI 8 (by decide) (by decide)) (.held (cmpV 8)) [] rfl ?_;intro w4 ho4 hg4;have HO4:=zh ho4;have HG4:=zh hg4;clear ho4 hg4)
  |(refine z7 _ rfl _ _ _ 205 rfl 3 167 keyI Tryz.underlying205 rdV w.heap.size 2 cmpM2 rfl HO2.out (by unfold maxLen;omega) (.int .i64 7) (cmpV 7) (.int .i64 7) rfl rfl (keyOfI 7 (by decide) (by decide)) (.held (cmpV 7)) [] rfl ?_;intro w3 ho3 hg3;have HO3:=zh ho3;have HG3:=zh hg3;clear ho3 hg3)
  |(refine z7 _ rfl _ _ _ 205 rfl 3 167 keyI Tryz.underlying205 rdV w.heap.size 1 cmpM1 rfl HO1.out (by unfold maxLen;omega) (.int .i64 6) (cmpV 6) (.int .i64 6) rfl rfl (keyOfI 6 (by decide) (by decide)) (.held (cmpV 6)) [] rfl ?_;intro w2 ho2 hg2;have HO2:=zh ho2;have HG2:=zh hg2;clear ho2 hg2)
  |(refine z7 _ rfl _ _ _ 205 rfl 3 167 keyI Tryz.underlying205 rdV w.heap.size 0 (DataW.map []) rfl (World.ownsMap_made w _ _ _) (by unfold maxLen;omega) (.int .i64 5) (cmpV 5) (.int .i64 5) rfl rfl (keyOfI 5 (by decide) (by decide)) (.held (cmpV 5)) [] rfl ?_;intro w1 ho1 hg1;have HO1:=zh ho1;have HG1:=zh hg1;clear ho1 hg1))
 go_ret2
 have hb1:Below w.heap.size w w1:=(zD w (.map #[] 0)).grown HG1.out (by simp) (fun q hq=>by cases hq;exact Nat.le_refl _)
 have st:∀ {W W':World},Below w.heap.size w W→W.grownBy W' (some w.heap.size)→Below w.heap.size w W':=fun h g=>h.grown g h.size (fun q hq=>by cases hq;exact Nat.le_refl _)
 exact⟨rfl,st (st (st (st (st hb1 HG2.out) HG3.out) HG4.out) HG5.out) HG6.out⟩
set_option maxRecDepth 100000 in
set_option maxHeartbeats 1000000 in
theorem zBF (b:Bool) (w:World):Calls Tryz.prog 67 #[.bool b] w fun e w'=>e= .returned (.int .i64 (Co.bit b))∧w'=w:=by
 cases b
 ·go_enter Tryz.func67,Tryz.ntmps67
  go_wp2_with fail
  go_ret
  exact⟨rfl,rfl⟩
 ·go_enter Tryz.func67,Tryz.ntmps67
  go_wp2_with fail
  go_ret
  exact⟨rfl,rfl⟩
set_option maxRecDepth 100000 in
set_option maxHeartbeats 1000000 in
theorem calc0 {X E:Int} (a b:Int) (K:∀w,Calls Tryz.prog 158 #[.int .u64 (enc a),.int .u64 (enc b)] w fun e w'=>e= .returned (.tuple #[.int .u64 X,.int .i64 E])∧w'=w) (w:World):Calls Tryz.prog 104 #[.int .i64 0,.int .u64 (enc a),.int .u64 (enc b)] w fun e w'=>e= .returned (.tuple #[.int .u64 X,.int .i64 E])∧w'=w:=by
 have KK:=zh (K w)
 obtain⟨Y,hX⟩:∃X,enc a=X:=⟨_,rfl⟩
 obtain⟨Z,hY⟩:∃X,enc b=X:=⟨_,rfl⟩
 rw [hX,hY] at KK ⊢
 clear hX hY K
 go_enter Tryz.func104,Tryz.ntmps104
 go_wp2_with fail
 refine KK.out.mono ?_
 rintro e w' ⟨rfl,rfl⟩
 go_wp2_with fail
 go_ret2
 exact⟨rfl,rfl⟩
set_option maxRecDepth 100000 in
set_option maxHeartbeats 1000000 in
theorem calc1 {X E:Int} (a b:Int) (K:∀w,Calls Tryz.prog 159 #[.int .u64 (enc a),.int .u64 (enc b)] w fun e w'=>e= .returned (.tuple #[.int .u64 X,.int .i64 E])∧w'=w) (w:World):Calls Tryz.prog 104 #[.int .i64 1,.int .u64 (enc a),.int .u64 (enc b)] w fun e w'=>e= .returned (.tuple #[.int .u64 X,.int .i64 E])∧w'=w:=by
 have KK:=zh (K w)
 obtain⟨Y,hX⟩:∃X,enc a=X:=⟨_,rfl⟩
 obtain⟨Z,hY⟩:∃X,enc b=X:=⟨_,rfl⟩
 rw [hX,hY] at KK ⊢
 clear hX hY K
 go_enter Tryz.func104,Tryz.ntmps104
 go_wp2_with fail
 refine KK.out.mono ?_
 rintro e w' ⟨rfl,rfl⟩
 go_wp2_with fail
 go_ret2
 exact⟨rfl,rfl⟩
set_option maxRecDepth 100000 in
set_option maxHeartbeats 1000000 in
theorem calc2 {X E:Int} (a b:Int) (K:∀w,Calls Tryz.prog 160 #[.int .u64 (enc a),.int .u64 (enc b)] w fun e w'=>e= .returned (.tuple #[.int .u64 X,.int .i64 E])∧w'=w) (w:World):Calls Tryz.prog 104 #[.int .i64 2,.int .u64 (enc a),.int .u64 (enc b)] w fun e w'=>e= .returned (.tuple #[.int .u64 X,.int .i64 E])∧w'=w:=by
 have KK:=zh (K w)
 obtain⟨Y,hX⟩:∃X,enc a=X:=⟨_,rfl⟩
 obtain⟨Z,hY⟩:∃X,enc b=X:=⟨_,rfl⟩
 rw [hX,hY] at KK ⊢
 clear hX hY K
 go_enter Tryz.func104,Tryz.ntmps104
 go_wp2_with fail
 refine KK.out.mono ?_
 rintro e w' ⟨rfl,rfl⟩
 go_wp2_with fail
 go_ret2
 exact⟨rfl,rfl⟩
set_option maxRecDepth 100000 in
set_option maxHeartbeats 1000000 in
theorem calc3 {X E:Int} (a b:Int) (K:∀w,Calls Tryz.prog 161 #[.int .u64 (enc a),.int .u64 (enc b)] w fun e w'=>e= .returned (.tuple #[.int .u64 X,.int .i64 E])∧w'=w) (w:World):Calls Tryz.prog 104 #[.int .i64 3,.int .u64 (enc a),.int .u64 (enc b)] w fun e w'=>e= .returned (.tuple #[.int .u64 X,.int .i64 E])∧w'=w:=by
 have KK:=zh (K w)
 obtain⟨Y,hX⟩:∃X,enc a=X:=⟨_,rfl⟩
 obtain⟨Z,hY⟩:∃X,enc b=X:=⟨_,rfl⟩
 rw [hX,hY] at KK ⊢
 clear hX hY K
 go_enter Tryz.func104,Tryz.ntmps104
 go_wp2_with fail
 refine KK.out.mono ?_
 rintro e w' ⟨rfl,rfl⟩
 go_wp2_with fail
 go_ret2
 exact⟨rfl,rfl⟩
set_option maxRecDepth 100000 in
set_option maxHeartbeats 1000000 in
theorem calc4 {X E:Int} (a b:Int) (K:∀w,Calls Tryz.prog 162 #[.int .u64 (enc a),.int .u64 (enc b)] w fun e w'=>e= .returned (.tuple #[.int .u64 X,.int .i64 E])∧w'=w) (w:World):Calls Tryz.prog 104 #[.int .i64 4,.int .u64 (enc a),.int .u64 (enc b)] w fun e w'=>e= .returned (.tuple #[.int .u64 X,.int .i64 E])∧w'=w:=by
 have KK:=zh (K w)
 obtain⟨Y,hX⟩:∃X,enc a=X:=⟨_,rfl⟩
 obtain⟨Z,hY⟩:∃X,enc b=X:=⟨_,rfl⟩
 rw [hX,hY] at KK ⊢
 clear hX hY K
 go_enter Tryz.func104,Tryz.ntmps104
 go_wp2_with fail
 refine KK.out.mono ?_
 rintro e w' ⟨rfl,rfl⟩
 go_wp2_with fail
 go_ret2
 exact⟨rfl,rfl⟩
set_option maxRecDepth 100000 in
set_option maxHeartbeats 2000000 in
theorem compute0 (a b X E n:Int) (ok:Bool) (ha:Q62 a) (hb:Q62 b) (w:World) (KC:∀w,Calls Tryz.prog 104 #[.int .i64 0,.int .u64 (enc a),.int .u64 (enc b)] w fun e w'=>e= .returned (.tuple #[.int .u64 X,.int .i64 E])∧w'=w) (KI:∀w,Calls Tryz.prog 105 #[.int .u64 X] w fun e w'=>e= .returned (.tuple #[.int .i64 n,.bool ok])∧w'=w):
 Calls Tryz.prog 68 #[.int .i64 0,.int .i64 a,.int .i64 b] w fun e w'=>e= .returned (.tuple #[.int .i64 n,.bool (E == 0)])∧Below w.heap.size w w':=by
 have K1:=zh (zK a ha w)
 have K2:=zh (zK b hb w)
 have K3:=zh (zU 0 (by decide) (by decide) w)
 have e1:cmpV 0= .nilFunc:=rfl
 have e2:decide ((5:Int)≤0∧(0:Int)≤10)=false:=by decide
 rw [e1,e2] at K3
 have KK:=zh KC
 have KJ:=zh KI
 obtain⟨Y,hX⟩:∃X,enc a=X:=⟨_,rfl⟩
 obtain⟨Z,hY⟩:∃X,enc b=X:=⟨_,rfl⟩
 rw [hX,hY] at KK
 rw [hX] at K1
 rw [hY] at K2
 clear hX hY KC KI e1 e2 ha hb
 go_enter Tryz.func68,Tryz.ntmps68
 go_wp2_with fail
 refine K1.out.mono ?_
 rintro e w' ⟨rfl,rfl⟩
 go_wp2_with fail
 refine K2.out.mono ?_
 rintro e w' ⟨rfl,rfl⟩
 go_wp2_with fail
 refine K3.out.mono ?_
 rintro e w2 ⟨rfl,hb2⟩
 go_wp2_with fail
 refine(KK.out w2).mono ?_
 rintro e w' ⟨rfl,rfl⟩
 go_wp2_with fail
 refine(KJ.out _).mono ?_
 rintro e w' ⟨rfl,rfl⟩
 go_wp2_with fail
 go_ret2
 exact⟨rfl,hb2⟩
set_option maxRecDepth 100000 in
set_option maxHeartbeats 2000000 in
theorem compute1 (a b X E n:Int) (ok:Bool) (ha:Q62 a) (hb:Q62 b) (w:World) (KC:∀w,Calls Tryz.prog 104 #[.int .i64 1,.int .u64 (enc a),.int .u64 (enc b)] w fun e w'=>e= .returned (.tuple #[.int .u64 X,.int .i64 E])∧w'=w) (KI:∀w,Calls Tryz.prog 105 #[.int .u64 X] w fun e w'=>e= .returned (.tuple #[.int .i64 n,.bool ok])∧w'=w):
 Calls Tryz.prog 68 #[.int .i64 1,.int .i64 a,.int .i64 b] w fun e w'=>e= .returned (.tuple #[.int .i64 n,.bool (E == 0)])∧Below w.heap.size w w':=by
 have K1:=zh (zK a ha w)
 have K2:=zh (zK b hb w)
 have K3:=zh (zU 1 (by decide) (by decide) w)
 have e1:cmpV 1= .nilFunc:=rfl
 have e2:decide ((5:Int)≤1∧(1:Int)≤10)=false:=by decide
 rw [e1,e2] at K3
 have KK:=zh KC
 have KJ:=zh KI
 obtain⟨Y,hX⟩:∃X,enc a=X:=⟨_,rfl⟩
 obtain⟨Z,hY⟩:∃X,enc b=X:=⟨_,rfl⟩
 rw [hX,hY] at KK
 rw [hX] at K1
 rw [hY] at K2
 clear hX hY KC KI e1 e2 ha hb
 go_enter Tryz.func68,Tryz.ntmps68
 go_wp2_with fail
 refine K1.out.mono ?_
 rintro e w' ⟨rfl,rfl⟩
 go_wp2_with fail
 refine K2.out.mono ?_
 rintro e w' ⟨rfl,rfl⟩
 go_wp2_with fail
 refine K3.out.mono ?_
 rintro e w2 ⟨rfl,hb2⟩
 go_wp2_with fail
 refine(KK.out w2).mono ?_
 rintro e w' ⟨rfl,rfl⟩
 go_wp2_with fail
 refine(KJ.out _).mono ?_
 rintro e w' ⟨rfl,rfl⟩
 go_wp2_with fail
 go_ret2
 exact⟨rfl,hb2⟩
set_option maxRecDepth 100000 in
set_option maxHeartbeats 2000000 in
theorem compute2 (a b X E n:Int) (ok:Bool) (ha:Q62 a) (hb:Q62 b) (w:World) (KC:∀w,Calls Tryz.prog 104 #[.int .i64 2,.int .u64 (enc a),.int .u64 (enc b)] w fun e w'=>e= .returned (.tuple #[.int .u64 X,.int .i64 E])∧w'=w) (KI:∀w,Calls Tryz.prog 105 #[.int .u64 X] w fun e w'=>e= .returned (.tuple #[.int .i64 n,.bool ok])∧w'=w):
 Calls Tryz.prog 68 #[.int .i64 2,.int .i64 a,.int .i64 b] w fun e w'=>e= .returned (.tuple #[.int .i64 n,.bool (E == 0)])∧Below w.heap.size w w':=by
 have K1:=zh (zK a ha w)
 have K2:=zh (zK b hb w)
 have K3:=zh (zU 2 (by decide) (by decide) w)
 have e1:cmpV 2= .nilFunc:=rfl
 have e2:decide ((5:Int)≤2∧(2:Int)≤10)=false:=by decide
 rw [e1,e2] at K3
 have KK:=zh KC
 have KJ:=zh KI
 obtain⟨Y,hX⟩:∃X,enc a=X:=⟨_,rfl⟩
 obtain⟨Z,hY⟩:∃X,enc b=X:=⟨_,rfl⟩
 rw [hX,hY] at KK
 rw [hX] at K1
 rw [hY] at K2
 clear hX hY KC KI e1 e2 ha hb
 go_enter Tryz.func68,Tryz.ntmps68
 go_wp2_with fail
 refine K1.out.mono ?_
 rintro e w' ⟨rfl,rfl⟩
 go_wp2_with fail
 refine K2.out.mono ?_
 rintro e w' ⟨rfl,rfl⟩
 go_wp2_with fail
 refine K3.out.mono ?_
 rintro e w2 ⟨rfl,hb2⟩
 go_wp2_with fail
 refine(KK.out w2).mono ?_
 rintro e w' ⟨rfl,rfl⟩
 go_wp2_with fail
 refine(KJ.out _).mono ?_
 rintro e w' ⟨rfl,rfl⟩
 go_wp2_with fail
 go_ret2
 exact⟨rfl,hb2⟩
set_option maxRecDepth 100000 in
set_option maxHeartbeats 2000000 in
theorem compute3 (a b X E n:Int) (ok:Bool) (ha:Q62 a) (hb:Q62 b) (w:World) (KC:∀w,Calls Tryz.prog 104 #[.int .i64 3,.int .u64 (enc a),.int .u64 (enc b)] w fun e w'=>e= .returned (.tuple #[.int .u64 X,.int .i64 E])∧w'=w) (KI:∀w,Calls Tryz.prog 105 #[.int .u64 X] w fun e w'=>e= .returned (.tuple #[.int .i64 n,.bool ok])∧w'=w):
 Calls Tryz.prog 68 #[.int .i64 3,.int .i64 a,.int .i64 b] w fun e w'=>e= .returned (.tuple #[.int .i64 n,.bool (E == 0)])∧Below w.heap.size w w':=by
 have K1:=zh (zK a ha w)
 have K2:=zh (zK b hb w)
 have K3:=zh (zU 3 (by decide) (by decide) w)
 have e1:cmpV 3= .nilFunc:=rfl
 have e2:decide ((5:Int)≤3∧(3:Int)≤10)=false:=by decide
 rw [e1,e2] at K3
 have KK:=zh KC
 have KJ:=zh KI
 obtain⟨Y,hX⟩:∃X,enc a=X:=⟨_,rfl⟩
 obtain⟨Z,hY⟩:∃X,enc b=X:=⟨_,rfl⟩
 rw [hX,hY] at KK
 rw [hX] at K1
 rw [hY] at K2
 clear hX hY KC KI e1 e2 ha hb
 go_enter Tryz.func68,Tryz.ntmps68
 go_wp2_with fail
 refine K1.out.mono ?_
 rintro e w' ⟨rfl,rfl⟩
 go_wp2_with fail
 refine K2.out.mono ?_
 rintro e w' ⟨rfl,rfl⟩
 go_wp2_with fail
 refine K3.out.mono ?_
 rintro e w2 ⟨rfl,hb2⟩
 go_wp2_with fail
 refine(KK.out w2).mono ?_
 rintro e w' ⟨rfl,rfl⟩
 go_wp2_with fail
 refine(KJ.out _).mono ?_
 rintro e w' ⟨rfl,rfl⟩
 go_wp2_with fail
 go_ret2
 exact⟨rfl,hb2⟩
set_option maxRecDepth 100000 in
set_option maxHeartbeats 2000000 in
theorem compute4 (a b X E n:Int) (ok:Bool) (ha:Q62 a) (hb:Q62 b) (w:World) (KC:∀w,Calls Tryz.prog 104 #[.int .i64 4,.int .u64 (enc a),.int .u64 (enc b)] w fun e w'=>e= .returned (.tuple #[.int .u64 X,.int .i64 E])∧w'=w) (KI:∀w,Calls Tryz.prog 105 #[.int .u64 X] w fun e w'=>e= .returned (.tuple #[.int .i64 n,.bool ok])∧w'=w):
 Calls Tryz.prog 68 #[.int .i64 4,.int .i64 a,.int .i64 b] w fun e w'=>e= .returned (.tuple #[.int .i64 n,.bool (E == 0)])∧Below w.heap.size w w':=by
 have K1:=zh (zK a ha w)
 have K2:=zh (zK b hb w)
 have K3:=zh (zU 4 (by decide) (by decide) w)
 have e1:cmpV 4= .nilFunc:=rfl
 have e2:decide ((5:Int)≤4∧(4:Int)≤10)=false:=by decide
 rw [e1,e2] at K3
 have KK:=zh KC
 have KJ:=zh KI
 obtain⟨Y,hX⟩:∃X,enc a=X:=⟨_,rfl⟩
 obtain⟨Z,hY⟩:∃X,enc b=X:=⟨_,rfl⟩
 rw [hX,hY] at KK
 rw [hX] at K1
 rw [hY] at K2
 clear hX hY KC KI e1 e2 ha hb
 go_enter Tryz.func68,Tryz.ntmps68
 go_wp2_with fail
 refine K1.out.mono ?_
 rintro e w' ⟨rfl,rfl⟩
 go_wp2_with fail
 refine K2.out.mono ?_
 rintro e w' ⟨rfl,rfl⟩
 go_wp2_with fail
 refine K3.out.mono ?_
 rintro e w2 ⟨rfl,hb2⟩
 go_wp2_with fail
 refine(KK.out w2).mono ?_
 rintro e w' ⟨rfl,rfl⟩
 go_wp2_with fail
 refine(KJ.out _).mono ?_
 rintro e w' ⟨rfl,rfl⟩
 go_wp2_with fail
 go_ret2
 exact⟨rfl,hb2⟩
set_option maxRecDepth 100000 in
set_option maxHeartbeats 2000000 in
theorem compute5 (a b:Int) (ha:Q62 a) (hb:Q62 b) (w:World):
 Calls Tryz.prog 68 #[.int .i64 5,.int .i64 a,.int .i64 b] w fun e w'=>e= .returned (.tuple #[.int .i64 (Co.bit ((a == b))),.bool true])∧Below w.heap.size w w':=by
 have K1:=zh (zK a ha w)
 have K2:=zh (zK b hb w)
 have K3:=zh (zU 5 (by decide) (by decide) w)
 have e1:cmpV 5= .func (.func 149) #[] #[]:=rfl
 have e2:decide ((5:Int)≤5∧(5:Int)≤10)=true:=by decide
 rw [e1,e2] at K3
 have K4:Hid (∀w,Calls Tryz.prog 103 #[.int .u64 (enc a),.int .u64 (enc b)] w fun e w'=>e= .returned (.tuple #[.int .i64 (cmpI a b),.int .i64 0])∧Below w.heap.size w w'):=zh (compareW a b ha hb)
 have K5:Hid (∀w,Calls Tryz.prog 149 #[.int .i64 (cmpI a b)] w fun e w'=>e= .returned (.bool ((a == b)))∧w'=w):=zh (cmpC1 a b)
 obtain⟨BB,hBB⟩:∃q,((a == b))=q:=⟨_,rfl⟩
 have K6:Hid (∀w,Calls Tryz.prog 67 #[.bool BB] w fun e w'=>e= .returned (.int .i64 (Co.bit BB))∧w'=w):=zh (zBF BB)
 obtain⟨Y,hX⟩:∃X,enc a=X:=⟨_,rfl⟩
 obtain⟨Z,hY⟩:∃X,enc b=X:=⟨_,rfl⟩
 obtain⟨c,hc⟩:∃X,cmpI a b=X:=⟨_,rfl⟩
 obtain⟨m,hm⟩:∃X,Co.bit BB=X:=⟨_,rfl⟩
 rw [hX,hY,hc] at K4
 rw [hc,hBB] at K5
 rw [hm] at K6
 rw [hX] at K1
 rw [hY] at K2
 rw [hBB,hm]
 clear hX hY hc hBB hm e1 e2 ha hb
 go_enter Tryz.func68,Tryz.ntmps68
 go_wp2_with fail
 refine K1.out.mono ?_
 rintro e w' ⟨rfl,rfl⟩
 go_wp2_with fail
 refine K2.out.mono ?_
 rintro e w' ⟨rfl,rfl⟩
 go_wp2_with fail
 refine K3.out.mono ?_
 rintro e w2 ⟨rfl,hb2⟩
 go_wp2_with fail
 refine(K4.out w2).mono ?_
 rintro e w3 ⟨rfl,hb3⟩
 go_wp2_with fail
 refine(K5.out _).mono ?_
 rintro e w' ⟨rfl,rfl⟩
 go_wp2_with fail
 refine(K6.out _).mono ?_
 rintro e w' ⟨rfl,rfl⟩
 go_wp2_with fail
 go_ret2
 exact⟨rfl,zC hb2 hb3⟩
set_option maxRecDepth 100000 in
set_option maxHeartbeats 2000000 in
theorem compute6 (a b:Int) (ha:Q62 a) (hb:Q62 b) (w:World):
 Calls Tryz.prog 68 #[.int .i64 6,.int .i64 a,.int .i64 b] w fun e w'=>e= .returned (.tuple #[.int .i64 (Co.bit ((a != b))),.bool true])∧Below w.heap.size w w':=by
 have K1:=zh (zK a ha w)
 have K2:=zh (zK b hb w)
 have K3:=zh (zU 6 (by decide) (by decide) w)
 have e1:cmpV 6= .func (.func 150) #[] #[]:=rfl
 have e2:decide ((5:Int)≤6∧(6:Int)≤10)=true:=by decide
 rw [e1,e2] at K3
 have K4:Hid (∀w,Calls Tryz.prog 103 #[.int .u64 (enc a),.int .u64 (enc b)] w fun e w'=>e= .returned (.tuple #[.int .i64 (cmpI a b),.int .i64 0])∧Below w.heap.size w w'):=zh (compareW a b ha hb)
 have K5:Hid (∀w,Calls Tryz.prog 150 #[.int .i64 (cmpI a b)] w fun e w'=>e= .returned (.bool ((a != b)))∧w'=w):=zh (cmpC2 a b)
 obtain⟨BB,hBB⟩:∃q,((a != b))=q:=⟨_,rfl⟩
 have K6:Hid (∀w,Calls Tryz.prog 67 #[.bool BB] w fun e w'=>e= .returned (.int .i64 (Co.bit BB))∧w'=w):=zh (zBF BB)
 obtain⟨Y,hX⟩:∃X,enc a=X:=⟨_,rfl⟩
 obtain⟨Z,hY⟩:∃X,enc b=X:=⟨_,rfl⟩
 obtain⟨c,hc⟩:∃X,cmpI a b=X:=⟨_,rfl⟩
 obtain⟨m,hm⟩:∃X,Co.bit BB=X:=⟨_,rfl⟩
 rw [hX,hY,hc] at K4
 rw [hc,hBB] at K5
 rw [hm] at K6
 rw [hX] at K1
 rw [hY] at K2
 rw [hBB,hm]
 clear hX hY hc hBB hm e1 e2 ha hb
 go_enter Tryz.func68,Tryz.ntmps68
 go_wp2_with fail
 refine K1.out.mono ?_
 rintro e w' ⟨rfl,rfl⟩
 go_wp2_with fail
 refine K2.out.mono ?_
 rintro e w' ⟨rfl,rfl⟩
 go_wp2_with fail
 refine K3.out.mono ?_
 rintro e w2 ⟨rfl,hb2⟩
 go_wp2_with fail
 refine(K4.out w2).mono ?_
 rintro e w3 ⟨rfl,hb3⟩
 go_wp2_with fail
 refine(K5.out _).mono ?_
 rintro e w' ⟨rfl,rfl⟩
 go_wp2_with fail
 refine(K6.out _).mono ?_
 rintro e w' ⟨rfl,rfl⟩
 go_wp2_with fail
 go_ret2
 exact⟨rfl,zC hb2 hb3⟩
set_option maxRecDepth 100000 in
set_option maxHeartbeats 2000000 in
theorem compute7 (a b:Int) (ha:Q62 a) (hb:Q62 b) (w:World):
 Calls Tryz.prog 68 #[.int .i64 7,.int .i64 a,.int .i64 b] w fun e w'=>e= .returned (.tuple #[.int .i64 (Co.bit (decide (a<b))),.bool true])∧Below w.heap.size w w':=by
 have K1:=zh (zK a ha w)
 have K2:=zh (zK b hb w)
 have K3:=zh (zU 7 (by decide) (by decide) w)
 have e1:cmpV 7= .func (.func 151) #[] #[]:=rfl
 have e2:decide ((5:Int)≤7∧(7:Int)≤10)=true:=by decide
 rw [e1,e2] at K3
 have K4:Hid (∀w,Calls Tryz.prog 103 #[.int .u64 (enc a),.int .u64 (enc b)] w fun e w'=>e= .returned (.tuple #[.int .i64 (cmpI a b),.int .i64 0])∧Below w.heap.size w w'):=zh (compareW a b ha hb)
 have K5:Hid (∀w,Calls Tryz.prog 151 #[.int .i64 (cmpI a b)] w fun e w'=>e= .returned (.bool (decide (a<b)))∧w'=w):=zh (cmpC3 a b)
 obtain⟨BB,hBB⟩:∃q,(decide (a<b))=q:=⟨_,rfl⟩
 have K6:Hid (∀w,Calls Tryz.prog 67 #[.bool BB] w fun e w'=>e= .returned (.int .i64 (Co.bit BB))∧w'=w):=zh (zBF BB)
 obtain⟨Y,hX⟩:∃X,enc a=X:=⟨_,rfl⟩
 obtain⟨Z,hY⟩:∃X,enc b=X:=⟨_,rfl⟩
 obtain⟨c,hc⟩:∃X,cmpI a b=X:=⟨_,rfl⟩
 obtain⟨m,hm⟩:∃X,Co.bit BB=X:=⟨_,rfl⟩
 rw [hX,hY,hc] at K4
 rw [hc,hBB] at K5
 rw [hm] at K6
 rw [hX] at K1
 rw [hY] at K2
 rw [hBB,hm]
 clear hX hY hc hBB hm e1 e2 ha hb
 go_enter Tryz.func68,Tryz.ntmps68
 go_wp2_with fail
 refine K1.out.mono ?_
 rintro e w' ⟨rfl,rfl⟩
 go_wp2_with fail
 refine K2.out.mono ?_
 rintro e w' ⟨rfl,rfl⟩
 go_wp2_with fail
 refine K3.out.mono ?_
 rintro e w2 ⟨rfl,hb2⟩
 go_wp2_with fail
 refine(K4.out w2).mono ?_
 rintro e w3 ⟨rfl,hb3⟩
 go_wp2_with fail
 refine(K5.out _).mono ?_
 rintro e w' ⟨rfl,rfl⟩
 go_wp2_with fail
 refine(K6.out _).mono ?_
 rintro e w' ⟨rfl,rfl⟩
 go_wp2_with fail
 go_ret2
 exact⟨rfl,zC hb2 hb3⟩
set_option maxRecDepth 100000 in
set_option maxHeartbeats 2000000 in
theorem compute8 (a b:Int) (ha:Q62 a) (hb:Q62 b) (w:World):
 Calls Tryz.prog 68 #[.int .i64 8,.int .i64 a,.int .i64 b] w fun e w'=>e= .returned (.tuple #[.int .i64 (Co.bit (decide (a≤b))),.bool true])∧Below w.heap.size w w':=by
 have K1:=zh (zK a ha w)
 have K2:=zh (zK b hb w)
 have K3:=zh (zU 8 (by decide) (by decide) w)
 have e1:cmpV 8= .func (.func 152) #[] #[]:=rfl
 have e2:decide ((5:Int)≤8∧(8:Int)≤10)=true:=by decide
 rw [e1,e2] at K3
 have K4:Hid (∀w,Calls Tryz.prog 103 #[.int .u64 (enc a),.int .u64 (enc b)] w fun e w'=>e= .returned (.tuple #[.int .i64 (cmpI a b),.int .i64 0])∧Below w.heap.size w w'):=zh (compareW a b ha hb)
 have K5:Hid (∀w,Calls Tryz.prog 152 #[.int .i64 (cmpI a b)] w fun e w'=>e= .returned (.bool (decide (a≤b)))∧w'=w):=zh (cmpC4 a b)
 obtain⟨BB,hBB⟩:∃q,(decide (a≤b))=q:=⟨_,rfl⟩
 have K6:Hid (∀w,Calls Tryz.prog 67 #[.bool BB] w fun e w'=>e= .returned (.int .i64 (Co.bit BB))∧w'=w):=zh (zBF BB)
 obtain⟨Y,hX⟩:∃X,enc a=X:=⟨_,rfl⟩
 obtain⟨Z,hY⟩:∃X,enc b=X:=⟨_,rfl⟩
 obtain⟨c,hc⟩:∃X,cmpI a b=X:=⟨_,rfl⟩
 obtain⟨m,hm⟩:∃X,Co.bit BB=X:=⟨_,rfl⟩
 rw [hX,hY,hc] at K4
 rw [hc,hBB] at K5
 rw [hm] at K6
 rw [hX] at K1
 rw [hY] at K2
 rw [hBB,hm]
 clear hX hY hc hBB hm e1 e2 ha hb
 go_enter Tryz.func68,Tryz.ntmps68
 go_wp2_with fail
 refine K1.out.mono ?_
 rintro e w' ⟨rfl,rfl⟩
 go_wp2_with fail
 refine K2.out.mono ?_
 rintro e w' ⟨rfl,rfl⟩
 go_wp2_with fail
 refine K3.out.mono ?_
 rintro e w2 ⟨rfl,hb2⟩
 go_wp2_with fail
 refine(K4.out w2).mono ?_
 rintro e w3 ⟨rfl,hb3⟩
 go_wp2_with fail
 refine(K5.out _).mono ?_
 rintro e w' ⟨rfl,rfl⟩
 go_wp2_with fail
 refine(K6.out _).mono ?_
 rintro e w' ⟨rfl,rfl⟩
 go_wp2_with fail
 go_ret2
 exact⟨rfl,zC hb2 hb3⟩
set_option maxRecDepth 100000 in
set_option maxHeartbeats 2000000 in
theorem compute9 (a b:Int) (ha:Q62 a) (hb:Q62 b) (w:World):
 Calls Tryz.prog 68 #[.int .i64 9,.int .i64 a,.int .i64 b] w fun e w'=>e= .returned (.tuple #[.int .i64 (Co.bit (decide (b<a))),.bool true])∧Below w.heap.size w w':=by
 have K1:=zh (zK a ha w)
 have K2:=zh (zK b hb w)
 have K3:=zh (zU 9 (by decide) (by decide) w)
 have e1:cmpV 9= .func (.func 153) #[] #[]:=rfl
 have e2:decide ((5:Int)≤9∧(9:Int)≤10)=true:=by decide
 rw [e1,e2] at K3
 have K4:Hid (∀w,Calls Tryz.prog 103 #[.int .u64 (enc a),.int .u64 (enc b)] w fun e w'=>e= .returned (.tuple #[.int .i64 (cmpI a b),.int .i64 0])∧Below w.heap.size w w'):=zh (compareW a b ha hb)
 have K5:Hid (∀w,Calls Tryz.prog 153 #[.int .i64 (cmpI a b)] w fun e w'=>e= .returned (.bool (decide (b<a)))∧w'=w):=zh (cmpC5 a b)
 obtain⟨BB,hBB⟩:∃q,(decide (b<a))=q:=⟨_,rfl⟩
 have K6:Hid (∀w,Calls Tryz.prog 67 #[.bool BB] w fun e w'=>e= .returned (.int .i64 (Co.bit BB))∧w'=w):=zh (zBF BB)
 obtain⟨Y,hX⟩:∃X,enc a=X:=⟨_,rfl⟩
 obtain⟨Z,hY⟩:∃X,enc b=X:=⟨_,rfl⟩
 obtain⟨c,hc⟩:∃X,cmpI a b=X:=⟨_,rfl⟩
 obtain⟨m,hm⟩:∃X,Co.bit BB=X:=⟨_,rfl⟩
 rw [hX,hY,hc] at K4
 rw [hc,hBB] at K5
 rw [hm] at K6
 rw [hX] at K1
 rw [hY] at K2
 rw [hBB,hm]
 clear hX hY hc hBB hm e1 e2 ha hb
 go_enter Tryz.func68,Tryz.ntmps68
 go_wp2_with fail
 refine K1.out.mono ?_
 rintro e w' ⟨rfl,rfl⟩
 go_wp2_with fail
 refine K2.out.mono ?_
 rintro e w' ⟨rfl,rfl⟩
 go_wp2_with fail
 refine K3.out.mono ?_
 rintro e w2 ⟨rfl,hb2⟩
 go_wp2_with fail
 refine(K4.out w2).mono ?_
 rintro e w3 ⟨rfl,hb3⟩
 go_wp2_with fail
 refine(K5.out _).mono ?_
 rintro e w' ⟨rfl,rfl⟩
 go_wp2_with fail
 refine(K6.out _).mono ?_
 rintro e w' ⟨rfl,rfl⟩
 go_wp2_with fail
 go_ret2
 exact⟨rfl,zC hb2 hb3⟩
set_option maxRecDepth 100000 in
set_option maxHeartbeats 2000000 in
theorem compute10 (a b:Int) (ha:Q62 a) (hb:Q62 b) (w:World):
 Calls Tryz.prog 68 #[.int .i64 10,.int .i64 a,.int .i64 b] w fun e w'=>e= .returned (.tuple #[.int .i64 (Co.bit (decide (b≤a))),.bool true])∧Below w.heap.size w w':=by
 have K1:=zh (zK a ha w)
 have K2:=zh (zK b hb w)
 have K3:=zh (zU 10 (by decide) (by decide) w)
 have e1:cmpV 10= .func (.func 154) #[] #[]:=rfl
 have e2:decide ((5:Int)≤10∧(10:Int)≤10)=true:=by decide
 rw [e1,e2] at K3
 have K4:Hid (∀w,Calls Tryz.prog 103 #[.int .u64 (enc a),.int .u64 (enc b)] w fun e w'=>e= .returned (.tuple #[.int .i64 (cmpI a b),.int .i64 0])∧Below w.heap.size w w'):=zh (compareW a b ha hb)
 have K5:Hid (∀w,Calls Tryz.prog 154 #[.int .i64 (cmpI a b)] w fun e w'=>e= .returned (.bool (decide (b≤a)))∧w'=w):=zh (cmpC6 a b)
 obtain⟨BB,hBB⟩:∃q,(decide (b≤a))=q:=⟨_,rfl⟩
 have K6:Hid (∀w,Calls Tryz.prog 67 #[.bool BB] w fun e w'=>e= .returned (.int .i64 (Co.bit BB))∧w'=w):=zh (zBF BB)
 obtain⟨Y,hX⟩:∃X,enc a=X:=⟨_,rfl⟩
 obtain⟨Z,hY⟩:∃X,enc b=X:=⟨_,rfl⟩
 obtain⟨c,hc⟩:∃X,cmpI a b=X:=⟨_,rfl⟩
 obtain⟨m,hm⟩:∃X,Co.bit BB=X:=⟨_,rfl⟩
 rw [hX,hY,hc] at K4
 rw [hc,hBB] at K5
 rw [hm] at K6
 rw [hX] at K1
 rw [hY] at K2
 rw [hBB,hm]
 clear hX hY hc hBB hm e1 e2 ha hb
 go_enter Tryz.func68,Tryz.ntmps68
 go_wp2_with fail
 refine K1.out.mono ?_
 rintro e w' ⟨rfl,rfl⟩
 go_wp2_with fail
 refine K2.out.mono ?_
 rintro e w' ⟨rfl,rfl⟩
 go_wp2_with fail
 refine K3.out.mono ?_
 rintro e w2 ⟨rfl,hb2⟩
 go_wp2_with fail
 refine(K4.out w2).mono ?_
 rintro e w3 ⟨rfl,hb3⟩
 go_wp2_with fail
 refine(K5.out _).mono ?_
 rintro e w' ⟨rfl,rfl⟩
 go_wp2_with fail
 refine(K6.out _).mono ?_
 rintro e w' ⟨rfl,rfl⟩
 go_wp2_with fail
 go_ret2
 exact⟨rfl,zC hb2 hb3⟩
theorem zLT (o a b:Int) (h0:0≤o) (h1:o≤10) (ha:Q62 a) (ha2: -2305843009213693951≤a) (hb:Q62 b) (w:World):
 Calls Tryz.prog 68 #[.int .i64 o,.int .i64 a,.int .i64 b] w fun e w'=>e= .returned (.tuple #[.int .i64 ((Co.calcO o a b).getD 0),.bool (Co.calcO o a b).isSome])∧Below w.heap.size w w':=by
 have hcase:o=0∨o=1∨o=2∨o=3∨o=4∨o=5∨o=6∨o=7∨o=8∨o=9∨o=10:=by omega
 rcases hcase with rfl|rfl|rfl|rfl|rfl|rfl|rfl|rfl|rfl|rfl|rfl
 ·exact compute0 a b _ _ _ _ ha hb w (calc0 a b (fun w=>addW a b ha hb w)) (zCH _ (zFL _))
 ·exact compute1 a b _ _ _ _ ha hb w (calc1 a b (fun w=>subW a b ha hb w)) (zCH _ (zFL _))
 ·exact compute2 a b _ _ _ _ ha hb w (calc2 a b (fun w=>mulW a b ha hb w)) (zCH _ (zFL _))
 ·by_cases hz:b=0
  ·subst hz
   exact compute3 a 0 _ _ _ _ ha hb w (calc3 a 0 (fun w=>divW0 a ha w)) zMN
  ·have e:Co.calcO 3 a b=some (a.tdiv b):=by unfold Co.calcO;rw [if_neg (by decide),if_neg (by decide),if_neg (by decide),if_pos rfl,if_neg hz]
   rw [e]
   exact compute3 a b _ _ _ _ ha hb w (calc3 a b (fun w=>divW a b hz ha ha2 hb w)) (zCH _ (zK9 ha ha2))
 ·by_cases hz:b=0
  ·subst hz
   exact compute4 a 0 _ _ _ _ ha hb w (calc4 a 0 (fun w=>remW0 a ha w)) zMN
  ·have e:Co.calcO 4 a b=some (a.tmod b):=by unfold Co.calcO;rw [if_neg (by decide),if_neg (by decide),if_neg (by decide),if_neg (by decide),if_pos rfl,if_neg hz]
   rw [e]
   exact compute4 a b _ _ _ _ ha hb w (calc4 a b (fun w=>remW a b hz ha ha2 hb w)) (zCH _ (zK8 ha ha2))
 ·exact compute5 a b ha hb w
 ·exact compute6 a b ha hb w
 ·exact compute7 a b ha hb w
 ·exact compute8 a b ha hb w
 ·exact compute9 a b ha hb w
 ·exact compute10 a b ha hb w
end Cw
end Go.Proofs.YtcnmfcgmnkncaaaGreatDoor
