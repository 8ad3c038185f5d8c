/-
  The reference's Wrap, bit, result, walked.
-/
import Derived.Test.YtcnmfcgmnkncaaaGreatDoorX11
set_option maxRecDepth 100000
set_option maxHeartbeats 40000000
open Go.Proofs.Tryz
namespace Go.Proofs.YtcnmfcgmnkncaaaGreatDoor
namespace Cw
open Go.RowKit Go.Maps Pw
theorem zHE (n:Int) (w:World):Calls prog 46 #[.int .i64 n] w fun e w'=>e= .returned (.int .i64 (Co.wrap n))/\w'=w:=by
 obtain⟨m,hm⟩:∃q,n.tmod 4611686018427387904=q:=⟨_,rfl⟩;have hb: -4611686018427387903<=m/\m<=4611686018427387903:=by
  rw [<-hm];have h1:(n.tmod 4611686018427387904).natAbs<4611686018427387904:=by
   rw [Int.natAbs_tmod];exact Nat.mod_lt _ (by decide)
  omega
 have hd:∃k:Int,n=m+4611686018427387904*k:=⟨n.tdiv 4611686018427387904,by
  have:=Int.mul_tdiv_add_tmod n 4611686018427387904;omega⟩
 obtain⟨k,hk⟩:=hd;have HM:=zh hm;by_cases h1:2305843009213693952<=m
 ·have HE:Hid (Co.wrap n=m -4611686018427387904):=zh (by unfold Co.wrap;omega);have HW:Hid (wrap64 m=m):=zh (by unfold wrap64;omega);have HW2:Hid (wrap64 (m -4611686018427387904)=m -4611686018427387904):=zh (by unfold wrap64;omega);have hm1:=HM.out;have hw1:=HW.out;have hw2:=HW2.out;clear hm hk hb;go_in;go_wp2;go_ret;rw [HE.out]
  first
   |exact ⟨rfl,rfl⟩
   |(simp [HW2.out];done)
   |(rw [HM.out];exact⟨rfl,rfl⟩)
   |(simp [HM.out];done)
 ·by_cases h2:m< -2305843009213693952
  ·have HE:Hid (Co.wrap n=m+4611686018427387904):=zh (by unfold Co.wrap;omega);have HW:Hid (wrap64 m=m):=zh (by unfold wrap64;omega);have HW2:Hid (wrap64 (m+4611686018427387904)=m+4611686018427387904):=zh (by unfold wrap64;omega);have hm1:=HM.out;have hw1:=HW.out;have hw2:=HW2.out;clear hm hk hb;go_in;go_wp2;go_ret;rw [HE.out]
   first
    |exact ⟨rfl,rfl⟩
    |(simp [HW2.out];done)
    |(rw [HM.out];exact⟨rfl,rfl⟩)
    |(simp [HM.out];done)
  ·have HE:Hid (Co.wrap n=m):=zh (by unfold Co.wrap;omega);have HW:Hid (wrap64 m=m):=zh (by unfold wrap64;omega);have hm1:=HM.out;have hw1:=HW.out;clear hm hk hb;go_in;go_wp2;go_ret;rw [HE.out]
   first
    |exact ⟨rfl,rfl⟩
    |(rw [HM.out];exact⟨rfl,rfl⟩)
    |(simp [HM.out];done)
theorem zBP (b:Bool) (w:World):Calls prog 71 #[.bool b] w fun e w'=>e= .returned (.int .i64 (Co.bit b))/\w'=w:=by
 cases b
 ·go_in;go_wp2;go_ret;exact⟨rfl,rfl⟩
 ·go_in;go_wp2;go_ret;exact⟨rfl,rfl⟩
theorem resultR0 (a b:Int) (w:World):Calls prog 72 #[.int .i64 0,.int .i64 a,.int .i64 b] w fun e w'=>e= .returned (.tuple #[.int .i64 (Co.wrap (a+b)),.bool true])/\Below w.heap.size w w':=by
 have K:Hid (∀w,Calls prog 46 #[.int .i64 (wrap64 (a+b))] w fun e w'=>e= .returned (.int .i64 (Co.wrap (a+b)))/\w'=w):=zh (fun w=>by
  have h:=zHE (wrap64 (a+b)) w;rw [zC2] at h;exact h)
 obtain⟨Z,hZ⟩:∃X,Co.wrap (a+b)=X:=⟨_,rfl⟩;rw [hZ] at K |-;go_in;go_wp2_with fail;refine(K _).mono ?_;rintro e w' ⟨rfl,rfl⟩;go_wp2_with fail;go_ret2;exact⟨rfl,Below.refl _ _⟩
theorem resultR1 (a b:Int) (w:World):Calls prog 72 #[.int .i64 1,.int .i64 a,.int .i64 b] w fun e w'=>e= .returned (.tuple #[.int .i64 (Co.wrap (a -b)),.bool true])/\Below w.heap.size w w':=by
 have K:Hid (∀w,Calls prog 46 #[.int .i64 (wrap64 (a -b))] w fun e w'=>e= .returned (.int .i64 (Co.wrap (a -b)))/\w'=w):=zh (fun w=>by
  have h:=zHE (wrap64 (a -b)) w;rw [zC2] at h;exact h)
 obtain⟨Z,hZ⟩:∃X,Co.wrap (a -b)=X:=⟨_,rfl⟩;rw [hZ] at K |-;go_in;go_wp2_with fail;refine(K _).mono ?_;rintro e w' ⟨rfl,rfl⟩;go_wp2_with fail;go_ret2;exact⟨rfl,Below.refl _ _⟩
theorem resultR2 (a b:Int) (w:World):Calls prog 72 #[.int .i64 2,.int .i64 a,.int .i64 b] w fun e w'=>e= .returned (.tuple #[.int .i64 (Co.wrap (a*b)),.bool true])/\Below w.heap.size w w':=by
 have K:Hid (∀w,Calls prog 46 #[.int .i64 (wrap64 (a*b))] w fun e w'=>e= .returned (.int .i64 (Co.wrap (a*b)))/\w'=w):=zh (fun w=>by
  have h:=zHE (wrap64 (a*b)) w;rw [zC2] at h;exact h)
 obtain⟨Z,hZ⟩:∃X,Co.wrap (a*b)=X:=⟨_,rfl⟩;rw [hZ] at K |-;go_in;go_wp2_with fail;refine(K _).mono ?_;rintro e w' ⟨rfl,rfl⟩;go_wp2_with fail;go_ret2;exact⟨rfl,Below.refl _ _⟩
theorem resultR30 (a:Int) (w:World):Calls prog 72 #[.int .i64 3,.int .i64 a,.int .i64 0] w fun e w'=>e= .returned (.tuple #[.int .i64 0,.bool false])/\Below w.heap.size w w':=by
 go_in;go_wp2_with fail;go_ret2;exact⟨rfl,Below.refl _ _⟩
theorem resultR3 (a b:Int) (hb:b≠0) (ha:Q62 a) (ha2: -2305843009213693951<=a) (w:World):Calls prog 72 #[.int .i64 3,.int .i64 a,.int .i64 b] w fun e w'=>e= .returned (.tuple #[.int .i64 (a.tdiv b),.bool true])/\Below w.heap.size w w':=by
 have h0:(b == 0)=false:=kA.2 hb;have hw:wrap64 (a.tdiv b)=a.tdiv b:=by have h:=zJ7 (b:=b) ha ha2;have:=h.1;have:=h.2;unfold wrap64;omega
 have HW:=zh hw;have HB:=zh hb;clear hw hb;go_in;go_wp2_with fail;go_ret2
 try rw [HW.out]
 exact⟨rfl,Below.refl _ _⟩
theorem resultR40 (a:Int) (w:World):Calls prog 72 #[.int .i64 4,.int .i64 a,.int .i64 0] w fun e w'=>e= .returned (.tuple #[.int .i64 0,.bool false])/\Below w.heap.size w w':=by
 go_in;go_wp2_with fail;go_ret2;exact⟨rfl,Below.refl _ _⟩
theorem resultR4 (a b:Int) (hb:b≠0) (ha:Q62 a) (ha2: -2305843009213693951<=a) (w:World):Calls prog 72 #[.int .i64 4,.int .i64 a,.int .i64 b] w fun e w'=>e= .returned (.tuple #[.int .i64 (a.tmod b),.bool true])/\Below w.heap.size w w':=by
 have h0:(b == 0)=false:=kA.2 hb;have hw:wrap64 (a.tmod b)=a.tmod b:=by have h:=zJ6 (b:=b) ha ha2;have:=h.1;have:=h.2;unfold wrap64;omega
 have HW:=zh hw;have HB:=zh hb;clear hw hb;go_in;go_wp2_with fail;go_ret2
 try rw [HW.out]
 exact⟨rfl,Below.refl _ _⟩
theorem resultR5 (a b:Int) (w:World):Calls prog 72 #[.int .i64 5,.int .i64 a,.int .i64 b] w fun e w'=>e= .returned (.tuple #[.int .i64 (Co.bit ((a == b))),.bool true])/\Below w.heap.size w w':=by
 have K:Hid (∀B w,Calls prog 71 #[.bool B] w fun e w'=>e= .returned (.int .i64 (Co.bit B))/\w'=w):=zh zBP;go_in;go_wp2_with fail;refine(K _ _).mono ?_;rintro e w' ⟨rfl,rfl⟩;go_wp2_with fail;go_ret2;exact⟨rfl,Below.refl _ _⟩
theorem resultR6 (a b:Int) (w:World):Calls prog 72 #[.int .i64 6,.int .i64 a,.int .i64 b] w fun e w'=>e= .returned (.tuple #[.int .i64 (Co.bit ((a != b))),.bool true])/\Below w.heap.size w w':=by
 have K:Hid (∀B w,Calls prog 71 #[.bool B] w fun e w'=>e= .returned (.int .i64 (Co.bit B))/\w'=w):=zh zBP;go_in;go_wp2_with fail;refine(K _ _).mono ?_;rintro e w' ⟨rfl,rfl⟩;go_wp2_with fail;go_ret2;exact⟨rfl,Below.refl _ _⟩
theorem resultR7 (a b:Int) (w:World):Calls prog 72 #[.int .i64 7,.int .i64 a,.int .i64 b] w fun e w'=>e= .returned (.tuple #[.int .i64 (Co.bit (decide (a<b))),.bool true])/\Below w.heap.size w w':=by
 have K:Hid (∀B w,Calls prog 71 #[.bool B] w fun e w'=>e= .returned (.int .i64 (Co.bit B))/\w'=w):=zh zBP;go_in;go_wp2_with fail;refine(K _ _).mono ?_;rintro e w' ⟨rfl,rfl⟩;go_wp2_with fail;go_ret2;exact⟨rfl,Below.refl _ _⟩
theorem resultR8 (a b:Int) (w:World):Calls prog 72 #[.int .i64 8,.int .i64 a,.int .i64 b] w fun e w'=>e= .returned (.tuple #[.int .i64 (Co.bit (decide (a<=b))),.bool true])/\Below w.heap.size w w':=by
 have K:Hid (∀B w,Calls prog 71 #[.bool B] w fun e w'=>e= .returned (.int .i64 (Co.bit B))/\w'=w):=zh zBP;go_in;go_wp2_with fail;refine(K _ _).mono ?_;rintro e w' ⟨rfl,rfl⟩;go_wp2_with fail;go_ret2;exact⟨rfl,Below.refl _ _⟩
theorem resultR9 (a b:Int) (w:World):Calls prog 72 #[.int .i64 9,.int .i64 a,.int .i64 b] w fun e w'=>e= .returned (.tuple #[.int .i64 (Co.bit (decide (b<a))),.bool true])/\Below w.heap.size w w':=by
 have K:Hid (∀B w,Calls prog 71 #[.bool B] w fun e w'=>e= .returned (.int .i64 (Co.bit B))/\w'=w):=zh zBP;go_in;go_wp2_with fail;refine(K _ _).mono ?_;rintro e w' ⟨rfl,rfl⟩;go_wp2_with fail;go_ret2;exact⟨rfl,Below.refl _ _⟩
theorem resultR10 (a b:Int) (w:World):Calls prog 72 #[.int .i64 10,.int .i64 a,.int .i64 b] w fun e w'=>e= .returned (.tuple #[.int .i64 (Co.bit (decide (b<=a))),.bool true])/\Below w.heap.size w w':=by
 have K:Hid (∀B w,Calls prog 71 #[.bool B] w fun e w'=>e= .returned (.int .i64 (Co.bit B))/\w'=w):=zh zBP;go_in;go_wp2_with fail;refine(K _ _).mono ?_;rintro e w' ⟨rfl,rfl⟩;go_wp2_with fail;go_ret2;exact⟨rfl,Below.refl _ _⟩
theorem zOX (o a b:Int) (h0:0<=o) (h1:o<=10) (ha:Q62 a) (ha2: -2305843009213693951<=a) (_hb:Q62 b) (w:World):
 Calls prog 72 #[.int .i64 o,.int .i64 a,.int .i64 b] w fun e w'=>e= .returned (.tuple #[.int .i64 ((Co.calcO o a b).getD 0),.bool (Co.calcO o a b).isSome])/\Below w.heap.size w w':=by
 have hcase:o=0\/o=1\/o=2\/o=3\/o=4\/o=5\/o=6\/o=7\/o=8\/o=9\/o=10:=by omega
 rcases hcase with rfl|rfl|rfl|rfl|rfl|rfl|rfl|rfl|rfl|rfl|rfl
 ·exact resultR0 a b w
 ·exact resultR1 a b w
 ·exact resultR2 a b w
 ·by_cases hz:b=0
  ·subst hz;exact resultR30 a w
  ·have e:Co.calcO 3 a b=some (a.tdiv b):=by unfold Co.calcO;rw [kC (by decide),kC (by decide),kC (by decide),kD rfl,kC hz]
   rw [e];exact resultR3 a b hz ha ha2 w
 ·by_cases hz:b=0
  ·subst hz;exact resultR40 a w
  ·have e:Co.calcO 4 a b=some (a.tmod b):=by unfold Co.calcO;rw [kC (by decide),kC (by decide),kC (by decide),kC (by decide),kD rfl,kC hz]
   rw [e];exact resultR4 a b hz ha ha2 w
 ·exact resultR5 a b w
 ·exact resultR6 a b w
 ·exact resultR7 a b w
 ·exact resultR8 a b w
 ·exact resultR9 a b w
 ·exact resultR10 a b w
end Cw
end Go.Proofs.YtcnmfcgmnkncaaaGreatDoor
