/- XPngSplits -/
import Derived.Test.YteoolehdomjkkaaGreatDoorMg46
import Derived.Test.YteoolehdomjkkaaGreatDoorMg40
import Derived.Test.YteoolehdomjkkaaGreatDoorMg43
import Derived.Test.YteoolehdomjkkaaGreatDoorMg47
import Derived.Test.YteoolehdomjkkaaGreatDoorMg32
namespace Go.Proofs.YteoolehdomjkkaaGreatDoor
set_option linter.all false
open Go.RowKit
theorem rdB_al {w:World} {A:Option Addr} {n:Nat} {bs:List UInt8} (h:RdB w w.heap.size A n bs) (o:Obj):RdB (w.alloc o) (w.alloc o).heap.size A n bs:=Rd.here (Rd.alloc h (Nat.le_refl _) o)
theorem rasterC_any (W H C D:Int) (n c c':Nat) (A A':Option Addr) (xs:List UInt8) (w:World) (h:RdB w w.heap.size A n xs) (h':RdB w w.heap.size A' n xs) :
  Calls Tryz.prog 14 #[.agg #[.int .i64 W,.int .i64 H,.int .i64 C,.int .i64 D,.slice A n c],.agg #[.int .i64 W,.int .i64 H,.int .i64 C,.int .i64 D,.slice A' n c']] w fun e w'=>e=.returned (.bool true)∧Below w.heap.size w w':=by
 refine (sameR_any ⟨W,H,C,D⟩ ⟨W,H,C,D⟩ _ n c _ n c' A A' xs xs w h h' (Nat.le_refl _) (Nat.le_refl _)).mono ?_
 rintro e w' ⟨rfl,h⟩
 exact ⟨by simp,h⟩
set_option maxRecDepth 100000 in
set_option maxHeartbeats 6400000 in
theorem pngSplits_out (W H C D:Int) (cut:Int) (A A2:Option Addr) (n c n2 c2:Nat) (bs data:List UInt8) (mv:Bool) (w:World) (h:RdB w w.heap.size A n bs) (h2:RdB w w.heap.size A2 n2 data)
  (hmv:Sh.mayR ⟨W,H,C,D⟩ n=mv) (hk:3000 < n∨cut < 0∨300 < n2∨mv=false) :
  Calls Tryz.prog 5 #[.agg #[.int .i64 W,.int .i64 H,.int .i64 C,.int .i64 D,.slice A n c],.int .i64 cut,.slice A2 n2 c2] w fun e w'=>e=.returned (.bool true)∧Below w.heap.size w w':=by
 have HMY:=Lib.hid (fun w=>may_any ⟨W,H,C,D⟩ A n c w)
 rw [hmv] at HMY
 dsimp only [Sh.r] at HMY
 clear hmv
 have hln:=h.len
 have hln2:=h2.len
 obtain ⟨w1,hw1⟩:∃ w1,w.alloc (.cells #[.int .i64 W,.int .i64 H,.int .i64 C,.int .i64 D,.slice A n c] 39)=w1:=⟨_,rfl⟩
 obtain ⟨bk,hbk⟩:∃ b,w.heap.size=b:=⟨_,rfl⟩
 have HA:Hid (Arr w1 bk [.int .i64 W,.int .i64 H,.int .i64 C,.int .i64 D,.slice A n c]):=(show Arr _ _ _ by rw [← hw1,← hbk];exact Arr.new w [.int .i64 W,.int .i64 H,.int .i64 C,.int .i64 D,.slice A n c] _)
 have HB:Hid (Below bk w w1):=(show Below _ _ _ by rw [← hw1,← hbk];exact (Below.refl w.heap.size w).alloc (Nat.le_refl _) _)
 have HR:Hid (RdB w1 w1.heap.size A n bs):=(show RdB _ _ _ _ _ by rw [← hw1];exact Rd.here (Rd.alloc h (Nat.le_refl _) _))
 have HD:Hid (RdB w1 w1.heap.size A2 n2 data):=(show RdB _ _ _ _ _ by rw [← hw1];exact Rd.here (Rd.alloc h2 (Nat.le_refl _) _))
 have hbz:bk≤w1.heap.size:=by rw [← hw1,World.size_alloc,hbk];exact Nat.le_succ _
 have a0:=HA.out.cell (k:=0) rfl
 have a1:=HA.out.cell (k:=1) rfl
 have a2:=HA.out.cell (k:=2) rfl
 have a3:=HA.out.cell (k:=3) rfl
 have a4:=HA.out.cell (k:=4) rfl
 rw [hbk]
 clear h h2 hln hln2
 by_cases t1:3000 < n
 ·have t1i:(3000:Int) < (n:Int):=by omega
  go_enter Tryz.func5,Tryz.ntmps5
  (try simp only [hw1,hbk])
  go_wp2_with (first
   | (go_at_call 7;(with_reducible refine (first13_any _).mono ?_);go_must (rintro e wf ⟨rfl,hb⟩;replace HA:=Lib.hid (HA.out.later hb);replace HB:=Lib.hid (HB.out.trans (hb.mono hbz));replace HR:=Lib.hid (RdB.later HR.out hb);replace HD:=Lib.hid (RdB.later HD.out hb);replace hbz:=Nat.le_trans hbz hb.size;replace a0:=HA.out.cell (k:=0) rfl;replace a1:=HA.out.cell (k:=1) rfl;replace a2:=HA.out.cell (k:=2) rfl;replace a3:=HA.out.cell (k:=3) rfl;replace a4:=HA.out.cell (k:=4) rfl;clear hb))
   | (go_at_call 15;(with_reducible refine (HMY.out _).mono ?_);go_must (rintro e wm ⟨rfl,hb⟩;replace HA:=Lib.hid (HA.out.later hb);replace HB:=Lib.hid (HB.out.trans (hb.mono hbz));replace HR:=Lib.hid (RdB.later HR.out hb);replace HD:=Lib.hid (RdB.later HD.out hb);replace hbz:=Nat.le_trans hbz hb.size;replace a0:=HA.out.cell (k:=0) rfl;replace a1:=HA.out.cell (k:=1) rfl;replace a2:=HA.out.cell (k:=2) rfl;replace a3:=HA.out.cell (k:=3) rfl;replace a4:=HA.out.cell (k:=4) rfl;clear hb)))
  go_ret
  exact ⟨rfl,HB.out⟩
 ·have t1i:¬ (3000:Int) < (n:Int):=by omega
  by_cases t2:cut < 0
  ·have t2i:cut < 0:=t2
   go_enter Tryz.func5,Tryz.ntmps5
   (try simp only [hw1,hbk])
   go_wp2_with (first
    | (go_at_call 7;(with_reducible refine (first13_any _).mono ?_);go_must (rintro e wf ⟨rfl,hb⟩;replace HA:=Lib.hid (HA.out.later hb);replace HB:=Lib.hid (HB.out.trans (hb.mono hbz));replace HR:=Lib.hid (RdB.later HR.out hb);replace HD:=Lib.hid (RdB.later HD.out hb);replace hbz:=Nat.le_trans hbz hb.size;replace a0:=HA.out.cell (k:=0) rfl;replace a1:=HA.out.cell (k:=1) rfl;replace a2:=HA.out.cell (k:=2) rfl;replace a3:=HA.out.cell (k:=3) rfl;replace a4:=HA.out.cell (k:=4) rfl;clear hb))
    | (go_at_call 15;(with_reducible refine (HMY.out _).mono ?_);go_must (rintro e wm ⟨rfl,hb⟩;replace HA:=Lib.hid (HA.out.later hb);replace HB:=Lib.hid (HB.out.trans (hb.mono hbz));replace HR:=Lib.hid (RdB.later HR.out hb);replace HD:=Lib.hid (RdB.later HD.out hb);replace hbz:=Nat.le_trans hbz hb.size;replace a0:=HA.out.cell (k:=0) rfl;replace a1:=HA.out.cell (k:=1) rfl;replace a2:=HA.out.cell (k:=2) rfl;replace a3:=HA.out.cell (k:=3) rfl;replace a4:=HA.out.cell (k:=4) rfl;clear hb)))
   go_ret
   exact ⟨rfl,HB.out⟩
  ·by_cases t3:300 < n2
   ·have t3i:(300:Int) < (n2:Int):=by omega
    go_enter Tryz.func5,Tryz.ntmps5
    (try simp only [hw1,hbk])
    go_wp2_with (first
     | (go_at_call 7;(with_reducible refine (first13_any _).mono ?_);go_must (rintro e wf ⟨rfl,hb⟩;replace HA:=Lib.hid (HA.out.later hb);replace HB:=Lib.hid (HB.out.trans (hb.mono hbz));replace HR:=Lib.hid (RdB.later HR.out hb);replace HD:=Lib.hid (RdB.later HD.out hb);replace hbz:=Nat.le_trans hbz hb.size;replace a0:=HA.out.cell (k:=0) rfl;replace a1:=HA.out.cell (k:=1) rfl;replace a2:=HA.out.cell (k:=2) rfl;replace a3:=HA.out.cell (k:=3) rfl;replace a4:=HA.out.cell (k:=4) rfl;clear hb))
     | (go_at_call 15;(with_reducible refine (HMY.out _).mono ?_);go_must (rintro e wm ⟨rfl,hb⟩;replace HA:=Lib.hid (HA.out.later hb);replace HB:=Lib.hid (HB.out.trans (hb.mono hbz));replace HR:=Lib.hid (RdB.later HR.out hb);replace HD:=Lib.hid (RdB.later HD.out hb);replace hbz:=Nat.le_trans hbz hb.size;replace a0:=HA.out.cell (k:=0) rfl;replace a1:=HA.out.cell (k:=1) rfl;replace a2:=HA.out.cell (k:=2) rfl;replace a3:=HA.out.cell (k:=3) rfl;replace a4:=HA.out.cell (k:=4) rfl;clear hb)))
    go_ret
    exact ⟨rfl,HB.out⟩
   ·have t3i:¬ (300:Int) < (n2:Int):=by omega
    obtain rfl:mv=false:=by
     rcases hk with h | h | h | h
     ·exact absurd h t1
     ·exact absurd h t2
     ·exact absurd h t3
     ·exact h
    go_enter Tryz.func5,Tryz.ntmps5
    (try simp only [hw1,hbk])
    go_wp2_with (first
     | (go_at_call 7;(with_reducible refine (first13_any _).mono ?_);go_must (rintro e wf ⟨rfl,hb⟩;replace HA:=Lib.hid (HA.out.later hb);replace HB:=Lib.hid (HB.out.trans (hb.mono hbz));replace HR:=Lib.hid (RdB.later HR.out hb);replace HD:=Lib.hid (RdB.later HD.out hb);replace hbz:=Nat.le_trans hbz hb.size;replace a0:=HA.out.cell (k:=0) rfl;replace a1:=HA.out.cell (k:=1) rfl;replace a2:=HA.out.cell (k:=2) rfl;replace a3:=HA.out.cell (k:=3) rfl;replace a4:=HA.out.cell (k:=4) rfl;clear hb))
     | (go_at_call 15;(with_reducible refine (HMY.out _).mono ?_);go_must (rintro e wm ⟨rfl,hb⟩;replace HA:=Lib.hid (HA.out.later hb);replace HB:=Lib.hid (HB.out.trans (hb.mono hbz));replace HR:=Lib.hid (RdB.later HR.out hb);replace HD:=Lib.hid (RdB.later HD.out hb);replace hbz:=Nat.le_trans hbz hb.size;replace a0:=HA.out.cell (k:=0) rfl;replace a1:=HA.out.cell (k:=1) rfl;replace a2:=HA.out.cell (k:=2) rfl;replace a3:=HA.out.cell (k:=3) rfl;replace a4:=HA.out.cell (k:=4) rfl;clear hb)))
    go_ret
    exact ⟨rfl,HB.out⟩
/-- The region that lays the data in two chunks. -/
def splInv1 (mk:(Nat→Value)→Act) (g5 n5 c5 bd od zl cq k n2 c2:Nat) (AK A2:Option Addr) (l5 z5 data:List UInt8) (z:Nat) (w0:World) (f:Nat→Bool) (a:Act) (w:World):Prop :=
 ∃ (v:Nat→Value),a=mk v ∧
  (f 0=true→v 75=.slice (some ⟨g5,0,none⟩) n5 c5) ∧
  (f 1=true→v 76=.slice (some ⟨g5,0,none⟩) 33 c5) ∧
  (f 2=true→f 7=false→ownB w z (v 77) (l5.take 33)) ∧
  (f 3=true→v 78=.slice (some ⟨bd,od,none⟩) zl cq) ∧
  (f 4=true→v 79=.int .i64 (k:Int)) ∧
  (f 5=true→v 80=.slice (some ⟨bd,od,none⟩) k cq) ∧
  (f 6=true→f 7=false→ownB w z (v 81) (chQ (IDAT,z5.take k))) ∧
  (f 7=true→f 12=false→ownB w z (v 82) (l5.take 33 ++ chQ (IDAT,z5.take k))) ∧
  (f 8=true→v 83=.slice (some ⟨bd,od,none⟩) zl cq) ∧
  (f 9=true→v 84=.int .i64 (k:Int)) ∧
  (f 10=true→v 85=.slice AK (zl - k) (cq - k)) ∧
  (f 11=true→f 12=false→ownB w z (v 86) (chQ (IDAT,z5.drop k))) ∧
  (f 12=true→f 14=false→ownB w z (v 87) (l5.take 33 ++ chQ (IDAT,z5.take k) ++ chQ (IDAT,z5.drop k))) ∧
  (f 13=true→f 14=false→ownB w z (v 88) (chQ (IEND,[]))) ∧
  (f 14=true→ownB w z (v 89) (l5.take 33 ++ chQ (IDAT,z5.take k) ++ chQ (IDAT,z5.drop k) ++ chQ (IEND,[]))) ∧
  (f 15=true→ownB w z (v 13) (l5.take 33 ++ chQ (IDAT,z5.take k) ++ chQ (IDAT,z5.drop k) ++ chQ (IEND,[]))) ∧
  (f 2=true→f 7=false→f 6=true→∀ g,(v 77).ownBlock=some g→(v 81).ownBlock ≠ some g) ∧
  (f 2=true→f 7=false→f 11=true→∀ g,(v 77).ownBlock=some g→(v 86).ownBlock ≠ some g) ∧
  (f 2=true→f 7=false→f 13=true→∀ g,(v 77).ownBlock=some g→(v 88).ownBlock ≠ some g) ∧
  (f 7=true→f 12=false→f 11=true→∀ g,(v 82).ownBlock=some g→(v 86).ownBlock ≠ some g) ∧
  (f 7=true→f 12=false→f 13=true→∀ g,(v 82).ownBlock=some g→(v 88).ownBlock ≠ some g) ∧
  (f 12=true→f 14=false→f 13=true→∀ g,(v 87).ownBlock=some g→(v 88).ownBlock ≠ some g) ∧
  (f 15=true→f 14=true) ∧
  (f 7=true→f 2=true) ∧
  (f 12=true→f 7=true) ∧
  (f 14=true→f 12=true) ∧
  (f 7=true→f 6=true) ∧
  (f 12=true→f 11=true) ∧
  (f 14=true→f 13=true) ∧
  (Below z w0 w)
/-- The same with another between them. -/
def splInv2 (mk:(Nat→Value)→Act) (g5 n5 c5 bd od zl cq k n2 c2:Nat) (AK A2:Option Addr) (l5 z5 data:List UInt8) (z:Nat) (w0:World) (f:Nat→Bool) (a:Act) (w:World):Prop :=
 ∃ (v:Nat→Value),a=mk v ∧
  (f 0=true→v 90=.slice (some ⟨g5,0,none⟩) n5 c5) ∧
  (f 1=true→v 91=.slice (some ⟨g5,0,none⟩) 33 c5) ∧
  (f 2=true→f 7=false→ownB w z (v 92) (l5.take 33)) ∧
  (f 3=true→v 93=.slice (some ⟨bd,od,none⟩) zl cq) ∧
  (f 4=true→v 94=.int .i64 (k:Int)) ∧
  (f 5=true→v 95=.slice (some ⟨bd,od,none⟩) k cq) ∧
  (f 6=true→f 7=false→ownB w z (v 96) (chQ (IDAT,z5.take k))) ∧
  (f 7=true→f 10=false→ownB w z (v 97) (l5.take 33 ++ chQ (IDAT,z5.take k))) ∧
  (f 8=true→v 98=.slice A2 n2 c2) ∧
  (f 9=true→f 10=false→ownB w z (v 99) (chQ (teXt,data))) ∧
  (f 10=true→f 15=false→ownB w z (v 100) (l5.take 33 ++ chQ (IDAT,z5.take k) ++ chQ (teXt,data))) ∧
  (f 11=true→v 101=.slice (some ⟨bd,od,none⟩) zl cq) ∧
  (f 12=true→v 102=.int .i64 (k:Int)) ∧
  (f 13=true→v 103=.slice AK (zl - k) (cq - k)) ∧
  (f 14=true→f 15=false→ownB w z (v 104) (chQ (IDAT,z5.drop k))) ∧
  (f 15=true→f 17=false→ownB w z (v 105) (l5.take 33 ++ chQ (IDAT,z5.take k) ++ chQ (teXt,data) ++ chQ (IDAT,z5.drop k))) ∧
  (f 16=true→f 17=false→ownB w z (v 106) (chQ (IEND,[]))) ∧
  (f 17=true→ownB w z (v 107) (l5.take 33 ++ chQ (IDAT,z5.take k) ++ chQ (teXt,data) ++ chQ (IDAT,z5.drop k) ++ chQ (IEND,[]))) ∧
  (f 18=true→ownB w z (v 14) (l5.take 33 ++ chQ (IDAT,z5.take k) ++ chQ (teXt,data) ++ chQ (IDAT,z5.drop k) ++ chQ (IEND,[]))) ∧
  (f 2=true→f 7=false→f 6=true→∀ g,(v 92).ownBlock=some g→(v 96).ownBlock ≠ some g) ∧
  (f 2=true→f 7=false→f 9=true→∀ g,(v 92).ownBlock=some g→(v 99).ownBlock ≠ some g) ∧
  (f 2=true→f 7=false→f 14=true→∀ g,(v 92).ownBlock=some g→(v 104).ownBlock ≠ some g) ∧
  (f 2=true→f 7=false→f 16=true→∀ g,(v 92).ownBlock=some g→(v 106).ownBlock ≠ some g) ∧
  (f 7=true→f 10=false→f 9=true→∀ g,(v 97).ownBlock=some g→(v 99).ownBlock ≠ some g) ∧
  (f 7=true→f 10=false→f 14=true→∀ g,(v 97).ownBlock=some g→(v 104).ownBlock ≠ some g) ∧
  (f 7=true→f 10=false→f 16=true→∀ g,(v 97).ownBlock=some g→(v 106).ownBlock ≠ some g) ∧
  (f 10=true→f 15=false→f 14=true→∀ g,(v 100).ownBlock=some g→(v 104).ownBlock ≠ some g) ∧
  (f 10=true→f 15=false→f 16=true→∀ g,(v 100).ownBlock=some g→(v 106).ownBlock ≠ some g) ∧
  (f 15=true→f 17=false→f 16=true→∀ g,(v 105).ownBlock=some g→(v 106).ownBlock ≠ some g) ∧
  (f 18=true→f 17=true) ∧
  (f 7=true→f 2=true) ∧
  (f 10=true→f 7=true) ∧
  (f 15=true→f 10=true) ∧
  (f 17=true→f 15=true) ∧
  (f 7=true→f 6=true) ∧
  (f 10=true→f 9=true) ∧
  (f 15=true→f 14=true) ∧
  (f 17=true→f 16=true) ∧
  (Below z w0 w)
set_option maxRecDepth 100000 in
set_option maxHeartbeats 12800000 in
theorem pngSplits_main (W H C D K Q:Nat) (A A2:Option Addr) (n c n2 c2:Nat) (bs data:List UInt8) (w:World) (h:RdB w w.heap.size A n bs) (h2:RdB w w.heap.size A2 n2 data) (hc:n≤c)
  (hs:PS W H C D K) (hz:H * (W * K)≤16384) (hn:n=H * (W * K)) (t1:n≤3000) (t2:n2≤300) :
  Calls Tryz.prog 5 #[.agg #[.int .i64 (W:Int),.int .i64 (H:Int),.int .i64 (C:Int),.int .i64 (D:Int),.slice A n c],.int .i64 (Q:Int),.slice A2 n2 c2] w fun e w'=>e=.returned (.bool true)∧Below w.heap.size w w':=by
 have HMY:=Lib.hid (fun w=>may_any ⟨W,H,C,D⟩ A n c w)
 have hmr:=hs.mayR hz
 rw [← hn] at hmr
 rw [hmr] at HMY
 dsimp only [Sh.r] at HMY
 have hbl:bs.length=H * (W * K):=h.len.trans hn
 have HEN:=Lib.hid (fun A c (w:World) (h:RdB w w.heap.size A n bs) (hc:n≤c)=>encode_any W H C D K n c w.heap.size A bs w hs hz h (Nat.le_refl _) hn hc)
 have hfl:=flF_len (K:=K) (n:=W * K) (bs:=bs) hs.k1 hs.k8 H (by omega)
 have hNN:H * (W * K+1)≤20000:=by rw [Nat.mul_add,Nat.mul_one];have:=hs.h2;omega
 have hd13:=(hdrL_get W H C D 0).1
 obtain ⟨o1,o2,o3,o4,o5,o6⟩:=head_ok hs hz
 have hdr:∀ z,PK (flF K (W * K) bs H) z→decR W H C D K (H * (W * K+1)) (wholP z ((H * (W * K+1):Nat):Int))=(⟨W,H,C,D⟩,bs,0):=fun z hp=>decR_ok hs hz hbl hp
 have hzl:∀ z,PK (flF K (W * K) bs H) z→2≤z.length∧z.length≤21000:=fun z hp=>⟨hp.pos,by have:=hp.len;omega⟩
 obtain ⟨fl,hfle⟩:∃ fl,flF K (W * K) bs H=fl:=⟨_,rfl⟩
 obtain ⟨hd,hde⟩:∃ hd,hdrL W H C D 0=hd:=⟨_,rfl⟩
 have hln2a:=h2.len
 rw [hfle,hde] at HEN
 rw [hfle] at hdr hzl
 rw [hde] at hd13 o1 o2 o3 o4 o5 o6
 have HZL:=Lib.hid hzl
 have HH13:=Lib.hid hd13
 have hcx:∀ z,PK fl z→∀ k,chunksP (markL ++ flatQ [(IHDR,hd),(IDAT,z.take k),(IDAT,z.drop k),(IEND,[])])=(0,[(IHDR,hd),(IDAT,z.take k),(IDAT,z.drop k),(IEND,[])]):=fun z hp k=>chunksP_flat (goodDD hd13 (by have:=(hzl z hp).2;omega) k)
 have hcy:∀ z,PK fl z→∀ k,chunksP (markL ++ flatQ [(IHDR,hd),(IDAT,z.take k),(teXt,data),(IDAT,z.drop k),(IEND,[])])=(0,[(IHDR,hd),(IDAT,z.take k),(teXt,data),(IDAT,z.drop k),(IEND,[])]):=fun z hp k=>chunksP_flat (goodDT hd13 (by have:=(hzl z hp).2;omega) (by omega) k)
 have HCK:Hid (∀ z,PK fl z→∀ (w:World) A m c,RdB w w.heap.size A m (fileP hd z)→m≤c→Calls Tryz.prog 9 #[.slice A m c] w fun e w'=>∃ A9 c9 lq,e=.returned (.tuple #[.slice A9 3 c9,.int .i64 0])∧RdQ w' w'.heap.size A9 3 lq∧CR w' none lq [(IHDR,hd),(IDAT,z),(IEND,[])]∧3≤c9∧Below w.heap.size w w'):=(show ∀ z,_ from fun z hp w A m c h1 h2=>chunks3_any hd13 (by have:=(hzl z hp).2;omega) w A m c h1 h2)
 have HDX:Hid (∀ z,PK fl z→∀ k (w:World) A m c,RdB w w.heap.size A m (markL ++ flatQ [(IHDR,hd),(IDAT,z.take k),(IDAT,z.drop k),(IEND,[])])→m≤c→m≤1000000→Calls Tryz.prog 12 #[.slice A m c] w fun e w'=>∃ A9 c9,e=.returned (.tuple #[.agg #[.int .i64 (W:Int),.int .i64 (H:Int),.int .i64 (C:Int),.int .i64 (D:Int),.slice A9 n c9],.int .i64 0])∧RdB w' w'.heap.size A9 n bs∧Below w.heap.size w w'):=(show ∀ z,_ from fun z hp k w A m c h1 h2 h3=>by
  have hq:=hcx z hp k
  refine (decode_plain W H C D K (H * (W * K+1)) ⟨W,H,C,D⟩ bs 0 w.heap.size m c A _ w h1 (Nat.le_refl _) h2 h3 (by rw [hq]) (by rw [hq];exact soundDD hd13) (by rw [hq];exact o1) (by rw [hq];exact o2) (by rw [hq];exact o3) (by rw [hq];exact o4) (by rw [hq];exact o5) (by rw [hq];exact o6) hs hz rfl (by
   rw [hq]
   show decR W H C D K _ (wholP (datL [(IHDR,hd),(IDAT,z.take k),(IDAT,z.drop k),(IEND,[])]) _)=_
   rw [datDD]
   exact hdr z hp)).mono ?_
  rintro e w' ⟨v,rfl,ho,hb⟩
  obtain ⟨A9,c9,rfl,hr,-,-⟩:=ho.form
  have hbn:bs.length=n:=hbl.trans hn.symm
  rw [hbn] at hr ⊢
  exact ⟨A9,c9,rfl,hr,hb⟩)
 have HDY:Hid (∀ z,PK fl z→∀ k (w:World) A m c,RdB w w.heap.size A m (markL ++ flatQ [(IHDR,hd),(IDAT,z.take k),(teXt,data),(IDAT,z.drop k),(IEND,[])])→m≤c→m≤1000000→Calls Tryz.prog 12 #[.slice A m c] w fun e w'=>∃ A9 n9 c9,e=.returned (.tuple #[.agg #[.int .i64 0,.int .i64 0,.int .i64 0,.int .i64 0,.slice A9 n9 c9],.int .i64 4])∧Below w.heap.size w w'):=(show ∀ z,_ from fun z hp k w A m c h1 h2 h3=>by
  have hq:=hcy z hp k
  refine (decode_unsound w.heap.size m c A _ w h1 (Nat.le_refl _) h2 h3 (by rw [hq]) (by rw [hq];exact unsoundT rfl)).mono ?_
  rintro e w' ⟨v,rfl,ho,hb⟩
  obtain ⟨A9,c9,rfl,-,-,-⟩:=ho.form
  exact ⟨A9,_,c9,rfl,hb⟩)
 have t1i:¬ (3000:Int) < (n:Int):=by omega
 have t2i:¬ (300:Int) < (n2:Int):=by omega
 have t3i:¬ (Q:Int) < 0:=by omega
 have hcc:=hc
 have HNN2:=Lib.hid t2
 clear hcx hcy hdr hzl hfl hNN o1 o2 o3 o4 o5 o6 hfle hde hs hz hn hmr hbl hd13 t1 hln2a
 have hln:=h.len
 have hln2:=h2.len
 obtain ⟨w1,hw1⟩:∃ w1,w.alloc (.cells #[.int .i64 (W:Int),.int .i64 (H:Int),.int .i64 (C:Int),.int .i64 (D:Int),.slice A n c] 39)=w1:=⟨_,rfl⟩
 obtain ⟨bk,hbk⟩:∃ b,w.heap.size=b:=⟨_,rfl⟩
 have HA:Hid (Arr w1 bk [.int .i64 (W:Int),.int .i64 (H:Int),.int .i64 (C:Int),.int .i64 (D:Int),.slice A n c]):=(show Arr _ _ _ by rw [← hw1,← hbk];exact Arr.new w [.int .i64 (W:Int),.int .i64 (H:Int),.int .i64 (C:Int),.int .i64 (D:Int),.slice A n c] _)
 have HB:Hid (Below bk w w1):=(show Below _ _ _ by rw [← hw1,← hbk];exact (Below.refl w.heap.size w).alloc (Nat.le_refl _) _)
 have HR:Hid (RdB w1 w1.heap.size A n bs):=(show RdB _ _ _ _ _ by rw [← hw1];exact Rd.here (Rd.alloc h (Nat.le_refl _) _))
 have HD:Hid (RdB w1 w1.heap.size A2 n2 data):=(show RdB _ _ _ _ _ by rw [← hw1];exact Rd.here (Rd.alloc h2 (Nat.le_refl _) _))
 have hbz:bk≤w1.heap.size:=by rw [← hw1,World.size_alloc,hbk];exact Nat.le_succ _
 have a0:=HA.out.cell (k:=0) rfl
 have a1:=HA.out.cell (k:=1) rfl
 have a2:=HA.out.cell (k:=2) rfl
 have a3:=HA.out.cell (k:=3) rfl
 have a4:=HA.out.cell (k:=4) rfl
 rw [hbk]
 clear h h2
 go_enter Tryz.func5,Tryz.ntmps5
 (try simp only [hw1,hbk])
 go_upto_region 11 with (first
  | (go_at_call 7;(with_reducible refine (first13_any _).mono ?_);go_must (rintro e wf ⟨rfl,hb⟩;replace HA:=Lib.hid (HA.out.later hb);replace HB:=Lib.hid (HB.out.trans (hb.mono hbz));replace HR:=Lib.hid (RdB.later HR.out hb);replace HD:=Lib.hid (RdB.later HD.out hb);replace hbz:=Nat.le_trans hbz hb.size;replace a0:=HA.out.cell (k:=0) rfl;replace a1:=HA.out.cell (k:=1) rfl;replace a2:=HA.out.cell (k:=2) rfl;replace a3:=HA.out.cell (k:=3) rfl;replace a4:=HA.out.cell (k:=4) rfl;clear hb))
  | (go_at_call 15;(with_reducible refine (HMY.out _).mono ?_);go_must (rintro e wm ⟨rfl,hb⟩;replace HA:=Lib.hid (HA.out.later hb);replace HB:=Lib.hid (HB.out.trans (hb.mono hbz));replace HR:=Lib.hid (RdB.later HR.out hb);replace HD:=Lib.hid (RdB.later HD.out hb);replace hbz:=Nat.le_trans hbz hb.size;replace a0:=HA.out.cell (k:=0) rfl;replace a1:=HA.out.cell (k:=1) rfl;replace a2:=HA.out.cell (k:=2) rfl;replace a3:=HA.out.cell (k:=3) rfl;replace a4:=HA.out.cell (k:=4) rfl;clear hb))
  | (go_at_call 16;(with_reducible refine (HEN.out _ _ _ HR.out hcc).mono ?_);go_must (rintro e w5 ⟨g5,n5,c5,l5,rfl,hr5,⟨z5,hpk5,hz5⟩,hb⟩;replace HA:=Lib.hid (HA.out.later hb);replace HB:=Lib.hid (HB.out.trans (hb.mono hbz));replace HR:=Lib.hid (RdB.later HR.out hb);replace HD:=Lib.hid (RdB.later HD.out hb);replace hbz:=Nat.le_trans hbz hb.size;replace a0:=HA.out.cell (k:=0) rfl;replace a1:=HA.out.cell (k:=1) rfl;replace a2:=HA.out.cell (k:=2) rfl;replace a3:=HA.out.cell (k:=3) rfl;replace a4:=HA.out.cell (k:=4) rfl;have HE5:Hid (RdB w5 w5.heap.size (some ⟨g5,0,none⟩) n5 l5):=(show RdB _ _ _ _ _ from Rd.here hr5.rd);have HPK5:=Lib.hid hpk5;have HZ5:=Lib.hid hz5;have hc5:n5≤c5:=(by obtain ⟨cur,fz,e1,e2,e3,e4,e5⟩:=hr5;exact e4);have HC5:=Lib.hid hc5;have hl5:n5=z5.length+57:=(by have e1:=hr5.rd.len;rw [hz5,file_len _ _ HH13.out] at e1;exact e1.symm);have hn5i:¬ (n5:Int) < 57:=(by omega);have HL5:=Lib.hid hl5;clear hb hr5 hpk5 hz5 hl5))
  | (go_at_call 9;go_loud (with_reducible refine (HCK.out z5 HPK5.out _ _ _ _ (by have e:=HE5.out;rw [HZ5.out] at e;exact e) HC5.out).mono ?_);go_loud (rintro e wk ⟨A9,c9,lq,rfl,hrq,hcq,hc9,hb⟩;replace HA:=Lib.hid (HA.out.later hb);replace HB:=Lib.hid (HB.out.trans (hb.mono hbz));replace HR:=Lib.hid (RdB.later HR.out hb);replace HD:=Lib.hid (RdB.later HD.out hb);replace hbz:=Nat.le_trans hbz hb.size;replace a0:=HA.out.cell (k:=0) rfl;replace a1:=HA.out.cell (k:=1) rfl;replace a2:=HA.out.cell (k:=2) rfl;replace a3:=HA.out.cell (k:=3) rfl;replace a4:=HA.out.cell (k:=4) rfl;replace HE5:=Lib.hid (RdB.later HE5.out hb);obtain ⟨bq,oq,xq,rfl,hbq,HXQ,q0,q1⟩:=hrq.one (k:=1) (by decide);obtain ⟨kq,dq,Aq,cq,hpq,hlq,hcq2,hrq2⟩:=hcq.one (i:=1) (show 1 < 3 by decide);have hpq2:((IDAT,z5):CK)=(kq,dq):=(by injection hpq);injection hpq2 with hk1 hk2;subst hk1 hk2;have hxq:xq=(IDAT,Aq,z5.length,cq):=(by have:=HXQ.out.symm.trans hlq;injection this);subst hxq;dsimp only at q0 q1;have hzp:=HZL.out z5 HPK5.out;obtain ⟨bd,od,rfl⟩:∃ bd od,Aq=some ⟨bd,od,none⟩:=(by obtain ⟨b,o,e,-⟩:=hrq2.2 (by omega);exact ⟨b,o,e⟩);have HDD:=Lib.hid hrq2;obtain ⟨zl,hzl⟩:∃ m,z5.length=m:=⟨_,rfl⟩;rw [hzl] at q1 hcq2 hzp HDD;obtain ⟨k,hk⟩:∃ k,Q % (zl+1)=k:=⟨_,rfl⟩;have hkl:k≤zl:=(by have:=Nat.mod_lt Q (show 0 < zl+1 by omega);omega);have hz1w:IntKind.i64.wrap ((zl:Int)+1)=((zl+1:Nat):Int):=(by rw [show (zl:Int)+1=((zl+1:Nat):Int) by omega];exact wrap_i64_lt _ (by omega));have hz10:¬ ((zl+1:Nat):Int)=0:=(by omega);have hkt:(Q:Int).tmod ((zl+1:Nat):Int)=(k:Int):=(by rw [← hk];rfl);have hkt2:(Q:Int).tmod ((zl:Int)+1)=(k:Int):=(by rw [← hk];rfl);have hkw:IntKind.i64.wrap (k:Int)=(k:Int):=wrap_i64_lt k (by omega);have HKL:=Lib.hid (show k≤zl∧zl≤cq∧zl≤21000∧2≤zl from ⟨hkl,hcq2,hzp.2,hzp.1⟩);have HZLE:=Lib.hid hzl;clear hk hkl hzp hzl hcq2 hrq2 hpq hlq hbq;clear hb hrq hcq)))
 have HC9:=Lib.hid HC5.out
 obtain ⟨AK,hAK⟩:∃ AK,(if cq=k then some ⟨bd,od,none⟩ else some ⟨bd,od+k,none⟩:Option Addr)=AK:=⟨_,rfl⟩
 have HAKd:Hid ((cq=k∧AK=some ⟨bd,od,none⟩)∨(¬ cq=k∧AK=some ⟨bd,od+k,none⟩)):=(show _∨_ by
  by_cases e:cq=k
  ·exact .inl ⟨e,by rw [← hAK,if_pos e]⟩
  ·exact .inr ⟨e,by rw [← hAK,if_neg e]⟩)
 have HT1:Hid (RdB wk wk.heap.size (some ⟨g5,0,none⟩) 33 (l5.take 33)):=(show RdB _ _ _ _ _ from RdB.pre HE5.out (by have:=HL5.out;omega))
 have HTa:Hid (RdB wk wk.heap.size (some ⟨bd,od,none⟩) k (z5.take k)):=(show RdB _ _ _ _ _ from RdB.pre HDD.out HKL.out.1)
 have HTb:Hid (RdB wk wk.heap.size AK (zl - k) (z5.drop k)):=(show RdB _ _ _ _ _ by
  have:=RdB.cut HDD.out (k:=k) (m:=zl - k) (by have:=HKL.out;omega) (A':=AK) (fun hp=>by
   rcases HAKd.out with ⟨e1,e2⟩ | ⟨e1,e2⟩
   ·have:=HKL.out;omega
   ·rw [e2];simp [add_none])
  rwa [List.take_of_length_le (by rw [List.length_drop,HZLE.out];exact Nat.le_refl _)] at this)
 have HNC:Hid ((33:Int)≤(c5:Int)∧33≤c5∧(k:Int)≤(cq:Int)∧k≤cq∧((k:Int)≤(zl:Int)∧k≤zl)):=(show _∧_ from by have h9:=HKL.out;have h8:=HL5.out;have h7:=HC5.out;refine ⟨by omega,by omega,by omega,by omega,by omega,by omega⟩)
 have HLA:Hid ((l5.take 33).length≤100000∧(chQ (IDAT,z5.take k)).length≤100000∧(chQ (IDAT,z5.drop k)).length≤100000∧(chQ (teXt,data)).length≤100000∧(chQ (IEND,[])).length≤100000):=(show _∧_ by
  have h1:=HKL.out
  have h2:=HNN2.out
  have h3:=HD.out.len
  have h4:=HZLE.out
  refine ⟨by rw [List.length_take];omega,?_,?_,?_,?_⟩
  ·rw [chQ_len rfl];show (z5.take k).length+12≤_;rw [List.length_take];omega
  ·rw [chQ_len rfl];show (z5.drop k).length+12≤_;rw [List.length_drop];omega
  ·rw [chQ_len rfl];show data.length+12≤_;omega
  ·rw [chQ_len rfl];show 0+12≤_;omega)
 have HZW:Hid (wk.heap.size≤wk.heap.size):=Nat.le_refl _
 clear hAK q0 q1 hz1w hz10 hkt hkt2 hkw a0 a1 a2 a3 a4 hc5 hn5i hc9 HDD HE5 HCK HMY
 go_cut [13] (fun v13 wx=>ownB wx wk.heap.size v13 (l5.take 33 ++ chQ (IDAT,z5.take k) ++ chQ (IDAT,z5.drop k) ++ chQ (IEND,[]))∧Below wk.heap.size wk wx)
 case first =>
  refine wp_region_inv2 (by kernel_rfl) (by kernel_rfl) (splInv1 (fun v=>⟨#[.agg #[.int .i64 (W:Int),.int .i64 (H:Int),.int .i64 (C:Int),.int .i64 (D:Int),.slice A n c],.int .i64 (Q:Int),.slice A2 n2 c2,.pointer (some ⟨bk,0,none⟩),undef,undef,.bool false,.slice (some ⟨g5,0,none⟩) n5 c5,.int .i64 0,.slice (some ⟨bq,oq,none⟩) 3 c9,.int .i64 0,.slice (some ⟨bd,od,none⟩) zl cq,.int .i64 (k:Int),v 13,undef,undef,undef,undef,undef,.bool true,.bool false,.pointer (some ⟨bk,4,none⟩),.slice A n c,.int .i64 (n:Int),.bool (decide (3000 < (n:Int))),.bool (decide (3000 < (n:Int))),.int .i64 (Q:Int),.bool (decide ((Q:Int) < 0)),.bool (decide (3000 < (n:Int)) || decide ((Q:Int) < 0)),.bool (decide (3000 < (n:Int)) || decide ((Q:Int) < 0)),.slice A2 n2 c2,.int .i64 (n2:Int),.bool (decide (300 < (n2:Int))),.bool (decide (3000 < (n:Int)) || decide ((Q:Int) < 0) || decide (300 < (n2:Int))),.bool (decide (3000 < (n:Int)) || decide ((Q:Int) < 0) || decide (300 < (n2:Int))),.agg #[.int .i64 (W:Int),.int .i64 (H:Int),.int .i64 (C:Int),.int .i64 (D:Int),.slice A n c],.bool true,.bool false,.bool (decide (3000 < (n:Int)) || decide ((Q:Int) < 0) || decide (300 < (n2:Int))),undef,.tuple #[.slice (some ⟨g5,0,none⟩) n5 c5,.int .i64 0],.agg #[.int .i64 (W:Int),.int .i64 (H:Int),.int .i64 (C:Int),.int .i64 (D:Int),.slice A n c],.tuple #[.slice (some ⟨g5,0,none⟩) n5 c5,.int .i64 0],.slice (some ⟨g5,0,none⟩) n5 c5,.int .i64 0,.tuple #[.slice (some ⟨bq,oq,none⟩) 3 c9,.int .i64 0],.slice (some ⟨g5,0,none⟩) n5 c5,.tuple #[.slice (some ⟨bq,oq,none⟩) 3 c9,.int .i64 0],.slice (some ⟨bq,oq,none⟩) 3 c9,.int .i64 0,.int .i64 0,.bool false,.bool false,.int .i64 0,.bool false,.bool false,.bool false,.slice (some ⟨bq,oq,none⟩) 3 c9,.int .i64 3,.bool false,.bool false,.bool false,.slice (some ⟨g5,0,none⟩) n5 c5,.int .i64 (n5:Int),.bool (decide ((n5:Int) < 57)),.bool (decide ((n5:Int) < 57)),.slice (some ⟨bq,oq,none⟩) 3 c9,.pointer (some ⟨bq,oq+2,none⟩),.pointer (some ⟨bq,oq+2+1,none⟩),.slice (some ⟨bd,od,none⟩) zl cq,.int .i64 (Q:Int),.slice (some ⟨bd,od,none⟩) zl cq,.int .i64 (zl:Int),.int .i64 ((zl:Int)+1),.int .i64 (k:Int),v 75,v 76,v 77,v 78,v 79,v 80,v 81,v 82,v 83,v 84,v 85,v 86,v 87,v 88,v 89,undef,undef,undef,undef,undef,undef,undef,undef,undef,undef,undef,undef,undef,undef,undef,undef,undef,undef,undef,undef,undef,undef,undef,undef,undef,undef,undef,undef,undef,undef,undef,undef,undef,undef,undef,undef,undef,undef,undef,undef,undef,undef],[]⟩) g5 n5 c5 bd od zl cq k n2 c2 AK A2 l5 z5 data wk.heap.size wk) ?_ ?_ ?_
  ·exact ⟨(fun kS=>match kS with | 75=>undef | 76=>undef | 77=>undef | 78=>undef | 79=>undef | 80=>undef | 81=>undef | 82=>undef | 83=>undef | 84=>undef | 85=>undef | 86=>undef | 87=>undef | 88=>undef | 89=>undef | 13=>undef | _=>undef),rfl,(fun h=>by cases h),(fun h=>by cases h),(fun h=>by cases h),(fun h=>by cases h),(fun h=>by cases h),(fun h=>by cases h),(fun h=>by cases h),(fun h=>by cases h),(fun h=>by cases h),(fun h=>by cases h),(fun h=>by cases h),(fun h=>by cases h),(fun h=>by cases h),(fun h=>by cases h),(fun h=>by cases h),(fun h=>by cases h),(fun h=>by cases h),(fun h=>by cases h),(fun h=>by cases h),(fun h=>by cases h),(fun h=>by cases h),(fun h=>by cases h),(fun h=>by cases h),(fun h=>by cases h),(fun h=>by cases h),(fun h=>by cases h),(fun h=>by cases h),(fun h=>by cases h),(fun h=>by cases h),(Below.refl _ _).drew⟩
  ·intro f a w i hi0 hf he hI
   have hi:i < 16:=hi0
   clear hi0
   obtain ⟨v,rfl,p0,p1,p2,p3,p4,p5,p6,p7,p8,p9,p10,p11,p12,p13,p14,p15,q2_6,q2_11,q2_13,q7_11,q7_13,q12_13,d15_14,d7_2,d12_7,d14_12,d7_6,d12_11,d14_13,hB⟩:=hI
   have hzw:wk.heap.size≤w.heap.size:=Nat.le_trans HZW.out hB.size
   replace p0:=Lib.hid p0
   replace p1:=Lib.hid p1
   replace p2:=Lib.hid p2
   replace p3:=Lib.hid p3
   replace p4:=Lib.hid p4
   replace p5:=Lib.hid p5
   replace p6:=Lib.hid p6
   replace p7:=Lib.hid p7
   replace p8:=Lib.hid p8
   replace p9:=Lib.hid p9
   replace p10:=Lib.hid p10
   replace p11:=Lib.hid p11
   replace p12:=Lib.hid p12
   replace p13:=Lib.hid p13
   replace p14:=Lib.hid p14
   replace p15:=Lib.hid p15
   replace q2_6:=Lib.hid q2_6
   replace q2_11:=Lib.hid q2_11
   replace q2_13:=Lib.hid q2_13
   replace q7_11:=Lib.hid q7_11
   replace q7_13:=Lib.hid q7_13
   replace q12_13:=Lib.hid q12_13
   replace d15_14:=Lib.hid d15_14
   replace d7_2:=Lib.hid d7_2
   replace d12_7:=Lib.hid d12_7
   replace d14_12:=Lib.hid d14_12
   replace d7_6:=Lib.hid d7_6
   replace d12_11:=Lib.hid d12_11
   replace d14_13:=Lib.hid d14_13
   replace hB:=Lib.hid hB
   have hi':i=0∨i=1∨i=2∨i=3∨i=4∨i=5∨i=6∨i=7∨i=8∨i=9∨i=10∨i=11∨i=12∨i=13∨i=14∨i=15:=by omega
   clear hi
   rcases hi' with rfl | rfl | rfl | rfl | rfl | rfl | rfl | rfl | rfl | rfl | rfl | rfl | rfl | rfl | rfl | rfl
   ·clear he
    refine wpOp_plainK rfl rfl (fun K HK=>?_)
    dsimp only
    go_simp
    exact HK.out _ _ ⟨(fun kS=>if kS=75 then .slice (some ⟨g5,0,none⟩) n5 c5 else v kS),rfl,fun _=>rfl,p1.out,p2.out,p3.out,p4.out,p5.out,p6.out,p7.out,p8.out,p9.out,p10.out,p11.out,p12.out,p13.out,p14.out,p15.out,q2_6.out,q2_11.out,q2_13.out,q7_11.out,q7_13.out,q12_13.out,d15_14.out,d7_2.out,d12_7.out,d14_12.out,d7_6.out,d12_11.out,d14_13.out,hB.out⟩
   ·have r0:=p0.out (he 0 (by kernel_rfl))
    have k1:=HNC.out.1
    have k2:=HNC.out.2.1
    clear he
    refine wpOp_plainK rfl rfl (fun K HK=>?_)
    dsimp only
    rw [r0]
    clear r0
    go_simp
    exact HK.out _ _ ⟨(fun kS=>if kS=76 then .slice (some ⟨g5,0,none⟩) 33 c5 else (fun kS=>if kS=75 then .slice (some ⟨g5,0,none⟩) n5 c5 else v kS) kS),rfl,fun _=>rfl,fun _=>rfl,p2.out,p3.out,p4.out,p5.out,p6.out,p7.out,p8.out,p9.out,p10.out,p11.out,p12.out,p13.out,p14.out,p15.out,q2_6.out,q2_11.out,q2_13.out,q7_11.out,q7_13.out,q12_13.out,d15_14.out,d7_2.out,d12_7.out,d14_12.out,d7_6.out,d12_11.out,d14_13.out,hB.out⟩
   ·have r1:=p1.out (he 1 (by kernel_rfl))
    have hcall:=copyB_any wk.heap.size 33 c5 (some ⟨g5,0,none⟩) (l5.take 33) w (RdB.blw HT1.out hB.out) (by omega)
    clear he
    refine wpOp_plainK rfl rfl (fun K HK=>?_)
    dsimp only
    rw [r1]
    clear r1
    go_simp
    go_at_call 8
    (with_reducible refine hcall.mono ?_)
    rintro e w' ⟨v1,rfl,ho,hb⟩
    go_simp
    exact HK.out _ _ ⟨(fun kS=>if kS=77 then v1 else (fun kS=>if kS=76 then .slice (some ⟨g5,0,none⟩) 33 c5 else v kS) kS),rfl,p0.out,fun _=>rfl,fun _ _=>ho.mono hzw,p3.out,p4.out,p5.out,fun h h6=>ownB.later (p6.out h h6) hb,fun h h6=>ownB.later (p7.out h h6) hb,p8.out,p9.out,p10.out,fun h h6=>ownB.later (p11.out h h6) hb,fun h h6=>ownB.later (p12.out h h6) hb,fun h h6=>ownB.later (p13.out h h6) hb,fun h=>ownB.later (p14.out h) hb,fun h=>ownB.later (p15.out h) hb,fun _ _ h g e1 e2=>by have h1:=(World.ownsRow.lt ho g e1).1;have h2:=(World.ownsRow.lt (p6.out h (by cases hh:f 7 with | false=>rfl | true=>exact Bool.noConfusion (show true=false from (d7_2.out (hh)).symm.trans hf))) g e2).2;omega,fun _ _ h g e1 e2=>by have h1:=(World.ownsRow.lt ho g e1).1;have h2:=(World.ownsRow.lt (p11.out h (by cases hh:f 12 with | false=>rfl | true=>exact Bool.noConfusion (show true=false from (d7_2.out (d12_7.out (hh))).symm.trans hf))) g e2).2;omega,fun _ _ h g e1 e2=>by have h1:=(World.ownsRow.lt ho g e1).1;have h2:=(World.ownsRow.lt (p13.out h (by cases hh:f 14 with | false=>rfl | true=>exact Bool.noConfusion (show true=false from (d7_2.out (d12_7.out (d14_12.out (hh)))).symm.trans hf))) g e2).2;omega,q7_11.out,q7_13.out,q12_13.out,d15_14.out,fun _=>rfl,d12_7.out,d14_12.out,d7_6.out,d12_11.out,d14_13.out,hB.out.trans (Below.mono hb hzw)⟩
   ·clear he
    refine wpOp_plainK rfl rfl (fun K HK=>?_)
    dsimp only
    go_simp
    exact HK.out _ _ ⟨(fun kS=>if kS=78 then .slice (some ⟨bd,od,none⟩) zl cq else v kS),rfl,p0.out,p1.out,p2.out,fun _=>rfl,p4.out,p5.out,p6.out,p7.out,p8.out,p9.out,p10.out,p11.out,p12.out,p13.out,p14.out,p15.out,q2_6.out,q2_11.out,q2_13.out,q7_11.out,q7_13.out,q12_13.out,d15_14.out,d7_2.out,d12_7.out,d14_12.out,d7_6.out,d12_11.out,d14_13.out,hB.out⟩
   ·clear he
    refine wpOp_plainK rfl rfl (fun K HK=>?_)
    dsimp only
    go_simp
    exact HK.out _ _ ⟨(fun kS=>if kS=79 then .int .i64 (k:Int) else v kS),rfl,p0.out,p1.out,p2.out,p3.out,fun _=>rfl,p5.out,p6.out,p7.out,p8.out,p9.out,p10.out,p11.out,p12.out,p13.out,p14.out,p15.out,q2_6.out,q2_11.out,q2_13.out,q7_11.out,q7_13.out,q12_13.out,d15_14.out,d7_2.out,d12_7.out,d14_12.out,d7_6.out,d12_11.out,d14_13.out,hB.out⟩
   ·have r3:=p3.out (he 3 (by kernel_rfl))
    have r4:=p4.out (he 4 (by kernel_rfl))
    have k1:=HNC.out.2.2.1
    have k2:=HNC.out.2.2.2.1
    clear he
    refine wpOp_plainK rfl rfl (fun K HK=>?_)
    dsimp only
    rw [r3,r4]
    clear r3 r4
    go_simp
    exact HK.out _ _ ⟨(fun kS=>if kS=80 then .slice (some ⟨bd,od,none⟩) k cq else (fun kS=>if kS=79 then .int .i64 (k:Int) else (fun kS=>if kS=78 then .slice (some ⟨bd,od,none⟩) zl cq else v kS) kS) kS),rfl,p0.out,p1.out,p2.out,fun _=>rfl,fun _=>rfl,fun _=>rfl,p6.out,p7.out,p8.out,p9.out,p10.out,p11.out,p12.out,p13.out,p14.out,p15.out,q2_6.out,q2_11.out,q2_13.out,q7_11.out,q7_13.out,q12_13.out,d15_14.out,d7_2.out,d12_7.out,d14_12.out,d7_6.out,d12_11.out,d14_13.out,hB.out⟩
   ·have r5:=p5.out (he 5 (by kernel_rfl))
    have hcall:=chunkL_any wk.heap.size k cq (some ⟨bd,od,none⟩) (z5.take k) IDAT ⟨#[73,68,65,84]⟩ w rfl rfl (RdB.blw HTa.out hB.out) hzw (by have:=HKL.out;omega)
    clear he
    refine wpOp_plainK rfl rfl (fun K HK=>?_)
    dsimp only
    rw [r5]
    clear r5
    go_simp
    go_at_call 17
    (with_reducible refine hcall.mono ?_)
    rintro e w' ⟨v1,rfl,ho,hb⟩
    go_simp
    exact HK.out _ _ ⟨(fun kS=>if kS=81 then v1 else (fun kS=>if kS=80 then .slice (some ⟨bd,od,none⟩) k cq else v kS) kS),rfl,p0.out,p1.out,fun h h6=>ownB.later (p2.out h h6) hb,p3.out,p4.out,fun _=>rfl,fun _ _=>ho.mono hzw,fun h h6=>ownB.later (p7.out h h6) hb,p8.out,p9.out,p10.out,fun h h6=>ownB.later (p11.out h h6) hb,fun h h6=>ownB.later (p12.out h h6) hb,fun h h6=>ownB.later (p13.out h h6) hb,fun h=>ownB.later (p14.out h) hb,fun h=>ownB.later (p15.out h) hb,fun h h6 _ g e1 e2=>by have h1:=(World.ownsRow.lt (p2.out h h6) g e1).2;have h2:=(World.ownsRow.lt ho g e2).1;omega,q2_11.out,q2_13.out,q7_11.out,q7_13.out,q12_13.out,d15_14.out,d7_2.out,d12_7.out,d14_12.out,fun _=>rfl,d12_11.out,d14_13.out,hB.out.trans (Below.mono hb hzw)⟩
   ·have fa:f 2=true:=he 2 (by kernel_rfl)
    have hown:=p2.out fa hf
    have fc:f 6=true:=he 6 (by kernel_rfl)
    have hsrc:=p6.out fc hf
    obtain ⟨A4,c4,e4,r4,-,-⟩:=hsrc.form
    refine wpOp_appendA rfl rfl (.tmp 77) (.tmp 81) rfl wk.heap.size (v 77) _ rfl hown w.heap.size _ c4 A4 _ e4 r4 (by have:=HLA.out;omega) hzw (fun v' w' ho hg hb ha=>?_)
    exact ⟨(fun kS=>if kS=82 then v' else v kS),rfl,p0.out,p1.out,fun _ h6=>Bool.noConfusion (show true=false from h6),p3.out,p4.out,p5.out,fun _ h6=>Bool.noConfusion (show true=false from h6),fun _ _=>ho,p8.out,p9.out,p10.out,fun h h6=>World.ownsRow.kept (p11.out h h6) hg (by cases e:(v 86).ownBlock with | none=>(first | exact .inl rfl | exact .inl e) | some g=>(first | exact .inr (fun e2=>q2_11.out fa hf h g e2.symm e) | exact .inr (fun e2=>q2_11.out fa hf h g (e2.symm.trans e) e))),fun h h6=>Bool.noConfusion (show true=false from (d12_7.out (h)).symm.trans hf),fun h h6=>World.ownsRow.kept (p13.out h h6) hg (by cases e:(v 88).ownBlock with | none=>(first | exact .inl rfl | exact .inl e) | some g=>(first | exact .inr (fun e2=>q2_13.out fa hf h g e2.symm e) | exact .inr (fun e2=>q2_13.out fa hf h g (e2.symm.trans e) e))),fun h=>Bool.noConfusion (show true=false from (d12_7.out (d14_12.out (h))).symm.trans hf),fun h=>Bool.noConfusion (show true=false from (d12_7.out (d14_12.out (d15_14.out (h)))).symm.trans hf),fun _ h6=>Bool.noConfusion (show true=false from h6),fun _ h6=>Bool.noConfusion (show true=false from h6),fun _ h6=>Bool.noConfusion (show true=false from h6),fun _ h6 h g e1 e2=>(ha.elim (fun e3=>q2_11.out fa hf h g (e3.symm.trans e1) e2) (fun e3=>by have h1:=(World.ownsRow.lt (p11.out h (by cases hh:f 12 with | false=>rfl | true=>exact Bool.noConfusion (show true=false from (d12_7.out (hh)).symm.trans hf))) g e2).2;have h2:=e3.symm.trans e1;injection h2 with h2;omega)),fun _ h6 h g e1 e2=>(ha.elim (fun e3=>q2_13.out fa hf h g (e3.symm.trans e1) e2) (fun e3=>by have h1:=(World.ownsRow.lt (p13.out h (by cases hh:f 14 with | false=>rfl | true=>exact Bool.noConfusion (show true=false from (d12_7.out (d14_12.out (hh))).symm.trans hf))) g e2).2;have h2:=e3.symm.trans e1;injection h2 with h2;omega)),q12_13.out,d15_14.out,fun _=>he 2 (by kernel_rfl),fun _=>rfl,d14_12.out,fun _=>he 6 (by kernel_rfl),d12_11.out,d14_13.out,hB.out.trans hb⟩
   ·clear he
    refine wpOp_plainK rfl rfl (fun K HK=>?_)
    dsimp only
    go_simp
    exact HK.out _ _ ⟨(fun kS=>if kS=83 then .slice (some ⟨bd,od,none⟩) zl cq else v kS),rfl,p0.out,p1.out,p2.out,p3.out,p4.out,p5.out,p6.out,p7.out,fun _=>rfl,p9.out,p10.out,p11.out,p12.out,p13.out,p14.out,p15.out,q2_6.out,q2_11.out,q2_13.out,q7_11.out,q7_13.out,q12_13.out,d15_14.out,d7_2.out,d12_7.out,d14_12.out,d7_6.out,d12_11.out,d14_13.out,hB.out⟩
   ·clear he
    refine wpOp_plainK rfl rfl (fun K HK=>?_)
    dsimp only
    go_simp
    exact HK.out _ _ ⟨(fun kS=>if kS=84 then .int .i64 (k:Int) else v kS),rfl,p0.out,p1.out,p2.out,p3.out,p4.out,p5.out,p6.out,p7.out,p8.out,fun _=>rfl,p10.out,p11.out,p12.out,p13.out,p14.out,p15.out,q2_6.out,q2_11.out,q2_13.out,q7_11.out,q7_13.out,q12_13.out,d15_14.out,d7_2.out,d12_7.out,d14_12.out,d7_6.out,d12_11.out,d14_13.out,hB.out⟩
   ·rcases HAKd.out with ⟨e1,e2⟩ | ⟨e1,e2⟩
    ·replace e1:=e1.symm;subst e1 e2
     have r8:=p8.out (he 8 (by kernel_rfl))
     have r9:=p9.out (he 9 (by kernel_rfl))
     have k1:=HNC.out.2.2.1
     have k2:=HNC.out.2.2.2.1
     have k3:=HNC.out.2.2.2.2
     clear he
     refine wpOp_plainK rfl rfl (fun K HK=>?_)
     dsimp only
     rw [r8,r9]
     clear r8 r9
     go_simp
     exact HK.out _ _ ⟨(fun kS=>if kS=85 then .slice (some ⟨bd,od,none⟩) (zl - k) 0 else (fun kS=>if kS=84 then .int .i64 (k:Int) else (fun kS=>if kS=83 then .slice (some ⟨bd,od,none⟩) zl k else v kS) kS) kS),rfl,p0.out,p1.out,p2.out,p3.out,p4.out,p5.out,p6.out,p7.out,fun _=>rfl,fun _=>rfl,fun _=>by first | rfl | simp,p11.out,p12.out,p13.out,p14.out,p15.out,q2_6.out,q2_11.out,q2_13.out,q7_11.out,q7_13.out,q12_13.out,d15_14.out,d7_2.out,d12_7.out,d14_12.out,d7_6.out,d12_11.out,d14_13.out,hB.out⟩
    ·subst e2
     have r8:=p8.out (he 8 (by kernel_rfl))
     have r9:=p9.out (he 9 (by kernel_rfl))
     have k1:=HNC.out.2.2.1
     have k2:=HNC.out.2.2.2.1
     have k3:=HNC.out.2.2.2.2
     clear he
     refine wpOp_plainK rfl rfl (fun K HK=>?_)
     dsimp only
     rw [r8,r9]
     clear r8 r9
     go_simp
     exact HK.out _ _ ⟨(fun kS=>if kS=85 then .slice (some ⟨bd,od+k,none⟩) (zl - k) (cq - k) else (fun kS=>if kS=84 then .int .i64 (k:Int) else (fun kS=>if kS=83 then .slice (some ⟨bd,od,none⟩) zl cq else v kS) kS) kS),rfl,p0.out,p1.out,p2.out,p3.out,p4.out,p5.out,p6.out,p7.out,fun _=>rfl,fun _=>rfl,fun _=>by first | rfl | simp,p11.out,p12.out,p13.out,p14.out,p15.out,q2_6.out,q2_11.out,q2_13.out,q7_11.out,q7_13.out,q12_13.out,d15_14.out,d7_2.out,d12_7.out,d14_12.out,d7_6.out,d12_11.out,d14_13.out,hB.out⟩
   ·have r10:=p10.out (he 10 (by kernel_rfl))
    have hcall:=chunkL_any wk.heap.size (zl - k) (cq - k) AK (z5.drop k) IDAT ⟨#[73,68,65,84]⟩ w rfl rfl (RdB.blw HTb.out hB.out) hzw (by have:=HKL.out;omega)
    clear he
    refine wpOp_plainK rfl rfl (fun K HK=>?_)
    dsimp only
    rw [r10]
    clear r10
    go_simp
    go_at_call 17
    (with_reducible refine hcall.mono ?_)
    rintro e w' ⟨v1,rfl,ho,hb⟩
    go_simp
    exact HK.out _ _ ⟨(fun kS=>if kS=86 then v1 else (fun kS=>if kS=85 then .slice AK (zl - k) (cq - k) else v kS) kS),rfl,p0.out,p1.out,fun h h6=>ownB.later (p2.out h h6) hb,p3.out,p4.out,p5.out,fun h h6=>ownB.later (p6.out h h6) hb,fun h h6=>ownB.later (p7.out h h6) hb,p8.out,p9.out,fun _=>rfl,fun _ _=>ho.mono hzw,fun h h6=>ownB.later (p12.out h h6) hb,fun h h6=>ownB.later (p13.out h h6) hb,fun h=>ownB.later (p14.out h) hb,fun h=>ownB.later (p15.out h) hb,q2_6.out,fun h h6 _ g e1 e2=>by have h1:=(World.ownsRow.lt (p2.out h h6) g e1).2;have h2:=(World.ownsRow.lt ho g e2).1;omega,q2_13.out,fun h h6 _ g e1 e2=>by have h1:=(World.ownsRow.lt (p7.out h h6) g e1).2;have h2:=(World.ownsRow.lt ho g e2).1;omega,q7_13.out,q12_13.out,d15_14.out,d7_2.out,d12_7.out,d14_12.out,d7_6.out,fun _=>rfl,d14_13.out,hB.out.trans (Below.mono hb hzw)⟩
   ·have fa:f 7=true:=he 7 (by kernel_rfl)
    have hown:=p7.out fa hf
    have fc:f 11=true:=he 11 (by kernel_rfl)
    have hsrc:=p11.out fc hf
    obtain ⟨A4,c4,e4,r4,-,-⟩:=hsrc.form
    refine wpOp_appendA rfl rfl (.tmp 82) (.tmp 86) rfl wk.heap.size (v 82) _ rfl hown w.heap.size _ c4 A4 _ e4 r4 (by simp only [List.length_append];have:=HLA.out;omega) hzw (fun v' w' ho hg hb ha=>?_)
    exact ⟨(fun kS=>if kS=87 then v' else v kS),rfl,p0.out,p1.out,fun h h6=>Bool.noConfusion (show true=false from (fa).symm.trans h6),p3.out,p4.out,p5.out,fun h h6=>Bool.noConfusion (show true=false from (fa).symm.trans h6),fun _ h6=>Bool.noConfusion (show true=false from h6),p8.out,p9.out,p10.out,fun _ h6=>Bool.noConfusion (show true=false from h6),fun _ _=>ho,fun h h6=>World.ownsRow.kept (p13.out h h6) hg (by cases e:(v 88).ownBlock with | none=>(first | exact .inl rfl | exact .inl e) | some g=>(first | exact .inr (fun e2=>q7_13.out fa hf h g e2.symm e) | exact .inr (fun e2=>q7_13.out fa hf h g (e2.symm.trans e) e))),fun h=>Bool.noConfusion (show true=false from (d14_12.out (h)).symm.trans hf),fun h=>Bool.noConfusion (show true=false from (d14_12.out (d15_14.out (h))).symm.trans hf),q2_6.out,q2_11.out,q2_13.out,fun _ h6=>Bool.noConfusion (show true=false from h6),fun _ h6=>Bool.noConfusion (show true=false from h6),fun _ h6 h g e1 e2=>(ha.elim (fun e3=>q7_13.out fa hf h g (e3.symm.trans e1) e2) (fun e3=>by have h1:=(World.ownsRow.lt (p13.out h (by cases hh:f 14 with | false=>rfl | true=>exact Bool.noConfusion (show true=false from (d14_12.out (hh)).symm.trans hf))) g e2).2;have h2:=e3.symm.trans e1;injection h2 with h2;omega)),d15_14.out,d7_2.out,fun _=>he 7 (by kernel_rfl),fun _=>rfl,d7_6.out,fun _=>he 11 (by kernel_rfl),d14_13.out,hB.out.trans hb⟩
   ·have hcall:=chunkL_any w.heap.size 0 0 none [] IEND ⟨#[73,69,78,68]⟩ w rfl rfl Rd.none_ (Nat.le_refl _) (by omega)
    clear he
    refine wpOp_plainK rfl rfl (fun K HK=>?_)
    dsimp only
    go_simp
    go_at_call 17
    (with_reducible refine hcall.mono ?_)
    rintro e w' ⟨v1,rfl,ho,hb⟩
    go_simp
    exact HK.out _ _ ⟨(fun kS=>if kS=88 then v1 else v kS),rfl,p0.out,p1.out,fun h h6=>ownB.later (p2.out h h6) hb,p3.out,p4.out,p5.out,fun h h6=>ownB.later (p6.out h h6) hb,fun h h6=>ownB.later (p7.out h h6) hb,p8.out,p9.out,p10.out,fun h h6=>ownB.later (p11.out h h6) hb,fun h h6=>ownB.later (p12.out h h6) hb,fun _ _=>ho.mono hzw,fun h=>ownB.later (p14.out h) hb,fun h=>ownB.later (p15.out h) hb,q2_6.out,q2_11.out,fun h h6 _ g e1 e2=>by have h1:=(World.ownsRow.lt (p2.out h h6) g e1).2;have h2:=(World.ownsRow.lt ho g e2).1;omega,q7_11.out,fun h h6 _ g e1 e2=>by have h1:=(World.ownsRow.lt (p7.out h h6) g e1).2;have h2:=(World.ownsRow.lt ho g e2).1;omega,fun h h6 _ g e1 e2=>by have h1:=(World.ownsRow.lt (p12.out h h6) g e1).2;have h2:=(World.ownsRow.lt ho g e2).1;omega,d15_14.out,d7_2.out,d12_7.out,d14_12.out,d7_6.out,d12_11.out,fun _=>rfl,hB.out.trans (Below.mono hb hzw)⟩
   ·have fa:f 12=true:=he 12 (by kernel_rfl)
    have hown:=p12.out fa hf
    have fc:f 13=true:=he 13 (by kernel_rfl)
    have hsrc:=p13.out fc hf
    obtain ⟨A4,c4,e4,r4,-,-⟩:=hsrc.form
    refine wpOp_appendA rfl rfl (.tmp 87) (.tmp 88) rfl wk.heap.size (v 87) _ rfl hown w.heap.size _ c4 A4 _ e4 r4 (by simp only [List.length_append];have:=HLA.out;omega) hzw (fun v' w' ho hg hb ha=>?_)
    exact ⟨(fun kS=>if kS=89 then v' else v kS),rfl,p0.out,p1.out,fun h h6=>Bool.noConfusion (show true=false from (d12_7.out (fa)).symm.trans h6),p3.out,p4.out,p5.out,fun h h6=>Bool.noConfusion (show true=false from (d12_7.out (fa)).symm.trans h6),fun h h6=>Bool.noConfusion (show true=false from (fa).symm.trans h6),p8.out,p9.out,p10.out,fun h h6=>Bool.noConfusion (show true=false from (fa).symm.trans h6),fun _ h6=>Bool.noConfusion (show true=false from h6),fun _ h6=>Bool.noConfusion (show true=false from h6),fun _=>ho,fun h=>Bool.noConfusion (show true=false from (d15_14.out (h)).symm.trans hf),q2_6.out,q2_11.out,q2_13.out,q7_11.out,q7_13.out,fun _ h6=>Bool.noConfusion (show true=false from h6),fun _=>rfl,d7_2.out,d12_7.out,fun _=>he 12 (by kernel_rfl),d7_6.out,d12_11.out,fun _=>he 13 (by kernel_rfl),hB.out.trans hb⟩
   ·have hown:=p14.out (he 14 (by kernel_rfl))
    have hfd:=he 14 (by kernel_rfl)
    clear he
    refine wpOp_plainK rfl rfl (fun K HK=>?_)
    dsimp only
    go_simp
    exact HK.out _ _ ⟨(fun kS=>if kS=13 then (v 89) else v kS),rfl,p0.out,p1.out,p2.out,p3.out,p4.out,p5.out,p6.out,p7.out,p8.out,p9.out,p10.out,p11.out,p12.out,p13.out,p14.out,fun _=>hown,q2_6.out,q2_11.out,q2_13.out,q7_11.out,q7_13.out,q12_13.out,fun _=>hfd,d7_2.out,d12_7.out,d14_12.out,d7_6.out,d12_11.out,d14_13.out,hB.out⟩
  ·intro f a w hall hI
   obtain ⟨v,rfl,p0,p1,p2,p3,p4,p5,p6,p7,p8,p9,p10,p11,p12,p13,p14,p15,q2_6,q2_11,q2_13,q7_11,q7_13,q12_13,d15_14,d7_2,d12_7,d14_12,d7_6,d12_11,d14_13,hB⟩:=hI
   have FIN:Hid (ownB w wk.heap.size (v 13) (l5.take 33 ++ chQ (IDAT,z5.take k) ++ chQ (IDAT,z5.drop k) ++ chQ (IEND,[]))∧Below wk.heap.size wk w):=(show _∧_ from ⟨p15 (hall 15 (by decide)),hB⟩)
   clear p0 p1 p2 p3 p4 p5 p6 p7 p8 p9 p10 p11 p12 p13 p14 p15 q2_6 q2_11 q2_13 q7_11 q7_13 q12_13 d15_14 d7_2 d12_7 d14_12 d7_6 d12_11 d14_13 hB hall
   go_wp2_with fail
   go_meet
   case rel=>exact FIN.out
 case rest =>
 obtain ⟨ho13,hb13⟩:=hcut
 obtain ⟨A13,c13,rfl,hr13,hc13,-⟩:=ho13.form
 have HX:=Lib.hid hr13
 have HXC:=Lib.hid hc13
 have HAc:=Lib.hid (HA.out.later hb13)
 have HBc:=Lib.hid (HB.out.trans (hb13.mono hbz))
 have HRc:=Lib.hid (RdB.later HR.out hb13)
 have HDc:=Lib.hid (RdB.later HD.out hb13)
 have HT1c:=Lib.hid (RdB.blw HT1.out hb13)
 have HTac:=Lib.hid (RdB.blw HTa.out hb13)
 have HTbc:=Lib.hid (RdB.blw HTb.out hb13)
 have hbc:bk≤wc.heap.size:=Nat.le_trans hbz hb13.size
 have hzc:wk.heap.size≤wc.heap.size:=hb13.size
 obtain ⟨wy,rfl⟩:∃ wy:World,wy=wc:=⟨_,rfl⟩
 clear ho13 hr13 hb13 hc13 HA HB HR HD hbz HT1 HTa HTb HZW
 obtain ⟨X,hX⟩:∃ X,l5.take 33 ++ chQ (IDAT,z5.take k) ++ chQ (IDAT,z5.drop k) ++ chQ (IEND,[])=X:=⟨_,rfl⟩
 rw [hX] at HX HXC
 (try rw [hX])
 have HXE:=Lib.hid hX
 clear hX
 have HT1:Hid (RdB wy wy.heap.size (some ⟨g5,0,none⟩) 33 (l5.take 33)):=(show RdB _ _ _ _ _ from Rd.more HT1c.out hzc)
 have HTa:Hid (RdB wy wy.heap.size (some ⟨bd,od,none⟩) k (z5.take k)):=(show RdB _ _ _ _ _ from Rd.more HTac.out hzc)
 have HTb:Hid (RdB wy wy.heap.size AK (zl - k) (z5.drop k)):=(show RdB _ _ _ _ _ from Rd.more HTbc.out hzc)
 have HZW:Hid (wy.heap.size≤wy.heap.size):=Nat.le_refl _
 clear HT1c HTac HTbc
 go_upto_region 12 with fail
 go_cut [14] (fun v14 wx=>ownB wx wy.heap.size v14 (l5.take 33 ++ chQ (IDAT,z5.take k) ++ chQ (teXt,data) ++ chQ (IDAT,z5.drop k) ++ chQ (IEND,[]))∧Below wy.heap.size wy wx)
 case first =>
  refine wp_region_inv2 (by kernel_rfl) (by kernel_rfl) (splInv2 (fun v=>⟨#[.agg #[.int .i64 (W:Int),.int .i64 (H:Int),.int .i64 (C:Int),.int .i64 (D:Int),.slice A n c],.int .i64 (Q:Int),.slice A2 n2 c2,.pointer (some ⟨bk,0,none⟩),undef,undef,.bool false,.slice (some ⟨g5,0,none⟩) n5 c5,.int .i64 0,.slice (some ⟨bq,oq,none⟩) 3 c9,.int .i64 0,.slice (some ⟨bd,od,none⟩) zl cq,.int .i64 (k:Int),.slice A13 X.length c13,v 14,undef,undef,u17,undef,u19,u20,u21,u22,u23,u24,u25,u26,u27,u28,u29,u30,u31,u32,u33,u34,u35,u36,u37,u38,u39,u40,u41,u42,u43,u44,u45,u46,u47,u48,u49,u50,u51,u52,u53,u54,u55,u56,u57,u58,u59,u60,u61,u62,u63,u64,u65,u66,u67,u68,u69,u70,u71,u72,u73,u74,u75,u76,u77,u78,u79,u80,u81,u82,u83,u84,u85,u86,u87,u88,u89,v 90,v 91,v 92,v 93,v 94,v 95,v 96,v 97,v 98,v 99,v 100,v 101,v 102,v 103,v 104,v 105,v 106,v 107,u108,u109,u110,u111,u112,u113,u114,u115,u116,u117,u118,u119,u120,u121,u122,u123,u124,u125,u126,u127,u128,u129,u130,u131],[]⟩) g5 n5 c5 bd od zl cq k n2 c2 AK A2 l5 z5 data wy.heap.size wy) ?_ ?_ ?_
  ·exact ⟨(fun kS=>match kS with | 90=>u90 | 91=>u91 | 92=>u92 | 93=>u93 | 94=>u94 | 95=>u95 | 96=>u96 | 97=>u97 | 98=>u98 | 99=>u99 | 100=>u100 | 101=>u101 | 102=>u102 | 103=>u103 | 104=>u104 | 105=>u105 | 106=>u106 | 107=>u107 | 14=>undef | _=>undef),rfl,(fun h=>by cases h),(fun h=>by cases h),(fun h=>by cases h),(fun h=>by cases h),(fun h=>by cases h),(fun h=>by cases h),(fun h=>by cases h),(fun h=>by cases h),(fun h=>by cases h),(fun h=>by cases h),(fun h=>by cases h),(fun h=>by cases h),(fun h=>by cases h),(fun h=>by cases h),(fun h=>by cases h),(fun h=>by cases h),(fun h=>by cases h),(fun h=>by cases h),(fun h=>by cases h),(fun h=>by cases h),(fun h=>by cases h),(fun h=>by cases h),(fun h=>by cases h),(fun h=>by cases h),(fun h=>by cases h),(fun h=>by cases h),(fun h=>by cases h),(fun h=>by cases h),(fun h=>by cases h),(fun h=>by cases h),(fun h=>by cases h),(fun h=>by cases h),(fun h=>by cases h),(fun h=>by cases h),(fun h=>by cases h),(fun h=>by cases h),(fun h=>by cases h),(fun h=>by cases h),(Below.refl _ _).drew⟩
  ·intro f a w i hi0 hf he hI
   have hi:i < 19:=hi0
   clear hi0
   obtain ⟨v,rfl,p0,p1,p2,p3,p4,p5,p6,p7,p8,p9,p10,p11,p12,p13,p14,p15,p16,p17,p18,q2_6,q2_9,q2_14,q2_16,q7_9,q7_14,q7_16,q10_14,q10_16,q15_16,d18_17,d7_2,d10_7,d15_10,d17_15,d7_6,d10_9,d15_14,d17_16,hB⟩:=hI
   have hzw:wy.heap.size≤w.heap.size:=Nat.le_trans HZW.out hB.size
   replace p0:=Lib.hid p0
   replace p1:=Lib.hid p1
   replace p2:=Lib.hid p2
   replace p3:=Lib.hid p3
   replace p4:=Lib.hid p4
   replace p5:=Lib.hid p5
   replace p6:=Lib.hid p6
   replace p7:=Lib.hid p7
   replace p8:=Lib.hid p8
   replace p9:=Lib.hid p9
   replace p10:=Lib.hid p10
   replace p11:=Lib.hid p11
   replace p12:=Lib.hid p12
   replace p13:=Lib.hid p13
   replace p14:=Lib.hid p14
   replace p15:=Lib.hid p15
   replace p16:=Lib.hid p16
   replace p17:=Lib.hid p17
   replace p18:=Lib.hid p18
   replace q2_6:=Lib.hid q2_6
   replace q2_9:=Lib.hid q2_9
   replace q2_14:=Lib.hid q2_14
   replace q2_16:=Lib.hid q2_16
   replace q7_9:=Lib.hid q7_9
   replace q7_14:=Lib.hid q7_14
   replace q7_16:=Lib.hid q7_16
   replace q10_14:=Lib.hid q10_14
   replace q10_16:=Lib.hid q10_16
   replace q15_16:=Lib.hid q15_16
   replace d18_17:=Lib.hid d18_17
   replace d7_2:=Lib.hid d7_2
   replace d10_7:=Lib.hid d10_7
   replace d15_10:=Lib.hid d15_10
   replace d17_15:=Lib.hid d17_15
   replace d7_6:=Lib.hid d7_6
   replace d10_9:=Lib.hid d10_9
   replace d15_14:=Lib.hid d15_14
   replace d17_16:=Lib.hid d17_16
   replace hB:=Lib.hid hB
   have hi':i=0∨i=1∨i=2∨i=3∨i=4∨i=5∨i=6∨i=7∨i=8∨i=9∨i=10∨i=11∨i=12∨i=13∨i=14∨i=15∨i=16∨i=17∨i=18:=by omega
   clear hi
   rcases hi' with rfl | rfl | rfl | rfl | rfl | rfl | rfl | rfl | rfl | rfl | rfl | rfl | rfl | rfl | rfl | rfl | rfl | rfl | rfl
   ·clear he
    refine wpOp_plainK rfl rfl (fun K HK=>?_)
    dsimp only
    go_simp
    exact HK.out _ _ ⟨(fun kS=>if kS=90 then .slice (some ⟨g5,0,none⟩) n5 c5 else v kS),rfl,fun _=>rfl,p1.out,p2.out,p3.out,p4.out,p5.out,p6.out,p7.out,p8.out,p9.out,p10.out,p11.out,p12.out,p13.out,p14.out,p15.out,p16.out,p17.out,p18.out,q2_6.out,q2_9.out,q2_14.out,q2_16.out,q7_9.out,q7_14.out,q7_16.out,q10_14.out,q10_16.out,q15_16.out,d18_17.out,d7_2.out,d10_7.out,d15_10.out,d17_15.out,d7_6.out,d10_9.out,d15_14.out,d17_16.out,hB.out⟩
   ·have r0:=p0.out (he 0 (by kernel_rfl))
    have k1:=HNC.out.1
    have k2:=HNC.out.2.1
    clear he
    refine wpOp_plainK rfl rfl (fun K HK=>?_)
    dsimp only
    rw [r0]
    clear r0
    go_simp
    exact HK.out _ _ ⟨(fun kS=>if kS=91 then .slice (some ⟨g5,0,none⟩) 33 c5 else (fun kS=>if kS=90 then .slice (some ⟨g5,0,none⟩) n5 c5 else v kS) kS),rfl,fun _=>rfl,fun _=>rfl,p2.out,p3.out,p4.out,p5.out,p6.out,p7.out,p8.out,p9.out,p10.out,p11.out,p12.out,p13.out,p14.out,p15.out,p16.out,p17.out,p18.out,q2_6.out,q2_9.out,q2_14.out,q2_16.out,q7_9.out,q7_14.out,q7_16.out,q10_14.out,q10_16.out,q15_16.out,d18_17.out,d7_2.out,d10_7.out,d15_10.out,d17_15.out,d7_6.out,d10_9.out,d15_14.out,d17_16.out,hB.out⟩
   ·have r1:=p1.out (he 1 (by kernel_rfl))
    have hcall:=copyB_any wy.heap.size 33 c5 (some ⟨g5,0,none⟩) (l5.take 33) w (RdB.blw HT1.out hB.out) (by omega)
    clear he
    refine wpOp_plainK rfl rfl (fun K HK=>?_)
    dsimp only
    rw [r1]
    clear r1
    go_simp
    go_at_call 8
    (with_reducible refine hcall.mono ?_)
    rintro e w' ⟨v1,rfl,ho,hb⟩
    go_simp
    exact HK.out _ _ ⟨(fun kS=>if kS=92 then v1 else (fun kS=>if kS=91 then .slice (some ⟨g5,0,none⟩) 33 c5 else v kS) kS),rfl,p0.out,fun _=>rfl,fun _ _=>ho.mono hzw,p3.out,p4.out,p5.out,fun h h6=>ownB.later (p6.out h h6) hb,fun h h6=>ownB.later (p7.out h h6) hb,p8.out,fun h h6=>ownB.later (p9.out h h6) hb,fun h h6=>ownB.later (p10.out h h6) hb,p11.out,p12.out,p13.out,fun h h6=>ownB.later (p14.out h h6) hb,fun h h6=>ownB.later (p15.out h h6) hb,fun h h6=>ownB.later (p16.out h h6) hb,fun h=>ownB.later (p17.out h) hb,fun h=>ownB.later (p18.out h) hb,fun _ _ h g e1 e2=>by have h1:=(World.ownsRow.lt ho g e1).1;have h2:=(World.ownsRow.lt (p6.out h (by cases hh:f 7 with | false=>rfl | true=>exact Bool.noConfusion (show true=false from (d7_2.out (hh)).symm.trans hf))) g e2).2;omega,fun _ _ h g e1 e2=>by have h1:=(World.ownsRow.lt ho g e1).1;have h2:=(World.ownsRow.lt (p9.out h (by cases hh:f 10 with | false=>rfl | true=>exact Bool.noConfusion (show true=false from (d7_2.out (d10_7.out (hh))).symm.trans hf))) g e2).2;omega,fun _ _ h g e1 e2=>by have h1:=(World.ownsRow.lt ho g e1).1;have h2:=(World.ownsRow.lt (p14.out h (by cases hh:f 15 with | false=>rfl | true=>exact Bool.noConfusion (show true=false from (d7_2.out (d10_7.out (d15_10.out (hh)))).symm.trans hf))) g e2).2;omega,fun _ _ h g e1 e2=>by have h1:=(World.ownsRow.lt ho g e1).1;have h2:=(World.ownsRow.lt (p16.out h (by cases hh:f 17 with | false=>rfl | true=>exact Bool.noConfusion (show true=false from (d7_2.out (d10_7.out (d15_10.out (d17_15.out (hh))))).symm.trans hf))) g e2).2;omega,q7_9.out,q7_14.out,q7_16.out,q10_14.out,q10_16.out,q15_16.out,d18_17.out,fun _=>rfl,d10_7.out,d15_10.out,d17_15.out,d7_6.out,d10_9.out,d15_14.out,d17_16.out,hB.out.trans (Below.mono hb hzw)⟩
   ·clear he
    refine wpOp_plainK rfl rfl (fun K HK=>?_)
    dsimp only
    go_simp
    exact HK.out _ _ ⟨(fun kS=>if kS=93 then .slice (some ⟨bd,od,none⟩) zl cq else v kS),rfl,p0.out,p1.out,p2.out,fun _=>rfl,p4.out,p5.out,p6.out,p7.out,p8.out,p9.out,p10.out,p11.out,p12.out,p13.out,p14.out,p15.out,p16.out,p17.out,p18.out,q2_6.out,q2_9.out,q2_14.out,q2_16.out,q7_9.out,q7_14.out,q7_16.out,q10_14.out,q10_16.out,q15_16.out,d18_17.out,d7_2.out,d10_7.out,d15_10.out,d17_15.out,d7_6.out,d10_9.out,d15_14.out,d17_16.out,hB.out⟩
   ·clear he
    refine wpOp_plainK rfl rfl (fun K HK=>?_)
    dsimp only
    go_simp
    exact HK.out _ _ ⟨(fun kS=>if kS=94 then .int .i64 (k:Int) else v kS),rfl,p0.out,p1.out,p2.out,p3.out,fun _=>rfl,p5.out,p6.out,p7.out,p8.out,p9.out,p10.out,p11.out,p12.out,p13.out,p14.out,p15.out,p16.out,p17.out,p18.out,q2_6.out,q2_9.out,q2_14.out,q2_16.out,q7_9.out,q7_14.out,q7_16.out,q10_14.out,q10_16.out,q15_16.out,d18_17.out,d7_2.out,d10_7.out,d15_10.out,d17_15.out,d7_6.out,d10_9.out,d15_14.out,d17_16.out,hB.out⟩
   ·have r3:=p3.out (he 3 (by kernel_rfl))
    have r4:=p4.out (he 4 (by kernel_rfl))
    have k1:=HNC.out.2.2.1
    have k2:=HNC.out.2.2.2.1
    clear he
    refine wpOp_plainK rfl rfl (fun K HK=>?_)
    dsimp only
    rw [r3,r4]
    clear r3 r4
    go_simp
    exact HK.out _ _ ⟨(fun kS=>if kS=95 then .slice (some ⟨bd,od,none⟩) k cq else (fun kS=>if kS=94 then .int .i64 (k:Int) else (fun kS=>if kS=93 then .slice (some ⟨bd,od,none⟩) zl cq else v kS) kS) kS),rfl,p0.out,p1.out,p2.out,fun _=>rfl,fun _=>rfl,fun _=>rfl,p6.out,p7.out,p8.out,p9.out,p10.out,p11.out,p12.out,p13.out,p14.out,p15.out,p16.out,p17.out,p18.out,q2_6.out,q2_9.out,q2_14.out,q2_16.out,q7_9.out,q7_14.out,q7_16.out,q10_14.out,q10_16.out,q15_16.out,d18_17.out,d7_2.out,d10_7.out,d15_10.out,d17_15.out,d7_6.out,d10_9.out,d15_14.out,d17_16.out,hB.out⟩
   ·have r5:=p5.out (he 5 (by kernel_rfl))
    have hcall:=chunkL_any wy.heap.size k cq (some ⟨bd,od,none⟩) (z5.take k) IDAT ⟨#[73,68,65,84]⟩ w rfl rfl (RdB.blw HTa.out hB.out) hzw (by have:=HKL.out;omega)
    clear he
    refine wpOp_plainK rfl rfl (fun K HK=>?_)
    dsimp only
    rw [r5]
    clear r5
    go_simp
    go_at_call 17
    (with_reducible refine hcall.mono ?_)
    rintro e w' ⟨v1,rfl,ho,hb⟩
    go_simp
    exact HK.out _ _ ⟨(fun kS=>if kS=96 then v1 else (fun kS=>if kS=95 then .slice (some ⟨bd,od,none⟩) k cq else v kS) kS),rfl,p0.out,p1.out,fun h h6=>ownB.later (p2.out h h6) hb,p3.out,p4.out,fun _=>rfl,fun _ _=>ho.mono hzw,fun h h6=>ownB.later (p7.out h h6) hb,p8.out,fun h h6=>ownB.later (p9.out h h6) hb,fun h h6=>ownB.later (p10.out h h6) hb,p11.out,p12.out,p13.out,fun h h6=>ownB.later (p14.out h h6) hb,fun h h6=>ownB.later (p15.out h h6) hb,fun h h6=>ownB.later (p16.out h h6) hb,fun h=>ownB.later (p17.out h) hb,fun h=>ownB.later (p18.out h) hb,fun h h6 _ g e1 e2=>by have h1:=(World.ownsRow.lt (p2.out h h6) g e1).2;have h2:=(World.ownsRow.lt ho g e2).1;omega,q2_9.out,q2_14.out,q2_16.out,q7_9.out,q7_14.out,q7_16.out,q10_14.out,q10_16.out,q15_16.out,d18_17.out,d7_2.out,d10_7.out,d15_10.out,d17_15.out,fun _=>rfl,d10_9.out,d15_14.out,d17_16.out,hB.out.trans (Below.mono hb hzw)⟩
   ·have fa:f 2=true:=he 2 (by kernel_rfl)
    have hown:=p2.out fa hf
    have fc:f 6=true:=he 6 (by kernel_rfl)
    have hsrc:=p6.out fc hf
    obtain ⟨A4,c4,e4,r4,-,-⟩:=hsrc.form
    refine wpOp_appendA rfl rfl (.tmp 92) (.tmp 96) rfl wy.heap.size (v 92) _ rfl hown w.heap.size _ c4 A4 _ e4 r4 (by have:=HLA.out;omega) hzw (fun v' w' ho hg hb ha=>?_)
    exact ⟨(fun kS=>if kS=97 then v' else v kS),rfl,p0.out,p1.out,fun _ h6=>Bool.noConfusion (show true=false from h6),p3.out,p4.out,p5.out,fun _ h6=>Bool.noConfusion (show true=false from h6),fun _ _=>ho,p8.out,fun h h6=>World.ownsRow.kept (p9.out h h6) hg (by cases e:(v 99).ownBlock with | none=>(first | exact .inl rfl | exact .inl e) | some g=>(first | exact .inr (fun e2=>q2_9.out fa hf h g e2.symm e) | exact .inr (fun e2=>q2_9.out fa hf h g (e2.symm.trans e) e))),fun h h6=>Bool.noConfusion (show true=false from (d10_7.out (h)).symm.trans hf),p11.out,p12.out,p13.out,fun h h6=>World.ownsRow.kept (p14.out h h6) hg (by cases e:(v 104).ownBlock with | none=>(first | exact .inl rfl | exact .inl e) | some g=>(first | exact .inr (fun e2=>q2_14.out fa hf h g e2.symm e) | exact .inr (fun e2=>q2_14.out fa hf h g (e2.symm.trans e) e))),fun h h6=>Bool.noConfusion (show true=false from (d10_7.out (d15_10.out (h))).symm.trans hf),fun h h6=>World.ownsRow.kept (p16.out h h6) hg (by cases e:(v 106).ownBlock with | none=>(first | exact .inl rfl | exact .inl e) | some g=>(first | exact .inr (fun e2=>q2_16.out fa hf h g e2.symm e) | exact .inr (fun e2=>q2_16.out fa hf h g (e2.symm.trans e) e))),fun h=>Bool.noConfusion (show true=false from (d10_7.out (d15_10.out (d17_15.out (h)))).symm.trans hf),fun h=>Bool.noConfusion (show true=false from (d10_7.out (d15_10.out (d17_15.out (d18_17.out (h))))).symm.trans hf),fun _ h6=>Bool.noConfusion (show true=false from h6),fun _ h6=>Bool.noConfusion (show true=false from h6),fun _ h6=>Bool.noConfusion (show true=false from h6),fun _ h6=>Bool.noConfusion (show true=false from h6),fun _ h6 h g e1 e2=>(ha.elim (fun e3=>q2_9.out fa hf h g (e3.symm.trans e1) e2) (fun e3=>by have h1:=(World.ownsRow.lt (p9.out h (by cases hh:f 10 with | false=>rfl | true=>exact Bool.noConfusion (show true=false from (d10_7.out (hh)).symm.trans hf))) g e2).2;have h2:=e3.symm.trans e1;injection h2 with h2;omega)),fun _ h6 h g e1 e2=>(ha.elim (fun e3=>q2_14.out fa hf h g (e3.symm.trans e1) e2) (fun e3=>by have h1:=(World.ownsRow.lt (p14.out h (by cases hh:f 15 with | false=>rfl | true=>exact Bool.noConfusion (show true=false from (d10_7.out (d15_10.out (hh))).symm.trans hf))) g e2).2;have h2:=e3.symm.trans e1;injection h2 with h2;omega)),fun _ h6 h g e1 e2=>(ha.elim (fun e3=>q2_16.out fa hf h g (e3.symm.trans e1) e2) (fun e3=>by have h1:=(World.ownsRow.lt (p16.out h (by cases hh:f 17 with | false=>rfl | true=>exact Bool.noConfusion (show true=false from (d10_7.out (d15_10.out (d17_15.out (hh)))).symm.trans hf))) g e2).2;have h2:=e3.symm.trans e1;injection h2 with h2;omega)),q10_14.out,q10_16.out,q15_16.out,d18_17.out,fun _=>he 2 (by kernel_rfl),fun _=>rfl,d15_10.out,d17_15.out,fun _=>he 6 (by kernel_rfl),d10_9.out,d15_14.out,d17_16.out,hB.out.trans hb⟩
   ·clear he
    refine wpOp_plainK rfl rfl (fun K HK=>?_)
    dsimp only
    go_simp
    exact HK.out _ _ ⟨(fun kS=>if kS=98 then .slice A2 n2 c2 else v kS),rfl,p0.out,p1.out,p2.out,p3.out,p4.out,p5.out,p6.out,p7.out,fun _=>rfl,p9.out,p10.out,p11.out,p12.out,p13.out,p14.out,p15.out,p16.out,p17.out,p18.out,q2_6.out,q2_9.out,q2_14.out,q2_16.out,q7_9.out,q7_14.out,q7_16.out,q10_14.out,q10_16.out,q15_16.out,d18_17.out,d7_2.out,d10_7.out,d15_10.out,d17_15.out,d7_6.out,d10_9.out,d15_14.out,d17_16.out,hB.out⟩
   ·have r8:=p8.out (he 8 (by kernel_rfl))
    have hcall:=chunkL_any wy.heap.size n2 c2 A2 data teXt ⟨#[116,101,88,116]⟩ w rfl rfl (RdB.blw HDc.out hB.out) hzw (by have:=HNN2.out;omega)
    clear he
    refine wpOp_plainK rfl rfl (fun K HK=>?_)
    dsimp only
    rw [r8]
    clear r8
    go_simp
    go_at_call 17
    (with_reducible refine hcall.mono ?_)
    rintro e w' ⟨v1,rfl,ho,hb⟩
    go_simp
    exact HK.out _ _ ⟨(fun kS=>if kS=99 then v1 else (fun kS=>if kS=98 then .slice A2 n2 c2 else v kS) kS),rfl,p0.out,p1.out,fun h h6=>ownB.later (p2.out h h6) hb,p3.out,p4.out,p5.out,fun h h6=>ownB.later (p6.out h h6) hb,fun h h6=>ownB.later (p7.out h h6) hb,fun _=>rfl,fun _ _=>ho.mono hzw,fun h h6=>ownB.later (p10.out h h6) hb,p11.out,p12.out,p13.out,fun h h6=>ownB.later (p14.out h h6) hb,fun h h6=>ownB.later (p15.out h h6) hb,fun h h6=>ownB.later (p16.out h h6) hb,fun h=>ownB.later (p17.out h) hb,fun h=>ownB.later (p18.out h) hb,q2_6.out,fun h h6 _ g e1 e2=>by have h1:=(World.ownsRow.lt (p2.out h h6) g e1).2;have h2:=(World.ownsRow.lt ho g e2).1;omega,q2_14.out,q2_16.out,fun h h6 _ g e1 e2=>by have h1:=(World.ownsRow.lt (p7.out h h6) g e1).2;have h2:=(World.ownsRow.lt ho g e2).1;omega,q7_14.out,q7_16.out,q10_14.out,q10_16.out,q15_16.out,d18_17.out,d7_2.out,d10_7.out,d15_10.out,d17_15.out,d7_6.out,fun _=>rfl,d15_14.out,d17_16.out,hB.out.trans (Below.mono hb hzw)⟩
   ·have fa:f 7=true:=he 7 (by kernel_rfl)
    have hown:=p7.out fa hf
    have fc:f 9=true:=he 9 (by kernel_rfl)
    have hsrc:=p9.out fc hf
    obtain ⟨A4,c4,e4,r4,-,-⟩:=hsrc.form
    refine wpOp_appendA rfl rfl (.tmp 97) (.tmp 99) rfl wy.heap.size (v 97) _ rfl hown w.heap.size _ c4 A4 _ e4 r4 (by simp only [List.length_append];have:=HLA.out;omega) hzw (fun v' w' ho hg hb ha=>?_)
    exact ⟨(fun kS=>if kS=100 then v' else v kS),rfl,p0.out,p1.out,fun h h6=>Bool.noConfusion (show true=false from (fa).symm.trans h6),p3.out,p4.out,p5.out,fun h h6=>Bool.noConfusion (show true=false from (fa).symm.trans h6),fun _ h6=>Bool.noConfusion (show true=false from h6),p8.out,fun _ h6=>Bool.noConfusion (show true=false from h6),fun _ _=>ho,p11.out,p12.out,p13.out,fun h h6=>World.ownsRow.kept (p14.out h h6) hg (by cases e:(v 104).ownBlock with | none=>(first | exact .inl rfl | exact .inl e) | some g=>(first | exact .inr (fun e2=>q7_14.out fa hf h g e2.symm e) | exact .inr (fun e2=>q7_14.out fa hf h g (e2.symm.trans e) e))),fun h h6=>Bool.noConfusion (show true=false from (d15_10.out (h)).symm.trans hf),fun h h6=>World.ownsRow.kept (p16.out h h6) hg (by cases e:(v 106).ownBlock with | none=>(first | exact .inl rfl | exact .inl e) | some g=>(first | exact .inr (fun e2=>q7_16.out fa hf h g e2.symm e) | exact .inr (fun e2=>q7_16.out fa hf h g (e2.symm.trans e) e))),fun h=>Bool.noConfusion (show true=false from (d15_10.out (d17_15.out (h))).symm.trans hf),fun h=>Bool.noConfusion (show true=false from (d15_10.out (d17_15.out (d18_17.out (h)))).symm.trans hf),q2_6.out,q2_9.out,q2_14.out,q2_16.out,fun _ h6=>Bool.noConfusion (show true=false from h6),fun _ h6=>Bool.noConfusion (show true=false from h6),fun _ h6=>Bool.noConfusion (show true=false from h6),fun _ h6 h g e1 e2=>(ha.elim (fun e3=>q7_14.out fa hf h g (e3.symm.trans e1) e2) (fun e3=>by have h1:=(World.ownsRow.lt (p14.out h (by cases hh:f 15 with | false=>rfl | true=>exact Bool.noConfusion (show true=false from (d15_10.out (hh)).symm.trans hf))) g e2).2;have h2:=e3.symm.trans e1;injection h2 with h2;omega)),fun _ h6 h g e1 e2=>(ha.elim (fun e3=>q7_16.out fa hf h g (e3.symm.trans e1) e2) (fun e3=>by have h1:=(World.ownsRow.lt (p16.out h (by cases hh:f 17 with | false=>rfl | true=>exact Bool.noConfusion (show true=false from (d15_10.out (d17_15.out (hh))).symm.trans hf))) g e2).2;have h2:=e3.symm.trans e1;injection h2 with h2;omega)),q15_16.out,d18_17.out,d7_2.out,fun _=>he 7 (by kernel_rfl),fun _=>rfl,d17_15.out,d7_6.out,fun _=>he 9 (by kernel_rfl),d15_14.out,d17_16.out,hB.out.trans hb⟩
   ·clear he
    refine wpOp_plainK rfl rfl (fun K HK=>?_)
    dsimp only
    go_simp
    exact HK.out _ _ ⟨(fun kS=>if kS=101 then .slice (some ⟨bd,od,none⟩) zl cq else v kS),rfl,p0.out,p1.out,p2.out,p3.out,p4.out,p5.out,p6.out,p7.out,p8.out,p9.out,p10.out,fun _=>rfl,p12.out,p13.out,p14.out,p15.out,p16.out,p17.out,p18.out,q2_6.out,q2_9.out,q2_14.out,q2_16.out,q7_9.out,q7_14.out,q7_16.out,q10_14.out,q10_16.out,q15_16.out,d18_17.out,d7_2.out,d10_7.out,d15_10.out,d17_15.out,d7_6.out,d10_9.out,d15_14.out,d17_16.out,hB.out⟩
   ·clear he
    refine wpOp_plainK rfl rfl (fun K HK=>?_)
    dsimp only
    go_simp
    exact HK.out _ _ ⟨(fun kS=>if kS=102 then .int .i64 (k:Int) else v kS),rfl,p0.out,p1.out,p2.out,p3.out,p4.out,p5.out,p6.out,p7.out,p8.out,p9.out,p10.out,p11.out,fun _=>rfl,p13.out,p14.out,p15.out,p16.out,p17.out,p18.out,q2_6.out,q2_9.out,q2_14.out,q2_16.out,q7_9.out,q7_14.out,q7_16.out,q10_14.out,q10_16.out,q15_16.out,d18_17.out,d7_2.out,d10_7.out,d15_10.out,d17_15.out,d7_6.out,d10_9.out,d15_14.out,d17_16.out,hB.out⟩
   ·rcases HAKd.out with ⟨e1,e2⟩ | ⟨e1,e2⟩
    ·replace e1:=e1.symm;subst e1 e2
     have r11:=p11.out (he 11 (by kernel_rfl))
     have r12:=p12.out (he 12 (by kernel_rfl))
     have k1:=HNC.out.2.2.1
     have k2:=HNC.out.2.2.2.1
     have k3:=HNC.out.2.2.2.2
     clear he
     refine wpOp_plainK rfl rfl (fun K HK=>?_)
     dsimp only
     rw [r11,r12]
     clear r11 r12
     go_simp
     exact HK.out _ _ ⟨(fun kS=>if kS=103 then .slice (some ⟨bd,od,none⟩) (zl - k) 0 else (fun kS=>if kS=102 then .int .i64 (k:Int) else (fun kS=>if kS=101 then .slice (some ⟨bd,od,none⟩) zl k else v kS) kS) kS),rfl,p0.out,p1.out,p2.out,p3.out,p4.out,p5.out,p6.out,p7.out,p8.out,p9.out,p10.out,fun _=>rfl,fun _=>rfl,fun _=>by first | rfl | simp,p14.out,p15.out,p16.out,p17.out,p18.out,q2_6.out,q2_9.out,q2_14.out,q2_16.out,q7_9.out,q7_14.out,q7_16.out,q10_14.out,q10_16.out,q15_16.out,d18_17.out,d7_2.out,d10_7.out,d15_10.out,d17_15.out,d7_6.out,d10_9.out,d15_14.out,d17_16.out,hB.out⟩
    ·subst e2
     have r11:=p11.out (he 11 (by kernel_rfl))
     have r12:=p12.out (he 12 (by kernel_rfl))
     have k1:=HNC.out.2.2.1
     have k2:=HNC.out.2.2.2.1
     have k3:=HNC.out.2.2.2.2
     clear he
     refine wpOp_plainK rfl rfl (fun K HK=>?_)
     dsimp only
     rw [r11,r12]
     clear r11 r12
     go_simp
     exact HK.out _ _ ⟨(fun kS=>if kS=103 then .slice (some ⟨bd,od+k,none⟩) (zl - k) (cq - k) else (fun kS=>if kS=102 then .int .i64 (k:Int) else (fun kS=>if kS=101 then .slice (some ⟨bd,od,none⟩) zl cq else v kS) kS) kS),rfl,p0.out,p1.out,p2.out,p3.out,p4.out,p5.out,p6.out,p7.out,p8.out,p9.out,p10.out,fun _=>rfl,fun _=>rfl,fun _=>by first | rfl | simp,p14.out,p15.out,p16.out,p17.out,p18.out,q2_6.out,q2_9.out,q2_14.out,q2_16.out,q7_9.out,q7_14.out,q7_16.out,q10_14.out,q10_16.out,q15_16.out,d18_17.out,d7_2.out,d10_7.out,d15_10.out,d17_15.out,d7_6.out,d10_9.out,d15_14.out,d17_16.out,hB.out⟩
   ·have r13:=p13.out (he 13 (by kernel_rfl))
    have hcall:=chunkL_any wy.heap.size (zl - k) (cq - k) AK (z5.drop k) IDAT ⟨#[73,68,65,84]⟩ w rfl rfl (RdB.blw HTb.out hB.out) hzw (by have:=HKL.out;omega)
    clear he
    refine wpOp_plainK rfl rfl (fun K HK=>?_)
    dsimp only
    rw [r13]
    clear r13
    go_simp
    go_at_call 17
    (with_reducible refine hcall.mono ?_)
    rintro e w' ⟨v1,rfl,ho,hb⟩
    go_simp
    exact HK.out _ _ ⟨(fun kS=>if kS=104 then v1 else (fun kS=>if kS=103 then .slice AK (zl - k) (cq - k) else v kS) kS),rfl,p0.out,p1.out,fun h h6=>ownB.later (p2.out h h6) hb,p3.out,p4.out,p5.out,fun h h6=>ownB.later (p6.out h h6) hb,fun h h6=>ownB.later (p7.out h h6) hb,p8.out,fun h h6=>ownB.later (p9.out h h6) hb,fun h h6=>ownB.later (p10.out h h6) hb,p11.out,p12.out,fun _=>rfl,fun _ _=>ho.mono hzw,fun h h6=>ownB.later (p15.out h h6) hb,fun h h6=>ownB.later (p16.out h h6) hb,fun h=>ownB.later (p17.out h) hb,fun h=>ownB.later (p18.out h) hb,q2_6.out,q2_9.out,fun h h6 _ g e1 e2=>by have h1:=(World.ownsRow.lt (p2.out h h6) g e1).2;have h2:=(World.ownsRow.lt ho g e2).1;omega,q2_16.out,q7_9.out,fun h h6 _ g e1 e2=>by have h1:=(World.ownsRow.lt (p7.out h h6) g e1).2;have h2:=(World.ownsRow.lt ho g e2).1;omega,q7_16.out,fun h h6 _ g e1 e2=>by have h1:=(World.ownsRow.lt (p10.out h h6) g e1).2;have h2:=(World.ownsRow.lt ho g e2).1;omega,q10_16.out,q15_16.out,d18_17.out,d7_2.out,d10_7.out,d15_10.out,d17_15.out,d7_6.out,d10_9.out,fun _=>rfl,d17_16.out,hB.out.trans (Below.mono hb hzw)⟩
   ·have fa:f 10=true:=he 10 (by kernel_rfl)
    have hown:=p10.out fa hf
    have fc:f 14=true:=he 14 (by kernel_rfl)
    have hsrc:=p14.out fc hf
    obtain ⟨A4,c4,e4,r4,-,-⟩:=hsrc.form
    refine wpOp_appendA rfl rfl (.tmp 100) (.tmp 104) rfl wy.heap.size (v 100) _ rfl hown w.heap.size _ c4 A4 _ e4 r4 (by simp only [List.length_append];have:=HLA.out;omega) hzw (fun v' w' ho hg hb ha=>?_)
    exact ⟨(fun kS=>if kS=105 then v' else v kS),rfl,p0.out,p1.out,fun h h6=>Bool.noConfusion (show true=false from (d10_7.out (fa)).symm.trans h6),p3.out,p4.out,p5.out,fun h h6=>Bool.noConfusion (show true=false from (d10_7.out (fa)).symm.trans h6),fun h h6=>Bool.noConfusion (show true=false from (fa).symm.trans h6),p8.out,fun h h6=>Bool.noConfusion (show true=false from (fa).symm.trans h6),fun _ h6=>Bool.noConfusion (show true=false from h6),p11.out,p12.out,p13.out,fun _ h6=>Bool.noConfusion (show true=false from h6),fun _ _=>ho,fun h h6=>World.ownsRow.kept (p16.out h h6) hg (by cases e:(v 106).ownBlock with | none=>(first | exact .inl rfl | exact .inl e) | some g=>(first | exact .inr (fun e2=>q10_16.out fa hf h g e2.symm e) | exact .inr (fun e2=>q10_16.out fa hf h g (e2.symm.trans e) e))),fun h=>Bool.noConfusion (show true=false from (d17_15.out (h)).symm.trans hf),fun h=>Bool.noConfusion (show true=false from (d17_15.out (d18_17.out (h))).symm.trans hf),q2_6.out,q2_9.out,q2_14.out,q2_16.out,q7_9.out,q7_14.out,q7_16.out,fun _ h6=>Bool.noConfusion (show true=false from h6),fun _ h6=>Bool.noConfusion (show true=false from h6),fun _ h6 h g e1 e2=>(ha.elim (fun e3=>q10_16.out fa hf h g (e3.symm.trans e1) e2) (fun e3=>by have h1:=(World.ownsRow.lt (p16.out h (by cases hh:f 17 with | false=>rfl | true=>exact Bool.noConfusion (show true=false from (d17_15.out (hh)).symm.trans hf))) g e2).2;have h2:=e3.symm.trans e1;injection h2 with h2;omega)),d18_17.out,d7_2.out,d10_7.out,fun _=>he 10 (by kernel_rfl),fun _=>rfl,d7_6.out,d10_9.out,fun _=>he 14 (by kernel_rfl),d17_16.out,hB.out.trans hb⟩
   ·have hcall:=chunkL_any w.heap.size 0 0 none [] IEND ⟨#[73,69,78,68]⟩ w rfl rfl Rd.none_ (Nat.le_refl _) (by omega)
    clear he
    refine wpOp_plainK rfl rfl (fun K HK=>?_)
    dsimp only
    go_simp
    go_at_call 17
    (with_reducible refine hcall.mono ?_)
    rintro e w' ⟨v1,rfl,ho,hb⟩
    go_simp
    exact HK.out _ _ ⟨(fun kS=>if kS=106 then v1 else v kS),rfl,p0.out,p1.out,fun h h6=>ownB.later (p2.out h h6) hb,p3.out,p4.out,p5.out,fun h h6=>ownB.later (p6.out h h6) hb,fun h h6=>ownB.later (p7.out h h6) hb,p8.out,fun h h6=>ownB.later (p9.out h h6) hb,fun h h6=>ownB.later (p10.out h h6) hb,p11.out,p12.out,p13.out,fun h h6=>ownB.later (p14.out h h6) hb,fun h h6=>ownB.later (p15.out h h6) hb,fun _ _=>ho.mono hzw,fun h=>ownB.later (p17.out h) hb,fun h=>ownB.later (p18.out h) hb,q2_6.out,q2_9.out,q2_14.out,fun h h6 _ g e1 e2=>by have h1:=(World.ownsRow.lt (p2.out h h6) g e1).2;have h2:=(World.ownsRow.lt ho g e2).1;omega,q7_9.out,q7_14.out,fun h h6 _ g e1 e2=>by have h1:=(World.ownsRow.lt (p7.out h h6) g e1).2;have h2:=(World.ownsRow.lt ho g e2).1;omega,q10_14.out,fun h h6 _ g e1 e2=>by have h1:=(World.ownsRow.lt (p10.out h h6) g e1).2;have h2:=(World.ownsRow.lt ho g e2).1;omega,fun h h6 _ g e1 e2=>by have h1:=(World.ownsRow.lt (p15.out h h6) g e1).2;have h2:=(World.ownsRow.lt ho g e2).1;omega,d18_17.out,d7_2.out,d10_7.out,d15_10.out,d17_15.out,d7_6.out,d10_9.out,d15_14.out,fun _=>rfl,hB.out.trans (Below.mono hb hzw)⟩
   ·have fa:f 15=true:=he 15 (by kernel_rfl)
    have hown:=p15.out fa hf
    have fc:f 16=true:=he 16 (by kernel_rfl)
    have hsrc:=p16.out fc hf
    obtain ⟨A4,c4,e4,r4,-,-⟩:=hsrc.form
    refine wpOp_appendA rfl rfl (.tmp 105) (.tmp 106) rfl wy.heap.size (v 105) _ rfl hown w.heap.size _ c4 A4 _ e4 r4 (by simp only [List.length_append];have:=HLA.out;omega) hzw (fun v' w' ho hg hb ha=>?_)
    exact ⟨(fun kS=>if kS=107 then v' else v kS),rfl,p0.out,p1.out,fun h h6=>Bool.noConfusion (show true=false from (d10_7.out (d15_10.out (fa))).symm.trans h6),p3.out,p4.out,p5.out,fun h h6=>Bool.noConfusion (show true=false from (d10_7.out (d15_10.out (fa))).symm.trans h6),fun h h6=>Bool.noConfusion (show true=false from (d15_10.out (fa)).symm.trans h6),p8.out,fun h h6=>Bool.noConfusion (show true=false from (d15_10.out (fa)).symm.trans h6),fun h h6=>Bool.noConfusion (show true=false from (fa).symm.trans h6),p11.out,p12.out,p13.out,fun h h6=>Bool.noConfusion (show true=false from (fa).symm.trans h6),fun _ h6=>Bool.noConfusion (show true=false from h6),fun _ h6=>Bool.noConfusion (show true=false from h6),fun _=>ho,fun h=>Bool.noConfusion (show true=false from (d18_17.out (h)).symm.trans hf),q2_6.out,q2_9.out,q2_14.out,q2_16.out,q7_9.out,q7_14.out,q7_16.out,q10_14.out,q10_16.out,fun _ h6=>Bool.noConfusion (show true=false from h6),fun _=>rfl,d7_2.out,d10_7.out,d15_10.out,fun _=>he 15 (by kernel_rfl),d7_6.out,d10_9.out,d15_14.out,fun _=>he 16 (by kernel_rfl),hB.out.trans hb⟩
   ·have hown:=p17.out (he 17 (by kernel_rfl))
    have hfd:=he 17 (by kernel_rfl)
    clear he
    refine wpOp_plainK rfl rfl (fun K HK=>?_)
    dsimp only
    go_simp
    exact HK.out _ _ ⟨(fun kS=>if kS=14 then (v 107) else v kS),rfl,p0.out,p1.out,p2.out,p3.out,p4.out,p5.out,p6.out,p7.out,p8.out,p9.out,p10.out,p11.out,p12.out,p13.out,p14.out,p15.out,p16.out,p17.out,fun _=>hown,q2_6.out,q2_9.out,q2_14.out,q2_16.out,q7_9.out,q7_14.out,q7_16.out,q10_14.out,q10_16.out,q15_16.out,fun _=>hfd,d7_2.out,d10_7.out,d15_10.out,d17_15.out,d7_6.out,d10_9.out,d15_14.out,d17_16.out,hB.out⟩
  ·intro f a w hall hI
   obtain ⟨v,rfl,p0,p1,p2,p3,p4,p5,p6,p7,p8,p9,p10,p11,p12,p13,p14,p15,p16,p17,p18,q2_6,q2_9,q2_14,q2_16,q7_9,q7_14,q7_16,q10_14,q10_16,q15_16,d18_17,d7_2,d10_7,d15_10,d17_15,d7_6,d10_9,d15_14,d17_16,hB⟩:=hI
   have FIN:Hid (ownB w wy.heap.size (v 14) (l5.take 33 ++ chQ (IDAT,z5.take k) ++ chQ (teXt,data) ++ chQ (IDAT,z5.drop k) ++ chQ (IEND,[]))∧Below wy.heap.size wy w):=(show _∧_ from ⟨p18 (hall 18 (by decide)),hB⟩)
   clear p0 p1 p2 p3 p4 p5 p6 p7 p8 p9 p10 p11 p12 p13 p14 p15 p16 p17 p18 q2_6 q2_9 q2_14 q2_16 q7_9 q7_14 q7_16 q10_14 q10_16 q15_16 d18_17 d7_2 d10_7 d15_10 d17_15 d7_6 d10_9 d15_14 d17_16 hB hall
   go_wp2_with fail
   go_meet
   case rel=>exact FIN.out
 case rest =>
 obtain ⟨ho14,hb14⟩:=hcut
 obtain ⟨A14,c14,rfl,hr14,hc14,-⟩:=ho14.form
 have HY:=Lib.hid hr14
 have HYC:=Lib.hid hc14
 have HA:=Lib.hid (HAc.out.later hb14)
 have HB:=Lib.hid (HBc.out.trans (hb14.mono hbc))
 have HR:=Lib.hid (RdB.later HRc.out hb14)
 have HD:=Lib.hid (RdB.later HDc.out hb14)
 have HX':=Lib.hid (RdB.later HX.out hb14)
 have hbz:bk≤wc.heap.size:=Nat.le_trans hbc hb14.size
 clear HX
 have HX:=HX'
 clear HX'
 obtain ⟨Y,hY⟩:∃ Y,l5.take 33 ++ chQ (IDAT,z5.take k) ++ chQ (teXt,data) ++ chQ (IDAT,z5.drop k) ++ chQ (IEND,[])=Y:=⟨_,rfl⟩
 rw [hY] at HY HYC
 (try rw [hY])
 have hcut1:=file_h33 HH13.out HZ5.out
 have hxl:X.length≤1000000:=by rw [← HXE.out];simp only [List.length_append];have:=HLA.out;omega
 have hyl:Y.length≤1000000:=by rw [← hY];simp only [List.length_append];have:=HLA.out;omega
 have hxf:X=markL ++ flatQ [(IHDR,hd),(IDAT,z5.take k),(IDAT,z5.drop k),(IEND,[])]:=by rw [← HXE.out,hcut1,flatDD]
 have hyf:Y=markL ++ flatQ [(IHDR,hd),(IDAT,z5.take k),(teXt,data),(IDAT,z5.drop k),(IEND,[])]:=by rw [← hY,hcut1,flatDT]
 have HEX:Hid (∀ (w:World) A c,RdB w w.heap.size A X.length X→X.length≤c→Calls Tryz.prog 12 #[.slice A X.length c] w fun e w'=>∃ A9 c9,e=.returned (.tuple #[.agg #[.int .i64 (W:Int),.int .i64 (H:Int),.int .i64 (C:Int),.int .i64 (D:Int),.slice A9 n c9],.int .i64 0])∧RdB w' w'.heap.size A9 n bs∧Below w.heap.size w w'):=(show ∀ w A c,_ from fun w A c h1 h2=>HDX.out z5 HPK5.out k w A _ c (by rw [hxf] at h1;rw [hxf];exact h1) h2 hxl)
 have HEY:Hid (∀ (w:World) A c,RdB w w.heap.size A Y.length Y→Y.length≤c→Calls Tryz.prog 12 #[.slice A Y.length c] w fun e w'=>∃ A9 n9 c9,e=.returned (.tuple #[.agg #[.int .i64 0,.int .i64 0,.int .i64 0,.int .i64 0,.slice A9 n9 c9],.int .i64 4])∧Below w.heap.size w w'):=(show ∀ w A c,_ from fun w A c h1 h2=>HDY.out z5 HPK5.out k w A _ c (by rw [hyf] at h1;rw [hyf];exact h1) h2 hyl)
 clear hxf hyf hxl hyl hcut1 hY HXE HDX HDY ho14 hr14 hb14 hc14 HAc HBc HRc HDc hbc HT1 HTa HTb HNC HLA HZW HZ5 HPK5 HEN hzc HKL HAKd
 have a0:=HA.out.cell (k:=0) rfl
 have a1:=HA.out.cell (k:=1) rfl
 have a2:=HA.out.cell (k:=2) rfl
 have a3:=HA.out.cell (k:=3) rfl
 have a4:=HA.out.cell (k:=4) rfl
 generalize X.length=xn at *
 generalize Y.length=yn at *
 go_wp2_with (first
  | (go_at_call 12;(with_reducible refine (HEX.out _ _ _ HX.out HXC.out).mono ?_);go_must (rintro e wd ⟨A8,c8,rfl,hr8,hb⟩;replace HA:=Lib.hid (HA.out.later hb);replace HB:=Lib.hid (HB.out.trans (hb.mono hbz));replace HR:=Lib.hid (RdB.later HR.out hb);replace HD:=Lib.hid (RdB.later HD.out hb);replace hbz:=Nat.le_trans hbz hb.size;replace a0:=HA.out.cell (k:=0) rfl;replace a1:=HA.out.cell (k:=1) rfl;replace a2:=HA.out.cell (k:=2) rfl;replace a3:=HA.out.cell (k:=3) rfl;replace a4:=HA.out.cell (k:=4) rfl;replace HA:=Lib.hid (HA.out.alloc (.cells #[.int .i64 (W:Int),.int .i64 (H:Int),.int .i64 (C:Int),.int .i64 (D:Int),.slice A8 n c8] 39));replace HB:=Lib.hid (HB.out.alloc hbz (.cells #[.int .i64 (W:Int),.int .i64 (H:Int),.int .i64 (C:Int),.int .i64 (D:Int),.slice A8 n c8] 39));replace HR:=Lib.hid (rdB_al HR.out (.cells #[.int .i64 (W:Int),.int .i64 (H:Int),.int .i64 (C:Int),.int .i64 (D:Int),.slice A8 n c8] 39));replace HD:=Lib.hid (rdB_al HD.out (.cells #[.int .i64 (W:Int),.int .i64 (H:Int),.int .i64 (C:Int),.int .i64 (D:Int),.slice A8 n c8] 39));replace hbz:bk≤(wd.alloc (.cells #[.int .i64 (W:Int),.int .i64 (H:Int),.int .i64 (C:Int),.int .i64 (D:Int),.slice A8 n c8] 39)).heap.size:=(by rw [World.size_alloc];omega);replace HY:=Lib.hid (rdB_al (RdB.later HY.out hb) (.cells #[.int .i64 (W:Int),.int .i64 (H:Int),.int .i64 (C:Int),.int .i64 (D:Int),.slice A8 n c8] 39));have H8:=Lib.hid (rdB_al hr8 (.cells #[.int .i64 (W:Int),.int .i64 (H:Int),.int .i64 (C:Int),.int .i64 (D:Int),.slice A8 n c8] 39));have HA8:Hid (Arr (wd.alloc (.cells #[.int .i64 (W:Int),.int .i64 (H:Int),.int .i64 (C:Int),.int .i64 (D:Int),.slice A8 n c8] 39)) wd.heap.size [.int .i64 (W:Int),.int .i64 (H:Int),.int .i64 (C:Int),.int .i64 (D:Int),.slice A8 n c8]):=(show Arr _ _ _ from Arr.new wd [.int .i64 (W:Int),.int .i64 (H:Int),.int .i64 (C:Int),.int .i64 (D:Int),.slice A8 n c8] _);clear hb hr8))
  | (go_at_call 12;(with_reducible refine (HEY.out _ _ _ HY.out HYC.out).mono ?_);go_must (rintro e we ⟨A7,n7,c7,rfl,hb⟩;replace HA:=Lib.hid (HA.out.later hb);replace HB:=Lib.hid (HB.out.trans (hb.mono hbz));replace HR:=Lib.hid (RdB.later HR.out hb);replace HD:=Lib.hid (RdB.later HD.out hb);replace hbz:=Nat.le_trans hbz hb.size;replace a0:=HA.out.cell (k:=0) rfl;replace a1:=HA.out.cell (k:=1) rfl;replace a2:=HA.out.cell (k:=2) rfl;replace a3:=HA.out.cell (k:=3) rfl;replace a4:=HA.out.cell (k:=4) rfl;replace HA:=Lib.hid (HA.out.alloc (.cells #[.int .i64 0,.int .i64 0,.int .i64 0,.int .i64 0,.slice A7 n7 c7] 39));replace HB:=Lib.hid (HB.out.alloc hbz (.cells #[.int .i64 0,.int .i64 0,.int .i64 0,.int .i64 0,.slice A7 n7 c7] 39));replace HR:=Lib.hid (rdB_al HR.out (.cells #[.int .i64 0,.int .i64 0,.int .i64 0,.int .i64 0,.slice A7 n7 c7] 39));replace HD:=Lib.hid (rdB_al HD.out (.cells #[.int .i64 0,.int .i64 0,.int .i64 0,.int .i64 0,.slice A7 n7 c7] 39));replace hbz:bk≤(we.alloc (.cells #[.int .i64 0,.int .i64 0,.int .i64 0,.int .i64 0,.slice A7 n7 c7] 39)).heap.size:=(by rw [World.size_alloc];omega);replace H8:=Lib.hid (rdB_al (RdB.later H8.out hb) (.cells #[.int .i64 0,.int .i64 0,.int .i64 0,.int .i64 0,.slice A7 n7 c7] 39));replace HA8:=Lib.hid ((HA8.out.later hb).alloc (.cells #[.int .i64 0,.int .i64 0,.int .i64 0,.int .i64 0,.slice A7 n7 c7] 39));clear hb))
  | (go_at_call 7;(with_reducible refine (first13_any _).mono ?_);go_must (rintro e wf ⟨rfl,hb⟩;replace HA:=Lib.hid (HA.out.later hb);replace HB:=Lib.hid (HB.out.trans (hb.mono hbz));replace HR:=Lib.hid (RdB.later HR.out hb);replace HD:=Lib.hid (RdB.later HD.out hb);replace hbz:=Nat.le_trans hbz hb.size;replace a0:=HA.out.cell (k:=0) rfl;replace a1:=HA.out.cell (k:=1) rfl;replace a2:=HA.out.cell (k:=2) rfl;replace a3:=HA.out.cell (k:=3) rfl;replace a4:=HA.out.cell (k:=4) rfl;replace H8:=Lib.hid (RdB.later H8.out hb);replace HA8:=Lib.hid (HA8.out.later hb);have HY3:=Lib.hid (rasterC_any (W:Int) (H:Int) (C:Int) (D:Int) n c8 c A8 A bs wf H8.out HR.out);have e0:=HA8.out.cell (k:=0) rfl;have e1:=HA8.out.cell (k:=1) rfl;have e2:=HA8.out.cell (k:=2) rfl;have e3:=HA8.out.cell (k:=3) rfl;have e4:=HA8.out.cell (k:=4) rfl;clear hb))
  | (go_at_call 14;(with_reducible refine HY3.out.mono ?_);go_must (rintro e w14 ⟨rfl,hb⟩;have HBF:=Lib.hid (HB.out.trans (hb.mono hbz));clear hb)))
 go_ret
 exact ⟨rfl,HBF.out⟩
end Go.Proofs.YteoolehdomjkkaaGreatDoor

