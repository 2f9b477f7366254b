/- XPngHeads -/
import Derived.Test.YtebbdifhiihfkaaGreatDoorMh46
import Derived.Test.YtebbdifhiihfkaaGreatDoorMh39
import Derived.Test.YtebbdifhiihfkaaGreatDoorMh42
import Derived.Test.YtebbdifhiihfkaaGreatDoorMh47
import Derived.Test.YtebbdifhiihfkaaGreatDoorMh31
namespace Go.Proofs.YtebbdifhiihfkaaGreatDoor
set_option linter.all false
open Go.RowKit
theorem rdB_al {w:World} {A:Option Addr} {n:Nat} {bs:List UInt8} (h:RdB w w.heap.size A n bs) (o:Obj):RdB (w.alloc o) (w.alloc o).heap.size A n bs:=Rd.here (Rd.alloc h (Nat.le_refl _) o)
set_option maxRecDepth 100000 in
set_option maxHeartbeats 6400000 in
theorem pngHeads_out (W H C D:Int) (more:Int) (A:Option Addr) (n c:Nat) (bs:List UInt8) (mv:Bool) (w:World) (h:RdB w w.heap.size A n bs)
  (hmv:Sh.mayR ⟨W,H,C,D⟩ n=mv) (hk:3000 < n∨more < 1∨200 < more∨mv=false) :
  Calls Tryz.prog 6 #[.agg #[.int .i64 W,.int .i64 H,.int .i64 C,.int .i64 D,.slice A n c],.int .i64 more] w fun e w'=>e=.returned (.bool true)∧Below w.heap.size w w':=by
 have HMY:=Lib.hid (fun w=>may_any ⟨W,H,C,D⟩ A n c w)
 rw [hmv] at HMY
 dsimp only [Sh.r] at HMY
 clear hmv
 have hln:=h.len
 obtain ⟨w1,hw1⟩:∃ w1,w.alloc (.cells #[.int .i64 W,.int .i64 H,.int .i64 C,.int .i64 D,.slice A n c] 39)=w1:=⟨_,rfl⟩
 obtain ⟨bk,hbk⟩:∃ b,w.heap.size=b:=⟨_,rfl⟩
 have HA:Hid (Arr w1 bk [.int .i64 W,.int .i64 H,.int .i64 C,.int .i64 D,.slice A n c]):=(show Arr _ _ _ by rw [← hw1,← hbk];exact Arr.new w [.int .i64 W,.int .i64 H,.int .i64 C,.int .i64 D,.slice A n c] _)
 have HB:Hid (Below bk w w1):=(show Below _ _ _ by rw [← hw1,← hbk];exact (Below.refl w.heap.size w).alloc (Nat.le_refl _) _)
 have HR:Hid (RdB w1 w1.heap.size A n bs):=(show RdB _ _ _ _ _ by rw [← hw1];exact Rd.here (Rd.alloc h (Nat.le_refl _) _))
 have hbz:bk≤w1.heap.size:=by rw [← hw1,World.size_alloc,hbk];exact Nat.le_succ _
 have a0:=HA.out.cell (k:=0) rfl
 have a1:=HA.out.cell (k:=1) rfl
 have a2:=HA.out.cell (k:=2) rfl
 have a3:=HA.out.cell (k:=3) rfl
 have a4:=HA.out.cell (k:=4) rfl
 rw [hbk]
 clear h hln
 by_cases t1:3000 < n
 ·have t1i:(3000:Int) < (n:Int):=by omega
  go_enter Tryz.func6,Tryz.ntmps6
  (try simp only [hw1,hbk])
  go_wp2_with (first
   | (go_at_call 7;(with_reducible refine (first13_any _).mono ?_);go_must (rintro e wf ⟨rfl,hb⟩;replace HA:=Lib.hid (HA.out.later hb);replace HB:=Lib.hid (HB.out.trans (hb.mono hbz));replace HR:=Lib.hid (RdB.later HR.out hb);replace hbz:=Nat.le_trans hbz hb.size;replace a0:=HA.out.cell (k:=0) rfl;replace a1:=HA.out.cell (k:=1) rfl;replace a2:=HA.out.cell (k:=2) rfl;replace a3:=HA.out.cell (k:=3) rfl;replace a4:=HA.out.cell (k:=4) rfl;clear hb))
   | (go_at_call 15;(with_reducible refine (HMY.out _).mono ?_);go_must (rintro e wm ⟨rfl,hb⟩;replace HA:=Lib.hid (HA.out.later hb);replace HB:=Lib.hid (HB.out.trans (hb.mono hbz));replace HR:=Lib.hid (RdB.later HR.out hb);replace hbz:=Nat.le_trans hbz hb.size;replace a0:=HA.out.cell (k:=0) rfl;replace a1:=HA.out.cell (k:=1) rfl;replace a2:=HA.out.cell (k:=2) rfl;replace a3:=HA.out.cell (k:=3) rfl;replace a4:=HA.out.cell (k:=4) rfl;clear hb)))
  go_ret
  exact ⟨rfl,HB.out⟩
 ·have t1i:¬ (3000:Int) < (n:Int):=by omega
  by_cases t2:more < 1
  ·have t2i:more < 1:=t2
   go_enter Tryz.func6,Tryz.ntmps6
   (try simp only [hw1,hbk])
   go_wp2_with (first
    | (go_at_call 7;(with_reducible refine (first13_any _).mono ?_);go_must (rintro e wf ⟨rfl,hb⟩;replace HA:=Lib.hid (HA.out.later hb);replace HB:=Lib.hid (HB.out.trans (hb.mono hbz));replace HR:=Lib.hid (RdB.later HR.out hb);replace hbz:=Nat.le_trans hbz hb.size;replace a0:=HA.out.cell (k:=0) rfl;replace a1:=HA.out.cell (k:=1) rfl;replace a2:=HA.out.cell (k:=2) rfl;replace a3:=HA.out.cell (k:=3) rfl;replace a4:=HA.out.cell (k:=4) rfl;clear hb))
    | (go_at_call 15;(with_reducible refine (HMY.out _).mono ?_);go_must (rintro e wm ⟨rfl,hb⟩;replace HA:=Lib.hid (HA.out.later hb);replace HB:=Lib.hid (HB.out.trans (hb.mono hbz));replace HR:=Lib.hid (RdB.later HR.out hb);replace hbz:=Nat.le_trans hbz hb.size;replace a0:=HA.out.cell (k:=0) rfl;replace a1:=HA.out.cell (k:=1) rfl;replace a2:=HA.out.cell (k:=2) rfl;replace a3:=HA.out.cell (k:=3) rfl;replace a4:=HA.out.cell (k:=4) rfl;clear hb)))
   go_ret
   exact ⟨rfl,HB.out⟩
  ·by_cases t3:200 < more
   ·have t3i:(200:Int) < more:=t3
    go_enter Tryz.func6,Tryz.ntmps6
    (try simp only [hw1,hbk])
    go_wp2_with (first
     | (go_at_call 7;(with_reducible refine (first13_any _).mono ?_);go_must (rintro e wf ⟨rfl,hb⟩;replace HA:=Lib.hid (HA.out.later hb);replace HB:=Lib.hid (HB.out.trans (hb.mono hbz));replace HR:=Lib.hid (RdB.later HR.out hb);replace hbz:=Nat.le_trans hbz hb.size;replace a0:=HA.out.cell (k:=0) rfl;replace a1:=HA.out.cell (k:=1) rfl;replace a2:=HA.out.cell (k:=2) rfl;replace a3:=HA.out.cell (k:=3) rfl;replace a4:=HA.out.cell (k:=4) rfl;clear hb))
     | (go_at_call 15;(with_reducible refine (HMY.out _).mono ?_);go_must (rintro e wm ⟨rfl,hb⟩;replace HA:=Lib.hid (HA.out.later hb);replace HB:=Lib.hid (HB.out.trans (hb.mono hbz));replace HR:=Lib.hid (RdB.later HR.out hb);replace hbz:=Nat.le_trans hbz hb.size;replace a0:=HA.out.cell (k:=0) rfl;replace a1:=HA.out.cell (k:=1) rfl;replace a2:=HA.out.cell (k:=2) rfl;replace a3:=HA.out.cell (k:=3) rfl;replace a4:=HA.out.cell (k:=4) rfl;clear hb)))
    go_ret
    exact ⟨rfl,HB.out⟩
   ·obtain rfl:mv=false:=by
     rcases hk with h | h | h | h
     ·exact absurd h t1
     ·exact absurd h t2
     ·exact absurd h t3
     ·exact h
    go_enter Tryz.func6,Tryz.ntmps6
    (try simp only [hw1,hbk])
    go_wp2_with (first
     | (go_at_call 7;(with_reducible refine (first13_any _).mono ?_);go_must (rintro e wf ⟨rfl,hb⟩;replace HA:=Lib.hid (HA.out.later hb);replace HB:=Lib.hid (HB.out.trans (hb.mono hbz));replace HR:=Lib.hid (RdB.later HR.out hb);replace hbz:=Nat.le_trans hbz hb.size;replace a0:=HA.out.cell (k:=0) rfl;replace a1:=HA.out.cell (k:=1) rfl;replace a2:=HA.out.cell (k:=2) rfl;replace a3:=HA.out.cell (k:=3) rfl;replace a4:=HA.out.cell (k:=4) rfl;clear hb))
     | (go_at_call 15;(with_reducible refine (HMY.out _).mono ?_);go_must (rintro e wm ⟨rfl,hb⟩;replace HA:=Lib.hid (HA.out.later hb);replace HB:=Lib.hid (HB.out.trans (hb.mono hbz));replace HR:=Lib.hid (RdB.later HR.out hb);replace hbz:=Nat.le_trans hbz hb.size;replace a0:=HA.out.cell (k:=0) rfl;replace a1:=HA.out.cell (k:=1) rfl;replace a2:=HA.out.cell (k:=2) rfl;replace a3:=HA.out.cell (k:=3) rfl;replace a4:=HA.out.cell (k:=4) rfl;clear hb)))
    go_ret
    exact ⟨rfl,HB.out⟩
/-- The region that turns the head. -/
def hedInv1 (mk:(Nat→Value)→Act) (W H M T bq oq c9 bh oh cc0:Nat) (hd:List UInt8) (z:Nat) (w0:World) (f:Nat→Bool) (a:Act) (w:World):Prop :=
 ∃ (v:Nat→Value),a=mk v ∧
  (f 0=true→v 82=.int .i64 (W:Int)) ∧
  (f 1=true→f 6=false→ownB w z (v 83) (beB W 4)) ∧
  (f 2=true→v 84=.int .i64 (H:Int)) ∧
  (f 3=true→v 85=.int .i64 (M:Int)) ∧
  (f 4=true→v 86=.int .i64 (T:Int)) ∧
  (f 5=true→f 6=false→ownB w z (v 87) (beB T 4)) ∧
  (f 6=true→f 12=false→ownB w z (v 88) (beB W 4 ++ beB T 4)) ∧
  (f 7=true→v 89=.slice (some ⟨bq,oq,none⟩) 3 c9) ∧
  (f 8=true→v 90=.pointer (some ⟨bq,oq,none⟩)) ∧
  (f 9=true→v 91=.pointer (some ⟨bq,oq+1,none⟩)) ∧
  (f 10=true→v 92=.slice (some ⟨bh,oh,none⟩) 13 cc0) ∧
  (f 11=true→v 93=.slice (some ⟨bh,oh+8,none⟩) 5 (cc0 - 8)) ∧
  (f 12=true→ownB w z (v 94) (beB W 4 ++ beB T 4 ++ hd.drop 8)) ∧
  (f 13=true→ownB w z (v 13) (beB W 4 ++ beB T 4 ++ hd.drop 8)) ∧
  (f 1=true→f 6=false→f 5=true→∀ g,(v 83).ownBlock=some g→(v 87).ownBlock ≠ some g) ∧
  (f 13=true→f 12=true) ∧
  (f 6=true→f 1=true) ∧
  (f 12=true→f 6=true) ∧
  (f 6=true→f 5=true) ∧
  (Below z w0 w)
/-- The region that lays the file anew. -/
def hedInv2 (mk:(Nat→Value)→Act) (g5 n5 c5 c13 bq oq c9 zl cc1:Nat) (A13 A1:Option Addr) (l5 hd2 z5:List UInt8) (z:Nat) (w0:World) (f:Nat→Bool) (a:Act) (w:World):Prop :=
 ∃ (v:Nat→Value),a=mk v ∧
  (f 0=true→v 95=.slice (some ⟨g5,0,none⟩) n5 c5) ∧
  (f 1=true→v 96=.slice (some ⟨g5,0,none⟩) 8 c5) ∧
  (f 2=true→f 5=false→ownB w z (v 97) (l5.take 8)) ∧
  (f 3=true→v 98=.slice A13 13 c13) ∧
  (f 4=true→f 5=false→ownB w z (v 99) (chQ (IHDR,hd2))) ∧
  (f 5=true→f 11=false→ownB w z (v 100) (l5.take 8 ++ chQ (IHDR,hd2))) ∧
  (f 6=true→v 101=.slice (some ⟨bq,oq,none⟩) 3 c9) ∧
  (f 7=true→v 102=.pointer (some ⟨bq,oq+2,none⟩)) ∧
  (f 8=true→v 103=.pointer (some ⟨bq,oq+2+1,none⟩)) ∧
  (f 9=true→v 104=.slice A1 zl cc1) ∧
  (f 10=true→f 11=false→ownB w z (v 105) (chQ (IDAT,z5))) ∧
  (f 11=true→f 13=false→ownB w z (v 106) (l5.take 8 ++ chQ (IHDR,hd2) ++ chQ (IDAT,z5))) ∧
  (f 12=true→f 13=false→ownB w z (v 107) (chQ (IEND,[]))) ∧
  (f 13=true→ownB w z (v 108) (l5.take 8 ++ chQ (IHDR,hd2) ++ chQ (IDAT,z5) ++ chQ (IEND,[]))) ∧
  (f 14=true→ownB w z (v 14) (l5.take 8 ++ chQ (IHDR,hd2) ++ chQ (IDAT,z5) ++ chQ (IEND,[]))) ∧
  (f 2=true→f 5=false→f 4=true→∀ g,(v 97).ownBlock=some g→(v 99).ownBlock ≠ some g) ∧
  (f 2=true→f 5=false→f 10=true→∀ g,(v 97).ownBlock=some g→(v 105).ownBlock ≠ some g) ∧
  (f 2=true→f 5=false→f 12=true→∀ g,(v 97).ownBlock=some g→(v 107).ownBlock ≠ some g) ∧
  (f 5=true→f 11=false→f 10=true→∀ g,(v 100).ownBlock=some g→(v 105).ownBlock ≠ some g) ∧
  (f 5=true→f 11=false→f 12=true→∀ g,(v 100).ownBlock=some g→(v 107).ownBlock ≠ some g) ∧
  (f 11=true→f 13=false→f 12=true→∀ g,(v 106).ownBlock=some g→(v 107).ownBlock ≠ some g) ∧
  (f 14=true→f 13=true) ∧
  (f 5=true→f 2=true) ∧
  (f 11=true→f 5=true) ∧
  (f 13=true→f 11=true) ∧
  (f 5=true→f 4=true) ∧
  (f 11=true→f 10=true) ∧
  (f 13=true→f 12=true) ∧
  (Below z w0 w)
def hedInv3 (mk:(Nat→Value)→Act) (val:Nat→Value) (w0:World) (f:Nat→Bool) (a:Act) (w:World):Prop :=
 ∃ (v:Nat→Value),a=mk v∧(∀ j,f j=true→v j=val j)∧Below w0.heap.size w0 w
set_option maxRecDepth 100000 in
set_option maxHeartbeats 12800000 in
theorem pngHeads_main (W H C D K M:Nat) (A:Option Addr) (n c:Nat) (bs:List UInt8) (w:World) (h:RdB w w.heap.size A n bs) (hc:n≤c)
  (hs:PS W H C D K) (hz:H * (W * K)≤16384) (hn:n=H * (W * K)) (t1:n≤3000) (hM1:1≤M) (hM2:M≤200) :
  Calls Tryz.prog 6 #[.agg #[.int .i64 (W:Int),.int .i64 (H:Int),.int .i64 (C:Int),.int .i64 (D:Int),.slice A n c],.int .i64 (M:Int)] w fun e w'=>e=.returned (.bool true)∧Below w.heap.size w w':=by
 have HMY:=Lib.hid (fun w=>may_any ⟨W,H,C,D⟩ A n c w)
 have hmr:=hs.mayR hz
 rw [← hn] at hmr
 rw [hmr] at HMY
 dsimp only [Sh.r] at HMY
 have hbl:bs.length=H * (W * K):=h.len.trans hn
 have HEN:=Lib.hid (fun A c (w:World) (h:RdB w w.heap.size A n bs) (hc:n≤c)=>encode_any W H C D K n c w.heap.size A bs w hs hz h (Nat.le_refl _) hn hc)
 have hfl:=flF_len (K:=K) (n:=W * K) (bs:=bs) hs.k1 hs.k8 H (by omega)
 have hNN:H * (W * K+1)≤20000:=by rw [Nat.mul_add,Nat.mul_one];have:=hs.h2;omega
 have hW2:=hs.w2
 have hH2:=hs.h2
 have hd13:=(hdrL_get W H C D 0).1
 have he13:=(hdrL_get W (H+M) C D 0).1
 have hzl:∀ z,PK (flF K (W * K) bs H) z→2≤z.length∧z.length≤21000:=fun z hp=>⟨hp.pos,by have:=hp.len;omega⟩
 obtain ⟨E,hE0,hdx⟩:=heads_decode hs hz hbl hM1 hM2
 have hrd:∀ (w:World) A c,RdB w w.heap.size A 13 (hdrL W H C D 0)→13≤c→_:=fun w A c h1 h2=>heads_read (W:=W) (H:=H) (C:=C) (D:=D) (L:=0) (by omega) (by omega) w A c h1 h2
 have hdp:∀ (w:World) B b o,RdB w B (some ⟨b,o,none⟩) 13 (hdrL W H C D 0)→w.cell? ⟨b,o+8,none⟩=some (.int .u8 (D:Int)):=fun w B b o h1=>heads_depth hs.d h1
 have htn:=hdr_turn W H (H+M) C D 0
 obtain ⟨fl,hfle⟩:∃ fl,flF K (W * K) bs H=fl:=⟨_,rfl⟩
 obtain ⟨hd,hde⟩:∃ hd,hdrL W H C D 0=hd:=⟨_,rfl⟩
 obtain ⟨hd2,hde2⟩:∃ hd,hdrL W (H+M) C D 0=hd:=⟨_,rfl⟩
 rw [hfle,hde] at HEN
 rw [hfle] at hdx hzl
 rw [hde] at hd13 hrd hdp htn
 rw [hde2] at he13 hdx htn
 obtain ⟨T,hT⟩:∃ T,H+M=T:=⟨_,rfl⟩
 rw [hT] at htn
 have HZL:=Lib.hid hzl
 have HH13:=Lib.hid hd13
 have HE13:=Lib.hid he13
 have HDX:=Lib.hid hdx
 have HRD:=Lib.hid hrd
 have HDP:=Lib.hid hdp
 have HTN:=Lib.hid htn
 have HE0:=Lib.hid hE0
 have HTW:Hid (IntKind.i64.wrap ((H:Int)+(M:Int))=(T:Int)):=(show _=_ by rw [show (H:Int)+(M:Int)=(T:Int) by omega];exact wrap_i64_lt _ (by omega))
 have HWB:Hid (W < 4294967296∧T < 4294967296):=(show _∧_ from ⟨by omega,by omega⟩)
 have HWD:Hid (IntKind.i64.wrap (D:Int)=(D:Int)):=(show _=_ by have:=hs.d;exact wrap_i64_lt _ (by omega))
 have HCK:Hid (∀ z,PK fl z→∀ (w:World) A m c,RdB w w.heap.size A m (fileP hd z)→m≤c→Calls Tryz.prog 9 #[.slice A m c] w fun e w'=>∃ A9 c9 lq,e=.returned (.tuple #[.slice A9 3 c9,.int .i64 0])∧RdQ w' w'.heap.size A9 3 lq∧CR w' none lq [(IHDR,hd),(IDAT,z),(IEND,[])]∧3≤c9∧Below w.heap.size w w'):=(show ∀ z,_ from fun z hp w A m c h1 h2=>chunks3_any hd13 (by have:=(hzl z hp).2;omega) w A m c h1 h2)
 have t1i:¬ (3000:Int) < (n:Int):=by omega
 have t2i:¬ (M:Int) < 1:=by omega
 have t3i:¬ (200:Int) < (M:Int):=by omega
 have hcc:=hc
 clear hzl hfl hNN hfle hde hde2 hs hz hn hmr hbl hd13 he13 hdx hrd hdp htn hE0 hT hW2 hH2 t1 hM1 hM2
 have hln:=h.len
 obtain ⟨w1,hw1⟩:∃ w1,w.alloc (.cells #[.int .i64 (W:Int),.int .i64 (H:Int),.int .i64 (C:Int),.int .i64 (D:Int),.slice A n c] 39)=w1:=⟨_,rfl⟩
 obtain ⟨bk,hbk⟩:∃ b,w.heap.size=b:=⟨_,rfl⟩
 have HA:Hid (Arr w1 bk [.int .i64 (W:Int),.int .i64 (H:Int),.int .i64 (C:Int),.int .i64 (D:Int),.slice A n c]):=(show Arr _ _ _ by rw [← hw1,← hbk];exact Arr.new w [.int .i64 (W:Int),.int .i64 (H:Int),.int .i64 (C:Int),.int .i64 (D:Int),.slice A n c] _)
 have HB:Hid (Below bk w w1):=(show Below _ _ _ by rw [← hw1,← hbk];exact (Below.refl w.heap.size w).alloc (Nat.le_refl _) _)
 have HR:Hid (RdB w1 w1.heap.size A n bs):=(show RdB _ _ _ _ _ by rw [← hw1];exact Rd.here (Rd.alloc h (Nat.le_refl _) _))
 have hbz:bk≤w1.heap.size:=by rw [← hw1,World.size_alloc,hbk];exact Nat.le_succ _
 have a0:=HA.out.cell (k:=0) rfl
 have a1:=HA.out.cell (k:=1) rfl
 have a2:=HA.out.cell (k:=2) rfl
 have a3:=HA.out.cell (k:=3) rfl
 have a4:=HA.out.cell (k:=4) rfl
 rw [hbk]
 clear h
 go_enter Tryz.func6,Tryz.ntmps6
 (try simp only [hw1,hbk])
 go_upto_region 11 with (first
  | (go_at_call 7;(with_reducible refine (first13_any _).mono ?_);go_must (rintro e wf ⟨rfl,hb⟩;replace HA:=Lib.hid (HA.out.later hb);replace HB:=Lib.hid (HB.out.trans (hb.mono hbz));replace HR:=Lib.hid (RdB.later HR.out hb);replace hbz:=Nat.le_trans hbz hb.size;replace a0:=HA.out.cell (k:=0) rfl;replace a1:=HA.out.cell (k:=1) rfl;replace a2:=HA.out.cell (k:=2) rfl;replace a3:=HA.out.cell (k:=3) rfl;replace a4:=HA.out.cell (k:=4) rfl;clear hb))
  | (go_at_call 15;(with_reducible refine (HMY.out _).mono ?_);go_must (rintro e wm ⟨rfl,hb⟩;replace HA:=Lib.hid (HA.out.later hb);replace HB:=Lib.hid (HB.out.trans (hb.mono hbz));replace HR:=Lib.hid (RdB.later HR.out hb);replace hbz:=Nat.le_trans hbz hb.size;replace a0:=HA.out.cell (k:=0) rfl;replace a1:=HA.out.cell (k:=1) rfl;replace a2:=HA.out.cell (k:=2) rfl;replace a3:=HA.out.cell (k:=3) rfl;replace a4:=HA.out.cell (k:=4) rfl;clear hb))
  | (go_at_call 16;(with_reducible refine (HEN.out _ _ _ HR.out hcc).mono ?_);go_must (rintro e w5 ⟨g5,n5,c5,l5,rfl,hr5,⟨z5,hpk5,hz5⟩,hb⟩;replace HA:=Lib.hid (HA.out.later hb);replace HB:=Lib.hid (HB.out.trans (hb.mono hbz));replace HR:=Lib.hid (RdB.later HR.out hb);replace hbz:=Nat.le_trans hbz hb.size;replace a0:=HA.out.cell (k:=0) rfl;replace a1:=HA.out.cell (k:=1) rfl;replace a2:=HA.out.cell (k:=2) rfl;replace a3:=HA.out.cell (k:=3) rfl;replace a4:=HA.out.cell (k:=4) rfl;have HE5:Hid (RdB w5 w5.heap.size (some ⟨g5,0,none⟩) n5 l5):=(show RdB _ _ _ _ _ from Rd.here hr5.rd);have HPK5:=Lib.hid hpk5;have HZ5:=Lib.hid hz5;have hc5:n5≤c5:=(by obtain ⟨cur,fz,e1,e2,e3,e4,e5⟩:=hr5;exact e4);have HC5:=Lib.hid hc5;have hl5:n5=z5.length+57:=(by have e1:=hr5.rd.len;rw [hz5,file_len _ _ HH13.out] at e1;exact e1.symm);have hn5i:¬ (n5:Int) < 57:=(by omega);have HL5:=Lib.hid hl5;clear hb hr5 hpk5 hz5 hl5))
  | (go_at_call 9;go_loud (with_reducible refine (HCK.out z5 HPK5.out _ _ _ _ (by have e:=HE5.out;rw [HZ5.out] at e;exact e) HC5.out).mono ?_);go_loud (rintro e wk ⟨A9,c9,lq,rfl,hrq,hcq,hc9,hb⟩;replace HA:=Lib.hid (HA.out.later hb);replace HB:=Lib.hid (HB.out.trans (hb.mono hbz));replace HR:=Lib.hid (RdB.later HR.out hb);replace hbz:=Nat.le_trans hbz hb.size;replace a0:=HA.out.cell (k:=0) rfl;replace a1:=HA.out.cell (k:=1) rfl;replace a2:=HA.out.cell (k:=2) rfl;replace a3:=HA.out.cell (k:=3) rfl;replace a4:=HA.out.cell (k:=4) rfl;replace HE5:=Lib.hid (RdB.later HE5.out hb);obtain ⟨bq,oq,xq,rfl,hbq,-,-,-⟩:=hrq.one (k:=0) (by decide);obtain ⟨k0,d0,A0,cc0,hp0,hl0,hcc0,hr0⟩:=hcq.one (i:=0) (show 0 < 3 by decide);have hp0':((IHDR,hd):CK)=(k0,d0):=(by injection hp0);injection hp0' with e1 e2;subst e1 e2;obtain ⟨k1,d1,A1,cc1,hp1,hl1,hcc1,hr1⟩:=hcq.one (i:=1) (show 1 < 3 by decide);have hp1':((IDAT,z5):CK)=(k1,d1):=(by injection hp1);injection hp1' with e1 e2;subst e1 e2;obtain ⟨k2,d2,A2,cc2,hp2,hl2,hcc2,hr2⟩:=hcq.one (i:=2) (show 2 < 3 by decide);have hp2':((IEND,[]):CK)=(k2,d2):=(by injection hp2);injection hp2' with e1 e2;subst e1 e2;rw [HH13.out] at hl0 hcc0 hr0;obtain ⟨bh,oh,rfl⟩:∃ bd od,A0=some ⟨bd,od,none⟩:=(by obtain ⟨b,o,e,-⟩:=hr0.2 (by omega);exact ⟨b,o,e⟩);have HZP:=Lib.hid (HZL.out z5 HPK5.out);have HD0:=Lib.hid hr0;have HZ1:=Lib.hid hr1;have HCC0:=Lib.hid hcc0;have HR1:=Lib.hid (HRD.out _ _ _ HD0.out HCC0.out).1;have HR2:=Lib.hid (HRD.out _ _ _ HD0.out HCC0.out).2;obtain ⟨q0,q1,q2,q3,q4⟩:=heads_cells hrq hl0 hl1 hl2;obtain ⟨zl,hzl⟩:∃ m,z5.length=m:=⟨_,rfl⟩;rw [hzl] at q3 hl1 hcc1 HZP HZ1;have HQ:=Lib.hid hrq;have HL0:=Lib.hid hl0;have HL1:=Lib.hid hl1;have HL2:=Lib.hid hl2;clear hp0 hp1 hp2 hl0 hl1 hl2 hr0 hr1 hr2 hcc0 hcc1 hcc2 hbq hzl;clear hb hrq hcq))
  | (go_at_call 18;(with_reducible refine HR1.out.mono ?_);go_must (rintro e w9 ⟨rfl,rfl⟩))
  | (go_at_call 18;(with_reducible refine HR2.out.mono ?_);go_must (rintro e w9 ⟨rfl,rfl⟩)))
 have HT8:Hid (RdB wk wk.heap.size (some ⟨bh,oh+8,none⟩) 5 (hd.drop 8)):=(show RdB _ _ _ _ _ by
  have:=RdB.cut HD0.out (k:=8) (m:=5) (by omega) (A':=some ⟨bh,oh+8,none⟩) (fun _=>by simp [add_none])
  rwa [List.take_of_length_le (by rw [List.length_drop,HH13.out];exact Nat.le_refl _)] at this)
 have HNC:Hid ((8:Int)≤(cc0:Int)∧8≤cc0∧¬ cc0=8):=(show _∧_ from by have h9:=HCC0.out;exact ⟨by omega,by omega,by omega⟩)
 have HLA:Hid ((beB W 4).length≤100000∧(beB T 4).length≤100000∧(hd.drop 8).length≤100000):=(show _∧_ by
  rw [beB_len,beB_len,List.length_drop,HH13.out];exact ⟨by omega,by omega,by omega⟩)
 have HZW:Hid (wk.heap.size≤wk.heap.size):=Nat.le_refl _
 clear q0 q1 q2 q3 q4 a0 a1 a2 a3 a4 hc5 hn5i hc9 HCK HMY HR1 HR2 HRD
 go_cut [13] (fun v13 wx=>ownB wx wk.heap.size v13 (beB W 4 ++ beB T 4 ++ hd.drop 8)∧Below wk.heap.size wk wx)
 case first =>
  refine wp_region_inv2 (by kernel_rfl) (by kernel_rfl) (hedInv1 (fun v=>⟨#[.agg #[.int .i64 (W:Int),.int .i64 (H:Int),.int .i64 (C:Int),.int .i64 (D:Int),.slice A n c],.int .i64 (M:Int),.pointer (some ⟨bk,0,none⟩),undef,.bool false,.slice (some ⟨g5,0,none⟩) n5 c5,.int .i64 0,.slice (some ⟨bq,oq,none⟩) 3 c9,.int .i64 0,.int .i64 (W:Int),.int .i64 0,.int .i64 (H:Int),.int .i64 0,v 13,undef,undef,undef,.bool true,.bool false,.pointer (some ⟨bk,4,none⟩),.slice A n c,.int .i64 (n:Int),.bool (decide (3000 < (n:Int))),.bool (decide (3000 < (n:Int))),.int .i64 (M:Int),.bool (decide ((M:Int) < 1)),.bool (decide (3000 < (n:Int)) || decide ((M:Int) < 1)),.bool (decide (3000 < (n:Int)) || decide ((M:Int) < 1)),.int .i64 (M:Int),.bool (decide (200 < (M:Int))),.bool (decide (3000 < (n:Int)) || decide ((M:Int) < 1) || decide (200 < (M:Int))),.bool (decide (3000 < (n:Int)) || decide ((M:Int) < 1) || decide (200 < (M:Int))),.agg #[.int .i64 (W:Int),.int .i64 (H:Int),.int .i64 (C:Int),.int .i64 (D:Int),.slice A n c],.bool true,.bool false,.bool (decide (3000 < (n:Int)) || decide ((M:Int) < 1) || decide (200 < (M:Int))),undef,.tuple #[.slice (some ⟨g5,0,none⟩) n5 c5,.int .i64 0],.agg #[.int .i64 (W:Int),.int .i64 (H:Int),.int .i64 (C:Int),.int .i64 (D:Int),.slice A n c],.tuple #[.slice (some ⟨g5,0,none⟩) n5 c5,.int .i64 0],.slice (some ⟨g5,0,none⟩) n5 c5,.int .i64 0,.tuple #[.slice (some ⟨bq,oq,none⟩) 3 c9,.int .i64 0],.slice (some ⟨g5,0,none⟩) n5 c5,.tuple #[.slice (some ⟨bq,oq,none⟩) 3 c9,.int .i64 0],.slice (some ⟨bq,oq,none⟩) 3 c9,.int .i64 0,.int .i64 0,.bool false,.bool false,.int .i64 0,.bool false,.bool false,.bool false,.slice (some ⟨bq,oq,none⟩) 3 c9,.int .i64 3,.bool false,.bool false,.bool false,.slice (some ⟨bq,oq,none⟩) 3 c9,.pointer (some ⟨bq,oq,none⟩),.pointer (some ⟨bq,oq+1,none⟩),.slice (some ⟨bh,oh,none⟩) 13 cc0,.int .i64 13,.bool false,.bool false,.tuple #[.int .i64 (W:Int),.int .i64 0],.slice (some ⟨bq,oq,none⟩) 3 c9,.pointer (some ⟨bq,oq,none⟩),.pointer (some ⟨bq,oq+1,none⟩),.slice (some ⟨bh,oh,none⟩) 13 cc0,.tuple #[.int .i64 (W:Int),.int .i64 0],.int .i64 (W:Int),.int .i64 0,.tuple #[.int .i64 (H:Int),.int .i64 0],.slice (some ⟨bq,oq,none⟩) 3 c9,.pointer (some ⟨bq,oq,none⟩),.pointer (some ⟨bq,oq+1,none⟩),.slice (some ⟨bh,oh,none⟩) 13 cc0,.tuple #[.int .i64 (H:Int),.int .i64 0],.int .i64 (H:Int),.int .i64 0,v 82,v 83,v 84,v 85,v 86,v 87,v 88,v 89,v 90,v 91,v 92,v 93,v 94,undef,undef,undef,undef,undef,undef,undef,undef,undef,undef,undef,undef,undef,undef,undef,undef,undef,undef,undef,undef,undef,undef,undef,undef,undef,undef,undef,undef,undef,undef,undef,undef,undef,undef,undef,undef,undef,undef,undef,undef,undef,undef,undef,undef,undef,undef,undef,undef,undef,undef,undef,undef,undef,undef,undef,undef,undef,undef,undef,undef,undef,undef,undef,undef,undef,undef,undef,undef,undef,undef,undef,undef,undef,undef,undef,undef,undef,undef,undef,undef],[]⟩) W H M T bq oq c9 bh oh cc0 hd wk.heap.size wk) ?_ ?_ ?_
  ·exact ⟨(fun kS=>match kS with | 82=>undef | 83=>undef | 84=>undef | 85=>undef | 86=>undef | 87=>undef | 88=>undef | 89=>undef | 90=>undef | 91=>undef | 92=>undef | 93=>undef | 94=>undef | 13=>undef | _=>undef),rfl,(fun h=>by cases h),(fun h=>by cases h),(fun h=>by cases h),(fun h=>by cases h),(fun h=>by cases h),(fun h=>by cases h),(fun h=>by cases h),(fun h=>by cases h),(fun h=>by cases h),(fun h=>by cases h),(fun h=>by cases h),(fun h=>by cases h),(fun h=>by cases h),(fun h=>by cases h),(fun h=>by cases h),(fun h=>by cases h),(fun h=>by cases h),(fun h=>by cases h),(fun h=>by cases h),(Below.refl _ _).drew⟩
  ·intro f a w i hi0 hf he hI
   have hi:i < 14:=hi0
   clear hi0
   obtain ⟨v,rfl,p0,p1,p2,p3,p4,p5,p6,p7,p8,p9,p10,p11,p12,p13,q1_5,d13_12,d6_1,d12_6,d6_5,hB⟩:=hI
   have hzw:wk.heap.size≤w.heap.size:=Nat.le_trans HZW.out hB.size
   replace p0:=Lib.hid p0
   replace p1:=Lib.hid p1
   replace p2:=Lib.hid p2
   replace p3:=Lib.hid p3
   replace p4:=Lib.hid p4
   replace p5:=Lib.hid p5
   replace p6:=Lib.hid p6
   replace p7:=Lib.hid p7
   replace p8:=Lib.hid p8
   replace p9:=Lib.hid p9
   replace p10:=Lib.hid p10
   replace p11:=Lib.hid p11
   replace p12:=Lib.hid p12
   replace p13:=Lib.hid p13
   replace q1_5:=Lib.hid q1_5
   replace d13_12:=Lib.hid d13_12
   replace d6_1:=Lib.hid d6_1
   replace d12_6:=Lib.hid d12_6
   replace d6_5:=Lib.hid d6_5
   replace hB:=Lib.hid hB
   have hi':i=0∨i=1∨i=2∨i=3∨i=4∨i=5∨i=6∨i=7∨i=8∨i=9∨i=10∨i=11∨i=12∨i=13:=by omega
   clear hi
   rcases hi' with rfl | rfl | rfl | rfl | rfl | rfl | rfl | rfl | rfl | rfl | rfl | rfl | rfl | rfl
   ·clear he
    refine wpOp_plainK rfl rfl (fun K HK=>?_)
    dsimp only
    go_simp
    exact HK.out _ _ ⟨(fun kS=>if kS=82 then .int .i64 (W:Int) else v kS),rfl,fun _=>rfl,p1.out,p2.out,p3.out,p4.out,p5.out,p6.out,p7.out,p8.out,p9.out,p10.out,p11.out,p12.out,p13.out,q1_5.out,d13_12.out,d6_1.out,d12_6.out,d6_5.out,hB.out⟩
   ·have r0:=p0.out (he 0 (by kernel_rfl))
    have hcall:=word_any W HWB.out.1 w
    clear he
    refine wpOp_plainK rfl rfl (fun K HK=>?_)
    dsimp only
    rw [r0]
    clear r0
    go_simp
    go_at_call 19
    (with_reducible refine hcall.mono ?_)
    rintro e w' ⟨v1,rfl,ho,hb⟩
    go_simp
    exact HK.out _ _ ⟨(fun kS=>if kS=83 then v1 else (fun kS=>if kS=82 then .int .i64 (W:Int) else v kS) kS),rfl,fun _=>rfl,fun _ _=>ho.mono hzw,p2.out,p3.out,p4.out,fun h h6=>ownB.later (p5.out h h6) hb,fun h h6=>ownB.later (p6.out h h6) hb,p7.out,p8.out,p9.out,p10.out,p11.out,fun h=>ownB.later (p12.out h) hb,fun h=>ownB.later (p13.out h) hb,fun _ _ h g e1 e2=>by have h1:=(World.ownsRow.lt ho g e1).1;have h2:=(World.ownsRow.lt (p5.out h (by cases hh:f 6 with | false=>rfl | true=>exact Bool.noConfusion (show true=false from (d6_1.out (hh)).symm.trans hf))) g e2).2;omega,d13_12.out,fun _=>rfl,d12_6.out,d6_5.out,hB.out.trans (Below.mono hb hzw)⟩
   ·clear he
    refine wpOp_plainK rfl rfl (fun K HK=>?_)
    dsimp only
    go_simp
    exact HK.out _ _ ⟨(fun kS=>if kS=84 then .int .i64 (H:Int) else v kS),rfl,p0.out,p1.out,fun _=>rfl,p3.out,p4.out,p5.out,p6.out,p7.out,p8.out,p9.out,p10.out,p11.out,p12.out,p13.out,q1_5.out,d13_12.out,d6_1.out,d12_6.out,d6_5.out,hB.out⟩
   ·clear he
    refine wpOp_plainK rfl rfl (fun K HK=>?_)
    dsimp only
    go_simp
    exact HK.out _ _ ⟨(fun kS=>if kS=85 then .int .i64 (M:Int) else v kS),rfl,p0.out,p1.out,p2.out,fun _=>rfl,p4.out,p5.out,p6.out,p7.out,p8.out,p9.out,p10.out,p11.out,p12.out,p13.out,q1_5.out,d13_12.out,d6_1.out,d12_6.out,d6_5.out,hB.out⟩
   ·have r2:=p2.out (he 2 (by kernel_rfl))
    have r3:=p3.out (he 3 (by kernel_rfl))
    have k1:=HTW.out
    clear he
    refine wpOp_plainK rfl rfl (fun K HK=>?_)
    dsimp only
    rw [r2,r3]
    clear r2 r3
    go_simp
    exact HK.out _ _ ⟨(fun kS=>if kS=86 then .int .i64 (T:Int) else (fun kS=>if kS=85 then .int .i64 (M:Int) else (fun kS=>if kS=84 then .int .i64 (H:Int) else v kS) kS) kS),rfl,p0.out,p1.out,fun _=>rfl,fun _=>rfl,fun _=>rfl,p5.out,p6.out,p7.out,p8.out,p9.out,p10.out,p11.out,p12.out,p13.out,q1_5.out,d13_12.out,d6_1.out,d12_6.out,d6_5.out,hB.out⟩
   ·have r4:=p4.out (he 4 (by kernel_rfl))
    have hcall:=word_any T HWB.out.2 w
    clear he
    refine wpOp_plainK rfl rfl (fun K HK=>?_)
    dsimp only
    rw [r4]
    clear r4
    go_simp
    go_at_call 19
    (with_reducible refine hcall.mono ?_)
    rintro e w' ⟨v1,rfl,ho,hb⟩
    go_simp
    exact HK.out _ _ ⟨(fun kS=>if kS=87 then v1 else (fun kS=>if kS=86 then .int .i64 (T:Int) else v kS) kS),rfl,p0.out,fun h h6=>ownB.later (p1.out h h6) hb,p2.out,p3.out,fun _=>rfl,fun _ _=>ho.mono hzw,fun h h6=>ownB.later (p6.out h h6) hb,p7.out,p8.out,p9.out,p10.out,p11.out,fun h=>ownB.later (p12.out h) hb,fun h=>ownB.later (p13.out h) hb,fun h h6 _ g e1 e2=>by have h1:=(World.ownsRow.lt (p1.out h h6) g e1).2;have h2:=(World.ownsRow.lt ho g e2).1;omega,d13_12.out,d6_1.out,d12_6.out,fun _=>rfl,hB.out.trans (Below.mono hb hzw)⟩
   ·have fa:f 1=true:=he 1 (by kernel_rfl)
    have hown:=p1.out fa hf
    have fc:f 5=true:=he 5 (by kernel_rfl)
    have hsrc:=p5.out fc hf
    obtain ⟨A4,c4,e4,r4,-,-⟩:=hsrc.form
    refine wpOp_appendA rfl rfl (.tmp 83) (.tmp 87) rfl wk.heap.size (v 83) _ rfl hown w.heap.size _ c4 A4 _ e4 r4 (by have:=HLA.out;omega) hzw (fun v' w' ho hg hb ha=>?_)
    exact ⟨(fun kS=>if kS=88 then v' else v kS),rfl,p0.out,fun _ h6=>Bool.noConfusion (show true=false from h6),p2.out,p3.out,p4.out,fun _ h6=>Bool.noConfusion (show true=false from h6),fun _ _=>ho,p7.out,p8.out,p9.out,p10.out,p11.out,fun h=>Bool.noConfusion (show true=false from (d12_6.out (h)).symm.trans hf),fun h=>Bool.noConfusion (show true=false from (d12_6.out (d13_12.out (h))).symm.trans hf),fun _ h6=>Bool.noConfusion (show true=false from h6),d13_12.out,fun _=>he 1 (by kernel_rfl),fun _=>rfl,fun _=>he 5 (by kernel_rfl),hB.out.trans hb⟩
   ·clear he
    refine wpOp_plainK rfl rfl (fun K HK=>?_)
    dsimp only
    go_simp
    exact HK.out _ _ ⟨(fun kS=>if kS=89 then .slice (some ⟨bq,oq,none⟩) 3 c9 else v kS),rfl,p0.out,p1.out,p2.out,p3.out,p4.out,p5.out,p6.out,fun _=>rfl,p8.out,p9.out,p10.out,p11.out,p12.out,p13.out,q1_5.out,d13_12.out,d6_1.out,d12_6.out,d6_5.out,hB.out⟩
   ·have r7:=p7.out (he 7 (by kernel_rfl))
    clear he
    refine wpOp_plainK rfl rfl (fun K HK=>?_)
    dsimp only
    rw [r7]
    clear r7
    go_simp
    exact HK.out _ _ ⟨(fun kS=>if kS=90 then .pointer (some ⟨bq,oq,none⟩) else (fun kS=>if kS=89 then .slice (some ⟨bq,oq,none⟩) 3 c9 else v kS) kS),rfl,p0.out,p1.out,p2.out,p3.out,p4.out,p5.out,p6.out,fun _=>rfl,fun _=>rfl,p9.out,p10.out,p11.out,p12.out,p13.out,q1_5.out,d13_12.out,d6_1.out,d12_6.out,d6_5.out,hB.out⟩
   ·have r8:=p8.out (he 8 (by kernel_rfl))
    clear he
    refine wpOp_plainK rfl rfl (fun K HK=>?_)
    dsimp only
    rw [r8]
    clear r8
    go_simp
    exact HK.out _ _ ⟨(fun kS=>if kS=91 then .pointer (some ⟨bq,oq+1,none⟩) else (fun kS=>if kS=90 then .pointer (some ⟨bq,oq,none⟩) else v kS) kS),rfl,p0.out,p1.out,p2.out,p3.out,p4.out,p5.out,p6.out,p7.out,fun _=>rfl,fun _=>rfl,p10.out,p11.out,p12.out,p13.out,q1_5.out,d13_12.out,d6_1.out,d12_6.out,d6_5.out,hB.out⟩
   ·have r9:=p9.out (he 9 (by kernel_rfl))
    have k1:=(heads_cells (RdQ.blw HQ.out hB.out) HL0.out HL1.out HL2.out).2.1
    clear he
    refine wpOp_plainK rfl rfl (fun K HK=>?_)
    dsimp only
    rw [r9]
    clear r9
    go_simp
    exact HK.out _ _ ⟨(fun kS=>if kS=92 then .slice (some ⟨bh,oh,none⟩) 13 cc0 else (fun kS=>if kS=91 then .pointer (some ⟨bq,oq+1,none⟩) else v kS) kS),rfl,p0.out,p1.out,p2.out,p3.out,p4.out,p5.out,p6.out,p7.out,p8.out,fun _=>rfl,fun _=>rfl,p11.out,p12.out,p13.out,q1_5.out,d13_12.out,d6_1.out,d12_6.out,d6_5.out,hB.out⟩
   ·have r10:=p10.out (he 10 (by kernel_rfl))
    have k1:=HNC.out.1
    have k2:=HNC.out.2.1
    have k3:=HNC.out.2.2
    clear he
    refine wpOp_plainK rfl rfl (fun K HK=>?_)
    dsimp only
    rw [r10]
    clear r10
    go_simp
    exact HK.out _ _ ⟨(fun kS=>if kS=93 then .slice (some ⟨bh,oh+8,none⟩) 5 (cc0 - 8) else (fun kS=>if kS=92 then .slice (some ⟨bh,oh,none⟩) 13 cc0 else v kS) kS),rfl,p0.out,p1.out,p2.out,p3.out,p4.out,p5.out,p6.out,p7.out,p8.out,p9.out,fun _=>rfl,fun _=>rfl,p12.out,p13.out,q1_5.out,d13_12.out,d6_1.out,d12_6.out,d6_5.out,hB.out⟩
   ·have fa:f 6=true:=he 6 (by kernel_rfl)
    have hown:=p6.out fa hf
    have r11:=p11.out (he 11 (by kernel_rfl))
    have r4:=RdB.blw HT8.out hB.out
    refine wpOp_appendA rfl rfl (.tmp 88) (.tmp 93) rfl wk.heap.size (v 88) _ rfl hown _ (5) (cc0 - 8) (some ⟨bh,oh+8,none⟩) (hd.drop 8) r11 r4 (by simp only [List.length_append];have:=HLA.out;omega) hzw (fun v' w' ho hg hb ha=>?_)
    exact ⟨(fun kS=>if kS=94 then v' else v kS),rfl,p0.out,fun h h6=>Bool.noConfusion (show true=false from (fa).symm.trans h6),p2.out,p3.out,p4.out,fun h h6=>Bool.noConfusion (show true=false from (fa).symm.trans h6),fun _ h6=>Bool.noConfusion (show true=false from h6),p7.out,p8.out,p9.out,p10.out,p11.out,fun _=>ho,fun h=>Bool.noConfusion (show true=false from (d13_12.out (h)).symm.trans hf),q1_5.out,fun _=>rfl,d6_1.out,fun _=>he 6 (by kernel_rfl),d6_5.out,hB.out.trans hb⟩
   ·have hown:=p12.out (he 12 (by kernel_rfl))
    have hfd:=he 12 (by kernel_rfl)
    clear he
    refine wpOp_plainK rfl rfl (fun K HK=>?_)
    dsimp only
    go_simp
    exact HK.out _ _ ⟨(fun kS=>if kS=13 then (v 94) else v kS),rfl,p0.out,p1.out,p2.out,p3.out,p4.out,p5.out,p6.out,p7.out,p8.out,p9.out,p10.out,p11.out,p12.out,fun _=>hown,q1_5.out,fun _=>hfd,d6_1.out,d12_6.out,d6_5.out,hB.out⟩
  ·intro f a w hall hI
   obtain ⟨v,rfl,p0,p1,p2,p3,p4,p5,p6,p7,p8,p9,p10,p11,p12,p13,q1_5,d13_12,d6_1,d12_6,d6_5,hB⟩:=hI
   have FIN:Hid (ownB w wk.heap.size (v 13) (beB W 4 ++ beB T 4 ++ hd.drop 8)∧Below wk.heap.size wk w):=(show _∧_ from ⟨p13 (hall 13 (by decide)),hB⟩)
   clear p0 p1 p2 p3 p4 p5 p6 p7 p8 p9 p10 p11 p12 p13 q1_5 d13_12 d6_1 d12_6 d6_5 hB hall
   go_wp2_with fail
   go_meet
   case rel=>exact FIN.out
 case rest =>
 obtain ⟨ho13,hb13⟩:=hcut
 rw [HTN.out] at ho13
 obtain ⟨A13,c13,rfl,hr13,hc13,-⟩:=ho13.form
 rw [HE13.out] at hr13 hc13
 (try rw [HE13.out])
 have HXc:=Lib.hid hr13
 have HAc:=Lib.hid (HA.out.later hb13)
 have HBc:=Lib.hid (HB.out.trans (hb13.mono hbz))
 have HRc:=Lib.hid (RdB.later HR.out hb13)
 have HD0c:=Lib.hid (RdB.later HD0.out hb13)
 have HQc:=Lib.hid (RdQ.later HQ.out hb13)
 have HZ1c:=Lib.hid (RdB.later HZ1.out hb13)
 have HE5c:=Lib.hid (RdB.later HE5.out hb13)
 have hbc:bk≤wc.heap.size:=Nat.le_trans hbz hb13.size
 obtain ⟨wy,rfl⟩:∃ wy:World,wy=wc:=⟨_,rfl⟩
 clear ho13 hr13 hb13 hc13 HA HB HR HD0 HQ HZ1 HE5 hbz HT8 HZW HNC HLA
 have HX:Hid (RdB wy wy.heap.size A13 13 hd2):=(show RdB _ _ _ _ _ from HXc.out)
 have HQ:=Lib.hid HQc.out
 have HZ1:=Lib.hid HZ1c.out
 have HT1:Hid (RdB wy wy.heap.size (some ⟨g5,0,none⟩) 8 (l5.take 8)):=(show RdB _ _ _ _ _ from RdB.pre HE5c.out (by have:=HL5.out;omega))
 have HNC2:Hid ((8:Int)≤(c5:Int)∧8≤c5):=(show _∧_ from by have h8:=HL5.out;have h7:=HC5.out;exact ⟨by omega,by omega⟩)
 have HLB:Hid ((l5.take 8).length≤100000∧(chQ (IHDR,hd2)).length≤100000∧(chQ (IDAT,z5)).length≤100000∧(chQ (IEND,[])).length≤100000):=(show _∧_ by
  have h1:=HZP.out
  have h2:=HZ1.out.len
  have h3:=HE13.out
  refine ⟨by rw [List.length_take];omega,?_,?_,?_⟩
  ·rw [chQ_len rfl];show hd2.length+12≤_;omega
  ·rw [chQ_len rfl];show z5.length+12≤_;omega
  ·rw [chQ_len rfl];show 0+12≤_;omega)
 have HZW:Hid (wy.heap.size≤wy.heap.size):=Nat.le_refl _
 clear HXc HQc HZ1c HE5c
 go_upto_region 12 with fail
 go_cut [14] (fun v14 wx=>ownB wx wy.heap.size v14 (l5.take 8 ++ chQ (IHDR,hd2) ++ chQ (IDAT,z5) ++ chQ (IEND,[]))∧Below wy.heap.size wy wx)
 case first =>
  refine wp_region_inv2 (by kernel_rfl) (by kernel_rfl) (hedInv2 (fun v=>⟨#[.agg #[.int .i64 (W:Int),.int .i64 (H:Int),.int .i64 (C:Int),.int .i64 (D:Int),.slice A n c],.int .i64 (M:Int),.pointer (some ⟨bk,0,none⟩),undef,.bool false,.slice (some ⟨g5,0,none⟩) n5 c5,.int .i64 0,.slice (some ⟨bq,oq,none⟩) 3 c9,.int .i64 0,.int .i64 (W:Int),.int .i64 0,.int .i64 (H:Int),.int .i64 0,.slice A13 13 c13,v 14,u15,undef,u17,u18,u19,u20,u21,u22,u23,u24,u25,u26,u27,u28,u29,u30,u31,u32,u33,u34,u35,u36,u37,u38,u39,u40,u41,u42,u43,u44,u45,u46,u47,u48,u49,u50,u51,u52,u53,u54,u55,u56,u57,u58,u59,u60,u61,u62,u63,u64,u65,u66,u67,u68,u69,u70,u71,u72,u73,u74,u75,u76,u77,u78,u79,u80,u81,u82,u83,u84,u85,u86,u87,u88,u89,u90,u91,u92,u93,u94,v 95,v 96,v 97,v 98,v 99,v 100,v 101,v 102,v 103,v 104,v 105,v 106,v 107,v 108,u109,u110,u111,u112,u113,u114,u115,u116,u117,u118,u119,u120,u121,u122,u123,u124,u125,u126,u127,u128,u129,u130,u131,u132,u133,u134,u135,u136,u137,u138,u139,u140,u141,u142,u143,u144,u145,u146,u147,u148,u149,u150,u151,u152,u153,u154,u155,u156,u157,u158,u159,u160,u161,u162,u163,u164,u165,u166,u167,u168,u169,u170,u171,u172,u173,u174],[]⟩) g5 n5 c5 c13 bq oq c9 zl cc1 A13 A1 l5 hd2 z5 wy.heap.size wy) ?_ ?_ ?_
  ·exact ⟨(fun kS=>match kS with | 95=>u95 | 96=>u96 | 97=>u97 | 98=>u98 | 99=>u99 | 100=>u100 | 101=>u101 | 102=>u102 | 103=>u103 | 104=>u104 | 105=>u105 | 106=>u106 | 107=>u107 | 108=>u108 | 14=>undef | _=>undef),rfl,(fun h=>by cases h),(fun h=>by cases h),(fun h=>by cases h),(fun h=>by cases h),(fun h=>by cases h),(fun h=>by cases h),(fun h=>by cases h),(fun h=>by cases h),(fun h=>by cases h),(fun h=>by cases h),(fun h=>by cases h),(fun h=>by cases h),(fun h=>by cases h),(fun h=>by cases h),(fun h=>by cases h),(fun h=>by cases h),(fun h=>by cases h),(fun h=>by cases h),(fun h=>by cases h),(fun h=>by cases h),(fun h=>by cases h),(fun h=>by cases h),(fun h=>by cases h),(fun h=>by cases h),(fun h=>by cases h),(fun h=>by cases h),(fun h=>by cases h),(fun h=>by cases h),(Below.refl _ _).drew⟩
  ·intro f a w i hi0 hf he hI
   have hi:i < 15:=hi0
   clear hi0
   obtain ⟨v,rfl,p0,p1,p2,p3,p4,p5,p6,p7,p8,p9,p10,p11,p12,p13,p14,q2_4,q2_10,q2_12,q5_10,q5_12,q11_12,d14_13,d5_2,d11_5,d13_11,d5_4,d11_10,d13_12,hB⟩:=hI
   have hzw:wy.heap.size≤w.heap.size:=Nat.le_trans HZW.out hB.size
   replace p0:=Lib.hid p0
   replace p1:=Lib.hid p1
   replace p2:=Lib.hid p2
   replace p3:=Lib.hid p3
   replace p4:=Lib.hid p4
   replace p5:=Lib.hid p5
   replace p6:=Lib.hid p6
   replace p7:=Lib.hid p7
   replace p8:=Lib.hid p8
   replace p9:=Lib.hid p9
   replace p10:=Lib.hid p10
   replace p11:=Lib.hid p11
   replace p12:=Lib.hid p12
   replace p13:=Lib.hid p13
   replace p14:=Lib.hid p14
   replace q2_4:=Lib.hid q2_4
   replace q2_10:=Lib.hid q2_10
   replace q2_12:=Lib.hid q2_12
   replace q5_10:=Lib.hid q5_10
   replace q5_12:=Lib.hid q5_12
   replace q11_12:=Lib.hid q11_12
   replace d14_13:=Lib.hid d14_13
   replace d5_2:=Lib.hid d5_2
   replace d11_5:=Lib.hid d11_5
   replace d13_11:=Lib.hid d13_11
   replace d5_4:=Lib.hid d5_4
   replace d11_10:=Lib.hid d11_10
   replace d13_12:=Lib.hid d13_12
   replace hB:=Lib.hid hB
   have hi':i=0∨i=1∨i=2∨i=3∨i=4∨i=5∨i=6∨i=7∨i=8∨i=9∨i=10∨i=11∨i=12∨i=13∨i=14:=by omega
   clear hi
   rcases hi' with rfl | rfl | rfl | rfl | rfl | rfl | rfl | rfl | rfl | rfl | rfl | rfl | rfl | rfl | rfl
   ·clear he
    refine wpOp_plainK rfl rfl (fun K HK=>?_)
    dsimp only
    go_simp
    exact HK.out _ _ ⟨(fun kS=>if kS=95 then .slice (some ⟨g5,0,none⟩) n5 c5 else v kS),rfl,fun _=>rfl,p1.out,p2.out,p3.out,p4.out,p5.out,p6.out,p7.out,p8.out,p9.out,p10.out,p11.out,p12.out,p13.out,p14.out,q2_4.out,q2_10.out,q2_12.out,q5_10.out,q5_12.out,q11_12.out,d14_13.out,d5_2.out,d11_5.out,d13_11.out,d5_4.out,d11_10.out,d13_12.out,hB.out⟩
   ·have r0:=p0.out (he 0 (by kernel_rfl))
    have k1:=HNC2.out.1
    have k2:=HNC2.out.2
    clear he
    refine wpOp_plainK rfl rfl (fun K HK=>?_)
    dsimp only
    rw [r0]
    clear r0
    go_simp
    exact HK.out _ _ ⟨(fun kS=>if kS=96 then .slice (some ⟨g5,0,none⟩) 8 c5 else (fun kS=>if kS=95 then .slice (some ⟨g5,0,none⟩) n5 c5 else v kS) kS),rfl,fun _=>rfl,fun _=>rfl,p2.out,p3.out,p4.out,p5.out,p6.out,p7.out,p8.out,p9.out,p10.out,p11.out,p12.out,p13.out,p14.out,q2_4.out,q2_10.out,q2_12.out,q5_10.out,q5_12.out,q11_12.out,d14_13.out,d5_2.out,d11_5.out,d13_11.out,d5_4.out,d11_10.out,d13_12.out,hB.out⟩
   ·have r1:=p1.out (he 1 (by kernel_rfl))
    have hcall:=copyB_any wy.heap.size 8 c5 (some ⟨g5,0,none⟩) (l5.take 8) w (RdB.blw HT1.out hB.out) (by omega)
    clear he
    refine wpOp_plainK rfl rfl (fun K HK=>?_)
    dsimp only
    rw [r1]
    clear r1
    go_simp
    go_at_call 8
    (with_reducible refine hcall.mono ?_)
    rintro e w' ⟨v1,rfl,ho,hb⟩
    go_simp
    exact HK.out _ _ ⟨(fun kS=>if kS=97 then v1 else (fun kS=>if kS=96 then .slice (some ⟨g5,0,none⟩) 8 c5 else v kS) kS),rfl,p0.out,fun _=>rfl,fun _ _=>ho.mono hzw,p3.out,fun h h6=>ownB.later (p4.out h h6) hb,fun h h6=>ownB.later (p5.out h h6) hb,p6.out,p7.out,p8.out,p9.out,fun h h6=>ownB.later (p10.out h h6) hb,fun h h6=>ownB.later (p11.out h h6) hb,fun h h6=>ownB.later (p12.out h h6) hb,fun h=>ownB.later (p13.out h) hb,fun h=>ownB.later (p14.out h) hb,fun _ _ h g e1 e2=>by have h1:=(World.ownsRow.lt ho g e1).1;have h2:=(World.ownsRow.lt (p4.out h (by cases hh:f 5 with | false=>rfl | true=>exact Bool.noConfusion (show true=false from (d5_2.out (hh)).symm.trans hf))) g e2).2;omega,fun _ _ h g e1 e2=>by have h1:=(World.ownsRow.lt ho g e1).1;have h2:=(World.ownsRow.lt (p10.out h (by cases hh:f 11 with | false=>rfl | true=>exact Bool.noConfusion (show true=false from (d5_2.out (d11_5.out (hh))).symm.trans hf))) g e2).2;omega,fun _ _ h g e1 e2=>by have h1:=(World.ownsRow.lt ho g e1).1;have h2:=(World.ownsRow.lt (p12.out h (by cases hh:f 13 with | false=>rfl | true=>exact Bool.noConfusion (show true=false from (d5_2.out (d11_5.out (d13_11.out (hh)))).symm.trans hf))) g e2).2;omega,q5_10.out,q5_12.out,q11_12.out,d14_13.out,fun _=>rfl,d11_5.out,d13_11.out,d5_4.out,d11_10.out,d13_12.out,hB.out.trans (Below.mono hb hzw)⟩
   ·clear he
    refine wpOp_plainK rfl rfl (fun K HK=>?_)
    dsimp only
    go_simp
    exact HK.out _ _ ⟨(fun kS=>if kS=98 then .slice A13 13 c13 else v kS),rfl,p0.out,p1.out,p2.out,fun _=>rfl,p4.out,p5.out,p6.out,p7.out,p8.out,p9.out,p10.out,p11.out,p12.out,p13.out,p14.out,q2_4.out,q2_10.out,q2_12.out,q5_10.out,q5_12.out,q11_12.out,d14_13.out,d5_2.out,d11_5.out,d13_11.out,d5_4.out,d11_10.out,d13_12.out,hB.out⟩
   ·have r3:=p3.out (he 3 (by kernel_rfl))
    have hcall:=chunkL_any wy.heap.size 13 c13 A13 hd2 IHDR ⟨#[73,72,68,82]⟩ w rfl rfl (RdB.blw HX.out hB.out) hzw (by omega)
    clear he
    refine wpOp_plainK rfl rfl (fun K HK=>?_)
    dsimp only
    rw [r3]
    clear r3
    go_simp
    go_at_call 17
    (with_reducible refine hcall.mono ?_)
    rintro e w' ⟨v1,rfl,ho,hb⟩
    go_simp
    exact HK.out _ _ ⟨(fun kS=>if kS=99 then v1 else (fun kS=>if kS=98 then .slice A13 13 c13 else v kS) kS),rfl,p0.out,p1.out,fun h h6=>ownB.later (p2.out h h6) hb,fun _=>rfl,fun _ _=>ho.mono hzw,fun h h6=>ownB.later (p5.out h h6) hb,p6.out,p7.out,p8.out,p9.out,fun h h6=>ownB.later (p10.out h h6) hb,fun h h6=>ownB.later (p11.out h h6) hb,fun h h6=>ownB.later (p12.out h h6) hb,fun h=>ownB.later (p13.out h) hb,fun h=>ownB.later (p14.out h) hb,fun h h6 _ g e1 e2=>by have h1:=(World.ownsRow.lt (p2.out h h6) g e1).2;have h2:=(World.ownsRow.lt ho g e2).1;omega,q2_10.out,q2_12.out,q5_10.out,q5_12.out,q11_12.out,d14_13.out,d5_2.out,d11_5.out,d13_11.out,fun _=>rfl,d11_10.out,d13_12.out,hB.out.trans (Below.mono hb hzw)⟩
   ·have fa:f 2=true:=he 2 (by kernel_rfl)
    have hown:=p2.out fa hf
    have fc:f 4=true:=he 4 (by kernel_rfl)
    have hsrc:=p4.out fc hf
    obtain ⟨A4,c4,e4,r4,-,-⟩:=hsrc.form
    refine wpOp_appendA rfl rfl (.tmp 97) (.tmp 99) rfl wy.heap.size (v 97) _ rfl hown w.heap.size _ c4 A4 _ e4 r4 (by have:=HLB.out;omega) hzw (fun v' w' ho hg hb ha=>?_)
    exact ⟨(fun kS=>if kS=100 then v' else v kS),rfl,p0.out,p1.out,fun _ h6=>Bool.noConfusion (show true=false from h6),p3.out,fun _ h6=>Bool.noConfusion (show true=false from h6),fun _ _=>ho,p6.out,p7.out,p8.out,p9.out,fun h h6=>World.ownsRow.kept (p10.out h h6) hg (by cases e:(v 105).ownBlock with | none=>(first | exact .inl rfl | exact .inl e) | some g=>(first | exact .inr (fun e2=>q2_10.out fa hf h g e2.symm e) | exact .inr (fun e2=>q2_10.out fa hf h g (e2.symm.trans e) e))),fun h h6=>Bool.noConfusion (show true=false from (d11_5.out (h)).symm.trans hf),fun h h6=>World.ownsRow.kept (p12.out h h6) hg (by cases e:(v 107).ownBlock with | none=>(first | exact .inl rfl | exact .inl e) | some g=>(first | exact .inr (fun e2=>q2_12.out fa hf h g e2.symm e) | exact .inr (fun e2=>q2_12.out fa hf h g (e2.symm.trans e) e))),fun h=>Bool.noConfusion (show true=false from (d11_5.out (d13_11.out (h))).symm.trans hf),fun h=>Bool.noConfusion (show true=false from (d11_5.out (d13_11.out (d14_13.out (h)))).symm.trans hf),fun _ h6=>Bool.noConfusion (show true=false from h6),fun _ h6=>Bool.noConfusion (show true=false from h6),fun _ h6=>Bool.noConfusion (show true=false from h6),fun _ h6 h g e1 e2=>(ha.elim (fun e3=>q2_10.out fa hf h g (e3.symm.trans e1) e2) (fun e3=>by have h1:=(World.ownsRow.lt (p10.out h (by cases hh:f 11 with | false=>rfl | true=>exact Bool.noConfusion (show true=false from (d11_5.out (hh)).symm.trans hf))) g e2).2;have h2:=e3.symm.trans e1;injection h2 with h2;omega)),fun _ h6 h g e1 e2=>(ha.elim (fun e3=>q2_12.out fa hf h g (e3.symm.trans e1) e2) (fun e3=>by have h1:=(World.ownsRow.lt (p12.out h (by cases hh:f 13 with | false=>rfl | true=>exact Bool.noConfusion (show true=false from (d11_5.out (d13_11.out (hh))).symm.trans hf))) g e2).2;have h2:=e3.symm.trans e1;injection h2 with h2;omega)),q11_12.out,d14_13.out,fun _=>he 2 (by kernel_rfl),fun _=>rfl,d13_11.out,fun _=>he 4 (by kernel_rfl),d11_10.out,d13_12.out,hB.out.trans hb⟩
   ·clear he
    refine wpOp_plainK rfl rfl (fun K HK=>?_)
    dsimp only
    go_simp
    exact HK.out _ _ ⟨(fun kS=>if kS=101 then .slice (some ⟨bq,oq,none⟩) 3 c9 else v kS),rfl,p0.out,p1.out,p2.out,p3.out,p4.out,p5.out,fun _=>rfl,p7.out,p8.out,p9.out,p10.out,p11.out,p12.out,p13.out,p14.out,q2_4.out,q2_10.out,q2_12.out,q5_10.out,q5_12.out,q11_12.out,d14_13.out,d5_2.out,d11_5.out,d13_11.out,d5_4.out,d11_10.out,d13_12.out,hB.out⟩
   ·have r6:=p6.out (he 6 (by kernel_rfl))
    clear he
    refine wpOp_plainK rfl rfl (fun K HK=>?_)
    dsimp only
    rw [r6]
    clear r6
    go_simp
    exact HK.out _ _ ⟨(fun kS=>if kS=102 then .pointer (some ⟨bq,oq+2,none⟩) else (fun kS=>if kS=101 then .slice (some ⟨bq,oq,none⟩) 3 c9 else v kS) kS),rfl,p0.out,p1.out,p2.out,p3.out,p4.out,p5.out,fun _=>rfl,fun _=>rfl,p8.out,p9.out,p10.out,p11.out,p12.out,p13.out,p14.out,q2_4.out,q2_10.out,q2_12.out,q5_10.out,q5_12.out,q11_12.out,d14_13.out,d5_2.out,d11_5.out,d13_11.out,d5_4.out,d11_10.out,d13_12.out,hB.out⟩
   ·have r7:=p7.out (he 7 (by kernel_rfl))
    clear he
    refine wpOp_plainK rfl rfl (fun K HK=>?_)
    dsimp only
    rw [r7]
    clear r7
    go_simp
    exact HK.out _ _ ⟨(fun kS=>if kS=103 then .pointer (some ⟨bq,oq+2+1,none⟩) else (fun kS=>if kS=102 then .pointer (some ⟨bq,oq+2,none⟩) else v kS) kS),rfl,p0.out,p1.out,p2.out,p3.out,p4.out,p5.out,p6.out,fun _=>rfl,fun _=>rfl,p9.out,p10.out,p11.out,p12.out,p13.out,p14.out,q2_4.out,q2_10.out,q2_12.out,q5_10.out,q5_12.out,q11_12.out,d14_13.out,d5_2.out,d11_5.out,d13_11.out,d5_4.out,d11_10.out,d13_12.out,hB.out⟩
   ·have r8:=p8.out (he 8 (by kernel_rfl))
    have k1:=(heads_cells (RdQ.blw HQ.out hB.out) HL0.out HL1.out HL2.out).2.2.2.1
    clear he
    refine wpOp_plainK rfl rfl (fun K HK=>?_)
    dsimp only
    rw [r8]
    clear r8
    go_simp
    exact HK.out _ _ ⟨(fun kS=>if kS=104 then .slice A1 zl cc1 else (fun kS=>if kS=103 then .pointer (some ⟨bq,oq+2+1,none⟩) else v kS) kS),rfl,p0.out,p1.out,p2.out,p3.out,p4.out,p5.out,p6.out,p7.out,fun _=>rfl,fun _=>rfl,p10.out,p11.out,p12.out,p13.out,p14.out,q2_4.out,q2_10.out,q2_12.out,q5_10.out,q5_12.out,q11_12.out,d14_13.out,d5_2.out,d11_5.out,d13_11.out,d5_4.out,d11_10.out,d13_12.out,hB.out⟩
   ·have r9:=p9.out (he 9 (by kernel_rfl))
    have hcall:=chunkL_any wy.heap.size zl cc1 A1 z5 IDAT ⟨#[73,68,65,84]⟩ w rfl rfl (RdB.blw HZ1.out hB.out) hzw (by have:=HZP.out;omega)
    clear he
    refine wpOp_plainK rfl rfl (fun K HK=>?_)
    dsimp only
    rw [r9]
    clear r9
    go_simp
    go_at_call 17
    (with_reducible refine hcall.mono ?_)
    rintro e w' ⟨v1,rfl,ho,hb⟩
    go_simp
    exact HK.out _ _ ⟨(fun kS=>if kS=105 then v1 else (fun kS=>if kS=104 then .slice A1 zl cc1 else v kS) kS),rfl,p0.out,p1.out,fun h h6=>ownB.later (p2.out h h6) hb,p3.out,fun h h6=>ownB.later (p4.out h h6) hb,fun h h6=>ownB.later (p5.out h h6) hb,p6.out,p7.out,p8.out,fun _=>rfl,fun _ _=>ho.mono hzw,fun h h6=>ownB.later (p11.out h h6) hb,fun h h6=>ownB.later (p12.out h h6) hb,fun h=>ownB.later (p13.out h) hb,fun h=>ownB.later (p14.out h) hb,q2_4.out,fun h h6 _ g e1 e2=>by have h1:=(World.ownsRow.lt (p2.out h h6) g e1).2;have h2:=(World.ownsRow.lt ho g e2).1;omega,q2_12.out,fun h h6 _ g e1 e2=>by have h1:=(World.ownsRow.lt (p5.out h h6) g e1).2;have h2:=(World.ownsRow.lt ho g e2).1;omega,q5_12.out,q11_12.out,d14_13.out,d5_2.out,d11_5.out,d13_11.out,d5_4.out,fun _=>rfl,d13_12.out,hB.out.trans (Below.mono hb hzw)⟩
   ·have fa:f 5=true:=he 5 (by kernel_rfl)
    have hown:=p5.out fa hf
    have fc:f 10=true:=he 10 (by kernel_rfl)
    have hsrc:=p10.out fc hf
    obtain ⟨A4,c4,e4,r4,-,-⟩:=hsrc.form
    refine wpOp_appendA rfl rfl (.tmp 100) (.tmp 105) rfl wy.heap.size (v 100) _ rfl hown w.heap.size _ c4 A4 _ e4 r4 (by simp only [List.length_append];have:=HLB.out;omega) hzw (fun v' w' ho hg hb ha=>?_)
    exact ⟨(fun kS=>if kS=106 then v' else v kS),rfl,p0.out,p1.out,fun h h6=>Bool.noConfusion (show true=false from (fa).symm.trans h6),p3.out,fun h h6=>Bool.noConfusion (show true=false from (fa).symm.trans h6),fun _ h6=>Bool.noConfusion (show true=false from h6),p6.out,p7.out,p8.out,p9.out,fun _ h6=>Bool.noConfusion (show true=false from h6),fun _ _=>ho,fun h h6=>World.ownsRow.kept (p12.out h h6) hg (by cases e:(v 107).ownBlock with | none=>(first | exact .inl rfl | exact .inl e) | some g=>(first | exact .inr (fun e2=>q5_12.out fa hf h g e2.symm e) | exact .inr (fun e2=>q5_12.out fa hf h g (e2.symm.trans e) e))),fun h=>Bool.noConfusion (show true=false from (d13_11.out (h)).symm.trans hf),fun h=>Bool.noConfusion (show true=false from (d13_11.out (d14_13.out (h))).symm.trans hf),q2_4.out,q2_10.out,q2_12.out,fun _ h6=>Bool.noConfusion (show true=false from h6),fun _ h6=>Bool.noConfusion (show true=false from h6),fun _ h6 h g e1 e2=>(ha.elim (fun e3=>q5_12.out fa hf h g (e3.symm.trans e1) e2) (fun e3=>by have h1:=(World.ownsRow.lt (p12.out h (by cases hh:f 13 with | false=>rfl | true=>exact Bool.noConfusion (show true=false from (d13_11.out (hh)).symm.trans hf))) g e2).2;have h2:=e3.symm.trans e1;injection h2 with h2;omega)),d14_13.out,d5_2.out,fun _=>he 5 (by kernel_rfl),fun _=>rfl,d5_4.out,fun _=>he 10 (by kernel_rfl),d13_12.out,hB.out.trans hb⟩
   ·have hcall:=chunkL_any w.heap.size 0 0 none [] IEND ⟨#[73,69,78,68]⟩ w rfl rfl Rd.none_ (Nat.le_refl _) (by omega)
    clear he
    refine wpOp_plainK rfl rfl (fun K HK=>?_)
    dsimp only
    go_simp
    go_at_call 17
    (with_reducible refine hcall.mono ?_)
    rintro e w' ⟨v1,rfl,ho,hb⟩
    go_simp
    exact HK.out _ _ ⟨(fun kS=>if kS=107 then v1 else v kS),rfl,p0.out,p1.out,fun h h6=>ownB.later (p2.out h h6) hb,p3.out,fun h h6=>ownB.later (p4.out h h6) hb,fun h h6=>ownB.later (p5.out h h6) hb,p6.out,p7.out,p8.out,p9.out,fun h h6=>ownB.later (p10.out h h6) hb,fun h h6=>ownB.later (p11.out h h6) hb,fun _ _=>ho.mono hzw,fun h=>ownB.later (p13.out h) hb,fun h=>ownB.later (p14.out h) hb,q2_4.out,q2_10.out,fun h h6 _ g e1 e2=>by have h1:=(World.ownsRow.lt (p2.out h h6) g e1).2;have h2:=(World.ownsRow.lt ho g e2).1;omega,q5_10.out,fun h h6 _ g e1 e2=>by have h1:=(World.ownsRow.lt (p5.out h h6) g e1).2;have h2:=(World.ownsRow.lt ho g e2).1;omega,fun h h6 _ g e1 e2=>by have h1:=(World.ownsRow.lt (p11.out h h6) g e1).2;have h2:=(World.ownsRow.lt ho g e2).1;omega,d14_13.out,d5_2.out,d11_5.out,d13_11.out,d5_4.out,d11_10.out,fun _=>rfl,hB.out.trans (Below.mono hb hzw)⟩
   ·have fa:f 11=true:=he 11 (by kernel_rfl)
    have hown:=p11.out fa hf
    have fc:f 12=true:=he 12 (by kernel_rfl)
    have hsrc:=p12.out fc hf
    obtain ⟨A4,c4,e4,r4,-,-⟩:=hsrc.form
    refine wpOp_appendA rfl rfl (.tmp 106) (.tmp 107) rfl wy.heap.size (v 106) _ rfl hown w.heap.size _ c4 A4 _ e4 r4 (by simp only [List.length_append];have:=HLB.out;omega) hzw (fun v' w' ho hg hb ha=>?_)
    exact ⟨(fun kS=>if kS=108 then v' else v kS),rfl,p0.out,p1.out,fun h h6=>Bool.noConfusion (show true=false from (d11_5.out (fa)).symm.trans h6),p3.out,fun h h6=>Bool.noConfusion (show true=false from (d11_5.out (fa)).symm.trans h6),fun h h6=>Bool.noConfusion (show true=false from (fa).symm.trans h6),p6.out,p7.out,p8.out,p9.out,fun h h6=>Bool.noConfusion (show true=false from (fa).symm.trans h6),fun _ h6=>Bool.noConfusion (show true=false from h6),fun _ h6=>Bool.noConfusion (show true=false from h6),fun _=>ho,fun h=>Bool.noConfusion (show true=false from (d14_13.out (h)).symm.trans hf),q2_4.out,q2_10.out,q2_12.out,q5_10.out,q5_12.out,fun _ h6=>Bool.noConfusion (show true=false from h6),fun _=>rfl,d5_2.out,d11_5.out,fun _=>he 11 (by kernel_rfl),d5_4.out,d11_10.out,fun _=>he 12 (by kernel_rfl),hB.out.trans hb⟩
   ·have hown:=p13.out (he 13 (by kernel_rfl))
    have hfd:=he 13 (by kernel_rfl)
    clear he
    refine wpOp_plainK rfl rfl (fun K HK=>?_)
    dsimp only
    go_simp
    exact HK.out _ _ ⟨(fun kS=>if kS=14 then (v 108) else v kS),rfl,p0.out,p1.out,p2.out,p3.out,p4.out,p5.out,p6.out,p7.out,p8.out,p9.out,p10.out,p11.out,p12.out,p13.out,fun _=>hown,q2_4.out,q2_10.out,q2_12.out,q5_10.out,q5_12.out,q11_12.out,fun _=>hfd,d5_2.out,d11_5.out,d13_11.out,d5_4.out,d11_10.out,d13_12.out,hB.out⟩
  ·intro f a w hall hI
   obtain ⟨v,rfl,p0,p1,p2,p3,p4,p5,p6,p7,p8,p9,p10,p11,p12,p13,p14,q2_4,q2_10,q2_12,q5_10,q5_12,q11_12,d14_13,d5_2,d11_5,d13_11,d5_4,d11_10,d13_12,hB⟩:=hI
   have FIN:Hid (ownB w wy.heap.size (v 14) (l5.take 8 ++ chQ (IHDR,hd2) ++ chQ (IDAT,z5) ++ chQ (IEND,[]))∧Below wy.heap.size wy w):=(show _∧_ from ⟨p14 (hall 14 (by decide)),hB⟩)
   clear p0 p1 p2 p3 p4 p5 p6 p7 p8 p9 p10 p11 p12 p13 p14 q2_4 q2_10 q2_12 q5_10 q5_12 q11_12 d14_13 d5_2 d11_5 d13_11 d5_4 d11_10 d13_12 hB hall
   go_wp2_with fail
   go_meet
   case rel=>exact FIN.out
 case rest =>
 obtain ⟨ho14,hb14⟩:=hcut
 obtain ⟨A14,c14,rfl,hr14,hc14,-⟩:=ho14.form
 have HY:=Lib.hid hr14
 have HYC:=Lib.hid hc14
 have HA:=Lib.hid (HAc.out.later hb14)
 have HB:=Lib.hid (HBc.out.trans (hb14.mono hbc))
 have HR:=Lib.hid (RdB.later HRc.out hb14)
 have HD0:=Lib.hid (RdB.later HD0c.out hb14)
 have HQ':=Lib.hid (RdQ.later HQ.out hb14)
 have hbz:bk≤wc.heap.size:=Nat.le_trans hbc hb14.size
 clear HQ
 have HQ:=HQ'
 clear HQ'
 obtain ⟨Y,hY⟩:∃ Y,l5.take 8 ++ chQ (IHDR,hd2) ++ chQ (IDAT,z5) ++ chQ (IEND,[])=Y:=⟨_,rfl⟩
 rw [hY] at HY HYC
 (try rw [hY])
 have hcut1:=file_h8 HZ5.out
 have hyl:Y.length≤1000000:=by rw [← hY];simp only [List.length_append];have:=HLB.out;omega
 have hyf:Y=markL ++ flatQ [(IHDR,hd2),(IDAT,z5),(IEND,[])]:=by rw [← hY,hcut1,flat3]
 have HEY:Hid (∀ (w:World) A c,RdB w w.heap.size A Y.length Y→Y.length≤c→Calls Tryz.prog 12 #[.slice A Y.length c] w fun e w'=>∃ A9 n9 c9,e=.returned (.tuple #[.agg #[.int .i64 0,.int .i64 0,.int .i64 0,.int .i64 0,.slice A9 n9 c9],.int .i64 E])∧Below w.heap.size w w'):=(show ∀ w A c,_ from fun w A c h1 h2=>HDX.out z5 HPK5.out w A _ c (by rw [hyf] at h1;rw [hyf];exact h1) h2 hyl)
 have hE1:¬ E=0:=HE0.out
 have hE2:(E != 0)=true:=bne_iff_ne.2 HE0.out
 have hE3:(E == 0)=false:=beq_eq_false_iff_ne.2 HE0.out
 have hwD:=HWD.out
 clear hyf hyl hcut1 hY HDX ho14 hr14 hb14 hc14 HAc HBc HRc HD0c hbc HT1 HLB HZW HZ5 HPK5 HEN HX HZ1 HZP HNC2
 have a0:=HA.out.cell (k:=0) rfl
 have a1:=HA.out.cell (k:=1) rfl
 have a2:=HA.out.cell (k:=2) rfl
 have a3:=HA.out.cell (k:=3) rfl
 have a4:=HA.out.cell (k:=4) rfl
 generalize Y.length=yn at *
 go_wp2_with (first
  | (go_at_call 12;(with_reducible refine (HEY.out _ _ _ HY.out HYC.out).mono ?_);go_must (rintro e we ⟨A7,n7,c7,rfl,hb⟩;replace HA:=Lib.hid (HA.out.later hb);replace HB:=Lib.hid (HB.out.trans (hb.mono hbz));replace HR:=Lib.hid (RdB.later HR.out hb);replace hbz:=Nat.le_trans hbz hb.size;replace a0:=HA.out.cell (k:=0) rfl;replace a1:=HA.out.cell (k:=1) rfl;replace a2:=HA.out.cell (k:=2) rfl;replace a3:=HA.out.cell (k:=3) rfl;replace a4:=HA.out.cell (k:=4) rfl;replace HA:=Lib.hid (HA.out.alloc (.cells #[.int .i64 0,.int .i64 0,.int .i64 0,.int .i64 0,.slice A7 n7 c7] 39));replace HB:=Lib.hid (HB.out.alloc hbz (.cells #[.int .i64 0,.int .i64 0,.int .i64 0,.int .i64 0,.slice A7 n7 c7] 39));replace HR:=Lib.hid (rdB_al HR.out (.cells #[.int .i64 0,.int .i64 0,.int .i64 0,.int .i64 0,.slice A7 n7 c7] 39));replace HD0:=Lib.hid (rdB_al (RdB.later HD0.out hb) (.cells #[.int .i64 0,.int .i64 0,.int .i64 0,.int .i64 0,.slice A7 n7 c7] 39));replace HQ:=Lib.hid (RdQ.here (RdQ.alloc (RdQ.later HQ.out hb) (Nat.le_refl _) (.cells #[.int .i64 0,.int .i64 0,.int .i64 0,.int .i64 0,.slice A7 n7 c7] 39)));replace hbz:bk≤(we.alloc (.cells #[.int .i64 0,.int .i64 0,.int .i64 0,.int .i64 0,.slice A7 n7 c7] 39)).heap.size:=(by rw [World.size_alloc];omega);clear hb))
  | fail)
 obtain ⟨wt,hwt⟩:∃ wt,we.alloc (.cells #[.int .i64 0,.int .i64 0,.int .i64 0,.int .i64 0,.slice A7 n7 c7] 39)=wt:=⟨_,rfl⟩
 rw [hwt] at HA HB HR HD0 HQ hbz
 rw [hwt]
 clear hwt
 have hbk9:bk < wt.heap.size:=HA.out.lt
 obtain ⟨val,hval⟩:∃ val:Nat→Value,(fun i=>match i with | 0=>.bool true | 1=>.bool true | 2=>.int .i64 0 | 3=>.bool true | 4=>.bool true | 5=>.bool true | 6=>.int .i64 0 | 7=>.bool true | 8=>.bool true | 9=>.bool true | 10=>.int .i64 (W:Int) | 11=>.pointer (some ⟨bk,0,none⟩) | 12=>.pointer (some ⟨bk,0,none⟩) | 13=>.int .i64 (W:Int) | 14=>.bool true | 15=>.bool true | 16=>.bool true | 17=>.int .i64 (H:Int) | 18=>.pointer (some ⟨bk,0,none⟩) | 19=>.pointer (some ⟨bk,1,none⟩) | 20=>.int .i64 (H:Int) | 21=>.bool true | 22=>.bool true | 23=>.bool true | 24=>.slice (some ⟨bq,oq,none⟩) 3 c9 | 25=>.pointer (some ⟨bq,oq,none⟩) | 26=>.pointer (some ⟨bq,oq+1,none⟩) | 27=>.slice (some ⟨bh,oh,none⟩) 13 cc0 | 28=>.pointer (some ⟨bh,oh+8,none⟩) | 29=>.int .u8 (D:Int) | 30=>.int .i64 (D:Int) | 31=>.pointer (some ⟨bk,0,none⟩) | 32=>.pointer (some ⟨bk,3,none⟩) | 33=>.int .i64 (D:Int) | 34=>.bool true | 35=>.bool true | 36=>.bool true | 37=>.int .i64 E | 38=>.bool true | 39=>.bool true | 40=>.bool true | 41=>.slice (some ⟨bq,oq,none⟩) 3 c9 | 42=>.pointer (some ⟨bq,oq,none⟩) | 43=>.pointer (some ⟨bq,oq,none⟩) | 44=>.string ⟨#[73,72,68,82]⟩ | 45=>.bool true | 46=>.bool true | 47=>.bool true | 48=>.slice (some ⟨bq,oq,none⟩) 3 c9 | 49=>.pointer (some ⟨bq,oq+2,none⟩) | 50=>.pointer (some ⟨bq,oq+2,none⟩) | 51=>.string ⟨#[73,68,65,84]⟩ | 52=>.bool true | 53=>.bool true | 54=>.bool true | 55=>.slice (some ⟨bq,oq,none⟩) 3 c9 | 56=>.pointer (some ⟨bq,oq+4,none⟩) | 57=>.pointer (some ⟨bq,oq+4,none⟩) | 58=>.string ⟨#[73,69,78,68]⟩ | 59=>.bool true | 60=>.bool true | 61=>.bool true | _=>undef)=val:=⟨_,rfl⟩
 have hv:∀ i,val i=(fun i=>match i with | 0=>.bool true | 1=>.bool true | 2=>.int .i64 0 | 3=>.bool true | 4=>.bool true | 5=>.bool true | 6=>.int .i64 0 | 7=>.bool true | 8=>.bool true | 9=>.bool true | 10=>.int .i64 (W:Int) | 11=>.pointer (some ⟨bk,0,none⟩) | 12=>.pointer (some ⟨bk,0,none⟩) | 13=>.int .i64 (W:Int) | 14=>.bool true | 15=>.bool true | 16=>.bool true | 17=>.int .i64 (H:Int) | 18=>.pointer (some ⟨bk,0,none⟩) | 19=>.pointer (some ⟨bk,1,none⟩) | 20=>.int .i64 (H:Int) | 21=>.bool true | 22=>.bool true | 23=>.bool true | 24=>.slice (some ⟨bq,oq,none⟩) 3 c9 | 25=>.pointer (some ⟨bq,oq,none⟩) | 26=>.pointer (some ⟨bq,oq+1,none⟩) | 27=>.slice (some ⟨bh,oh,none⟩) 13 cc0 | 28=>.pointer (some ⟨bh,oh+8,none⟩) | 29=>.int .u8 (D:Int) | 30=>.int .i64 (D:Int) | 31=>.pointer (some ⟨bk,0,none⟩) | 32=>.pointer (some ⟨bk,3,none⟩) | 33=>.int .i64 (D:Int) | 34=>.bool true | 35=>.bool true | 36=>.bool true | 37=>.int .i64 E | 38=>.bool true | 39=>.bool true | 40=>.bool true | 41=>.slice (some ⟨bq,oq,none⟩) 3 c9 | 42=>.pointer (some ⟨bq,oq,none⟩) | 43=>.pointer (some ⟨bq,oq,none⟩) | 44=>.string ⟨#[73,72,68,82]⟩ | 45=>.bool true | 46=>.bool true | 47=>.bool true | 48=>.slice (some ⟨bq,oq,none⟩) 3 c9 | 49=>.pointer (some ⟨bq,oq+2,none⟩) | 50=>.pointer (some ⟨bq,oq+2,none⟩) | 51=>.string ⟨#[73,68,65,84]⟩ | 52=>.bool true | 53=>.bool true | 54=>.bool true | 55=>.slice (some ⟨bq,oq,none⟩) 3 c9 | 56=>.pointer (some ⟨bq,oq+4,none⟩) | 57=>.pointer (some ⟨bq,oq+4,none⟩) | 58=>.string ⟨#[73,69,78,68]⟩ | 59=>.bool true | 60=>.bool true | 61=>.bool true | _=>undef) i:=fun i=>by rw [hval]
 clear hval
 refine wp_region_inv2 (by kernel_rfl) (by kernel_rfl) (hedInv3 (fun v=>⟨#[.agg #[.int .i64 (W:Int),.int .i64 (H:Int),.int .i64 (C:Int),.int .i64 (D:Int),.slice A n c],.int .i64 (M:Int),.pointer (some ⟨bk,0,none⟩),undef,v 61,.slice (some ⟨g5,0,none⟩) n5 c5,.int .i64 0,.slice (some ⟨bq,oq,none⟩) 3 c9,.int .i64 0,.int .i64 (W:Int),.int .i64 0,.int .i64 (H:Int),.int .i64 0,.slice A13 13 c13,.slice A14 yn c14,.pointer (some ⟨we.heap.size,0,none⟩),.int .i64 E,u17,u18,u19,u20,u21,u22,u23,u24,u25,u26,u27,u28,u29,u30,u31,u32,u33,u34,u35,u36,u37,u38,u39,u40,u41,u42,u43,u44,u45,u46,u47,u48,u49,u50,u51,u52,u53,u54,u55,u56,u57,u58,u59,u60,u61,u62,u63,u64,u65,u66,u67,u68,u69,u70,u71,u72,u73,u74,u75,u76,u77,u78,u79,u80,u81,u82,u83,u84,u85,u86,u87,u88,u89,u90,u91,u92,u93,u94,u95,u96,u97,u98,u99,u100,u101,u102,u103,u104,u105,u106,u107,u108,.tuple #[.agg #[.int .i64 0,.int .i64 0,.int .i64 0,.int .i64 0,.slice A7 n7 c7],.int .i64 E],.slice A14 yn c14,.tuple #[.agg #[.int .i64 0,.int .i64 0,.int .i64 0,.int .i64 0,.slice A7 n7 c7],.int .i64 E],.agg #[.int .i64 0,.int .i64 0,.int .i64 0,.int .i64 0,.slice A7 n7 c7],.int .i64 E,v 0,v 1,v 2,v 3,v 4,v 5,v 6,v 7,v 8,v 9,v 10,v 11,v 12,v 13,v 14,v 15,v 16,v 17,v 18,v 19,v 20,v 21,v 22,v 23,v 24,v 25,v 26,v 27,v 28,v 29,v 30,v 31,v 32,v 33,v 34,v 35,v 36,v 37,v 38,v 39,v 40,v 41,v 42,v 43,v 44,v 45,v 46,v 47,v 48,v 49,v 50,v 51,v 52,v 53,v 54,v 55,v 56,v 57,v 58,v 59,v 60],[]⟩) val wt) ?_ ?_ ?_
 ·exact ⟨(fun i=>match i with | 0=>u114 | 1=>u115 | 2=>u116 | 3=>u117 | 4=>u118 | 5=>u119 | 6=>u120 | 7=>u121 | 8=>u122 | 9=>u123 | 10=>u124 | 11=>u125 | 12=>u126 | 13=>u127 | 14=>u128 | 15=>u129 | 16=>u130 | 17=>u131 | 18=>u132 | 19=>u133 | 20=>u134 | 21=>u135 | 22=>u136 | 23=>u137 | 24=>u138 | 25=>u139 | 26=>u140 | 27=>u141 | 28=>u142 | 29=>u143 | 30=>u144 | 31=>u145 | 32=>u146 | 33=>u147 | 34=>u148 | 35=>u149 | 36=>u150 | 37=>u151 | 38=>u152 | 39=>u153 | 40=>u154 | 41=>u155 | 42=>u156 | 43=>u157 | 44=>u158 | 45=>u159 | 46=>u160 | 47=>u161 | 48=>u162 | 49=>u163 | 50=>u164 | 51=>u165 | 52=>u166 | 53=>u167 | 54=>u168 | 55=>u169 | 56=>u170 | 57=>u171 | 58=>u172 | 59=>u173 | 60=>u174 | 61=>.bool false | _=>undef),rfl,(fun j h=>by cases h),(Below.refl _ _).drew⟩
 ·intro f a w i hi0 hf he hI
  have hi:i < 62:=hi0
  clear hi0
  obtain ⟨v,rfl,hV,hB⟩:=hI
  have hV:=Lib.hid hV
  have hi':i=0∨i=1∨i=2∨i=3∨i=4∨i=5∨i=6∨i=7∨i=8∨i=9∨i=10∨i=11∨i=12∨i=13∨i=14∨i=15∨i=16∨i=17∨i=18∨i=19∨i=20∨i=21∨i=22∨i=23∨i=24∨i=25∨i=26∨i=27∨i=28∨i=29∨i=30∨i=31∨i=32∨i=33∨i=34∨i=35∨i=36∨i=37∨i=38∨i=39∨i=40∨i=41∨i=42∨i=43∨i=44∨i=45∨i=46∨i=47∨i=48∨i=49∨i=50∨i=51∨i=52∨i=53∨i=54∨i=55∨i=56∨i=57∨i=58∨i=59∨i=60∨i=61:=by omega
  clear hi
  rcases hi' with rfl | rfl | rfl | rfl | rfl | rfl | rfl | rfl | rfl | rfl | rfl | rfl | rfl | rfl | rfl | rfl | rfl | rfl | rfl | rfl | rfl | rfl | rfl | rfl | rfl | rfl | rfl | rfl | rfl | rfl | rfl | rfl | rfl | rfl | rfl | rfl | rfl | rfl | rfl | rfl | rfl | rfl | rfl | rfl | rfl | rfl | rfl | rfl | rfl | rfl | rfl | rfl | rfl | rfl | rfl | rfl | rfl | rfl | rfl | rfl | rfl | rfl
  ·have hcall:=first13_any w
   clear he
   (try dsimp only)
   refine wpOp_wantK rfl (by rfl) (fun K HK=>?_)
   (try dsimp only)
   go_simp
   go_at_call 7
   (with_reducible refine hcall.mono ?_)
   rintro e w' ⟨rfl,hb⟩
   go_simp
   refine HK.out _ _ ⟨(fun j=>if j=0 then val 0 else v j),?_,okU (hV.out) 0,(hB.trans (hb.mono hB.size))⟩
   simp only [hv]
   rfl
  ·have r0:v 0=.bool true:=(hV.out 0 (he 0 (by kernel_rfl))).trans (hv 0)
   clear he
   (try dsimp only)
   rw [r0]
   clear r0
   refine wpOp_wantK rfl (by rfl) (fun K HK=>?_)
   (try dsimp only)
   go_simp
   refine HK.out _ _ ⟨(fun j=>if j=1 then val 1 else (fun j=>if j=0 then val 0 else v j) j),?_,okU (okD (hV.out) 0) 1,hB⟩
   simp only [hv]
   rfl
  ·have r1:v 1=.bool true:=(hV.out 1 (he 1 (by kernel_rfl))).trans (hv 1)
   clear he
   (try dsimp only)
   rw [r1]
   clear r1
   refine wpOp_wantK rfl (by rfl) (fun K HK=>?_)
   (try dsimp only)
   go_simp
   refine HK.out _ _ ⟨(fun j=>if j=2 then val 2 else (fun j=>if j=1 then val 1 else v j) j),?_,okU (okD (hV.out) 1) 2,hB⟩
   simp only [hv]
   rfl
  ·have r1:v 1=.bool true:=(hV.out 1 (he 1 (by kernel_rfl))).trans (hv 1)
   have r2:v 2=.int .i64 0:=(hV.out 2 (he 2 (by kernel_rfl))).trans (hv 2)
   clear he
   (try dsimp only)
   rw [r1,r2]
   clear r1 r2
   refine wpOp_wantK rfl (by rfl) (fun K HK=>?_)
   (try dsimp only)
   go_simp
   refine HK.out _ _ ⟨(fun j=>if j=3 then val 3 else (fun j=>if j=2 then val 2 else (fun j=>if j=1 then val 1 else v j) j) j),?_,okU (okD (okD (hV.out) 1) 2) 3,hB⟩
   simp only [hv]
   rfl
  ·have r1:v 1=.bool true:=(hV.out 1 (he 1 (by kernel_rfl))).trans (hv 1)
   have r3:v 3=.bool true:=(hV.out 3 (he 3 (by kernel_rfl))).trans (hv 3)
   clear he
   (try dsimp only)
   rw [r1,r3]
   clear r1 r3
   refine wpOp_wantK rfl (by rfl) (fun K HK=>?_)
   (try dsimp only)
   go_simp
   refine HK.out _ _ ⟨(fun j=>if j=4 then val 4 else (fun j=>if j=3 then val 3 else (fun j=>if j=1 then val 1 else v j) j) j),?_,okU (okD (okD (hV.out) 1) 3) 4,hB⟩
   simp only [hv]
   rfl
  ·have r4:v 4=.bool true:=(hV.out 4 (he 4 (by kernel_rfl))).trans (hv 4)
   clear he
   (try dsimp only)
   rw [r4]
   clear r4
   refine wpOp_wantK rfl (by rfl) (fun K HK=>?_)
   (try dsimp only)
   go_simp
   refine HK.out _ _ ⟨(fun j=>if j=5 then val 5 else (fun j=>if j=4 then val 4 else v j) j),?_,okU (okD (hV.out) 4) 5,hB⟩
   simp only [hv]
   rfl
  ·have r5:v 5=.bool true:=(hV.out 5 (he 5 (by kernel_rfl))).trans (hv 5)
   clear he
   (try dsimp only)
   rw [r5]
   clear r5
   refine wpOp_wantK rfl (by rfl) (fun K HK=>?_)
   (try dsimp only)
   go_simp
   refine HK.out _ _ ⟨(fun j=>if j=6 then val 6 else (fun j=>if j=5 then val 5 else v j) j),?_,okU (okD (hV.out) 5) 6,hB⟩
   simp only [hv]
   rfl
  ·have r5:v 5=.bool true:=(hV.out 5 (he 5 (by kernel_rfl))).trans (hv 5)
   have r6:v 6=.int .i64 0:=(hV.out 6 (he 6 (by kernel_rfl))).trans (hv 6)
   clear he
   (try dsimp only)
   rw [r5,r6]
   clear r5 r6
   refine wpOp_wantK rfl (by rfl) (fun K HK=>?_)
   (try dsimp only)
   go_simp
   refine HK.out _ _ ⟨(fun j=>if j=7 then val 7 else (fun j=>if j=6 then val 6 else (fun j=>if j=5 then val 5 else v j) j) j),?_,okU (okD (okD (hV.out) 5) 6) 7,hB⟩
   simp only [hv]
   rfl
  ·have r5:v 5=.bool true:=(hV.out 5 (he 5 (by kernel_rfl))).trans (hv 5)
   have r7:v 7=.bool true:=(hV.out 7 (he 7 (by kernel_rfl))).trans (hv 7)
   clear he
   (try dsimp only)
   rw [r5,r7]
   clear r5 r7
   refine wpOp_wantK rfl (by rfl) (fun K HK=>?_)
   (try dsimp only)
   go_simp
   refine HK.out _ _ ⟨(fun j=>if j=8 then val 8 else (fun j=>if j=7 then val 7 else (fun j=>if j=5 then val 5 else v j) j) j),?_,okU (okD (okD (hV.out) 5) 7) 8,hB⟩
   simp only [hv]
   rfl
  ·have r8:v 8=.bool true:=(hV.out 8 (he 8 (by kernel_rfl))).trans (hv 8)
   clear he
   (try dsimp only)
   rw [r8]
   clear r8
   refine wpOp_wantK rfl (by rfl) (fun K HK=>?_)
   (try dsimp only)
   go_simp
   refine HK.out _ _ ⟨(fun j=>if j=9 then val 9 else (fun j=>if j=8 then val 8 else v j) j),?_,okU (okD (hV.out) 8) 9,hB⟩
   simp only [hv]
   rfl
  ·have r9:v 9=.bool true:=(hV.out 9 (he 9 (by kernel_rfl))).trans (hv 9)
   clear he
   (try dsimp only)
   rw [r9]
   clear r9
   refine wpOp_wantK rfl (by rfl) (fun K HK=>?_)
   (try dsimp only)
   go_simp
   refine HK.out _ _ ⟨(fun j=>if j=10 then val 10 else (fun j=>if j=9 then val 9 else v j) j),?_,okU (okD (hV.out) 9) 10,hB⟩
   simp only [hv]
   rfl
  ·have r9:v 9=.bool true:=(hV.out 9 (he 9 (by kernel_rfl))).trans (hv 9)
   clear he
   (try dsimp only)
   rw [r9]
   clear r9
   refine wpOp_wantK rfl (by rfl) (fun K HK=>?_)
   (try dsimp only)
   go_simp
   refine HK.out _ _ ⟨(fun j=>if j=11 then val 11 else (fun j=>if j=9 then val 9 else v j) j),?_,okU (okD (hV.out) 9) 11,hB⟩
   simp only [hv]
   rfl
  ·have r9:v 9=.bool true:=(hV.out 9 (he 9 (by kernel_rfl))).trans (hv 9)
   have r11:v 11=.pointer (some ⟨bk,0,none⟩):=(hV.out 11 (he 11 (by kernel_rfl))).trans (hv 11)
   clear he
   (try dsimp only)
   rw [r9,r11]
   clear r9 r11
   refine wpOp_wantK rfl (by rfl) (fun K HK=>?_)
   (try dsimp only)
   go_simp
   refine HK.out _ _ ⟨(fun j=>if j=12 then val 12 else (fun j=>if j=11 then val 11 else (fun j=>if j=9 then val 9 else v j) j) j),?_,okU (okD (okD (hV.out) 9) 11) 12,hB⟩
   simp only [hv]
   rfl
  ·have r9:v 9=.bool true:=(hV.out 9 (he 9 (by kernel_rfl))).trans (hv 9)
   have r12:v 12=.pointer (some ⟨bk,0,none⟩):=(hV.out 12 (he 12 (by kernel_rfl))).trans (hv 12)
   have k1:=(Arr.blw HA.out hB hbk9).cell (k:=0) rfl
   clear he
   (try dsimp only)
   rw [r9,r12]
   clear r9 r12
   refine wpOp_wantK rfl (by rfl) (fun K HK=>?_)
   (try dsimp only)
   go_simp
   refine HK.out _ _ ⟨(fun j=>if j=13 then val 13 else (fun j=>if j=12 then val 12 else (fun j=>if j=9 then val 9 else v j) j) j),?_,okU (okD (okD (hV.out) 9) 12) 13,hB⟩
   simp only [hv]
   rfl
  ·have r9:v 9=.bool true:=(hV.out 9 (he 9 (by kernel_rfl))).trans (hv 9)
   have r10:v 10=.int .i64 (W:Int):=(hV.out 10 (he 10 (by kernel_rfl))).trans (hv 10)
   have r13:v 13=.int .i64 (W:Int):=(hV.out 13 (he 13 (by kernel_rfl))).trans (hv 13)
   clear he
   (try dsimp only)
   rw [r9,r10,r13]
   clear r9 r10 r13
   refine wpOp_wantK rfl (by rfl) (fun K HK=>?_)
   (try dsimp only)
   go_simp
   refine HK.out _ _ ⟨(fun j=>if j=14 then val 14 else (fun j=>if j=13 then val 13 else (fun j=>if j=10 then val 10 else (fun j=>if j=9 then val 9 else v j) j) j) j),?_,okU (okD (okD (okD (hV.out) 9) 10) 13) 14,hB⟩
   simp only [hv]
   rfl
  ·have r9:v 9=.bool true:=(hV.out 9 (he 9 (by kernel_rfl))).trans (hv 9)
   have r14:v 14=.bool true:=(hV.out 14 (he 14 (by kernel_rfl))).trans (hv 14)
   clear he
   (try dsimp only)
   rw [r9,r14]
   clear r9 r14
   refine wpOp_wantK rfl (by rfl) (fun K HK=>?_)
   (try dsimp only)
   go_simp
   refine HK.out _ _ ⟨(fun j=>if j=15 then val 15 else (fun j=>if j=14 then val 14 else (fun j=>if j=9 then val 9 else v j) j) j),?_,okU (okD (okD (hV.out) 9) 14) 15,hB⟩
   simp only [hv]
   rfl
  ·have r15:v 15=.bool true:=(hV.out 15 (he 15 (by kernel_rfl))).trans (hv 15)
   clear he
   (try dsimp only)
   rw [r15]
   clear r15
   refine wpOp_wantK rfl (by rfl) (fun K HK=>?_)
   (try dsimp only)
   go_simp
   refine HK.out _ _ ⟨(fun j=>if j=16 then val 16 else (fun j=>if j=15 then val 15 else v j) j),?_,okU (okD (hV.out) 15) 16,hB⟩
   simp only [hv]
   rfl
  ·have r16:v 16=.bool true:=(hV.out 16 (he 16 (by kernel_rfl))).trans (hv 16)
   clear he
   (try dsimp only)
   rw [r16]
   clear r16
   refine wpOp_wantK rfl (by rfl) (fun K HK=>?_)
   (try dsimp only)
   go_simp
   refine HK.out _ _ ⟨(fun j=>if j=17 then val 17 else (fun j=>if j=16 then val 16 else v j) j),?_,okU (okD (hV.out) 16) 17,hB⟩
   simp only [hv]
   rfl
  ·have r16:v 16=.bool true:=(hV.out 16 (he 16 (by kernel_rfl))).trans (hv 16)
   clear he
   (try dsimp only)
   rw [r16]
   clear r16
   refine wpOp_wantK rfl (by rfl) (fun K HK=>?_)
   (try dsimp only)
   go_simp
   refine HK.out _ _ ⟨(fun j=>if j=18 then val 18 else (fun j=>if j=16 then val 16 else v j) j),?_,okU (okD (hV.out) 16) 18,hB⟩
   simp only [hv]
   rfl
  ·have r16:v 16=.bool true:=(hV.out 16 (he 16 (by kernel_rfl))).trans (hv 16)
   have r18:v 18=.pointer (some ⟨bk,0,none⟩):=(hV.out 18 (he 18 (by kernel_rfl))).trans (hv 18)
   clear he
   (try dsimp only)
   rw [r16,r18]
   clear r16 r18
   refine wpOp_wantK rfl (by rfl) (fun K HK=>?_)
   (try dsimp only)
   go_simp
   refine HK.out _ _ ⟨(fun j=>if j=19 then val 19 else (fun j=>if j=18 then val 18 else (fun j=>if j=16 then val 16 else v j) j) j),?_,okU (okD (okD (hV.out) 16) 18) 19,hB⟩
   simp only [hv]
   rfl
  ·have r16:v 16=.bool true:=(hV.out 16 (he 16 (by kernel_rfl))).trans (hv 16)
   have r19:v 19=.pointer (some ⟨bk,1,none⟩):=(hV.out 19 (he 19 (by kernel_rfl))).trans (hv 19)
   have k1:=(Arr.blw HA.out hB hbk9).cell (k:=1) rfl
   clear he
   (try dsimp only)
   rw [r16,r19]
   clear r16 r19
   refine wpOp_wantK rfl (by rfl) (fun K HK=>?_)
   (try dsimp only)
   go_simp
   refine HK.out _ _ ⟨(fun j=>if j=20 then val 20 else (fun j=>if j=19 then val 19 else (fun j=>if j=16 then val 16 else v j) j) j),?_,okU (okD (okD (hV.out) 16) 19) 20,hB⟩
   simp only [hv]
   rfl
  ·have r16:v 16=.bool true:=(hV.out 16 (he 16 (by kernel_rfl))).trans (hv 16)
   have r17:v 17=.int .i64 (H:Int):=(hV.out 17 (he 17 (by kernel_rfl))).trans (hv 17)
   have r20:v 20=.int .i64 (H:Int):=(hV.out 20 (he 20 (by kernel_rfl))).trans (hv 20)
   clear he
   (try dsimp only)
   rw [r16,r17,r20]
   clear r16 r17 r20
   refine wpOp_wantK rfl (by rfl) (fun K HK=>?_)
   (try dsimp only)
   go_simp
   refine HK.out _ _ ⟨(fun j=>if j=21 then val 21 else (fun j=>if j=20 then val 20 else (fun j=>if j=17 then val 17 else (fun j=>if j=16 then val 16 else v j) j) j) j),?_,okU (okD (okD (okD (hV.out) 16) 17) 20) 21,hB⟩
   simp only [hv]
   rfl
  ·have r16:v 16=.bool true:=(hV.out 16 (he 16 (by kernel_rfl))).trans (hv 16)
   have r21:v 21=.bool true:=(hV.out 21 (he 21 (by kernel_rfl))).trans (hv 21)
   clear he
   (try dsimp only)
   rw [r16,r21]
   clear r16 r21
   refine wpOp_wantK rfl (by rfl) (fun K HK=>?_)
   (try dsimp only)
   go_simp
   refine HK.out _ _ ⟨(fun j=>if j=22 then val 22 else (fun j=>if j=21 then val 21 else (fun j=>if j=16 then val 16 else v j) j) j),?_,okU (okD (okD (hV.out) 16) 21) 22,hB⟩
   simp only [hv]
   rfl
  ·have r22:v 22=.bool true:=(hV.out 22 (he 22 (by kernel_rfl))).trans (hv 22)
   clear he
   (try dsimp only)
   rw [r22]
   clear r22
   refine wpOp_wantK rfl (by rfl) (fun K HK=>?_)
   (try dsimp only)
   go_simp
   refine HK.out _ _ ⟨(fun j=>if j=23 then val 23 else (fun j=>if j=22 then val 22 else v j) j),?_,okU (okD (hV.out) 22) 23,hB⟩
   simp only [hv]
   rfl
  ·have r23:v 23=.bool true:=(hV.out 23 (he 23 (by kernel_rfl))).trans (hv 23)
   clear he
   (try dsimp only)
   rw [r23]
   clear r23
   refine wpOp_wantK rfl (by rfl) (fun K HK=>?_)
   (try dsimp only)
   go_simp
   refine HK.out _ _ ⟨(fun j=>if j=24 then val 24 else (fun j=>if j=23 then val 23 else v j) j),?_,okU (okD (hV.out) 23) 24,hB⟩
   simp only [hv]
   rfl
  ·have r23:v 23=.bool true:=(hV.out 23 (he 23 (by kernel_rfl))).trans (hv 23)
   have r24:v 24=.slice (some ⟨bq,oq,none⟩) 3 c9:=(hV.out 24 (he 24 (by kernel_rfl))).trans (hv 24)
   clear he
   (try dsimp only)
   rw [r23,r24]
   clear r23 r24
   refine wpOp_wantK rfl (by rfl) (fun K HK=>?_)
   (try dsimp only)
   go_simp
   refine HK.out _ _ ⟨(fun j=>if j=25 then val 25 else (fun j=>if j=24 then val 24 else (fun j=>if j=23 then val 23 else v j) j) j),?_,okU (okD (okD (hV.out) 23) 24) 25,hB⟩
   simp only [hv]
   rfl
  ·have r23:v 23=.bool true:=(hV.out 23 (he 23 (by kernel_rfl))).trans (hv 23)
   have r25:v 25=.pointer (some ⟨bq,oq,none⟩):=(hV.out 25 (he 25 (by kernel_rfl))).trans (hv 25)
   clear he
   (try dsimp only)
   rw [r23,r25]
   clear r23 r25
   refine wpOp_wantK rfl (by rfl) (fun K HK=>?_)
   (try dsimp only)
   go_simp
   refine HK.out _ _ ⟨(fun j=>if j=26 then val 26 else (fun j=>if j=25 then val 25 else (fun j=>if j=23 then val 23 else v j) j) j),?_,okU (okD (okD (hV.out) 23) 25) 26,hB⟩
   simp only [hv]
   rfl
  ·have r23:v 23=.bool true:=(hV.out 23 (he 23 (by kernel_rfl))).trans (hv 23)
   have r26:v 26=.pointer (some ⟨bq,oq+1,none⟩):=(hV.out 26 (he 26 (by kernel_rfl))).trans (hv 26)
   have k1:=(heads_cells (RdQ.blw HQ.out hB) HL0.out HL1.out HL2.out).2.1
   clear he
   (try dsimp only)
   rw [r23,r26]
   clear r23 r26
   refine wpOp_wantK rfl (by rfl) (fun K HK=>?_)
   (try dsimp only)
   go_simp
   refine HK.out _ _ ⟨(fun j=>if j=27 then val 27 else (fun j=>if j=26 then val 26 else (fun j=>if j=23 then val 23 else v j) j) j),?_,okU (okD (okD (hV.out) 23) 26) 27,hB⟩
   simp only [hv]
   rfl
  ·have r23:v 23=.bool true:=(hV.out 23 (he 23 (by kernel_rfl))).trans (hv 23)
   have r27:v 27=.slice (some ⟨bh,oh,none⟩) 13 cc0:=(hV.out 27 (he 27 (by kernel_rfl))).trans (hv 27)
   clear he
   (try dsimp only)
   rw [r23,r27]
   clear r23 r27
   refine wpOp_wantK rfl (by rfl) (fun K HK=>?_)
   (try dsimp only)
   go_simp
   refine HK.out _ _ ⟨(fun j=>if j=28 then val 28 else (fun j=>if j=27 then val 27 else (fun j=>if j=23 then val 23 else v j) j) j),?_,okU (okD (okD (hV.out) 23) 27) 28,hB⟩
   simp only [hv]
   rfl
  ·have r23:v 23=.bool true:=(hV.out 23 (he 23 (by kernel_rfl))).trans (hv 23)
   have r28:v 28=.pointer (some ⟨bh,oh+8,none⟩):=(hV.out 28 (he 28 (by kernel_rfl))).trans (hv 28)
   have k1:=HDP.out _ _ _ _ (RdB.blw HD0.out hB)
   clear he
   (try dsimp only)
   rw [r23,r28]
   clear r23 r28
   refine wpOp_wantK rfl (by rfl) (fun K HK=>?_)
   (try dsimp only)
   go_simp
   refine HK.out _ _ ⟨(fun j=>if j=29 then val 29 else (fun j=>if j=28 then val 28 else (fun j=>if j=23 then val 23 else v j) j) j),?_,okU (okD (okD (hV.out) 23) 28) 29,hB⟩
   simp only [hv]
   rfl
  ·have r23:v 23=.bool true:=(hV.out 23 (he 23 (by kernel_rfl))).trans (hv 23)
   have r29:v 29=.int .u8 (D:Int):=(hV.out 29 (he 29 (by kernel_rfl))).trans (hv 29)
   have k1:=hwD
   clear he
   (try dsimp only)
   rw [r23,r29]
   clear r23 r29
   refine wpOp_wantK rfl (by rfl) (fun K HK=>?_)
   (try dsimp only)
   go_simp
   refine HK.out _ _ ⟨(fun j=>if j=30 then val 30 else (fun j=>if j=29 then val 29 else (fun j=>if j=23 then val 23 else v j) j) j),?_,okU (okD (okD (hV.out) 23) 29) 30,hB⟩
   simp only [hv]
   rfl
  ·have r23:v 23=.bool true:=(hV.out 23 (he 23 (by kernel_rfl))).trans (hv 23)
   clear he
   (try dsimp only)
   rw [r23]
   clear r23
   refine wpOp_wantK rfl (by rfl) (fun K HK=>?_)
   (try dsimp only)
   go_simp
   refine HK.out _ _ ⟨(fun j=>if j=31 then val 31 else (fun j=>if j=23 then val 23 else v j) j),?_,okU (okD (hV.out) 23) 31,hB⟩
   simp only [hv]
   rfl
  ·have r23:v 23=.bool true:=(hV.out 23 (he 23 (by kernel_rfl))).trans (hv 23)
   have r31:v 31=.pointer (some ⟨bk,0,none⟩):=(hV.out 31 (he 31 (by kernel_rfl))).trans (hv 31)
   clear he
   (try dsimp only)
   rw [r23,r31]
   clear r23 r31
   refine wpOp_wantK rfl (by rfl) (fun K HK=>?_)
   (try dsimp only)
   go_simp
   refine HK.out _ _ ⟨(fun j=>if j=32 then val 32 else (fun j=>if j=31 then val 31 else (fun j=>if j=23 then val 23 else v j) j) j),?_,okU (okD (okD (hV.out) 23) 31) 32,hB⟩
   simp only [hv]
   rfl
  ·have r23:v 23=.bool true:=(hV.out 23 (he 23 (by kernel_rfl))).trans (hv 23)
   have r32:v 32=.pointer (some ⟨bk,3,none⟩):=(hV.out 32 (he 32 (by kernel_rfl))).trans (hv 32)
   have k1:=(Arr.blw HA.out hB hbk9).cell (k:=3) rfl
   clear he
   (try dsimp only)
   rw [r23,r32]
   clear r23 r32
   refine wpOp_wantK rfl (by rfl) (fun K HK=>?_)
   (try dsimp only)
   go_simp
   refine HK.out _ _ ⟨(fun j=>if j=33 then val 33 else (fun j=>if j=32 then val 32 else (fun j=>if j=23 then val 23 else v j) j) j),?_,okU (okD (okD (hV.out) 23) 32) 33,hB⟩
   simp only [hv]
   rfl
  ·have r23:v 23=.bool true:=(hV.out 23 (he 23 (by kernel_rfl))).trans (hv 23)
   have r30:v 30=.int .i64 (D:Int):=(hV.out 30 (he 30 (by kernel_rfl))).trans (hv 30)
   have r33:v 33=.int .i64 (D:Int):=(hV.out 33 (he 33 (by kernel_rfl))).trans (hv 33)
   clear he
   (try dsimp only)
   rw [r23,r30,r33]
   clear r23 r30 r33
   refine wpOp_wantK rfl (by rfl) (fun K HK=>?_)
   (try dsimp only)
   go_simp
   refine HK.out _ _ ⟨(fun j=>if j=34 then val 34 else (fun j=>if j=33 then val 33 else (fun j=>if j=30 then val 30 else (fun j=>if j=23 then val 23 else v j) j) j) j),?_,okU (okD (okD (okD (hV.out) 23) 30) 33) 34,hB⟩
   simp only [hv]
   rfl
  ·have r23:v 23=.bool true:=(hV.out 23 (he 23 (by kernel_rfl))).trans (hv 23)
   have r34:v 34=.bool true:=(hV.out 34 (he 34 (by kernel_rfl))).trans (hv 34)
   clear he
   (try dsimp only)
   rw [r23,r34]
   clear r23 r34
   refine wpOp_wantK rfl (by rfl) (fun K HK=>?_)
   (try dsimp only)
   go_simp
   refine HK.out _ _ ⟨(fun j=>if j=35 then val 35 else (fun j=>if j=34 then val 34 else (fun j=>if j=23 then val 23 else v j) j) j),?_,okU (okD (okD (hV.out) 23) 34) 35,hB⟩
   simp only [hv]
   rfl
  ·have r35:v 35=.bool true:=(hV.out 35 (he 35 (by kernel_rfl))).trans (hv 35)
   clear he
   (try dsimp only)
   rw [r35]
   clear r35
   refine wpOp_wantK rfl (by rfl) (fun K HK=>?_)
   (try dsimp only)
   go_simp
   refine HK.out _ _ ⟨(fun j=>if j=36 then val 36 else (fun j=>if j=35 then val 35 else v j) j),?_,okU (okD (hV.out) 35) 36,hB⟩
   simp only [hv]
   rfl
  ·have r36:v 36=.bool true:=(hV.out 36 (he 36 (by kernel_rfl))).trans (hv 36)
   clear he
   (try dsimp only)
   rw [r36]
   clear r36
   refine wpOp_wantK rfl (by rfl) (fun K HK=>?_)
   (try dsimp only)
   go_simp
   refine HK.out _ _ ⟨(fun j=>if j=37 then val 37 else (fun j=>if j=36 then val 36 else v j) j),?_,okU (okD (hV.out) 36) 37,hB⟩
   simp only [hv]
   rfl
  ·have r36:v 36=.bool true:=(hV.out 36 (he 36 (by kernel_rfl))).trans (hv 36)
   have r37:v 37=.int .i64 E:=(hV.out 37 (he 37 (by kernel_rfl))).trans (hv 37)
   clear he
   (try dsimp only)
   rw [r36,r37]
   clear r36 r37
   refine wpOp_wantK rfl (by rfl) (fun K HK=>?_)
   (try dsimp only)
   go_simp
   refine HK.out _ _ ⟨(fun j=>if j=38 then val 38 else (fun j=>if j=37 then val 37 else (fun j=>if j=36 then val 36 else v j) j) j),?_,okU (okD (okD (hV.out) 36) 37) 38,hB⟩
   simp only [hv]
   rfl
  ·have r36:v 36=.bool true:=(hV.out 36 (he 36 (by kernel_rfl))).trans (hv 36)
   have r38:v 38=.bool true:=(hV.out 38 (he 38 (by kernel_rfl))).trans (hv 38)
   clear he
   (try dsimp only)
   rw [r36,r38]
   clear r36 r38
   refine wpOp_wantK rfl (by rfl) (fun K HK=>?_)
   (try dsimp only)
   go_simp
   refine HK.out _ _ ⟨(fun j=>if j=39 then val 39 else (fun j=>if j=38 then val 38 else (fun j=>if j=36 then val 36 else v j) j) j),?_,okU (okD (okD (hV.out) 36) 38) 39,hB⟩
   simp only [hv]
   rfl
  ·have r39:v 39=.bool true:=(hV.out 39 (he 39 (by kernel_rfl))).trans (hv 39)
   clear he
   (try dsimp only)
   rw [r39]
   clear r39
   refine wpOp_wantK rfl (by rfl) (fun K HK=>?_)
   (try dsimp only)
   go_simp
   refine HK.out _ _ ⟨(fun j=>if j=40 then val 40 else (fun j=>if j=39 then val 39 else v j) j),?_,okU (okD (hV.out) 39) 40,hB⟩
   simp only [hv]
   rfl
  ·have r40:v 40=.bool true:=(hV.out 40 (he 40 (by kernel_rfl))).trans (hv 40)
   clear he
   (try dsimp only)
   rw [r40]
   clear r40
   refine wpOp_wantK rfl (by rfl) (fun K HK=>?_)
   (try dsimp only)
   go_simp
   refine HK.out _ _ ⟨(fun j=>if j=41 then val 41 else (fun j=>if j=40 then val 40 else v j) j),?_,okU (okD (hV.out) 40) 41,hB⟩
   simp only [hv]
   rfl
  ·have r40:v 40=.bool true:=(hV.out 40 (he 40 (by kernel_rfl))).trans (hv 40)
   have r41:v 41=.slice (some ⟨bq,oq,none⟩) 3 c9:=(hV.out 41 (he 41 (by kernel_rfl))).trans (hv 41)
   clear he
   (try dsimp only)
   rw [r40,r41]
   clear r40 r41
   refine wpOp_wantK rfl (by rfl) (fun K HK=>?_)
   (try dsimp only)
   go_simp
   refine HK.out _ _ ⟨(fun j=>if j=42 then val 42 else (fun j=>if j=41 then val 41 else (fun j=>if j=40 then val 40 else v j) j) j),?_,okU (okD (okD (hV.out) 40) 41) 42,hB⟩
   simp only [hv]
   rfl
  ·have r40:v 40=.bool true:=(hV.out 40 (he 40 (by kernel_rfl))).trans (hv 40)
   have r42:v 42=.pointer (some ⟨bq,oq,none⟩):=(hV.out 42 (he 42 (by kernel_rfl))).trans (hv 42)
   clear he
   (try dsimp only)
   rw [r40,r42]
   clear r40 r42
   refine wpOp_wantK rfl (by rfl) (fun K HK=>?_)
   (try dsimp only)
   go_simp
   refine HK.out _ _ ⟨(fun j=>if j=43 then val 43 else (fun j=>if j=42 then val 42 else (fun j=>if j=40 then val 40 else v j) j) j),?_,okU (okD (okD (hV.out) 40) 42) 43,hB⟩
   simp only [hv]
   rfl
  ·have r40:v 40=.bool true:=(hV.out 40 (he 40 (by kernel_rfl))).trans (hv 40)
   have r43:v 43=.pointer (some ⟨bq,oq,none⟩):=(hV.out 43 (he 43 (by kernel_rfl))).trans (hv 43)
   have k1:=(heads_cells (RdQ.blw HQ.out hB) HL0.out HL1.out HL2.out).1
   clear he
   (try dsimp only)
   rw [r40,r43]
   clear r40 r43
   refine wpOp_wantK rfl (by rfl) (fun K HK=>?_)
   (try dsimp only)
   go_simp
   refine HK.out _ _ ⟨(fun j=>if j=44 then val 44 else (fun j=>if j=43 then val 43 else (fun j=>if j=40 then val 40 else v j) j) j),?_,okU (okD (okD (hV.out) 40) 43) 44,hB⟩
   simp only [hv]
   rfl
  ·have r40:v 40=.bool true:=(hV.out 40 (he 40 (by kernel_rfl))).trans (hv 40)
   have r44:v 44=.string ⟨#[73,72,68,82]⟩:=(hV.out 44 (he 44 (by kernel_rfl))).trans (hv 44)
   clear he
   (try dsimp only)
   rw [r40,r44]
   clear r40 r44
   refine wpOp_wantK rfl (by rfl) (fun K HK=>?_)
   (try dsimp only)
   go_simp
   refine HK.out _ _ ⟨(fun j=>if j=45 then val 45 else (fun j=>if j=44 then val 44 else (fun j=>if j=40 then val 40 else v j) j) j),?_,okU (okD (okD (hV.out) 40) 44) 45,hB⟩
   simp only [hv]
   rfl
  ·have r40:v 40=.bool true:=(hV.out 40 (he 40 (by kernel_rfl))).trans (hv 40)
   have r45:v 45=.bool true:=(hV.out 45 (he 45 (by kernel_rfl))).trans (hv 45)
   clear he
   (try dsimp only)
   rw [r40,r45]
   clear r40 r45
   refine wpOp_wantK rfl (by rfl) (fun K HK=>?_)
   (try dsimp only)
   go_simp
   refine HK.out _ _ ⟨(fun j=>if j=46 then val 46 else (fun j=>if j=45 then val 45 else (fun j=>if j=40 then val 40 else v j) j) j),?_,okU (okD (okD (hV.out) 40) 45) 46,hB⟩
   simp only [hv]
   rfl
  ·have r46:v 46=.bool true:=(hV.out 46 (he 46 (by kernel_rfl))).trans (hv 46)
   clear he
   (try dsimp only)
   rw [r46]
   clear r46
   refine wpOp_wantK rfl (by rfl) (fun K HK=>?_)
   (try dsimp only)
   go_simp
   refine HK.out _ _ ⟨(fun j=>if j=47 then val 47 else (fun j=>if j=46 then val 46 else v j) j),?_,okU (okD (hV.out) 46) 47,hB⟩
   simp only [hv]
   rfl
  ·have r47:v 47=.bool true:=(hV.out 47 (he 47 (by kernel_rfl))).trans (hv 47)
   clear he
   (try dsimp only)
   rw [r47]
   clear r47
   refine wpOp_wantK rfl (by rfl) (fun K HK=>?_)
   (try dsimp only)
   go_simp
   refine HK.out _ _ ⟨(fun j=>if j=48 then val 48 else (fun j=>if j=47 then val 47 else v j) j),?_,okU (okD (hV.out) 47) 48,hB⟩
   simp only [hv]
   rfl
  ·have r47:v 47=.bool true:=(hV.out 47 (he 47 (by kernel_rfl))).trans (hv 47)
   have r48:v 48=.slice (some ⟨bq,oq,none⟩) 3 c9:=(hV.out 48 (he 48 (by kernel_rfl))).trans (hv 48)
   clear he
   (try dsimp only)
   rw [r47,r48]
   clear r47 r48
   refine wpOp_wantK rfl (by rfl) (fun K HK=>?_)
   (try dsimp only)
   go_simp
   refine HK.out _ _ ⟨(fun j=>if j=49 then val 49 else (fun j=>if j=48 then val 48 else (fun j=>if j=47 then val 47 else v j) j) j),?_,okU (okD (okD (hV.out) 47) 48) 49,hB⟩
   simp only [hv]
   rfl
  ·have r47:v 47=.bool true:=(hV.out 47 (he 47 (by kernel_rfl))).trans (hv 47)
   have r49:v 49=.pointer (some ⟨bq,oq+2,none⟩):=(hV.out 49 (he 49 (by kernel_rfl))).trans (hv 49)
   clear he
   (try dsimp only)
   rw [r47,r49]
   clear r47 r49
   refine wpOp_wantK rfl (by rfl) (fun K HK=>?_)
   (try dsimp only)
   go_simp
   refine HK.out _ _ ⟨(fun j=>if j=50 then val 50 else (fun j=>if j=49 then val 49 else (fun j=>if j=47 then val 47 else v j) j) j),?_,okU (okD (okD (hV.out) 47) 49) 50,hB⟩
   simp only [hv]
   rfl
  ·have r47:v 47=.bool true:=(hV.out 47 (he 47 (by kernel_rfl))).trans (hv 47)
   have r50:v 50=.pointer (some ⟨bq,oq+2,none⟩):=(hV.out 50 (he 50 (by kernel_rfl))).trans (hv 50)
   have k1:=(heads_cells (RdQ.blw HQ.out hB) HL0.out HL1.out HL2.out).2.2.1
   clear he
   (try dsimp only)
   rw [r47,r50]
   clear r47 r50
   refine wpOp_wantK rfl (by rfl) (fun K HK=>?_)
   (try dsimp only)
   go_simp
   refine HK.out _ _ ⟨(fun j=>if j=51 then val 51 else (fun j=>if j=50 then val 50 else (fun j=>if j=47 then val 47 else v j) j) j),?_,okU (okD (okD (hV.out) 47) 50) 51,hB⟩
   simp only [hv]
   rfl
  ·have r47:v 47=.bool true:=(hV.out 47 (he 47 (by kernel_rfl))).trans (hv 47)
   have r51:v 51=.string ⟨#[73,68,65,84]⟩:=(hV.out 51 (he 51 (by kernel_rfl))).trans (hv 51)
   clear he
   (try dsimp only)
   rw [r47,r51]
   clear r47 r51
   refine wpOp_wantK rfl (by rfl) (fun K HK=>?_)
   (try dsimp only)
   go_simp
   refine HK.out _ _ ⟨(fun j=>if j=52 then val 52 else (fun j=>if j=51 then val 51 else (fun j=>if j=47 then val 47 else v j) j) j),?_,okU (okD (okD (hV.out) 47) 51) 52,hB⟩
   simp only [hv]
   rfl
  ·have r47:v 47=.bool true:=(hV.out 47 (he 47 (by kernel_rfl))).trans (hv 47)
   have r52:v 52=.bool true:=(hV.out 52 (he 52 (by kernel_rfl))).trans (hv 52)
   clear he
   (try dsimp only)
   rw [r47,r52]
   clear r47 r52
   refine wpOp_wantK rfl (by rfl) (fun K HK=>?_)
   (try dsimp only)
   go_simp
   refine HK.out _ _ ⟨(fun j=>if j=53 then val 53 else (fun j=>if j=52 then val 52 else (fun j=>if j=47 then val 47 else v j) j) j),?_,okU (okD (okD (hV.out) 47) 52) 53,hB⟩
   simp only [hv]
   rfl
  ·have r53:v 53=.bool true:=(hV.out 53 (he 53 (by kernel_rfl))).trans (hv 53)
   clear he
   (try dsimp only)
   rw [r53]
   clear r53
   refine wpOp_wantK rfl (by rfl) (fun K HK=>?_)
   (try dsimp only)
   go_simp
   refine HK.out _ _ ⟨(fun j=>if j=54 then val 54 else (fun j=>if j=53 then val 53 else v j) j),?_,okU (okD (hV.out) 53) 54,hB⟩
   simp only [hv]
   rfl
  ·have r54:v 54=.bool true:=(hV.out 54 (he 54 (by kernel_rfl))).trans (hv 54)
   clear he
   (try dsimp only)
   rw [r54]
   clear r54
   refine wpOp_wantK rfl (by rfl) (fun K HK=>?_)
   (try dsimp only)
   go_simp
   refine HK.out _ _ ⟨(fun j=>if j=55 then val 55 else (fun j=>if j=54 then val 54 else v j) j),?_,okU (okD (hV.out) 54) 55,hB⟩
   simp only [hv]
   rfl
  ·have r54:v 54=.bool true:=(hV.out 54 (he 54 (by kernel_rfl))).trans (hv 54)
   have r55:v 55=.slice (some ⟨bq,oq,none⟩) 3 c9:=(hV.out 55 (he 55 (by kernel_rfl))).trans (hv 55)
   clear he
   (try dsimp only)
   rw [r54,r55]
   clear r54 r55
   refine wpOp_wantK rfl (by rfl) (fun K HK=>?_)
   (try dsimp only)
   go_simp
   refine HK.out _ _ ⟨(fun j=>if j=56 then val 56 else (fun j=>if j=55 then val 55 else (fun j=>if j=54 then val 54 else v j) j) j),?_,okU (okD (okD (hV.out) 54) 55) 56,hB⟩
   simp only [hv]
   rfl
  ·have r54:v 54=.bool true:=(hV.out 54 (he 54 (by kernel_rfl))).trans (hv 54)
   have r56:v 56=.pointer (some ⟨bq,oq+4,none⟩):=(hV.out 56 (he 56 (by kernel_rfl))).trans (hv 56)
   clear he
   (try dsimp only)
   rw [r54,r56]
   clear r54 r56
   refine wpOp_wantK rfl (by rfl) (fun K HK=>?_)
   (try dsimp only)
   go_simp
   refine HK.out _ _ ⟨(fun j=>if j=57 then val 57 else (fun j=>if j=56 then val 56 else (fun j=>if j=54 then val 54 else v j) j) j),?_,okU (okD (okD (hV.out) 54) 56) 57,hB⟩
   simp only [hv]
   rfl
  ·have r54:v 54=.bool true:=(hV.out 54 (he 54 (by kernel_rfl))).trans (hv 54)
   have r57:v 57=.pointer (some ⟨bq,oq+4,none⟩):=(hV.out 57 (he 57 (by kernel_rfl))).trans (hv 57)
   have k1:=(heads_cells (RdQ.blw HQ.out hB) HL0.out HL1.out HL2.out).2.2.2.2
   clear he
   (try dsimp only)
   rw [r54,r57]
   clear r54 r57
   refine wpOp_wantK rfl (by rfl) (fun K HK=>?_)
   (try dsimp only)
   go_simp
   refine HK.out _ _ ⟨(fun j=>if j=58 then val 58 else (fun j=>if j=57 then val 57 else (fun j=>if j=54 then val 54 else v j) j) j),?_,okU (okD (okD (hV.out) 54) 57) 58,hB⟩
   simp only [hv]
   rfl
  ·have r54:v 54=.bool true:=(hV.out 54 (he 54 (by kernel_rfl))).trans (hv 54)
   have r58:v 58=.string ⟨#[73,69,78,68]⟩:=(hV.out 58 (he 58 (by kernel_rfl))).trans (hv 58)
   clear he
   (try dsimp only)
   rw [r54,r58]
   clear r54 r58
   refine wpOp_wantK rfl (by rfl) (fun K HK=>?_)
   (try dsimp only)
   go_simp
   refine HK.out _ _ ⟨(fun j=>if j=59 then val 59 else (fun j=>if j=58 then val 58 else (fun j=>if j=54 then val 54 else v j) j) j),?_,okU (okD (okD (hV.out) 54) 58) 59,hB⟩
   simp only [hv]
   rfl
  ·have r54:v 54=.bool true:=(hV.out 54 (he 54 (by kernel_rfl))).trans (hv 54)
   have r59:v 59=.bool true:=(hV.out 59 (he 59 (by kernel_rfl))).trans (hv 59)
   clear he
   (try dsimp only)
   rw [r54,r59]
   clear r54 r59
   refine wpOp_wantK rfl (by rfl) (fun K HK=>?_)
   (try dsimp only)
   go_simp
   refine HK.out _ _ ⟨(fun j=>if j=60 then val 60 else (fun j=>if j=59 then val 59 else (fun j=>if j=54 then val 54 else v j) j) j),?_,okU (okD (okD (hV.out) 54) 59) 60,hB⟩
   simp only [hv]
   rfl
  ·have r60:v 60=.bool true:=(hV.out 60 (he 60 (by kernel_rfl))).trans (hv 60)
   clear he
   (try dsimp only)
   rw [r60]
   clear r60
   refine wpOp_wantK rfl (by rfl) (fun K HK=>?_)
   (try dsimp only)
   go_simp
   refine HK.out _ _ ⟨(fun j=>if j=61 then val 61 else (fun j=>if j=60 then val 60 else v j) j),?_,okU (okD (hV.out) 60) 61,hB⟩
   simp only [hv]
   rfl
 ·intro f a w hall hI
  obtain ⟨v,rfl,hV,hB⟩:=hI
  have e61:v 61=.bool true:=(hV 61 (hall 61 (by decide))).trans (hv 61)
  have FIN:=Lib.hid (HB.out.trans (hB.mono hbz))
  dsimp only
  rw [e61]
  clear hV e61 hall
  go_wp2_with fail
  go_ret
  exact ⟨rfl,FIN.out⟩
end Go.Proofs.YtebbdifhiihfkaaGreatDoor

