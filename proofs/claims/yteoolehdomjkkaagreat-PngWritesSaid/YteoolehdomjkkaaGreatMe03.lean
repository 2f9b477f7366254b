/- XPix1 XPix2 -/
import Derived.Test.YteoolehdomjkkaaGreatMe02
import Derived.Deep.RegionHeld3
namespace Go.Proofs.YteoolehdomjkkaaGreat
set_option linter.all false
open Go.RowKit
theorem pret_bool {a b:Bool} (h:a=b):Ending.returned (.bool a)=.returned (.bool b):=by rw [h]
theorem pret_int {k:IntKind} {a b:Int} (h:a=b):Ending.returned (.int k a)=.returned (.int k b):=by rw [h]
/-- A shape. -/
structure Sh where
 w:Int
 h:Int
 c:Int
 d:Int
deriving DecidableEq
def Sh.v (s:Sh):Value:=.agg #[.int .i64 s.w,.int .i64 s.h,.int .i64 s.c,.int .i64 s.d]
/-- May a shape's numbers be? -/
def Sh.nums (s:Sh):Bool:=decide (1≤s.w) && decide (s.w≤256) && (decide (1≤s.h) && decide (s.h≤256)) && (decide (1≤s.c) && decide (s.c≤4)) && (decide (s.d=8) || decide (s.d=16))
theorem Sh.nums_iff (s:Sh):s.nums=true ↔ (1≤s.w∧s.w≤256)∧(1≤s.h∧s.h≤256)∧(1≤s.c∧s.c≤4)∧(s.d=8∨s.d=16):=by
 simp [Sh.nums,and_assoc]
def Sh.row (s:Sh):Int:=if s.nums then s.w * s.c * s.d / 8 else 0
def Sh.size (s:Sh):Int:=s.row * (if s.nums then s.h else 0)
def Sh.may (s:Sh):Bool:=s.nums && decide (s.size≤16384)
/-- Products that stay small. -/
theorem Sh.bounds (s:Sh) (h:s.nums=true):(1≤s.w * s.c∧s.w * s.c≤1024)∧(8≤s.w * s.c * s.d∧s.w * s.c * s.d≤16384)∧(1≤s.row∧s.row≤2048)∧(1≤s.row * s.h∧s.row * s.h≤524288):=by
 have hn:=(Sh.nums_iff s).1 h
 obtain ⟨⟨w1,w2⟩,⟨h1,h2⟩,⟨c1,c2⟩,hd⟩:=hn
 have a1:1 * 1≤s.w * s.c:=Int.mul_le_mul w1 c1 (by omega) (by omega)
 have a2:s.w * s.c≤256 * 4:=Int.mul_le_mul w2 c2 (by omega) (by omega)
 have b:8≤s.w * s.c * s.d∧s.w * s.c * s.d≤16384:=by rcases hd with e | e <;> rw [e] <;> omega
 have r:s.row=s.w * s.c * s.d / 8:=if_pos h
 have r1:1≤s.row:=by omega
 have r2:s.row≤2048:=by omega
 have d1:1 * 1≤s.row * s.h:=Int.mul_le_mul r1 h1 (by omega) (by omega)
 have d2:s.row * s.h≤2048 * 256:=Int.mul_le_mul r2 h2 (by omega) (by omega)
 exact ⟨⟨by omega,by omega⟩,b,⟨r1,r2⟩,by omega,by omega⟩
theorem wrapI (x:Int) (h0:-4611686018427387904≤x) (h1:x≤4611686018427387904):IntKind.i64.wrap x=x:=by
 simp [IntKind.wrap,IntKind.bits,IntKind.signed]
 omega
theorem cells4 {w w1:World} {a b c d:Value} {t:TypeId} {fr:Nat × Nat} {B:Nat} (hB:w.heap.size < B) (h:Below B (w.alloc (.cells #[a,b,c,d] t fr)) w1) :
  w1.cell? ⟨w.heap.size,0,none⟩=some a∧w1.cell? ⟨w.heap.size,1,none⟩=some b∧w1.cell? ⟨w.heap.size,2,none⟩=some c∧w1.cell? ⟨w.heap.size,3,none⟩=some d:=by
 refine ⟨bsame h hB ?_,bsame h hB ?_,bsame h hB ?_,bsame h hB ?_⟩ <;> (rw [cell_of_row (w.alloc (.cells #[a,b,c,d] t fr)) w.heap.size _ #[a,b,c,d] t fr (heap_alloc_new w _)];rfl)
theorem cells4d {w w1:World} {a b c d:Value} {t:TypeId} {fr:Nat × Nat} {B:Nat} (hB:w.heap.size < B) (h:Below B (w.alloc (.cells #[a,b,c,d] t fr)).drew w1) :
  w1.cell? ⟨w.heap.size,0,none⟩=some a∧w1.cell? ⟨w.heap.size,1,none⟩=some b∧w1.cell? ⟨w.heap.size,2,none⟩=some c∧w1.cell? ⟨w.heap.size,3,none⟩=some d :=
 cells4 (w:=w.drew) hB h
theorem bxdd {w w1:World} {o:Obj} (h:Below (w.alloc o).drew.heap.size (w.alloc o).drew w1):Below w.heap.size w w1:=bstep ((Below.refl w.heap.size w).alloc (Nat.le_refl _) _).drew h (Nat.le_refl _)
theorem bxd {w w1:World} {o:Obj} (h:Below (w.alloc o).heap.size (w.alloc o) w1):Below w.heap.size w w1:=bstep ((Below.refl w.heap.size w).alloc (Nat.le_refl _) _) h (Nat.le_refl _)
set_option maxHeartbeats 1600000 in
theorem numbers_any (s:Sh) (w:World):Calls Tryz.prog 93 #[s.v] w fun e w'=>e=.returned (.bool s.nums)∧Below w.heap.size w w':=by
 have hB:=Below.refl w.heap.size w
 obtain ⟨W,H,C,D⟩:=s
 show Calls _ _ #[.agg #[.int .i64 W,.int .i64 H,.int .i64 C,.int .i64 D]] w _
 go_enter Tryz.func93,Tryz.ntmps93
 go_wp2
 all_goals
  go_ret
  refine ⟨pret_bool ?_,hB.alloc (Nat.le_refl _) _⟩
  rw [Bool.eq_iff_iff,Sh.nums_iff]
  simp
  omega
set_option maxHeartbeats 1600000 in
theorem sides9_any (s:Sh) (w:World):Calls Tryz.prog 94 #[s.v] w fun e w'=>e=.returned (.bool s.nums)∧Below w.heap.size w w':=by
 have hB:=Below.refl w.heap.size w
 obtain ⟨W,H,C,D⟩:=s
 show Calls _ _ #[.agg #[.int .i64 W,.int .i64 H,.int .i64 C,.int .i64 D]] w _
 go_enter Tryz.func94,Tryz.ntmps94
 go_wp2
 all_goals
  go_ret
  refine ⟨pret_bool ?_,hB.alloc (Nat.le_refl _) _⟩
  rw [Bool.eq_iff_iff,Sh.nums_iff]
  simp
  omega
set_option maxHeartbeats 800000 in
theorem row_any (s:Sh) (w:World):Calls Tryz.prog 81 #[s.v] w fun e w'=>e=.returned (.int .i64 s.row)∧Below w.heap.size w w':=by
 have hB:=Below.refl w.heap.size w
 cases hn:s.nums with
 | true =>
  have hb:=Sh.bounds s hn
  have HR:=Lib.hid (show s.row=s.w * s.c * s.d / 8 from if_pos hn)
  have HN:=Lib.hid hn
  have HV:=Lib.hid (fun w=>numbers_any s w)
  rw [HR.out]
  rw [HR.out] at hb
  obtain ⟨⟨b1,b2⟩,⟨b3,b4⟩,-,-⟩:=hb
  clear hn HR
  obtain ⟨W,H,C,D⟩:=s
  dsimp only at b1 b2 b3 b4 ⊢
  show Calls _ _ #[.agg #[.int .i64 W,.int .i64 H,.int .i64 C,.int .i64 D]] w _
  go_enter Tryz.func81,Tryz.ntmps81
  go_wp2_with (go_at_call 93;refine (HV.out _).mono ?_;rintro e w1 ⟨rfl,hb1⟩;rw [HN.out];obtain ⟨c0,c1,c2,c3⟩:=cells4 (by simp) hb1;replace hB:=bxd hb1;clear hb1)
  go_ret
  exact ⟨pret_int (by first | rfl | omega),hB⟩
 | false =>
  have HR:=Lib.hid (show s.row=0 by unfold Sh.row;rw [hn];rfl)
  have HN:=Lib.hid hn
  have HV:=Lib.hid (fun w=>numbers_any s w)
  rw [HR.out]
  clear hn HR
  obtain ⟨W,H,C,D⟩:=s
  show Calls _ _ #[.agg #[.int .i64 W,.int .i64 H,.int .i64 C,.int .i64 D]] w _
  go_enter Tryz.func81,Tryz.ntmps81
  go_wp2_with (go_at_call 93;refine (HV.out _).mono ?_;rintro e w1 ⟨rfl,hb1⟩;rw [HN.out];replace hB:=bxd hb1;clear hb1)
  go_ret
  exact ⟨rfl,hB⟩
set_option maxHeartbeats 800000 in
theorem row9_any (s:Sh) (w:World):Calls Tryz.prog 90 #[s.v] w fun e w'=>e=.returned (.int .i64 s.row)∧Below w.heap.size w w':=by
 have hB:=Below.refl w.heap.size w
 cases hn:s.nums with
 | true =>
  have hb:=Sh.bounds s hn
  have HR:=Lib.hid (show s.row=s.w * s.c * s.d / 8 from if_pos hn)
  have HN:=Lib.hid hn
  have HV:=Lib.hid (fun w=>sides9_any s w)
  rw [HR.out]
  rw [HR.out] at hb
  obtain ⟨⟨b1,b2⟩,⟨b3,b4⟩,-,-⟩:=hb
  clear hn HR
  obtain ⟨W,H,C,D⟩:=s
  dsimp only at b1 b2 b3 b4 ⊢
  show Calls _ _ #[.agg #[.int .i64 W,.int .i64 H,.int .i64 C,.int .i64 D]] w _
  go_enter Tryz.func90,Tryz.ntmps90
  go_wp2_with (go_at_call 94;refine (HV.out _).mono ?_;rintro e w1 ⟨rfl,hb1⟩;rw [HN.out];obtain ⟨c0,c1,c2,c3⟩:=cells4 (by simp) hb1;replace hB:=bxd hb1;clear hb1)
  go_ret
  exact ⟨pret_int (by first | rfl | omega),hB⟩
 | false =>
  have HR:=Lib.hid (show s.row=0 by unfold Sh.row;rw [hn];rfl)
  have HN:=Lib.hid hn
  have HV:=Lib.hid (fun w=>sides9_any s w)
  rw [HR.out]
  clear hn HR
  obtain ⟨W,H,C,D⟩:=s
  show Calls _ _ #[.agg #[.int .i64 W,.int .i64 H,.int .i64 C,.int .i64 D]] w _
  go_enter Tryz.func90,Tryz.ntmps90
  go_wp2_with (go_at_call 94;refine (HV.out _).mono ?_;rintro e w1 ⟨rfl,hb1⟩;rw [HN.out];replace hB:=bxd hb1;clear hb1)
  go_ret
  exact ⟨rfl,hB⟩
theorem Sh.size_ok {s:Sh} (h:s.nums=true):s.size=s.row * s.h:=by unfold Sh.size;rw [h];rfl
theorem Sh.size_no {s:Sh} (h:s.nums=false):s.size=0:=by unfold Sh.size;rw [h];simp
set_option maxHeartbeats 800000 in
theorem size_any (s:Sh) (w:World):Calls Tryz.prog 80 #[s.v] w fun e w'=>e=.returned (.int .i64 s.size)∧Below w.heap.size w w':=by
 have hB:=Below.refl w.heap.size w
 cases hn:s.nums with
 | true =>
  have hb:=Sh.bounds s hn
  have HN:=Lib.hid hn
  have HV:=Lib.hid (fun w=>numbers_any s w)
  have HW:=Lib.hid (fun w=>row_any s w)
  rw [Sh.size_ok hn]
  obtain ⟨-,-,⟨b1,b2⟩,⟨b3,b4⟩⟩:=hb
  clear hn
  obtain ⟨rr,hrr⟩:∃ r,r=s.row:=⟨_,rfl⟩
  rw [← hrr] at b1 b2 b3 b4 ⊢
  have HR:=Lib.hid hrr
  clear hrr
  obtain ⟨W,H,C,D⟩:=s
  dsimp only at b1 b2 b3 b4 ⊢
  show Calls _ _ #[.agg #[.int .i64 W,.int .i64 H,.int .i64 C,.int .i64 D]] w _
  go_enter Tryz.func80,Tryz.ntmps80
  go_wp2_with (go_at_call 93;refine (HV.out _).mono ?_;rintro e w1 ⟨rfl,hb1⟩;rw [HN.out];obtain ⟨c0,c1,c2,c3⟩:=cells4 (by simp) hb1;replace hB:=bxd hb1;have hz:w.heap.size < w1.heap.size:=(by have:=hb1.size;simp at this;omega);clear hb1)
  go_region_with (first
   | (go_at_call 81;go_must (refine (HW.out _).mono ?_;rintro e w2 ⟨rfl,hb2⟩;rw [← HR.out];replace c0:=bsame hb2 hz c0;replace c1:=bsame hb2 hz c1;replace c2:=bsame hb2 hz c2;replace c3:=bsame hb2 hz c3;replace hB:=bstep hB.drew hb2 (Nat.le_refl _);clear hb2)))
  all_goals
   go_wp2
   go_ret
   exact ⟨pret_int (wrapI _ (by omega) (by omega)),hB⟩
 | false =>
  have HN:=Lib.hid hn
  have HV:=Lib.hid (fun w=>numbers_any s w)
  rw [Sh.size_no hn]
  clear hn
  obtain ⟨W,H,C,D⟩:=s
  show Calls _ _ #[.agg #[.int .i64 W,.int .i64 H,.int .i64 C,.int .i64 D]] w _
  go_enter Tryz.func80,Tryz.ntmps80
  go_wp2_with (go_at_call 93;refine (HV.out _).mono ?_;rintro e w1 ⟨rfl,hb1⟩;rw [HN.out];replace hB:=bxd hb1;clear hb1)
  go_ret
  exact ⟨rfl,hB⟩
end Go.Proofs.YteoolehdomjkkaaGreat

/- pix: pictures: which may be; here and in the reference. -/
namespace Go.Proofs.YteoolehdomjkkaaGreat
set_option linter.all false
open Go.RowKit
set_option maxHeartbeats 800000 in
theorem size9_any (s:Sh) (w:World):Calls Tryz.prog 86 #[s.v] w fun e w'=>e=.returned (.int .i64 s.size)∧Below w.heap.size w w':=by
 have hB:=Below.refl w.heap.size w
 have HW:=Lib.hid (fun w=>row9_any s w)
 cases hn:s.nums with
 | true =>
  have hb:=Sh.bounds s hn
  have hq:=(Sh.nums_iff s).1 hn
  rw [Sh.size_ok hn]
  obtain ⟨-,-,⟨b1,b2⟩,⟨b3,b4⟩⟩:=hb
  obtain ⟨-,⟨q1,q2⟩,-,-⟩:=hq
  clear hn
  obtain ⟨rr,hrr⟩:∃ r,r=s.row:=⟨_,rfl⟩
  rw [← hrr] at b1 b2 b3 b4 ⊢
  have HR:=Lib.hid hrr
  clear hrr
  obtain ⟨W,H,C,D⟩:=s
  dsimp only at b1 b2 b3 b4 q1 q2 ⊢
  show Calls _ _ #[.agg #[.int .i64 W,.int .i64 H,.int .i64 C,.int .i64 D]] w _
  go_enter Tryz.func86,Tryz.ntmps86
  go_wp2
  go_region_held3 (fun w'=>w'.cell? ⟨w.heap.size,0,none⟩=some (.int .i64 W)∧w'.cell? ⟨w.heap.size,1,none⟩=some (.int .i64 H)∧w'.cell? ⟨w.heap.size,2,none⟩=some (.int .i64 C)∧w'.cell? ⟨w.heap.size,3,none⟩=some (.int .i64 D))
   (first | go_keep | exact ⟨c0,c1,c2,c3⟩)
   (first
   | (go_at_call 90;go_must (refine (HW.out _).mono ?_;rintro e w1 ⟨rfl,hb1⟩;rw [← HR.out];obtain ⟨c0,c1,c2,c3⟩:=cells4d (by simp) hb1;replace hB:=bxdd hb1;clear hb1)))
  all_goals
   go_wp2
   go_ret
   exact ⟨pret_int (wrapI _ (by omega) (by omega)),hB⟩
 | false =>
  have HR:=Lib.hid (show s.row=0 by unfold Sh.row;rw [hn];rfl)
  rw [Sh.size_no hn]
  clear hn
  obtain ⟨W,H,C,D⟩:=s
  show Calls _ _ #[.agg #[.int .i64 W,.int .i64 H,.int .i64 C,.int .i64 D]] w _
  rcases (by omega:H < 0∨(0≤H∧H≤256)∨(0≤H∧256 < H)) with q | ⟨q,q'⟩ | ⟨q,q'⟩
  ·have d1:decide (H < 0)=true:=by simp;omega
   have d2:¬ (0≤H):=by omega
   go_enter Tryz.func86,Tryz.ntmps86
   go_wp2
   go_region_held3 (fun w'=>w'.cell? ⟨w.heap.size,0,none⟩=some (.int .i64 W)∧w'.cell? ⟨w.heap.size,1,none⟩=some (.int .i64 H)∧w'.cell? ⟨w.heap.size,2,none⟩=some (.int .i64 C)∧w'.cell? ⟨w.heap.size,3,none⟩=some (.int .i64 D))
    (first | go_keep | exact ⟨c0,c1,c2,c3⟩)
    (first
    | (go_at_call 90;go_must (refine (HW.out _).mono ?_;rintro e w1 ⟨rfl,hb1⟩;rw [HR.out];obtain ⟨c0,c1,c2,c3⟩:=cells4d (by simp) hb1;replace hB:=bxdd hb1;clear hb1)))
   all_goals
    go_wp2
    go_ret
    exact ⟨rfl,hB⟩
  ·have d1:decide (H < 0)=false:=by simp;omega
   have d2:¬ (256 < H):=by omega
   go_enter Tryz.func86,Tryz.ntmps86
   go_wp2
   go_region_held3 (fun w'=>w'.cell? ⟨w.heap.size,0,none⟩=some (.int .i64 W)∧w'.cell? ⟨w.heap.size,1,none⟩=some (.int .i64 H)∧w'.cell? ⟨w.heap.size,2,none⟩=some (.int .i64 C)∧w'.cell? ⟨w.heap.size,3,none⟩=some (.int .i64 D))
    (first | go_keep | exact ⟨c0,c1,c2,c3⟩)
    (first
    | (go_at_call 90;go_must (refine (HW.out _).mono ?_;rintro e w1 ⟨rfl,hb1⟩;rw [HR.out];obtain ⟨c0,c1,c2,c3⟩:=cells4d (by simp) hb1;replace hB:=bxdd hb1;clear hb1)))
   all_goals
    go_wp2
    go_ret
    exact ⟨rfl,hB⟩
  ·have d1:decide (H < 0)=false:=by simp;omega
   have d2:¬ (H≤256):=by omega
   go_enter Tryz.func86,Tryz.ntmps86
   go_wp2
   go_region_held3 (fun w'=>w'.cell? ⟨w.heap.size,0,none⟩=some (.int .i64 W)∧w'.cell? ⟨w.heap.size,1,none⟩=some (.int .i64 H)∧w'.cell? ⟨w.heap.size,2,none⟩=some (.int .i64 C)∧w'.cell? ⟨w.heap.size,3,none⟩=some (.int .i64 D))
    (first | go_keep | exact ⟨c0,c1,c2,c3⟩)
    (first
    | (go_at_call 90;go_must (refine (HW.out _).mono ?_;rintro e w1 ⟨rfl,hb1⟩;rw [HR.out];obtain ⟨c0,c1,c2,c3⟩:=cells4d (by simp) hb1;replace hB:=bxdd hb1;clear hb1)))
   all_goals
    go_wp2
    go_ret
    exact ⟨rfl,hB⟩
set_option maxHeartbeats 800000 in
theorem mayS_any (s:Sh) (w:World):Calls Tryz.prog 50 #[s.v] w fun e w'=>e=.returned (.bool s.may)∧Below w.heap.size w w':=by
 have hB:=Below.refl w.heap.size w
 have HV:=Lib.hid (fun w=>numbers_any s w)
 have HW:=Lib.hid (fun w=>size_any s w)
 cases hn:s.nums with
 | true =>
  have HN:=Lib.hid hn
  obtain ⟨zz,hz⟩:∃ r,r=s.size:=⟨_,rfl⟩
  have HZ:=Lib.hid hz
  have HM:=Lib.hid (show s.may=decide (zz≤16384) by unfold Sh.may;rw [hn,hz];rfl)
  rw [HM.out]
  clear hn hz HM
  obtain ⟨W,H,C,D⟩:=s
  show Calls _ _ #[.agg #[.int .i64 W,.int .i64 H,.int .i64 C,.int .i64 D]] w _
  go_enter Tryz.func50,Tryz.ntmps50
  go_wp2_with (first
   | (go_at_call 93;go_must (refine (HV.out _).mono ?_;rintro e w1 ⟨rfl,hb1⟩;rw [HN.out];obtain ⟨c0,c1,c2,c3⟩:=cells4 (by simp) hb1;replace hB:=bxd hb1;have hz:w.heap.size < w1.heap.size:=(by have:=hb1.size;simp at this;omega);clear hb1))
   | (go_at_call 80;go_must (refine (HW.out _).mono ?_;rintro e w2 ⟨rfl,hb2⟩;rw [← HZ.out];replace c0:=bsame hb2 hz c0;replace c1:=bsame hb2 hz c1;replace c2:=bsame hb2 hz c2;replace c3:=bsame hb2 hz c3;first | replace hB:=bstep hB hb2 (Nat.le_refl _) | replace hB:=bstep hB.drew hb2 (Nat.le_refl _);replace hz:=Nat.lt_of_lt_of_le hz hb2.size;clear hb2)))
  go_ret
  exact ⟨rfl,hB⟩
 | false =>
  have HN:=Lib.hid hn
  have HM:=Lib.hid (show s.may=false by unfold Sh.may;rw [hn];rfl)
  rw [HM.out]
  clear hn HM
  obtain ⟨W,H,C,D⟩:=s
  show Calls _ _ #[.agg #[.int .i64 W,.int .i64 H,.int .i64 C,.int .i64 D]] w _
  go_enter Tryz.func50,Tryz.ntmps50
  go_wp2_with (go_at_call 93;go_must (refine (HV.out _).mono ?_;rintro e w1 ⟨rfl,hb1⟩;rw [HN.out];obtain ⟨c0,c1,c2,c3⟩:=cells4 (by simp) hb1;replace hB:=bxd hb1;have hz:w.heap.size < w1.heap.size:=(by have:=hb1.size;simp at this;omega);clear hb1))
  go_ret
  exact ⟨rfl,hB⟩
set_option maxHeartbeats 800000 in
theorem mayS9_any (s:Sh) (w:World):Calls Tryz.prog 52 #[s.v] w fun e w'=>e=.returned (.bool s.may)∧Below w.heap.size w w':=by
 have hB:=Below.refl w.heap.size w
 have HV:=Lib.hid (fun w=>sides9_any s w)
 have HW:=Lib.hid (fun w=>size9_any s w)
 cases hn:s.nums with
 | true =>
  have HN:=Lib.hid hn
  obtain ⟨zz,hz⟩:∃ r,r=s.size:=⟨_,rfl⟩
  have HZ:=Lib.hid hz
  have HM:=Lib.hid (show s.may=decide (zz≤16384) by unfold Sh.may;rw [hn,hz];rfl)
  rw [HM.out]
  clear hn hz HM
  obtain ⟨W,H,C,D⟩:=s
  show Calls _ _ #[.agg #[.int .i64 W,.int .i64 H,.int .i64 C,.int .i64 D]] w _
  go_enter Tryz.func52,Tryz.ntmps52
  go_wp2_with (first
   | (go_at_call 94;go_must (refine (HV.out _).mono ?_;rintro e w1 ⟨rfl,hb1⟩;rw [HN.out];obtain ⟨c0,c1,c2,c3⟩:=cells4 (by simp) hb1;replace hB:=bxd hb1;have hz:w.heap.size < w1.heap.size:=(by have:=hb1.size;simp at this;omega);clear hb1))
   | (go_at_call 86;go_must (refine (HW.out _).mono ?_;rintro e w2 ⟨rfl,hb2⟩;rw [← HZ.out];replace c0:=bsame hb2 hz c0;replace c1:=bsame hb2 hz c1;replace c2:=bsame hb2 hz c2;replace c3:=bsame hb2 hz c3;first | replace hB:=bstep hB hb2 (Nat.le_refl _) | replace hB:=bstep hB.drew hb2 (Nat.le_refl _);replace hz:=Nat.lt_of_lt_of_le hz hb2.size;clear hb2)))
  go_ret
  exact ⟨rfl,hB⟩
 | false =>
  have HN:=Lib.hid hn
  have HM:=Lib.hid (show s.may=false by unfold Sh.may;rw [hn];rfl)
  rw [HM.out]
  clear hn HM
  obtain ⟨W,H,C,D⟩:=s
  show Calls _ _ #[.agg #[.int .i64 W,.int .i64 H,.int .i64 C,.int .i64 D]] w _
  go_enter Tryz.func52,Tryz.ntmps52
  go_wp2_with (go_at_call 94;go_must (refine (HV.out _).mono ?_;rintro e w1 ⟨rfl,hb1⟩;rw [HN.out];obtain ⟨c0,c1,c2,c3⟩:=cells4 (by simp) hb1;replace hB:=bxd hb1;have hz:w.heap.size < w1.heap.size:=(by have:=hb1.size;simp at this;omega);clear hb1))
  go_ret
  exact ⟨rfl,hB⟩
/-- A picture. -/
def Sh.r (s:Sh) (A:Option Addr) (n c:Nat):Value:=.agg #[.int .i64 s.w,.int .i64 s.h,.int .i64 s.c,.int .i64 s.d,.slice A n c]
def Sh.mayR (s:Sh) (n:Nat):Bool:=s.may && decide ((n:Int)=s.size)
theorem cells5 {w w1:World} {a b c d f:Value} {t:TypeId} {fr:Nat × Nat} {B:Nat} (hB:w.heap.size < B) (h:Below B (w.alloc (.cells #[a,b,c,d,f] t fr)) w1) :
  w1.cell? ⟨w.heap.size,0,none⟩=some a∧w1.cell? ⟨w.heap.size,1,none⟩=some b∧w1.cell? ⟨w.heap.size,2,none⟩=some c∧w1.cell? ⟨w.heap.size,3,none⟩=some d∧w1.cell? ⟨w.heap.size,4,none⟩=some f:=by
 refine ⟨bsame h hB ?_,bsame h hB ?_,bsame h hB ?_,bsame h hB ?_,bsame h hB ?_⟩ <;> (rw [cell_of_row (w.alloc (.cells #[a,b,c,d,f] t fr)) w.heap.size _ #[a,b,c,d,f] t fr (heap_alloc_new w _)];rfl)
theorem cells5d {w w1:World} {a b c d f:Value} {t:TypeId} {fr:Nat × Nat} {B:Nat} (hB:w.heap.size < B) (h:Below B (w.alloc (.cells #[a,b,c,d,f] t fr)).drew w1) :
  w1.cell? ⟨w.heap.size,0,none⟩=some a∧w1.cell? ⟨w.heap.size,1,none⟩=some b∧w1.cell? ⟨w.heap.size,2,none⟩=some c∧w1.cell? ⟨w.heap.size,3,none⟩=some d∧w1.cell? ⟨w.heap.size,4,none⟩=some f :=
 cells5 (w:=w.drew) hB h
set_option maxHeartbeats 800000 in
theorem may_any (s:Sh) (A:Option Addr) (n c:Nat) (w:World):Calls Tryz.prog 41 #[s.r A n c] w fun e w'=>e=.returned (.bool (s.mayR n))∧Below w.heap.size w w':=by
 have hB:=Below.refl w.heap.size w
 have HV:=Lib.hid (fun w=>mayS_any s w)
 have HW:=Lib.hid (fun w=>size_any s w)
 cases hn:s.may with
 | true =>
  have HN:=Lib.hid hn
  obtain ⟨zz,hz⟩:∃ r,r=s.size:=⟨_,rfl⟩
  have HZ:=Lib.hid hz
  have HM:=Lib.hid (show s.mayR n=((n:Int) == zz) by unfold Sh.mayR;rw [hn,hz];rfl)
  rw [HM.out]
  clear hn hz HM
  obtain ⟨W,H,C,D⟩:=s
  show Calls _ _ #[.agg #[.int .i64 W,.int .i64 H,.int .i64 C,.int .i64 D,.slice A n c]] w _
  go_enter Tryz.func41,Tryz.ntmps41
  go_wp2
  go_region_held3 (fun w'=>w'.cell? ⟨w.heap.size,0,none⟩=some (.int .i64 W)∧w'.cell? ⟨w.heap.size,1,none⟩=some (.int .i64 H)∧w'.cell? ⟨w.heap.size,2,none⟩=some (.int .i64 C)∧w'.cell? ⟨w.heap.size,3,none⟩=some (.int .i64 D)∧w'.cell? ⟨w.heap.size,4,none⟩=some (.slice A n c))
   (first | go_keep | exact ⟨c0,c1,c2,c3,c4⟩)
   (first
   | (go_at_call 50;go_must (refine (HV.out _).mono ?_;rintro e w1 ⟨rfl,hb1⟩;rw [HN.out];obtain ⟨c0,c1,c2,c3,c4⟩:=cells5d (by simp) hb1;replace hB:=bxdd hb1;have hz:w.heap.size < w1.heap.size:=(by have:=hb1.size;simp at this;omega);clear hb1))
   | (go_at_call 80;go_must (refine (HW.out _).mono ?_;rintro e w2 ⟨rfl,hb2⟩;rw [← HZ.out];replace c0:=bsame hb2 hz c0;replace c1:=bsame hb2 hz c1;replace c2:=bsame hb2 hz c2;replace c3:=bsame hb2 hz c3;replace c4:=bsame hb2 hz c4;first | replace hB:=bstep hB hb2 (Nat.le_refl _) | replace hB:=bstep hB.drew hb2 (Nat.le_refl _);replace hz:=Nat.lt_of_lt_of_le hz hb2.size;clear hb2)))
  all_goals
   go_wp2
   go_ret
   exact ⟨rfl,hB⟩
 | false =>
  have HN:=Lib.hid hn
  have HM:=Lib.hid (show s.mayR n=false by unfold Sh.mayR;rw [hn];rfl)
  rw [HM.out]
  clear hn HM
  obtain ⟨W,H,C,D⟩:=s
  show Calls _ _ #[.agg #[.int .i64 W,.int .i64 H,.int .i64 C,.int .i64 D,.slice A n c]] w _
  go_enter Tryz.func41,Tryz.ntmps41
  go_wp2
  first
   | (go_region_with (first | (go_at_call 50;go_must (refine (HV.out _).mono ?_;rintro e w1 ⟨rfl,hb1⟩;rw [HN.out];obtain ⟨c0,c1,c2,c3,c4⟩:=cells5d (by simp) hb1;replace hB:=bxdd hb1;have hz:w.heap.size < w1.heap.size:=(by have:=hb1.size;simp at this;omega);clear hb1))))
   | fail
  all_goals
   go_wp2
   go_ret
   exact ⟨rfl,hB⟩
set_option maxHeartbeats 800000 in
theorem may9_any (s:Sh) (A:Option Addr) (n c:Nat) (w:World):Calls Tryz.prog 44 #[s.r A n c] w fun e w'=>e=.returned (.bool (s.mayR n))∧Below w.heap.size w w':=by
 have hB:=Below.refl w.heap.size w
 have HV:=Lib.hid (fun w=>mayS9_any s w)
 have HW:=Lib.hid (fun w=>size9_any s w)
 cases hn:s.may with
 | true =>
  have HN:=Lib.hid hn
  obtain ⟨zz,hz⟩:∃ r,r=s.size:=⟨_,rfl⟩
  have HZ:=Lib.hid hz
  have HM:=Lib.hid (show s.mayR n=((n:Int) == zz) by unfold Sh.mayR;rw [hn,hz];rfl)
  rw [HM.out]
  clear hn hz HM
  obtain ⟨W,H,C,D⟩:=s
  show Calls _ _ #[.agg #[.int .i64 W,.int .i64 H,.int .i64 C,.int .i64 D,.slice A n c]] w _
  go_enter Tryz.func44,Tryz.ntmps44
  go_wp2
  go_region_held3 (fun w'=>w'.cell? ⟨w.heap.size,0,none⟩=some (.int .i64 W)∧w'.cell? ⟨w.heap.size,1,none⟩=some (.int .i64 H)∧w'.cell? ⟨w.heap.size,2,none⟩=some (.int .i64 C)∧w'.cell? ⟨w.heap.size,3,none⟩=some (.int .i64 D)∧w'.cell? ⟨w.heap.size,4,none⟩=some (.slice A n c))
   (first | go_keep | exact ⟨c0,c1,c2,c3,c4⟩)
   (first
   | (go_at_call 52;go_must (refine (HV.out _).mono ?_;rintro e w1 ⟨rfl,hb1⟩;rw [HN.out];obtain ⟨c0,c1,c2,c3,c4⟩:=cells5d (by simp) hb1;replace hB:=bxdd hb1;have hz:w.heap.size < w1.heap.size:=(by have:=hb1.size;simp at this;omega);clear hb1))
   | (go_at_call 86;go_must (refine (HW.out _).mono ?_;rintro e w2 ⟨rfl,hb2⟩;rw [← HZ.out];replace c0:=bsame hb2 hz c0;replace c1:=bsame hb2 hz c1;replace c2:=bsame hb2 hz c2;replace c3:=bsame hb2 hz c3;replace c4:=bsame hb2 hz c4;first | replace hB:=bstep hB hb2 (Nat.le_refl _) | replace hB:=bstep hB.drew hb2 (Nat.le_refl _);replace hz:=Nat.lt_of_lt_of_le hz hb2.size;clear hb2)))
  all_goals
   go_wp2
   go_ret
   exact ⟨rfl,hB⟩
 | false =>
  have HN:=Lib.hid hn
  have HM:=Lib.hid (show s.mayR n=false by unfold Sh.mayR;rw [hn];rfl)
  rw [HM.out]
  clear hn HM
  obtain ⟨W,H,C,D⟩:=s
  show Calls _ _ #[.agg #[.int .i64 W,.int .i64 H,.int .i64 C,.int .i64 D,.slice A n c]] w _
  go_enter Tryz.func44,Tryz.ntmps44
  go_wp2
  first
   | (go_region_with (first | (go_at_call 52;go_must (refine (HV.out _).mono ?_;rintro e w1 ⟨rfl,hb1⟩;rw [HN.out];obtain ⟨c0,c1,c2,c3,c4⟩:=cells5d (by simp) hb1;replace hB:=bxdd hb1;have hz:w.heap.size < w1.heap.size:=(by have:=hb1.size;simp at this;omega);clear hb1))))
   | fail
  all_goals
   go_wp2
   go_ret
   exact ⟨rfl,hB⟩
end Go.Proofs.YteoolehdomjkkaaGreat

