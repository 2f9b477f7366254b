/- XFrame XPix1 XPix2 XOpenR XRowV -/
import Derived.Test.YtebbdifhiihfkaaGreatDoorMh01
import Derived.Test.YtebbdifhiihfkaaGreatDoorMh02
import Derived.ProofKit
import Derived.OpenShut
import Derived.ShutString
import Derived.ChangeOld
import Derived.Deep.RegionHeld3
namespace Go.Proofs.YtebbdifhiihfkaaGreatDoor
set_option linter.all false
open Go.ChangeShapes Go.WideShapes Go.ChangeAt Go.RowKit
open Go.ChangeMaps (open_string shut_string)
theorem own:ownKnob Tryz.prog.godebug=none:=by kernel_rfl
theorem laidOut:laidOutB Tryz.prog=true:=by kernel_rfl
theorem u8_back (z:Int) (h:(Lit.int .u8 z).wf=true):((UInt8.ofNat z.toNat).toNat:Int)=z:=by
 have b:=bounds_u8 h
 rw [UInt8.toNat_ofNat']
 omega
theorem open_bytes {H:Type} {enc:TypeId × Value→H} {W:World} {sp:Nat→Bool} {held:Bool} {a:Option Addr} {n c:Nat} {d:DataW H} {p:List MemPlace}
  (h:DataW.Trod enc Tryz.prog W 0 sp held 22 (.slice a n c) d p):∃ bs,RdB W W.heap.size a n bs∧n≤c∧c≤maxLen:=by
 obtain ⟨fuel,hf⟩:=h
 rcases open_ints Tryz.underlying22 Tryz.underlying5 (by kernel_rfl) hf with ⟨hcs,_⟩ | ⟨x,l,cc,zs,hcs,_,hl,hm,hz,_,hcell,hwz⟩
 ·simp [Value.cells] at hcs
  obtain ⟨rfl,rfl,rfl⟩:=hcs
  exact ⟨[],Rd.none_,by omega,by simp⟩
 ·simp [Value.cells] at hcs
  obtain ⟨rfl,rfl,rfl⟩:=hcs
  have hzn:n≤zs.length:=by rw [hz];split <;> omega
  refine ⟨(zs.take n).map fun z=>UInt8.ofNat z.toNat,⟨by simp [cb];omega,fun hn=>?_⟩,hl,hm⟩
  have h0:=hcell 0 (by omega)
  obtain ⟨b,o,spot⟩:=x
  have hspot:spot=none:=by simpa [Addr.add] using World.cell?_spot h0
  subst hspot
  refine ⟨b,o,rfl,?_,fun j u hu=>?_⟩
  ·have:=block_lt_of_cell h0
   simpa [add_none] using this
  ·have hj:j < n:=by
    have:=(List.getElem?_eq_some_iff.1 hu).1
    simp [cb] at this
    omega
   have hc:=hcell j (by omega)
   rw [add_none] at hc
   rw [hc]
   have hw:=hwz (zs[j]'(by omega)) (List.getElem_mem _)
   simp [cb,List.getElem?_take,hj,List.getElem?_eq_getElem (show j < zs.length by omega)] at hu
   rw [← hu]
   have:=u8_back _ hw
   rw [UInt8.toNat_ofNat'] at this
   simp [List.getD,List.getElem?_eq_getElem (show j < zs.length by omega)]
   simpa using this.symm
end Go.Proofs.YtebbdifhiihfkaaGreatDoor

/- pix: shapes: which may be, their rows and sizes; here and in the reference. -/
namespace Go.Proofs.YtebbdifhiihfkaaGreatDoor
set_option linter.all false
open Go.RowKit
theorem pret_bool {a b:Bool} (h:a=b):Ending.returned (.bool a)=.returned (.bool b):=by rw [h]
theorem pret_int {k:IntKind} {a b:Int} (h:a=b):Ending.returned (.int k a)=.returned (.int k b):=by rw [h]
/-- A shape. -/
structure Sh where
 w:Int
 h:Int
 c:Int
 d:Int
deriving DecidableEq
def Sh.v (s:Sh):Value:=.agg #[.int .i64 s.w,.int .i64 s.h,.int .i64 s.c,.int .i64 s.d]
/-- May a shape's numbers be? -/
def Sh.nums (s:Sh):Bool:=decide (1≤s.w) && decide (s.w≤256) && (decide (1≤s.h) && decide (s.h≤256)) && (decide (1≤s.c) && decide (s.c≤4)) && (decide (s.d=8) || decide (s.d=16))
theorem Sh.nums_iff (s:Sh):s.nums=true ↔ (1≤s.w∧s.w≤256)∧(1≤s.h∧s.h≤256)∧(1≤s.c∧s.c≤4)∧(s.d=8∨s.d=16):=by
 simp [Sh.nums,and_assoc]
def Sh.row (s:Sh):Int:=if s.nums then s.w * s.c * s.d / 8 else 0
def Sh.size (s:Sh):Int:=s.row * (if s.nums then s.h else 0)
def Sh.may (s:Sh):Bool:=s.nums && decide (s.size≤16384)
/-- Products that stay small. -/
theorem Sh.bounds (s:Sh) (h:s.nums=true):(1≤s.w * s.c∧s.w * s.c≤1024)∧(8≤s.w * s.c * s.d∧s.w * s.c * s.d≤16384)∧(1≤s.row∧s.row≤2048)∧(1≤s.row * s.h∧s.row * s.h≤524288):=by
 have hn:=(Sh.nums_iff s).1 h
 obtain ⟨⟨w1,w2⟩,⟨h1,h2⟩,⟨c1,c2⟩,hd⟩:=hn
 have a1:1 * 1≤s.w * s.c:=Int.mul_le_mul w1 c1 (by omega) (by omega)
 have a2:s.w * s.c≤256 * 4:=Int.mul_le_mul w2 c2 (by omega) (by omega)
 have b:8≤s.w * s.c * s.d∧s.w * s.c * s.d≤16384:=by rcases hd with e | e <;> rw [e] <;> omega
 have r:s.row=s.w * s.c * s.d / 8:=if_pos h
 have r1:1≤s.row:=by omega
 have r2:s.row≤2048:=by omega
 have d1:1 * 1≤s.row * s.h:=Int.mul_le_mul r1 h1 (by omega) (by omega)
 have d2:s.row * s.h≤2048 * 256:=Int.mul_le_mul r2 h2 (by omega) (by omega)
 exact ⟨⟨by omega,by omega⟩,b,⟨r1,r2⟩,by omega,by omega⟩
theorem wrapI (x:Int) (h0:-4611686018427387904≤x) (h1:x≤4611686018427387904):IntKind.i64.wrap x=x:=by
 simp [IntKind.wrap,IntKind.bits,IntKind.signed]
 omega
theorem cells4 {w w1:World} {a b c d:Value} {t:TypeId} {fr:Nat × Nat} {B:Nat} (hB:w.heap.size < B) (h:Below B (w.alloc (.cells #[a,b,c,d] t fr)) w1) :
  w1.cell? ⟨w.heap.size,0,none⟩=some a∧w1.cell? ⟨w.heap.size,1,none⟩=some b∧w1.cell? ⟨w.heap.size,2,none⟩=some c∧w1.cell? ⟨w.heap.size,3,none⟩=some d:=by
 refine ⟨bsame h hB ?_,bsame h hB ?_,bsame h hB ?_,bsame h hB ?_⟩ <;> (rw [cell_of_row (w.alloc (.cells #[a,b,c,d] t fr)) w.heap.size _ #[a,b,c,d] t fr (heap_alloc_new w _)];rfl)
theorem bxdd {w w1:World} {o:Obj} (h:Below (w.alloc o).drew.heap.size (w.alloc o).drew w1):Below w.heap.size w w1:=bstep ((Below.refl w.heap.size w).alloc (Nat.le_refl _) _).drew h (Nat.le_refl _)
theorem bxd {w w1:World} {o:Obj} (h:Below (w.alloc o).heap.size (w.alloc o) w1):Below w.heap.size w w1:=bstep ((Below.refl w.heap.size w).alloc (Nat.le_refl _) _) h (Nat.le_refl _)
set_option maxHeartbeats 1600000 in
theorem numbers_any (s:Sh) (w:World):Calls Tryz.prog 70 #[s.v] w fun e w'=>e=.returned (.bool s.nums)∧Below w.heap.size w w':=by
 have hB:=Below.refl w.heap.size w
 obtain ⟨W,H,C,D⟩:=s
 show Calls _ _ #[.agg #[.int .i64 W,.int .i64 H,.int .i64 C,.int .i64 D]] w _
 go_enter Tryz.func70,Tryz.ntmps70
 go_wp2
 all_goals
  go_ret
  refine ⟨pret_bool ?_,hB.alloc (Nat.le_refl _) _⟩
  rw [Bool.eq_iff_iff,Sh.nums_iff]
  simp
  omega
set_option maxHeartbeats 800000 in
theorem row_any (s:Sh) (w:World):Calls Tryz.prog 71 #[s.v] w fun e w'=>e=.returned (.int .i64 s.row)∧Below w.heap.size w w':=by
 have hB:=Below.refl w.heap.size w
 cases hn:s.nums with
 | true =>
  have hb:=Sh.bounds s hn
  have HR:=Lib.hid (show s.row=s.w * s.c * s.d / 8 from if_pos hn)
  have HN:=Lib.hid hn
  have HV:=Lib.hid (fun w=>numbers_any s w)
  rw [HR.out]
  rw [HR.out] at hb
  obtain ⟨⟨b1,b2⟩,⟨b3,b4⟩,-,-⟩:=hb
  clear hn HR
  obtain ⟨W,H,C,D⟩:=s
  dsimp only at b1 b2 b3 b4 ⊢
  show Calls _ _ #[.agg #[.int .i64 W,.int .i64 H,.int .i64 C,.int .i64 D]] w _
  go_enter Tryz.func71,Tryz.ntmps71
  go_wp2_with (go_at_call 70;refine (HV.out _).mono ?_;rintro e w1 ⟨rfl,hb1⟩;rw [HN.out];obtain ⟨c0,c1,c2,c3⟩:=cells4 (by simp) hb1;replace hB:=bxd hb1;clear hb1)
  go_ret
  exact ⟨pret_int (by first | rfl | omega),hB⟩
 | false =>
  have HR:=Lib.hid (show s.row=0 by unfold Sh.row;rw [hn];rfl)
  have HN:=Lib.hid hn
  have HV:=Lib.hid (fun w=>numbers_any s w)
  rw [HR.out]
  clear hn HR
  obtain ⟨W,H,C,D⟩:=s
  show Calls _ _ #[.agg #[.int .i64 W,.int .i64 H,.int .i64 C,.int .i64 D]] w _
  go_enter Tryz.func71,Tryz.ntmps71
  go_wp2_with (go_at_call 70;refine (HV.out _).mono ?_;rintro e w1 ⟨rfl,hb1⟩;rw [HN.out];replace hB:=bxd hb1;clear hb1)
  go_ret
  exact ⟨rfl,hB⟩
theorem Sh.size_ok {s:Sh} (h:s.nums=true):s.size=s.row * s.h:=by unfold Sh.size;rw [h];rfl
theorem Sh.size_no {s:Sh} (h:s.nums=false):s.size=0:=by unfold Sh.size;rw [h];simp
set_option maxHeartbeats 800000 in
theorem size_any (s:Sh) (w:World):Calls Tryz.prog 42 #[s.v] w fun e w'=>e=.returned (.int .i64 s.size)∧Below w.heap.size w w':=by
 have hB:=Below.refl w.heap.size w
 cases hn:s.nums with
 | true =>
  have hb:=Sh.bounds s hn
  have HN:=Lib.hid hn
  have HV:=Lib.hid (fun w=>numbers_any s w)
  have HW:=Lib.hid (fun w=>row_any s w)
  rw [Sh.size_ok hn]
  obtain ⟨-,-,⟨b1,b2⟩,⟨b3,b4⟩⟩:=hb
  clear hn
  obtain ⟨rr,hrr⟩:∃ r,r=s.row:=⟨_,rfl⟩
  rw [← hrr] at b1 b2 b3 b4 ⊢
  have HR:=Lib.hid hrr
  clear hrr
  obtain ⟨W,H,C,D⟩:=s
  dsimp only at b1 b2 b3 b4 ⊢
  show Calls _ _ #[.agg #[.int .i64 W,.int .i64 H,.int .i64 C,.int .i64 D]] w _
  go_enter Tryz.func42,Tryz.ntmps42
  go_wp2_with (go_at_call 70;refine (HV.out _).mono ?_;rintro e w1 ⟨rfl,hb1⟩;rw [HN.out];obtain ⟨c0,c1,c2,c3⟩:=cells4 (by simp) hb1;replace hB:=bxd hb1;have hz:w.heap.size < w1.heap.size:=(by have:=hb1.size;simp at this;omega);clear hb1)
  go_region_with (first
   | (go_at_call 71;go_must (refine (HW.out _).mono ?_;rintro e w2 ⟨rfl,hb2⟩;rw [← HR.out];replace c0:=bsame hb2 hz c0;replace c1:=bsame hb2 hz c1;replace c2:=bsame hb2 hz c2;replace c3:=bsame hb2 hz c3;replace hB:=bstep hB.drew hb2 (Nat.le_refl _);clear hb2)))
  all_goals
   go_wp2
   go_ret
   exact ⟨pret_int (wrapI _ (by omega) (by omega)),hB⟩
 | false =>
  have HN:=Lib.hid hn
  have HV:=Lib.hid (fun w=>numbers_any s w)
  rw [Sh.size_no hn]
  clear hn
  obtain ⟨W,H,C,D⟩:=s
  show Calls _ _ #[.agg #[.int .i64 W,.int .i64 H,.int .i64 C,.int .i64 D]] w _
  go_enter Tryz.func42,Tryz.ntmps42
  go_wp2_with (go_at_call 70;refine (HV.out _).mono ?_;rintro e w1 ⟨rfl,hb1⟩;rw [HN.out];replace hB:=bxd hb1;clear hb1)
  go_ret
  exact ⟨rfl,hB⟩
end Go.Proofs.YtebbdifhiihfkaaGreatDoor

/- pix: pictures: which may be; here and in the reference. -/
namespace Go.Proofs.YtebbdifhiihfkaaGreatDoor
set_option linter.all false
open Go.RowKit
set_option maxHeartbeats 800000 in
theorem mayS_any (s:Sh) (w:World):Calls Tryz.prog 41 #[s.v] w fun e w'=>e=.returned (.bool s.may)∧Below w.heap.size w w':=by
 have hB:=Below.refl w.heap.size w
 have HV:=Lib.hid (fun w=>numbers_any s w)
 have HW:=Lib.hid (fun w=>size_any s w)
 cases hn:s.nums with
 | true =>
  have HN:=Lib.hid hn
  obtain ⟨zz,hz⟩:∃ r,r=s.size:=⟨_,rfl⟩
  have HZ:=Lib.hid hz
  have HM:=Lib.hid (show s.may=decide (zz≤16384) by unfold Sh.may;rw [hn,hz];rfl)
  rw [HM.out]
  clear hn hz HM
  obtain ⟨W,H,C,D⟩:=s
  show Calls _ _ #[.agg #[.int .i64 W,.int .i64 H,.int .i64 C,.int .i64 D]] w _
  go_enter Tryz.func41,Tryz.ntmps41
  go_wp2_with (first
   | (go_at_call 70;go_must (refine (HV.out _).mono ?_;rintro e w1 ⟨rfl,hb1⟩;rw [HN.out];obtain ⟨c0,c1,c2,c3⟩:=cells4 (by simp) hb1;replace hB:=bxd hb1;have hz:w.heap.size < w1.heap.size:=(by have:=hb1.size;simp at this;omega);clear hb1))
   | (go_at_call 42;go_must (refine (HW.out _).mono ?_;rintro e w2 ⟨rfl,hb2⟩;rw [← HZ.out];replace c0:=bsame hb2 hz c0;replace c1:=bsame hb2 hz c1;replace c2:=bsame hb2 hz c2;replace c3:=bsame hb2 hz c3;first | replace hB:=bstep hB hb2 (Nat.le_refl _) | replace hB:=bstep hB.drew hb2 (Nat.le_refl _);replace hz:=Nat.lt_of_lt_of_le hz hb2.size;clear hb2)))
  go_ret
  exact ⟨rfl,hB⟩
 | false =>
  have HN:=Lib.hid hn
  have HM:=Lib.hid (show s.may=false by unfold Sh.may;rw [hn];rfl)
  rw [HM.out]
  clear hn HM
  obtain ⟨W,H,C,D⟩:=s
  show Calls _ _ #[.agg #[.int .i64 W,.int .i64 H,.int .i64 C,.int .i64 D]] w _
  go_enter Tryz.func41,Tryz.ntmps41
  go_wp2_with (go_at_call 70;go_must (refine (HV.out _).mono ?_;rintro e w1 ⟨rfl,hb1⟩;rw [HN.out];obtain ⟨c0,c1,c2,c3⟩:=cells4 (by simp) hb1;replace hB:=bxd hb1;have hz:w.heap.size < w1.heap.size:=(by have:=hb1.size;simp at this;omega);clear hb1))
  go_ret
  exact ⟨rfl,hB⟩
/-- A picture. -/
def Sh.r (s:Sh) (A:Option Addr) (n c:Nat):Value:=.agg #[.int .i64 s.w,.int .i64 s.h,.int .i64 s.c,.int .i64 s.d,.slice A n c]
def Sh.mayR (s:Sh) (n:Nat):Bool:=s.may && decide ((n:Int)=s.size)
theorem cells5 {w w1:World} {a b c d f:Value} {t:TypeId} {fr:Nat × Nat} {B:Nat} (hB:w.heap.size < B) (h:Below B (w.alloc (.cells #[a,b,c,d,f] t fr)) w1) :
  w1.cell? ⟨w.heap.size,0,none⟩=some a∧w1.cell? ⟨w.heap.size,1,none⟩=some b∧w1.cell? ⟨w.heap.size,2,none⟩=some c∧w1.cell? ⟨w.heap.size,3,none⟩=some d∧w1.cell? ⟨w.heap.size,4,none⟩=some f:=by
 refine ⟨bsame h hB ?_,bsame h hB ?_,bsame h hB ?_,bsame h hB ?_,bsame h hB ?_⟩ <;> (rw [cell_of_row (w.alloc (.cells #[a,b,c,d,f] t fr)) w.heap.size _ #[a,b,c,d,f] t fr (heap_alloc_new w _)];rfl)
theorem cells5d {w w1:World} {a b c d f:Value} {t:TypeId} {fr:Nat × Nat} {B:Nat} (hB:w.heap.size < B) (h:Below B (w.alloc (.cells #[a,b,c,d,f] t fr)).drew w1) :
  w1.cell? ⟨w.heap.size,0,none⟩=some a∧w1.cell? ⟨w.heap.size,1,none⟩=some b∧w1.cell? ⟨w.heap.size,2,none⟩=some c∧w1.cell? ⟨w.heap.size,3,none⟩=some d∧w1.cell? ⟨w.heap.size,4,none⟩=some f :=
 cells5 (w:=w.drew) hB h
set_option maxHeartbeats 800000 in
theorem may_any (s:Sh) (A:Option Addr) (n c:Nat) (w:World):Calls Tryz.prog 15 #[s.r A n c] w fun e w'=>e=.returned (.bool (s.mayR n))∧Below w.heap.size w w':=by
 have hB:=Below.refl w.heap.size w
 have HV:=Lib.hid (fun w=>mayS_any s w)
 have HW:=Lib.hid (fun w=>size_any s w)
 cases hn:s.may with
 | true =>
  have HN:=Lib.hid hn
  obtain ⟨zz,hz⟩:∃ r,r=s.size:=⟨_,rfl⟩
  have HZ:=Lib.hid hz
  have HM:=Lib.hid (show s.mayR n=((n:Int) == zz) by unfold Sh.mayR;rw [hn,hz];rfl)
  rw [HM.out]
  clear hn hz HM
  obtain ⟨W,H,C,D⟩:=s
  show Calls _ _ #[.agg #[.int .i64 W,.int .i64 H,.int .i64 C,.int .i64 D,.slice A n c]] w _
  go_enter Tryz.func15,Tryz.ntmps15
  go_wp2
  go_region_held3 (fun w'=>w'.cell? ⟨w.heap.size,0,none⟩=some (.int .i64 W)∧w'.cell? ⟨w.heap.size,1,none⟩=some (.int .i64 H)∧w'.cell? ⟨w.heap.size,2,none⟩=some (.int .i64 C)∧w'.cell? ⟨w.heap.size,3,none⟩=some (.int .i64 D)∧w'.cell? ⟨w.heap.size,4,none⟩=some (.slice A n c))
   (first | go_keep | exact ⟨c0,c1,c2,c3,c4⟩)
   (first
   | (go_at_call 41;go_must (refine (HV.out _).mono ?_;rintro e w1 ⟨rfl,hb1⟩;rw [HN.out];obtain ⟨c0,c1,c2,c3,c4⟩:=cells5d (by simp) hb1;replace hB:=bxdd hb1;have hz:w.heap.size < w1.heap.size:=(by have:=hb1.size;simp at this;omega);clear hb1))
   | (go_at_call 42;go_must (refine (HW.out _).mono ?_;rintro e w2 ⟨rfl,hb2⟩;rw [← HZ.out];replace c0:=bsame hb2 hz c0;replace c1:=bsame hb2 hz c1;replace c2:=bsame hb2 hz c2;replace c3:=bsame hb2 hz c3;replace c4:=bsame hb2 hz c4;first | replace hB:=bstep hB hb2 (Nat.le_refl _) | replace hB:=bstep hB.drew hb2 (Nat.le_refl _);replace hz:=Nat.lt_of_lt_of_le hz hb2.size;clear hb2)))
  all_goals
   go_wp2
   go_ret
   exact ⟨rfl,hB⟩
 | false =>
  have HN:=Lib.hid hn
  have HM:=Lib.hid (show s.mayR n=false by unfold Sh.mayR;rw [hn];rfl)
  rw [HM.out]
  clear hn HM
  obtain ⟨W,H,C,D⟩:=s
  show Calls _ _ #[.agg #[.int .i64 W,.int .i64 H,.int .i64 C,.int .i64 D,.slice A n c]] w _
  go_enter Tryz.func15,Tryz.ntmps15
  go_wp2
  first
   | (go_region_with (first | (go_at_call 41;go_must (refine (HV.out _).mono ?_;rintro e w1 ⟨rfl,hb1⟩;rw [HN.out];obtain ⟨c0,c1,c2,c3,c4⟩:=cells5d (by simp) hb1;replace hB:=bxdd hb1;have hz:w.heap.size < w1.heap.size:=(by have:=hb1.size;simp at this;omega);clear hb1))))
   | fail
  all_goals
   go_wp2
   go_ret
   exact ⟨rfl,hB⟩
end Go.Proofs.YtebbdifhiihfkaaGreatDoor

/- Arguments opened: shapes and pictures. -/
namespace Go.Proofs.YtebbdifhiihfkaaGreatDoor
set_option linter.all false
open Go.ChangeShapes Go.WideShapes Go.ChangeAt Go.RowKit
theorem one_int:Tryz.prog.cellsOf 3=1:=by kernel_rfl
theorem one_bytes:Tryz.prog.cellsOf 22=1:=by kernel_rfl
theorem four_shape:Tryz.prog.cellsOf 37=4:=by kernel_rfl
theorem five_raster:Tryz.prog.cellsOf 39=5:=by kernel_rfl
theorem int_at {H:Type} {enc:TypeId × Value→H} {W:World} {sp:Nat→Bool} {held:Bool} {fuel i:Nat} {v:Value} {xs:List (DataW H × List MemPlace)} (hi:i < xs.length)
  (h:DataW.trod enc Tryz.prog W 0 sp held fuel 3 [v]=xs[i]?):∃ n,v=.int .i64 n:=by
 rw [List.getElem?_eq_getElem hi] at h
 obtain ⟨n,e,_,_⟩:=DataW.trod_int Tryz.underlying3 h
 injection e with e
 exact ⟨n,e⟩
theorem shape_cells {H:Type} {enc:TypeId × Value→H} {W:World} {sp:Nat→Bool} {held:Bool} {fuel:Nat} {c0 c1 c2 c3:Value} {x:DataW H × List MemPlace}
  (h:DataW.trod enc Tryz.prog W 0 sp held fuel 37 [c0,c1,c2,c3]=some x):∃ s:Sh,[c0,c1,c2,c3]=[.int .i64 s.w,.int .i64 s.h,.int .i64 s.c,.int .i64 s.d]:=by
 obtain ⟨xs,n,rfl,hx,hcl,hlen,hg⟩:=DataW.trod_struct Tryz.underlying37 h
 have h0:=hg 0 _ rfl
 have h1:=hg 1 _ rfl
 have h2:=hg 2 _ rfl
 have h3:=hg 3 _ rfl
 have hl:xs.length=4:=hlen
 simp only [List.getElem_toArray,List.getElem_cons_zero,List.getElem_cons_succ,one_int,List.drop_succ_cons,List.drop_zero,List.take_succ_cons,List.take_zero] at h0 h1 h2 h3
 obtain ⟨n0,rfl⟩:=int_at (by omega) h0
 obtain ⟨n1,rfl⟩:=int_at (by omega) h1
 obtain ⟨n2,rfl⟩:=int_at (by omega) h2
 obtain ⟨n3,rfl⟩:=int_at (by omega) h3
 exact ⟨⟨n0,n1,n2,n3⟩,rfl⟩
set_option maxRecDepth 100000 in
theorem open_raster {H:Type} {enc:TypeId × Value→H} {W:World} {r:Reach} {b0:Nat} {sp:Nat→Bool} {held:Bool} {v:Value} {d:DataW H} {p:List MemPlace}
  (hv:Value.okWide Tryz.prog W r b0 39 v) (h:DataW.Trod enc Tryz.prog W 0 sp held 39 v d p) :
  ∃ (s:Sh) (A:Option Addr) (n c:Nat) (bs:List UInt8),v=s.r A n c∧RdB W W.heap.size A n bs∧n≤c∧c≤maxLen:=by
 obtain ⟨cs,rfl,hsz⟩:=okWide_struct Tryz.underlying39 hv
 rw [five_raster] at hsz
 obtain ⟨l⟩:=cs
 match l,hsz with
 | [c0,c1,c2,c3,c4],_ =>
  obtain ⟨fuel,hf⟩:=h
  obtain ⟨xs,n,rfl,hx,hcl,hlen,hg⟩:=DataW.trod_struct Tryz.underlying39 hf
  have h0:=hg 0 _ rfl
  have h1:=hg 1 _ rfl
  have hl:xs.length=2:=hlen
  simp only [List.getElem_toArray,List.getElem_cons_zero,List.getElem_cons_succ,Value.cells,four_shape,one_bytes,List.drop_succ_cons,List.drop_zero,List.take_succ_cons,List.take_zero] at h0 h1
  rw [List.getElem?_eq_getElem (by omega)] at h0 h1
  obtain ⟨s,e⟩:=shape_cells h0
  have hs:∃ A n c,c4=.slice A n c:=by
   rcases open_ints Tryz.underlying22 Tryz.underlying5 (by kernel_rfl) h1 with ⟨hcs,_⟩ | ⟨x,l,cc,zs,hcs,_⟩
   ·injection hcs with hcs;exact ⟨_,_,_,hcs⟩
   ·injection hcs with hcs;exact ⟨_,_,_,hcs⟩
  obtain ⟨A,m,c,rfl⟩:=hs
  obtain ⟨bs,hr,hc,hm⟩:=open_bytes ⟨_,h1⟩
  injection e with e0 e
  injection e with e1 e
  injection e with e2 e
  injection e with e3 e
  exact ⟨s,A,m,c,bs,by rw [e0,e1,e2,e3];rfl,hr,hc,hm⟩
end Go.Proofs.YtebbdifhiihfkaaGreatDoor

/- Rows of api.Shape: 4 cells an element. -/
namespace Go.Proofs.YtebbdifhiihfkaaGreatDoor
set_option linter.all false
open Go.RowKit
def eV (x:Sh):List Value:=[Value.int .i64 x.w,Value.int .i64 x.h,Value.int .i64 x.c,Value.int .i64 x.d]
theorem eV_len (x:Sh):(eV x).length=4:=rfl
/-- The cells of a list. -/
def cV (l:List Sh):List Value:=l.flatMap eV
theorem cV_length:∀ l:List Sh,(cV l).length=l.length * 4
 | []=>rfl
 | x :: l=>by
  have:=cV_length l
  unfold cV at this ⊢
  rw [List.flatMap_cons,List.length_append,this,eV_len,List.length_cons]
  omega
theorem cV_append (a b:List Sh):cV (a ++ b)=cV a ++ cV b:=by simp [cV]
theorem cV_single (x:Sh):cV [x]=eV x:=by simp [cV]
theorem cV_get:∀ (l:List Sh) (k j:Nat) (hk:k < l.length),j < 4→(cV l)[k * 4+j]?=(eV l[k])[j]?
 | x :: l,0,j,_,hj=>by
  unfold cV
  rw [List.flatMap_cons,List.getElem?_append_left (by rw [eV_len];omega)]
  simp
 | x :: l,i+1,j,hi,hj=>by
  have:=cV_get l i j (by simpa using hi) hj
  unfold cV at this ⊢
  rw [List.flatMap_cons,List.getElem?_append_right (by rw [eV_len];omega),eV_len,List.getElem_cons_succ,← this]
  congr 1
  omega
def RdV (w:World) (B:Nat) (A:Option Addr) (n:Nat) (l:List Sh):Prop:=Rd w B 4 A n (cV l)
theorem RdV.len {w:World} {B n:Nat} {A:Option Addr} {l:List Sh} (h:RdV w B A n l):l.length=n:=by
 have:=h.1;rw [cV_length] at this;omega
theorem RdV.one {w:World} {B n:Nat} {A:Option Addr} {l:List Sh} (h:RdV w B A n l) {k:Nat} (hk:k < n) :
  ∃ b o x,A=some ⟨b,o,none⟩∧b < B∧Hid (l[k]?=some x)∧w.cell? ⟨b,o+k * 4,none⟩=some (Value.int .i64 x.w)∧w.cell? ⟨b,o+k * 4+1,none⟩=some (Value.int .i64 x.h)∧w.cell? ⟨b,o+k * 4+2,none⟩=some (Value.int .i64 x.c)∧w.cell? ⟨b,o+k * 4+3,none⟩=some (Value.int .i64 x.d):=by
 obtain ⟨b,o,e,hb,hc⟩:=h.2 (by omega)
 have hl:=h.len
 have hk':k < l.length:=by omega
 refine ⟨b,o,l[k],e,hb,List.getElem?_eq_getElem hk',?_,?_,?_,?_⟩
 ·exact hc (k * 4) _ ((cV_get l k 0 hk' (by omega)).trans rfl)
 ·exact hc (k * 4+1) _ ((cV_get l k 1 hk' (by omega)).trans rfl)
 ·exact hc (k * 4+2) _ ((cV_get l k 2 hk' (by omega)).trans rfl)
 ·exact hc (k * 4+3) _ ((cV_get l k 3 hk' (by omega)).trans rfl)
theorem RdV.blw {w w':World} {B n:Nat} {A:Option Addr} {l:List Sh} (h:RdV w B A n l) (hb:Below B w w'):RdV w' B A n l:=Rd.below h hb
theorem RdV.more {w:World} {B B' n:Nat} {A:Option Addr} {l:List Sh} (h:RdV w B A n l) (hB:B≤B'):RdV w B' A n l:=Rd.more h hB
theorem RdV.here {w:World} {B n:Nat} {A:Option Addr} {l:List Sh} (h:RdV w B A n l):RdV w w.heap.size A n l :=
 ⟨h.1,fun hn=>by
  obtain ⟨b,o,e,hb,hc⟩:=h.2 hn
  have hl:=h.1
  exact ⟨b,o,e,block_lt_of_cell (a:=⟨b,o+0,none⟩) (hc 0 (cV l)[0] (List.getElem?_eq_getElem (by omega))),hc⟩⟩
theorem RdV.later {w w':World} {n:Nat} {A:Option Addr} {l:List Sh} (h:RdV w w.heap.size A n l) (hb:Below w.heap.size w w'):RdV w' w'.heap.size A n l:=RdV.here (RdV.blw h hb)
theorem RdV.alloc {w:World} {B n:Nat} {A:Option Addr} {l:List Sh} (h:RdV w B A n l) (hB:B≤w.heap.size) (o:Obj):RdV (w.alloc o) B A n l:=Rd.alloc h hB o
theorem RdV.nil_ {w:World} {B:Nat} {A:Option Addr}:RdV w B A 0 []:=⟨by simp [cV],fun h=>absurd h (by omega)⟩
theorem RdV.cut {w:World} {B n:Nat} {A:Option Addr} {l:List Sh} (h:RdV w B A n l) {k m:Nat} (hk:k+m≤n) {A':Option Addr} (hA:0 < m→A'=A.map (·.add (k * 4))) :
  RdV w B A' m ((l.drop k).take m):=by
 have:=Rd.cut h hk (A':=A') hA
 unfold RdV
 have e1:∀ (q:Nat) (l:List Sh),cV (l.take q)=(cV l).take (q * 4):=fun q l=>by
  rcases Nat.lt_or_ge q l.length with hq | hq
  ·conv=>rhs;rw [← List.take_append_drop q l,cV_append]
   rw [List.take_left' (by rw [cV_length,List.length_take,Nat.min_eq_left (by omega)])]
  ·rw [List.take_of_length_le hq,List.take_of_length_le (by rw [cV_length];exact Nat.mul_le_mul_right _ hq)]
 have e2:∀ (q:Nat) (l:List Sh),cV (l.drop q)=(cV l).drop (q * 4):=fun q l=>by
  rcases Nat.lt_or_ge q l.length with hq | hq
  ·conv=>rhs;rw [← List.take_append_drop q l,cV_append]
   rw [List.drop_left' (by rw [cV_length,List.length_take,Nat.min_eq_left (by omega)])]
  ·rw [List.drop_eq_nil_of_le hq,List.drop_eq_nil_of_le (by rw [cV_length];exact Nat.mul_le_mul_right _ hq)]
   rfl
 rw [e1,e2]
 exact this
/-- One element that lies in a block, whole. -/
theorem rd_oneV (w:World) (x:Sh) (t:TypeId) (fr:Nat × Nat):RdV (w.alloc (.cells (eV x).toArray t fr)) (w.heap.size+1) (some ⟨w.heap.size,0,none⟩) 1 [x]:=by
 refine ⟨by rw [cV_length];rfl,fun _=>⟨_,_,rfl,by omega,fun j u hu=>?_⟩⟩
 rw [Nat.zero_add]
 have:=cell_of_row (w.alloc (.cells (eV x).toArray t fr)) w.heap.size j (eV x).toArray t fr (heap_alloc_new w _)
 rw [this]
 rw [cV_single] at hu
 simpa using hu
end Go.Proofs.YtebbdifhiihfkaaGreatDoor

