/- XMdZlibFrames -/
import Derived.Test.YteoolehdomjkkaaGreatMd34
import Derived.Test.YteoolehdomjkkaaGreatMd33
import Derived.Test.YteoolehdomjkkaaGreatMd25
namespace Go.Proofs.YteoolehdomjkkaaGreat
set_option linter.all false
open Go.RowKit
theorem dec_beq (E:Int):decide (E=0)=(E == 0):=by
 by_cases h:E=0
 ·rw [h];rfl
 ·rw [decide_eq_false h];exact (beq_eq_false_iff_ne.2 h).symm
set_option maxRecDepth 100000 in
set_option maxHeartbeats 12800000 in
theorem zlibFrames_walk (n0 c0:Nat) (A0:Option Addr) (bs:List UInt8) (n1 c1:Nat) (A1:Option Addr) (zs:List UInt8) (most:Int) (w:World) (ha:RdB w w.heap.size A0 n0 bs) (hc0:n0≤c0) (hz:RdB w w.heap.size A1 n1 zs) (hc1:n1≤c1) :
  Calls Tryz.prog 6 #[.slice A0 n0 c0,.slice A1 n1 c1,.int .i64 most] w fun e w'=>e=.returned (.bool true)∧Below w.heap.size w w':=by
 have HR:=Lib.hid hz
 have HZL:=Lib.hid hz.len
 have HB:Hid (Below w.heap.size w w):=Below.refl _ _
 by_cases h4:n0≤4000∧n1≤4000∧most≤20000
 ·have hi4:¬ (4000:Int) < (n0:Int):=by omega
  have hj4:¬ (4000:Int) < (n1:Int):=by omega
  have hm4:¬ (20000:Int) < most:=by omega
  obtain ⟨S,hS,hS4⟩:=big4 (adler_lt bs)
  have HCB:=Lib.hid (fun (w':World) (hb:Below w.heap.size w w')=>copyB_any w.heap.size n1 c1 A1 zs w' (hz.blw hb) (by omega))
  have HPK:=Lib.hid (fun (w':World) (hb:Below w.heap.size w w')=>pack_any w.heap.size n0 c0 A0 bs S w' (ha.blw hb) hb.size (by omega) hc0 hS hS4)
  have HP5:=Lib.hid (fun (w':World) (hb:Below w.heap.size w w')=>pack5_any w.heap.size n0 c0 A0 bs S w' (ha.blw hb) hb.size (by omega) hS hS4)
  have HUN:=fun (w':World) (c':Nat) (A':Option Addr) (h:RdB w' w'.heap.size A' n1 zs) (hc:n1≤c')=>unpack_any w'.heap.size n1 c' A' zs most w' h (Nat.le_refl _) hc (by omega)
  have HU5:=fun (w':World) (hb:Below w.heap.size w w')=>unpack5_any w.heap.size n1 c1 A1 zs most w' (hz.blw hb) hb.size hc1 (by omega)
  unfold Up5 at HU5
  have HWH:=fun (w':World) (c':Nat) (A':Option Addr) (h:RdB w' w'.heap.size A' n1 zs) (hc:n1≤c')=>whole_any w'.heap.size n1 c' A' zs most w' h (Nat.le_refl _) hc (by omega)
  have HW5:=fun (w':World) (hb:Below w.heap.size w w')=>whole5_any w.heap.size n1 c1 A1 zs most w' (hz.blw hb) hb.size hc1 (by omega)
  replace HUN:=Lib.hid HUN
  replace HU5:=Lib.hid HU5
  replace HWH:=Lib.hid HWH
  replace HW5:=Lib.hid HW5
  clear ha hz h4 hS
  rw [dec_beq] at HU5 HW5
  generalize unpkP zs most=I at *
  generalize wholP zs most=J at *
  obtain ⟨us,N,E⟩:=I
  obtain ⟨ps,F⟩:=J
  dsimp only at HUN HU5 HWH HW5
  obtain ⟨d1,hd1⟩:∃ d,(E == 0)=d:=⟨_,rfl⟩
  obtain ⟨d2,hd2⟩:∃ d,(F == 0)=d:=⟨_,rfl⟩
  rw [hd1] at HU5
  rw [hd2] at HW5
  go_enter Tryz.func6,Tryz.ntmps6
  go_wp2_with (first
   | (go_at_call 31;(with_reducible refine (first8_any _).mono ?_);go_must (rintro e w1 ⟨rfl,hb1⟩;(try replace HI:=Lib.hid (HI.out.later hb1));(try replace HX:=Lib.hid (HX.out.later hb1));(try replace HY:=Lib.hid (HY.out.later hb1));(try replace HU:=Lib.hid (HU.out.later hb1));(try replace HV:=Lib.hid (HV.out.later hb1));(try replace HP:=Lib.hid (HP.out.later hb1));(try replace HQ:=Lib.hid (HQ.out.later hb1));replace HB:=Lib.hid (HB.out.trans (hb1.mono HB.out.size));clear hb1))
   | (go_at_call 21;(with_reducible refine (HCB.out _ HB.out).mono ?_);go_must (rintro e w2 ⟨v2,rfl,ho2,hb2⟩;obtain ⟨A2,c2,rfl,hr2,hc2,-⟩:=ho2.form;rw [HZL.out] at hr2 hc2 ⊢;have HI:=Lib.hid hr2;clear ho2 hr2;(try replace HX:=Lib.hid (HX.out.later hb2));(try replace HY:=Lib.hid (HY.out.later hb2));(try replace HU:=Lib.hid (HU.out.later hb2));(try replace HV:=Lib.hid (HV.out.later hb2));(try replace HP:=Lib.hid (HP.out.later hb2));(try replace HQ:=Lib.hid (HQ.out.later hb2));replace HB:=Lib.hid (HB.out.trans (hb2.mono HB.out.size));clear hb2))
   | (go_at_call 32;(with_reducible refine (HPK.out _ HB.out).mono ?_);go_must (rintro e w3 ⟨v3,bz,rfl,ho3,hz3,hb3⟩;have HZ3:=Lib.hid hz3;clear hz3;obtain ⟨A3,c3,rfl,hr9,hc9,-⟩:=ho3.form;have HX:=Lib.hid hr9;clear ho3 hr9;(try replace HI:=Lib.hid (HI.out.later hb3));(try replace HY:=Lib.hid (HY.out.later hb3));(try replace HU:=Lib.hid (HU.out.later hb3));(try replace HV:=Lib.hid (HV.out.later hb3));(try replace HP:=Lib.hid (HP.out.later hb3));(try replace HQ:=Lib.hid (HQ.out.later hb3));replace HB:=Lib.hid (HB.out.trans (hb3.mono HB.out.size));clear hb3))
   | (go_at_call 33;(with_reducible refine (HP5.out _ HB.out).mono ?_);go_must (rintro e w4 ⟨v4,bz4,rfl,ho4,hz4,hb4⟩;obtain rfl:=HZ3.out.uniq hz4;clear hz4;obtain ⟨A4,c4,rfl,hr9,hc9,-⟩:=ho4.form;have HY:=Lib.hid hr9;clear ho4 hr9;(try replace HI:=Lib.hid (HI.out.later hb4));(try replace HX:=Lib.hid (HX.out.later hb4));(try replace HU:=Lib.hid (HU.out.later hb4));(try replace HV:=Lib.hid (HV.out.later hb4));(try replace HP:=Lib.hid (HP.out.later hb4));(try replace HQ:=Lib.hid (HQ.out.later hb4));replace HB:=Lib.hid (HB.out.trans (hb4.mono HB.out.size));clear hb4))
   | (go_at_call 34;(with_reducible refine (HUN.out _ _ _ HI.out hc2).mono ?_);go_must (rintro e w5 ⟨v5,rfl,ho5,hb5⟩;obtain ⟨A5,c5,rfl,hr9,hc9,-⟩:=ho5.form;have HU:=Lib.hid hr9;clear ho5 hr9;(try replace HI:=Lib.hid (HI.out.later hb5));(try replace HX:=Lib.hid (HX.out.later hb5));(try replace HY:=Lib.hid (HY.out.later hb5));(try replace HV:=Lib.hid (HV.out.later hb5));(try replace HP:=Lib.hid (HP.out.later hb5));(try replace HQ:=Lib.hid (HQ.out.later hb5));replace HB:=Lib.hid (HB.out.trans (hb5.mono HB.out.size));clear hb5))
   | (go_at_call 35;(with_reducible refine (HU5.out _ HB.out).mono ?_);go_must (rintro e w6 ⟨v6,rfl,ho6,hb6⟩;obtain ⟨A6,c6,rfl,hr9,hc9,-⟩:=ho6.form;have HV:=Lib.hid hr9;clear ho6 hr9;(try replace HI:=Lib.hid (HI.out.later hb6));(try replace HX:=Lib.hid (HX.out.later hb6));(try replace HY:=Lib.hid (HY.out.later hb6));(try replace HU:=Lib.hid (HU.out.later hb6));(try replace HP:=Lib.hid (HP.out.later hb6));(try replace HQ:=Lib.hid (HQ.out.later hb6));replace HB:=Lib.hid (HB.out.trans (hb6.mono HB.out.size));clear hb6))
   | (go_at_call 36;(with_reducible refine (HWH.out _ _ _ HI.out hc2).mono ?_);go_must (rintro e w7 ⟨v7,rfl,ho7,hb7⟩;obtain ⟨A7,c7,rfl,hr9,hc9,-⟩:=ho7.form;have HP:=Lib.hid hr9;clear ho7 hr9;(try replace HI:=Lib.hid (HI.out.later hb7));(try replace HX:=Lib.hid (HX.out.later hb7));(try replace HY:=Lib.hid (HY.out.later hb7));(try replace HU:=Lib.hid (HU.out.later hb7));(try replace HV:=Lib.hid (HV.out.later hb7));(try replace HQ:=Lib.hid (HQ.out.later hb7));replace HB:=Lib.hid (HB.out.trans (hb7.mono HB.out.size));clear hb7))
   | (go_at_call 37;(with_reducible refine (HW5.out _ HB.out).mono ?_);go_must (rintro e w8 ⟨v8,rfl,ho8,hb8⟩;obtain ⟨A8,c8,rfl,hr9,hc9,-⟩:=ho8.form;have HQ:=Lib.hid hr9;clear ho8 hr9;(try replace HI:=Lib.hid (HI.out.later hb8));(try replace HX:=Lib.hid (HX.out.later hb8));(try replace HY:=Lib.hid (HY.out.later hb8));(try replace HU:=Lib.hid (HU.out.later hb8));(try replace HV:=Lib.hid (HV.out.later hb8));(try replace HP:=Lib.hid (HP.out.later hb8));replace HB:=Lib.hid (HB.out.trans (hb8.mono HB.out.size));clear hb8))
   | (go_at_call 10;(with_reducible refine (bytes_any _ _ _ _ _ _ _ _ (packL bz S) (packL bz S) _ HX.out HY.out).mono ?_);go_must (rintro e wz ⟨rfl,rfl⟩))
   | (go_at_call 10;(with_reducible refine (bytes_any _ _ _ _ _ _ _ _ us us _ HU.out HV.out).mono ?_);go_must (rintro e wz ⟨rfl,rfl⟩))
   | (go_at_call 10;(with_reducible refine (bytes_any _ _ _ _ _ _ _ _ ps ps _ HP.out HQ.out).mono ?_);go_must (rintro e wz ⟨rfl,rfl⟩))
   | (go_at_call 10;(with_reducible refine (bytes_any _ _ _ _ _ _ _ _ zs zs _ HI.out (RdB.blw HR.out HB.out)).mono ?_);go_must (rintro e wz ⟨rfl,rfl⟩)))
  go_ret
  exact ⟨by first | rfl | simp,HB.out⟩
 ·have key:(4000:Int) < (n0:Int)∨(¬ (4000:Int) < (n0:Int)∧(4000:Int) < (n1:Int))∨(¬ (4000:Int) < (n0:Int)∧¬ (4000:Int) < (n1:Int)∧(20000:Int) < most):=by omega
  clear ha hz h4
  rcases key with k1 | ⟨k1,k2⟩ | ⟨k1,k2,k3⟩ <;>
   ·go_enter Tryz.func6,Tryz.ntmps6
    go_wp2_with (first
     | (go_at_call 31;(with_reducible refine (first8_any _).mono ?_);go_must (rintro e w1 ⟨rfl,hb1⟩;(try replace HI:=Lib.hid (HI.out.later hb1));(try replace HX:=Lib.hid (HX.out.later hb1));(try replace HY:=Lib.hid (HY.out.later hb1));(try replace HU:=Lib.hid (HU.out.later hb1));(try replace HV:=Lib.hid (HV.out.later hb1));(try replace HP:=Lib.hid (HP.out.later hb1));(try replace HQ:=Lib.hid (HQ.out.later hb1));replace HB:=Lib.hid (HB.out.trans (hb1.mono HB.out.size));clear hb1)))
    go_ret
    exact ⟨by first | rfl | simp,HB.out⟩
end Go.Proofs.YteoolehdomjkkaaGreat

