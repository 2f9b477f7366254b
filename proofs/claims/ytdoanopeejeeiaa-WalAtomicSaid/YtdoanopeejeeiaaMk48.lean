/- XWalAtomic0 -/
import Derived.Test.YtdoanopeejeeiaaMk45
namespace Go.Proofs.Ytdoanopeejeeiaa
set_option linter.all false
open Go.RowKit Go.Maps
set_option maxRecDepth 100000 in
set_option maxHeartbeats 25600000 in
theorem walAtomic_out (n ring:Int) (A:Option Addr) (m c:Nat) (A1 A2:Option Addr) (n1 c1 n2 c2:Nat) (at_:Int) (Ak:Option Addr) (nk ck:Nat) (Aa:Option Addr) (na ca:Nat) (Am:Option Addr) (nm cm:Nat) (w:World) (hk:n < 4∨200 < n∨ring < 1∨n - 4 < ring∨20 < m∨150 < n1∨100 < nk∨10 < na∨nm ≠ na∨at_ < 1∨1000 < at_) :
  Calls Try.prog 5 #[.int .i64 n,.int .i64 ring,.slice A m c,.agg #[.slice A1 n1 c1,.slice A2 n2 c2],.int .i64 at_,.slice Ak nk ck,.slice Aa na ca,.slice Am nm cm] w fun e w'=>e=.returned (.bool true)∧Below w.heap.size w w':=by
 obtain ⟨wb,hwb⟩:∃ wb,w.alloc (.cells #[.slice A1 n1 c1,.slice A2 n2 c2] 38)=wb:=⟨_,rfl⟩
 have HB:Hid (Below w.heap.size w wb):=(show Below _ _ _ by rw [← hwb];exact (Below.refl w.heap.size w).alloc (Nat.le_refl _) _)
 have HA:=Arr.new w [.slice A1 n1 c1,.slice A2 n2 c2] 38
 rw [show (List.toArray [Value.slice A1 n1 c1,Value.slice A2 n2 c2])=#[.slice A1 n1 c1,.slice A2 n2 c2] from rfl,hwb] at HA
 have HBS:Hid (wb.heap.size=w.heap.size+1):=(show _=_ by rw [← hwb];simp)
 have HX0:=Lib.hid (HA.cell (k:=0) rfl)
 have HX1:=Lib.hid (HA.cell (k:=1) rfl)
 clear HA
 by_cases h1:n < 4∨4096 < n
 ·have HN:=Lib.hid (fun w'=>newD_bad n w' h1)
  clear h1 hk
  go_enter Try.func5,Try.ntmps5
  (try simp only [hwb])
  go_wp2_with (first
   | (go_at_call 6;(with_reducible refine (first15_any _).mono ?_);go_must (rintro e wf ⟨rfl,hb1⟩;replace HB:=Lib.hid (HB.out.trans (hb1.mono HB.out.size));replace HX0:=Lib.hid (cell_later HX0.out hb1);have hx0:=HX0.out;have hzf:=hb1.size;clear hb1))
   | (go_at_call 7;(with_reducible refine (HN.out _).mono ?_);go_must (rintro e w1 ⟨rfl,rfl⟩)))
  go_ret
  exact ⟨rfl,HB.out⟩
 obtain ⟨N,rfl⟩:∃ N:Nat,n=(N:Int):=⟨n.toNat,by omega⟩
 have HN:=Lib.hid (fun w'=>newD_any N w' (by omega) (by omega))
 by_cases h2:200 < N
 ·have t2:(200:Int) < (N:Int):=by omega
  have t2d:decide ((200:Int) < (N:Int))=true:=decide_eq_true t2
  clear h1 hk
  go_enter Try.func5,Try.ntmps5
  (try simp only [hwb])
  go_wp2_with (first
   | (go_at_call 6;(with_reducible refine (first15_any _).mono ?_);go_must (rintro e wf ⟨rfl,hb1⟩;replace HB:=Lib.hid (HB.out.trans (hb1.mono HB.out.size));replace HX0:=Lib.hid (cell_later HX0.out hb1);have hx0:=HX0.out;have hzf:=hb1.size;clear hb1))
   | (go_at_call 7;(with_reducible refine (HN.out _).mono ?_);go_must (rintro e w1 ⟨d,h0,rfl,hd,hu,hb1⟩;have hlo0:=HB.out.size;have hlo1:=hb1.size;replace HB:=Lib.hid (HB.out.trans (hb1.mono HB.out.size));replace HX0:=Lib.hid (cell_later HX0.out hb1);have HD:=Lib.hid hd;have HU:=Lib.hid hu;clear hd hb1 hu)))
  go_ret
  exact ⟨rfl,HB.out⟩
 have t2:¬ (200:Int) < (N:Int):=by omega
 have t2d:decide ((200:Int) < (N:Int))=false:=decide_eq_false t2
 by_cases h3:ring < 1∨(N:Int) - 4 < ring
 ·have HFB:=Lib.hid (fun lo d h w' (H:DkOk w' lo d h (newD N))=>formatW_bad lo d h (newD N) ring w' H h3)
  clear h1 hk
  go_enter Try.func5,Try.ntmps5
  (try simp only [hwb])
  go_wp2_with (first
   | (go_at_call 6;(with_reducible refine (first15_any _).mono ?_);go_must (rintro e wf ⟨rfl,hb1⟩;replace HB:=Lib.hid (HB.out.trans (hb1.mono HB.out.size));replace HX0:=Lib.hid (cell_later HX0.out hb1);have hx0:=HX0.out;have hzf:=hb1.size;clear hb1))
   | (go_at_call 7;(with_reducible refine (HN.out _).mono ?_);go_must (rintro e w1 ⟨d,h0,rfl,hd,hu,hb1⟩;have hlo0:=HB.out.size;have hlo1:=hb1.size;replace HB:=Lib.hid (HB.out.trans (hb1.mono HB.out.size));replace HX0:=Lib.hid (cell_later HX0.out hb1);have HD:=Lib.hid hd;have HU:=Lib.hid hu;clear hd hb1 hu))
   | (go_at_call 8;(with_reducible refine (HFB.out _ _ _ _ HD.out).mono ?_);go_must (rintro e w2 ⟨rfl,rfl⟩)))
  go_ret
  exact ⟨rfl,HB.out⟩
 obtain ⟨R,rfl⟩:∃ R:Nat,ring=(R:Int):=⟨ring.toNat,by omega⟩
 have HFM:=Lib.hid (fun lo d h w' (H:DkOk w' lo d h (newD N)) hlo hU=>fmtL_any N R lo d h w' H hlo hU (by omega) (by omega))
 by_cases h4:20 < m
 ·have t4:(20:Int) < (m:Int):=by omega
  have t4d:decide ((20:Int) < (m:Int))=true:=decide_eq_true t4
  clear h1 hk h3
  go_enter Try.func5,Try.ntmps5
  (try simp only [hwb])
  go_wp2_with (first
   | (go_at_call 6;(with_reducible refine (first15_any _).mono ?_);go_must (rintro e wf ⟨rfl,hb1⟩;replace HB:=Lib.hid (HB.out.trans (hb1.mono HB.out.size));replace HX0:=Lib.hid (cell_later HX0.out hb1);have hx0:=HX0.out;have hzf:=hb1.size;clear hb1))
   | (go_at_call 7;(with_reducible refine (HN.out _).mono ?_);go_must (rintro e w1 ⟨d,h0,rfl,hd,hu,hb1⟩;have hlo0:=HB.out.size;have hlo1:=hb1.size;replace HB:=Lib.hid (HB.out.trans (hb1.mono HB.out.size));replace HX0:=Lib.hid (cell_later HX0.out hb1);have HD:=Lib.hid hd;have HU:=Lib.hid hu;clear hd hb1 hu))
   | (go_at_call 8;(with_reducible refine (HFM.out _ _ _ _ HD.out hlo1 HU.out).mono ?_);go_must (rintro e w2 ⟨s2,h2,rfl,-,-,-,-,-,-,-,F2,-,-⟩;replace HB:=Lib.hid (HB.out.trans ((F2.bel HD.out).mono hlo0));have hx0:=(F2.bel HD.out).cell (p:=⟨w.heap.size,0,none⟩) (by show w.heap.size < _;have:=HBS.out;omega);rw [HX0.out] at hx0;replace HX0:=Lib.hid hx0;clear F2)))
  go_ret
  exact ⟨rfl,HB.out⟩
 have t4:¬ (20:Int) < (m:Int):=by omega
 have t4d:decide ((20:Int) < (m:Int))=false:=decide_eq_false t4
 by_cases h5:150 < n1
 ·have t5:(150:Int) < (n1:Int):=by omega
  have t5d:decide ((150:Int) < (n1:Int))=true:=decide_eq_true t5
  clear h1 hk h3
  go_enter Try.func5,Try.ntmps5
  (try simp only [hwb])
  go_wp2_with (first
   | (go_at_call 6;(with_reducible refine (first15_any _).mono ?_);go_must (rintro e wf ⟨rfl,hb1⟩;replace HB:=Lib.hid (HB.out.trans (hb1.mono HB.out.size));replace HX0:=Lib.hid (cell_later HX0.out hb1);have hx0:=HX0.out;have hzf:=hb1.size;clear hb1))
   | (go_at_call 7;(with_reducible refine (HN.out _).mono ?_);go_must (rintro e w1 ⟨d,h0,rfl,hd,hu,hb1⟩;have hlo0:=HB.out.size;have hlo1:=hb1.size;replace HB:=Lib.hid (HB.out.trans (hb1.mono HB.out.size));replace HX0:=Lib.hid (cell_later HX0.out hb1);have HD:=Lib.hid hd;have HU:=Lib.hid hu;clear hd hb1 hu))
   | (go_at_call 8;(with_reducible refine (HFM.out _ _ _ _ HD.out hlo1 HU.out).mono ?_);go_must (rintro e w2 ⟨s2,h2,rfl,-,-,-,-,-,-,-,F2,-,-⟩;replace HB:=Lib.hid (HB.out.trans ((F2.bel HD.out).mono hlo0));have hx0:=(F2.bel HD.out).cell (p:=⟨w.heap.size,0,none⟩) (by show w.heap.size < _;have:=HBS.out;omega);rw [HX0.out] at hx0;replace HX0:=Lib.hid hx0;clear F2)))
  go_ret
  exact ⟨rfl,HB.out⟩
 have t5:¬ (150:Int) < (n1:Int):=by omega
 have t5d:decide ((150:Int) < (n1:Int))=false:=decide_eq_false t5
 by_cases h6:100 < nk
 ·have t6:(100:Int) < (nk:Int):=by omega
  have t6d:decide ((100:Int) < (nk:Int))=true:=decide_eq_true t6
  clear h1 hk h3
  go_enter Try.func5,Try.ntmps5
  (try simp only [hwb])
  go_wp2_with (first
   | (go_at_call 6;(with_reducible refine (first15_any _).mono ?_);go_must (rintro e wf ⟨rfl,hb1⟩;replace HB:=Lib.hid (HB.out.trans (hb1.mono HB.out.size));replace HX0:=Lib.hid (cell_later HX0.out hb1);have hx0:=HX0.out;have hzf:=hb1.size;clear hb1))
   | (go_at_call 7;(with_reducible refine (HN.out _).mono ?_);go_must (rintro e w1 ⟨d,h0,rfl,hd,hu,hb1⟩;have hlo0:=HB.out.size;have hlo1:=hb1.size;replace HB:=Lib.hid (HB.out.trans (hb1.mono HB.out.size));replace HX0:=Lib.hid (cell_later HX0.out hb1);have HD:=Lib.hid hd;have HU:=Lib.hid hu;clear hd hb1 hu))
   | (go_at_call 8;(with_reducible refine (HFM.out _ _ _ _ HD.out hlo1 HU.out).mono ?_);go_must (rintro e w2 ⟨s2,h2,rfl,-,-,-,-,-,-,-,F2,-,-⟩;replace HB:=Lib.hid (HB.out.trans ((F2.bel HD.out).mono hlo0));have hx0:=(F2.bel HD.out).cell (p:=⟨w.heap.size,0,none⟩) (by show w.heap.size < _;have:=HBS.out;omega);rw [HX0.out] at hx0;replace HX0:=Lib.hid hx0;clear F2)))
  go_ret
  exact ⟨rfl,HB.out⟩
 have t6:¬ (100:Int) < (nk:Int):=by omega
 have t6d:decide ((100:Int) < (nk:Int))=false:=decide_eq_false t6
 by_cases h7:10 < na
 ·have t7:(10:Int) < (na:Int):=by omega
  have t7d:decide ((10:Int) < (na:Int))=true:=decide_eq_true t7
  clear h1 hk h3
  go_enter Try.func5,Try.ntmps5
  (try simp only [hwb])
  go_wp2_with (first
   | (go_at_call 6;(with_reducible refine (first15_any _).mono ?_);go_must (rintro e wf ⟨rfl,hb1⟩;replace HB:=Lib.hid (HB.out.trans (hb1.mono HB.out.size));replace HX0:=Lib.hid (cell_later HX0.out hb1);have hx0:=HX0.out;have hzf:=hb1.size;clear hb1))
   | (go_at_call 7;(with_reducible refine (HN.out _).mono ?_);go_must (rintro e w1 ⟨d,h0,rfl,hd,hu,hb1⟩;have hlo0:=HB.out.size;have hlo1:=hb1.size;replace HB:=Lib.hid (HB.out.trans (hb1.mono HB.out.size));replace HX0:=Lib.hid (cell_later HX0.out hb1);have HD:=Lib.hid hd;have HU:=Lib.hid hu;clear hd hb1 hu))
   | (go_at_call 8;(with_reducible refine (HFM.out _ _ _ _ HD.out hlo1 HU.out).mono ?_);go_must (rintro e w2 ⟨s2,h2,rfl,-,-,-,-,-,-,-,F2,-,-⟩;replace HB:=Lib.hid (HB.out.trans ((F2.bel HD.out).mono hlo0));have hx0:=(F2.bel HD.out).cell (p:=⟨w.heap.size,0,none⟩) (by show w.heap.size < _;have:=HBS.out;omega);rw [HX0.out] at hx0;replace HX0:=Lib.hid hx0;clear F2)))
  go_ret
  exact ⟨rfl,HB.out⟩
 have t7:¬ (10:Int) < (na:Int):=by omega
 have t7d:decide ((10:Int) < (na:Int))=false:=decide_eq_false t7
 by_cases h8:nm ≠ na
 ·have t8:((nm:Int) != (na:Int))=true:=by simp;omega
  have t8e:((nm:Int) == (na:Int))=false:=beq_eq_false_iff_ne.2 (by omega)
  clear h1 hk h3
  go_enter Try.func5,Try.ntmps5
  (try simp only [hwb])
  go_wp2_with (first
   | (go_at_call 6;(with_reducible refine (first15_any _).mono ?_);go_must (rintro e wf ⟨rfl,hb1⟩;replace HB:=Lib.hid (HB.out.trans (hb1.mono HB.out.size));replace HX0:=Lib.hid (cell_later HX0.out hb1);have hx0:=HX0.out;have hzf:=hb1.size;clear hb1))
   | (go_at_call 7;(with_reducible refine (HN.out _).mono ?_);go_must (rintro e w1 ⟨d,h0,rfl,hd,hu,hb1⟩;have hlo0:=HB.out.size;have hlo1:=hb1.size;replace HB:=Lib.hid (HB.out.trans (hb1.mono HB.out.size));replace HX0:=Lib.hid (cell_later HX0.out hb1);have HD:=Lib.hid hd;have HU:=Lib.hid hu;clear hd hb1 hu))
   | (go_at_call 8;(with_reducible refine (HFM.out _ _ _ _ HD.out hlo1 HU.out).mono ?_);go_must (rintro e w2 ⟨s2,h2,rfl,-,-,-,-,-,-,-,F2,-,-⟩;replace HB:=Lib.hid (HB.out.trans ((F2.bel HD.out).mono hlo0));have hx0:=(F2.bel HD.out).cell (p:=⟨w.heap.size,0,none⟩) (by show w.heap.size < _;have:=HBS.out;omega);rw [HX0.out] at hx0;replace HX0:=Lib.hid hx0;clear F2)))
  go_ret
  exact ⟨rfl,HB.out⟩
 have t8:((nm:Int) != (na:Int))=false:=by simp;omega
 have t8e:((nm:Int) == (na:Int))=true:=by simp;omega
 by_cases h9:at_ < 1
 ·have t9:at_ < 1:=by omega
  have t9d:decide (at_ < 1)=true:=decide_eq_true t9
  clear h1 hk h3
  go_enter Try.func5,Try.ntmps5
  (try simp only [hwb])
  go_wp2_with (first
   | (go_at_call 6;(with_reducible refine (first15_any _).mono ?_);go_must (rintro e wf ⟨rfl,hb1⟩;replace HB:=Lib.hid (HB.out.trans (hb1.mono HB.out.size));replace HX0:=Lib.hid (cell_later HX0.out hb1);have hx0:=HX0.out;have hzf:=hb1.size;clear hb1))
   | (go_at_call 7;(with_reducible refine (HN.out _).mono ?_);go_must (rintro e w1 ⟨d,h0,rfl,hd,hu,hb1⟩;have hlo0:=HB.out.size;have hlo1:=hb1.size;replace HB:=Lib.hid (HB.out.trans (hb1.mono HB.out.size));replace HX0:=Lib.hid (cell_later HX0.out hb1);have HD:=Lib.hid hd;have HU:=Lib.hid hu;clear hd hb1 hu))
   | (go_at_call 8;(with_reducible refine (HFM.out _ _ _ _ HD.out hlo1 HU.out).mono ?_);go_must (rintro e w2 ⟨s2,h2,rfl,-,-,-,-,-,-,-,F2,-,-⟩;replace HB:=Lib.hid (HB.out.trans ((F2.bel HD.out).mono hlo0));have hx0:=(F2.bel HD.out).cell (p:=⟨w.heap.size,0,none⟩) (by show w.heap.size < _;have:=HBS.out;omega);rw [HX0.out] at hx0;replace HX0:=Lib.hid hx0;clear F2)))
  go_ret
  exact ⟨rfl,HB.out⟩
 have t9:¬ at_ < 1:=by omega
 have t9d:decide (at_ < 1)=false:=decide_eq_false t9
 by_cases h10:1000 < at_
 ·have t10:(1000:Int) < at_:=by omega
  have t10d:decide ((1000:Int) < at_)=true:=decide_eq_true t10
  clear h1 hk h3
  go_enter Try.func5,Try.ntmps5
  (try simp only [hwb])
  go_wp2_with (first
   | (go_at_call 6;(with_reducible refine (first15_any _).mono ?_);go_must (rintro e wf ⟨rfl,hb1⟩;replace HB:=Lib.hid (HB.out.trans (hb1.mono HB.out.size));replace HX0:=Lib.hid (cell_later HX0.out hb1);have hx0:=HX0.out;have hzf:=hb1.size;clear hb1))
   | (go_at_call 7;(with_reducible refine (HN.out _).mono ?_);go_must (rintro e w1 ⟨d,h0,rfl,hd,hu,hb1⟩;have hlo0:=HB.out.size;have hlo1:=hb1.size;replace HB:=Lib.hid (HB.out.trans (hb1.mono HB.out.size));replace HX0:=Lib.hid (cell_later HX0.out hb1);have HD:=Lib.hid hd;have HU:=Lib.hid hu;clear hd hb1 hu))
   | (go_at_call 8;(with_reducible refine (HFM.out _ _ _ _ HD.out hlo1 HU.out).mono ?_);go_must (rintro e w2 ⟨s2,h2,rfl,-,-,-,-,-,-,-,F2,-,-⟩;replace HB:=Lib.hid (HB.out.trans ((F2.bel HD.out).mono hlo0));have hx0:=(F2.bel HD.out).cell (p:=⟨w.heap.size,0,none⟩) (by show w.heap.size < _;have:=HBS.out;omega);rw [HX0.out] at hx0;replace HX0:=Lib.hid hx0;clear F2)))
  go_ret
  exact ⟨rfl,HB.out⟩
 omega
end Go.Proofs.Ytdoanopeejeeiaa

