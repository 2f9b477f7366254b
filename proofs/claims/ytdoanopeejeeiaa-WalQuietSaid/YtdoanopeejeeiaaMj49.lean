/- XWalQuiet0 XWalQuietW -/
import Derived.Test.YtdoanopeejeeiaaMj47
import Derived.Test.YtdoanopeejeeiaaMj46
import Derived.Test.YtdoanopeejeeiaaMj48
namespace Go.Proofs.Ytdoanopeejeeiaa
set_option linter.all false
open Go.RowKit Go.Maps
set_option maxRecDepth 100000 in
set_option maxHeartbeats 12800000 in
theorem walQuiet_out (n ring:Int) (A:Option Addr) (m c:Nat) (at_:Int) (Ak:Option Addr) (nk ck:Nat) (w:World) (hk:n < 4∨200 < n∨m < 1∨20 < m∨100 < nk∨ring < 1∨n - 4 < ring) :
  Calls Try.prog 4 #[.int .i64 n,.int .i64 ring,.slice A m c,.int .i64 at_,.slice Ak nk ck] w fun e w'=>e=.returned (.bool true)∧Below w.heap.size w w':=by
 have HB:Hid (Below w.heap.size w w):=Below.refl _ _
 by_cases h1:n < 4∨4096 < n
 ·have HN:=Lib.hid (fun w'=>newD_bad n w' h1)
  clear h1 hk
  go_enter Try.func4,Try.ntmps4
  go_wp2_with (first
   | (go_at_call 6;(with_reducible refine (first15_any _).mono ?_);go_must (rintro e wf ⟨rfl,hb1⟩;replace HB:=Lib.hid (HB.out.trans (hb1.mono HB.out.size));clear hb1))
   | (go_at_call 7;(with_reducible refine (HN.out _).mono ?_);go_must (rintro e w1 ⟨rfl,rfl⟩)))
  go_ret
  exact ⟨rfl,HB.out⟩
 obtain ⟨N,rfl⟩:∃ N:Nat,n=(N:Int):=⟨n.toNat,by omega⟩
 have HN:=Lib.hid (fun w'=>newD_any N w' (by omega) (by omega))
 by_cases h2:200 < N
 ·have t2:(200:Int) < (N:Int):=by omega
  have t2d:decide ((200:Int) < (N:Int))=true:=decide_eq_true t2
  clear h1 hk
  go_enter Try.func4,Try.ntmps4
  go_wp2_with (first
   | (go_at_call 6;(with_reducible refine (first15_any _).mono ?_);go_must (rintro e wf ⟨rfl,hb1⟩;replace HB:=Lib.hid (HB.out.trans (hb1.mono HB.out.size));clear hb1))
   | (go_at_call 7;(with_reducible refine (HN.out _).mono ?_);go_must (rintro e w1 ⟨d,h0,rfl,hd,hu,hb1⟩;have hlo0:=HB.out.size;have hlo1:=hb1.size;replace HB:=Lib.hid (HB.out.trans (hb1.mono HB.out.size));have HD:=Lib.hid hd;have HU:=Lib.hid hu;clear hd hb1 hu)))
  go_ret
  exact ⟨rfl,HB.out⟩
 have t2:¬ (200:Int) < (N:Int):=by omega
 have t2d:decide ((200:Int) < (N:Int))=false:=decide_eq_false t2
 by_cases h3:m < 1
 ·have t3:(m:Int) < 1:=by omega
  have t3d:decide ((m:Int) < 1)=true:=decide_eq_true t3
  clear h1 hk
  go_enter Try.func4,Try.ntmps4
  go_wp2_with (first
   | (go_at_call 6;(with_reducible refine (first15_any _).mono ?_);go_must (rintro e wf ⟨rfl,hb1⟩;replace HB:=Lib.hid (HB.out.trans (hb1.mono HB.out.size));clear hb1))
   | (go_at_call 7;(with_reducible refine (HN.out _).mono ?_);go_must (rintro e w1 ⟨d,h0,rfl,hd,hu,hb1⟩;have hlo0:=HB.out.size;have hlo1:=hb1.size;replace HB:=Lib.hid (HB.out.trans (hb1.mono HB.out.size));have HD:=Lib.hid hd;have HU:=Lib.hid hu;clear hd hb1 hu)))
  go_ret
  exact ⟨rfl,HB.out⟩
 have t3:¬ (m:Int) < 1:=by omega
 have t3d:decide ((m:Int) < 1)=false:=decide_eq_false t3
 by_cases h4:20 < m
 ·have t4:(20:Int) < (m:Int):=by omega
  have t4d:decide ((20:Int) < (m:Int))=true:=decide_eq_true t4
  clear h1 hk
  go_enter Try.func4,Try.ntmps4
  go_wp2_with (first
   | (go_at_call 6;(with_reducible refine (first15_any _).mono ?_);go_must (rintro e wf ⟨rfl,hb1⟩;replace HB:=Lib.hid (HB.out.trans (hb1.mono HB.out.size));clear hb1))
   | (go_at_call 7;(with_reducible refine (HN.out _).mono ?_);go_must (rintro e w1 ⟨d,h0,rfl,hd,hu,hb1⟩;have hlo0:=HB.out.size;have hlo1:=hb1.size;replace HB:=Lib.hid (HB.out.trans (hb1.mono HB.out.size));have HD:=Lib.hid hd;have HU:=Lib.hid hu;clear hd hb1 hu)))
  go_ret
  exact ⟨rfl,HB.out⟩
 have t4:¬ (20:Int) < (m:Int):=by omega
 have t4d:decide ((20:Int) < (m:Int))=false:=decide_eq_false t4
 by_cases h5:100 < nk
 ·have t5:(100:Int) < (nk:Int):=by omega
  have t5d:decide ((100:Int) < (nk:Int))=true:=decide_eq_true t5
  clear h1 hk
  go_enter Try.func4,Try.ntmps4
  go_wp2_with (first
   | (go_at_call 6;(with_reducible refine (first15_any _).mono ?_);go_must (rintro e wf ⟨rfl,hb1⟩;replace HB:=Lib.hid (HB.out.trans (hb1.mono HB.out.size));clear hb1))
   | (go_at_call 7;(with_reducible refine (HN.out _).mono ?_);go_must (rintro e w1 ⟨d,h0,rfl,hd,hu,hb1⟩;have hlo0:=HB.out.size;have hlo1:=hb1.size;replace HB:=Lib.hid (HB.out.trans (hb1.mono HB.out.size));have HD:=Lib.hid hd;have HU:=Lib.hid hu;clear hd hb1 hu)))
  go_ret
  exact ⟨rfl,HB.out⟩
 have t5:¬ (100:Int) < (nk:Int):=by omega
 have t5d:decide ((100:Int) < (nk:Int))=false:=decide_eq_false t5
 have h7:ring < 1∨(N:Int) - 4 < ring:=by omega
 have HFB:=Lib.hid (fun lo d h w' (H:DkOk w' lo d h (newD N))=>formatW_bad lo d h (newD N) ring w' H h7)
 clear h1 hk h7 h2 h3 h4 h5
 go_enter Try.func4,Try.ntmps4
 go_wp2_with (first
  | (go_at_call 6;(with_reducible refine (first15_any _).mono ?_);go_must (rintro e wf ⟨rfl,hb1⟩;replace HB:=Lib.hid (HB.out.trans (hb1.mono HB.out.size));clear hb1))
  | (go_at_call 7;(with_reducible refine (HN.out _).mono ?_);go_must (rintro e w1 ⟨d,h0,rfl,hd,hu,hb1⟩;have hlo0:=HB.out.size;have hlo1:=hb1.size;replace HB:=Lib.hid (HB.out.trans (hb1.mono HB.out.size));have HD:=Lib.hid hd;have HU:=Lib.hid hu;clear hd hb1 hu))
  | (go_at_call 8;(with_reducible refine (HFB.out _ _ _ _ HD.out).mono ?_);go_must (rintro e w2 ⟨rfl,rfl⟩)))
 go_ret
 exact ⟨rfl,HB.out⟩
end Go.Proofs.Ytdoanopeejeeiaa

/- WalQuiet, its two ways joined. -/
namespace Go.Proofs.Ytdoanopeejeeiaa
set_option linter.all false
open Go.RowKit
theorem walQuiet_walk (n ring:Int) (A:Option Addr) (m c:Nat) (zs:List (List Int × Bs)) (at_:Int) (Ak:Option Addr) (nk ck:Nat) (mb:Bs) (w:World) (hr:RdSets w w.heap.size A m zs) (hmb:RdB w w.heap.size Ak nk mb) (hat:at_≤9223372036854775807) :
  Calls Try.prog 4 #[.int .i64 n,.int .i64 ring,.slice A m c,.int .i64 at_,.slice Ak nk ck] w fun e w'=>e=.returned (.bool true)∧Below w.heap.size w w':=by
 by_cases hk:n < 4∨200 < n∨m < 1∨20 < m∨100 < nk∨ring < 1∨n - 4 < ring
 ·exact walQuiet_out n ring A m c at_ Ak nk ck w hk
 ·obtain ⟨N,rfl⟩:∃ N:Nat,n=(N:Int):=⟨n.toNat,by omega⟩
  obtain ⟨R,rfl⟩:∃ R:Nat,ring=(R:Int):=⟨ring.toNat,by omega⟩
  exact walQuiet_main N R A m c at_ Ak nk ck mb zs w hr hmb (by omega) (by omega) (by omega) (by omega) (by omega) (by omega) (by omega) hat
end Go.Proofs.Ytdoanopeejeeiaa

