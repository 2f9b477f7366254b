/- XPg5 XPngWrites -/
import Derived.Test.YteoolehdomjkkaaGreatMe38
import Derived.Test.YteoolehdomjkkaaGreatMe34
import Derived.Test.YteoolehdomjkkaaGreatMe54
import Derived.Test.YteoolehdomjkkaaGreatMe35
import Derived.Test.YteoolehdomjkkaaGreatMe02
namespace Go.Proofs.YteoolehdomjkkaaGreat
set_option linter.all false
open Go.RowKit
set_option maxRecDepth 100000 in
set_option maxHeartbeats 6400000 in
theorem lace_any (W H C D K m c B:Nat) (A:Option Addr) (bs:List UInt8) (w:World) (hs:PS W H C D K) (hz:H * (W * K)≤16384) (h:RdB w B A m bs) (hB:B≤w.heap.size) (hm:m=H * (W * K)) (hcap:m≤c) :
  Calls Tryz.prog 15 #[.agg #[.int .i64 (W:Int),.int .i64 (H:Int),.int .i64 (C:Int),.int .i64 (D:Int),.slice A m c]] w fun e w'=>∃ g9 n9 c9 l,e=.returned (.tuple #[.slice (some ⟨g9,0,none⟩) n9 c9,.int .i64 0])∧RowM w' g9 n9 c9 l∧FileI (hdrL W H C D 1) (lcF W H K bs 7) l∧Below w.heap.size w w':=by
 obtain ⟨F7,hF7⟩:∃ F,lcF W H K bs 7=F:=⟨_,rfl⟩
 have HF7:=Lib.hid hF7
 rw [hF7]
 clear hF7
 obtain ⟨w1,hw1⟩:∃ w1,w.alloc (.cells #[.int .i64 (W:Int),.int .i64 (H:Int),.int .i64 (C:Int),.int .i64 (D:Int),.slice A m c] 26)=w1:=⟨_,rfl⟩
 obtain ⟨bk,hbk⟩:∃ b,w.heap.size=b:=⟨_,rfl⟩
 have HA1:Hid (Arr w1 bk [.int .i64 (W:Int),.int .i64 (H:Int),.int .i64 (C:Int),.int .i64 (D:Int),.slice A m c]):=(show Arr _ _ _ by rw [← hw1,← hbk];exact Arr.new w [.int .i64 (W:Int),.int .i64 (H:Int),.int .i64 (C:Int),.int .i64 (D:Int),.slice A m c] _)
 have HR1:Hid (RdB w1 B A m bs):=(show RdB _ _ _ _ _ by rw [← hw1];exact Rd.alloc h hB _)
 have HB1:Hid (Below bk w w1):=(show Below _ _ _ by rw [← hw1,← hbk];exact (Below.refl w.heap.size w).alloc (Nat.le_refl _) _)
 have hz1:w1.heap.size=bk+1:=by rw [← hw1,World.size_alloc,hbk]
 have HMY:=Lib.hid (fun w=>may_any ⟨W,H,C,D⟩ A m c w)
 have hmr:=hs.mayR hz
 rw [← hm] at hmr
 rw [hmr] at HMY
 dsimp only [Sh.r] at HMY
 have hlen:=h.len
 have HLEN:Hid (bs.length=H * (W * K)):=(show _=_ by rw [hlen,hm])
 have HS:=Lib.hid hs
 have HZZ:=Lib.hid hz
 have hm1:1≤m:=by
  rw [hm]
  exact Nat.mul_le_mul hs.h1 (Nat.mul_le_mul hs.w1 hs.k1)
 have HSM:=Lib.hid (fun k sb w h1 h7 hsb=>small_any W H C D K k sb w hs hz h1 h7 hsb)
 have HPK:=Lib.hid (fun k w2 (h:RdB w2 B A m bs) (hB:B≤w2.heap.size) (h1:1≤k) (h7:k≤7)=>pick_any W H C D K m c B (passW W H k) (passH W H k) k A bs w2 hs.w2 hs.h2 hs.c2 hs.d16 hs.k hs.k1 h hB hm hm1 hcap ⟨h1,h7⟩ (pass_le W H k hs.w2 hs.h2).1 (pass_le W H k hs.w2 hs.h2).2.1 pass_in.1 pass_in.2)
 have HFL:=Lib.hid (fun w3 A3 n3 c3 rs (h:RdB w3 w3.heap.size A3 n3 rs) (hn:n3≤40000) (hc:n3≤c3)=>file1_any W H C D w3.heap.size n3 c3 A3 rs w3 h (Nat.le_refl _) hn hc hs.w2 hs.h2 ⟨hs.c1,hs.c2⟩ hs.d)
 have a0:=HA1.out.cell (k:=0) rfl
 have a1:=HA1.out.cell (k:=1) rfl
 have a2:=HA1.out.cell (k:=2) rfl
 have a3:=HA1.out.cell (k:=3) rfl
 have a4:=HA1.out.cell (k:=4) rfl
 clear h hs hz hmr hlen hm
 rw [hbk] at hB
 go_enter Tryz.func15,Tryz.ntmps15
 simp only [hw1,hbk]
 go_wp2_with (go_at_call 41;(with_reducible refine (HMY.out _).mono ?_);go_must (rintro e w2 ⟨rfl,hb2⟩;have HA2:=Lib.hid (HA1.out.later hb2);have hz2:=hb2.size;have HR2:=Lib.hid (RdB.blw HR1.out (hb2.mono (by omega)));have HB2:=Lib.hid (HB1.out.trans (hb2.mono (by omega)));clear hb2 a0 a1 a2 a3 a4))
 clear hw1 HA1 HR1 HB1
 have HO0:=Lib.hid (ownB.nil_ w2 (bk+1))
 have HZ0:Hid (bk+1≤w2.heap.size):=(show _≤_ by omega)
 go_loopw [5,4] (fun vk vo wr=>∃ (q:Nat),1≤q∧q≤8∧vk=.int .i64 q∧Hid (ownB wr (bk+1) vo (lcF W H K bs (q - 1)))∧Hid (Arr wr bk [.int .i64 (W:Int),.int .i64 (H:Int),.int .i64 (C:Int),.int .i64 (D:Int),.slice A m c])∧Hid (RdB wr B A m bs)∧Hid (Below bk w wr)∧Hid (bk+1≤wr.heap.size)) (fun vk _ _=>9 - (intOf vk).toNat)
 case atStart=>exact ⟨1,by omega,by omega,rfl,HO0,HA2,HR2,HB2,HZ0⟩
 case round =>
  clear HA2 HR2 HB2 HO0 HZ0
  obtain ⟨q,hq1,hq8,rfl,HO,HA,HR,HB,HZ⟩:=hrel
  have hz3:=HZ.out
  have e0:=HA.out.cell (k:=0) rfl
  have e1:=HA.out.cell (k:=1) rfl
  have e2:=HA.out.cell (k:=2) rfl
  have e3:=HA.out.cell (k:=3) rfl
  obtain ⟨k,hk1⟩:∃ k,q - 1=k:=⟨_,rfl⟩
  have HK1:Hid (q=k+1):=(show _=_ by omega)
  rw [hk1] at HO
  clear hk1
  by_cases hlt:q≤7
  ·have hlti:(q:Int)≤7:=by omega
   have hq7:q≤7:=by omega
   have hqw:IntKind.i64.wrap ((q:Int)+1)=(q:Int)+1:=by rw [show (q:Int)+1=((q+1:Nat):Int) by omega];exact wrap_i64_lt _ (by omega)
   by_cases hpw:passW W H q=0
   ·have HLC:Hid (lcF W H K bs q=lcF W H K bs k):=(show _=_ by rw [HK1.out,lcF,← HK1.out,if_pos hpw,List.append_nil])
    have HS1:=Lib.hid (fun w=>HSM.out q false w hq1 hq7 (by rw [hpw];rfl))
    generalize passW W H q=pw at *
    generalize passH W H q=ph at *
    obtain ⟨Ao,co,rfl,-,-,-⟩:=HO.out.form
    obtain ⟨Fn,hFn⟩:∃ L,(lcF W H K bs k).length=L:=⟨_,rfl⟩
    rw [hFn] at HO
    simp only [hFn]
    clear hFn hpw
    go_wp2_with (go_at_call 47;(with_reducible refine (HS1.out _).mono ?_);go_must (rintro e w3 ⟨rfl,hb3⟩;have HA3:=Lib.hid (HA.out.later hb3);have HR3:=Lib.hid (RdB.blw HR.out (hb3.mono (by omega)));have HO3:=Lib.hid (HO.out.later hb3);have HB3:=Lib.hid (HB.out.trans (hb3.mono (by omega)));have hz4:=hb3.size;clear hb3))
    have HOc:Hid (ownB (w3.alloc (.cells #[.int .i64 (pw:Int),.int .i64 (ph:Int),.int .i64 (C:Int),.int .i64 (D:Int)] 23)) (bk+1) (Value.slice Ao Fn co) (lcF W H K bs k)):=(show ownB _ _ _ _ from ownB.alloc HO3.out _)
    have HAc:Hid (Arr (w3.alloc (.cells #[.int .i64 (pw:Int),.int .i64 (ph:Int),.int .i64 (C:Int),.int .i64 (D:Int)] 23)) bk [.int .i64 (W:Int),.int .i64 (H:Int),.int .i64 (C:Int),.int .i64 (D:Int),.slice A m c]):=(show Arr _ _ _ from HA3.out.alloc _)
    have HBq:Below (bk+1) w3 (w3.alloc (.cells #[.int .i64 (pw:Int),.int .i64 (ph:Int),.int .i64 (C:Int),.int .i64 (D:Int)] 23)):=(Below.refl (bk+1) w3).alloc (by omega) _
    have HRc:Hid (RdB (w3.alloc (.cells #[.int .i64 (pw:Int),.int .i64 (ph:Int),.int .i64 (C:Int),.int .i64 (D:Int)] 23)) B A m bs):=(show RdB _ _ _ _ _ from RdB.blw HR3.out (HBq.mono (by omega)))
    have HBc:Hid (Below bk w (w3.alloc (.cells #[.int .i64 (pw:Int),.int .i64 (ph:Int),.int .i64 (C:Int),.int .i64 (D:Int)] 23))):=(show Below _ _ _ from HB3.out.trans (HBq.mono (by omega)))
    have HZc:Hid (bk+1≤(w3.alloc (.cells #[.int .i64 (pw:Int),.int .i64 (ph:Int),.int .i64 (C:Int),.int .i64 (D:Int)] 23)).heap.size):=(show _≤_ from Nat.le_trans (by omega) HBq.size)
    clear HBq
    have HOq:Hid (ownB (w3.alloc (.cells #[.int .i64 (pw:Int),.int .i64 (ph:Int),.int .i64 (C:Int),.int .i64 (D:Int)] 23)) (bk+1) (.slice Ao Fn co) (lcF W H K bs (q+1 - 1))):=(show ownB _ _ _ _ by rw [Nat.add_sub_cancel,HLC.out];exact HOc.out)
    go_roundw
    case rel=>exact ⟨q+1,by omega,by omega,by go_num,HOq,HAc,HRc,HBc,HZc⟩
    case measure=>simp [intOf];omega
   ·have hpp:=pass_le W H q HS.out.w2 HS.out.h2
    have hpw1:1≤passW W H q:=by omega
    have hph1:1≤passH W H q:=by
     have h1:¬ passH W H q=0:=fun e=>hpw (hpp.2.2.2 e)
     omega
    have hps:=HS.out.pass hpw1 hpp.1 hph1 hpp.2.1
    have hpl:=pkJ_len (K:=K) HLEN.out (pass_in (W:=W) (H:=H) (k:=q)).1 (passH W H q) (pass_in (W:=W) (H:=H) (k:=q)).2
    have HLC:Hid (lcF W H K bs q=lcF W H K bs k ++ flF K (passW W H q * K) (pkJ W K bs (gT q).1.1 (gT q).1.2 (gT q).2.1 (gT q).2.2 (passW W H q) (passH W H q)) (passH W H q)):=(show _=_ by rw [HK1.out,lcF,← HK1.out,if_neg hpw])
    have hfl2:=lcF_le HS.out HLEN.out HZZ.out (k:=q) (by omega)
    rw [HLC.out,List.length_append] at hfl2
    have hpm:passH W H q * (passW W H q * K)≤1000000:=by
     have h1:=Nat.mul_le_mul hpp.2.1 (Nat.mul_le_mul hpp.1 HS.out.k8)
     omega
    have HFI:=Lib.hid (fun m' c' B' A' w2 (h:RdB w2 B' A' m' (pkJ W K bs (gT q).1.1 (gT q).1.2 (gT q).2.1 (gT q).2.2 (passW W H q) (passH W H q))) (hB:B'≤w2.heap.size) (hc:m'≤c')=>filtered_any (passW W H q) (passH W H q) C D K m' c' B' A' _ w2 hps.nums HS.out.k h hB (h.len.symm.trans hpl) hc (by rw [h.len.symm.trans hpl];exact hpm))
    have HS1:=Lib.hid (fun w=>HSM.out q true w hq1 hq7 (decide_eq_true hpw1))
    have HPK1:=Lib.hid (fun w2 h hB=>HPK.out q w2 h hB hq1 hq7)
    generalize flF K (passW W H q * K) (pkJ W K bs (gT q).1.1 (gT q).1.2 (gT q).2.1 (gT q).2.2 (passW W H q) (passH W H q)) (passH W H q)=F2 at *
    generalize pkJ W K bs (gT q).1.1 (gT q).1.2 (gT q).2.1 (gT q).2.2 (passW W H q) (passH W H q)=px at *
    generalize passW W H q=pw at *
    generalize passH W H q=ph at *
    obtain ⟨Ao,co,rfl,-,-,-⟩:=HO.out.form
    obtain ⟨Fn,hFn⟩:∃ L,(lcF W H K bs k).length=L:=⟨_,rfl⟩
    rw [hFn] at HO hfl2
    simp only [hFn]
    have HFN:=Lib.hid hFn
    clear hps hpl hpm hpp hpw hFn
    go_upto_region 9 with (first
     | (go_at_call 47;(with_reducible refine (HS1.out _).mono ?_);go_must (rintro e w3 ⟨rfl,hb3⟩;have HA3:=Lib.hid (HA.out.later hb3);have HR3:=Lib.hid (RdB.blw HR.out (hb3.mono (by omega)));have HO3:=Lib.hid (HO.out.later hb3);have HB3:=Lib.hid (HB.out.trans (hb3.mono (by omega)));have hz4:=hb3.size;clear hb3)))
    have HOc:Hid (ownB (w3.alloc (.cells #[.int .i64 (pw:Int),.int .i64 (ph:Int),.int .i64 (C:Int),.int .i64 (D:Int)] 23)) (bk+1) (Value.slice Ao Fn co) (lcF W H K bs k)):=(show ownB _ _ _ _ from ownB.alloc HO3.out _)
    have HAc:Hid (Arr (w3.alloc (.cells #[.int .i64 (pw:Int),.int .i64 (ph:Int),.int .i64 (C:Int),.int .i64 (D:Int)] 23)) bk [.int .i64 (W:Int),.int .i64 (H:Int),.int .i64 (C:Int),.int .i64 (D:Int),.slice A m c]):=(show Arr _ _ _ from HA3.out.alloc _)
    have HBq:Below (bk+1) w3 (w3.alloc (.cells #[.int .i64 (pw:Int),.int .i64 (ph:Int),.int .i64 (C:Int),.int .i64 (D:Int)] 23)):=(Below.refl (bk+1) w3).alloc (by omega) _
    have HRc:Hid (RdB (w3.alloc (.cells #[.int .i64 (pw:Int),.int .i64 (ph:Int),.int .i64 (C:Int),.int .i64 (D:Int)] 23)) B A m bs):=(show RdB _ _ _ _ _ from RdB.blw HR3.out (HBq.mono (by omega)))
    have HBc:Hid (Below bk w (w3.alloc (.cells #[.int .i64 (pw:Int),.int .i64 (ph:Int),.int .i64 (C:Int),.int .i64 (D:Int)] 23))):=(show Below _ _ _ from HB3.out.trans (HBq.mono (by omega)))
    have HZc:Hid (bk+1≤(w3.alloc (.cells #[.int .i64 (pw:Int),.int .i64 (ph:Int),.int .i64 (C:Int),.int .i64 (D:Int)] 23)).heap.size):=(show _≤_ from Nat.le_trans (by omega) HBq.size)
    have HPc:Hid (Arr (w3.alloc (.cells #[.int .i64 (pw:Int),.int .i64 (ph:Int),.int .i64 (C:Int),.int .i64 (D:Int)] 23)) w3.heap.size [.int .i64 (pw:Int),.int .i64 (ph:Int),.int .i64 (C:Int),.int .i64 (D:Int)]):=(show Arr _ _ _ from Arr.new w3 [.int .i64 (pw:Int),.int .i64 (ph:Int),.int .i64 (C:Int),.int .i64 (D:Int)] 23)
    clear HBq HA3 HR3 HO3 HB3
    generalize w3.alloc (.cells #[.int .i64 (pw:Int),.int .i64 (ph:Int),.int .i64 (C:Int),.int .i64 (D:Int)] 23)=wq at *
    generalize w3.heap.size=G at *
    have hzq:=HZc.out
    have HPK2:=Lib.hid (HPK1.out wq HRc.out (by omega))
    have d0:=HAc.out.cell (k:=0) rfl
    have d1:=HAc.out.cell (k:=1) rfl
    have d2:=HAc.out.cell (k:=2) rfl
    have d3:=HAc.out.cell (k:=3) rfl
    have d4:=HAc.out.cell (k:=4) rfl
    have p0:=HPc.out.cell (k:=0) rfl
    have p1:=HPc.out.cell (k:=1) rfl
    have p2:=HPc.out.cell (k:=2) rfl
    have p3:=HPc.out.cell (k:=3) rfl
    go_wp2_with (first
     | (go_at_call 48;(with_reducible refine HPK2.out.mono ?_);go_must (rintro e w5 ⟨A5,n5,c5,rfl,ho5,hb5⟩;obtain ⟨A6,c6,hv5,hr5,hc5,-⟩:=ho5.form;injection hv5 with q1 q2 q3;subst q1 q2 q3;have hz5:=hb5.size;have HO5:=Lib.hid (HOc.out.later hb5);have HA5:=Lib.hid (HAc.out.later hb5);have HR5:=Lib.hid (RdB.blw HRc.out (hb5.mono (by omega)));have HB5:=Lib.hid (HBc.out.trans (hb5.mono (by omega)));have HFI5:=Lib.hid (HFI.out _ _ _ _ w5 hr5 (Nat.le_refl _) hc5);clear ho5 hb5 hr5))
     | (go_at_call 42;(with_reducible refine HFI5.out.mono ?_);go_must (rintro e w6 ⟨v6,rfl,ho6,hb6⟩;obtain ⟨A7,c7,rfl,hr6,-,-⟩:=ho6.form;have hz6:=hb6.size;have HO6:=Lib.hid (HO5.out.later hb6);have HA6:=Lib.hid (HA5.out.later hb6);have HR6:=Lib.hid (RdB.blw HR5.out (hb6.mono (by omega)));have HB6:=Lib.hid (HB5.out.trans (hb6.mono (by omega)));have HF6:=Lib.hid hr6;have hq9:bk+1≤w6.heap.size:=(by omega);clear ho6 hb6 hr6))
     | (at_builtin;(refine wpList_appendB rfl (.tmp 37) (.tmp 38) rfl (bk+1) (.slice Ao Fn co) (lcF W H K bs k) rfl HO6.out _ F2.length c7 A7 F2 rfl HF6.out (by rw [HFN.out];omega) hq9 ?_;intro v7 w7 ho7 hg7 hb7 ha7;rw [← HLC.out] at ho7;have HA7:=Lib.hid (HA6.out.blw hb7 (by omega));have HR7:=Lib.hid (RdB.blw HR6.out (hb7.mono (by omega)));have HB7:=Lib.hid (HB6.out.trans (hb7.mono (by omega)));have HO7:Hid (ownB w7 (bk+1) v7 (lcF W H K bs (q+1 - 1))):=(show ownB _ _ _ _ by rw [Nat.add_sub_cancel];exact ho7);have HZ7:Hid (bk+1≤w7.heap.size):=(Nat.le_trans hq9 hb7.size);clear ho7 hg7 hb7 ha7)))
    go_roundw
    case rel=>exact ⟨q+1,by omega,by omega,by go_num,HO7,HA7,HR7,HB7,HZ7⟩
    case measure=>simp [intOf];omega
  ·have hfl:=lcF_le HS.out HLEN.out HZZ.out (k:=k) (by have:=HK1.out;omega)
   have HFE:Hid (lcF W H K bs k=F7):=(show _=_ by
    obtain rfl:k=7:=by have:=HK1.out;omega
    exact HF7.out)
   rw [HFE.out] at HO hfl
   have hlti:¬ (q:Int)≤7:=by omega
   obtain ⟨A3,c3,rfl,hr3,hc3,-⟩:=HO.out.form
   have HFL3:=Lib.hid (HFL.out wr A3 F7.length c3 F7 hr3 (by omega) hc3)
   clear hr3
   go_wp2_with (go_at_call 43;(with_reducible refine HFL3.out.mono ?_);go_must (rintro e w4 ⟨g9,n9,c9,l,rfl,hr4,hi4,hb4⟩;have HR4:=Lib.hid hr4;have HI4:=Lib.hid hi4;have HB4:=Lib.hid (HB.out.trans (hb4.mono (by omega)));clear hr4 hb4 hi4))
   go_ret2
   exact ⟨g9,n9,c9,l,rfl,HR4.out,HI4.out,HB4.out⟩
end Go.Proofs.YteoolehdomjkkaaGreat

namespace Go.Proofs.YteoolehdomjkkaaGreat
set_option linter.all false
open Go.RowKit
theorem may_boundsW {s:Sh} (h:s.may=true):1≤s.w∧s.w≤256∧1≤s.h∧s.h≤256:=by
 unfold Sh.may at h
 rw [Bool.and_eq_true] at h
 obtain ⟨⟨h1,h2⟩,⟨h3,h4⟩,_⟩:=(Sh.nums_iff s).1 h.1
 exact ⟨h1,h2,h3,h4⟩
def EncPost (E:Int) (P:List UInt8→Prop) (w:World) (e:Ending) (w':World):Prop :=
 ∃ A9 n9 c9 l,e=.returned (.tuple #[.slice A9 n9 c9,.int .i64 E])∧RdB w' w'.heap.size A9 n9 l∧P l∧Below w.heap.size w w'
def pVI (s:Sh) (K:Int):Nat × Nat:=if s.may=true∧1≤K∧K≤7 then (passW s.w.toNat s.h.toNat K.toNat,passH s.w.toNat s.h.toNat K.toNat) else (0,0)
theorem passI_any (s:Sh) (K:Int) (w:World):Calls Tryz.prog 17 #[.agg #[.int .i64 s.w,.int .i64 s.h,.int .i64 s.c,.int .i64 s.d],.int .i64 K] w fun e w'=>e=.returned (.tuple #[.int .i64 ((pVI s K).1:Int),.int .i64 ((pVI s K).2:Int)])∧Below w.heap.size w w':=by
 unfold pVI
 by_cases h:s.may=true∧1≤K∧K≤7
 ·rw [if_pos h]
  obtain ⟨h1,h2,h3⟩:=h
  obtain ⟨k,rfl⟩:=Int.eq_ofNat_of_zero_le (show 0≤K by omega)
  obtain ⟨W,H,c,d⟩:=s
  obtain ⟨b1,b2,b3,b4⟩:=may_boundsW h1
  obtain ⟨W,rfl⟩:=Int.eq_ofNat_of_zero_le (show 0≤W by have:1≤W:=b1;omega)
  obtain ⟨H,rfl⟩:=Int.eq_ofNat_of_zero_le (show 0≤H by have:1≤H:=b3;omega)
  have b1:1≤(W:Int):=b1
  have b2:(W:Int)≤256:=b2
  have b3:1≤(H:Int):=b3
  have b4:(H:Int)≤256:=b4
  exact pass_ok W H k c d w h1 (by omega) (by omega) (by omega) (by omega)
 ·rw [if_neg h]
  exact pass_bad s K w (by
   cases e:s.may with
   | false=>exact .inl rfl
   | true=>exact .inr ⟨rfl,by
     by_cases h1:1≤K
     ·have:¬ K≤7:=fun h2=>h ⟨e,h1,h2⟩
      omega
     ·omega⟩)
theorem passI9_any (s:Sh) (K:Int) (w:World):Calls Tryz.prog 18 #[.agg #[.int .i64 s.w,.int .i64 s.h,.int .i64 s.c,.int .i64 s.d],.int .i64 K] w fun e w'=>e=.returned (.tuple #[.int .i64 ((pVI s K).1:Int),.int .i64 ((pVI s K).2:Int)])∧Below w.heap.size w w':=by
 unfold pVI
 by_cases h:s.may=true∧1≤K∧K≤7
 ·rw [if_pos h]
  obtain ⟨h1,h2,h3⟩:=h
  obtain ⟨k,rfl⟩:=Int.eq_ofNat_of_zero_le (show 0≤K by omega)
  obtain ⟨W,H,c,d⟩:=s
  obtain ⟨b1,b2,b3,b4⟩:=may_boundsW h1
  obtain ⟨W,rfl⟩:=Int.eq_ofNat_of_zero_le (show 0≤W by have:1≤W:=b1;omega)
  obtain ⟨H,rfl⟩:=Int.eq_ofNat_of_zero_le (show 0≤H by have:1≤H:=b3;omega)
  have b1:1≤(W:Int):=b1
  have b2:(W:Int)≤256:=b2
  have b3:1≤(H:Int):=b3
  have b4:(H:Int)≤256:=b4
  exact pass9_ok W H k c d w h1 (by omega) (by omega) (by omega) (by omega)
 ·rw [if_neg h]
  exact pass9_bad s K w (by
   cases e:s.may with
   | false=>exact .inl rfl
   | true=>exact .inr ⟨rfl,by
     by_cases h1:1≤K
     ·have:¬ K≤7:=fun h2=>h ⟨e,h1,h2⟩
      omega
     ·omega⟩)
theorem copyN_any (W H C D:Int) (A:Option Addr) (n c:Nat) (bs:List UInt8) (w:World) (h:RdB w w.heap.size A n bs) (hm:n≤3000) :
  Calls Tryz.prog 12 #[.agg #[.int .i64 W,.int .i64 H,.int .i64 C,.int .i64 D,.slice A n c]] w fun e w'=>∃ A' c',e=.returned (.agg #[.int .i64 W,.int .i64 H,.int .i64 C,.int .i64 D,.slice A' n c'])∧RdB w' w'.heap.size A' n bs∧n≤c'∧Below w.heap.size w w':=by
 refine (copyR_any ⟨W,H,C,D⟩ w.heap.size A n c bs w h (Nat.le_refl _) (by omega)).mono ?_
 rintro e w' ⟨A',n',c',rfl,ho,hb⟩
 obtain ⟨A6,c6,hv,hr,hc,-⟩:=ho.form
 injection hv with q1 q2 q3
 subst q1 q2 q3
 obtain rfl:bs.length=n:=h.len
 exact ⟨_,_,rfl,hr,hc,hb⟩
theorem bytesE_any (n n' c c':Nat) (A A':Option Addr) (xs ys:List UInt8) (w:World) (h:RdB w w.heap.size A n xs) (h':RdB w w.heap.size A' n' ys) (he:xs=ys) :
  Calls Tryz.prog 10 #[.slice A n c,.slice A' n' c'] w fun e w'=>e=.returned (.bool true)∧w=w':=by
 subst he
 refine (bytes_any _ _ _ _ _ _ _ _ _ _ _ h h').mono ?_
 rintro e w' ⟨rfl,h⟩
 exact ⟨by simp,h⟩
theorem rasterE_any (W H C D:Int) (n c c':Nat) (A A':Option Addr) (xs:List UInt8) (w:World) (h:RdB w w.heap.size A n xs) (h':RdB w w.heap.size A' n xs) :
  Calls Tryz.prog 19 #[.agg #[.int .i64 W,.int .i64 H,.int .i64 C,.int .i64 D,.slice A n c],.agg #[.int .i64 W,.int .i64 H,.int .i64 C,.int .i64 D,.slice A' n c']] w fun e w'=>e=.returned (.bool true)∧Below w.heap.size w w':=by
 refine (sameR_any ⟨W,H,C,D⟩ ⟨W,H,C,D⟩ _ n c _ n c' A A' xs xs w h h' (Nat.le_refl _) (Nat.le_refl _)).mono ?_
 rintro e w' ⟨rfl,h⟩
 exact ⟨by simp,h⟩
set_option maxRecDepth 100000 in
theorem pngWrites_long (W H C D K:Int) (n c:Nat) (A:Option Addr) (bs:List UInt8) (w:World) (h:RdB w w.heap.size A n bs) (hn:3000 < n) :
  Calls Tryz.prog 4 #[.agg #[.int .i64 W,.int .i64 H,.int .i64 C,.int .i64 D,.slice A n c],.int .i64 K] w fun e w'=>e=.returned (.bool true)∧Below w.heap.size w w':=by
 have hni:(3000:Int) < (n:Int):=by omega
 obtain ⟨w1,hw1⟩:∃ w1,w.alloc (.cells #[.int .i64 W,.int .i64 H,.int .i64 C,.int .i64 D,.slice A n c] 26)=w1:=⟨_,rfl⟩
 obtain ⟨bk,hbk⟩:∃ b,w.heap.size=b:=⟨_,rfl⟩
 have HA:Hid (Arr w1 bk [.int .i64 W,.int .i64 H,.int .i64 C,.int .i64 D,.slice A n c]):=(show Arr _ _ _ by rw [← hw1,← hbk];exact Arr.new w [.int .i64 W,.int .i64 H,.int .i64 C,.int .i64 D,.slice A n c] _)
 have HB:Hid (Below bk w w1):=(show Below _ _ _ by rw [← hw1,← hbk];exact (Below.refl w.heap.size w).alloc (Nat.le_refl _) _)
 have HR:Hid (RdB w1 w1.heap.size A n bs):=(show RdB _ _ _ _ _ by rw [← hw1];exact Rd.here (Rd.alloc h (Nat.le_refl _) _))
 have hz1:w1.heap.size=bk+1:=by rw [← hw1,World.size_alloc,hbk]
 have hbz:bk≤w1.heap.size:=by omega
 have a0:=HA.out.cell (k:=0) rfl
 have a1:=HA.out.cell (k:=1) rfl
 have a2:=HA.out.cell (k:=2) rfl
 have a3:=HA.out.cell (k:=3) rfl
 have a4:=HA.out.cell (k:=4) rfl
 clear h hz1
 go_enter Tryz.func4,Tryz.ntmps4
 simp only [hw1,hbk]
 go_wp2_with (first
  | (go_at_call 11;(with_reducible refine (first13_any _).mono ?_);go_must (rintro e w2 ⟨rfl,hb⟩;have hsz:=hb.size;replace HA:=Lib.hid (HA.out.later hb);replace HB:=Lib.hid (HB.out.trans (hb.mono (by omega)));replace hbz:bk≤w2.heap.size:=Nat.le_trans hbz hsz;replace a0:=HA.out.cell (k:=0) rfl;replace a1:=HA.out.cell (k:=1) rfl;replace a2:=HA.out.cell (k:=2) rfl;replace a3:=HA.out.cell (k:=3) rfl;replace a4:=HA.out.cell (k:=4) rfl;clear hb hsz)))
 go_ret
 exact ⟨rfl,HB.out⟩
set_option maxRecDepth 100000 in
set_option maxHeartbeats 12800000 in
theorem pngWrites_main (W H C D K E:Int) (x y n c:Nat) (A:Option Addr) (bs:List UInt8) (P1 P2:List UInt8→Prop) (w:World) (h:RdB w w.heap.size A n bs) (hc:n≤c) (hn:n≤3000)
  (u1:∀ l l',P1 l→P1 l'→l=l') (u2:∀ l l',P2 l→P2 l'→l=l')
  (hEn:∀ (A:Option Addr) (c:Nat) (w:World),RdB w w.heap.size A n bs→n≤c→Calls Tryz.prog 13 #[.agg #[.int .i64 W,.int .i64 H,.int .i64 C,.int .i64 D,.slice A n c]] w fun e w'=>EncPost E P1 w e w')
  (hPn:∀ (A:Option Addr) (c:Nat) (w:World),RdB w w.heap.size A n bs→n≤c→Calls Tryz.prog 14 #[.agg #[.int .i64 W,.int .i64 H,.int .i64 C,.int .i64 D,.slice A n c]] w fun e w'=>EncPost E P1 w e w')
  (hLa:∀ (A:Option Addr) (c:Nat) (w:World),RdB w w.heap.size A n bs→n≤c→Calls Tryz.prog 15 #[.agg #[.int .i64 W,.int .i64 H,.int .i64 C,.int .i64 D,.slice A n c]] w fun e w'=>EncPost E P2 w e w')
  (hL9:∀ (A:Option Addr) (c:Nat) (w:World),RdB w w.heap.size A n bs→n≤c→Calls Tryz.prog 16 #[.agg #[.int .i64 W,.int .i64 H,.int .i64 C,.int .i64 D,.slice A n c]] w fun e w'=>EncPost E P2 w e w')
  (hPa:∀ w,Calls Tryz.prog 17 #[.agg #[.int .i64 W,.int .i64 H,.int .i64 C,.int .i64 D],.int .i64 K] w fun e w'=>e=.returned (.tuple #[.int .i64 (x:Int),.int .i64 (y:Int)])∧Below w.heap.size w w')
  (hP9:∀ w,Calls Tryz.prog 18 #[.agg #[.int .i64 W,.int .i64 H,.int .i64 C,.int .i64 D],.int .i64 K] w fun e w'=>e=.returned (.tuple #[.int .i64 (x:Int),.int .i64 (y:Int)])∧Below w.heap.size w w') :
  Calls Tryz.prog 4 #[.agg #[.int .i64 W,.int .i64 H,.int .i64 C,.int .i64 D,.slice A n c],.int .i64 K] w fun e w'=>e=.returned (.bool true)∧Below w.heap.size w w':=by
 have hni:¬ (3000:Int) < (n:Int):=by omega
 have HEN:=Lib.hid hEn
 have HPN:=Lib.hid hPn
 have HLA:=Lib.hid hLa
 have HL9:=Lib.hid hL9
 have HPA:=Lib.hid hPa
 have HP9:=Lib.hid hP9
 have U1:=Lib.hid u1
 have U2:=Lib.hid u2
 have HNN:=Lib.hid hn
 have HCC:=Lib.hid hc
 clear hEn hPn hLa hL9 hPa hP9 u1 u2 hn hc
 obtain ⟨w1,hw1⟩:∃ w1,w.alloc (.cells #[.int .i64 W,.int .i64 H,.int .i64 C,.int .i64 D,.slice A n c] 26)=w1:=⟨_,rfl⟩
 obtain ⟨bk,hbk⟩:∃ b,w.heap.size=b:=⟨_,rfl⟩
 have HA:Hid (Arr w1 bk [.int .i64 W,.int .i64 H,.int .i64 C,.int .i64 D,.slice A n c]):=(show Arr _ _ _ by rw [← hw1,← hbk];exact Arr.new w [.int .i64 W,.int .i64 H,.int .i64 C,.int .i64 D,.slice A n c] _)
 have HB:Hid (Below bk w w1):=(show Below _ _ _ by rw [← hw1,← hbk];exact (Below.refl w.heap.size w).alloc (Nat.le_refl _) _)
 have HR:Hid (RdB w1 w1.heap.size A n bs):=(show RdB _ _ _ _ _ by rw [← hw1];exact Rd.here (Rd.alloc h (Nat.le_refl _) _))
 have hz1:w1.heap.size=bk+1:=by rw [← hw1,World.size_alloc,hbk]
 have hbz:bk≤w1.heap.size:=by omega
 have a0:=HA.out.cell (k:=0) rfl
 have a1:=HA.out.cell (k:=1) rfl
 have a2:=HA.out.cell (k:=2) rfl
 have a3:=HA.out.cell (k:=3) rfl
 have a4:=HA.out.cell (k:=4) rfl
 clear h hz1
 go_enter Tryz.func4,Tryz.ntmps4
 simp only [hw1,hbk]
 go_upto_region 6 with (first
  | (go_at_call 11;(with_reducible refine (first13_any _).mono ?_);go_must (rintro e w2 ⟨rfl,hb⟩;replace HA:=Lib.hid (HA.out.later hb);replace HR:=Lib.hid (RdB.later HR.out hb);replace HB:=Lib.hid (HB.out.trans (hb.mono hbz));replace hbz:bk≤w2.heap.size:=Nat.le_trans hbz hb.size;replace a0:=HA.out.cell (k:=0) rfl;replace a1:=HA.out.cell (k:=1) rfl;replace a2:=HA.out.cell (k:=2) rfl;replace a3:=HA.out.cell (k:=3) rfl;replace a4:=HA.out.cell (k:=4) rfl;have HCP:=Lib.hid (copyN_any W H C D A n c bs w2 HR.out HNN.out);clear hb))
  | (go_at_call 12;(with_reducible refine (HCP.out).mono ?_);go_must (rintro e w3 ⟨Ac,cc,rfl,hrc,hcc,hb⟩;have HD:=Lib.hid hrc;replace HA:=Lib.hid (HA.out.later hb);replace HR:=Lib.hid (RdB.later HR.out hb);replace HB:=Lib.hid (HB.out.trans (hb.mono hbz));replace hbz:bk≤w3.heap.size:=Nat.le_trans hbz hb.size;replace a0:=HA.out.cell (k:=0) rfl;replace a1:=HA.out.cell (k:=1) rfl;replace a2:=HA.out.cell (k:=2) rfl;replace a3:=HA.out.cell (k:=3) rfl;replace a4:=HA.out.cell (k:=4) rfl;clear hrc;clear hb)))
 have HC:Hid (Arr (w3.alloc (.cells #[.int .i64 W,.int .i64 H,.int .i64 C,.int .i64 D,.slice Ac n cc] 26)) w3.heap.size [.int .i64 W,.int .i64 H,.int .i64 C,.int .i64 D,.slice Ac n cc]):=(show Arr _ _ _ from Arr.new w3 [.int .i64 W,.int .i64 H,.int .i64 C,.int .i64 D,.slice Ac n cc] _)
 have hb:Below w3.heap.size w3 (w3.alloc (.cells #[.int .i64 W,.int .i64 H,.int .i64 C,.int .i64 D,.slice Ac n cc] 26)):=(Below.refl w3.heap.size w3).alloc (Nat.le_refl _) _
 replace HA:=Lib.hid (HA.out.later hb)
 replace HR:=Lib.hid (RdB.later HR.out hb)
 replace HD:=Lib.hid (RdB.later HD.out hb)
 replace HB:=Lib.hid (HB.out.trans (hb.mono hbz))
 replace hbz:bk≤(w3.alloc (.cells #[.int .i64 W,.int .i64 H,.int .i64 C,.int .i64 D,.slice Ac n cc] 26)).heap.size:=Nat.le_trans hbz hb.size
 clear hb HCP a0 a1 a2 a3 a4
 generalize w3.alloc (.cells #[.int .i64 W,.int .i64 H,.int .i64 C,.int .i64 D,.slice Ac n cc] 26)=w4 at *
 generalize w3.heap.size=g at *
 have a0:=HA.out.cell (k:=0) rfl
 have a1:=HA.out.cell (k:=1) rfl
 have a2:=HA.out.cell (k:=2) rfl
 have a3:=HA.out.cell (k:=3) rfl
 have a4:=HA.out.cell (k:=4) rfl
 have c0:=HC.out.cell (k:=0) rfl
 have c1:=HC.out.cell (k:=1) rfl
 have c2:=HC.out.cell (k:=2) rfl
 have c3:=HC.out.cell (k:=3) rfl
 have c4:=HC.out.cell (k:=4) rfl
 go_wp2_with (first
  | (go_at_call 13;(with_reducible refine (HEN.out _ _ _ HD.out hcc).mono ?_);go_must (rintro e w5 ⟨A5,n5,c5,l5,rfl,hr5,hp5,hb⟩;have HE1:=Lib.hid hr5;have Q5:=Lib.hid hp5;replace HA:=Lib.hid (HA.out.later hb);replace HC:=Lib.hid (HC.out.later hb);replace HR:=Lib.hid (RdB.later HR.out hb);replace HD:=Lib.hid (RdB.later HD.out hb);replace HB:=Lib.hid (HB.out.trans (hb.mono hbz));replace hbz:bk≤w5.heap.size:=Nat.le_trans hbz hb.size;replace a0:=HA.out.cell (k:=0) rfl;replace a1:=HA.out.cell (k:=1) rfl;replace a2:=HA.out.cell (k:=2) rfl;replace a3:=HA.out.cell (k:=3) rfl;replace a4:=HA.out.cell (k:=4) rfl;replace c0:=HC.out.cell (k:=0) rfl;replace c1:=HC.out.cell (k:=1) rfl;replace c2:=HC.out.cell (k:=2) rfl;replace c3:=HC.out.cell (k:=3) rfl;replace c4:=HC.out.cell (k:=4) rfl;clear hr5 hp5;clear hb))
  | (go_at_call 14;(with_reducible refine (HPN.out _ _ _ HR.out HCC.out).mono ?_);go_must (rintro e w6 ⟨A6,n6,c6,l6,rfl,hr6,hp6,hb⟩;have HE2:=Lib.hid hr6;have Q6:=Lib.hid hp6;replace HA:=Lib.hid (HA.out.later hb);replace HC:=Lib.hid (HC.out.later hb);replace HR:=Lib.hid (RdB.later HR.out hb);replace HD:=Lib.hid (RdB.later HD.out hb);replace HE1:=Lib.hid (RdB.later HE1.out hb);replace HB:=Lib.hid (HB.out.trans (hb.mono hbz));replace hbz:bk≤w6.heap.size:=Nat.le_trans hbz hb.size;replace a0:=HA.out.cell (k:=0) rfl;replace a1:=HA.out.cell (k:=1) rfl;replace a2:=HA.out.cell (k:=2) rfl;replace a3:=HA.out.cell (k:=3) rfl;replace a4:=HA.out.cell (k:=4) rfl;replace c0:=HC.out.cell (k:=0) rfl;replace c1:=HC.out.cell (k:=1) rfl;replace c2:=HC.out.cell (k:=2) rfl;replace c3:=HC.out.cell (k:=3) rfl;replace c4:=HC.out.cell (k:=4) rfl;clear hr6 hp6;clear hb))
  | (go_at_call 15;(with_reducible refine (HLA.out _ _ _ HD.out hcc).mono ?_);go_must (rintro e w7 ⟨A7,n7,c7,l7,rfl,hr7,hp7,hb⟩;have HE3:=Lib.hid hr7;have Q7:=Lib.hid hp7;replace HA:=Lib.hid (HA.out.later hb);replace HC:=Lib.hid (HC.out.later hb);replace HR:=Lib.hid (RdB.later HR.out hb);replace HD:=Lib.hid (RdB.later HD.out hb);replace HE1:=Lib.hid (RdB.later HE1.out hb);replace HE2:=Lib.hid (RdB.later HE2.out hb);replace HB:=Lib.hid (HB.out.trans (hb.mono hbz));replace hbz:bk≤w7.heap.size:=Nat.le_trans hbz hb.size;replace a0:=HA.out.cell (k:=0) rfl;replace a1:=HA.out.cell (k:=1) rfl;replace a2:=HA.out.cell (k:=2) rfl;replace a3:=HA.out.cell (k:=3) rfl;replace a4:=HA.out.cell (k:=4) rfl;replace c0:=HC.out.cell (k:=0) rfl;replace c1:=HC.out.cell (k:=1) rfl;replace c2:=HC.out.cell (k:=2) rfl;replace c3:=HC.out.cell (k:=3) rfl;replace c4:=HC.out.cell (k:=4) rfl;clear hr7 hp7;clear hb))
  | (go_at_call 16;(with_reducible refine (HL9.out _ _ _ HR.out HCC.out).mono ?_);go_must (rintro e w8 ⟨A8,n8,c8,l8,rfl,hr8,hp8,hb⟩;have HE4:=Lib.hid hr8;have Q8:=Lib.hid hp8;replace HA:=Lib.hid (HA.out.later hb);replace HC:=Lib.hid (HC.out.later hb);replace HR:=Lib.hid (RdB.later HR.out hb);replace HD:=Lib.hid (RdB.later HD.out hb);replace HE1:=Lib.hid (RdB.later HE1.out hb);replace HE2:=Lib.hid (RdB.later HE2.out hb);replace HE3:=Lib.hid (RdB.later HE3.out hb);replace HB:=Lib.hid (HB.out.trans (hb.mono hbz));replace hbz:bk≤w8.heap.size:=Nat.le_trans hbz hb.size;replace a0:=HA.out.cell (k:=0) rfl;replace a1:=HA.out.cell (k:=1) rfl;replace a2:=HA.out.cell (k:=2) rfl;replace a3:=HA.out.cell (k:=3) rfl;replace a4:=HA.out.cell (k:=4) rfl;replace c0:=HC.out.cell (k:=0) rfl;replace c1:=HC.out.cell (k:=1) rfl;replace c2:=HC.out.cell (k:=2) rfl;replace c3:=HC.out.cell (k:=3) rfl;replace c4:=HC.out.cell (k:=4) rfl;clear hr8 hp8;clear hb))
  | (go_at_call 17;(with_reducible refine (HPA.out _).mono ?_);go_must (rintro e w9 ⟨rfl,hb⟩;replace HA:=Lib.hid (HA.out.later hb);replace HC:=Lib.hid (HC.out.later hb);replace HR:=Lib.hid (RdB.later HR.out hb);replace HD:=Lib.hid (RdB.later HD.out hb);replace HE1:=Lib.hid (RdB.later HE1.out hb);replace HE2:=Lib.hid (RdB.later HE2.out hb);replace HE3:=Lib.hid (RdB.later HE3.out hb);replace HE4:=Lib.hid (RdB.later HE4.out hb);replace HB:=Lib.hid (HB.out.trans (hb.mono hbz));replace hbz:bk≤w9.heap.size:=Nat.le_trans hbz hb.size;replace a0:=HA.out.cell (k:=0) rfl;replace a1:=HA.out.cell (k:=1) rfl;replace a2:=HA.out.cell (k:=2) rfl;replace a3:=HA.out.cell (k:=3) rfl;replace a4:=HA.out.cell (k:=4) rfl;replace c0:=HC.out.cell (k:=0) rfl;replace c1:=HC.out.cell (k:=1) rfl;replace c2:=HC.out.cell (k:=2) rfl;replace c3:=HC.out.cell (k:=3) rfl;replace c4:=HC.out.cell (k:=4) rfl;clear hb))
  | (go_at_call 18;(with_reducible refine (HP9.out _).mono ?_);go_must (rintro e w10 ⟨rfl,hb⟩;replace HA:=Lib.hid (HA.out.later hb);replace HC:=Lib.hid (HC.out.later hb);replace HR:=Lib.hid (RdB.later HR.out hb);replace HD:=Lib.hid (RdB.later HD.out hb);replace HE1:=Lib.hid (RdB.later HE1.out hb);replace HE2:=Lib.hid (RdB.later HE2.out hb);replace HE3:=Lib.hid (RdB.later HE3.out hb);replace HE4:=Lib.hid (RdB.later HE4.out hb);replace HB:=Lib.hid (HB.out.trans (hb.mono hbz));replace hbz:bk≤w10.heap.size:=Nat.le_trans hbz hb.size;replace a0:=HA.out.cell (k:=0) rfl;replace a1:=HA.out.cell (k:=1) rfl;replace a2:=HA.out.cell (k:=2) rfl;replace a3:=HA.out.cell (k:=3) rfl;replace a4:=HA.out.cell (k:=4) rfl;replace c0:=HC.out.cell (k:=0) rfl;replace c1:=HC.out.cell (k:=1) rfl;replace c2:=HC.out.cell (k:=2) rfl;replace c3:=HC.out.cell (k:=3) rfl;replace c4:=HC.out.cell (k:=4) rfl;clear hb))
  | (go_at_call 11;(with_reducible refine (first13_any _).mono ?_);go_must (rintro e w11 ⟨rfl,hb⟩;replace HA:=Lib.hid (HA.out.later hb);replace HC:=Lib.hid (HC.out.later hb);replace HR:=Lib.hid (RdB.later HR.out hb);replace HD:=Lib.hid (RdB.later HD.out hb);replace HE1:=Lib.hid (RdB.later HE1.out hb);replace HE2:=Lib.hid (RdB.later HE2.out hb);replace HE3:=Lib.hid (RdB.later HE3.out hb);replace HE4:=Lib.hid (RdB.later HE4.out hb);replace HB:=Lib.hid (HB.out.trans (hb.mono hbz));replace hbz:bk≤w11.heap.size:=Nat.le_trans hbz hb.size;replace a0:=HA.out.cell (k:=0) rfl;replace a1:=HA.out.cell (k:=1) rfl;replace a2:=HA.out.cell (k:=2) rfl;replace a3:=HA.out.cell (k:=3) rfl;replace a4:=HA.out.cell (k:=4) rfl;replace c0:=HC.out.cell (k:=0) rfl;replace c1:=HC.out.cell (k:=1) rfl;replace c2:=HC.out.cell (k:=2) rfl;replace c3:=HC.out.cell (k:=3) rfl;replace c4:=HC.out.cell (k:=4) rfl;have HY1:=Lib.hid (bytesE_any n5 n6 c5 c6 A5 A6 l5 l6 w11 HE1.out HE2.out (U1.out _ _ Q5.out Q6.out));have HY2:=Lib.hid (bytesE_any n7 n8 c7 c8 A7 A8 l7 l8 w11 HE3.out HE4.out (U2.out _ _ Q7.out Q8.out));have HY3:=Lib.hid (rasterE_any W H C D n cc c Ac A bs w11 HD.out HR.out);clear hb))
  | (go_at_call 10;(with_reducible refine HY1.out.mono ?_);go_must (rintro e w12 ⟨rfl,rfl⟩))
  | (go_at_call 10;(with_reducible refine HY2.out.mono ?_);go_must (rintro e w13 ⟨rfl,rfl⟩))
  | (go_at_call 19;(with_reducible refine HY3.out.mono ?_);go_must (rintro e w14 ⟨rfl,hb⟩;have HBF:=Lib.hid (HB.out.trans (hb.mono hbz));clear hb)))
 go_ret
 exact ⟨rfl,HBF.out⟩
theorem enc_bad {E:Int} {w w':World} {e:Ending} (he:e=.returned (.tuple #[.slice none 0 0,.int .i64 E])) (hb:Below w.heap.size w w'):EncPost E (fun l=>l=[]) w e w':=⟨none,0,0,[],he,Rd.none_,rfl,hb⟩
theorem enc_row {E:Int} {w w':World} {e:Ending} {g n c:Nat} {l:List UInt8} {P:List UInt8→Prop} (he:e=.returned (.tuple #[.slice (some ⟨g,0,none⟩) n c,.int .i64 E])) (hr:RowM w' g n c l) (hp:P l) (hb:Below w.heap.size w w'):EncPost E P w e w':=⟨_,n,c,l,he,Rd.here hr.rd,hp,hb⟩
theorem enc_own {E:Int} {w w':World} {e:Ending} {v:Value} {l:List UInt8} {P:List UInt8→Prop} (he:e=.returned (.tuple #[v,.int .i64 E])) (hr:ownB w' w.heap.size v l) (hp:P l) (hb:Below w.heap.size w w'):EncPost E P w e w':=by
 obtain ⟨A,c,rfl,h,-,-⟩:=hr.form
 exact ⟨A,_,c,l,he,h,hp,hb⟩
theorem pngWrites_walk (s:Sh) (K:Int) (A:Option Addr) (n c:Nat) (bs:List UInt8) (w:World) (h:RdB w w.heap.size A n bs) (hc:n≤c) :
  Calls Tryz.prog 4 #[s.r A n c,.int .i64 K] w fun e w'=>e=.returned (.bool true)∧Below w.heap.size w w':=by
 by_cases hn:n≤3000
 ·have hPa:=passI_any s K
  have hP9:=passI9_any s K
  cases hm:s.mayR n with
  | false =>
   have e1:∀ (A:Option Addr) (c:Nat) (w:World),_:=fun A c w=>encode_bad s n c A w hm
   have e2:∀ (A:Option Addr) (c:Nat) (w:World),_:=fun A c w=>png9_bad s n c A w hm
   have e3:∀ (A:Option Addr) (c:Nat) (w:World),_:=fun A c w=>lace_bad s n c A w hm
   have e4:∀ (A:Option Addr) (c:Nat) (w:World),_:=fun A c w=>lace9_bad s n c A w hm
   generalize (pVI s K).1=x at hPa hP9
   generalize (pVI s K).2=y at hPa hP9
   obtain ⟨W,H,C,D⟩:=s
   exact pngWrites_main W H C D K 4 x y n c A bs (fun l=>l=[]) (fun l=>l=[]) w h hc hn (fun l l' a b=>a.trans b.symm) (fun l l' a b=>a.trans b.symm)
    (fun A c w _ _=>(e1 A c w).mono fun e w' p=>enc_bad p.1 p.2) (fun A c w _ _=>(e2 A c w).mono fun e w' p=>enc_bad p.1 p.2)
    (fun A c w _ _=>(e3 A c w).mono fun e w' p=>enc_bad p.1 p.2) (fun A c w _ _=>(e4 A c w).mono fun e w' p=>enc_bad p.1 p.2) hPa hP9
  | true =>
   unfold Sh.mayR at hm
   rw [Bool.and_eq_true] at hm
   obtain ⟨W,H,C,D,Q,rfl,hs,hz⟩:=PS.of_may hm.1
   have hm2:=of_decide_eq_true hm.2
   rw [hs.size.1] at hm2
   have hm3:n=H * (W * Q):=by exact_mod_cast hm2
   generalize (pVI ⟨W,H,C,D⟩ K).1=x at hPa hP9
   generalize (pVI ⟨W,H,C,D⟩ K).2=y at hPa hP9
   exact pngWrites_main W H C D K 0 x y n c A bs (FileI (hdrL W H C D 0) (flF Q (W * Q) bs H)) (FileI (hdrL W H C D 1) (lcF W H Q bs 7)) w h hc hn (fun l l' a b=>a.uniq b) (fun l l' a b=>a.uniq b)
    (fun A c w hr hc=>(encode_any W H C D Q n c w.heap.size A bs w hs hz hr (Nat.le_refl _) hm3 hc).mono fun e w' ⟨g9,n9,c9,l,p1,p2,p3,p4⟩=>enc_row p1 p2 p3 p4)
    (fun A c w hr hc=>(png9_any W H C D Q n c w.heap.size A bs w hs hz hr (Nat.le_refl _) hm3 hc).mono fun e w' ⟨v,l,p1,p2,p3,p4⟩=>enc_own p1 p2 p3 p4)
    (fun A c w hr hc=>(lace_any W H C D Q n c w.heap.size A bs w hs hz hr (Nat.le_refl _) hm3 hc).mono fun e w' ⟨g9,n9,c9,l,p1,p2,p3,p4⟩=>enc_row p1 p2 p3 p4)
    (fun A c w hr hc=>(lace9_any W H C D Q n c w.heap.size A bs w hs hz hr (Nat.le_refl _) hm3 hc).mono fun e w' ⟨v,l,p1,p2,p3,p4⟩=>enc_own p1 p2 p3 p4) hPa hP9
 ·obtain ⟨W,H,C,D⟩:=s
  exact pngWrites_long W H C D K n c A bs w h (by omega)
end Go.Proofs.YteoolehdomjkkaaGreat

