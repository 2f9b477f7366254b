/- XLzR XMatR XMat5 -/
import Derived.Test.YteoolehdomjkkaaGreatMe27
namespace Go.Proofs.YteoolehdomjkkaaGreat
set_option linter.all false
/-- The document's match: from a place down. -/
def mrF (b:List UInt8) (at_:Nat):Nat→Nat→Nat→Nat→Nat × Nat
  | 0,_,best,dist=>(best,dist)
  | i+1,seen,best,dist =>
    if at_ - i≤32768∧seen < 64 then
      (if at_+3≤b.length∧tri b i=tri b at_ then
        (if best < comP b i at_ then mrF b at_ i (seen+1) (comP b i at_) (at_ - i) else mrF b at_ i (seen+1) best dist)
       else mrF b at_ i seen best dist)
    else (best,dist)
theorem mrF_eq {b:List UInt8} {at_:Nat} (ha:at_+3≤b.length):∀ i seen best dist,i≤at_→seen≤64→mrF b at_ i seen best dist=matF b at_ (64 - seen) (lastP b i (tri b at_)) best dist
  | 0,seen,best,dist,_,_=>by
    rw [mrF,lastP]
    cases 64 - seen with
    | zero=>rfl
    | succ f=>rw [matF,if_pos (.inl rfl)]
  | i+1,seen,best,dist,hi,hs=>by
    rw [mrF]
    by_cases h1:at_ - i≤32768∧seen < 64
    · rw [if_pos h1]
      by_cases h2:tri b i=tri b at_
      · rw [if_pos ⟨ha,h2⟩]
        have e1:lastP b (i+1) (tri b at_)=i+1:=if_pos ⟨by omega,h2⟩
        have e2:prevP b i=lastP b i (tri b at_):=by unfold prevP;rw [if_neg (by omega),h2]
        have e3:¬ (i+1=0∨32768 < at_ - (i+1 - 1)):=by omega
        by_cases h3:best < comP b i at_
        · rw [if_pos h3,e1,show 64 - seen=(64 - (seen+1))+1 by omega,matF,if_neg e3,show i+1 - 1=i from rfl,e2,if_pos h3]
          exact mrF_eq ha i _ _ _ (by omega) (by omega)
        · rw [if_neg h3,e1,show 64 - seen=(64 - (seen+1))+1 by omega,matF,if_neg e3,show i+1 - 1=i from rfl,e2,if_neg h3]
          exact mrF_eq ha i _ _ _ (by omega) (by omega)
      · rw [if_neg (fun h=>h2 h.2)]
        have e1:lastP b (i+1) (tri b at_)=lastP b i (tri b at_):=if_neg (fun h=>h2 h.2)
        rw [e1]
        exact mrF_eq ha i _ _ _ (by omega) hs
    · rw [if_neg h1]
      have hp:=(lastP_le b (tri b at_) (i+1)).1
      cases hf:64 - seen with
      | zero=>rfl
      | succ f =>
        rw [matF]
        by_cases h3:lastP b (i+1) (tri b at_)=0
        · rw [if_pos (.inl h3)]
        · rw [if_pos (.inr (by omega))]
theorem mrF_short {b:List UInt8} {at_:Nat} (ha:¬ at_+3≤b.length):∀ i seen best dist,mrF b at_ i seen best dist=(best,dist)
  | 0,seen,best,dist=>by rw [mrF]
  | i+1,seen,best,dist=>by
    rw [mrF]
    split
    · rw [if_neg (fun h=>ha h.1)]
      exact mrF_short ha i _ _ _
    · rfl
theorem mrF_mat (b:List UInt8) (at_:Nat):mrF b at_ at_ 0 0 0=matP b at_:=by
  unfold matP
  by_cases ha:at_+3≤b.length
  · rw [if_neg (by omega),mrF_eq ha _ _ _ _ (Nat.le_refl _) (by omega)]
  · rw [if_pos (by omega),mrF_short ha]
theorem mrF_stop {b:List UInt8} {at_ i seen best dist:Nat} (h:¬ (at_ - i≤32768∧seen < 64)):mrF b at_ (i+1) seen best dist=(best,dist):=by rw [mrF,if_neg h]
theorem mrF_skip {b:List UInt8} {at_ i seen best dist:Nat} (h:at_ - i≤32768∧seen < 64) (h2:¬ (at_+3≤b.length∧tri b i=tri b at_)):mrF b at_ (i+1) seen best dist=mrF b at_ i seen best dist:=by rw [mrF,if_pos h,if_neg h2]
theorem mrF_more {b:List UInt8} {at_ i seen best dist:Nat} (h:at_ - i≤32768∧seen < 64) (h2:at_+3≤b.length∧tri b i=tri b at_) (h3:best < comP b i at_):mrF b at_ (i+1) seen best dist=mrF b at_ i (seen+1) (comP b i at_) (at_ - i):=by rw [mrF,if_pos h,if_pos h2,if_pos h3]
theorem mrF_less {b:List UInt8} {at_ i seen best dist:Nat} (h:at_ - i≤32768∧seen < 64) (h2:at_+3≤b.length∧tri b i=tri b at_) (h3:¬ best < comP b i at_):mrF b at_ (i+1) seen best dist=mrF b at_ i (seen+1) best dist:=by rw [mrF,if_pos h,if_pos h2,if_neg h3]
/-- Three bytes held against three. -/
theorem tri_iff (b:List UInt8) (i k:Nat):tri b i=tri b k ↔ (b.getD i 0=b.getD k 0∧b.getD (i+1) 0=b.getD (k+1) 0∧b.getD (i+2) 0=b.getD (k+2) 0):=by
  unfold tri
  constructor
  · intro h
    injection h with h1 h2
    injection h2 with h2 h3
    exact ⟨h1,h2,h3⟩
  · rintro ⟨h1,h2,h3⟩
    rw [h1,h2,h3]
theorem com_three {b:List UInt8} {i k:Nat} (h:k+3≤b.length) (ht:tri b i=tri b k):comP b i k=comF b i k 255 3:=by
  obtain ⟨e0,e1,e2⟩:=(tri_iff b i k).1 ht
  unfold comP
  rw [show (258:Nat)=257+1 from rfl,comF_on (by omega) (by simpa using e0),show (257:Nat)=256+1 from rfl,comF_on (by omega) (by simpa using e1),show (256:Nat)=255+1 from rfl,comF_on (by omega) (by simpa using e2)]
end Go.Proofs.YteoolehdomjkkaaGreat

/- lz: the document's three bytes. -/
namespace Go.Proofs.YteoolehdomjkkaaGreat
set_option linter.all false
open Go.RowKit
set_option maxRecDepth 100000 in
set_option maxHeartbeats 6400000 in
theorem three_any (B n c i k:Nat) (A:Option Addr) (bs:List UInt8) (w:World) (h:RdB w B A n bs) (hik:i≤k) (hkn:k≤n) (hn:n≤40000) :
  Calls Tryz.prog 162 #[.slice A n c,.int .i64 (i:Int),.int .i64 (k:Int)] w fun e w'=>e=.returned (.bool (decide (k+3≤bs.length∧tri bs i=tri bs k)))∧∃ q,w'=w.drewN q:=by
 have HR:=Lib.hid h
 have hl:=h.len
 clear h
 have hs3:IntKind.i64.wrap ((k:Int)+3)=(k:Int)+3:=by have:=wrap_i64_lt (k+3) (by omega);simpa using this
 by_cases h3:k+3≤n
 ·have h3i:(k:Int)+3≤(n:Int):=by omega
  have HT:=Lib.hid (tri_iff bs i k)
  obtain ⟨b,o,x0,e0,hb,HX0,cx0⟩:=HR.out.byte (k:=i) (by omega)
  subst e0
  obtain ⟨b1,o1,y0,e1,hb1,HY0,cy0⟩:=HR.out.byte (k:=k) (by omega)
  injection e1 with e1;injection e1 with e1 e2;subst e1 e2
  obtain ⟨b2,o2,x1,e1,hb2,HX1,cx1⟩:=HR.out.byte (k:=i+1) (by omega)
  injection e1 with e1;injection e1 with e1 e2;subst e1 e2
  obtain ⟨b3,o3,y1,e1,hb3,HY1,cy1⟩:=HR.out.byte (k:=k+1) (by omega)
  injection e1 with e1;injection e1 with e1 e2;subst e1 e2
  obtain ⟨b4,o4,x2,e1,hb4,HX2,cx2⟩:=HR.out.byte (k:=i+2) (by omega)
  injection e1 with e1;injection e1 with e1 e2;subst e1 e2
  obtain ⟨b5,o5,y2,e1,hb5,HY2,cy2⟩:=HR.out.byte (k:=k+2) (by omega)
  injection e1 with e1;injection e1 with e1 e2;subst e1 e2
  rw [getD_at HX0.out,getD_at HY0.out,getD_at HX1.out,getD_at HY1.out,getD_at HX2.out,getD_at HY2.out] at HT
  have wi1:IntKind.i64.wrap ((i:Int)+1)=((i+1:Nat):Int):=by have:=wrap_i64_lt (i+1) (by omega);simpa using this
  have wk1:IntKind.i64.wrap ((k:Int)+1)=((k+1:Nat):Int):=by have:=wrap_i64_lt (k+1) (by omega);simpa using this
  have wi2:IntKind.i64.wrap ((i:Int)+2)=((i+2:Nat):Int):=by have:=wrap_i64_lt (i+2) (by omega);simpa using this
  have wk2:IntKind.i64.wrap ((k:Int)+2)=((k+2:Nat):Int):=by have:=wrap_i64_lt (k+2) (by omega);simpa using this
  have gi1:(i:Int)+1=((i+1:Nat):Int):=by omega
  have gk1:(k:Int)+1=((k+1:Nat):Int):=by omega
  have gi2:(i:Int)+2=((i+2:Nat):Int):=by omega
  have gk2:(k:Int)+2=((k+2:Nat):Int):=by omega
  have li0:i < n:=by omega
  have lk0:k < n:=by omega
  have li1:i+1 < n:=by omega
  have lk1:k+1 < n:=by omega
  have li2:i+2 < n:=by omega
  have lk2:k+2 < n:=by omega
  have mi0:(i:Int) < (n:Int):=by omega
  have mk0:(k:Int) < (n:Int):=by omega
  have mi1:((i+1:Nat):Int) < (n:Int):=by omega
  have mk1:((k+1:Nat):Int) < (n:Int):=by omega
  have mi2:((i+2:Nat):Int) < (n:Int):=by omega
  have mk2:((k+2:Nat):Int) < (n:Int):=by omega
  have HL3:Hid (k+3≤bs.length):=(show _≤_ from by omega)
  clear HX0 HY0 HX1 HY1 HX2 HY2
  generalize i+1=i1 at *
  generalize i+2=i2 at *
  generalize k+1=k1 at *
  generalize k+2=k2 at *
  have hxy:∀ (x y:UInt8),x=y→((x.toNat:Int) == (y.toNat:Int))=true:=fun x y e=>by rw [e];exact beq_self_eq_true _
  have hxn:∀ (x y:UInt8),¬ x=y→((x.toNat:Int) == (y.toNat:Int))=false:=fun x y e=>beq_eq_false_iff_ne.2 (fun e2=>e (UInt8.toNat_inj.1 (by omega)))
  have HXY:=Lib.hid hxy
  have HXN:=Lib.hid hxn
  clear hxy hxn hik
  have hfin:∀ P:Prop,[Decidable P]→P→(.bool true:Value)=.bool (decide P):=fun P _ h=>by rw [decide_eq_true h]
  have hfin0:∀ P:Prop,[Decidable P]→¬ P→(.bool false:Value)=.bool (decide P):=fun P _ h=>by rw [decide_eq_false h]
  have HF:=Lib.hid hfin
  have HF0:=Lib.hid hfin0
  clear hfin hfin0
  by_cases q0:x0=y0
  ·have d0:=HXY.out x0 y0 q0
   by_cases q1:x1=y1
   ·have d1:=HXY.out x1 y1 q1
    by_cases q2:x2=y2
    ·have d2:=HXY.out x2 y2 q2
     have HFF:Hid ((.bool true:Value)=.bool (decide (k+3≤bs.length∧tri bs i=tri bs k))):=HF.out _ ⟨HL3.out,HT.out.2 ⟨q0,q1,q2⟩⟩
     clear q0 q1 q2
     go_enter Tryz.func162,Tryz.ntmps162
     go_wp2_with fail
     go_quiet (fail)
     go_wp2_with fail
     go_ret
     exact ⟨congrArg Ending.returned HFF.out,_,rfl⟩
    ·have d2:=HXN.out x2 y2 q2
     have HFF:Hid ((.bool false:Value)=.bool (decide (k+3≤bs.length∧tri bs i=tri bs k))):=HF0.out _ (fun e=>q2 (HT.out.1 e.2).2.2)
     clear q0 q1 q2
     go_enter Tryz.func162,Tryz.ntmps162
     go_wp2_with fail
     go_quiet (fail)
     go_wp2_with fail
     go_ret
     exact ⟨congrArg Ending.returned HFF.out,_,rfl⟩
   ·have d1:=HXN.out x1 y1 q1
    have HFF:Hid ((.bool false:Value)=.bool (decide (k+3≤bs.length∧tri bs i=tri bs k))):=HF0.out _ (fun e=>q1 (HT.out.1 e.2).2.1)
    clear q0 q1
    go_enter Tryz.func162,Tryz.ntmps162
    go_wp2_with fail
    go_quiet (fail)
    go_wp2_with fail
    go_ret
    exact ⟨congrArg Ending.returned HFF.out,_,rfl⟩
  ·have d0:=HXN.out x0 y0 q0
   have HFF:Hid ((.bool false:Value)=.bool (decide (k+3≤bs.length∧tri bs i=tri bs k))):=HF0.out _ (fun e=>q0 (HT.out.1 e.2).1)
   clear q0
   go_enter Tryz.func162,Tryz.ntmps162
   go_wp2_with fail
   go_quiet (fail)
   go_wp2_with fail
   go_ret
   exact ⟨congrArg Ending.returned HFF.out,_,rfl⟩
 ·have d3:decide ((k:Int)+3≤(n:Int))=false:=decide_eq_false (by omega)
  have h3i:(n:Int) < (k:Int)+3:=by omega
  have HFF:Hid ((.bool false:Value)=.bool (decide (k+3≤bs.length∧tri bs i=tri bs k))):=(show _=_ by rw [decide_eq_false (fun e=>by omega)])
  go_enter Tryz.func162,Tryz.ntmps162
  go_wp2_with fail
  go_quiet (fail)
  go_wp2_with fail
  go_ret
  exact ⟨congrArg Ending.returned HFF.out,_,rfl⟩
end Go.Proofs.YteoolehdomjkkaaGreat

/- lz: the document's match. -/
namespace Go.Proofs.YteoolehdomjkkaaGreat
set_option linter.all false
open Go.RowKit
set_option maxRecDepth 100000 in
set_option maxHeartbeats 12800000 in
theorem match5_any (B n c a:Nat) (A:Option Addr) (bs:List UInt8) (w:World) (h:RdB w B A n bs) (ha:a < n) (hn:n≤40000) :
  Calls Tryz.prog 115 #[.slice A n c,.int .i64 (a:Int)] w fun e w'=>e=.returned (.tuple #[.int .i64 (((matP bs a).1:Nat):Int),.int .i64 (((matP bs a).2:Nat):Int)])∧∃ q,w'=w.drewN q:=by
 have HR:=Lib.hid h
 have hl:=h.len
 have HM0:=Lib.hid (mrF_mat bs a)
 clear h
 go_enter Tryz.func115,Tryz.ntmps115
 go_wp2_with fail
 go_loopw [6,7,8,9] (fun vb vd vs vi wr=>∃ i1 seen best dist:Nat,i1≤a∧seen≤64∧best≤258∧dist≤40000∧vb=.int .i64 best∧vd=.int .i64 dist∧vi=.int .i64 ((i1:Int) - 1)∧vs=.int .i64 seen∧Hid (mrF bs a i1 seen best dist=matP bs a)∧Hid (∃ q,wr=w.drewN q)) (fun _ _ _ vi _=>(intOf vi+1).toNat)
 case atStart=>exact ⟨a,0,0,0,Nat.le_refl _,by omega,by omega,by omega,rfl,rfl,rfl,rfl,HM0,(show ∃ q,_ from ⟨0,rfl⟩)⟩
 case round =>
  clear HM0
  obtain ⟨i1,seen,best,dist,hi1,hseen,hbest9,hdist9,rfl,rfl,rfl,rfl,HM,HW⟩:=hrel
  rcases Nat.eq_zero_or_pos i1 with rfl | hpos
  ·have h0:¬ (0:Int)≤((0:Nat):Int) - 1:=by omega
   have HE:Hid ((best,dist)=matP bs a):=(show _=_ by rw [← HM.out,mrF])
   go_wp2_with fail
   go_ret2
   exact ⟨by rw [← HE.out];rfl,HW.out⟩
  ·obtain ⟨i,rfl⟩:∃ i,i1=i+1:=⟨i1 - 1,by omega⟩
   have hii:((i+1:Nat):Int) - 1=(i:Int):=by omega
   rw [hii]
   by_cases hst:a - i≤32768∧seen < 64
   ·obtain ⟨hs1,hs2⟩:=hst
    have hs1i:(a:Int) - (i:Int)≤32768:=by omega
    have hs2i:(seen:Int) < 64:=by omega
    have HRr:Hid (RdB wr B A n bs):=(show RdB _ _ _ _ _ by obtain ⟨q,rfl⟩:=HW.out;exact Rd.drewN HR.out q)
    have HT:=Lib.hid (three_any B n c i a A bs wr HRr.out (by omega) (by omega) hn)
    have him:(i:Int) - 1=(i:Int) - 1:=rfl
    by_cases h3:a+3≤bs.length∧tri bs i=tri bs a
    ·rw [decide_eq_true h3] at HT
     have HMORE:Hid (best < comP bs i a→mrF bs a (i+1) seen best dist=mrF bs a i (seen+1) (comP bs i a) (a - i)):=(show _→_ from fun h=>mrF_more ⟨hs1,hs2⟩ h3 h)
     have HLESS:Hid (¬ best < comP bs i a→mrF bs a (i+1) seen best dist=mrF bs a i (seen+1) best dist):=(show _→_ from fun h=>mrF_less ⟨hs1,hs2⟩ h3 h)
     have HC3:Hid (comF bs i a (258 - 3) 3=comP bs i a):=(show _=_ from (com_three h3.1 h3.2).symm)
     have ha3:a+3≤n:=by rw [← hl];exact h3.1
     clear h3
     obtain ⟨wo,rfl⟩:∃ wo:World,wo=wr:=⟨_,rfl⟩
     go_upto_region 7 with (go_at_call 162;(with_reducible refine HT.out.mono ?_);go_must (rintro e w1 ⟨rfl,hw1⟩;have HW1:Hid (∃ q,w1=w.drewN q):=(show ∃ q,_ by obtain ⟨q1,rfl⟩:=hw1;obtain ⟨q,rfl⟩:=HW.out;exact ⟨q+q1,by rw [World.drewN_drewN]⟩);clear hw1))
     clear HT HW HRr
     go_wp2_with fail
     go_loopw [10] (fun vm wx=>∃ m:Nat,3≤m∧m≤258∧vm=.int .i64 m∧Hid (comF bs i a (258 - m) m=comP bs i a)∧Hid (∃ q,wx=w.drewN q)) (fun vm _=>258 - (intOf vm).toNat)
     case atStart=>exact ⟨3,by omega,by omega,rfl,HC3,HW1⟩
     case round =>
      clear HC3 HW1
      obtain ⟨m,hm3,hm,rfl,HC,HWx⟩:=hrel
      have HRx:Hid (RdB wr B A n bs):=(show RdB _ _ _ _ _ by obtain ⟨q,rfl⟩:=HWx.out;exact Rd.drewN HR.out q)
      have HWN:∀ nq,Hid (∃ q,wr.drewN nq=w.drewN q):=fun nq=>(show ∃ q,_ by obtain ⟨q,rfl⟩:=HWx.out;exact ⟨q+nq,by rw [World.drewN_drewN]⟩)
      have HWNH:=Lib.hid HWN
      clear HWN
      have HS:Hid (m < 258→comF bs i a (258 - m) m=if a+m < bs.length∧bs.getD (i+m) 0=bs.getD (a+m) 0 then comF bs i a (258 - (m+1)) (m+1) else m):=(show _→_ from fun h=>by rw [show 258 - m=(258 - (m+1))+1 by omega];rfl)
      have hw1:IntKind.i64.wrap ((a:Int)+(m:Int))=((a+m:Nat):Int):=by have:=wrap_i64_lt (a+m) (by omega);simpa using this
      have hw2:IntKind.i64.wrap ((i:Int)+(m:Int))=((i+m:Nat):Int):=by have:=wrap_i64_lt (i+m) (by omega);simpa using this
      by_cases h1:m < 258
      ·have h1i:(m:Int) < 258:=by omega
       by_cases h2:a+m < n
       ·have h2i:(a:Int)+(m:Int) < (n:Int):=by omega
        have h3i:(i:Int)+(m:Int) < (n:Int):=by omega
        obtain ⟨b,o,x,e0,hb,HX,e1⟩:=HRx.out.byte (k:=i+m) (by omega)
        subst e0
        obtain ⟨b2,o2,y,hA2,hb2,HY,e2⟩:=HRx.out.byte (k:=a+m) h2
        injection hA2 with hA2
        injection hA2 with hA2 hA3
        subst hA2 hA3
        have HS2:=Lib.hid (HS.out h1)
        rw [getD_at HX.out,getD_at HY.out] at HS2
        have x8:=x.toNat_lt
        have y8:=y.toNat_lt
        have hb3:a+m < bs.length:=by omega
        obtain ⟨p,hp⟩:∃ p,i+m=p:=⟨_,rfl⟩
        obtain ⟨r,hr⟩:∃ r,a+m=r:=⟨_,rfl⟩
        have hp2:(i:Int)+(m:Int)=(p:Int):=by omega
        have hr2:(a:Int)+(m:Int)=(r:Int):=by omega
        have hp3:(p:Int) < (n:Int):=by omega
        have hr3:(r:Int) < (n:Int):=by omega
        have hpn:p < n:=by omega
        have hrn:r < n:=by omega
        rw [hp] at e1 hw2
        rw [hr] at e2 hw1
        by_cases hxy:x=y
        ·have d1:((x.toNat:Int) == (y.toNat:Int))=true:=by rw [hxy];exact beq_self_eq_true _
         rw [if_pos ⟨hb3,hxy⟩,HC.out] at HS2
         clear HX HY HS hp hr hxy
         go_wp2_with fail
         go_quiet (fail)
         go_wp2_with fail
         go_roundw
         case rel=>exact ⟨m+1,by omega,by omega,by go_num,HS2.out.symm,HWNH.out _⟩
         case measure=>simp [intOf] <;> omega
        ·have d1:((x.toNat:Int) == (y.toNat:Int))=false:=beq_eq_false_iff_ne.2 (fun e=>hxy (UInt8.toNat_inj.1 (by omega)))
         rw [if_neg (fun e=>hxy e.2),HC.out] at HS2
         have hmC:=HS2.out
         clear HX HY HS hp hr hxy HC
         go_wp2_with fail
         go_quiet (fail)
         have HWX:=HWNH.out nq
         subst hmC
         have hcm:=comP_le bs i a (by omega)
         generalize comP bs i a=C at *
         by_cases hbest:best < C
         ·have hbi:(C:Int) > (best:Int):=by omega
          have HN2:=Lib.hid (HMORE.out hbest)
          rw [HM.out] at HN2
          have hai2:(a:Int) - (i:Int)=((a - i:Nat):Int):=by omega
          clear HMORE HLESS hbest
          go_wp2_with fail
          go_roundw
          case rel=>exact ⟨i,seen+1,C,a - i,by omega,by omega,by omega,by omega,(by go_num),(by rw [← hai2]),(by go_num),(by go_num),HN2.out.symm,HWX⟩
          case measure=>simp [intOf] <;> omega
         ·have hbi:¬ (C:Int) > (best:Int):=by omega
          have HN2:=Lib.hid (HLESS.out hbest)
          rw [HM.out] at HN2
          clear HMORE HLESS hbest
          go_wp2_with fail
          go_roundw
          case rel=>exact ⟨i,seen+1,best,dist,by omega,by omega,by omega,by omega,rfl,rfl,(by go_num),by go_num,HN2.out.symm,HWX⟩
          case measure=>simp [intOf] <;> omega
       ·have h2i:¬ (a:Int)+(m:Int) < (n:Int):=by omega
        have HS2:=Lib.hid (HS.out h1)
        rw [if_neg (fun e=>h2 (hl ▸ e.1)),HC.out] at HS2
        obtain ⟨r,hr⟩:∃ r,a+m=r:=⟨_,rfl⟩
        have hr2:(a:Int)+(m:Int)=(r:Int):=by omega
        have hr3:¬ (r:Int) < (n:Int):=by omega
        have hrn:¬ r < n:=by omega
        have hrn2:n≤r:=by omega
        have hr4:decide ((r:Int) < (n:Int))=false:=decide_eq_false hr3
        rw [hr] at hw1
        clear hw2
        have hmC:=HS2.out
        clear HS HC
        go_wp2_with fail
        go_quiet (fail)
        have HWX:=HWNH.out nq
        subst hmC
        have hcm:=comP_le bs i a (by omega)
        generalize comP bs i a=C at *
        by_cases hbest:best < C
        ·have hbi:(C:Int) > (best:Int):=by omega
         have HN2:=Lib.hid (HMORE.out hbest)
         rw [HM.out] at HN2
         have hai2:(a:Int) - (i:Int)=((a - i:Nat):Int):=by omega
         clear HMORE HLESS hbest
         go_wp2_with fail
         go_roundw
         case rel=>exact ⟨i,seen+1,C,a - i,by omega,by omega,by omega,by omega,(by go_num),(by rw [← hai2]),(by go_num),(by go_num),HN2.out.symm,HWX⟩
         case measure=>simp [intOf] <;> omega
        ·have hbi:¬ (C:Int) > (best:Int):=by omega
         have HN2:=Lib.hid (HLESS.out hbest)
         rw [HM.out] at HN2
         clear HMORE HLESS hbest
         go_wp2_with fail
         go_roundw
         case rel=>exact ⟨i,seen+1,best,dist,by omega,by omega,by omega,by omega,rfl,rfl,(by go_num),by go_num,HN2.out.symm,HWX⟩
         case measure=>simp [intOf] <;> omega
      ·obtain rfl:m=258:=by omega
       have h1i:¬ (258:Int) < 258:=by omega
       have HS2:comP bs i a=258:=(show _=_ by rw [← HC.out];rfl)
       rw [HS2] at HMORE HLESS
       clear HS HC HS2
       go_wp2_with fail
       go_quiet (fail)
       have HWX:=HWNH.out nq
       by_cases hbest:best < 258
       ·have hbi:(258:Int) > (best:Int):=by omega
        have HN2:=Lib.hid (HMORE.out hbest)
        rw [HM.out] at HN2
        have hai2:(a:Int) - (i:Int)=((a - i:Nat):Int):=by omega
        clear HMORE HLESS hbest
        go_wp2_with fail
        go_roundw
        case rel=>exact ⟨i,seen+1,258,a - i,by omega,by omega,by omega,by omega,(by go_num),(by rw [← hai2]),(by go_num),(by go_num),HN2.out.symm,HWX⟩
        case measure=>simp [intOf] <;> omega
       ·have hbi:¬ (258:Int) > (best:Int):=by omega
        have HN2:=Lib.hid (HLESS.out hbest)
        rw [HM.out] at HN2
        clear HMORE HLESS hbest
        go_wp2_with fail
        go_roundw
        case rel=>exact ⟨i,seen+1,best,dist,by omega,by omega,by omega,by omega,rfl,rfl,(by go_num),by go_num,HN2.out.symm,HWX⟩
        case measure=>simp [intOf] <;> omega
    ·rw [decide_eq_false h3] at HT
     have HN2:Hid (mrF bs a i seen best dist=matP bs a):=(show _=_ by rw [← HM.out,mrF_skip ⟨hs1,hs2⟩ h3])
     clear h3
     go_wp2_with (go_at_call 162;(with_reducible refine HT.out.mono ?_);go_must (rintro e w1 ⟨rfl,hw1⟩;have HW1:Hid (∃ q,w1=w.drewN q):=(show ∃ q,_ by obtain ⟨q1,rfl⟩:=hw1;obtain ⟨q,rfl⟩:=HW.out;exact ⟨q+q1,by rw [World.drewN_drewN]⟩);clear hw1))
     go_roundw
     case rel=>exact ⟨i,seen,best,dist,by omega,hseen,hbest9,hdist9,rfl,rfl,by go_num,rfl,HN2,HW1⟩
     case measure=>simp [intOf] <;> omega
   ·have HE:Hid ((best,dist)=matP bs a):=(show _=_ by rw [← HM.out,mrF_stop hst])
    by_cases hs1:a - i≤32768
    ·have hs1i:(a:Int) - (i:Int)≤32768:=by omega
     have hs2i:¬ (seen:Int) < 64:=by omega
     go_wp2_with fail
     go_ret2
     exact ⟨by rw [← HE.out];rfl,HW.out⟩
    ·have hs1i:¬ (a:Int) - (i:Int)≤32768:=by omega
     go_wp2_with fail
     go_ret2
     exact ⟨by rw [← HE.out];rfl,HW.out⟩
end Go.Proofs.YteoolehdomjkkaaGreat

