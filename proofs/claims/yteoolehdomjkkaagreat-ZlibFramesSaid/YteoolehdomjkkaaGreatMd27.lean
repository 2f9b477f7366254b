/- Merged: Rd3, Rd4, Rd5, Rd7, RdQ. -/
import Derived.StillTailTactics
import Derived.Test.YteoolehdomjkkaaGreatMd26
import Derived.Test.YteoolehdomjkkaaGreatMd02
import Derived.Test.YteoolehdomjkkaaGreatMd07
/- flate: the reader of blocks, whatever comes: a stored block; what came out, copied. -/
namespace Go.Proofs.YteoolehdomjkkaaGreat
set_option linter.all false
open Go.RowKit
section
variable (r g n c : Nat) (A : Option Addr) (bs : List UInt8) (most : Int) (vo : Value) (s : RS) (w : World)
set_option maxRecDepth 100000 in
set_option maxHeartbeats 3200000 in
theorem rplain_any (h:FS w r g A n c bs most vo s) (hm:most≤1000000) :
  Calls Tryz.prog 97 #[.pointer (some ⟨r,0,none⟩)] w fun e w'=>e=.returned (.tuple #[])∧∃ vo',FS w' r g A n c bs most vo' (plainP bs most s)∧RFr w w' r g vo vo':=by
 have H:=Lib.hid h
 have hfr:FR w r g A n c s.p bs vo s.out most s.e:=h
 have c0:=hfr.arr.cell (k:=0) rfl
 have HAL:=Lib.hid (alignR_any g n c s.p A w hfr.rd (by have:=hfr.fit;have:=hfr.big;omega))
 have HFA:Hid (∀ w1,Arr w1 g (rdr A n c (8 * ((s.p+7) / 8)))→w.grownBy w1 (some g)→FS w1 r g A n c bs most vo (pl0 s)):=(show ∀ w1,_ from fun w1 ha hg=>hfr.moved ha hg (by show 8 * ((s.p+7) / 8)≤8 * n;have:=hfr.fit;omega))
 have HG1:=Lib.hid (fun w1 (h:FS w1 r g A n c bs most vo (pl0 s))=>rget_any r g n c A bs most vo (pl0 s) w1 16 16 rfl h (by omega))
 have HG2:=Lib.hid (fun w1 (h:FS w1 r g A n c bs most vo (getP bs (pl0 s) 16).2)=>rget_any r g n c A bs most vo (getP bs (pl0 s) 16).2 w1 16 16 rfl h (by omega))
 have l1:=getP_lt bs (pl0 s) (m:=16) (by omega)
 have l2:=getP_lt bs (getP bs (pl0 s) 16).2 (m:=16) (by omega)
 have HP3:Hid (pl3 bs s=if (pl2 bs s).e=0∧¬ (getP bs (pl0 s) 16).1+(getP bs (getP bs (pl0 s) 16).2 16).1=65535 then (pl2 bs s).fail 4 else pl2 bs s):=(show _=_ from rfl)
 have HPP:Hid (plainP bs most s=plnF bs most (getP bs (pl0 s) 16).1 (pl3 bs s)):=(show _=_ from rfl)
 have e2:(getP bs (getP bs (pl0 s) 16).2 16).2=pl2 bs s:=rfl
 rw [e2] at HG2
 generalize pl2 bs s=s2 at *
 generalize pl3 bs s=s3 at *
 generalize (getP bs (getP bs (pl0 s) 16).2 16).1=M at *
 generalize (getP bs (pl0 s) 16).2=s1 at *
 generalize (getP bs (pl0 s) 16).1=N at *
 generalize pl0 s=s0 at *
 generalize plainP bs most s=R at *
 clear h hfr e2
 have l1:N < 65536:=l1
 have l2:M < 65536:=l2
 have HFL:=Lib.hid (fun w' (h:FS w' r g A n c bs most vo s2)=>rfail_any r g n c A bs most vo s2 w' 4 h)
 have HS:Hid (∀ w2,FS w2 r g A n c bs most vo s2→w2.cell? ⟨r,3,none⟩=some (.int .i64 s2.e)):=(show ∀ w2,_ from fun w2 h=>FR.arr h |>.cell (k:=3) rfl)
 have HLOOP:Hid (plnF bs most (N - 0) s3=R):=(show _=_ by rw [HPP.out];rfl)
 go_enter Tryz.func97,Tryz.ntmps97
 by_cases he2:s2.e=0
 ·have d2:(s2.e == 0)=true:=by rw [he2];rfl
  by_cases hnm:N+M=65535
  ·have hnmi:(N:Int)+(M:Int)=65535:=by omega
   rw [if_neg (fun h=>h.2 hnm)] at HP3
   rw [HP3.out] at HLOOP
   go_wp2_with (first
   | (go_at_call 144;(with_reducible refine HAL.out.mono ?_);go_must (rintro e w1 ⟨rfl,ha1,hg1⟩;have HF1:=Lib.hid (HFA.out w1 ha1 hg1);have HG11:=Lib.hid (HG1.out w1 HF1.out);have HR1:=Lib.hid (RFr.ofG hg1 r vo);clear ha1 hg1))
   | (go_at_call 96;(with_reducible refine HG11.out.mono ?_);go_must (rintro e w2 ⟨rfl,hf2,hr2⟩;have HG22:=Lib.hid (HG2.out w2 hf2);have HR2:=Lib.hid (HR1.out.trans hr2);clear hf2 hr2 HG11))
   | (go_at_call 96;(with_reducible refine HG22.out.mono ?_);go_must (rintro e w3 ⟨rfl,hf3,hr3⟩;have e33:=HS.out w3 hf3;have HF3:=Lib.hid hf3;have HR3:=Lib.hid (HR2.out.trans hr3);have HFL3:=Lib.hid (HFL.out w3 hf3);clear hf3 hr3 HG22)))
   go_loopw [4] (fun vi wr=>∃ (i:Nat) (cur:RS) (vq:Value),i≤N∧vi=.int .i64 i∧Hid (FS wr r g A n c bs most vq cur)∧Hid (RFr w wr r g vo vq)∧Hid (plnF bs most (N - i) cur=R)) (fun vi _=>N - (intOf vi).toNat)
   case atStart=>exact ⟨0,_,vo,Nat.zero_le _,rfl,HF3,HR3,HLOOP⟩
   case round =>
    clear HAL HFA HG1 HG2 HFL HS HLOOP HF3 HR3
    obtain ⟨i,cur,vq,hi,rfl,HF,HR,HL⟩:=hrel
    have e3:=(FR.arr HF.out).cell (k:=3) rfl
    by_cases hlt:i < N
    ·have hlti:(i:Int) < (N:Int):=by omega
     by_cases he:cur.e=0
     ·have d1:(cur.e == 0)=true:=by rw [he];rfl
      have HGT:=Lib.hid (rget_any r g n c A bs most vq cur wr 8 8 rfl HF.out (by omega))
      have hv:=getP_lt bs cur (m:=8) (by omega)
      have HSTEP:Hid (plnF bs most (N - i) cur=if (getP bs cur 8).2.e=0 then plnF bs most (N - (i+1)) (givesP most (getP bs cur 8).2 (UInt8.ofNat (getP bs cur 8).1)) else (getP bs cur 8).2):=(show _=_ by rw [show N - i=(N - (i+1))+1 by omega];exact if_pos he)
      obtain ⟨x,hx⟩:∃ x:UInt8,(getP bs cur 8).1=x.toNat:=⟨UInt8.ofNat (getP bs cur 8).1,by rw [UInt8.toNat_ofNat'];exact (Nat.mod_eq_of_lt (by omega)).symm⟩
      rw [hx] at HGT
      have hxo:UInt8.ofNat (getP bs cur 8).1=x:=by rw [hx];simp
      rw [hxo,HL.out] at HSTEP
      have x8:=x.toNat_lt
      clear hx hxo hv
      generalize (getP bs cur 8).2=t1 at *
      by_cases ht:t1.e=0
      ·have d2:(t1.e == 0)=true:=by rw [ht];rfl
       rw [if_pos ht] at HSTEP
       have HGV:=Lib.hid (fun w5 (h:FS w5 r g A n c bs most vq t1)=>rgives_any r g n c A bs most vq t1 w5 x h hm)
       go_wp2_with (first
        | (go_at_call 96;(with_reducible refine HGT.out.mono ?_);go_must (rintro e w5 ⟨rfl,hf5,hr5⟩;have e53:=(FR.arr hf5).cell (k:=3) rfl;have HGV5:=Lib.hid (HGV.out w5 hf5);have HR5:=Lib.hid (HR.out.trans hr5);clear hf5 hr5))
        | (go_at_call 145;(with_reducible refine HGV5.out.mono ?_);go_must (rintro e w6 ⟨rfl,v6,hf6,hr6⟩;have HF6:=Lib.hid hf6;have HR6:=Lib.hid (HR5.out.trans hr6);clear hf6 hr6)))
       go_roundw
       case rel=>exact ⟨i+1,_,v6,by omega,by go_num,HF6,HR6,HSTEP.out.symm⟩
       case measure=>simp [intOf];omega
      ·have d2:(t1.e == 0)=false:=beq_eq_false_iff_ne.2 ht
       rw [if_neg ht] at HSTEP
       have HE:Hid (plnF bs most (N - (i+1)) t1=R):=(show _=_ by rw [plnF_err ht,HSTEP.out])
       go_wp2_with (go_at_call 96;(with_reducible refine HGT.out.mono ?_);go_must (rintro e w5 ⟨rfl,hf5,hr5⟩;have e53:=(FR.arr hf5).cell (k:=3) rfl;have HF5:=Lib.hid hf5;have HR5:=Lib.hid (HR.out.trans hr5);clear hf5 hr5))
       go_roundw
       case rel=>exact ⟨i+1,t1,vq,by omega,by go_num,HF5,HR5,HE⟩
       case measure=>simp [intOf];omega
     ·have d1:(cur.e == 0)=false:=beq_eq_false_iff_ne.2 he
      have HE:Hid (cur=R):=(show _=_ by rw [← HL.out,plnF_err he])
      go_wp2_with fail
      (try simp only [Exit.inBlock,Exit.then])
      first | (refine bodyPost_ret (results_none rfl _ _ _) rfl ?_) | (refine bodyPost_end (results_none rfl _ _ _) rfl ?_)
      exact ⟨rfl,vq,by rw [← HE.out];exact HF.out,HR.out⟩
    ·obtain rfl:i=N:=by omega
     have hlti:¬ (i:Int) < (i:Int):=by omega
     have HE:Hid (cur=R):=(show _=_ by rw [← HL.out,Nat.sub_self];rfl)
     go_wp2_with fail
     (try simp only [Exit.inBlock,Exit.then])
     first | (refine bodyPost_ret (results_none rfl _ _ _) rfl ?_) | (refine bodyPost_end (results_none rfl _ _ _) rfl ?_)
     exact ⟨rfl,vq,by rw [← HE.out];exact HF.out,HR.out⟩
  ·have d3:((N:Int)+(M:Int) != 65535)=true:=by rw [bne_iff_ne];omega
   rw [if_pos ⟨he2,hnm⟩] at HP3
   rw [HP3.out] at HLOOP
   go_wp2_with (first
   | (go_at_call 144;(with_reducible refine HAL.out.mono ?_);go_must (rintro e w1 ⟨rfl,ha1,hg1⟩;have HF1:=Lib.hid (HFA.out w1 ha1 hg1);have HG11:=Lib.hid (HG1.out w1 HF1.out);have HR1:=Lib.hid (RFr.ofG hg1 r vo);clear ha1 hg1))
   | (go_at_call 96;(with_reducible refine HG11.out.mono ?_);go_must (rintro e w2 ⟨rfl,hf2,hr2⟩;have HG22:=Lib.hid (HG2.out w2 hf2);have HR2:=Lib.hid (HR1.out.trans hr2);clear hf2 hr2 HG11))
   | (go_at_call 96;(with_reducible refine HG22.out.mono ?_);go_must (rintro e w3 ⟨rfl,hf3,hr3⟩;have e33:=HS.out w3 hf3;have HF3:=Lib.hid hf3;have HR3:=Lib.hid (HR2.out.trans hr3);have HFL3:=Lib.hid (HFL.out w3 hf3);clear hf3 hr3 HG22))
   | (go_at_call 100;(with_reducible refine HFL3.out.mono ?_);go_must (rintro e w4 ⟨rfl,hf4,hr4⟩;have HF4:=Lib.hid hf4;have HR4:=Lib.hid (HR3.out.trans hr4);clear hf4 hr4)))
   go_loopw [4] (fun vi wr=>∃ (i:Nat) (cur:RS) (vq:Value),i≤N∧vi=.int .i64 i∧Hid (FS wr r g A n c bs most vq cur)∧Hid (RFr w wr r g vo vq)∧Hid (plnF bs most (N - i) cur=R)) (fun vi _=>N - (intOf vi).toNat)
   case atStart=>exact ⟨0,_,vo,Nat.zero_le _,rfl,HF4,HR4,HLOOP⟩
   case round =>
    clear HAL HFA HG1 HG2 HFL HS HLOOP HF4 HR4
    obtain ⟨i,cur,vq,hi,rfl,HF,HR,HL⟩:=hrel
    have e3:=(FR.arr HF.out).cell (k:=3) rfl
    by_cases hlt:i < N
    ·have hlti:(i:Int) < (N:Int):=by omega
     by_cases he:cur.e=0
     ·have d1:(cur.e == 0)=true:=by rw [he];rfl
      have HGT:=Lib.hid (rget_any r g n c A bs most vq cur wr 8 8 rfl HF.out (by omega))
      have hv:=getP_lt bs cur (m:=8) (by omega)
      have HSTEP:Hid (plnF bs most (N - i) cur=if (getP bs cur 8).2.e=0 then plnF bs most (N - (i+1)) (givesP most (getP bs cur 8).2 (UInt8.ofNat (getP bs cur 8).1)) else (getP bs cur 8).2):=(show _=_ by rw [show N - i=(N - (i+1))+1 by omega];exact if_pos he)
      obtain ⟨x,hx⟩:∃ x:UInt8,(getP bs cur 8).1=x.toNat:=⟨UInt8.ofNat (getP bs cur 8).1,by rw [UInt8.toNat_ofNat'];exact (Nat.mod_eq_of_lt (by omega)).symm⟩
      rw [hx] at HGT
      have hxo:UInt8.ofNat (getP bs cur 8).1=x:=by rw [hx];simp
      rw [hxo,HL.out] at HSTEP
      have x8:=x.toNat_lt
      clear hx hxo hv
      generalize (getP bs cur 8).2=t1 at *
      by_cases ht:t1.e=0
      ·have d2:(t1.e == 0)=true:=by rw [ht];rfl
       rw [if_pos ht] at HSTEP
       have HGV:=Lib.hid (fun w5 (h:FS w5 r g A n c bs most vq t1)=>rgives_any r g n c A bs most vq t1 w5 x h hm)
       go_wp2_with (first
        | (go_at_call 96;(with_reducible refine HGT.out.mono ?_);go_must (rintro e w5 ⟨rfl,hf5,hr5⟩;have e53:=(FR.arr hf5).cell (k:=3) rfl;have HGV5:=Lib.hid (HGV.out w5 hf5);have HR5:=Lib.hid (HR.out.trans hr5);clear hf5 hr5))
        | (go_at_call 145;(with_reducible refine HGV5.out.mono ?_);go_must (rintro e w6 ⟨rfl,v6,hf6,hr6⟩;have HF6:=Lib.hid hf6;have HR6:=Lib.hid (HR5.out.trans hr6);clear hf6 hr6)))
       go_roundw
       case rel=>exact ⟨i+1,_,v6,by omega,by go_num,HF6,HR6,HSTEP.out.symm⟩
       case measure=>simp [intOf];omega
      ·have d2:(t1.e == 0)=false:=beq_eq_false_iff_ne.2 ht
       rw [if_neg ht] at HSTEP
       have HE:Hid (plnF bs most (N - (i+1)) t1=R):=(show _=_ by rw [plnF_err ht,HSTEP.out])
       go_wp2_with (go_at_call 96;(with_reducible refine HGT.out.mono ?_);go_must (rintro e w5 ⟨rfl,hf5,hr5⟩;have e53:=(FR.arr hf5).cell (k:=3) rfl;have HF5:=Lib.hid hf5;have HR5:=Lib.hid (HR.out.trans hr5);clear hf5 hr5))
       go_roundw
       case rel=>exact ⟨i+1,t1,vq,by omega,by go_num,HF5,HR5,HE⟩
       case measure=>simp [intOf];omega
     ·have d1:(cur.e == 0)=false:=beq_eq_false_iff_ne.2 he
      have HE:Hid (cur=R):=(show _=_ by rw [← HL.out,plnF_err he])
      go_wp2_with fail
      (try simp only [Exit.inBlock,Exit.then])
      first | (refine bodyPost_ret (results_none rfl _ _ _) rfl ?_) | (refine bodyPost_end (results_none rfl _ _ _) rfl ?_)
      exact ⟨rfl,vq,by rw [← HE.out];exact HF.out,HR.out⟩
    ·obtain rfl:i=N:=by omega
     have hlti:¬ (i:Int) < (i:Int):=by omega
     have HE:Hid (cur=R):=(show _=_ by rw [← HL.out,Nat.sub_self];rfl)
     go_wp2_with fail
     (try simp only [Exit.inBlock,Exit.then])
     first | (refine bodyPost_ret (results_none rfl _ _ _) rfl ?_) | (refine bodyPost_end (results_none rfl _ _ _) rfl ?_)
     exact ⟨rfl,vq,by rw [← HE.out];exact HF.out,HR.out⟩
 ·have d2:(s2.e == 0)=false:=beq_eq_false_iff_ne.2 he2
  rw [if_neg (fun h=>he2 h.1)] at HP3
  rw [HP3.out] at HLOOP
  go_wp2_with (first
   | (go_at_call 144;(with_reducible refine HAL.out.mono ?_);go_must (rintro e w1 ⟨rfl,ha1,hg1⟩;have HF1:=Lib.hid (HFA.out w1 ha1 hg1);have HG11:=Lib.hid (HG1.out w1 HF1.out);have HR1:=Lib.hid (RFr.ofG hg1 r vo);clear ha1 hg1))
   | (go_at_call 96;(with_reducible refine HG11.out.mono ?_);go_must (rintro e w2 ⟨rfl,hf2,hr2⟩;have HG22:=Lib.hid (HG2.out w2 hf2);have HR2:=Lib.hid (HR1.out.trans hr2);clear hf2 hr2 HG11))
   | (go_at_call 96;(with_reducible refine HG22.out.mono ?_);go_must (rintro e w3 ⟨rfl,hf3,hr3⟩;have e33:=HS.out w3 hf3;have HF3:=Lib.hid hf3;have HR3:=Lib.hid (HR2.out.trans hr3);have HFL3:=Lib.hid (HFL.out w3 hf3);clear hf3 hr3 HG22)))
  go_loopw [4] (fun vi wr=>∃ (i:Nat) (cur:RS) (vq:Value),i≤N∧vi=.int .i64 i∧Hid (FS wr r g A n c bs most vq cur)∧Hid (RFr w wr r g vo vq)∧Hid (plnF bs most (N - i) cur=R)) (fun vi _=>N - (intOf vi).toNat)
  case atStart=>exact ⟨0,_,vo,Nat.zero_le _,rfl,HF3,HR3,HLOOP⟩
  case round =>
   clear HAL HFA HG1 HG2 HFL HS HLOOP HF3 HR3
   obtain ⟨i,cur,vq,hi,rfl,HF,HR,HL⟩:=hrel
   have e3:=(FR.arr HF.out).cell (k:=3) rfl
   by_cases hlt:i < N
   ·have hlti:(i:Int) < (N:Int):=by omega
    by_cases he:cur.e=0
    ·have d1:(cur.e == 0)=true:=by rw [he];rfl
     have HGT:=Lib.hid (rget_any r g n c A bs most vq cur wr 8 8 rfl HF.out (by omega))
     have hv:=getP_lt bs cur (m:=8) (by omega)
     have HSTEP:Hid (plnF bs most (N - i) cur=if (getP bs cur 8).2.e=0 then plnF bs most (N - (i+1)) (givesP most (getP bs cur 8).2 (UInt8.ofNat (getP bs cur 8).1)) else (getP bs cur 8).2):=(show _=_ by rw [show N - i=(N - (i+1))+1 by omega];exact if_pos he)
     obtain ⟨x,hx⟩:∃ x:UInt8,(getP bs cur 8).1=x.toNat:=⟨UInt8.ofNat (getP bs cur 8).1,by rw [UInt8.toNat_ofNat'];exact (Nat.mod_eq_of_lt (by omega)).symm⟩
     rw [hx] at HGT
     have hxo:UInt8.ofNat (getP bs cur 8).1=x:=by rw [hx];simp
     rw [hxo,HL.out] at HSTEP
     have x8:=x.toNat_lt
     clear hx hxo hv
     generalize (getP bs cur 8).2=t1 at *
     by_cases ht:t1.e=0
     ·have d2:(t1.e == 0)=true:=by rw [ht];rfl
      rw [if_pos ht] at HSTEP
      have HGV:=Lib.hid (fun w5 (h:FS w5 r g A n c bs most vq t1)=>rgives_any r g n c A bs most vq t1 w5 x h hm)
      go_wp2_with (first
       | (go_at_call 96;(with_reducible refine HGT.out.mono ?_);go_must (rintro e w5 ⟨rfl,hf5,hr5⟩;have e53:=(FR.arr hf5).cell (k:=3) rfl;have HGV5:=Lib.hid (HGV.out w5 hf5);have HR5:=Lib.hid (HR.out.trans hr5);clear hf5 hr5))
       | (go_at_call 145;(with_reducible refine HGV5.out.mono ?_);go_must (rintro e w6 ⟨rfl,v6,hf6,hr6⟩;have HF6:=Lib.hid hf6;have HR6:=Lib.hid (HR5.out.trans hr6);clear hf6 hr6)))
      go_roundw
      case rel=>exact ⟨i+1,_,v6,by omega,by go_num,HF6,HR6,HSTEP.out.symm⟩
      case measure=>simp [intOf];omega
     ·have d2:(t1.e == 0)=false:=beq_eq_false_iff_ne.2 ht
      rw [if_neg ht] at HSTEP
      have HE:Hid (plnF bs most (N - (i+1)) t1=R):=(show _=_ by rw [plnF_err ht,HSTEP.out])
      go_wp2_with (go_at_call 96;(with_reducible refine HGT.out.mono ?_);go_must (rintro e w5 ⟨rfl,hf5,hr5⟩;have e53:=(FR.arr hf5).cell (k:=3) rfl;have HF5:=Lib.hid hf5;have HR5:=Lib.hid (HR.out.trans hr5);clear hf5 hr5))
      go_roundw
      case rel=>exact ⟨i+1,t1,vq,by omega,by go_num,HF5,HR5,HE⟩
      case measure=>simp [intOf];omega
    ·have d1:(cur.e == 0)=false:=beq_eq_false_iff_ne.2 he
     have HE:Hid (cur=R):=(show _=_ by rw [← HL.out,plnF_err he])
     go_wp2_with fail
     (try simp only [Exit.inBlock,Exit.then])
     first | (refine bodyPost_ret (results_none rfl _ _ _) rfl ?_) | (refine bodyPost_end (results_none rfl _ _ _) rfl ?_)
     exact ⟨rfl,vq,by rw [← HE.out];exact HF.out,HR.out⟩
   ·obtain rfl:i=N:=by omega
    have hlti:¬ (i:Int) < (i:Int):=by omega
    have HE:Hid (cur=R):=(show _=_ by rw [← HL.out,Nat.sub_self];rfl)
    go_wp2_with fail
    (try simp only [Exit.inBlock,Exit.then])
    first | (refine bodyPost_ret (results_none rfl _ _ _) rfl ?_) | (refine bodyPost_end (results_none rfl _ _ _) rfl ?_)
    exact ⟨rfl,vq,by rw [← HE.out];exact HF.out,HR.out⟩
end
end Go.Proofs.YteoolehdomjkkaaGreat

/- flate: the reader of blocks, whatever comes: what came out, copied. -/
namespace Go.Proofs.YteoolehdomjkkaaGreat
set_option linter.all false
open Go.RowKit
section
variable (r g n c : Nat) (A : Option Addr) (bs : List UInt8) (most : Int) (vo : Value) (s : RS) (w : World)
set_option maxRecDepth 100000 in
set_option maxHeartbeats 3200000 in
theorem rcopies_any (N dist:Nat) (h:FS w r g A n c bs most vo s) (hm:most≤1000000) (hd:1≤dist) (hd2:dist≤1000000) (hN:N≤1000000) (ho:s.out.length≤2000000) :
  Calls Tryz.prog 190 #[.pointer (some ⟨r,0,none⟩),.int .i64 (N:Int),.int .i64 (dist:Int)] w fun e w'=>e=.returned (.tuple #[])∧∃ vo',FS w' r g A n c bs most vo' (copiesP most s N dist)∧RFr w w' r g vo vo':=by
 have H:=Lib.hid h
 have hfr:FR w r g A n c s.p bs vo s.out most s.e:=h
 obtain ⟨Ap,cp,rfl,-,-,-⟩:=hfr.own.form
 have c1:=hfr.arr.cell (k:=1) rfl
 have c3:=hfr.arr.cell (k:=3) rfl
 have HFL:=Lib.hid (rfail_any r g n c A bs most (.slice Ap s.out.length cp) s w 1 h)
 obtain ⟨s1,hs1⟩:∃ s1,(if s.out.length < dist then s.fail 1 else s)=s1:=⟨_,rfl⟩
 have HINV:Hid (s1.e=0→dist≤s1.out.length):=(show _→_ from fun h0=>by
  rw [← hs1] at h0 ⊢
  split at h0
  ·rename_i hlt
   unfold RS.fail at h0
   split at h0
   ·exact absurd (show (1:Int)=0 from h0) (by decide)
   ·rename_i he
    exact absurd h0 he
  ·rename_i hlt
   rw [if_neg hlt]
   omega)
 have HR:Hid (cpyF most dist (N - 0) s1=copiesP most s N dist):=(show _=_ by unfold copiesP;rw [hs1];rfl)
 have HLE:Hid (s1.out.length≤2000000):=(show _≤_ by
  rw [← hs1]
  split
  ·unfold RS.fail;split <;> exact ho
  ·exact ho)
 generalize copiesP most s N dist=R at *
 clear h hfr
 go_enter Tryz.func190,Tryz.ntmps190
 by_cases he:s.e=0
 ·have d1:(s.e == 0)=true:=by rw [he];rfl
  by_cases hlt:s.out.length < dist
  ·have hlti:(s.out.length:Int) < (dist:Int):=by omega
   rw [if_pos hlt] at hs1
   subst hs1
   go_wp2_with (go_at_call 100;(with_reducible refine HFL.out.mono ?_);go_must (rintro e w4 ⟨rfl,hf4,hr4⟩;have HF4:=Lib.hid hf4;have HR4:=Lib.hid hr4;clear hf4 hr4))
   go_loopw [6] (fun vi wr=>∃ (i:Nat) (cur:RS) (vq:Value),i≤N∧vi=.int .i64 i∧Hid (FS wr r g A n c bs most vq cur)∧Hid (RFr w wr r g (.slice Ap s.out.length cp) vq)∧Hid (cpyF most dist (N - i) cur=R)∧Hid (cur.e=0→dist≤cur.out.length)∧Hid (cur.out.length≤2000000+i)) (fun vi _=>N - (intOf vi).toNat)
   case atStart=>exact ⟨0,_,_,Nat.zero_le _,rfl,HF4,HR4,HR,HINV,HLE⟩
   case round =>
    clear HR HINV HLE HFL HF4 HR4
    obtain ⟨i,cur,vq,hi,rfl,HF,HR,HL,HINV,HLE⟩:=hrel
    have e3:=(FR.arr HF.out).cell (k:=3) rfl
    by_cases hlt:i < N
    ·have hlti:(i:Int) < (N:Int):=by omega
     by_cases he:cur.e=0
     ·have d1:(cur.e == 0)=true:=by rw [he];rfl
      have hdl:=HINV.out he
      have hle:=HLE.out
      obtain ⟨Aq,cq,rfl,-,-,-⟩:=(FR.own HF.out).form
      obtain ⟨-,gq,rfl,-,hgq⟩:=ownB.pos (FR.own HF.out) (show 0 < cur.out.length by omega)
      have e1:=(FR.arr HF.out).cell (k:=1) rfl
      obtain ⟨D,hD⟩:∃ D,cur.out.length - dist=D:=⟨_,rfl⟩
      have hDl:D < cur.out.length:=by omega
      have ed:=ownB.cell (FR.own HF.out) rfl hDl
      have HSTEP:Hid (cpyF most dist (N - i) cur=cpyF most dist (N - (i+1)) (givesP most cur cur.out[D])):=(show _=_ by
       rw [show N - i=(N - (i+1))+1 by omega]
       have:cur.out.getD (cur.out.length - dist) 0=cur.out[D]:=by rw [hD,List.getD_eq_getElem?_getD,List.getElem?_eq_getElem hDl];rfl
       rw [← this]
       exact if_pos he)
      have HGV:=Lib.hid (rgives_any r g n c A bs most _ cur wr.drew cur.out[D] (show FS wr.drew r g A n c bs most _ cur from FR.drewN HF.out 1) hm)
      have HI2:Hid ((givesP most cur cur.out[D]).e=0→dist≤(givesP most cur cur.out[D]).out.length):=(show _→_ from fun h0=>by
       unfold givesP at h0 ⊢
       split at h0
       ·unfold RS.fail at h0
        rw [if_pos he] at h0
        exact absurd (show (10:Int)=0 from h0) (by decide)
       ·rename_i hh
        rw [if_neg hh,List.length_append]
        omega)
      have HL2:Hid ((givesP most cur cur.out[D]).out.length≤2000000+(i+1)):=(show _≤_ by
       unfold givesP
       split
       ·unfold RS.fail;split <;> exact Nat.le_succ_of_le hle
       ·rw [List.length_append];show _+1≤_;omega)
      rw [HL.out] at HSTEP
      generalize givesP most cur cur.out[D]=nxt at *
      generalize cur.out[D]=x at *
      obtain ⟨L,hL⟩:∃ L,cur.out.length=L:=⟨_,rfl⟩
      rw [hL] at e1 hDl hle hdl hD HGV HR
      have hDi:(L:Int) - (dist:Int)=(D:Int):=by omega
      have w1:IntKind.i64.wrap (D:Int)=(D:Int):=wrap_i64_lt D (by omega)
      have x8:=x.toNat_lt
      have hDi2:(D:Int) < (L:Int):=by omega
      clear hD hL HINV HLE
      go_wp2_with fail
      go_still_tail 14,(by kernel_rfl)
      go_wp2_with (go_at_call 145;(with_reducible refine HGV.out.mono ?_);go_must (rintro e w6 ⟨rfl,v6,hf6,hr6⟩;have HF6:=Lib.hid hf6;have HR6:=Lib.hid (HR.out.trans (RFr.drew0 (q:=1) hr6));clear hf6 hr6))
      go_roundw
      case rel=>exact ⟨i+1,nxt,v6,by omega,by go_num,HF6,HR6,HSTEP.out.symm,HI2,HL2⟩
      case measure=>simp [intOf];omega
     ·have d1:(cur.e == 0)=false:=beq_eq_false_iff_ne.2 he
      have HE:Hid (cur=R):=(show _=_ by rw [← HL.out,cpyF_err he])
      go_wp2_with fail
      (try simp only [Exit.inBlock,Exit.then])
      first | (refine bodyPost_ret (results_none rfl _ _ _) rfl ?_) | (refine bodyPost_end (results_none rfl _ _ _) rfl ?_)
      exact ⟨rfl,vq,by rw [← HE.out];exact HF.out,HR.out⟩
    ·obtain rfl:i=N:=by omega
     have hlti:¬ (i:Int) < (i:Int):=by omega
     have HE:Hid (cur=R):=(show _=_ by rw [← HL.out,Nat.sub_self];rfl)
     go_wp2_with fail
     (try simp only [Exit.inBlock,Exit.then])
     first | (refine bodyPost_ret (results_none rfl _ _ _) rfl ?_) | (refine bodyPost_end (results_none rfl _ _ _) rfl ?_)
     exact ⟨rfl,vq,by rw [← HE.out];exact HF.out,HR.out⟩
  ·have hlti:¬ (s.out.length:Int) < (dist:Int):=by omega
   rw [if_neg hlt] at hs1
   subst hs1
   have HR0:=Lib.hid (RFr.refl w r g (.slice Ap s.out.length cp))
   go_wp2_with fail
   go_loopw [6] (fun vi wr=>∃ (i:Nat) (cur:RS) (vq:Value),i≤N∧vi=.int .i64 i∧Hid (FS wr r g A n c bs most vq cur)∧Hid (RFr w wr r g (.slice Ap s.out.length cp) vq)∧Hid (cpyF most dist (N - i) cur=R)∧Hid (cur.e=0→dist≤cur.out.length)∧Hid (cur.out.length≤2000000+i)) (fun vi _=>N - (intOf vi).toNat)
   case atStart=>exact ⟨0,_,_,Nat.zero_le _,rfl,H,HR0,HR,HINV,HLE⟩
   case round =>
    clear HR HINV HLE HFL H HR0
    obtain ⟨i,cur,vq,hi,rfl,HF,HR,HL,HINV,HLE⟩:=hrel
    have e3:=(FR.arr HF.out).cell (k:=3) rfl
    by_cases hlt:i < N
    ·have hlti:(i:Int) < (N:Int):=by omega
     by_cases he:cur.e=0
     ·have d1:(cur.e == 0)=true:=by rw [he];rfl
      have hdl:=HINV.out he
      have hle:=HLE.out
      obtain ⟨Aq,cq,rfl,-,-,-⟩:=(FR.own HF.out).form
      obtain ⟨-,gq,rfl,-,hgq⟩:=ownB.pos (FR.own HF.out) (show 0 < cur.out.length by omega)
      have e1:=(FR.arr HF.out).cell (k:=1) rfl
      obtain ⟨D,hD⟩:∃ D,cur.out.length - dist=D:=⟨_,rfl⟩
      have hDl:D < cur.out.length:=by omega
      have ed:=ownB.cell (FR.own HF.out) rfl hDl
      have HSTEP:Hid (cpyF most dist (N - i) cur=cpyF most dist (N - (i+1)) (givesP most cur cur.out[D])):=(show _=_ by
       rw [show N - i=(N - (i+1))+1 by omega]
       have:cur.out.getD (cur.out.length - dist) 0=cur.out[D]:=by rw [hD,List.getD_eq_getElem?_getD,List.getElem?_eq_getElem hDl];rfl
       rw [← this]
       exact if_pos he)
      have HGV:=Lib.hid (rgives_any r g n c A bs most _ cur wr.drew cur.out[D] (show FS wr.drew r g A n c bs most _ cur from FR.drewN HF.out 1) hm)
      have HI2:Hid ((givesP most cur cur.out[D]).e=0→dist≤(givesP most cur cur.out[D]).out.length):=(show _→_ from fun h0=>by
       unfold givesP at h0 ⊢
       split at h0
       ·unfold RS.fail at h0
        rw [if_pos he] at h0
        exact absurd (show (10:Int)=0 from h0) (by decide)
       ·rename_i hh
        rw [if_neg hh,List.length_append]
        omega)
      have HL2:Hid ((givesP most cur cur.out[D]).out.length≤2000000+(i+1)):=(show _≤_ by
       unfold givesP
       split
       ·unfold RS.fail;split <;> exact Nat.le_succ_of_le hle
       ·rw [List.length_append];show _+1≤_;omega)
      rw [HL.out] at HSTEP
      generalize givesP most cur cur.out[D]=nxt at *
      generalize cur.out[D]=x at *
      obtain ⟨L,hL⟩:∃ L,cur.out.length=L:=⟨_,rfl⟩
      rw [hL] at e1 hDl hle hdl hD HGV HR
      have hDi:(L:Int) - (dist:Int)=(D:Int):=by omega
      have w1:IntKind.i64.wrap (D:Int)=(D:Int):=wrap_i64_lt D (by omega)
      have x8:=x.toNat_lt
      have hDi2:(D:Int) < (L:Int):=by omega
      clear hD hL HINV HLE
      go_wp2_with fail
      go_still_tail 14,(by kernel_rfl)
      go_wp2_with (go_at_call 145;(with_reducible refine HGV.out.mono ?_);go_must (rintro e w6 ⟨rfl,v6,hf6,hr6⟩;have HF6:=Lib.hid hf6;have HR6:=Lib.hid (HR.out.trans (RFr.drew0 (q:=1) hr6));clear hf6 hr6))
      go_roundw
      case rel=>exact ⟨i+1,nxt,v6,by omega,by go_num,HF6,HR6,HSTEP.out.symm,HI2,HL2⟩
      case measure=>simp [intOf];omega
     ·have d1:(cur.e == 0)=false:=beq_eq_false_iff_ne.2 he
      have HE:Hid (cur=R):=(show _=_ by rw [← HL.out,cpyF_err he])
      go_wp2_with fail
      (try simp only [Exit.inBlock,Exit.then])
      first | (refine bodyPost_ret (results_none rfl _ _ _) rfl ?_) | (refine bodyPost_end (results_none rfl _ _ _) rfl ?_)
      exact ⟨rfl,vq,by rw [← HE.out];exact HF.out,HR.out⟩
    ·obtain rfl:i=N:=by omega
     have hlti:¬ (i:Int) < (i:Int):=by omega
     have HE:Hid (cur=R):=(show _=_ by rw [← HL.out,Nat.sub_self];rfl)
     go_wp2_with fail
     (try simp only [Exit.inBlock,Exit.then])
     first | (refine bodyPost_ret (results_none rfl _ _ _) rfl ?_) | (refine bodyPost_end (results_none rfl _ _ _) rfl ?_)
     exact ⟨rfl,vq,by rw [← HE.out];exact HF.out,HR.out⟩
 ·have d1:(s.e == 0)=false:=beq_eq_false_iff_ne.2 he
  have hs2:s1=s:=by
   rw [← hs1]
   split
   ·exact if_neg he
   ·rfl
  subst hs2
  have HR0:=Lib.hid (RFr.refl w r g (.slice Ap s1.out.length cp))
  go_wp2_with fail
  go_loopw [6] (fun vi wr=>∃ (i:Nat) (cur:RS) (vq:Value),i≤N∧vi=.int .i64 i∧Hid (FS wr r g A n c bs most vq cur)∧Hid (RFr w wr r g (.slice Ap s1.out.length cp) vq)∧Hid (cpyF most dist (N - i) cur=R)∧Hid (cur.e=0→dist≤cur.out.length)∧Hid (cur.out.length≤2000000+i)) (fun vi _=>N - (intOf vi).toNat)
  case atStart=>exact ⟨0,_,_,Nat.zero_le _,rfl,H,HR0,HR,HINV,HLE⟩
  case round =>
   clear HR HINV HLE HFL H HR0
   obtain ⟨i,cur,vq,hi,rfl,HF,HR,HL,HINV,HLE⟩:=hrel
   have e3:=(FR.arr HF.out).cell (k:=3) rfl
   by_cases hlt:i < N
   ·have hlti:(i:Int) < (N:Int):=by omega
    by_cases he:cur.e=0
    ·have d1:(cur.e == 0)=true:=by rw [he];rfl
     have hdl:=HINV.out he
     have hle:=HLE.out
     obtain ⟨Aq,cq,rfl,-,-,-⟩:=(FR.own HF.out).form
     obtain ⟨-,gq,rfl,-,hgq⟩:=ownB.pos (FR.own HF.out) (show 0 < cur.out.length by omega)
     have e1:=(FR.arr HF.out).cell (k:=1) rfl
     obtain ⟨D,hD⟩:∃ D,cur.out.length - dist=D:=⟨_,rfl⟩
     have hDl:D < cur.out.length:=by omega
     have ed:=ownB.cell (FR.own HF.out) rfl hDl
     have HSTEP:Hid (cpyF most dist (N - i) cur=cpyF most dist (N - (i+1)) (givesP most cur cur.out[D])):=(show _=_ by
      rw [show N - i=(N - (i+1))+1 by omega]
      have:cur.out.getD (cur.out.length - dist) 0=cur.out[D]:=by rw [hD,List.getD_eq_getElem?_getD,List.getElem?_eq_getElem hDl];rfl
      rw [← this]
      exact if_pos he)
     have HGV:=Lib.hid (rgives_any r g n c A bs most _ cur wr.drew cur.out[D] (show FS wr.drew r g A n c bs most _ cur from FR.drewN HF.out 1) hm)
     have HI2:Hid ((givesP most cur cur.out[D]).e=0→dist≤(givesP most cur cur.out[D]).out.length):=(show _→_ from fun h0=>by
      unfold givesP at h0 ⊢
      split at h0
      ·unfold RS.fail at h0
       rw [if_pos he] at h0
       exact absurd (show (10:Int)=0 from h0) (by decide)
      ·rename_i hh
       rw [if_neg hh,List.length_append]
       omega)
     have HL2:Hid ((givesP most cur cur.out[D]).out.length≤2000000+(i+1)):=(show _≤_ by
      unfold givesP
      split
      ·unfold RS.fail;split <;> exact Nat.le_succ_of_le hle
      ·rw [List.length_append];show _+1≤_;omega)
     rw [HL.out] at HSTEP
     generalize givesP most cur cur.out[D]=nxt at *
     generalize cur.out[D]=x at *
     obtain ⟨L,hL⟩:∃ L,cur.out.length=L:=⟨_,rfl⟩
     rw [hL] at e1 hDl hle hdl hD HGV HR
     have hDi:(L:Int) - (dist:Int)=(D:Int):=by omega
     have w1:IntKind.i64.wrap (D:Int)=(D:Int):=wrap_i64_lt D (by omega)
     have x8:=x.toNat_lt
     have hDi2:(D:Int) < (L:Int):=by omega
     clear hD hL HINV HLE
     go_wp2_with fail
     go_still_tail 14,(by kernel_rfl)
     go_wp2_with (go_at_call 145;(with_reducible refine HGV.out.mono ?_);go_must (rintro e w6 ⟨rfl,v6,hf6,hr6⟩;have HF6:=Lib.hid hf6;have HR6:=Lib.hid (HR.out.trans (RFr.drew0 (q:=1) hr6));clear hf6 hr6))
     go_roundw
     case rel=>exact ⟨i+1,nxt,v6,by omega,by go_num,HF6,HR6,HSTEP.out.symm,HI2,HL2⟩
     case measure=>simp [intOf];omega
    ·have d1:(cur.e == 0)=false:=beq_eq_false_iff_ne.2 he
     have HE:Hid (cur=R):=(show _=_ by rw [← HL.out,cpyF_err he])
     go_wp2_with fail
     (try simp only [Exit.inBlock,Exit.then])
     first | (refine bodyPost_ret (results_none rfl _ _ _) rfl ?_) | (refine bodyPost_end (results_none rfl _ _ _) rfl ?_)
     exact ⟨rfl,vq,by rw [← HE.out];exact HF.out,HR.out⟩
   ·obtain rfl:i=N:=by omega
    have hlti:¬ (i:Int) < (i:Int):=by omega
    have HE:Hid (cur=R):=(show _=_ by rw [← HL.out,Nat.sub_self];rfl)
    go_wp2_with fail
    (try simp only [Exit.inBlock,Exit.then])
    first | (refine bodyPost_ret (results_none rfl _ _ _) rfl ?_) | (refine bodyPost_end (results_none rfl _ _ _) rfl ?_)
    exact ⟨rfl,vq,by rw [← HE.out];exact HF.out,HR.out⟩
end
end Go.Proofs.YteoolehdomjkkaaGreat

/- flate: the reader of blocks, whatever comes: what stands behind a length's symbol. -/
namespace Go.Proofs.YteoolehdomjkkaaGreat
set_option linter.all false
open Go.RowKit
/-- A decoder, or none, as a pointer. -/
def DV (w:World) (r g:Nat) (vo:Value) (dv:Value) (dl:Option (List Int)):Prop:=(dv=.pointer none∧dl=none)∨∃ gd ds,dv=.pointer (some ⟨gd,0,none⟩)∧dl=some ds∧DK w r g vo gd ds∧OkL ds
theorem DV.fr {w w':World} {r g:Nat} {vo vo' dv:Value} {dl:Option (List Int)} (h:DV w r g vo dv dl) (hf:RFr w w' r g vo vo'):DV w' r g vo' dv dl:=by
 rcases h with h | ⟨gd,ds,h1,h2,h3,h4⟩
 ·exact .inl h
 ·exact .inr ⟨gd,ds,h1,h2,h3.fr hf,h4⟩
section
variable (r g n c : Nat) (A : Option Addr) (bs : List UInt8) (most : Int) (vo : Value) (s : RS) (w : World)
set_option maxRecDepth 100000 in
set_option maxHeartbeats 3200000 in
theorem rcopy_any (q:Nat) (dv:Value) (dl:Option (List Int)) (h:FS w r g A n c bs most vo s) (hd:DV w r g vo dv dl) (hm:most≤1000000) (hq:257≤q) (hq2:q≤300) (ho:(s.out.length:Int)≤most) :
  Calls Tryz.prog 177 #[.pointer (some ⟨r,0,none⟩),.int .i64 (q:Int),dv] w fun e w'=>e=.returned (.tuple #[])∧∃ vo',FS w' r g A n c bs most vo' (copyP bs most s q dl)∧RFr w w' r g vo vo':=by
 have H:=Lib.hid h
 by_cases h286:286≤q
 ·have hqi:(286:Int)≤(q:Int):=by omega
  have HFL:=Lib.hid (rfail_any r g n c A bs most vo s w 4 h)
  have HR:Hid (copyP bs most s q dl=s.fail 4):=(show _=_ from if_pos h286)
  rw [HR.out]
  clear h hd HR
  go_enter Tryz.func177,Tryz.ntmps177
  go_wp2_with (go_at_call 100;(with_reducible refine HFL.out.mono ?_);go_must (rintro e w4 ⟨rfl,hf4,hr4⟩;have HF4:=Lib.hid hf4;have HR4:=Lib.hid hr4;clear hf4 hr4))
  (try simp only [Exit.inBlock,Exit.then])
  first | (refine bodyPost_ret (results_none rfl _ _ _) rfl ?_) | (refine bodyPost_end (results_none rfl _ _ _) rfl ?_)
  exact ⟨rfl,vo,HF4.out,HR4.out⟩
 ·have hqi:¬ (286:Int)≤(q:Int):=by omega
  obtain ⟨k,hk⟩:∃ k,q - 257=k:=⟨_,rfl⟩
  have hk28:k≤28:=by omega
  obtain ⟨q1,hq1⟩:∃ q1,q - 256=q1:=⟨_,rfl⟩
  have hqa:(q:Int) - 256=(q1:Int):=by omega
  have hqb:(q1:Int) - 1=(k:Int):=by omega
  have HLO:=Lib.hid (fun w=>lengthOf_any k hk28 w)
  have hlb:=lenOf_le hk28
  have HR:Hid (copyP bs most s q dl=if (getP bs s (lenOf k).2).2.e=0 then cpB bs most (getP bs s (lenOf k).2).2 ((lenOf k).1+(getP bs s (lenOf k).2).1) dl else (getP bs s (lenOf k).2).2):=(show _=_ by rw [← hk];exact if_neg h286)
  have HG1:=Lib.hid (rget_any r g n c A bs most vo s w (lenOf k).2 ((lenOf k).2:Int) rfl h (by omega))
  have hv1:=getP_lt bs s (m:=(lenOf k).2) (by omega)
  have hv2:(getP bs s (lenOf k).2).1 < 32:=Nat.lt_of_lt_of_le hv1 (Nat.pow_le_pow_right (n:=2) (by decide) hlb.2)
  have hout1:=getP_out bs s (lenOf k).2
  clear h hv1 hk hq1
  generalize (getP bs s (lenOf k).2).1=v1 at *
  generalize (getP bs s (lenOf k).2).2=s1 at *
  generalize (lenOf k).1=a1 at *
  generalize (lenOf k).2=m1 at *
  generalize copyP bs most s q dl=R at *
  have hlen:(a1:Int)+(v1:Int)=((a1+v1:Nat):Int):=by omega
  obtain ⟨N,hN⟩:∃ N,a1+v1=N:=⟨_,rfl⟩
  rw [hN] at hlen HR
  have hNb:N≤300:=by omega
  by_cases he1:s1.e=0
  ·rw [if_pos he1] at HR
   have d1:(s1.e == 0)=true:=by rw [he1];rfl
   have d1b:(s1.e != 0)=false:=by rw [he1];rfl
   rcases hd with ⟨rfl,rfl⟩ | ⟨gd,ds,rfl,rfl,hdk,hok⟩
   ·have HFL:=Lib.hid (fun w' (h:FS w' r g A n c bs most vo s1)=>rfail_any r g n c A bs most vo s1 w' 1 h)
    have HR2:Hid (R=s1.fail 1):=(show _=_ from HR.out)
    rw [HR2.out]
    clear HR HR2
    go_enter Tryz.func177,Tryz.ntmps177
    go_wp2_with (first
     | (go_at_call 70;(with_reducible refine (HLO.out _).mono ?_);go_must (rintro e w5 ⟨rfl,rfl⟩))
     | (go_at_call 96;(with_reducible refine HG1.out.mono ?_);go_must (rintro e w5 ⟨rfl,hf5,hr5⟩;have e53:=(FR.arr hf5).cell (k:=3) rfl;have HFL5:=Lib.hid (HFL.out w5 hf5);have HR5:=Lib.hid hr5;clear hf5 hr5))
     | (go_at_call 100;(with_reducible refine HFL5.out.mono ?_);go_must (rintro e w6 ⟨rfl,hf6,hr6⟩;have HF6:=Lib.hid hf6;have HR6:=Lib.hid (HR5.out.trans hr6);clear hf6 hr6)))
    (try simp only [Exit.inBlock,Exit.then])
    first | (refine bodyPost_ret (results_none rfl _ _ _) rfl ?_) | (refine bodyPost_end (results_none rfl _ _ _) rfl ?_)
    exact ⟨rfl,vo,HF6.out,HR6.out⟩
   ·have HOK:=Lib.hid hok
    have HDK:=Lib.hid hdk
    have HNX:=Lib.hid (fun w' (h:FS w' r g A n c bs most vo s1) (hd:DK w' r g vo gd ds)=>rnext_any r g n c A bs most vo s1 w' gd ds h hd HOK.out.1 HOK.out.2.1 HOK.out.2.2)
    have HR2:Hid (R=if (nextP bs ds s1).2.e=0∧30≤(nextP bs ds s1).1 then (nextP bs ds s1).2.fail 4 else copiesP most (getP bs (nextP bs ds s1).2 (distOf (nextP bs ds s1).1.toNat).2).2 N ((distOf (nextP bs ds s1).1.toNat).1+(getP bs (nextP bs ds s1).2 (distOf (nextP bs ds s1).1.toNat).2).1)):=(show _=_ from HR.out)
    obtain ⟨p,hp1,hp2,hp3⟩:=nextP_val bs ds s1
    have hp2b:p≤300:=by have:=HOK.out.2.2;omega
    have hout2:=nextP_out bs ds s1
    rw [hp1] at HNX HR2
    have hpt:((p:Int)).toNat=p:=rfl
    rw [hpt] at HR2
    generalize (nextP bs ds s1).2=s2 at *
    clear HR hok hdk hp1 hp2
    by_cases hbad:s2.e=0∧(30:Int)≤(p:Int)
    ·rw [if_pos hbad] at HR2
     have d2:(s2.e == 0)=true:=by rw [hbad.1];rfl
     have d3:=hbad.2
     have HFL:=Lib.hid (fun w' (h:FS w' r g A n c bs most vo s2)=>rfail_any r g n c A bs most vo s2 w' 4 h)
     rw [HR2.out]
     clear HR2
     go_enter Tryz.func177,Tryz.ntmps177
     go_wp2_with (first
      | (go_at_call 70;(with_reducible refine (HLO.out _).mono ?_);go_must (rintro e w5 ⟨rfl,rfl⟩))
      | (go_at_call 96;(with_reducible refine HG1.out.mono ?_);go_must (rintro e w5 ⟨rfl,hf5,hr5⟩;have e53:=(FR.arr hf5).cell (k:=3) rfl;have HNX5:=Lib.hid (HNX.out w5 hf5 (HDK.out.fr hr5));have HR5:=Lib.hid hr5;clear hf5 hr5))
      | (go_at_call 176;(with_reducible refine HNX5.out.mono ?_);go_must (rintro e w6 ⟨rfl,hf6,hr6⟩;have e63:=(FR.arr hf6).cell (k:=3) rfl;have HFL6:=Lib.hid (HFL.out w6 hf6);have HR6:=Lib.hid (HR5.out.trans hr6);clear hf6 hr6))
      | (go_at_call 100;(with_reducible refine HFL6.out.mono ?_);go_must (rintro e w7 ⟨rfl,hf7,hr7⟩;have HF7:=Lib.hid hf7;have HR7:=Lib.hid (HR6.out.trans hr7);clear hf7 hr7)))
     (try simp only [Exit.inBlock,Exit.then])
     first | (refine bodyPost_ret (results_none rfl _ _ _) rfl ?_) | (refine bodyPost_end (results_none rfl _ _ _) rfl ?_)
     exact ⟨rfl,vo,HF7.out,HR7.out⟩
    ·rw [if_neg hbad] at HR2
     have hp29:p≤29:=by
      by_cases h0:s2.e=0
      ·have:¬ (30:Int)≤(p:Int):=fun h=>hbad ⟨h0,h⟩
       omega
      ·have:=hp3 h0
       omega
     have hpi:¬ (30:Int)≤(p:Int):=by omega
     clear hp3
     have hdb:=distOf_le hp29
     have hd1:1≤(distOf p).1:=by
      rcases le29 hp29 with e | e | e | e | e | e | e | e | e | e | e | e | e | e | e | e | e | e | e | e | e | e | e | e | e | e | e | e | e | e <;> (rw [e];decide)
     have HDO:=Lib.hid (fun w=>distanceOf_any p hp29 w)
     have HG2:=Lib.hid (fun w' (h:FS w' r g A n c bs most vo s2)=>rget_any r g n c A bs most vo s2 w' (distOf p).2 ((distOf p).2:Int) rfl h (by omega))
     have hv3:=getP_lt bs s2 (m:=(distOf p).2) (by omega)
     have hv4:(getP bs s2 (distOf p).2).1 < 8192:=Nat.lt_of_lt_of_le hv3 (Nat.pow_le_pow_right (n:=2) (by decide) hdb.2)
     have hout3:=getP_out bs s2 (distOf p).2
     clear hv3
     generalize (getP bs s2 (distOf p).2).1=v2 at *
     generalize (getP bs s2 (distOf p).2).2=s3 at *
     generalize (distOf p).1=a2 at *
     generalize (distOf p).2=m2 at *
     obtain ⟨D,hD⟩:∃ D,a2+v2=D:=⟨_,rfl⟩
     have hDi:(a2:Int)+(v2:Int)=(D:Int):=by omega
     rw [hD] at HR2
     have ho3:s3.out.length≤2000000:=by rw [hout3,hout2,hout1];omega
     have HCP:=Lib.hid (fun w' (h:FS w' r g A n c bs most vo s3)=>rcopies_any r g n c A bs most vo s3 w' N D h hm (by omega) (by omega) (by omega) ho3)
     have HDD:=Lib.hid hD
     rw [HR2.out]
     clear HR2 hD ho3 hout1 hout2 hout3
     by_cases he2:s2.e=0
     ·have d2:(s2.e == 0)=true:=by rw [he2];rfl
      go_enter Tryz.func177,Tryz.ntmps177
      go_wp2_with (first
       | (go_at_call 70;(with_reducible refine (HLO.out _).mono ?_);go_must (rintro e w5 ⟨rfl,rfl⟩))
       | (go_at_call 71;(with_reducible refine (HDO.out _).mono ?_);go_must (rintro e w5 ⟨rfl,rfl⟩))
       | (go_at_call 96;(with_reducible refine HG1.out.mono ?_);go_must (rintro e w5 ⟨rfl,hf5,hr5⟩;have e53:=(FR.arr hf5).cell (k:=3) rfl;have HNX5:=Lib.hid (HNX.out w5 hf5 (HDK.out.fr hr5));have HR5:=Lib.hid hr5;clear hf5 hr5))
       | (go_at_call 176;(with_reducible refine HNX5.out.mono ?_);go_must (rintro e w6 ⟨rfl,hf6,hr6⟩;have e63:=(FR.arr hf6).cell (k:=3) rfl;have HG6:=Lib.hid (HG2.out w6 hf6);have HR6:=Lib.hid (HR5.out.trans hr6);clear hf6 hr6))
       | (go_at_call 96;(with_reducible refine HG6.out.mono ?_);go_must (rintro e w7 ⟨rfl,hf7,hr7⟩;have HCP7:=Lib.hid (HCP.out w7 hf7);have HR7:=Lib.hid (HR6.out.trans hr7);clear hf7 hr7))
       | (go_at_call 190;(with_reducible refine HCP7.out.mono ?_);go_must (rintro e w8 ⟨rfl,v8,hf8,hr8⟩;have HF8:=Lib.hid hf8;have HR8:=Lib.hid (HR7.out.trans hr8);clear hf8 hr8)))
      (try simp only [Exit.inBlock,Exit.then])
      first | (refine bodyPost_ret (results_none rfl _ _ _) rfl ?_) | (refine bodyPost_end (results_none rfl _ _ _) rfl ?_)
      exact ⟨rfl,v8,HF8.out,HR8.out⟩
     ·have d2:(s2.e == 0)=false:=beq_eq_false_iff_ne.2 he2
      go_enter Tryz.func177,Tryz.ntmps177
      go_wp2_with (first
       | (go_at_call 70;(with_reducible refine (HLO.out _).mono ?_);go_must (rintro e w5 ⟨rfl,rfl⟩))
       | (go_at_call 71;(with_reducible refine (HDO.out _).mono ?_);go_must (rintro e w5 ⟨rfl,rfl⟩))
       | (go_at_call 96;(with_reducible refine HG1.out.mono ?_);go_must (rintro e w5 ⟨rfl,hf5,hr5⟩;have e53:=(FR.arr hf5).cell (k:=3) rfl;have HNX5:=Lib.hid (HNX.out w5 hf5 (HDK.out.fr hr5));have HR5:=Lib.hid hr5;clear hf5 hr5))
       | (go_at_call 176;(with_reducible refine HNX5.out.mono ?_);go_must (rintro e w6 ⟨rfl,hf6,hr6⟩;have e63:=(FR.arr hf6).cell (k:=3) rfl;have HG6:=Lib.hid (HG2.out w6 hf6);have HR6:=Lib.hid (HR5.out.trans hr6);clear hf6 hr6))
       | (go_at_call 96;(with_reducible refine HG6.out.mono ?_);go_must (rintro e w7 ⟨rfl,hf7,hr7⟩;have HCP7:=Lib.hid (HCP.out w7 hf7);have HR7:=Lib.hid (HR6.out.trans hr7);clear hf7 hr7))
       | (go_at_call 190;(with_reducible refine HCP7.out.mono ?_);go_must (rintro e w8 ⟨rfl,v8,hf8,hr8⟩;have HF8:=Lib.hid hf8;have HR8:=Lib.hid (HR7.out.trans hr8);clear hf8 hr8)))
      (try simp only [Exit.inBlock,Exit.then])
      first | (refine bodyPost_ret (results_none rfl _ _ _) rfl ?_) | (refine bodyPost_end (results_none rfl _ _ _) rfl ?_)
      exact ⟨rfl,v8,HF8.out,HR8.out⟩
  ·rw [if_neg he1] at HR
   have d1:(s1.e == 0)=false:=beq_eq_false_iff_ne.2 he1
   have d1b:(s1.e != 0)=true:=by rw [bne_iff_ne];exact he1
   rw [HR.out]
   clear HR hd
   go_enter Tryz.func177,Tryz.ntmps177
   go_wp2_with (first
    | (go_at_call 70;(with_reducible refine (HLO.out _).mono ?_);go_must (rintro e w5 ⟨rfl,rfl⟩))
    | (go_at_call 96;(with_reducible refine HG1.out.mono ?_);go_must (rintro e w5 ⟨rfl,hf5,hr5⟩;have e53:=(FR.arr hf5).cell (k:=3) rfl;have HF5:=Lib.hid hf5;have HR5:=Lib.hid hr5;clear hf5 hr5)))
   (try simp only [Exit.inBlock,Exit.then])
   first | (refine bodyPost_ret (results_none rfl _ _ _) rfl ?_) | (refine bodyPost_end (results_none rfl _ _ _) rfl ?_)
   exact ⟨rfl,vo,HF5.out,HR5.out⟩
end
end Go.Proofs.YteoolehdomjkkaaGreat

/- flate: the reader of blocks, whatever comes: a decoder made. -/
namespace Go.Proofs.YteoolehdomjkkaaGreat
set_option linter.all false
open Go.RowKit
def cPos (ls:List Int):Nat:=ls.countP fun x=>decide (0 < x)
def cOne (ls:List Int):Nat:=ls.countP fun x=>decide (x=1)
theorem cPos_snoc (l:List Int) (x:Int):cPos (l ++ [x])=cPos l+if 0 < x then 1 else 0:=by unfold cPos;simp [List.countP_append,List.countP_cons]
theorem cOne_snoc (l:List Int) (x:Int):cOne (l ++ [x])=cOne l+if x=1 then 1 else 0:=by unfold cOne;simp [List.countP_append,List.countP_cons]
/-- Are lengths no decoder's, not all of a code being used? -/
def decBad (ls:List Int) (alone:Bool):Prop:=krV ls < 32768∧¬ (alone=true∧cPos ls=1∧cOne ls=1)
instance (ls:List Int) (alone:Bool):Decidable (decBad ls alone):=by unfold decBad;infer_instance
def decP (ls:List Int) (alone:Bool) (s:RS):RS:=if s.e=0 then (if nwE ls=0 then (if decBad ls alone then s.fail 4 else s) else s.fail 4) else s
def decD (ls:List Int) (s:RS):Option (List Int):=if s.e=0∧nwE ls=0 then some ls else none
theorem nwE_ok {ls:List Int} (h:nwE ls=0):OkL ls:=by
 unfold nwE at h
 split at h
 ·rename_i h2
  exact cdE_zero h2
 ·rename_i h2
  exact absurd h h2
theorem FR.later {w w':World} {r g:Nat} {A:Option Addr} {n c P:Nat} {bs:List UInt8} {vo:Value} {out:List UInt8} {most e:Int} (h:FR w r g A n c P bs vo out most e) (hb:Below w.heap.size w w'):FR w' r g A n c P bs vo out most e :=
 ⟨h.arr.later hb,h.rd.later hb,h.rb.blw (hb.mono (Nat.le_of_lt h.rd.lt)),ownB.later h.own hb,h.gr,h.fit,h.big⟩
section
variable (r g n c : Nat) (A : Option Addr) (bs : List UInt8) (most : Int) (vo : Value) (s : RS) (w : World)
set_option maxRecDepth 100000 in
set_option maxHeartbeats 3200000 in
theorem rdecoder_any (B nl cl:Nat) (Al:Option Addr) (ls:List Int) (alone:Bool) (h:FS w r g A n c bs most vo s) (hr:RdI w B Al nl ls) (hB:B≤w.heap.size) (hn:nl≤1000) :
  Calls Tryz.prog 147 #[.pointer (some ⟨r,0,none⟩),.slice Al nl cl,.bool alone] w fun e w'=>∃ dv,e=.returned dv∧FS w' r g A n c bs most vo (decP ls alone s)∧RFr w w' r g vo vo∧DV w' r g vo dv (decD ls s):=by
 have H:=Lib.hid h
 have c3:=(FR.arr h).cell (k:=3) rfl
 by_cases he:s.e=0
 ·have d1:(s.e == 0)=true:=by rw [he];rfl
  have d1b:(s.e != 0)=false:=by rw [he];rfl
  have hrw:=(FR.arr h).lt
  have hgw:=(FR.rd h).lt
  have HVO:Hid (∀ k,vo.ownBlock=some k→k < w.heap.size):=(show ∀ k,_ from fun k hk=>(World.ownsRow.lt (FR.own h) k hk).2)
  have HN:=Lib.hid (new_gen B nl cl Al ls w hr hB (by omega))
  have HL:=Lib.hid hr.len
  have HRD:=Lib.hid hr
  have HFA:Hid (∀ w1,Below w.heap.size w w1→FS w1 r g A n c bs most vo s):=(show ∀ w1,_ from fun w1 hb=>FR.later h hb)
  have HFL:=Lib.hid (fun w' (h:FS w' r g A n c bs most vo s)=>rfail_any r g n c A bs most vo s w' 4 h)
  unfold NewG at HN
  by_cases hE:nwE ls=0
  ·have hD:decD ls s=some ls:=if_pos ⟨he,hE⟩
   have hP:decP ls alone s=if decBad ls alone then s.fail 4 else s:=by unfold decP;rw [if_pos he,if_pos hE]
   have HOK:=Lib.hid (nwE_ok hE)
   rw [hD,hP]
   rw [hE] at HN
   have HKR:=Lib.hid (fun w1 (h:RdI w1 B Al nl ls)=>kraft_any B nl cl Al ls w1 h (by omega))
   have hDB:decBad ls alone=(krV ls < 32768∧¬ (alone=true∧cPos ls=1∧cOne ls=1)):=rfl
   generalize krE ls=KE at *
   clear h hr hD hP
   go_enter Tryz.func147,Tryz.ntmps147
   go_wp2_with (first
    | (go_at_call 178;(with_reducible refine HN.out.mono ?_);go_must (rintro e w1 ⟨v1,rfl,hv1,-,hb1⟩;obtain ⟨gd,rfl,hdg⟩:=hv1 rfl;have hs1:=hb1.size;have HF1:=Lib.hid (HFA.out w1 hb1);have HR1:=Lib.hid (RFr.ofB hb1 r g vo);have HK1:=Lib.hid (DK.new (vo:=vo) hdg hrw hgw HVO.out);have HRD1:=Lib.hid (RdI.blw HRD.out (hb1.mono hB));have HKR1:=Lib.hid (HKR.out w1 HRD1.out);clear hv1 hb1 hdg))
    | (go_at_call 152;(with_reducible refine HKR1.out.mono ?_);go_must (rintro e w2 ⟨rfl,rfl⟩)))
   go_loopw [36,11,12] (fun vk vp vq wr=>∃ k:Nat,k≤nl∧vk=.int .i64 k∧vp=.int .i64 (cPos (ls.take k):Int)∧vq=.int .i64 (cOne (ls.take k):Int)∧wr=w1) (fun vk _ _ _=>nl - (intOf vk).toNat)
   case atStart=>exact ⟨0,Nat.zero_le _,rfl,rfl,rfl,rfl⟩
   case round =>
    obtain ⟨k,hk,rfl,rfl,rfl,rfl⟩:=hrel
    by_cases hlt:k < nl
    ·have hlti:(k:Int) < (nl:Int):=by omega
     obtain ⟨b,o,x,rfl,hb,HX,e1⟩:=HRD1.out.one hlt
     have HP1:Hid (cPos (ls.take (k+1))=cPos (ls.take k)+if 0 < x then 1 else 0):=(show _=_ by rw [take_snoc1 HX.out,cPos_snoc])
     have HO1:Hid (cOne (ls.take (k+1))=cOne (ls.take k)+if x=1 then 1 else 0):=(show _=_ by rw [take_snoc1 HX.out,cOne_snoc])
     have hpl:cPos (ls.take k)≤1000:=Nat.le_trans List.countP_le_length (by rw [List.length_take];omega)
     have hol:cOne (ls.take k)≤1000:=Nat.le_trans List.countP_le_length (by rw [List.length_take];omega)
     generalize cPos (ls.take k)=cp at *
     generalize cOne (ls.take k)=co at *
     by_cases hx0:0 < x
     ·rw [if_pos hx0] at HP1
      by_cases hx1:x=1
      ·rw [if_pos hx1] at HO1
       have t1:(x == 1)=true:=by rw [hx1];rfl
       go_wp2_with fail
       go_roundw
       case rel=>exact ⟨k+1,by omega,by go_num,by (rw [HP1.out]) <;> (first | done | rfl | go_num),by (rw [HO1.out]) <;> (first | done | rfl | go_num),trivial⟩
       case measure=>simp [intOf];omega
      ·rw [if_neg hx1] at HO1
       have t1:(x == 1)=false:=beq_eq_false_iff_ne.2 hx1
       go_wp2_with fail
       go_roundw
       case rel=>exact ⟨k+1,by omega,by go_num,by (rw [HP1.out]) <;> (first | done | rfl | go_num),by (rw [HO1.out]) <;> (first | done | rfl | go_num),trivial⟩
       case measure=>simp [intOf];omega
     ·rw [if_neg hx0] at HP1
      have hx1:¬ x=1:=by omega
      rw [if_neg hx1] at HO1
      have t1:(x == 1)=false:=beq_eq_false_iff_ne.2 hx1
      go_wp2_with fail
      go_roundw
      case rel=>exact ⟨k+1,by omega,by go_num,by (rw [HP1.out]) <;> (first | done | rfl | go_num),by (rw [HO1.out]) <;> (first | done | rfl | go_num),trivial⟩
      case measure=>simp [intOf];omega
    ·obtain rfl:k=nl:=by omega
     have hlti:¬ (k:Int) < (k:Int):=by omega
     have hta:ls.take k=ls:=List.take_of_length_le (by rw [HL.out];exact Nat.le_refl _)
     rw [hta]
     have HFL1:=Lib.hid (HFL.out wr HF1.out)
     have hpl:cPos ls≤1000:=Nat.le_trans List.countP_le_length (by rw [HL.out];omega)
     have hol:cOne ls≤1000:=Nat.le_trans List.countP_le_length (by rw [HL.out];omega)
     clear hta HFA HFL
     by_cases hk1:krV ls < 32768
     ·cases alone with
      | false =>
       have hbad:decBad ls false:=⟨hk1,fun h=>by cases h.1⟩
       generalize krV ls=K at *
       generalize cPos ls=P at *
       generalize cOne ls=O at *
       go_wp2_with (go_at_call 100;(with_reducible refine HFL1.out.mono ?_);go_must (rintro e w4 ⟨rfl,hf4,hr4⟩;have HF4:=Lib.hid hf4;have HR4:=Lib.hid (HR1.out.trans hr4);have HK4:=Lib.hid (HK1.out.fr hr4);clear hf4 hr4))
       go_ret
       exact ⟨_,rfl,by first | exact HF4.out | (rw [if_pos hbad];exact HF4.out),HR4.out,.inr ⟨gd,ls,rfl,rfl,HK4.out,HOK.out⟩⟩
      | true =>
       by_cases hp1:cPos ls=1
       ·by_cases ho1:cOne ls=1
        ·have hbad:¬ decBad ls true:=fun h=>h.2 ⟨rfl,hp1,ho1⟩
         have t1:((cPos ls:Int) == 1)=true:=by rw [hp1];rfl
         have t2:((cOne ls:Int) == 1)=true:=by rw [ho1];rfl
         generalize krV ls=K at *
         generalize cPos ls=P at *
         generalize cOne ls=O at *
         go_wp2_with fail
         go_ret
         exact ⟨_,rfl,by first | exact HF1.out | (rw [if_neg hbad];exact HF1.out),HR1.out,.inr ⟨gd,ls,rfl,rfl,HK1.out,HOK.out⟩⟩
        ·have hbad:decBad ls true:=⟨hk1,fun h=>ho1 h.2.2⟩
         have t1:((cPos ls:Int) == 1)=true:=by rw [hp1];rfl
         have t2:((cOne ls:Int) == 1)=false:=beq_eq_false_iff_ne.2 (by omega)
         generalize krV ls=K at *
         generalize cPos ls=P at *
         generalize cOne ls=O at *
         go_wp2_with (go_at_call 100;(with_reducible refine HFL1.out.mono ?_);go_must (rintro e w4 ⟨rfl,hf4,hr4⟩;have HF4:=Lib.hid hf4;have HR4:=Lib.hid (HR1.out.trans hr4);have HK4:=Lib.hid (HK1.out.fr hr4);clear hf4 hr4))
         go_ret
         exact ⟨_,rfl,by first | exact HF4.out | (rw [if_pos hbad];exact HF4.out),HR4.out,.inr ⟨gd,ls,rfl,rfl,HK4.out,HOK.out⟩⟩
       ·have hbad:decBad ls true:=⟨hk1,fun h=>hp1 h.2.1⟩
        have t1:((cPos ls:Int) == 1)=false:=beq_eq_false_iff_ne.2 (by omega)
        generalize krV ls=K at *
        generalize cPos ls=P at *
        generalize cOne ls=O at *
        go_wp2_with (go_at_call 100;(with_reducible refine HFL1.out.mono ?_);go_must (rintro e w4 ⟨rfl,hf4,hr4⟩;have HF4:=Lib.hid hf4;have HR4:=Lib.hid (HR1.out.trans hr4);have HK4:=Lib.hid (HK1.out.fr hr4);clear hf4 hr4))
        go_ret
        exact ⟨_,rfl,by first | exact HF4.out | (rw [if_pos hbad];exact HF4.out),HR4.out,.inr ⟨gd,ls,rfl,rfl,HK4.out,HOK.out⟩⟩
     ·have hbad:¬ decBad ls alone:=fun h=>hk1 h.1
      generalize krV ls=K at *
      generalize cPos ls=P at *
      generalize cOne ls=O at *
      go_wp2_with fail
      go_ret
      exact ⟨_,rfl,by first | exact HF1.out | (rw [if_neg hbad];exact HF1.out),HR1.out,.inr ⟨gd,ls,rfl,rfl,HK1.out,HOK.out⟩⟩
  ·have hD:decD ls s=none:=if_neg (fun h=>hE h.2)
   have hP:decP ls alone s=s.fail 4:=by unfold decP;rw [if_pos he,if_neg hE]
   rw [hD,hP]
   have dE:(nwE ls != 0)=true:=by rw [bne_iff_ne];exact hE
   have dE2:(nwE ls == 0)=false:=beq_eq_false_iff_ne.2 hE
   generalize nwE ls=E at *
   clear h hr hD hP
   go_enter Tryz.func147,Tryz.ntmps147
   go_wp2_with (first
    | (go_at_call 178;(with_reducible refine HN.out.mono ?_);go_must (rintro e w1 ⟨v1,rfl,-,hv1,hb1⟩;have hv2:=hv1 hE;subst hv2;have HR1:=Lib.hid (RFr.ofB hb1 r g vo);have HFL1:=Lib.hid (HFL.out w1 (HFA.out w1 hb1));clear hv1 hb1))
    | (go_at_call 100;(with_reducible refine HFL1.out.mono ?_);go_must (rintro e w4 ⟨rfl,hf4,hr4⟩;have HF4:=Lib.hid hf4;have HR4:=Lib.hid (HR1.out.trans hr4);clear hf4 hr4)))
   go_ret
   exact ⟨_,rfl,HF4.out,HR4.out,.inl ⟨rfl,rfl⟩⟩
 ·have d1:(s.e == 0)=false:=beq_eq_false_iff_ne.2 he
  have d1b:(s.e != 0)=true:=by rw [bne_iff_ne];exact he
  have hD:decD ls s=none:=if_neg (fun h=>he h.1)
  have hP:decP ls alone s=s:=if_neg he
  rw [hD,hP]
  clear h hr
  go_enter Tryz.func147,Tryz.ntmps147
  go_wp2_with fail
  go_ret
  exact ⟨_,rfl,H.out,RFr.refl _ _ _ _,.inl ⟨rfl,rfl⟩⟩
end
end Go.Proofs.YteoolehdomjkkaaGreat

/- flate: what a reader of blocks does with lists of lengths, plainly. -/
namespace Go.Proofs.YteoolehdomjkkaaGreat
set_option linter.all false
/-- A length laid behind others, so often. -/
def rep0 (l:List Int) (n all:Nat) (s:RS):RS:=if s.e=0∧(all:Int) - (l.length:Int) < (n:Int) then s.fail 4 else s
def repP (l:List Int) (x:Int) (n all:Nat) (s:RS):List Int × RS:=if (rep0 l n all s).e=0 then (l ++ List.replicate n x,rep0 l n all s) else (l,rep0 l n all s)
/-- So many lengths. -/
def listF (bs:List UInt8) (ls:List Int) (all:Nat):Nat→List Int→RS→List Int × RS
 | 0,l,s=>(l,s)
 | f+1,l,s =>
  if l.length < all∧s.e=0 then
   if (nextP bs ls s).2.e=0 then
    if (nextP bs ls s).1 < 16 then listF bs ls all f (l ++ [(nextP bs ls s).1]) (nextP bs ls s).2
    else if (nextP bs ls s).1=16 then
     (if l.length=0 then (l,(nextP bs ls s).2.fail 4)
     else listF bs ls all f (repP l (l.getD (l.length - 1) 0) (3+(getP bs (nextP bs ls s).2 2).1) all (getP bs (nextP bs ls s).2 2).2).1 (repP l (l.getD (l.length - 1) 0) (3+(getP bs (nextP bs ls s).2 2).1) all (getP bs (nextP bs ls s).2 2).2).2)
    else if (nextP bs ls s).1=17 then listF bs ls all f (repP l 0 (3+(getP bs (nextP bs ls s).2 3).1) all (getP bs (nextP bs ls s).2 3).2).1 (repP l 0 (3+(getP bs (nextP bs ls s).2 3).1) all (getP bs (nextP bs ls s).2 3).2).2
    else listF bs ls all f (repP l 0 (11+(getP bs (nextP bs ls s).2 7).1) all (getP bs (nextP bs ls s).2 7).2).1 (repP l 0 (11+(getP bs (nextP bs ls s).2 7).1) all (getP bs (nextP bs ls s).2 7).2).2
   else (l,(nextP bs ls s).2)
  else (l,s)
theorem listF_stop {bs:List UInt8} {ls:List Int} {all f:Nat} {l:List Int} {s:RS} (h:¬ (l.length < all∧s.e=0)):listF bs ls all f l s=(l,s):=by
 cases f with
 | zero=>rfl
 | succ f=>exact if_neg h
theorem repP_len (l:List Int) (x:Int) (n all:Nat) (s:RS) (h:l.length≤all):(repP l x n all s).1.length≤all∧((repP l x n all s).2.e=0→(repP l x n all s).1.length=l.length+n):=by
 unfold repP
 split
 ·rename_i h0
  have hn:¬ (all:Int) - (l.length:Int) < (n:Int):=fun hh=>by
   unfold rep0 at h0
   by_cases he:s.e=0
   ·rw [if_pos ⟨he,hh⟩] at h0
    unfold RS.fail at h0
    rw [if_pos he] at h0
    exact absurd (show (4:Int)=0 from h0) (by decide)
   ·rw [if_neg (fun a=>he a.1)] at h0
    exact he h0
  have e1:(l ++ List.replicate n x).length=l.length+n:=by simp
  exact ⟨by show (l ++ List.replicate n x).length≤all;omega,fun _=>e1⟩
 ·rename_i h0
  exact ⟨h,fun h=>absurd h h0⟩
end Go.Proofs.YteoolehdomjkkaaGreat
