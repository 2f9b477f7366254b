/- Merged: Rd11, Rd12, Iq8, Rd13, Iq9. -/
import Derived.Deep.RegionHeld3
import Derived.Test.YteoolehdomjkkaaGreatMd30
import Derived.Test.YteoolehdomjkkaaGreatMd28
import Derived.Test.YteoolehdomjkkaaGreatMd02
import Derived.Test.YteoolehdomjkkaaGreatMd20
import Derived.Test.YteoolehdomjkkaaGreatMd27
/- flate: the reader of blocks, whatever comes: a block of its own codes. -/
namespace Go.Proofs.YteoolehdomjkkaaGreat
set_option linter.all false
open Go.RowKit
theorem ordR_lt:∀ i (h:i < ordL.length),ordL[i] < 19:=by decide
section
variable (r g n c : Nat) (A : Option Addr) (bs : List UInt8) (most : Int) (vo : Value) (s : RS) (w : World)
set_option maxRecDepth 100000 in
set_option maxHeartbeats 6400000 in
theorem rown_any (f:Nat) (h:FS w r g A n c bs most vo s) (hm:most≤1000000) (ho:(s.out.length:Int)≤most) (hf:8 * n+1≤f) :
  Calls Tryz.prog 99 #[.pointer (some ⟨r,0,none⟩)] w fun e w'=>e=.returned (.tuple #[])∧∃ vo',FS w' r g A n c bs most vo' (rownP bs most f s)∧RFr w w' r g vo vo':=by
 have hrw:=(FR.arr h).lt
 have hgr:=FR.gr h
 have HVO:Hid (∀ k,vo.ownBlock=some k→k < w.heap.size):=(show ∀ k,_ from fun k hk=>(World.ownsRow.lt (FR.own h) k hk).2)
 have HR0:=Lib.hid (RFr.refl w r g vo)
 have HG1:=Lib.hid (rget_any r g n c A bs most vo s w 5 5 rfl h (by omega))
 have HO6:Hid (((ownLs bs s).2.out.length:Int)≤most):=(show _≤_ by rw [ownLs_out];exact ho)
 have HFULL:=Lib.hid (ownLs_full bs s)
 -- letters for what is read
 have HRR:Hid (rownP bs most f s=ownT bs most (ownLs bs s).1 (hdN bs s) f (ownLs bs s).2):=(show _=_ from rfl)
 have HLS:Hid (ownLs bs s=listD bs (decD (hdL bs s).1 (hdL bs s).2) (hdN bs s+hdM bs s) (decP (hdL bs s).1 false (hdL bs s).2)):=(show _=_ from rfl)
 have HDL:Hid (hdL bs s=lenRd bs (ordL.take (4+(getP bs (hdB bs s) 4).1)) (List.replicate 19 0) (getP bs (hdB bs s) 4).2):=(show _=_ from rfl)
 have HSB:Hid (hdB bs s=if 30 < hdM bs s then (getP bs (hdA bs s) 5).2.fail 4 else (getP bs (hdA bs s) 5).2):=(show _=_ from rfl)
 have HSA:Hid (hdA bs s=if 286 < hdN bs s then (getP bs s 5).2.fail 4 else (getP bs s 5).2):=(show _=_ from rfl)
 have HG2:=Lib.hid (fun w5 (h:FS w5 r g A n c bs most vo (hdA bs s))=>rget_any r g n c A bs most vo (hdA bs s) w5 5 5 rfl h (by omega))
 have HG3:=Lib.hid (fun w5 (h:FS w5 r g A n c bs most vo (hdB bs s))=>rget_any r g n c A bs most vo (hdB bs s) w5 4 4 rfl h (by omega))
 have hv1:(getP bs s 5).1 < 32:=getP_lt bs s (m:=5) (by omega)
 have hv2:(getP bs (hdA bs s) 5).1 < 32:=getP_lt bs (hdA bs s) (m:=5) (by omega)
 have hv3:(getP bs (hdB bs s) 4).1 < 16:=getP_lt bs (hdB bs s) (m:=4) (by omega)
 have hNi:(257:Int)+((getP bs s 5).1:Int)=(hdN bs s:Int):=by unfold hdN;omega
 have hMi:(1:Int)+((getP bs (hdA bs s) 5).1:Int)=(hdM bs s:Int):=by unfold hdM;omega
 have hN1:257≤hdN bs s∧hdN bs s≤288:=by unfold hdN;omega
 have hM1:1≤hdM bs s∧hdM bs s≤32:=by unfold hdM;omega
 generalize rownP bs most f s=R at *
 generalize ownLs bs s=LS at *
 generalize hdL bs s=DL at *
 generalize (getP bs (hdB bs s) 4).1=v3 at *
 generalize (getP bs (hdB bs s) 4).2=t3 at *
 generalize hdB bs s=sB at *
 generalize hdM bs s=M at *
 generalize (getP bs (hdA bs s) 5).1=v2 at *
 generalize (getP bs (hdA bs s) 5).2=t2 at *
 generalize hdA bs s=sA at *
 generalize hdN bs s=N at *
 generalize (getP bs s 5).1=v1 at *
 generalize (getP bs s 5).2=t1 at *
 obtain ⟨Q,hQ⟩:∃ Q,4+v3=Q:=⟨_,rfl⟩
 rw [hQ] at HDL
 have hQi:(4:Int)+(v3:Int)=(Q:Int):=by omega
 have hQ1:4≤Q∧Q≤19:=by omega
 clear hQ h ho
 go_enter Tryz.func99,Tryz.ntmps99
 go_upto_if 14 with (go_at_call 96;(with_reducible refine HG1.out.mono ?_);go_must (rintro e w1 ⟨rfl,hf1,hr1⟩;have HF1:=Lib.hid hf1;have HR1:=Lib.hid hr1;clear hf1 hr1))
 go_cut [2] from 10 (fun v wc=>v=.int .i64 (N:Int)∧Hid (FS wc r g A n c bs most vo sA)∧Hid (RFr w wc r g vo vo))
 case first =>
  by_cases h286:286 < N
  ·have h286i:(286:Int) < (N:Int):=by omega
   rw [if_pos h286] at HSA
   have HFL:=Lib.hid (rfail_any r g n c A bs most vo t1 w1 4 HF1.out)
   rw [← HSA.out] at HFL
   go_wp2_with (go_at_call 100;(with_reducible refine HFL.out.mono ?_);go_must (rintro e w2 ⟨rfl,hf2,hr2⟩;have HF2:=Lib.hid hf2;have HR2:=Lib.hid (HR1.out.trans hr2);clear hf2 hr2))
   go_meet
   case rel=>exact ⟨rfl,HF2,HR2⟩
  ·have h286i:¬ (286:Int) < (N:Int):=by omega
   rw [if_neg h286] at HSA
   go_wp2_with fail
   go_meet
   case rel=>exact ⟨rfl,(show FS _ _ _ _ _ _ _ _ _ _ by rw [HSA.out];exact HF1.out),HR1⟩
 case rest =>
  obtain ⟨rfl,HF1,HR1⟩:=hcut
  rename_i w1
  have HG2:=Lib.hid (HG2.out _ HF1.out)
  go_upto_if 21 with (go_at_call 96;(with_reducible refine HG2.out.mono ?_);go_must (rintro e w2 ⟨rfl,hf2,hr2⟩;have HF2:=Lib.hid hf2;have HR2:=Lib.hid (HR1.out.trans hr2);clear hf2 hr2))
  go_cut [3] from 10 (fun v wc=>v=.int .i64 (M:Int)∧Hid (FS wc r g A n c bs most vo sB)∧Hid (RFr w wc r g vo vo))
  case first =>
   by_cases h30:30 < M
   ·have h30i:(30:Int) < (M:Int):=by omega
    rw [if_pos h30] at HSB
    have HFL:=Lib.hid (rfail_any r g n c A bs most vo t2 w2 4 HF2.out)
    rw [← HSB.out] at HFL
    go_wp2_with (go_at_call 100;(with_reducible refine HFL.out.mono ?_);go_must (rintro e w3 ⟨rfl,hf3,hr3⟩;have HF3:=Lib.hid hf3;have HR3:=Lib.hid (HR2.out.trans hr3);clear hf3 hr3))
    go_meet
    case rel=>exact ⟨rfl,HF3,HR3⟩
   ·have h30i:¬ (30:Int) < (M:Int):=by omega
    rw [if_neg h30] at HSB
    go_wp2_with fail
    go_meet
    case rel=>exact ⟨rfl,(show FS _ _ _ _ _ _ _ _ _ _ by rw [HSB.out];exact HF2.out),HR2⟩
  case rest =>
   obtain ⟨rfl,HF2,HR2⟩:=hcut
   clear HSA HSB HG2 HF1 HR1 HG1
   have hrs:=HR2.out.size
   go_wp2_with (first
    | (at_make;refine wpList_makeI rfl _ _ rfl 19 _ rfl rfl rfl (by omega) ?_;intro w3 hown hb3 hsz3;have HL3:=Lib.hid (ownI.mono hown hrs);have HF3:Hid (FS w3 r g A n c bs most vo sB):=(show FS _ _ _ _ _ _ _ _ _ _ from FR.later HF2.out hb3);have HR3:=Lib.hid (HR2.out.trans (RFr.ofB hb3 r g vo));have hs3:=hb3.size;clear hown hb3)
    | (go_at_call 112;(with_reducible refine (order_any w3).mono ?_);go_must (rintro e w4 ⟨rfl,ho4,hb4⟩;have HO4:=Lib.hid (ownI.mono ho4 (Nat.le_trans hrs hs3));have HL4:=Lib.hid (HL3.out.later hb4);have HF4:Hid (FS w4 r g A n c bs most vo sB):=(show FS _ _ _ _ _ _ _ _ _ _ from FR.later HF3.out hb4);have HR4:=Lib.hid (HR3.out.trans (RFr.ofB hb4 r g vo));have HG4:=Lib.hid (HG3.out w4 HF4.out);clear ho4 hb4))
    | (go_at_call 96;(with_reducible refine HG4.out.mono ?_);go_must (rintro e w5 ⟨rfl,hf5,hr5⟩;have HF5:=Lib.hid hf5;have HR5:=Lib.hid (HR4.out.trans hr5);have HL5:Hid (ownI w5 w.heap.size (.slice (some ⟨wc.heap.size,0,none⟩) 19 19) (List.replicate 19 0)):=(show ownI _ _ _ _ from ownI.rfr HL4.out hr5 hrw (by omega) (fun k hk hk2=>by have h1:=HVO.out k hk;have h2:=(World.ownsRow.lt HL4.out k hk2).1;omega));have HO5:Hid (ownI w5 w.heap.size (.slice (some ⟨w3.heap.size,0,none⟩) 19 19) (ordL.map fun (x:Nat)=>(x:Int))):=(show ownI _ _ _ _ from ownI.rfr HO4.out hr5 hrw (by omega) (fun k hk hk2=>by have h1:=HVO.out k hk;have h2:=(World.ownsRow.lt HO4.out k hk2).1;omega));clear hf5 hr5)))
   have hne12:wc.heap.size ≠ w3.heap.size:=by omega
   clear HG3 HF3 HR3 HL3 HF4 HR4 HL4 HO4 HG4 HF2 HR2
   generalize wc.heap.size=G1 at *
   generalize w3.heap.size=G2 at *
   clear hs3 hsz3 hrs
   have HL0:Hid (lenRd bs ((ordL.take Q).drop 0) (List.replicate 19 0) t3=DL):=(show _=_ from HDL.out.symm)
   go_loopw [31] (fun vi wr=>∃ (i:Nat) (L:List Int) (cur:RS),i≤Q∧vi=.int .i64 i∧Hid (L.length=19)∧Hid (FS wr r g A n c bs most vo cur)∧Hid (RFr w wr r g vo vo)∧Hid (ownI wr w.heap.size (.slice (some ⟨G1,0,none⟩) 19 19) L)∧Hid (ownI wr w.heap.size (.slice (some ⟨G2,0,none⟩) 19 19) (ordL.map fun (x:Nat)=>(x:Int)))∧Hid (lenRd bs ((ordL.take Q).drop i) L cur=DL)) (fun vi _=>Q - (intOf vi).toNat)
   case atStart=>exact ⟨0,_,t3,Nat.zero_le _,rfl,(show (List.replicate 19 (0:Int)).length=19 from rfl),HF5,HR5,HL5,HO5,HL0⟩
   case round =>
    clear HF5 HR5 HL5 HO5 HL0
    obtain ⟨i,L,cur,hi,rfl,HLL,HF,HR,HL,HO,HS⟩:=hrel
    have hrs:=HR.out.size
    by_cases hlt:i < Q
    ·have hlti:(i:Int) < (Q:Int):=by omega
     have hi19:i < ordL.length:=by show i < 19;omega
     have hkk:=ordR_lt i hi19
     have HST:=Lib.hid HS.out
     rw [List.drop_eq_getElem_cons (show i < (ordL.take Q).length by rw [List.length_take];show i < min Q 19;omega),List.getElem_take,lenRd] at HST
     have e1:wr.cell? ⟨G2,i,none⟩=some (.int .i64 (ordL[i]:Int)):=by
      have:=ownI.cell HO.out rfl (k:=i) (by rw [List.length_map];exact hi19)
      rw [List.getElem_map] at this
      exact this
     generalize ordL[i]=kk at *
     have hkki:(kk:Int) < 19:=by omega
     have HG:=Lib.hid (rget_any r g n c A bs most vo cur wr 3 3 rfl HF.out (by omega))
     have hv:=getP_lt bs cur (m:=3) (by omega)
     generalize (getP bs cur 3).1=v at *
     generalize (getP bs cur 3).2=nx1 at *
     go_wp2_with (go_at_call 96;(with_reducible refine HG.out.mono ?_);go_must (rintro e w6 ⟨rfl,hf6,hr6⟩;have HF6:=Lib.hid hf6;have HR6:=Lib.hid (HR.out.trans hr6);have HL6:Hid (ownI w6 w.heap.size (.slice (some ⟨G1,0,none⟩) 19 19) L):=(show ownI _ _ _ _ from ownI.rfr HL.out hr6 hrw (by omega) (fun k hk hk2=>by have h1:=HVO.out k hk;have h2:=(World.ownsRow.lt HL.out k hk2).1;omega));have HO6':Hid (ownI w6 w.heap.size (.slice (some ⟨G2,0,none⟩) 19 19) (ordL.map fun (x:Nat)=>(x:Int))):=(show ownI _ _ _ _ from ownI.rfr HO.out hr6 hrw (by omega) (fun k hk hk2=>by have h1:=HVO.out k hk;have h2:=(World.ownsRow.lt HO.out k hk2).1;omega));have c6:=ownI.cell HL6.out HLL.out.symm (k:=kk) (by rw [HLL.out];exact hkk);have f6:=ownI.frozen HL6.out HLL.out.symm kk;have HGB:=Lib.hid (World.ownsRow.stored (show w6.ownsRow w.heap.size _ _ (.slice (some ⟨G1,0,none⟩) 19 19) 19 (cI L) from by have:=HL6.out;unfold ownI at this;rwa [HLL.out] at this) kk (Value.int .i64 (v:Int))).2;have HLO:Hid (∀ k,(Value.slice (some ⟨G1,0,none⟩) 19 19).ownBlock=some k→w.heap.size≤k):=(show ∀ k,_ from fun k hk=>(World.ownsRow.lt HL6.out k hk).1);clear hf6 hr6))
     go_roundw
     case rel=>exact ⟨i+1,L.set kk (v:Int),nx1,by omega,by go_num,(show _=_ by rw [List.length_set];exact HLL.out),(show FS _ _ _ _ _ _ _ _ _ _ from FR.side HF6.out hrw HVO.out HLO.out HGB.out),RFr.side (l:=L) HR6.out HLO.out HGB.out,ownI.store HL6.out HLL.out.symm kk _,ownI.far HO6'.out (fun e=>hne12 (by injection e with e;exact e.symm)) kk _,HST⟩
     case measure=>simp [intOf];omega
    ·obtain rfl:i=Q:=by omega
     have hlti:¬ (i:Int) < (i:Int):=by omega
     have HS2:Hid ((L,cur)=DL):=(show _=_ by
      rw [← HS.out,List.drop_eq_nil_of_le (by rw [List.length_take];omega)]
      rfl)
     have HDC:=Lib.hid (rdecoder_any r g n c A bs most vo cur wr wr.heap.size 19 19 (some ⟨G1,0,none⟩) L false HF.out (by have:=HL.out.rd;exact this) (Nat.le_refl _) (by omega))
     obtain ⟨NM,hNM⟩:∃ NM,N+M=NM:=⟨_,rfl⟩
     have hNMi:(N:Int)+(M:Int)=(NM:Int):=by omega
     have hNM2:NM - N=M:=by omega
     have HLC:=Lib.hid (fun w6 dv (h:FS w6 r g A n c bs most vo (decP L false cur)) (hd:DV w6 r g vo dv (decD L cur))=>rlistD_any r g n c A bs most vo (decP L false cur) w6 dv (decD L cur) NM h hd decD_none (by omega))
     have HLS2:=Lib.hid HLS.out
     rw [← HS2.out,hNM] at HLS2
     rw [← HLS2.out] at HLC
     rw [hNM] at HFULL
     clear HLS2 HLS HS2 HS HDL HF1 HR1 HF2 HR2 HG2 HO HLL hne12
     obtain ⟨all,s6⟩:=LS
     replace HFULL:Hid (s6.e=0→all.length=NM):=HFULL
     replace HRR:Hid (R=ownT bs most all N f s6):=HRR
     replace HLC:Hid (∀ w6 dv,FS w6 r g A n c bs most vo (decP L false cur)→DV w6 r g vo dv (decD L cur)→Calls Tryz.prog 148 #[.pointer (some ⟨r,0,none⟩),dv,.int .i64 (NM:Int)] w6 fun e w'=>∃ lv,e=.returned lv∧FS w' r g A n c bs most vo s6∧ownI w' w6.heap.size lv all∧RFr w6 w' r g vo vo):=HLC
     replace HO6:Hid ((s6.out.length:Int)≤most):=HO6
     by_cases he6:s6.e=0
     ·have d6:(s6.e == 0)=true:=by rw [he6];rfl
      have d6b:(s6.e != 0)=false:=by rw [he6];rfl
      have hlen:=HFULL.out he6
      have h256:256 < all.length:=by omega
      have h256i:(256:Int) < (NM:Int):=by omega
      have hgd:all.getD 256 0=all[256]:=by rw [List.getD_eq_getElem?_getD,List.getElem?_eq_getElem h256];rfl
      have HCL:Hid (∀ w' GA cl,ownI w' w.heap.size (.slice (some ⟨GA,0,none⟩) all.length cl) all→w'.cell? ⟨GA,256,none⟩=some (.int .i64 all[256])):=(show ∀ w' GA cl,_ from fun w' GA cl h=>ownI.cell h rfl h256)
      have HO1:Hid (own1 all s6=if all[256]=0 then s6.fail 4 else s6):=(show _=_ by unfold own1;rw [hgd])
      generalize all[256]=x at *
      clear hgd
      go_upto_if 57 with (first
       | (go_at_call 147;(with_reducible refine HDC.out.mono ?_);go_must (rintro e w6 ⟨dv,rfl,hf6,hr6,hd6⟩;have hs6:=(HR.out.trans hr6).size;have HR6:=Lib.hid (HR.out.trans hr6);have HLC6:=Lib.hid (HLC.out w6 dv hf6 hd6);clear hf6 hd6 hr6))
       | (go_at_call 148;(with_reducible refine HLC6.out.mono ?_);go_must (rintro e w7 ⟨lv,rfl,hf7,hl7,hr7⟩;obtain ⟨Al,cl,rfl,-,hcl,hcm⟩:=hl7.form;obtain ⟨-,GA,rfl,-,-⟩:=ownI.pos hl7 (by omega);have HL7:=Lib.hid (ownI.mono hl7 hs6);have c256:=HCL.out w7 GA cl HL7.out;have e73:=(FR.arr hf7).cell (k:=3) rfl;have HF7:=Lib.hid hf7;have HR7:=Lib.hid (HR6.out.trans hr7);clear hf7 hl7 hr7)))
      have HL7b:Hid (ownI w7 w.heap.size (.slice (some ⟨GA,0,none⟩) NM cl) all):=(show ownI w7 w.heap.size (.slice (some ⟨GA,0,none⟩) NM cl) all from by have:=HL7.out;rwa [hlen] at this)
      have hcl2:NM≤cl:=by omega
      clear HL7 HCL HLC6 HDC HLC c256 e73 HF HR HL
      go_cut [] from 10 (fun wc=>Hid (FS wc r g A n c bs most vo (own1 all s6))∧Hid (RFr w wc r g vo vo)∧Hid (ownI wc w.heap.size (.slice (some ⟨GA,0,none⟩) NM cl) all))
      case first =>
       by_cases hx:x=0
       ·have hx0:(x == 0)=true:=by rw [hx];rfl
        rw [if_pos hx] at HO1
        have HFL:=Lib.hid (rfail_any r g n c A bs most vo s6 w7 4 HF7.out)
        rw [← HO1.out] at HFL
        clear hx
        go_wp2_with (go_at_call 100;(with_reducible refine HFL.out.mono ?_);go_must (rintro e w8 ⟨rfl,hf8,hr8⟩;have HF8:=Lib.hid hf8;have HR8:=Lib.hid (HR7.out.trans hr8);have HL8:Hid (ownI w8 w.heap.size (.slice (some ⟨GA,0,none⟩) NM cl) all):=(show ownI _ _ _ _ from ownI.rfr HL7b.out hr8 hrw (by omega) (fun k hk hk2=>by have h1:=HVO.out k hk;have h2:=(World.ownsRow.lt HL7b.out k hk2).1;omega));clear hf8 hr8))
        go_meet
        case rel=>exact ⟨HF8,HR8,HL8⟩
       ·have hx0:(x == 0)=false:=beq_eq_false_iff_ne.2 hx
        rw [if_neg hx] at HO1
        go_wp2_with fail
        go_meet
        case rel=>exact ⟨(show FS _ _ _ _ _ _ _ _ _ _ by rw [HO1.out];exact HF7.out),HR7,HL7b⟩
      case rest =>
       obtain ⟨HF7c,HR7c,HL7c⟩:=hcut
       obtain ⟨s7,hs7⟩:∃ x,own1 all s6=x:=⟨_,rfl⟩
       have HO2:Hid (own2 all N s6=decP (all.take N) false s7):=(show _=_ by unfold own2;rw [hs7])
       have HO3:Hid (own3 all N s6=if noneP (all.drop N)=true then own2 all N s6 else decP (all.drop N) true (own2 all N s6)):=(show _=_ from rfl)
       have HOD:Hid (ownDD all N s6=if noneP (all.drop N)=true then none else decD (all.drop N) (own2 all N s6)):=(show _=_ from rfl)
       have HZ:Hid ((own3 all N s6).e=0→own3 all N s6=s6∧decD (all.take N) s7=some (all.take N)):=(show _→_ by rw [← hs7];exact own3_zero)
       rw [hs7] at HF7c
       have hrs7:=HR7c.out.size
       have HDC2:=Lib.hid (rdecoder_any r g n c A bs most vo s7 wc wc.heap.size N cl (some ⟨GA,0,none⟩) (all.take N) false HF7c.out (by have h1:=(ownI.rd HL7c.out).cut (k:=0) (m:=N) (by omega) (A':=some ⟨GA,0,none⟩) (fun _=>rfl);rwa [List.drop_zero] at h1) (Nat.le_refl _) (by omega))
       rw [← HO2.out] at HDC2
       have HRN:Hid (∀ w8,ownI w8 w.heap.size (.slice (some ⟨GA,0,none⟩) NM cl) all→RdI w8 w8.heap.size (some ⟨GA,N,none⟩) M (all.drop N)):=(show ∀ w8,_ from fun w8 h=>by
        have h1:=(ownI.rd h).cut (k:=N) (m:=M) (by omega) (A':=some ⟨GA,N,none⟩) (fun _=>by simp [Addr.add,(show ¬ N=0 by omega)])
        rwa [List.take_of_length_le (by rw [List.length_drop];omega)] at h1)
       have HRR2:Hid (R=if (own3 all N s6).e=0 then toksF bs most (all.take N) (ownDD all N s6) f (own3 all N s6) else own3 all N s6):=(show _=_ by rw [HRR.out];exact if_pos he6)
       clear hs7 HRR HO1 HF7 HR7 HL7b
       obtain ⟨z,hz⟩:∃ z,noneP (all.drop N)=z:=⟨_,rfl⟩
       have HNP:=Lib.hid hz
       rw [hz] at HO3 HOD
       clear hz
       generalize own2 all N s6=s8 at *
       generalize own3 all N s6=s9 at *
       generalize ownDD all N s6=D9 at *
       generalize decD (all.take N) s7=D8 at *
       go_upto_if 69 with (first
        | (go_at_call 147;(with_reducible refine HDC2.out.mono ?_);go_must (rintro e w8 ⟨d8,rfl,hf8,hr8,hd8⟩;have HF8:=Lib.hid hf8;have HR8:=Lib.hid (HR7c.out.trans hr8);have HL8:Hid (ownI w8 w.heap.size (.slice (some ⟨GA,0,none⟩) NM cl) all):=(show ownI _ _ _ _ from ownI.rfr HL7c.out hr8 hrw (by omega) (fun k hk hk2=>by have h1:=HVO.out k hk;have h2:=(World.ownsRow.lt HL7c.out k hk2).1;omega));have HD8:=Lib.hid hd8;have HNN:=Lib.hid (none_any w8.heap.size M (cl - N) (some ⟨GA,N,none⟩) (all.drop N) w8 (HRN.out w8 HL8.out) (by omega));rw [HNP.out] at HNN;clear hf8 hr8 hd8))
        | (go_at_call 149;(with_reducible refine HNN.out.mono ?_);go_must (rintro e w9 ⟨rfl,rfl⟩)))
       go_cut [9] from 10 (fun v wc=>Hid (FS wc r g A n c bs most vo s9)∧Hid (RFr w wc r g vo vo)∧Hid (DV wc r g vo v D9)∧Hid (DV wc r g vo d8 D8))
       case first =>
        cases z with
        | true =>
         replace HO3:Hid (s9=s8):=HO3
         replace HOD:Hid (D9=none):=HOD
         go_wp2_with fail
         go_meet
         case rel=>exact ⟨(show FS _ _ _ _ _ _ _ _ _ _ by rw [HO3.out];exact HF8.out),HR8,(show DV _ _ _ _ _ _ from .inl ⟨rfl,HOD.out⟩),HD8⟩
        | false =>
         replace HO3:Hid (s9=decP (all.drop N) true s8):=HO3
         replace HOD:Hid (D9=decD (all.drop N) s8):=HOD
         have HDC3:=Lib.hid (rdecoder_any r g n c A bs most vo s8 w8 w8.heap.size M (cl - N) (some ⟨GA,N,none⟩) (all.drop N) true HF8.out (HRN.out w8 HL8.out) (Nat.le_refl _) (by omega))
         rw [← HO3.out,← HOD.out] at HDC3
         go_wp2_with (go_at_call 147;(with_reducible refine HDC3.out.mono ?_);go_must (rintro e w10 ⟨d10,rfl,hf10,hr10,hd10⟩;have HF10:=Lib.hid hf10;have HR10:=Lib.hid (HR8.out.trans hr10);have HD10:=Lib.hid hd10;have HD810:=Lib.hid (HD8.out.fr hr10);clear hf10 hr10 hd10))
         go_meet
         case rel=>exact ⟨HF10,HR10,HD10,HD810⟩
       case rest =>
        obtain ⟨HFx,HRx,HDx,HD8x⟩:=hcut
        have e93:=(FR.arr HFx.out).cell (k:=3) rfl
        by_cases he9:s9.e=0
        ·have d9:(s9.e == 0)=true:=by rw [he9];rfl
         have HRE:Hid (R=toksF bs most (all.take N) D9 f s9):=(show _=_ by rw [HRR2.out,if_pos he9])
         obtain ⟨hz1,hz2⟩:=HZ.out he9
         have HDX:=HD8x.out
         rw [hz2] at HDX
         have hoo:(s9.out.length:Int)≤most:=by rw [hz1];exact HO6.out
         clear hz1 hz2
         rcases HDX with ⟨-,h0⟩ | ⟨gd,ds,rfl,h0,h1,h2⟩
         ·cases h0
         ·injection h0 with h0
          subst h0
          have HTK:=Lib.hid (rtokens_any r g n c A bs most vo s9 wc gd (all.take N) u9 D9 f HFx.out h1 h2 HDx.out hm hoo (by omega))
          rw [← HRE.out] at HTK
          clear h1 h2 hoo HRR2 HRE HO2
          go_wp2_with (go_at_call 146;(with_reducible refine HTK.out.mono ?_);go_must (rintro e w11 ⟨rfl,vo',hf11,hr11⟩;have HF11:=Lib.hid hf11;have HR11:=Lib.hid (HRx.out.trans hr11);clear hf11 hr11))
          (try simp only [Exit.inBlock,Exit.then]);first | (refine bodyPost_ret (results_none rfl _ _ _) rfl ?_) | (refine bodyPost_end (results_none rfl _ _ _) rfl ?_)
          exact ⟨rfl,vo',HF11.out,HR11.out⟩
        ·have d9:(s9.e == 0)=false:=beq_eq_false_iff_ne.2 he9
         have HRE:Hid (R=s9):=(show _=_ by rw [HRR2.out,if_neg he9])
         clear HRR2
         go_wp2_with fail
         (try simp only [Exit.inBlock,Exit.then]);first | (refine bodyPost_ret (results_none rfl _ _ _) rfl ?_) | (refine bodyPost_end (results_none rfl _ _ _) rfl ?_)
         exact ⟨rfl,vo,by rw [HRE.out];exact HFx.out,HRx.out⟩
     ·have d6:(s6.e == 0)=false:=beq_eq_false_iff_ne.2 he6
      have d6b:(s6.e != 0)=true:=by rw [bne_iff_ne];exact he6
      have HRE:Hid (R=s6):=(show _=_ by rw [HRR.out];exact if_neg he6)
      go_wp2_with (first
       | (go_at_call 147;(with_reducible refine HDC.out.mono ?_);go_must (rintro e w6 ⟨dv,rfl,hf6,hr6,hd6⟩;have hs6:=(HR.out.trans hr6).size;have HR6:=Lib.hid (HR.out.trans hr6);have HLC6:=Lib.hid (HLC.out w6 dv hf6 hd6);clear hf6 hd6 hr6))
       | (go_at_call 148;(with_reducible refine HLC6.out.mono ?_);go_must (rintro e w7 ⟨lv,rfl,hf7,hl7,hr7⟩;have e73:=(FR.arr hf7).cell (k:=3) rfl;have HF7:=Lib.hid hf7;have HR7:=Lib.hid (HR6.out.trans hr7);clear hf7 hl7 hr7)))
      (try simp only [Exit.inBlock,Exit.then]);first | (refine bodyPost_ret (results_none rfl _ _ _) rfl ?_) | (refine bodyPost_end (results_none rfl _ _ _) rfl ?_)
      exact ⟨rfl,vo,by rw [HRE.out];exact HF7.out,HR7.out⟩
end
end Go.Proofs.YteoolehdomjkkaaGreat

/- flate: the reader of blocks, whatever comes: a block of the fixed codes. -/
namespace Go.Proofs.YteoolehdomjkkaaGreat
set_option linter.all false
open Go.RowKit
theorem RdI.rfr {w w':World} {r g B b o n:Nat} {vo vo':Value} {l:List Int} (h:RdI w B (some ⟨b,o,none⟩) n l) (hf:RFr w w' r g vo vo') (hb:b < w.heap.size) (hr:b ≠ r) (hg:b ≠ g) (hv:vo.ownBlock ≠ some b):RdI w' B (some ⟨b,o,none⟩) n l:=by
 refine ⟨h.1,fun hn=>?_⟩
 obtain ⟨b',o',e,hlt,hc⟩:=h.2 hn
 injection e with e
 injection e with e1 e2 e3
 subst e1 e2
 exact ⟨_,_,rfl,hlt,fun j u hu=>(World.cell?_of_block (hf.block b hb hr hg hv)).trans (hc j u hu)⟩
section
variable (r g n c : Nat) (A : Option Addr) (bs : List UInt8) (most : Int) (vo : Value) (s : RS) (w : World)
set_option maxRecDepth 100000 in
set_option maxHeartbeats 3200000 in
theorem rfixed_any (f:Nat) (h:FS w r g A n c bs most vo s) (he:s.e=0) (hm:most≤1000000) (ho:(s.out.length:Int)≤most) (hf:8 * n+1≤f) :
  Calls Tryz.prog 98 #[.pointer (some ⟨r,0,none⟩)] w fun e w'=>e=.returned (.tuple #[])∧∃ vo',FS w' r g A n c bs most vo' (rfixP bs most f s)∧RFr w w' r g vo vo':=by
 have hrw:=(FR.arr h).lt
 have hgr:=FR.gr h
 have HVO:Hid (∀ k,vo.ownBlock=some k→k < w.heap.size):=(show ∀ k,_ from fun k hk=>(World.ownsRow.lt (FR.own h) k hk).2)
 have H:=Lib.hid h
 have hDL:decD fixL s=some fixL:=if_pos ⟨he,by decide +kernel⟩
 have hDD:decD fixD s=some fixD:=if_pos ⟨he,by decide +kernel⟩
 have HDC:Hid (∀ w1 cl b,FS w1 r g A n c bs most vo s→RdI w1 w1.heap.size (some ⟨b,0,none⟩) 288 fixL→Calls Tryz.prog 147 #[.pointer (some ⟨r,0,none⟩),.slice (some ⟨b,0,none⟩) 288 cl,.bool false] w1 fun e w'=>∃ dv,e=.returned dv∧FS w' r g A n c bs most vo s∧RFr w1 w' r g vo vo∧DV w' r g vo dv (some fixL)):=(show ∀ w1 cl b,_ from fun w1 cl b h hr=>by
  have:=rdecoder_any r g n c A bs most vo s w1 w1.heap.size 288 cl (some ⟨b,0,none⟩) fixL false h hr (Nat.le_refl _) (by omega)
  rwa [fixL_dec,hDL] at this)
 have HDD:Hid (∀ w1 B cl b,B≤w1.heap.size→FS w1 r g A n c bs most vo s→RdI w1 B (some ⟨b,0,none⟩) 32 fixD→Calls Tryz.prog 147 #[.pointer (some ⟨r,0,none⟩),.slice (some ⟨b,0,none⟩) 32 cl,.bool false] w1 fun e w'=>∃ dv,e=.returned dv∧FS w' r g A n c bs most vo s∧RFr w1 w' r g vo vo∧DV w' r g vo dv (some fixD)):=(show ∀ w1 B cl b,_ from fun w1 B cl b hB h hr=>by
  have:=rdecoder_any r g n c A bs most vo s w1 B 32 cl (some ⟨b,0,none⟩) fixD false h hr hB (by omega)
  rwa [fixD_dec,hDD] at this)
 have HTK:Hid (∀ w1 gl dv,FS w1 r g A n c bs most vo s→DK w1 r g vo gl fixL→OkL fixL→DV w1 r g vo dv (some fixD)→Calls Tryz.prog 146 #[.pointer (some ⟨r,0,none⟩),.pointer (some ⟨gl,0,none⟩),dv] w1 fun e w'=>e=.returned (.tuple #[])∧∃ vo',FS w' r g A n c bs most vo' (rfixP bs most f s)∧RFr w1 w' r g vo vo'):=(show ∀ w1 gl dv,_ from fun w1 gl dv h1 h2 h3 h4=>rtokens_any r g n c A bs most vo s w1 gl fixL dv (some fixD) f h1 h2 h3 h4 hm ho (by omega))
 clear h hDL hDD
 generalize rfixP bs most f s=R at *
 go_enter Tryz.func98,Tryz.ntmps98
 go_wp2_with (first
  | (go_at_call 24;(with_reducible refine (fixed_any w).mono ?_);go_must (rintro e w1 ⟨gl,cl,gd,cd,rfl,hgl,hgd,hrl,hrd,hb1⟩;have HF1:Hid (FS w1 r g A n c bs most vo s):=(show FS _ _ _ _ _ _ _ _ _ _ from FR.later H.out hb1);have HR1:=Lib.hid (RFr.ofB hb1 r g vo);have HDC1:=Lib.hid (HDC.out w1 cl gl HF1.out hrl);have HRD:=Lib.hid hrd;have hs1:=hb1.size;have hgd1:gd < w1.heap.size:=(by obtain ⟨b,o,e,hb,-⟩:=hrd.at_ (by omega);injection e with e;injection e with e;omega);clear hrl hrd hb1))
  | (go_at_call 147;(with_reducible refine HDC1.out.mono ?_);go_must (rintro e w2 ⟨d2,rfl,hf2,hr2,hd2⟩;have HR2:=Lib.hid (HR1.out.trans hr2);have HD2:=Lib.hid hd2;have HDD2:=Lib.hid (HDD.out w2 w1.heap.size cd gd hr2.size hf2 (RdI.rfr HRD.out hr2 hgd1 (by omega) (by omega) (fun e=>by have:=HVO.out gd e;omega)));clear hf2 hr2 hd2))
  | (go_at_call 147;(with_reducible refine HDD2.out.mono ?_);go_must (rintro e w3 ⟨d3,rfl,hf3,hr3,hd3⟩;rcases HD2.out with ⟨-,h0⟩ | ⟨gq,ds,rfl,h0,h1,h2⟩;(· cases h0);injection h0 with h0;subst h0;have HR3:=Lib.hid (HR2.out.trans hr3);have HTK3:=Lib.hid (HTK.out w3 gq d3 hf3 (h1.fr hr3) h2 hd3);clear hf3 hr3 hd3 h1 h2))
  | (go_at_call 146;(with_reducible refine HTK3.out.mono ?_);go_must (rintro e w4 ⟨rfl,vo',hf4,hr4⟩;have HF4:=Lib.hid hf4;have HR4:=Lib.hid (HR3.out.trans hr4);clear hf4 hr4)))
 (try simp only [Exit.inBlock,Exit.then]);first | (refine bodyPost_ret (results_none rfl _ _ _) rfl ?_) | (refine bodyPost_end (results_none rfl _ _ _) rfl ?_)
 exact ⟨rfl,vo',HF4.out,HR4.out⟩
end
end Go.Proofs.YteoolehdomjkkaaGreat

/- flate: the document's reader of blocks: the two lists of a block of its own codes. -/
namespace Go.Proofs.YteoolehdomjkkaaGreat
set_option linter.all false
open Go.RowKit
section
variable {bs : List UInt8} {ls l : List Int} {all f n : Nat} {s : RS} {x : Int}
theorem listF_err (h:¬ s.e=0):¬ (listF bs ls all f l s).2.e=0:=by
  rw [listF_stop (fun a=>h a.2)]
  exact h
theorem repP_err (h:¬ s.e=0):¬ (repP l x n all s).2.e=0:=by
  have:rep0 l n all s=s:=if_neg (fun a=>h a.1)
  unfold repP
  rw [this,if_neg h]
  exact h
theorem repP_over (he:s.e=0) (h:all < l.length+n):¬ (repP l x n all s).2.e=0:=by
  have:rep0 l n all s=s.fail 4:=if_pos ⟨he,by omega⟩
  have h2:¬ (s.fail 4).e=0:=fail_e (by decide)
  unfold repP
  rw [this,if_neg h2]
  exact h2
theorem repP_ok (he:s.e=0) (h:l.length+n≤all):repP l x n all s=(l ++ List.replicate n x,s):=by
  have:rep0 l n all s=s:=if_neg (fun a=>by have:=a.2;omega)
  unfold repP
  rw [this,if_pos he]
theorem lst_err (hl:l.length < all) (he:s.e=0) (h1:¬ (nextP bs ls s).2.e=0):¬ (listF bs ls all (f+1) l s).2.e=0:=by
  rw [listF,if_pos ⟨hl,he⟩,if_neg h1]
  exact h1
theorem lst_lit (hl:l.length < all) (he:s.e=0) (h1:(nextP bs ls s).2.e=0) (h2:(nextP bs ls s).1 < 16):listF bs ls all (f+1) l s=listF bs ls all f (l ++ [(nextP bs ls s).1]) (nextP bs ls s).2:=by
  rw [listF,if_pos ⟨hl,he⟩,if_pos h1,if_pos h2]
theorem lst_16n (hl:l.length < all) (he:s.e=0) (h1:(nextP bs ls s).2.e=0) (h2:(nextP bs ls s).1=16) (h3:l.length=0):¬ (listF bs ls all (f+1) l s).2.e=0:=by
  rw [listF,if_pos ⟨hl,he⟩,if_pos h1,if_neg (by omega),if_pos h2,if_pos h3]
  exact fail_e (by decide)
theorem lst_16 (hl:l.length < all) (he:s.e=0) (h1:(nextP bs ls s).2.e=0) (h2:(nextP bs ls s).1=16) (h3:¬ l.length=0):listF bs ls all (f+1) l s=listF bs ls all f (repP l (l.getD (l.length - 1) 0) (3+(getP bs (nextP bs ls s).2 2).1) all (getP bs (nextP bs ls s).2 2).2).1 (repP l (l.getD (l.length - 1) 0) (3+(getP bs (nextP bs ls s).2 2).1) all (getP bs (nextP bs ls s).2 2).2).2:=by
  rw [listF,if_pos ⟨hl,he⟩,if_pos h1,if_neg (by omega),if_pos h2,if_neg h3]
theorem lst_17 (hl:l.length < all) (he:s.e=0) (h1:(nextP bs ls s).2.e=0) (h2:(nextP bs ls s).1=17):listF bs ls all (f+1) l s=listF bs ls all f (repP l 0 (3+(getP bs (nextP bs ls s).2 3).1) all (getP bs (nextP bs ls s).2 3).2).1 (repP l 0 (3+(getP bs (nextP bs ls s).2 3).1) all (getP bs (nextP bs ls s).2 3).2).2:=by
  rw [listF,if_pos ⟨hl,he⟩,if_pos h1,if_neg (by omega),if_neg (by omega),if_pos h2]
theorem lst_18 (hl:l.length < all) (he:s.e=0) (h1:(nextP bs ls s).2.e=0) (h2:17 < (nextP bs ls s).1):listF bs ls all (f+1) l s=listF bs ls all f (repP l 0 (11+(getP bs (nextP bs ls s).2 7).1) all (getP bs (nextP bs ls s).2 7).2).1 (repP l 0 (11+(getP bs (nextP bs ls s).2 7).1) all (getP bs (nextP bs ls s).2 7).2).2:=by
  rw [listF,if_pos ⟨hl,he⟩,if_pos h1,if_neg (by omega),if_neg (by omega),if_neg (by omega)]
end
/-- The numbers ahead of lists. -/
theorem hd_go {bs:List UInt8} {P x y z:Nat} {out:List UInt8} (hf:P+14≤8 * bs.length) (hx:getV bs P 5=x) (hy:getV bs (P+5) 5=y) (hz:getV bs (P+10) 4=z) (hx2:x≤29) (hy2:y≤29) :
    hdN bs ⟨P,out,0⟩=257+x∧hdM bs ⟨P,out,0⟩=1+y∧hdL bs ⟨P,out,0⟩=lenRd bs (ordL.take (4+z)) (List.replicate 19 0) ⟨P+14,out,0⟩:=by
  have e1:getP bs (⟨P,out,0⟩:RS) 5=(x,⟨P+5,out,0⟩):=by rw [getP_ok rfl (by show P+5≤_;omega),← hx]
  have hN:hdN bs ⟨P,out,0⟩=257+x:=by unfold hdN;rw [e1]
  have hA:hdA bs ⟨P,out,0⟩=⟨P+5,out,0⟩:=by unfold hdA;rw [hN,if_neg (by omega),e1]
  have e2:getP bs (⟨P+5,out,0⟩:RS) 5=(y,⟨P+10,out,0⟩):=by rw [getP_ok rfl (by show P+5+5≤_;omega),← hy]
  have hM:hdM bs ⟨P,out,0⟩=1+y:=by unfold hdM;rw [hA,e2]
  have hB:hdB bs ⟨P,out,0⟩=⟨P+10,out,0⟩:=by unfold hdB;rw [hM,if_neg (by omega),hA,e2]
  have e3:getP bs (⟨P+10,out,0⟩:RS) 4=(z,⟨P+14,out,0⟩):=by rw [getP_ok rfl (by show P+10+4≤_;omega),← hz]
  refine ⟨hN,hM,?_⟩
  unfold hdL hdQ
  rw [hB,e3]
theorem hd_bad {bs:List UInt8} {P:Nat} {out:List UInt8} (h:¬ (P+14≤8 * bs.length∧getV bs P 5≤29∧getV bs (P+5) 5≤29)):¬ (ownLs bs ⟨P,out,0⟩).2.e=0:=by
  intro hh
  have h2:=lenRd_e0 bs _ _ _ (decP_e0 (listD_e0 hh))
  obtain ⟨h3,h3p⟩:=getP_e0 h2
  have hfit:(getP bs (hdB bs ⟨P,out,0⟩) 4).2.p≤8 * bs.length∨¬ (hdB bs ⟨P,out,0⟩).p+4≤8 * bs.length:=by
    by_cases e:(hdB bs ⟨P,out,0⟩).p+4≤8 * bs.length
    · exact .inl (by rw [h3p];exact e)
    · exact .inr e
  have hM:¬ 30 < hdM bs ⟨P,out,0⟩:=fun e=>by
    unfold hdB at h3
    rw [if_pos e] at h3
    exact fail_e (by decide) h3
  have hB:hdB bs ⟨P,out,0⟩=(getP bs (hdA bs ⟨P,out,0⟩) 5).2:=by unfold hdB;rw [if_neg hM]
  rw [hB] at h3 h3p hfit
  obtain ⟨h4,h4p⟩:=getP_e0 h3
  have hN:¬ 286 < hdN bs ⟨P,out,0⟩:=fun e=>by
    unfold hdA at h4
    rw [if_pos e] at h4
    exact fail_e (by decide) h4
  have hA:hdA bs ⟨P,out,0⟩=(getP bs ⟨P,out,0⟩ 5).2:=by unfold hdA;rw [if_neg hN]
  rw [hA] at h4 h4p h3 h3p hfit
  obtain ⟨-,h5p⟩:=getP_e0 h4
  have q1:P+5≤8 * bs.length:=Classical.byContradiction fun e=>getP_bad (s:=⟨P,out,0⟩) e h4
  have e1:getP bs (⟨P,out,0⟩:RS) 5=(getV bs P 5,⟨P+5,out,0⟩):=getP_ok rfl q1
  rw [e1] at h3 h3p hfit hA
  have q2:P+5+5≤8 * bs.length:=Classical.byContradiction fun e=>getP_bad (s:=⟨P+5,out,0⟩) e h3
  have e2:getP bs (⟨P+5,out,0⟩:RS) 5=(getV bs (P+5) 5,⟨P+10,out,0⟩):=by rw [getP_ok rfl q2]
  rw [hB,hA,e2] at h2
  have q3:P+10+4≤8 * bs.length:=Classical.byContradiction fun e=>getP_bad (s:=⟨P+10,out,0⟩) e h2
  refine h ⟨by omega,?_,?_⟩
  · unfold hdN at hN;rw [e1] at hN;omega
  · unfold hdM at hM;rw [hA,e2] at hM;omega
theorem ownLs_dec {bs:List UInt8} {P N M P2:Nat} {out:List UInt8} {L:List Int} (hN:hdN bs ⟨P,out,0⟩=N) (hM:hdM bs ⟨P,out,0⟩=M) (hL:hdL bs ⟨P,out,0⟩=(L,⟨P2,out,0⟩)) :
    (krV L=32768→ownLs bs ⟨P,out,0⟩=listF bs L (N+M) (N+M+1) [] ⟨P2,out,0⟩)∧(¬ krV L=32768→¬ (ownLs bs ⟨P,out,0⟩).2.e=0):=by
  unfold ownLs
  rw [hL,hN,hM]
  constructor
  · intro h
    have h1:=(decP_full (ls:=L) (s:=⟨P2,out,0⟩) rfl).2 h
    obtain ⟨-,h3,h4⟩:=decP_zero h1
    show (listD bs (decD L ⟨P2,out,0⟩) (N+M) (decP L false ⟨P2,out,0⟩))=_
    rw [h3,h4]
    rfl
  · intro h h2
    exact h ((decP_full (ls:=L) (s:=⟨P2,out,0⟩) rfl).1 (listD_e0 h2))
theorem FI.side {w w':World} {r g:Nat} {A:Option Addr} {n c P:Nat} {bs:List UInt8} {vo lv:Value} {out:List UInt8} {most:Int} {lo:Nat} (h:FI w r g A n c P bs vo out most) (hr:r < lo) (hv:∀ k,vo.ownBlock=some k→k < lo) (hl:∀ k,lv.ownBlock=some k→lo≤k) (hg:w.grownBy w' lv.ownBlock):FI w' r g A n c P bs vo out most:=by
  have hgr:=h.gr
  have key:∀ k,k < w.heap.size→k < lo→w'.heap[k]?=w.heap[k]?:=fun k hk hlo=>hg.block k hk (fun e=>by have:=hl k e.symm;omega)
  refine ⟨?_,?_,h.rb.blw ((Below.refl g w).grown hg (Nat.le_of_lt h.rd.lt) (fun k hk=>by have:=hl k hk;omega)),World.ownsRow.kept h.own hg ?_,hgr,h.fit,h.big⟩
  · have hlt:=h.arr.lt
    obtain ⟨t,ht⟩:=h.arr
    exact ⟨t,(key r hlt hr).trans ht⟩
  · have hlt:=h.rd.lt
    obtain ⟨t,ht⟩:=h.rd
    exact ⟨t,(key g hlt (by omega)).trans ht⟩
  · cases e:vo.ownBlock with
    | none=>exact .inl rfl
    | some k=>exact .inr (fun e2=>by have h1:=hv k e;have h2:=hl k e2.symm;omega)
section
variable (r g n c P : Nat) (A : Option Addr) (bs : List UInt8) (vo : Value) (out : List UInt8) (most : Int) (w : World)
/-- What is read of lists. -/
def LsPost (R:List Int × RS) (N M:Nat) (e:Ending) (w':World):Prop:=∃ vx vy ok P',e=.returned (.tuple #[vx,vy,.bool ok])∧FI w' r g A n c P' bs vo out most∧RFr w w' r g vo vo ∧
  ((ok=false∧vx=.slice none 0 0∧vy=.slice none 0 0∧¬ R.2.e=0) ∨
   (ok=true∧R.2=⟨P',out,0⟩∧R.1.length=N+M∧257≤N∧N≤286∧1≤M∧M≤30∧∃ gq cx cy,vx=.slice (some ⟨gq,0,none⟩) N cx∧vy=.slice (some ⟨gq,N,none⟩) M cy∧RdI w' w'.heap.size (some ⟨gq,0,none⟩) N (R.1.take N)∧RdI w' w'.heap.size (some ⟨gq,N,none⟩) M (R.1.drop N)))
theorem iget_gen (m:Nat) (M:Int) (hM:M=(m:Int)) (h:FI w r g A n c P bs vo out most) (hm:m≤24) :
    Calls Tryz.prog 130 #[.pointer (some ⟨r,0,none⟩),.int .i64 M] w fun e w'=>∃ v ok P',e=.returned (.tuple #[.int .i64 v,.bool ok])∧FI w' r g A n c P' bs vo out most∧RFr w w' r g vo vo:=by
  by_cases hf:P+m≤8 * n
  · exact (iget_ok r g n c P m A bs vo out most M w hM h hm hf).mono fun e w' h=>⟨_,_,_,h⟩
  · exact (iget_bad r g n c P m A bs vo out most M w hM h hm hf).mono fun e w' h=>⟨_,_,_,h⟩
set_option maxRecDepth 100000 in
set_option maxHeartbeats 6400000 in
theorem ilists_any (h:FI w r g A n c P bs vo out most) :
    Calls Tryz.prog 133 #[.pointer (some ⟨r,0,none⟩)] w (LsPost r g n c A bs vo out most w (ownLs bs ⟨P,out,0⟩) (hdN bs ⟨P,out,0⟩) (hdM bs ⟨P,out,0⟩)):=by
  have hrw:=h.arr.lt
  have hgr:=h.gr
  have hbig:=h.big
  have HBL:=Lib.hid h.rb.len
  have HVO:Hid (∀ k,vo.ownBlock=some k→k < w.heap.size):=(show ∀ k,_ from fun k hk=>(World.ownsRow.lt h.own k hk).2)
  have H:=Lib.hid h
  clear h
  by_cases hall:P+14≤8 * n∧getV bs P 5≤29∧getV bs (P+5) 5≤29
  · obtain ⟨hf,hx2,hy2⟩:=hall
    have HG1:=Lib.hid (iget_ok r g n c P 5 A bs vo out most 5 w rfl H.out (by omega) (by omega))
    have HG2:=Lib.hid (fun w1 (h:FI w1 r g A n c (P+5) bs vo out most)=>iget_ok r g n c (P+5) 5 A bs vo out most 5 w1 rfl h (by omega) (by omega))
    have HG3:=Lib.hid (fun w1 (h:FI w1 r g A n c (P+10) bs vo out most)=>iget_ok r g n c (P+10) 4 A bs vo out most 4 w1 rfl h (by omega) (by omega))
    obtain ⟨hN,hM,hL⟩:=hd_go (bs:=bs) (P:=P) (out:=out) (by rw [HBL.out];exact hf) rfl rfl rfl hx2 hy2
    have hz2:=getV_lt bs (P+10) 4
    have HDEC:=Lib.hid (fun L P2 h=>ownLs_dec (bs:=bs) (P:=P) (P2:=P2) (out:=out) (L:=L) hN hM h)
    rw [hN,hM]
    generalize getV bs (P+10) 4=z at *
    generalize getV bs (P+5) 5=y at *
    generalize getV bs P 5=x at *
    obtain ⟨Q,hQ⟩:∃ Q,4+z=Q:=⟨_,rfl⟩
    rw [hQ] at hL
    have hzi:(z:Int)+4=(Q:Int):=by omega
    have hQ19:Q≤19:=by have h2:z < 16:=hz2;omega
    have hx29:¬ (29:Int) < (x:Int):=by omega
    have hy29:¬ (29:Int) < (y:Int):=by omega
    obtain ⟨N,hNN⟩:∃ N,257+x=N:=⟨_,rfl⟩
    obtain ⟨M,hMM⟩:∃ M,1+y=M:=⟨_,rfl⟩
    obtain ⟨NM,hNM⟩:∃ NM,N+M=NM:=⟨_,rfl⟩
    rw [hNN,hMM] at HDEC ⊢
    have hxi:(x:Int)+257=(N:Int):=by omega
    have hxw:IntKind.i64.wrap (N:Int)=(N:Int):=wrap_i64_lt N (by omega)
    have hny:(N:Int)+(y:Int)+1=(NM:Int):=by omega
    have hnyw:IntKind.i64.wrap ((N:Int)+(y:Int))=(N:Int)+(y:Int):=by rw [show (N:Int)+(y:Int)=((N+y:Nat):Int) by omega];exact wrap_i64_lt _ (by omega)
    have hNMw:IntKind.i64.wrap (NM:Int)=(NM:Int):=wrap_i64_lt NM (by omega)
    have hQw:IntKind.i64.wrap (Q:Int)=(Q:Int):=wrap_i64_lt Q (by omega)
    have hN257:257≤N∧N≤286∧1≤M∧M≤30:=by omega
    have HDL:=Lib.hid hL
    have HRB:=Lib.hid (fun (h:(ownLs bs ⟨P,out,0⟩).2.e=0)=>decP_e0 (listD_e0 h))
    have HNM:=Lib.hid hNM
    generalize hdL bs ⟨P,out,0⟩=DL at *
    generalize hdN bs ⟨P,out,0⟩=dn at *
    generalize hdM bs ⟨P,out,0⟩=dm at *
    generalize ownLs bs ⟨P,out,0⟩=R at *
    clear hQ hL hz2 hN hM hMM hNN hNM
    go_enter Tryz.func133,Tryz.ntmps133
    go_wp2_with (first
      | (go_at_call 130;(with_reducible refine HG1.out.mono ?_);go_must (rintro e w1 ⟨rfl,hf1,hr1⟩;have HR1:=Lib.hid hr1;have HG21:=Lib.hid (HG2.out w1 hf1);clear hf1 hr1 HG1))
      | (go_at_call 130;(with_reducible refine HG21.out.mono ?_);go_must (rintro e w2 ⟨rfl,hf2,hr2⟩;have HR2:=Lib.hid (HR1.out.trans hr2);have HG32:=Lib.hid (HG3.out w2 hf2);clear hf2 hr2 HG21))
      | (go_at_call 130;(with_reducible refine HG32.out.mono ?_);go_must (rintro e wc ⟨rfl,hf3,hr3⟩;have HR3:=Lib.hid (HR2.out.trans hr3);have HF3:=Lib.hid hf3;have hrs:=HR3.out.size;clear hf3 hr3 HG32))
      | (at_make;refine wpList_makeI rfl _ _ rfl 19 _ rfl rfl rfl (by omega) ?_;intro w3 hown hb3 hsz3;have HL3:=Lib.hid (ownI.mono hown hrs);have HF4:=Lib.hid (HF3.out.later hb3);have HR4:=Lib.hid (HR3.out.trans (RFr.ofB hb3 r g vo));have hs3:=hb3.size;clear hown hb3)
      | (go_at_call 124;(with_reducible refine (order5_any w3).mono ?_);go_must (rintro e w5 ⟨rfl,ho5,hb5⟩;have HO5:=Lib.hid (ownI.mono ho5 (Nat.le_trans hrs hs3));have HL5:=Lib.hid (HL3.out.later hb5);have HF5:=Lib.hid (HF4.out.later hb5);have HR5:=Lib.hid (HR4.out.trans (RFr.ofB hb5 r g vo));clear ho5 hb5)))
    have hne12:wc.heap.size ≠ w3.heap.size:=by omega
    clear HF3 HR3 HL3 HF4 HR4 HR2 HR1 HG2 HG3 hx29 hy29
    generalize wc.heap.size=G1 at *
    generalize w3.heap.size=G2 at *
    clear hs3 hsz3 hrs
    have HL0:Hid (lenRd bs ((ordL.take Q).drop 0) (List.replicate 19 0) ⟨P+14,out,0⟩=DL):=(show _=_ from HDL.out.symm)
    go_loopw [13] (fun vi wr=>∃ (i:Nat) (L:List Int) (P2:Nat),i≤Q∧vi=.int .i64 i∧Hid (L.length=19)∧Hid (FI wr r g A n c P2 bs vo out most)∧Hid (RFr w wr r g vo vo)∧Hid (ownI wr w.heap.size (.slice (some ⟨G1,0,none⟩) 19 19) L)∧Hid (ownI wr w.heap.size (.slice (some ⟨G2,0,none⟩) 19 19) (ordL.map fun (x:Nat)=>(x:Int)))∧Hid (lenRd bs ((ordL.take Q).drop i) L ⟨P2,out,0⟩=DL)) (fun vi _=>Q - (intOf vi).toNat)
    case atStart=>exact ⟨0,_,P+14,Nat.zero_le _,rfl,(show (List.replicate 19 (0:Int)).length=19 from rfl),HF5,HR5,HL5,HO5,HL0⟩
    case round =>
      clear HF5 HR5 HL5 HO5 HL0
      obtain ⟨i,L,P2,hi,rfl,HLL,HF,HR,HL,HO,HS⟩:=hrel
      have hrs:=HR.out.size
      by_cases hlt:i < Q
      · have hlti:(i:Int) < (Q:Int):=by omega
        have hi19:i < ordL.length:=by show i < 19;omega
        have hkk:=ordR_lt i hi19
        have HST:=Lib.hid HS.out
        rw [List.drop_eq_getElem_cons (show i < (ordL.take Q).length by rw [List.length_take];show i < min Q 19;omega),List.getElem_take,lenRd] at HST
        have e1:wr.cell? ⟨G2,i,none⟩=some (.int .i64 (ordL[i]:Int)):=by
          have:=ownI.cell HO.out rfl (k:=i) (by rw [List.length_map];exact hi19)
          rw [List.getElem_map] at this
          exact this
        generalize ordL[i]=kk at *
        have hkki:(kk:Int) < 19:=by omega
        by_cases hf3:P2+3≤8 * n
        · have HG:=Lib.hid (iget_ok r g n c P2 3 A bs vo out most 3 wr rfl HF.out (by omega) hf3)
          rw [getP_ok (s:=⟨P2,out,0⟩) rfl (by rw [HBL.out];exact hf3)] at HST
          generalize getV bs P2 3=v at *
          go_wp2_with (go_at_call 130;(with_reducible refine HG.out.mono ?_);go_must (rintro e w6 ⟨rfl,hf6,hr6⟩;have HF6:=Lib.hid hf6;have HR6:=Lib.hid (HR.out.trans hr6);have HL6:Hid (ownI w6 w.heap.size (.slice (some ⟨G1,0,none⟩) 19 19) L):=(show ownI _ _ _ _ from ownI.rfr HL.out hr6 hrw (by omega) (fun k hk hk2=>by have h1:=HVO.out k hk;have h2:=(World.ownsRow.lt HL.out k hk2).1;omega));have HO6:Hid (ownI w6 w.heap.size (.slice (some ⟨G2,0,none⟩) 19 19) (ordL.map fun (x:Nat)=>(x:Int))):=(show ownI _ _ _ _ from ownI.rfr HO.out hr6 hrw (by omega) (fun k hk hk2=>by have h1:=HVO.out k hk;have h2:=(World.ownsRow.lt HO.out k hk2).1;omega));have c6:=ownI.cell HL6.out HLL.out.symm (k:=kk) (by rw [HLL.out];exact hkk);have f6:=ownI.frozen HL6.out HLL.out.symm kk;have d6:=(by have h9:=ownI.cell HO6.out rfl (k:=i) (by rw [List.length_map];exact hi19);exact h9);have HGB:=Lib.hid (World.ownsRow.stored (show w6.ownsRow w.heap.size _ _ (.slice (some ⟨G1,0,none⟩) 19 19) 19 (cI L) from by have:=HL6.out;unfold ownI at this;rwa [HLL.out] at this) kk (Value.int .i64 (v:Int))).2;have HLO:Hid (∀ k,(Value.slice (some ⟨G1,0,none⟩) 19 19).ownBlock=some k→w.heap.size≤k):=(show ∀ k,_ from fun k hk=>(World.ownsRow.lt HL6.out k hk).1);have e16:w6.cell? ⟨G2,i,none⟩=some (.int .i64 (kk:Int)):=(World.cell?_of_block (hr6.block G2 (World.ownsRow.lt HO.out G2 rfl).2 (by have h2:=(World.ownsRow.lt HO.out G2 rfl).1;omega) (by have h2:=(World.ownsRow.lt HO.out G2 rfl).1;omega) (fun e=>by have h1:=HVO.out G2 e;have h2:=(World.ownsRow.lt HO.out G2 rfl).1;omega))).trans e1;clear hf6 hr6 d6))
          go_roundw
          case rel=>exact ⟨i+1,L.set kk (v:Int),P2+3,by omega,by go_num,(show _=_ by rw [List.length_set];exact HLL.out),FI.side HF6.out hrw HVO.out HLO.out HGB.out,RFr.side (l:=L) HR6.out HLO.out HGB.out,ownI.store HL6.out HLL.out.symm kk _,ownI.far HO6.out (fun e=>hne12 (by injection e with e;exact e.symm)) kk _,HST⟩
          case measure=>simp [intOf];omega
        · have HG:=Lib.hid (iget_bad r g n c P2 3 A bs vo out most 3 wr rfl HF.out (by omega) hf3)
          have HE:Hid (¬ R.2.e=0):=(show ¬ _ by
            have h1:¬ DL.2.e=0:=fun h=>by
              rw [← HST.out] at h
              exact getP_bad (s:=⟨P2,out,0⟩) (m:=3) (by rw [HBL.out];exact hf3) (lenRd_e0 bs _ _ _ h)
            exact fun hh=>h1 (HRB.out hh))
          go_wp2_with (go_at_call 130;(with_reducible refine HG.out.mono ?_);go_must (rintro e w6 ⟨rfl,hf6,hr6⟩;have HF6:=Lib.hid hf6;have HR6:=Lib.hid (HR.out.trans hr6);clear hf6 hr6))
          go_ret3
          unfold LsPost
          exact ⟨_,_,false,_,rfl,HF6.out,HR6.out,.inl ⟨rfl,rfl,rfl,HE.out⟩⟩
      · obtain rfl:i=Q:=by omega
        have hlti:¬ (i:Int) < (i:Int):=by omega
        have HS2:Hid ((L,⟨P2,out,0⟩)=DL):=(show _=_ by
          rw [← HS.out,List.drop_eq_nil_of_le (by rw [List.length_take];omega)]
          rfl)
        obtain ⟨HD1,HD2⟩:=HDEC.out L P2 HS2.out.symm
        have HD1:=Lib.hid HD1
        have HD2:=Lib.hid HD2
        have HNW:=new5G_any wr.heap.size 19 19 (some ⟨G1,0,none⟩) L wr HL.out.rd (Nat.le_refl _) (by omega)
        unfold New5G at HNW
        replace HNW:=Lib.hid HNW
        have HKR:=Lib.hid (fun w1 (h:Below wr.heap.size wr w1)=>kraft5_any wr.heap.size 19 19 (some ⟨G1,0,none⟩) L w1 (RdI.blw HL.out.rd h) (by omega))
        have HKF:=Lib.hid (fun h=>krV_full (ls:=L) h)
        have HLL:=HLL
        generalize krE L=KE at *
        clear HDEC HS HS2 HDL HO hne12 hlt
        by_cases hK:krV L=32768
        · obtain ⟨hnw,hb1,hb2,hb3⟩:=HKF.out hK
          have HOK:=Lib.hid (nwE_ok hnw)
          have HRR:=Lib.hid (HD1.out hK)
          rw [hnw] at HNW
          rw [hK] at HKR
          clear hb1 hb2 hb3 hnw hK HD1 HD2 HKF
          go_wp2_with (first
            | (go_at_call 167;(with_reducible refine HNW.out.mono ?_);go_must (rintro e w5 ⟨v5,rfl,hv5,-,hb5⟩;obtain ⟨gd,rfl,hdg⟩:=hv5 rfl;have hs5:=hb5.size;have HF5:=Lib.hid (HF.out.later hb5);have HR5:=Lib.hid (HR.out.trans (RFr.ofB hb5 r g vo));have HD5:=Lib.hid (DK5.new (r:=r) (g:=g) (vo:=vo) hdg (by omega) (by omega) (fun k hk=>by have:=HVO.out k hk;omega));have HKR5:=Lib.hid (HKR.out w5 hb5);clear hv5 hb5 hdg))
            | (go_at_call 134;(with_reducible refine HKR5.out.mono ?_);go_must (rintro e w6 ⟨rfl,rfl⟩)))
          clear HF HR HL HKR HKR5 HNW
          have hr5s:=HR5.out.size
          have HV5:Hid (∀ k,vo.ownBlock=some k→k < w5.heap.size):=(show ∀ k,_ from fun k hk=>by have:=HVO.out k hk;omega)
          have HRF0:=Lib.hid (RFr.refl w5 r g vo)
          have HOW0:=Lib.hid (ownI.nil_ w5 w5.heap.size)
          rw [HNM.out] at HRR
          have HL0:=Lib.hid HRR.out.symm
          have HFU0:Hid (NM+1≤([]:List Int).length+(NM+1)):=(show _≤_ by simp)
          have hrw5:r < w5.heap.size:=by omega
          go_loopw [20] (fun v20 wr=>∃ (l:List Int) (P3 f:Nat),l.length≤NM∧Hid (FI wr r g A n c P3 bs vo out most)∧Hid (RFr w5 wr r g vo vo)∧Hid (ownI wr w5.heap.size v20 l)∧Hid (listF bs L NM f l ⟨P3,out,0⟩=R)∧Hid (NM+1≤l.length+f)) (fun v20 _=>NM - lenV v20)
          case atStart=>exact ⟨[],P2,NM+1,Nat.zero_le _,HF5,HRF0,HOW0,HL0,HFU0⟩
          case round =>
            clear HF5 HRF0 HOW0 HL0 HFU0 HRR
            obtain ⟨l,P3,f,hl,HF,HR,HL,HS,HFU⟩:=hrel
            obtain ⟨Al,cl,rfl,hcl0,hcl1,hcl2⟩:=HL.out.form
            obtain ⟨K,hK⟩:∃ K,l.length=K:=⟨_,rfl⟩
            have HKL:=Lib.hid hK
            by_cases hlt:K < NM
            · have hlti:(K:Int) < (NM:Int):=by omega
              have hlt2:l.length < NM:=by omega
              obtain ⟨f,rfl⟩:∃ f',f=f'+1:=⟨f - 1,by have:=HFU.out;omega⟩
              have HN:=Lib.hid (inext_any r g gd n c P3 A bs vo out most L wr HF.out (HD5.out.fr HR.out) HOK.out)
              have HNP:=Lib.hid (nextP0s bs L P3 out)
              obtain ⟨q,hq1,hq2,hq3⟩:=nx_val L bs 15 1 0 P3
              have hq19:q≤18:=by have:=HLL.out;omega
              rw [hq1] at HN HNP
              clear hq1 hq2 hq3
              generalize (nx L bs 15 1 0 P3).2.2=P4 at *
              generalize (nx L bs 15 1 0 P3).2.1=e1 at *
              have hcl9:l.length=K:=hK
              rw [hK] at HL
              simp only [hK]
              have c0:=HF.out.arr.cell (k:=0) rfl
              clear hcl0 hcl1 hcl2 hcl9
              by_cases ht:e1=0
              · subst ht
                by_cases hq16:q < 16
                · have hqi:(q:Int) < 16:=by omega
                  have d16:((q:Int) == 16)=false:=beq_eq_false_iff_ne.2 (by omega)
                  have d17:((q:Int) == 17)=false:=beq_eq_false_iff_ne.2 (by omega)
                  have d18:((q:Int) == 18)=false:=beq_eq_false_iff_ne.2 (by omega)
                  have HST:Hid (listF bs L NM f (l ++ List.replicate 1 (q:Int)) ⟨P4,out,0⟩=R):=(show _=_ by
                    rw [← HS.out,lst_lit hlt2 rfl (by rw [HNP.out]) (by rw [HNP.out];exact hqi),HNP.out];rfl)
                  have hovi:¬ (NM:Int) < (K:Int)+1:=by omega
                  clear hlt2 hK
                  go_upto_region 43 with (first
                    | (go_at_call 168;(with_reducible refine HN.out.mono ?_);go_must (rintro e w6 ⟨rfl,hf6,hr6⟩; have HF6:=Lib.hid hf6;have HR6:=Lib.hid (HR.out.trans hr6);have HL6:Hid (ownI w6 w5.heap.size (.slice Al K cl) l):=(show ownI _ _ _ _ from ownI.rfr HL.out hr6 hrw5 (by omega) (fun k hk hk2=>by have h1:=HV5.out k hk;have h2:=(World.ownsRow.lt HL.out k hk2).1;omega));clear hf6 hr6)))
                  have HSN:Hid (listF bs L NM f (l ++ List.replicate 1 (q:Int)) ⟨P4,out,0⟩=R):=(show _=_ by
                    exact HST.out)
                  have HL70:Hid (ownI w6 w5.heap.size (.slice Al K cl) (l ++ List.replicate 0 (q:Int))):=(show ownI _ _ _ _ by have:=HL6.out;rwa [show l ++ List.replicate 0 (q:Int)=l by simp])
                  have HF70:=Lib.hid HF6.out
                  have HR70:=Lib.hid HR6.out
                  clear HN HS HNP HST
                  go_wp2_with fail
                  obtain ⟨wo,rfl⟩:∃ wo:World,wo=wr:=⟨_,rfl⟩
                  go_loopw [26,20] (fun vi vl wr=>∃ i:Nat,i≤1∧vi=.int .i64 i∧Hid (FI wr r g A n c (P4) bs vo out most)∧Hid (RFr w5 wr r g vo vo)∧Hid (ownI wr w5.heap.size vl (l ++ List.replicate i (q:Int)))) (fun vi _ _=>1 - (intOf vi).toNat)
                  case atStart=>exact ⟨0,Nat.zero_le _,rfl,HF70,HR70,HL70⟩
                  case round =>
                    clear HF70 HR70 HL70
                    obtain ⟨i,hi,rfl,HF,HR,HL⟩:=hrel
                    obtain ⟨Aq,cq,rfl,-,-,-⟩:=HL.out.form
                    have hlen:(l ++ List.replicate i (q:Int)).length=K+i:=by rw [List.length_append,List.length_replicate,HKL.out]
                    by_cases hlt:i < 1
                    · have hlti:(i:Int) < (1:Int):=by omega
                      have HSNC:=Lib.hid (rep_snoc l (q:Int) i)
                      have HLO:Hid (∀ k,(Value.slice Aq (l ++ List.replicate i (q:Int)).length cq).ownBlock=some k→w5.heap.size≤k):=(show ∀ k,_ from fun k hk=>(World.ownsRow.lt HL.out k hk).1)
                      generalize l ++ List.replicate i (q:Int)=ll at *
                      have HLA:=Lib.hid (ownI.alloc HL.out (.cells #[Value.int .i64 (q:Int)] 3))
                      have HFA:=Lib.hid (HF.out.later ((Below.refl wr.heap.size wr).alloc (Nat.le_refl _) (.cells #[Value.int .i64 (q:Int)] 3)))
                      have HRA:=Lib.hid (HR.out.allocd (.cells #[Value.int .i64 (q:Int)] 3))
                      have hq1:ll.length+1≤1099511627776:=by omega
                      have hq2:w5.heap.size≤(wr.alloc (.cells #[Value.int .i64 (q:Int)] 3)).heap.size:=HRA.out.size
                      clear hlen
                      go_wp2_with (at_builtin;go_must (refine wpList_appendI rfl (.tmp 174) (.tmp 176) rfl w5.heap.size _ ll rfl HLA.out (wr.heap.size+1) 1 1 (some ⟨wr.heap.size,0,none⟩) [(q:Int)] rfl (rd_oneI wr (q:Int)) hq1 hq2 ?_;intro v7 w7 ho7 hg7 hb7 ha7;rw [HSNC.out] at ho7;have HL7:=Lib.hid ho7;have HF7:=Lib.hid (FI.side HFA.out hrw5 HV5.out HLO.out hg7);have HR7:=Lib.hid (RFr.side (l:=ll) HRA.out HLO.out hg7);clear ho7 hg7 hb7 ha7))
                      go_roundw
                      case rel=>exact ⟨i+1,by omega,by go_num,HF7,HR7,HL7⟩
                      case measure=>simp [intOf];omega
                    · obtain rfl:i=1:=by omega
                      have hlti:¬ ((1:Nat):Int) < ((1:Nat):Int):=by omega
                      have HFU9:Hid (NM+1≤(l ++ List.replicate 1 (q:Int)).length+f):=(show _≤_ by rw [hlen];have h9:=HFU.out;rw [HKL.out] at h9;omega)
                      have hle9:(l ++ List.replicate 1 (q:Int)).length≤NM:=by rw [hlen];omega
                      have HM9:Hid (NM - (l ++ List.replicate 1 (q:Int)).length < NM - K):=(show _ < _ by rw [hlen];omega)
                      clear hlen
                      go_wp2_with fail
                      go_roundw
                      case rel=>exact ⟨_,P4,f,hle9,HF,HR,HL,HSN,HFU9⟩
                      case measure=>exact HM9.out
                · rcases (show q=16∨q=17∨q=18 by omega) with hq | hq | hq
                  · subst hq
                    have d16:(((16:Nat):Int) == 16)=true:=rfl
                    by_cases hl0:K=0
                    · have HE:Hid (¬ R.2.e=0):=(show ¬ _ by
                        rw [← HS.out]
                        exact lst_16n hlt2 rfl (by rw [HNP.out]) (by rw [HNP.out];rfl) (by rw [HKL.out];exact hl0))
                      have hl0b:((K:Int) == 0)=true:=by rw [hl0];rfl
                      have hl0i:(K:Int)=0:=by omega
                      clear hlt2 hK
                      go_wp2_with (first
                        | (go_at_call 168;(with_reducible refine HN.out.mono ?_);go_must (rintro e w6 ⟨rfl,hf6,hr6⟩; have HF6:=Lib.hid hf6;have HR6:=Lib.hid (HR.out.trans hr6);have HL6:Hid (ownI w6 w5.heap.size (.slice Al K cl) l):=(show ownI _ _ _ _ from ownI.rfr HL.out hr6 hrw5 (by omega) (fun k hk hk2=>by have h1:=HV5.out k hk;have h2:=(World.ownsRow.lt HL.out k hk2).1;omega));clear hf6 hr6)))
                      have HR9:=Lib.hid (HR5.out.trans HR6.out)
                      go_ret3
                      unfold LsPost
                      exact ⟨_,_,false,_,rfl,HF6.out,HR9.out,.inl ⟨rfl,rfl,rfl,HE.out⟩⟩
                    · have hl0b:((K:Int) == 0)=false:=beq_eq_false_iff_ne.2 (by omega)
                      have hlD:K - 1 < l.length:=by omega
                      have hgd:l.getD (l.length - 1) 0=l[K - 1]:=by rw [HKL.out,List.getD_eq_getElem?_getD,List.getElem?_eq_getElem hlD];rfl
                      obtain ⟨-,gq,hgq,-,-⟩:=ownI.pos HL.out (show 0 < K by omega)
                      subst hgq
                      have HCL:Hid (∀ w',ownI w' w5.heap.size (.slice (some ⟨gq,0,none⟩) K cl) l→w'.cell? ⟨gq,K - 1,none⟩=some (.int .i64 l[K - 1])):=(show ∀ w',_ from fun w' h=>ownI.cell h HKL.out.symm hlD)
                      have HST0:=Lib.hid (lst_16 (bs:=bs) (ls:=L) (all:=NM) (f:=f) (l:=l) (s:=⟨P3,out,0⟩) hlt2 rfl (by rw [HNP.out]) (by rw [HNP.out];rfl) (by omega))
                      rw [HS.out,hgd,HNP.out] at HST0
                      generalize l[K - 1]=x at *
                      clear hgd
                      obtain ⟨D,hD⟩:∃ D,K - 1=D:=⟨_,rfl⟩
                      rw [hD] at HCL
                      have hDi:(K:Int) - 1=(D:Int):=by omega
                      have hDw:IntKind.i64.wrap (D:Int)=(D:Int):=wrap_i64_lt D (by omega)
                      have hDw2:IntKind.i64.wrap ((K:Int) - 1)=(D:Int):=by rw [hDi];exact hDw
                      have hDl:D < K:=by omega
                      clear hlt2 hK
                      by_cases hfg:P4+2≤8 * n
                      · have HG:=Lib.hid (fun w6 (h:FI w6 r g A n c P4 bs vo out most)=>iget_ok r g n c P4 2 A bs vo out most 2 w6 rfl h (by omega) hfg)
                        have HGP:Hid (getP bs (⟨P4,out,0⟩:RS) 2=(getV bs P4 2,⟨P4+2,out,0⟩)):=(show _=_ from getP_ok rfl (by rw [HBL.out];exact hfg))
                        have hv:=getV_lt bs P4 2
                        have HST1:=Lib.hid HST0.out
                        rw [show (getP bs (((16:Nat):Int),(⟨P4,out,0⟩:RS)).2 2)=getP bs (⟨P4,out,0⟩:RS) 2 from rfl,HGP.out] at HST1
                        generalize getV bs P4 2=v at *
                        have hvb:v < 200:=Nat.lt_of_lt_of_le hv (by decide)
                        obtain ⟨T,hT⟩:∃ T,3+v=T:=⟨_,rfl⟩
                        have hTi:(v:Int)+3=(T:Int):=by omega
                        have hT3:3≤T:=by omega
                        have hTw:IntKind.i64.wrap (T:Int)=(T:Int):=wrap_i64_lt T (by omega)
                        have hKTw:IntKind.i64.wrap ((K:Int)+(T:Int))=(K:Int)+(T:Int):=by rw [show (K:Int)+(T:Int)=((K+T:Nat):Int) by omega];exact wrap_i64_lt _ (by omega)
                        replace HST1:Hid (R=listF bs L NM f (repP l x T NM ⟨P4+2,out,0⟩).1 (repP l x T NM ⟨P4+2,out,0⟩).2):=(show _=_ by rw [← hT];exact HST1.out)
                        clear hv hT HST0 HGP
                        go_upto_region 41 with (first
                          | (go_at_call 168;(with_reducible refine HN.out.mono ?_);go_must (rintro e w6 ⟨rfl,hf6,hr6⟩;have hc6:=HCL.out w6 (ownI.rfr HL.out hr6 hrw5 (by omega) (fun k hk hk2=>by have h1:=HV5.out k hk;have h2:=(World.ownsRow.lt HL.out k hk2).1;omega));have HG6:=Lib.hid (HG.out w6 hf6);have hr6x:=Lib.hid hr6;have HF6:=Lib.hid hf6;have HR6:=Lib.hid (HR.out.trans hr6);have HL6:Hid (ownI w6 w5.heap.size (.slice (some ⟨gq,0,none⟩) K cl) l):=(show ownI _ _ _ _ from ownI.rfr HL.out hr6 hrw5 (by omega) (fun k hk hk2=>by have h1:=HV5.out k hk;have h2:=(World.ownsRow.lt HL.out k hk2).1;omega));clear hf6 hr6))
                          | (go_at_call 130;(with_reducible refine HG6.out.mono ?_);go_must (rintro e w7 ⟨rfl,hf7,hr7⟩;have HF7:=Lib.hid hf7;have HR7:=Lib.hid (HR6.out.trans hr7);have HL7:Hid (ownI w7 w5.heap.size (.slice (some ⟨gq,0,none⟩) K cl) l):=(show ownI _ _ _ _ from ownI.rfr HL6.out hr7 hrw5 (by omega) (fun k hk hk2=>by have h1:=HV5.out k hk;have h2:=(World.ownsRow.lt HL6.out k hk2).1;omega));clear hf7 hr7 HG6)))
                        by_cases hov:NM < K+T
                        · have hovi:(NM:Int) < (K:Int)+(T:Int):=by omega
                          have HE:Hid (¬ R.2.e=0):=(show ¬ _ by
                            rw [HST1.out]
                            exact listF_err (repP_over rfl (by rw [HKL.out];exact hov)))
                          have HR9:=Lib.hid (HR5.out.trans HR7.out)
                          go_wp2_with fail
                          go_ret3
                          unfold LsPost
                          exact ⟨_,_,false,_,rfl,HF7.out,HR9.out,.inl ⟨rfl,rfl,rfl,HE.out⟩⟩
                        · have hovi:¬ (NM:Int) < (K:Int)+(T:Int):=by omega
                          have HSN:Hid (listF bs L NM f (l ++ List.replicate T x) ⟨P4+2,out,0⟩=R):=(show _=_ by
                            rw [HST1.out,repP_ok rfl (by rw [HKL.out];omega)])
                          have HL70:Hid (ownI w7 w5.heap.size (.slice (some ⟨gq,0,none⟩) K cl) (l ++ List.replicate 0 x)):=(show ownI _ _ _ _ by have:=HL7.out;rwa [show l ++ List.replicate 0 x=l by simp])
                          have HF70:=Lib.hid HF7.out
                          have HR70:=Lib.hid HR7.out
                          clear HN HS HNP
                          go_wp2_with fail
                          obtain ⟨wo,rfl⟩:∃ wo:World,wo=wr:=⟨_,rfl⟩
                          go_loopw [26,20] (fun vi vl wr=>∃ i:Nat,i≤T∧vi=.int .i64 i∧Hid (FI wr r g A n c (P4+2) bs vo out most)∧Hid (RFr w5 wr r g vo vo)∧Hid (ownI wr w5.heap.size vl (l ++ List.replicate i x))) (fun vi _ _=>T - (intOf vi).toNat)
                          case atStart=>exact ⟨0,Nat.zero_le _,rfl,HF70,HR70,HL70⟩
                          case round =>
                            clear HF70 HR70 HL70
                            obtain ⟨i,hi,rfl,HF,HR,HL⟩:=hrel
                            obtain ⟨Aq,cq,rfl,-,-,-⟩:=HL.out.form
                            have hlen:(l ++ List.replicate i x).length=K+i:=by rw [List.length_append,List.length_replicate,HKL.out]
                            by_cases hlt:i < T
                            · have hlti:(i:Int) < (T:Int):=by omega
                              have HSNC:=Lib.hid (rep_snoc l x i)
                              have HLO:Hid (∀ k,(Value.slice Aq (l ++ List.replicate i x).length cq).ownBlock=some k→w5.heap.size≤k):=(show ∀ k,_ from fun k hk=>(World.ownsRow.lt HL.out k hk).1)
                              generalize l ++ List.replicate i x=ll at *
                              have HLA:=Lib.hid (ownI.alloc HL.out (.cells #[Value.int .i64 x] 3))
                              have HFA:=Lib.hid (HF.out.later ((Below.refl wr.heap.size wr).alloc (Nat.le_refl _) (.cells #[Value.int .i64 x] 3)))
                              have HRA:=Lib.hid (HR.out.allocd (.cells #[Value.int .i64 x] 3))
                              have hq1:ll.length+1≤1099511627776:=by omega
                              have hq2:w5.heap.size≤(wr.alloc (.cells #[Value.int .i64 x] 3)).heap.size:=HRA.out.size
                              clear hlen
                              go_wp2_with (at_builtin;go_must (refine wpList_appendI rfl (.tmp 174) (.tmp 176) rfl w5.heap.size _ ll rfl HLA.out (wr.heap.size+1) 1 1 (some ⟨wr.heap.size,0,none⟩) [x] rfl (rd_oneI wr x) hq1 hq2 ?_;intro v7 w7 ho7 hg7 hb7 ha7;rw [HSNC.out] at ho7;have HL7:=Lib.hid ho7;have HF7:=Lib.hid (FI.side HFA.out hrw5 HV5.out HLO.out hg7);have HR7:=Lib.hid (RFr.side (l:=ll) HRA.out HLO.out hg7);clear ho7 hg7 hb7 ha7))
                              go_roundw
                              case rel=>exact ⟨i+1,by omega,by go_num,HF7,HR7,HL7⟩
                              case measure=>simp [intOf];omega
                            · obtain rfl:i=T:=by omega
                              have hlti:¬ (i:Int) < (i:Int):=by omega
                              have HFU9:Hid (NM+1≤(l ++ List.replicate i x).length+f):=(show _≤_ by rw [hlen];have h9:=HFU.out;rw [HKL.out] at h9;omega)
                              have hle9:(l ++ List.replicate i x).length≤NM:=by rw [hlen];omega
                              have HM9:Hid (NM - (l ++ List.replicate i x).length < NM - K):=(show _ < _ by rw [hlen];omega)
                              clear hlen
                              go_wp2_with fail
                              go_roundw
                              case rel=>exact ⟨_,P4+2,f,hle9,HF,HR,HL,HSN,HFU9⟩
                              case measure=>exact HM9.out
                      · have HG:=Lib.hid (fun w6 (h:FI w6 r g A n c P4 bs vo out most)=>iget_bad r g n c P4 2 A bs vo out most 2 w6 rfl h (by omega) hfg)
                        have HE:Hid (¬ R.2.e=0):=(show ¬ _ by
                          rw [HST0.out]
                          exact listF_err (repP_err (getP_bad (s:=⟨P4,out,0⟩) (by rw [HBL.out];exact hfg))))
                        clear HST0
                        go_wp2_with (first
                          | (go_at_call 168;(with_reducible refine HN.out.mono ?_);go_must (rintro e w6 ⟨rfl,hf6,hr6⟩;have hc6:=HCL.out w6 (ownI.rfr HL.out hr6 hrw5 (by omega) (fun k hk hk2=>by have h1:=HV5.out k hk;have h2:=(World.ownsRow.lt HL.out k hk2).1;omega));have HG6:=Lib.hid (HG.out w6 hf6);have hr6x:=Lib.hid hr6;have HF6:=Lib.hid hf6;have HR6:=Lib.hid (HR.out.trans hr6);have HL6:Hid (ownI w6 w5.heap.size (.slice (some ⟨gq,0,none⟩) K cl) l):=(show ownI _ _ _ _ from ownI.rfr HL.out hr6 hrw5 (by omega) (fun k hk hk2=>by have h1:=HV5.out k hk;have h2:=(World.ownsRow.lt HL.out k hk2).1;omega));clear hf6 hr6))
                          | (go_at_call 130;(with_reducible refine HG6.out.mono ?_);go_must (rintro e w7 ⟨rfl,hf7,hr7⟩;have HF7:=Lib.hid hf7;have HR7:=Lib.hid (HR6.out.trans hr7);have HL7:Hid (ownI w7 w5.heap.size (.slice (some ⟨gq,0,none⟩) K cl) l):=(show ownI _ _ _ _ from ownI.rfr HL6.out hr7 hrw5 (by omega) (fun k hk hk2=>by have h1:=HV5.out k hk;have h2:=(World.ownsRow.lt HL6.out k hk2).1;omega));clear hf7 hr7 HG6)))
                        have HR9:=Lib.hid (HR5.out.trans HR7.out)
                        go_ret3
                        unfold LsPost
                        exact ⟨_,_,false,_,rfl,HF7.out,HR9.out,.inl ⟨rfl,rfl,rfl,HE.out⟩⟩
                  · subst hq
                    have d16:(((17:Nat):Int) == 16)=false:=rfl
                    have d17:(((17:Nat):Int) == 17)=true:=rfl
                    have HST0:=Lib.hid (lst_17 (bs:=bs) (ls:=L) (all:=NM) (f:=f) (l:=l) (s:=⟨P3,out,0⟩) hlt2 rfl (by rw [HNP.out]) (by rw [HNP.out];rfl))
                    rw [HS.out,HNP.out] at HST0
                    clear hlt2 hK
                    by_cases hfg:P4+3≤8 * n
                    · have HG:=Lib.hid (fun w6 (h:FI w6 r g A n c P4 bs vo out most)=>iget_ok r g n c P4 3 A bs vo out most 3 w6 rfl h (by omega) hfg)
                      have HGP:Hid (getP bs (⟨P4,out,0⟩:RS) 3=(getV bs P4 3,⟨P4+3,out,0⟩)):=(show _=_ from getP_ok rfl (by rw [HBL.out];exact hfg))
                      have hv:=getV_lt bs P4 3
                      have HST1:=Lib.hid HST0.out
                      rw [show (getP bs (((17:Nat):Int),(⟨P4,out,0⟩:RS)).2 3)=getP bs (⟨P4,out,0⟩:RS) 3 from rfl,HGP.out] at HST1
                      generalize getV bs P4 3=v at *
                      have hvb:v < 200:=Nat.lt_of_lt_of_le hv (by decide)
                      obtain ⟨T,hT⟩:∃ T,3+v=T:=⟨_,rfl⟩
                      have hTi:(v:Int)+3=(T:Int):=by omega
                      have hT3:3≤T:=by omega
                      have hTw:IntKind.i64.wrap (T:Int)=(T:Int):=wrap_i64_lt T (by omega)
                      have hKTw:IntKind.i64.wrap ((K:Int)+(T:Int))=(K:Int)+(T:Int):=by rw [show (K:Int)+(T:Int)=((K+T:Nat):Int) by omega];exact wrap_i64_lt _ (by omega)
                      replace HST1:Hid (R=listF bs L NM f (repP l 0 T NM ⟨P4+3,out,0⟩).1 (repP l 0 T NM ⟨P4+3,out,0⟩).2):=(show _=_ by rw [← hT];exact HST1.out)
                      clear hv hT HST0 HGP
                      go_upto_region 41 with (first
                        | (go_at_call 168;(with_reducible refine HN.out.mono ?_);go_must (rintro e w6 ⟨rfl,hf6,hr6⟩; have HG6:=Lib.hid (HG.out w6 hf6);have hr6x:=Lib.hid hr6;have HF6:=Lib.hid hf6;have HR6:=Lib.hid (HR.out.trans hr6);have HL6:Hid (ownI w6 w5.heap.size (.slice Al K cl) l):=(show ownI _ _ _ _ from ownI.rfr HL.out hr6 hrw5 (by omega) (fun k hk hk2=>by have h1:=HV5.out k hk;have h2:=(World.ownsRow.lt HL.out k hk2).1;omega));clear hf6 hr6))
                        | (go_at_call 130;(with_reducible refine HG6.out.mono ?_);go_must (rintro e w7 ⟨rfl,hf7,hr7⟩;have HF7:=Lib.hid hf7;have HR7:=Lib.hid (HR6.out.trans hr7);have HL7:Hid (ownI w7 w5.heap.size (.slice Al K cl) l):=(show ownI _ _ _ _ from ownI.rfr HL6.out hr7 hrw5 (by omega) (fun k hk hk2=>by have h1:=HV5.out k hk;have h2:=(World.ownsRow.lt HL6.out k hk2).1;omega));clear hf7 hr7 HG6)))
                      by_cases hov:NM < K+T
                      · have hovi:(NM:Int) < (K:Int)+(T:Int):=by omega
                        have HE:Hid (¬ R.2.e=0):=(show ¬ _ by
                          rw [HST1.out]
                          exact listF_err (repP_over rfl (by rw [HKL.out];exact hov)))
                        have HR9:=Lib.hid (HR5.out.trans HR7.out)
                        go_wp2_with fail
                        go_ret3
                        unfold LsPost
                        exact ⟨_,_,false,_,rfl,HF7.out,HR9.out,.inl ⟨rfl,rfl,rfl,HE.out⟩⟩
                      · have hovi:¬ (NM:Int) < (K:Int)+(T:Int):=by omega
                        have HSN:Hid (listF bs L NM f (l ++ List.replicate T 0) ⟨P4+3,out,0⟩=R):=(show _=_ by
                          rw [HST1.out,repP_ok rfl (by rw [HKL.out];omega)])
                        have HL70:Hid (ownI w7 w5.heap.size (.slice Al K cl) (l ++ List.replicate 0 0)):=(show ownI _ _ _ _ by have:=HL7.out;rwa [show l ++ List.replicate 0 0=l by simp])
                        have HF70:=Lib.hid HF7.out
                        have HR70:=Lib.hid HR7.out
                        clear HN HS HNP
                        go_wp2_with fail
                        obtain ⟨wo,rfl⟩:∃ wo:World,wo=wr:=⟨_,rfl⟩
                        go_loopw [26,20] (fun vi vl wr=>∃ i:Nat,i≤T∧vi=.int .i64 i∧Hid (FI wr r g A n c (P4+3) bs vo out most)∧Hid (RFr w5 wr r g vo vo)∧Hid (ownI wr w5.heap.size vl (l ++ List.replicate i 0))) (fun vi _ _=>T - (intOf vi).toNat)
                        case atStart=>exact ⟨0,Nat.zero_le _,rfl,HF70,HR70,HL70⟩
                        case round =>
                          clear HF70 HR70 HL70
                          obtain ⟨i,hi,rfl,HF,HR,HL⟩:=hrel
                          obtain ⟨Aq,cq,rfl,-,-,-⟩:=HL.out.form
                          have hlen:(l ++ List.replicate i 0).length=K+i:=by rw [List.length_append,List.length_replicate,HKL.out]
                          by_cases hlt:i < T
                          · have hlti:(i:Int) < (T:Int):=by omega
                            have HSNC:=Lib.hid (rep_snoc l 0 i)
                            have HLO:Hid (∀ k,(Value.slice Aq (l ++ List.replicate i 0).length cq).ownBlock=some k→w5.heap.size≤k):=(show ∀ k,_ from fun k hk=>(World.ownsRow.lt HL.out k hk).1)
                            generalize l ++ List.replicate i 0=ll at *
                            have HLA:=Lib.hid (ownI.alloc HL.out (.cells #[Value.int .i64 0] 3))
                            have HFA:=Lib.hid (HF.out.later ((Below.refl wr.heap.size wr).alloc (Nat.le_refl _) (.cells #[Value.int .i64 0] 3)))
                            have HRA:=Lib.hid (HR.out.allocd (.cells #[Value.int .i64 0] 3))
                            have hq1:ll.length+1≤1099511627776:=by omega
                            have hq2:w5.heap.size≤(wr.alloc (.cells #[Value.int .i64 0] 3)).heap.size:=HRA.out.size
                            clear hlen
                            go_wp2_with (at_builtin;go_must (refine wpList_appendI rfl (.tmp 174) (.tmp 176) rfl w5.heap.size _ ll rfl HLA.out (wr.heap.size+1) 1 1 (some ⟨wr.heap.size,0,none⟩) [0] rfl (rd_oneI wr 0) hq1 hq2 ?_;intro v7 w7 ho7 hg7 hb7 ha7;rw [HSNC.out] at ho7;have HL7:=Lib.hid ho7;have HF7:=Lib.hid (FI.side HFA.out hrw5 HV5.out HLO.out hg7);have HR7:=Lib.hid (RFr.side (l:=ll) HRA.out HLO.out hg7);clear ho7 hg7 hb7 ha7))
                            go_roundw
                            case rel=>exact ⟨i+1,by omega,by go_num,HF7,HR7,HL7⟩
                            case measure=>simp [intOf];omega
                          · obtain rfl:i=T:=by omega
                            have hlti:¬ (i:Int) < (i:Int):=by omega
                            have HFU9:Hid (NM+1≤(l ++ List.replicate i 0).length+f):=(show _≤_ by rw [hlen];have h9:=HFU.out;rw [HKL.out] at h9;omega)
                            have hle9:(l ++ List.replicate i 0).length≤NM:=by rw [hlen];omega
                            have HM9:Hid (NM - (l ++ List.replicate i 0).length < NM - K):=(show _ < _ by rw [hlen];omega)
                            clear hlen
                            go_wp2_with fail
                            go_roundw
                            case rel=>exact ⟨_,P4+3,f,hle9,HF,HR,HL,HSN,HFU9⟩
                            case measure=>exact HM9.out
                    · have HG:=Lib.hid (fun w6 (h:FI w6 r g A n c P4 bs vo out most)=>iget_bad r g n c P4 3 A bs vo out most 3 w6 rfl h (by omega) hfg)
                      have HE:Hid (¬ R.2.e=0):=(show ¬ _ by
                        rw [HST0.out]
                        exact listF_err (repP_err (getP_bad (s:=⟨P4,out,0⟩) (by rw [HBL.out];exact hfg))))
                      clear HST0
                      go_wp2_with (first
                        | (go_at_call 168;(with_reducible refine HN.out.mono ?_);go_must (rintro e w6 ⟨rfl,hf6,hr6⟩; have HG6:=Lib.hid (HG.out w6 hf6);have hr6x:=Lib.hid hr6;have HF6:=Lib.hid hf6;have HR6:=Lib.hid (HR.out.trans hr6);have HL6:Hid (ownI w6 w5.heap.size (.slice Al K cl) l):=(show ownI _ _ _ _ from ownI.rfr HL.out hr6 hrw5 (by omega) (fun k hk hk2=>by have h1:=HV5.out k hk;have h2:=(World.ownsRow.lt HL.out k hk2).1;omega));clear hf6 hr6))
                        | (go_at_call 130;(with_reducible refine HG6.out.mono ?_);go_must (rintro e w7 ⟨rfl,hf7,hr7⟩;have HF7:=Lib.hid hf7;have HR7:=Lib.hid (HR6.out.trans hr7);have HL7:Hid (ownI w7 w5.heap.size (.slice Al K cl) l):=(show ownI _ _ _ _ from ownI.rfr HL6.out hr7 hrw5 (by omega) (fun k hk hk2=>by have h1:=HV5.out k hk;have h2:=(World.ownsRow.lt HL6.out k hk2).1;omega));clear hf7 hr7 HG6)))
                      have HR9:=Lib.hid (HR5.out.trans HR7.out)
                      go_ret3
                      unfold LsPost
                      exact ⟨_,_,false,_,rfl,HF7.out,HR9.out,.inl ⟨rfl,rfl,rfl,HE.out⟩⟩
                  · subst hq
                    have d16:(((18:Nat):Int) == 16)=false:=rfl
                    have d17:(((18:Nat):Int) == 17)=false:=rfl
                    have d18:(((18:Nat):Int) == 18)=true:=rfl
                    have HST0:=Lib.hid (lst_18 (bs:=bs) (ls:=L) (all:=NM) (f:=f) (l:=l) (s:=⟨P3,out,0⟩) hlt2 rfl (by rw [HNP.out]) (by rw [HNP.out];show (17:Int) < ((18:Nat):Int);decide))
                    rw [HS.out,HNP.out] at HST0
                    clear hlt2 hK
                    by_cases hfg:P4+7≤8 * n
                    · have HG:=Lib.hid (fun w6 (h:FI w6 r g A n c P4 bs vo out most)=>iget_ok r g n c P4 7 A bs vo out most 7 w6 rfl h (by omega) hfg)
                      have HGP:Hid (getP bs (⟨P4,out,0⟩:RS) 7=(getV bs P4 7,⟨P4+7,out,0⟩)):=(show _=_ from getP_ok rfl (by rw [HBL.out];exact hfg))
                      have hv:=getV_lt bs P4 7
                      have HST1:=Lib.hid HST0.out
                      rw [show (getP bs (((18:Nat):Int),(⟨P4,out,0⟩:RS)).2 7)=getP bs (⟨P4,out,0⟩:RS) 7 from rfl,HGP.out] at HST1
                      generalize getV bs P4 7=v at *
                      have hvb:v < 200:=Nat.lt_of_lt_of_le hv (by decide)
                      obtain ⟨T,hT⟩:∃ T,11+v=T:=⟨_,rfl⟩
                      have hTi:(v:Int)+11=(T:Int):=by omega
                      have hT3:3≤T:=by omega
                      have hTw:IntKind.i64.wrap (T:Int)=(T:Int):=wrap_i64_lt T (by omega)
                      have hKTw:IntKind.i64.wrap ((K:Int)+(T:Int))=(K:Int)+(T:Int):=by rw [show (K:Int)+(T:Int)=((K+T:Nat):Int) by omega];exact wrap_i64_lt _ (by omega)
                      replace HST1:Hid (R=listF bs L NM f (repP l 0 T NM ⟨P4+7,out,0⟩).1 (repP l 0 T NM ⟨P4+7,out,0⟩).2):=(show _=_ by rw [← hT];exact HST1.out)
                      clear hv hT HST0 HGP
                      go_upto_region 41 with (first
                        | (go_at_call 168;(with_reducible refine HN.out.mono ?_);go_must (rintro e w6 ⟨rfl,hf6,hr6⟩; have HG6:=Lib.hid (HG.out w6 hf6);have hr6x:=Lib.hid hr6;have HF6:=Lib.hid hf6;have HR6:=Lib.hid (HR.out.trans hr6);have HL6:Hid (ownI w6 w5.heap.size (.slice Al K cl) l):=(show ownI _ _ _ _ from ownI.rfr HL.out hr6 hrw5 (by omega) (fun k hk hk2=>by have h1:=HV5.out k hk;have h2:=(World.ownsRow.lt HL.out k hk2).1;omega));clear hf6 hr6))
                        | (go_at_call 130;(with_reducible refine HG6.out.mono ?_);go_must (rintro e w7 ⟨rfl,hf7,hr7⟩;have HF7:=Lib.hid hf7;have HR7:=Lib.hid (HR6.out.trans hr7);have HL7:Hid (ownI w7 w5.heap.size (.slice Al K cl) l):=(show ownI _ _ _ _ from ownI.rfr HL6.out hr7 hrw5 (by omega) (fun k hk hk2=>by have h1:=HV5.out k hk;have h2:=(World.ownsRow.lt HL6.out k hk2).1;omega));clear hf7 hr7 HG6)))
                      by_cases hov:NM < K+T
                      · have hovi:(NM:Int) < (K:Int)+(T:Int):=by omega
                        have HE:Hid (¬ R.2.e=0):=(show ¬ _ by
                          rw [HST1.out]
                          exact listF_err (repP_over rfl (by rw [HKL.out];exact hov)))
                        have HR9:=Lib.hid (HR5.out.trans HR7.out)
                        go_wp2_with fail
                        go_ret3
                        unfold LsPost
                        exact ⟨_,_,false,_,rfl,HF7.out,HR9.out,.inl ⟨rfl,rfl,rfl,HE.out⟩⟩
                      · have hovi:¬ (NM:Int) < (K:Int)+(T:Int):=by omega
                        have HSN:Hid (listF bs L NM f (l ++ List.replicate T 0) ⟨P4+7,out,0⟩=R):=(show _=_ by
                          rw [HST1.out,repP_ok rfl (by rw [HKL.out];omega)])
                        have HL70:Hid (ownI w7 w5.heap.size (.slice Al K cl) (l ++ List.replicate 0 0)):=(show ownI _ _ _ _ by have:=HL7.out;rwa [show l ++ List.replicate 0 0=l by simp])
                        have HF70:=Lib.hid HF7.out
                        have HR70:=Lib.hid HR7.out
                        clear HN HS HNP
                        go_wp2_with fail
                        obtain ⟨wo,rfl⟩:∃ wo:World,wo=wr:=⟨_,rfl⟩
                        go_loopw [26,20] (fun vi vl wr=>∃ i:Nat,i≤T∧vi=.int .i64 i∧Hid (FI wr r g A n c (P4+7) bs vo out most)∧Hid (RFr w5 wr r g vo vo)∧Hid (ownI wr w5.heap.size vl (l ++ List.replicate i 0))) (fun vi _ _=>T - (intOf vi).toNat)
                        case atStart=>exact ⟨0,Nat.zero_le _,rfl,HF70,HR70,HL70⟩
                        case round =>
                          clear HF70 HR70 HL70
                          obtain ⟨i,hi,rfl,HF,HR,HL⟩:=hrel
                          obtain ⟨Aq,cq,rfl,-,-,-⟩:=HL.out.form
                          have hlen:(l ++ List.replicate i 0).length=K+i:=by rw [List.length_append,List.length_replicate,HKL.out]
                          by_cases hlt:i < T
                          · have hlti:(i:Int) < (T:Int):=by omega
                            have HSNC:=Lib.hid (rep_snoc l 0 i)
                            have HLO:Hid (∀ k,(Value.slice Aq (l ++ List.replicate i 0).length cq).ownBlock=some k→w5.heap.size≤k):=(show ∀ k,_ from fun k hk=>(World.ownsRow.lt HL.out k hk).1)
                            generalize l ++ List.replicate i 0=ll at *
                            have HLA:=Lib.hid (ownI.alloc HL.out (.cells #[Value.int .i64 0] 3))
                            have HFA:=Lib.hid (HF.out.later ((Below.refl wr.heap.size wr).alloc (Nat.le_refl _) (.cells #[Value.int .i64 0] 3)))
                            have HRA:=Lib.hid (HR.out.allocd (.cells #[Value.int .i64 0] 3))
                            have hq1:ll.length+1≤1099511627776:=by omega
                            have hq2:w5.heap.size≤(wr.alloc (.cells #[Value.int .i64 0] 3)).heap.size:=HRA.out.size
                            clear hlen
                            go_wp2_with (at_builtin;go_must (refine wpList_appendI rfl (.tmp 174) (.tmp 176) rfl w5.heap.size _ ll rfl HLA.out (wr.heap.size+1) 1 1 (some ⟨wr.heap.size,0,none⟩) [0] rfl (rd_oneI wr 0) hq1 hq2 ?_;intro v7 w7 ho7 hg7 hb7 ha7;rw [HSNC.out] at ho7;have HL7:=Lib.hid ho7;have HF7:=Lib.hid (FI.side HFA.out hrw5 HV5.out HLO.out hg7);have HR7:=Lib.hid (RFr.side (l:=ll) HRA.out HLO.out hg7);clear ho7 hg7 hb7 ha7))
                            go_roundw
                            case rel=>exact ⟨i+1,by omega,by go_num,HF7,HR7,HL7⟩
                            case measure=>simp [intOf];omega
                          · obtain rfl:i=T:=by omega
                            have hlti:¬ (i:Int) < (i:Int):=by omega
                            have HFU9:Hid (NM+1≤(l ++ List.replicate i 0).length+f):=(show _≤_ by rw [hlen];have h9:=HFU.out;rw [HKL.out] at h9;omega)
                            have hle9:(l ++ List.replicate i 0).length≤NM:=by rw [hlen];omega
                            have HM9:Hid (NM - (l ++ List.replicate i 0).length < NM - K):=(show _ < _ by rw [hlen];omega)
                            clear hlen
                            go_wp2_with fail
                            go_roundw
                            case rel=>exact ⟨_,P4+7,f,hle9,HF,HR,HL,HSN,HFU9⟩
                            case measure=>exact HM9.out
                    · have HG:=Lib.hid (fun w6 (h:FI w6 r g A n c P4 bs vo out most)=>iget_bad r g n c P4 7 A bs vo out most 7 w6 rfl h (by omega) hfg)
                      have HE:Hid (¬ R.2.e=0):=(show ¬ _ by
                        rw [HST0.out]
                        exact listF_err (repP_err (getP_bad (s:=⟨P4,out,0⟩) (by rw [HBL.out];exact hfg))))
                      clear HST0
                      go_wp2_with (first
                        | (go_at_call 168;(with_reducible refine HN.out.mono ?_);go_must (rintro e w6 ⟨rfl,hf6,hr6⟩; have HG6:=Lib.hid (HG.out w6 hf6);have hr6x:=Lib.hid hr6;have HF6:=Lib.hid hf6;have HR6:=Lib.hid (HR.out.trans hr6);have HL6:Hid (ownI w6 w5.heap.size (.slice Al K cl) l):=(show ownI _ _ _ _ from ownI.rfr HL.out hr6 hrw5 (by omega) (fun k hk hk2=>by have h1:=HV5.out k hk;have h2:=(World.ownsRow.lt HL.out k hk2).1;omega));clear hf6 hr6))
                        | (go_at_call 130;(with_reducible refine HG6.out.mono ?_);go_must (rintro e w7 ⟨rfl,hf7,hr7⟩;have HF7:=Lib.hid hf7;have HR7:=Lib.hid (HR6.out.trans hr7);have HL7:Hid (ownI w7 w5.heap.size (.slice Al K cl) l):=(show ownI _ _ _ _ from ownI.rfr HL6.out hr7 hrw5 (by omega) (fun k hk hk2=>by have h1:=HV5.out k hk;have h2:=(World.ownsRow.lt HL6.out k hk2).1;omega));clear hf7 hr7 HG6)))
                      have HR9:=Lib.hid (HR5.out.trans HR7.out)
                      go_ret3
                      unfold LsPost
                      exact ⟨_,_,false,_,rfl,HF7.out,HR9.out,.inl ⟨rfl,rfl,rfl,HE.out⟩⟩
              · have HE:Hid (¬ R.2.e=0):=(show ¬ _ by
                  rw [← HS.out]
                  exact lst_err hlt2 rfl (by rw [HNP.out];exact ht))
                have d2b:(e1 != 0)=true:=by rw [bne_iff_ne];exact ht
                clear hK hlt2
                go_wp2_with (go_at_call 168;(with_reducible refine HN.out.mono ?_);go_must (rintro e w6 ⟨rfl,hf6,hr6⟩;have HF6:=Lib.hid hf6;have HR6:=Lib.hid (HR5.out.trans (HR.out.trans hr6));clear hf6 hr6))
                go_ret3
                unfold LsPost
                exact ⟨_,_,false,_,rfl,HF6.out,HR6.out,.inl ⟨rfl,rfl,rfl,HE.out⟩⟩
            · obtain rfl:K=NM:=by omega
              have hlti:¬ (K:Int) < (K:Int):=by omega
              have HE:Hid (R=(l,⟨P3,out,0⟩)):=(show _=_ by rw [← HS.out,listF_stop (fun h=>by have:=h.1;omega)])
              obtain ⟨-,gq,rfl,-,-⟩:=ownI.pos HL.out (show 0 < l.length by omega)
              rw [hK] at HL
              simp only [hK]
              have hcm:K≤cl:=by rw [← hK];exact hcl1
              clear hK hcl0 hcl1 hcl2
              have hcn:¬ cl=N:=by omega
              have hnk:N≤K:=by omega
              have hnki:(N:Int)≤(K:Int):=by omega
              have hnci:(N:Int)≤(cl:Int):=by omega
              have hkci:(K:Int)≤(cl:Int):=by omega
              have hncl:N < cl:=by omega
              have HR9:=Lib.hid (HR5.out.trans HR.out)
              go_wp2_with fail
              go_quiet (fail)
              go_wp2_with fail
              go_ret3
              unfold LsPost
              have hKM:K - N=M:=by have:=HNM.out;omega
              have hRl:l.length=K:=HKL.out
              refine ⟨_,_,true,P3,rfl,HF.out.drewN _,HR9.out.drewN _,.inr ⟨rfl,by rw [HE.out],by rw [HE.out];show l.length=N+M;rw [HKL.out];exact HNM.out.symm,by omega,by omega,by omega,by omega,gq,cl,cl - N,rfl,?_,?_,?_⟩⟩
              · show Value.slice _ (K - N) _=_
                rw [hKM]
              · rw [HE.out]
                have h1:=(ownI.rd (HL.out.drewN nq)).cut (k:=0) (m:=N) (by omega) (A':=some ⟨gq,0,none⟩) (fun _=>rfl)
                rw [List.drop_zero] at h1
                exact h1
              · rw [HE.out]
                have h1:=(ownI.rd (HL.out.drewN nq)).cut (k:=N) (m:=M) (by omega) (A':=some ⟨gq,N,none⟩) (fun _=>by simp [Addr.add,(show ¬ N=0 by omega)])
                rw [List.take_of_length_le (by rw [List.length_drop];omega)] at h1
                exact h1
        · have HE:=Lib.hid (HD2.out hK)
          have dK:(krV L != 32768)=true:=by rw [bne_iff_ne];exact hK
          generalize krV L=KK at *
          by_cases hnw:nwE L=0
          · rw [hnw] at HNW
            go_wp2_with (first
              | (go_at_call 167;(with_reducible refine HNW.out.mono ?_);go_must (rintro e w5 ⟨v5,rfl,-,-,hb5⟩;have HF5:=Lib.hid (HF.out.later hb5);have HR5:=Lib.hid (HR.out.trans (RFr.ofB hb5 r g vo));have HKR5:=Lib.hid (HKR.out w5 hb5);clear hb5))
              | (go_at_call 134;(with_reducible refine HKR5.out.mono ?_);go_must (rintro e w6 ⟨rfl,rfl⟩)))
            go_ret3
            unfold LsPost
            exact ⟨_,_,false,_,rfl,HF5.out,HR5.out,.inl ⟨rfl,rfl,rfl,HE.out⟩⟩
          · have dN:(nwE L != 0)=true:=by rw [bne_iff_ne];exact hnw
            generalize nwE L=NE at *
            go_wp2_with (first
              | (go_at_call 167;(with_reducible refine HNW.out.mono ?_);go_must (rintro e w5 ⟨v5,rfl,-,-,hb5⟩;have HF5:=Lib.hid (HF.out.later hb5);have HR5:=Lib.hid (HR.out.trans (RFr.ofB hb5 r g vo));have HKR5:=Lib.hid (HKR.out w5 hb5);clear hb5))
              | (go_at_call 134;(with_reducible refine HKR5.out.mono ?_);go_must (rintro e w6 ⟨rfl,rfl⟩)))
            go_ret3
            unfold LsPost
            exact ⟨_,_,false,_,rfl,HF5.out,HR5.out,.inl ⟨rfl,rfl,rfl,HE.out⟩⟩
  · have HE:Hid (¬ (ownLs bs ⟨P,out,0⟩).2.e=0):=(show ¬ _ from hd_bad (by rw [HBL.out];exact hall))
    generalize ownLs bs ⟨P,out,0⟩=R at *
    generalize hdN bs ⟨P,out,0⟩=dn at *
    generalize hdM bs ⟨P,out,0⟩=dm at *
    have HG3:=Lib.hid (fun P3 w1 (h:FI w1 r g A n c P3 bs vo out most)=>iget_gen r g n c P3 A bs vo out most w1 4 4 rfl h (by omega))
    by_cases hf1:P+5≤8 * n
    · have HG1:=Lib.hid (iget_ok r g n c P 5 A bs vo out most 5 w rfl H.out (by omega) hf1)
      by_cases hf2:P+10≤8 * n
      · have HG2:=Lib.hid (fun w1 (h:FI w1 r g A n c (P+5) bs vo out most)=>iget_ok r g n c (P+5) 5 A bs vo out most 5 w1 rfl h (by omega) (by omega))
        by_cases hf3:P+14≤8 * n
        · have HG4:=Lib.hid (fun w1 (h:FI w1 r g A n c (P+10) bs vo out most)=>iget_ok r g n c (P+10) 4 A bs vo out most 4 w1 rfl h (by omega) (by omega))
          generalize getV bs (P+10) 4=z at *
          generalize getV bs (P+5) 5=y at *
          generalize getV bs P 5=x at *
          by_cases hx:x≤29
          · have hxi:¬ (29:Int) < (x:Int):=by omega
            have hyi:(29:Int) < (y:Int):=by
              have:¬ y≤29:=fun h=>hall ⟨hf3,hx,h⟩
              omega
            go_enter Tryz.func133,Tryz.ntmps133
            go_wp2_with (first
              | (go_at_call 130;(with_reducible refine HG1.out.mono ?_);go_must (rintro e w1 ⟨rfl,hf1,hr1⟩;have HR1:=Lib.hid hr1;have HG21:=Lib.hid (HG2.out w1 hf1);clear hf1 hr1 HG1))
              | (go_at_call 130;(with_reducible refine HG21.out.mono ?_);go_must (rintro e w2 ⟨rfl,hf2,hr2⟩;have HR2:=Lib.hid (HR1.out.trans hr2);have HG42:=Lib.hid (HG4.out w2 hf2);clear hf2 hr2 HG21))
              | (go_at_call 130;(with_reducible refine HG42.out.mono ?_);go_must (rintro e wc ⟨rfl,hf3,hr3⟩;have HR3:=Lib.hid (HR2.out.trans hr3);have HF3:=Lib.hid hf3;clear hf3 hr3 HG42)))
            go_ret3
            unfold LsPost
            exact ⟨_,_,false,_,rfl,HF3.out,HR3.out,.inl ⟨rfl,rfl,rfl,HE.out⟩⟩
          · have hxi:(29:Int) < (x:Int):=by omega
            go_enter Tryz.func133,Tryz.ntmps133
            go_wp2_with (first
              | (go_at_call 130;(with_reducible refine HG1.out.mono ?_);go_must (rintro e w1 ⟨rfl,hf1,hr1⟩;have HR1:=Lib.hid hr1;have HG21:=Lib.hid (HG2.out w1 hf1);clear hf1 hr1 HG1))
              | (go_at_call 130;(with_reducible refine HG21.out.mono ?_);go_must (rintro e w2 ⟨rfl,hf2,hr2⟩;have HR2:=Lib.hid (HR1.out.trans hr2);have HG42:=Lib.hid (HG4.out w2 hf2);clear hf2 hr2 HG21))
              | (go_at_call 130;(with_reducible refine HG42.out.mono ?_);go_must (rintro e wc ⟨rfl,hf3,hr3⟩;have HR3:=Lib.hid (HR2.out.trans hr3);have HF3:=Lib.hid hf3;clear hf3 hr3 HG42)))
            go_ret3
            unfold LsPost
            exact ⟨_,_,false,_,rfl,HF3.out,HR3.out,.inl ⟨rfl,rfl,rfl,HE.out⟩⟩
        · have HG4:=Lib.hid (fun w1 (h:FI w1 r g A n c (P+10) bs vo out most)=>iget_bad r g n c (P+10) 4 A bs vo out most 4 w1 rfl h (by omega) (by omega))
          go_enter Tryz.func133,Tryz.ntmps133
          go_wp2_with (first
            | (go_at_call 130;(with_reducible refine HG1.out.mono ?_);go_must (rintro e w1 ⟨rfl,hf1,hr1⟩;have HR1:=Lib.hid hr1;have HG21:=Lib.hid (HG2.out w1 hf1);clear hf1 hr1 HG1))
            | (go_at_call 130;(with_reducible refine HG21.out.mono ?_);go_must (rintro e w2 ⟨rfl,hf2,hr2⟩;have HR2:=Lib.hid (HR1.out.trans hr2);have HG42:=Lib.hid (HG4.out w2 hf2);clear hf2 hr2 HG21))
            | (go_at_call 130;(with_reducible refine HG42.out.mono ?_);go_must (rintro e wc ⟨rfl,hf3,hr3⟩;have HR3:=Lib.hid (HR2.out.trans hr3);have HF3:=Lib.hid hf3;clear hf3 hr3 HG42)))
          go_ret3
          unfold LsPost
          exact ⟨_,_,false,_,rfl,HF3.out,HR3.out,.inl ⟨rfl,rfl,rfl,HE.out⟩⟩
      · have HG2:=Lib.hid (fun w1 (h:FI w1 r g A n c (P+5) bs vo out most)=>iget_bad r g n c (P+5) 5 A bs vo out most 5 w1 rfl h (by omega) (by omega))
        have HG4:=Lib.hid (HG3.out (P+5))
        go_enter Tryz.func133,Tryz.ntmps133
        go_wp2_with (first
          | (go_at_call 130;(with_reducible refine HG1.out.mono ?_);go_must (rintro e w1 ⟨rfl,hf1,hr1⟩;have HR1:=Lib.hid hr1;have HG21:=Lib.hid (HG2.out w1 hf1);clear hf1 hr1 HG1))
          | (go_at_call 130;(with_reducible refine HG21.out.mono ?_);go_must (rintro e w2 ⟨rfl,hf2,hr2⟩;have HR2:=Lib.hid (HR1.out.trans hr2);have HG42:=Lib.hid (HG4.out w2 hf2);clear hf2 hr2 HG21))
          | (go_at_call 130;(with_reducible refine HG42.out.mono ?_);go_must (rintro e wc ⟨v3,ok3,P3,rfl,hf3,hr3⟩;have HR3:=Lib.hid (HR2.out.trans hr3);have HF3:=Lib.hid hf3;clear hf3 hr3 HG42)))
        go_ret3
        unfold LsPost
        exact ⟨_,_,false,_,rfl,HF3.out,HR3.out,.inl ⟨rfl,rfl,rfl,HE.out⟩⟩
    · have HG1:=Lib.hid (iget_bad r g n c P 5 A bs vo out most 5 w rfl H.out (by omega) hf1)
      have HG2:=Lib.hid (fun w1 (h:FI w1 r g A n c P bs vo out most)=>iget_bad r g n c P 5 A bs vo out most 5 w1 rfl h (by omega) hf1)
      have HG4:=Lib.hid (HG3.out P)
      go_enter Tryz.func133,Tryz.ntmps133
      go_wp2_with (first
        | (go_at_call 130;(with_reducible refine HG1.out.mono ?_);go_must (rintro e w1 ⟨rfl,hf1,hr1⟩;have HR1:=Lib.hid hr1;have HG21:=Lib.hid (HG2.out w1 hf1);clear hf1 hr1 HG1))
        | (go_at_call 130;(with_reducible refine HG21.out.mono ?_);go_must (rintro e w2 ⟨rfl,hf2,hr2⟩;have HR2:=Lib.hid (HR1.out.trans hr2);have HG42:=Lib.hid (HG4.out w2 hf2);clear hf2 hr2 HG21))
        | (go_at_call 130;(with_reducible refine HG42.out.mono ?_);go_must (rintro e wc ⟨v3,ok3,P3,rfl,hf3,hr3⟩;have HR3:=Lib.hid (HR2.out.trans hr3);have HF3:=Lib.hid hf3;clear hf3 hr3 HG42)))
      go_ret3
      unfold LsPost
      exact ⟨_,_,false,_,rfl,HF3.out,HR3.out,.inl ⟨rfl,rfl,rfl,HE.out⟩⟩
end
end Go.Proofs.YteoolehdomjkkaaGreat

/- flate: Inflate, whatever comes. -/
namespace Go.Proofs.YteoolehdomjkkaaGreat
set_option linter.all false
open Go.RowKit
def imeas (n g r:Nat) (vi:Value) (w:World):Nat:=if intOf vi=0∧errOf w r=0 then 8 * n+1 - posOf w g else 0
set_option maxRecDepth 100000 in
set_option maxHeartbeats 6400000 in
theorem inflate_all (B n c:Nat) (A:Option Addr) (bs:List UInt8) (most:Int) (w:World) (h:RdB w B A n bs) (hB:B≤w.heap.size) (hn:n≤1000000) :
  Calls Tryz.prog 55 #[.slice A n c,.int .i64 most] w fun e w'=>∃ v,e=.returned (.tuple #[v,.int .i64 ((inflP bs most).2.1:Int),.int .i64 (inflP bs most).2.2])∧ownB w' w.heap.size v (inflP bs most).1∧Below w.heap.size w w':=by
 by_cases hmost:most < 0∨40000 < most
 ·have HP:Hid (inflP bs most=([],0,1)):=(show _=_ from if_pos hmost)
  rw [HP.out]
  clear h
  go_enter Tryz.func55,Tryz.ntmps55
  rcases hmost with h1 | h1
  ·have t1:decide (most < 0)=true:=decide_eq_true h1
   go_wp2_with fail
   go_ret3
   exact ⟨_,rfl,ownB.nil_ _ _,Below.refl _ _⟩
  ·have t1:decide (most < 0)=false:=decide_eq_false (by omega)
   have t2:decide (most > 40000)=true:=decide_eq_true h1
   have t3:¬ most < 0:=by omega
   go_wp2_with fail
   go_ret3
   exact ⟨_,rfl,ownB.nil_ _ _,Below.refl _ _⟩
 ·have hn1:¬ most < 0:=fun h=>hmost (.inl h)
  have hn2:¬ 40000 < most:=fun h=>hmost (.inr h)
  have h0:0≤most:=by omega
  have hm:most≤40000:=by omega
  have hlb:bs.length=n:=h.len
  have HP:Hid (inflP bs most=if (infS bs most).e=0 then ((infS bs most).out,((infS bs most).p+7) / 8,0) else ([],0,(infS bs most).e)):=(show _=_ from if_neg hmost)
  rw [HP.out]
  obtain ⟨S,hS⟩:∃ S,infS bs most=S:=⟨_,rfl⟩
  rw [hS]
  obtain ⟨T,hT⟩:∃ T,(if S.e=0 then (S.out,(S.p+7) / 8,0) else (([]:List UInt8),0,S.e))=T:=⟨_,rfl⟩
  rw [hT]
  have HT:=Lib.hid hT
  have HC:Hid (infF bs most (8 * n+1) (8 * n+1) ⟨0,[],0⟩=S):=(show _=_ by rw [← hS,← hlb];rfl)
  have HN:=Lib.hid (newReader_any B n c A bs w h (by omega))
  have t1:decide (most < 0)=false:=decide_eq_false (by omega)
  have t2:decide (most > 40000)=false:=decide_eq_false (by omega)
  have t3:¬ most < 0:=by omega
  have t4:¬ 40000 < most:=by omega
  clear h hS hn1 hn2 HP hmost hT
  go_enter Tryz.func55,Tryz.ntmps55
  go_wp2_with (go_at_call 95;(with_reducible refine HN.out.mono ?_);go_must (rintro e w1 ⟨g,A1,c1,rfl,hg,hgw,ha1,hr1,hb1⟩;have HFR:Hid (FS (w1.alloc (.cells #[.pointer (some ⟨g,0,none⟩),.slice none 0 0,.int .i64 most,.int .i64 0] 113)) w1.heap.size g A1 n c1 bs most (.slice none 0 0) ⟨0,[],0⟩):=(show FR _ _ _ _ _ _ _ _ _ _ _ _ from ⟨Arr.new w1 [.pointer (some ⟨g,0,none⟩),.slice none 0 0,.int .i64 most,.int .i64 0] 113,ha1.alloc _,Rd.alloc hr1 (Nat.le_of_lt hgw) _,ownB.nil_ _ _,hgw,Nat.zero_le _,hn⟩);have HB1:=Lib.hid (hb1.alloc hb1.size (.cells #[.pointer (some ⟨g,0,none⟩),.slice none 0 0,.int .i64 most,.int .i64 0] 113));have hz1:=hb1.size;clear ha1 hr1 hb1))
  obtain ⟨r,hr⟩:∃ r,w1.heap.size=r:=⟨_,rfl⟩
  rw [hr] at HFR
  simp only [hr]
  have hgr:g < r:=by omega
  have hwr:w.heap.size≤r:=by omega
  have hr:=Lib.hid hr
  clear hz1 hgw
  go_wp2_with fail
  have HB2:=Lib.hid (HB1.out)
  obtain ⟨w2,hw2⟩:∃ w2,w1.alloc (.cells #[.pointer (some ⟨g,0,none⟩),.slice none 0 0,.int .i64 most,.int .i64 0] 113)=w2:=⟨_,rfl⟩
  simp only [hw2]
  rw [hw2] at HB2 HFR
  clear hw2 HB1
  go_loopw [8] (fun vi wr=>∃ (last f:Nat) (vo:Value) (cur:RS),vi=.int .i64 last∧last≤1∧Hid (FS wr r g A1 n c1 bs most vo cur)∧Hid (Below w.heap.size w wr)∧Hid (if last=0 then infF bs most (8 * n+1) f cur=S else cur=S)∧Hid ((cur.out.length:Int)≤most)∧Hid (cur.e=0→8 * n+1≤cur.p+f)) (fun vi wr=>imeas n g r vi wr)
  case atStart=>exact ⟨0,8 * n+1,.slice none 0 0,⟨0,[],0⟩,rfl,Nat.zero_le _,HFR,HB2,(show _=_ from HC.out),(show (((0:Nat):Int))≤most from h0),(show _→_ from fun _=>Nat.le_add_left _ _)⟩
  case round =>
   clear HFR HB2 HC
   obtain ⟨last,f,vo,cur,rfl,hl,HFR,HB,HC,HO,HFU⟩:=hrel
   have c3:=(FR.arr HFR.out).cell (k:=3) rfl
   have herr:=errOf_eq c3
   have hpm:=posOf_eq (FR.rd HFR.out)
   by_cases hgo:last=0∧cur.e=0
   ·obtain ⟨rfl,he⟩:=hgo
    have d1:(cur.e == 0)=true:=by rw [he];rfl
    obtain ⟨f,rfl⟩:∃ f',f=f'+1:=⟨f - 1,by have:=HFU.out he;have:=FR.fit HFR.out;omega⟩
    have HST:Hid ((if blk0 bs cur=0 then infF bs most (8 * n+1) f (blkP bs most (8 * n+1) cur) else blkP bs most (8 * n+1) cur)=S):=(show _=_ by
     have h1:infF bs most (8 * n+1) (f+1) cur=S:=by have:=HC.out;rwa [if_pos rfl] at this
     rw [← h1]
     exact (if_pos he).symm)
    have hfu:=HFU.out he
    have hblk:=blkP_p (bs:=bs) (most:=most) (f:=8 * n+1) (s:=cur)
    have hble:((blkP bs most (8 * n+1) cur).out.length:Int)≤most:=kindP_le (by rw [blk2_out];exact HO.out)
    have HBP:Hid (blkP bs most (8 * n+1) cur=kindP bs most (8 * n+1) (blk1 bs cur) (blk2 bs cur)):=(show _=_ from rfl)
    have HKE:Hid (¬ blk1 bs cur=0→(blk2 bs cur).e=0):=(show _→_ from fun h=>getP_v0 h)
    have hko:((blk2 bs cur).out.length:Int)≤most:=by rw [blk2_out];exact HO.out
    have hv0:blk0 bs cur < 2:=getP_lt bs cur (m:=1) (by omega)
    have hv1:blk1 bs cur < 4:=getP_lt bs (getP bs cur 1).2 (m:=2) (by omega)
    have HG1:Hid (Calls Tryz.prog 96 #[.pointer (some ⟨r,0,none⟩),.int .i64 1] wr fun e w'=>e=.returned (.int .i64 (blk0 bs cur:Int))∧FS w' r g A1 n c1 bs most vo (getP bs cur 1).2∧RFr wr w' r g vo vo):=(show Calls _ _ _ _ _ from rget_any r g n c1 A1 bs most vo cur wr 1 1 rfl HFR.out (by omega))
    have HG2:Hid (∀ w3,FS w3 r g A1 n c1 bs most vo (getP bs cur 1).2→Calls Tryz.prog 96 #[.pointer (some ⟨r,0,none⟩),.int .i64 2] w3 fun e w'=>e=.returned (.int .i64 (blk1 bs cur:Int))∧FS w' r g A1 n c1 bs most vo (blk2 bs cur)∧RFr w3 w' r g vo vo):=(show ∀ w3,_ from fun w3 h=>rget_any r g n c1 A1 bs most vo _ w3 2 2 rfl h (by omega))
    have hm0:imeas n g r (.int .i64 ((0:Nat):Int)) wr=8 * n+1 - cur.p:=by unfold imeas;rw [herr,hpm];exact if_pos ⟨rfl,he⟩
    have HFN:Hid (cur.p≤8 * n):=(show _ from FR.fit HFR.out)
    generalize blk2 bs cur=t2 at *
    generalize (getP bs cur 1).2=t1 at *
    generalize blk1 bs cur=k at *
    generalize blk0 bs cur=last at *
    generalize blkP bs most (8 * n+1) cur=nxt at *
    have hd9:w.heap.size≤g:=hg
    have HFIN:Hid (∀ w5 v5,FS w5 r g A1 n c1 bs most v5 nxt→imeas n g r (.int .i64 (last:Int)) w5 < 8 * n+1 - cur.p):=(show ∀ w5 v5,_ from fun w5 v5 h5=>by
     have h1:=posOf_eq (FR.rd h5)
     have h2:=errOf_eq ((FR.arr h5).cell (k:=3) rfl)
     have h3:=HFN.out
     unfold imeas
     rw [h2,h1]
     split
     ·rename_i hh
      have:=hblk hh.2
      omega
     ·omega)
    have HNX:Hid (if last=0 then infF bs most (8 * n+1) f nxt=S else nxt=S):=(show _ by
     have:=HST.out
     by_cases h:last=0
     ·rw [if_pos h] at this ⊢;exact this
     ·rw [if_neg h] at this ⊢;exact this)
    have HFU2:Hid (nxt.e=0→8 * n+1≤nxt.p+f):=(show _→_ from fun h=>by have:=hblk h;omega)
    clear HST HC HFU hblk herr hpm
    rcases (show k=0∨k=1∨k=2∨k=3 by omega) with rfl | rfl | rfl | rfl
    ·have HK:=Lib.hid (fun w4 (h:FS w4 r g A1 n c1 bs most vo t2)=>rplain_any r g n c1 A1 bs most vo t2 w4 h (by omega))
     rw [show plainP bs most t2=nxt from HBP.out.symm] at HK
     clear HBP HKE
     go_wp2_with (first
      | (go_at_call 96;(with_reducible refine HG1.out.mono ?_);go_must (rintro e w3 ⟨rfl,hf3,hr3⟩;have HB3:=Lib.hid (HB.out.trans (FR.fr HFR.out hr3 hd9));have HG23:=Lib.hid (HG2.out _ hf3);have HF3:=Lib.hid hf3;clear hf3 hr3))
      | (go_at_call 96;(with_reducible refine HG23.out.mono ?_);go_must (rintro e w4 ⟨rfl,hf4,hr4⟩;have HB4:=Lib.hid (HB3.out.trans (FR.fr HF3.out hr4 hd9));have HK4:=Lib.hid (HK.out _ hf4);have HF4:=Lib.hid hf4;clear hf4 hr4 HG23))
      | (go_at_call 97;(with_reducible refine HK4.out.mono ?_);go_must (rintro e w5 ⟨rfl,v5,hf5,hr5⟩;have HB5:=Lib.hid (HB4.out.trans (FR.fr HF4.out hr5 hd9));have HF5:=Lib.hid hf5;clear hf5 hr5)))
     go_roundw
     case rel=>exact ⟨last,f,v5,nxt,rfl,by omega,HF5,HB5,HNX,hble,HFU2⟩
     case measure=>rw [hm0];exact HFIN.out _ v5 HF5.out
    ·have HK:=Lib.hid (fun w4 (h:FS w4 r g A1 n c1 bs most vo t2)=>rfixed_any r g n c1 A1 bs most vo t2 w4 (8 * n+1) h (HKE.out (by omega)) (by omega) hko (Nat.le_refl _))
     rw [show rfixP bs most (8 * n+1) t2=nxt from HBP.out.symm] at HK
     clear HBP HKE
     go_wp2_with (first
      | (go_at_call 96;(with_reducible refine HG1.out.mono ?_);go_must (rintro e w3 ⟨rfl,hf3,hr3⟩;have HB3:=Lib.hid (HB.out.trans (FR.fr HFR.out hr3 hd9));have HG23:=Lib.hid (HG2.out _ hf3);have HF3:=Lib.hid hf3;clear hf3 hr3))
      | (go_at_call 96;(with_reducible refine HG23.out.mono ?_);go_must (rintro e w4 ⟨rfl,hf4,hr4⟩;have HB4:=Lib.hid (HB3.out.trans (FR.fr HF3.out hr4 hd9));have HK4:=Lib.hid (HK.out _ hf4);have HF4:=Lib.hid hf4;clear hf4 hr4 HG23))
      | (go_at_call 98;(with_reducible refine HK4.out.mono ?_);go_must (rintro e w5 ⟨rfl,v5,hf5,hr5⟩;have HB5:=Lib.hid (HB4.out.trans (FR.fr HF4.out hr5 hd9));have HF5:=Lib.hid hf5;clear hf5 hr5)))
     go_roundw
     case rel=>exact ⟨last,f,v5,nxt,rfl,by omega,HF5,HB5,HNX,hble,HFU2⟩
     case measure=>rw [hm0];exact HFIN.out _ v5 HF5.out
    ·have HK:=Lib.hid (fun w4 (h:FS w4 r g A1 n c1 bs most vo t2)=>rown_any r g n c1 A1 bs most vo t2 w4 (8 * n+1) h (by omega) hko (Nat.le_refl _))
     rw [show rownP bs most (8 * n+1) t2=nxt from HBP.out.symm] at HK
     clear HBP HKE
     go_wp2_with (first
      | (go_at_call 96;(with_reducible refine HG1.out.mono ?_);go_must (rintro e w3 ⟨rfl,hf3,hr3⟩;have HB3:=Lib.hid (HB.out.trans (FR.fr HFR.out hr3 hd9));have HG23:=Lib.hid (HG2.out _ hf3);have HF3:=Lib.hid hf3;clear hf3 hr3))
      | (go_at_call 96;(with_reducible refine HG23.out.mono ?_);go_must (rintro e w4 ⟨rfl,hf4,hr4⟩;have HB4:=Lib.hid (HB3.out.trans (FR.fr HF3.out hr4 hd9));have HK4:=Lib.hid (HK.out _ hf4);have HF4:=Lib.hid hf4;clear hf4 hr4 HG23))
      | (go_at_call 99;(with_reducible refine HK4.out.mono ?_);go_must (rintro e w5 ⟨rfl,v5,hf5,hr5⟩;have HB5:=Lib.hid (HB4.out.trans (FR.fr HF4.out hr5 hd9));have HF5:=Lib.hid hf5;clear hf5 hr5)))
     go_roundw
     case rel=>exact ⟨last,f,v5,nxt,rfl,by omega,HF5,HB5,HNX,hble,HFU2⟩
     case measure=>rw [hm0];exact HFIN.out _ v5 HF5.out
    ·have HK:=Lib.hid (fun w4 (h:FS w4 r g A1 n c1 bs most vo t2)=>rfail_any r g n c1 A1 bs most vo t2 w4 4 h)
     rw [show t2.fail 4=nxt from HBP.out.symm] at HK
     clear HBP HKE
     go_wp2_with (first
      | (go_at_call 96;(with_reducible refine HG1.out.mono ?_);go_must (rintro e w3 ⟨rfl,hf3,hr3⟩;have HB3:=Lib.hid (HB.out.trans (FR.fr HFR.out hr3 hd9));have HG23:=Lib.hid (HG2.out _ hf3);have HF3:=Lib.hid hf3;clear hf3 hr3))
      | (go_at_call 96;(with_reducible refine HG23.out.mono ?_);go_must (rintro e w4 ⟨rfl,hf4,hr4⟩;have HB4:=Lib.hid (HB3.out.trans (FR.fr HF3.out hr4 hd9));have HK4:=Lib.hid (HK.out _ hf4);have HF4:=Lib.hid hf4;clear hf4 hr4 HG23))
      | (go_at_call 100;(with_reducible refine HK4.out.mono ?_);go_must (rintro e w5 ⟨rfl,hf5,hr5⟩;have HB5:=Lib.hid (HB4.out.trans (FR.fr HF4.out hr5 hd9));have HF5:=Lib.hid hf5;clear hf5 hr5)))
     go_roundw
     case rel=>exact ⟨last,f,vo,nxt,rfl,by omega,HF5,HB5,HNX,hble,HFU2⟩
     case measure=>rw [hm0];exact HFIN.out _ vo HF5.out
   ·have HSC:Hid (cur=S):=(show _=_ by
     have h1:=HC.out
     by_cases hl0:last=0
     ·rw [if_pos hl0] at h1
      rwa [infF_err (fun h=>hgo ⟨hl0,h⟩)] at h1
     ·rwa [if_neg hl0] at h1)
    rw [← HSC.out] at HT
    clear HSC HC
    by_cases he:cur.e=0
    ·obtain rfl:last=1:=by
      have:¬ last=0:=fun h=>hgo ⟨h,he⟩
      omega
     rw [if_pos he] at HT
     have d1:(cur.e != 0)=false:=by rw [he];rfl
     obtain ⟨Av,cv,rfl,-,-,-⟩:=(FR.own HFR.out).form
     have c0:=(FR.arr HFR.out).cell (k:=0) rfl
     have c1':=(FR.arr HFR.out).cell (k:=1) rfl
     have cg:=(FR.rd HFR.out).cell (k:=1) rfl
     have hPf:cur.p≤8 * n:=FR.fit HFR.out
     have e1:IntKind.i64.wrap ((cur.p:Int)+7)=(cur.p:Int)+7:=(by have:=wrap_i64_lt (cur.p+7) (by omega);simpa using this)
     have e2:((cur.p:Int)+7).tdiv 8=(((cur.p+7) / 8:Nat):Int):=by rw [show (cur.p:Int)+7=((cur.p+7:Nat):Int) by omega];rfl
     have e3:((cur.p:Int)+7) / 8=(((cur.p+7) / 8:Nat):Int):=by omega
     obtain ⟨Q,hQ⟩:∃ Q,(cur.p+7) / 8=Q:=⟨_,rfl⟩
     rw [hQ] at e2 e3
     have e4:IntKind.i64.wrap (Q:Int)=(Q:Int):=wrap_i64_lt Q (by omega)
     go_wp2_with fail
     go_quiet ((go_at_call 101;exact Calls.quiet_of_same ((at_any g cur.p _ (by exact cg)).mono fun _ _ h=>⟨h.1,h.2.symm⟩)))
     go_wp2_with fail
     go_ret3
     rw [← HT.out]
     exact ⟨_,by rw [hQ];rfl,(FR.own (FR.drewN HFR.out _)).mono (by omega),bdrewN HB.out _⟩
    ·rw [if_neg he] at HT
     have d1:(cur.e != 0)=true:=by rw [bne_iff_ne];exact he
     have d2:(cur.e == 0)=false:=beq_eq_false_iff_ne.2 he
     rcases (show last=0∨last=1 by omega) with rfl | rfl
     ·go_wp2_with fail
      go_quiet (fail)
      go_wp2_with fail
      go_ret3
      rw [← HT.out]
      exact ⟨_,rfl,ownB.nil_ _ _,bdrewN HB.out _⟩
     ·go_wp2_with fail
      go_quiet (fail)
      go_wp2_with fail
      go_ret3
      rw [← HT.out]
      exact ⟨_,rfl,ownB.nil_ _ _,bdrewN HB.out _⟩
end Go.Proofs.YteoolehdomjkkaaGreat

/- flate: the document's Inflate, whatever comes. -/
namespace Go.Proofs.YteoolehdomjkkaaGreat
set_option linter.all false
open Go.RowKit
theorem infP_ok {bs:List UInt8} {most:Int} (h1:0≤most) (h2:most≤40000) (h:(infS bs most).e=0):inflP bs most=((infS bs most).out,((infS bs most).p+7) / 8,0):=by
 unfold inflP
 rw [if_neg (by omega),if_pos h]
theorem infP_zero {bs:List UInt8} {most:Int} (h:(inflP bs most).2.2=0):(infS bs most).e=0:=by
 unfold inflP at h
 split at h
 ·exact absurd (show (1:Int)=0 from h) (by decide)
 ·split at h
  ·assumption
  ·rename_i h2
   exact absurd h h2
theorem infP_none {bs:List UInt8} {most:Int} (h:¬ (inflP bs most).2.2=0):(inflP bs most).1=[]:=by
 unfold inflP at h ⊢
 split
 ·rfl
 ·rename_i h1
  rw [if_neg h1] at h
  split
  ·rename_i h2
   rw [if_pos h2] at h
   exact absurd rfl h
  ·rfl
theorem infF_last {bs:List UInt8} {most:Int} {F f:Nat} {s:RS} (he:s.e=0) (h:¬ blk0 bs s=0):infF bs most F (f+1) s=blkP bs most F s:=by
 rw [infF,if_pos he,if_neg h]
theorem infF_more {bs:List UInt8} {most:Int} {F f:Nat} {s:RS} (he:s.e=0) (h:blk0 bs s=0):infF bs most F (f+1) s=infF bs most F f (blkP bs most F s):=by
 rw [infF,if_pos he,if_pos h]
theorem infF_bad {bs:List UInt8} {most:Int} {F f:Nat} {s:RS} (he:s.e=0) (h:¬ (blkP bs most F s).e=0):¬ (infF bs most F (f+1) s).e=0:=by
 by_cases h0:blk0 bs s=0
 ·rw [infF_more he h0,infF_err h];exact h
 ·rw [infF_last he h0];exact h
theorem blk_fit {bs:List UInt8} {P:Nat} {out:List UInt8} (h:P+3≤8 * bs.length):blk0 bs ⟨P,out,0⟩=getV bs P 1∧blk1 bs ⟨P,out,0⟩=getV bs (P+1) 2∧blk2 bs ⟨P,out,0⟩=⟨P+3,out,0⟩:=by
 have e1:getP bs (⟨P,out,0⟩:RS) 1=(getV bs P 1,⟨P+1,out,0⟩):=getP_ok rfl (by show P+1≤_;omega)
 have e2:getP bs (⟨P+1,out,0⟩:RS) 2=(getV bs (P+1) 2,⟨P+3,out,0⟩):=by rw [getP_ok rfl (by show P+1+2≤_;omega)]
 unfold blk0 blk1 blk2
 rw [e1]
 exact ⟨rfl,by rw [e2],by rw [e2]⟩
theorem blk_short {bs:List UInt8} {most:Int} {F P:Nat} {out:List UInt8} (h:¬ P+3≤8 * bs.length):¬ (blkP bs most F ⟨P,out,0⟩).e=0:=by
 refine kindP_err ?_
 unfold blk2
 intro h2
 obtain ⟨h3,-⟩:=getP_e0 h2
 have q1:P+1≤8 * bs.length:=Classical.byContradiction fun e=>getP_bad (s:=⟨P,out,0⟩) e h3
 have e1:getP bs (⟨P,out,0⟩:RS) 1=(getV bs P 1,⟨P+1,out,0⟩):=getP_ok rfl q1
 rw [e1] at h2
 exact getP_bad (s:=⟨P+1,out,0⟩) (m:=2) (by show ¬ P+1+2≤_;omega) h2
theorem blkP_go {bs:List UInt8} {most:Int} {F P:Nat} {out:List UInt8} (h:P+3≤8 * bs.length):blkP bs most F ⟨P,out,0⟩=kindP bs most F (getV bs (P+1) 2) ⟨P+3,out,0⟩:=by
 obtain ⟨-,h2,h3⟩:=blk_fit (out:=out) h
 unfold blkP
 rw [h2,h3]
theorem fixL_nw:nwE fixL=0∧nwE fixD=0:=by decide +kernel
/-- What the document's Inflate gives. -/
def If5 (bs:List UInt8) (most:Int) (w:World) (e:Ending) (w':World):Prop:=∃ v,e=.returned (.tuple #[v,.int .i64 ((inflP bs most).2.1:Int),.bool (decide ((inflP bs most).2.2=0))])∧ownB w' w.heap.size v (inflP bs most).1∧Below w.heap.size w w'
theorem If5.bad {bs:List UInt8} {most:Int} {w w':World} {e:Ending} {v a b:Value} (h:¬ (inflP bs most).2.2=0) (he:e=.returned (.tuple #[v,a,b])) (hv:v=.slice none 0 0) (ha:a=.int .i64 0) (hb:b=.bool false) (hw:Below w.heap.size w w'):If5 bs most w e w':=by
 subst hv ha hb
 have h1:=infP_none h
 have h2:(inflP bs most).2.1=0:=by
  unfold inflP at h ⊢
  split
  ·rfl
  ·rename_i h1
   rw [if_neg h1] at h
   split
   ·rename_i h2
    rw [if_pos h2] at h
    exact absurd rfl h
   ·rfl
 refine ⟨.slice none 0 0,?_,?_,hw⟩
 ·rw [he,h2,decide_eq_false h]
  rfl
 ·rw [h1];exact ownB.nil_ _ _
set_option maxRecDepth 100000 in
set_option maxHeartbeats 6400000 in
theorem inflate5_all (B n c:Nat) (A:Option Addr) (bs:List UInt8) (most:Int) (w:World) (h:RdB w B A n bs) (hB:B≤w.heap.size) (hn:n≤1000000) :
  Calls Tryz.prog 77 #[.slice A n c,.int .i64 most] w (If5 bs most w):=by
 by_cases hmost:most < 0∨40000 < most
 ·have HP:Hid (¬ (inflP bs most).2.2=0):=(show ¬ _ from by
   have:inflP bs most=([],0,1):=if_pos hmost
   rw [this]
   exact show ¬ (1:Int)=0 by decide)
  clear h
  go_enter Tryz.func77,Tryz.ntmps77
  rcases hmost with h1 | h1
  ·have t1:decide (most < 0)=true:=decide_eq_true h1
   go_wp2_with fail
   go_ret3
   exact If5.bad HP.out rfl rfl rfl rfl (Below.refl _ _)
  ·have t1:decide (most < 0)=false:=decide_eq_false (by omega)
   have t2:decide (most > 40000)=true:=decide_eq_true h1
   have t3:¬ most < 0:=by omega
   go_wp2_with fail
   go_ret3
   exact If5.bad HP.out rfl rfl rfl rfl (Below.refl _ _)
 ·have h0:0≤most:=by omega
  have hm:most≤40000:=by omega
  have hlb:bs.length=n:=h.len
  have HBL:=Lib.hid hlb
  have HPO:Hid ((infS bs most).e=0→inflP bs most=((infS bs most).out,((infS bs most).p+7) / 8,0)):=(show _→_ from fun h=>infP_ok h0 hm h)
  have HPB:Hid (¬ (infS bs most).e=0→¬ (inflP bs most).2.2=0):=(show _→_ from fun h h2=>h (infP_zero h2))
  have HC:Hid (infF bs most (8 * n+1) (8 * n+1) ⟨0,[],0⟩=infS bs most):=(show _=_ by rw [← hlb];rfl)
  generalize infS bs most=S at *
  have HCP:=Lib.hid (copyB_any B n c A bs w h (by omega))
  have t1:decide (most < 0)=false:=decide_eq_false (by omega)
  have t2:decide (most > 40000)=false:=decide_eq_false (by omega)
  have t3:¬ most < 0:=by omega
  have t4:¬ 40000 < most:=by omega
  clear h hmost hlb
  go_enter Tryz.func77,Tryz.ntmps77
  go_upto_region 4 with (go_at_call 21;(with_reducible refine HCP.out.mono ?_);go_must (rintro e w1 ⟨v1,rfl,ho1,hb1⟩;have hz1:=hb1.size;obtain ⟨A1,c1,rfl,hr1,-,-⟩:=ho1.form;have HR1:=Lib.hid hr1;have HB1:=Lib.hid hb1;clear ho1 hr1 hb1))
  have HFI:=(show FI ((w1.alloc (.cells #[.slice A1 bs.length c1,.int .i64 0] 162)).alloc (.cells #[.pointer (some ⟨w1.heap.size,0,none⟩),.slice none 0 0,.int .i64 most] 164)) (w1.heap.size+1) w1.heap.size A1 bs.length c1 0 bs (.slice none 0 0) [] most from
   ⟨by have h9:=Arr.new (w1.alloc (.cells #[.slice A1 bs.length c1,.int .i64 0] 162)) [.pointer (some ⟨w1.heap.size,0,none⟩),.slice none 0 0,.int .i64 most] 164;rw [World.size_alloc] at h9;exact h9,(Arr.new w1 [.slice A1 bs.length c1,.int .i64 ((0:Nat):Int)] 162).alloc _,Rd.alloc (Rd.alloc HR1.out (Nat.le_refl _) _) (by rw [World.size_alloc];omega) _,ownB.nil_ _ _,Nat.lt_succ_self _,Nat.zero_le _,by rw [HBL.out];exact hn⟩)
  have HB2:=Lib.hid ((HB1.out.alloc hz1 (.cells #[.slice A1 bs.length c1,.int .i64 0] 162)).alloc (by rw [World.size_alloc];omega) (.cells #[.pointer (some ⟨w1.heap.size,0,none⟩),.slice none 0 0,.int .i64 most] 164))
  replace HFI:=Lib.hid HFI
  rw [HBL.out] at HFI HB2
  simp only [HBL.out]
  have hwg:w.heap.size≤w1.heap.size:=hz1
  generalize hgg:w1.heap.size=g at *
  obtain ⟨r,hr⟩:∃ r,g+1=r:=⟨_,rfl⟩
  simp only [hr] at HFI ⊢
  have hgr:g < r:=by omega
  have HRG:=Lib.hid hr
  clear hr hgg
  generalize (w1.alloc (.cells #[.slice A1 n c1,.int .i64 0] 162)).alloc (.cells #[.pointer (some ⟨g,0,none⟩),.slice none 0 0,.int .i64 most] 164)=w2 at *
  go_loopw [8] (fun v8 wr=>∃ (P' f:Nat) (vq:Value) (out':List UInt8),Hid (FI wr r g A1 n c1 P' bs vq out' most)∧Hid (Below w.heap.size w wr)∧Hid (infF bs most (8 * n+1) f ⟨P',out',0⟩=S)∧Hid ((out'.length:Int)≤most)∧Hid (8 * n+1≤P'+f)) (fun _ wr=>8 * n+1 - posOf wr g)
  case atStart=>exact ⟨0,8 * n+1,_,[],HFI,HB2,HC,(show (((0:Nat):Int))≤most from h0),(show _≤_ from Nat.le_add_left _ _)⟩
  case round =>
   clear HFI HB2 HC
   obtain ⟨P',f,vq,out',HF,HB,HC,HO,HFU⟩:=hrel
   have hfit:P'≤8 * n:=HF.out.fit
   have hpos:=posOf_eq HF.out.rd
   obtain ⟨f,rfl⟩:∃ f',f=f'+1:=⟨f - 1,by have:=HFU.out;omega⟩
   have HFR:Hid (∀ w5 v5,RFr wr w5 r g vq v5→Below w.heap.size w w5):=(show ∀ w5 v5,_ from fun w5 v5 hr=>HB.out.trans (hr.below HB.out.size (by omega) hwg (fun k hk=>by have:=(World.ownsRow.lt HF.out.own k hk).1;omega)))
   by_cases hf3:P'+3≤8 * n
   ·have HG1:=Lib.hid (iget_ok r g n c1 P' 1 A1 bs vq out' most 1 wr rfl HF.out (by omega) (by omega))
    have HG2:=Lib.hid (fun w1 (h:FI w1 r g A1 n c1 (P'+1) bs vq out' most)=>iget_ok r g n c1 (P'+1) 2 A1 bs vq out' most 2 w1 rfl h (by omega) (by omega))
    have hv0:=getV_lt bs P' 1
    have hv1:=getV_lt bs (P'+1) 2
    have HKP:=Lib.hid (blkP_go (bs:=bs) (most:=most) (F:=8 * n+1) (P:=P') (out:=out') (by rw [HBL.out];exact hf3))
    have hb0:=(blk_fit (bs:=bs) (P:=P') (out:=out') (by rw [HBL.out];exact hf3)).1
    have HNB:Hid (¬ (blkP bs most (8 * n+1) ⟨P',out',0⟩).e=0→¬ S.e=0):=(show _→_ from fun h=>by rw [← HC.out];exact infF_bad rfl h)
    have HNL:Hid (getV bs P' 1=1→blkP bs most (8 * n+1) ⟨P',out',0⟩=S):=(show _→_ from fun h=>by rw [← HC.out,infF_last rfl (by rw [hb0];omega)])
    have HNM:Hid (getV bs P' 1=0→infF bs most (8 * n+1) f (blkP bs most (8 * n+1) ⟨P',out',0⟩)=S):=(show _→_ from fun h=>by rw [← HC.out,infF_more rfl (by rw [hb0];exact h)])
    have HBP:Hid ((blkP bs most (8 * n+1) ⟨P',out',0⟩).e=0→P'+3≤(blkP bs most (8 * n+1) ⟨P',out',0⟩).p):=(show _→_ from fun h=>blkP_p h)
    have HBE:Hid ((((blkP bs most (8 * n+1) ⟨P',out',0⟩).out.length:Nat):Int)≤most):=(show _≤_ from kindP_le (by rw [blk2_out];exact HO.out))
    generalize blkP bs most (8 * n+1) ⟨P',out',0⟩=R at *
    generalize getV bs P' 1=last at *
    generalize getV bs (P'+1) 2=kd at *
    have hl2:last < 2:=hv0
    have hk4:kd < 4:=hv1
    clear hb0 hv0 hv1 HC
    rcases (show kd=0∨kd=1∨kd=2∨kd=3 by omega) with rfl | rfl | rfl | rfl
    ·have HR:Hid (R=plainP bs most ⟨P'+3,out',0⟩):=(show _=_ from HKP.out)
     have HK:=Lib.hid (fun w4 (h:FI w4 r g A1 n c1 (P'+3) bs vq out' most)=>istored_any r g n c1 (P'+3) A1 bs vq out' most w4 h HO.out (by omega))
     rw [← HR.out] at HK
     clear HKP HR
     go_upto_region 17 with (first
      | (go_at_call 130;(with_reducible refine HG1.out.mono ?_);go_must (rintro e w3 ⟨rfl,hf3',hr3⟩;have HR3:=Lib.hid hr3;have HG23:=Lib.hid (HG2.out w3 hf3');clear hf3' hr3 HG1))
      | (go_at_call 130;(with_reducible refine HG23.out.mono ?_);go_must (rintro e w4 ⟨rfl,hf4,hr4⟩;have HR4:=Lib.hid (HR3.out.trans hr4);have HF4:=Lib.hid hf4;have HK4:=Lib.hid (HK.out w4 hf4);clear hf4 hr4 HG23))
      | (go_at_call 131;(with_reducible refine HK4.out.mono ?_);go_must (rintro e w5 hp;unfold IqPost at hp;obtain ⟨ok,P5,v5,out5,rfl,hf5,hr5,hor⟩:=hp;have HF5:=Lib.hid hf5;have HB5:=Lib.hid (HFR.out w5 v5 (HR4.out.trans hr5));have HOR:=Lib.hid hor;clear hf5 hr5 hor)))
     rcases HOR.out with ⟨rfl,hRE⟩ | ⟨rfl,hRE⟩
     ·have HRE:=Lib.hid hRE
      have hp5:P'+3≤P5:=by have:=HBP.out (by rw [hRE]);rw [hRE] at this;exact this
      have HO5:Hid ((out5.length:Int)≤most):=(show _≤_ by have:=HBE.out;rw [hRE] at this;exact this)
      clear hRE HOR
      rcases (show last=0∨last=1 by omega) with rfl | rfl
      ·have HC5:=Lib.hid (HNM.out rfl)
       rw [HRE.out] at HC5
       have hpos5:=posOf_eq HF5.out.rd
       have HFU5:Hid (8 * n+1≤P5+f):=(show _≤_ by have:=HFU.out;omega)
       go_wp2_with fail
       go_roundw
       case rel=>exact ⟨P5,f,v5,out5,HF5,HB5,HC5,HO5,HFU5⟩
       case measure=>rw [hpos5,hpos];omega
      ·have HC5:=Lib.hid (HNL.out rfl)
       rw [HRE.out] at HC5
       have HP5:=Lib.hid (HPO.out (by rw [← HC5.out]))
       rw [← HC5.out] at HP5
       obtain ⟨Av,cv,rfl,-,-,-⟩:=HF5.out.own.form
       have c0:=HF5.out.arr.cell (k:=0) rfl
       have c1':=HF5.out.arr.cell (k:=1) rfl
       have cg:=HF5.out.rd.cell (k:=1) rfl
       have hPf:P5≤8 * n:=HF5.out.fit
       have e1:IntKind.i64.wrap ((P5:Int)+7)=(P5:Int)+7:=(by have:=wrap_i64_lt (P5+7) (by omega);simpa using this)
       have e2:((P5:Int)+7).tdiv 8=(((P5+7) / 8:Nat):Int):=by rw [show (P5:Int)+7=((P5+7:Nat):Int) by omega];rfl
       have e3:((P5:Int)+7) / 8=(((P5+7) / 8:Nat):Int):=by omega
       obtain ⟨Q,hQ⟩:∃ Q,(P5+7) / 8=Q:=⟨_,rfl⟩
       rw [hQ] at e2 e3
       have e4:IntKind.i64.wrap (Q:Int)=(Q:Int):=wrap_i64_lt Q (by omega)
       have HQ:=Lib.hid hQ
       clear hQ
       go_wp2_with fail
       go_quiet (fail)
       go_wp2_with fail
       go_ret3
       refine ⟨.slice Av out5.length cv,?_,?_,bdrewN HB5.out _⟩
       ·rw [HP5.out]
        show _=Ending.returned (.tuple #[_,.int .i64 (((P5+7) / 8:Nat):Int),.bool (decide ((0:Int)=0))])
        rw [HQ.out]
        rfl
       ·rw [HP5.out]
        exact (HF5.out.drewN _).own.mono (by omega)
     ·have HE:=Lib.hid hRE
      clear hRE HOR
      go_wp2_with fail
      go_ret3
      exact If5.bad (HPB.out (HNB.out HE.out)) rfl rfl rfl rfl (HB5.out)
    ·have HR:Hid (R=toksF bs most fixL (some fixD) (8 * n+1) ⟨P'+3,out',0⟩):=(show _=_ from HKP.out)
     have HK:=Lib.hid (fun w4 ga gb (h:FI w4 r g A1 n c1 (P'+3) bs vq out' most) (hx:RdI w4 w4.heap.size (some ⟨ga,0,none⟩) 288 fixL) (hy:RdI w4 w4.heap.size (some ⟨gb,0,none⟩) 32 fixD)=>icodes_any r g n c1 (P'+3) A1 bs vq out' most w4 w4.heap.size 288 32 288 32 (some ⟨ga,0,none⟩) (some ⟨gb,0,none⟩) fixL fixD (8 * n+1) h hx hy (Nat.le_refl _) (by omega) (by omega) fixL_nw.1 (by omega) HO.out (by omega))
     rw [if_pos fixL_nw.2,← HR.out] at HK
     clear HKP HR
     go_upto_region 17 with (first
      | (go_at_call 130;(with_reducible refine HG1.out.mono ?_);go_must (rintro e w3 ⟨rfl,hf3',hr3⟩;have HR3:=Lib.hid hr3;have HG23:=Lib.hid (HG2.out w3 hf3');clear hf3' hr3 HG1))
      | (go_at_call 130;(with_reducible refine HG23.out.mono ?_);go_must (rintro e w4 ⟨rfl,hf4,hr4⟩;have HR4:=Lib.hid (HR3.out.trans hr4);have HF4:=Lib.hid hf4; clear hf4 hr4 HG23))
      | (go_at_call 25;(with_reducible refine (fixed5L_any w4).mono ?_);go_must (rintro e w6 ⟨ga,gb,rfl,hxa,hxb,hb6⟩;have HR6:=Lib.hid (HR4.out.trans (RFr.ofB hb6 r g vq));have HK6:=Lib.hid (HK.out w6 ga gb (HF4.out.later hb6) hxa hxb);clear hxa hxb hb6))
      | (go_at_call 132;(with_reducible refine HK6.out.mono ?_);go_must (rintro e w5 hp;unfold IqPost at hp;obtain ⟨ok,P5,v5,out5,rfl,hf5,hr5,hor⟩:=hp;have HF5:=Lib.hid hf5;have HB5:=Lib.hid (HFR.out w5 v5 (HR6.out.trans hr5));have HOR:=Lib.hid hor;clear hf5 hr5 hor)))
     rcases HOR.out with ⟨rfl,hRE⟩ | ⟨rfl,hRE⟩
     ·have HRE:=Lib.hid hRE
      have hp5:P'+3≤P5:=by have:=HBP.out (by rw [hRE]);rw [hRE] at this;exact this
      have HO5:Hid ((out5.length:Int)≤most):=(show _≤_ by have:=HBE.out;rw [hRE] at this;exact this)
      clear hRE HOR
      rcases (show last=0∨last=1 by omega) with rfl | rfl
      ·have HC5:=Lib.hid (HNM.out rfl)
       rw [HRE.out] at HC5
       have hpos5:=posOf_eq HF5.out.rd
       have HFU5:Hid (8 * n+1≤P5+f):=(show _≤_ by have:=HFU.out;omega)
       go_wp2_with fail
       go_roundw
       case rel=>exact ⟨P5,f,v5,out5,HF5,HB5,HC5,HO5,HFU5⟩
       case measure=>rw [hpos5,hpos];omega
      ·have HC5:=Lib.hid (HNL.out rfl)
       rw [HRE.out] at HC5
       have HP5:=Lib.hid (HPO.out (by rw [← HC5.out]))
       rw [← HC5.out] at HP5
       obtain ⟨Av,cv,rfl,-,-,-⟩:=HF5.out.own.form
       have c0:=HF5.out.arr.cell (k:=0) rfl
       have c1':=HF5.out.arr.cell (k:=1) rfl
       have cg:=HF5.out.rd.cell (k:=1) rfl
       have hPf:P5≤8 * n:=HF5.out.fit
       have e1:IntKind.i64.wrap ((P5:Int)+7)=(P5:Int)+7:=(by have:=wrap_i64_lt (P5+7) (by omega);simpa using this)
       have e2:((P5:Int)+7).tdiv 8=(((P5+7) / 8:Nat):Int):=by rw [show (P5:Int)+7=((P5+7:Nat):Int) by omega];rfl
       have e3:((P5:Int)+7) / 8=(((P5+7) / 8:Nat):Int):=by omega
       obtain ⟨Q,hQ⟩:∃ Q,(P5+7) / 8=Q:=⟨_,rfl⟩
       rw [hQ] at e2 e3
       have e4:IntKind.i64.wrap (Q:Int)=(Q:Int):=wrap_i64_lt Q (by omega)
       have HQ:=Lib.hid hQ
       clear hQ
       go_wp2_with fail
       go_quiet (fail)
       go_wp2_with fail
       go_ret3
       refine ⟨.slice Av out5.length cv,?_,?_,bdrewN HB5.out _⟩
       ·rw [HP5.out]
        show _=Ending.returned (.tuple #[_,.int .i64 (((P5+7) / 8:Nat):Int),.bool (decide ((0:Int)=0))])
        rw [HQ.out]
        rfl
       ·rw [HP5.out]
        exact (HF5.out.drewN _).own.mono (by omega)
     ·have HE:=Lib.hid hRE
      clear hRE HOR
      go_wp2_with fail
      go_ret3
      exact If5.bad (HPB.out (HNB.out HE.out)) rfl rfl rfl rfl (HB5.out)
    ·have HR:Hid (R=rownP bs most (8 * n+1) ⟨P'+3,out',0⟩):=(show _=_ from HKP.out)
     have HRT:Hid (R=ownT bs most (ownLs bs ⟨P'+3,out',0⟩).1 (hdN bs ⟨P'+3,out',0⟩) (8 * n+1) (ownLs bs ⟨P'+3,out',0⟩).2):=(show _=_ from HR.out)
     have HLO:Hid (badL (ownLs bs ⟨P'+3,out',0⟩).1=false):=(show _=_ from ownLs_good _ _)
     have HL:=Lib.hid (fun w4 (h:FI w4 r g A1 n c1 (P'+3) bs vq out' most)=>ilists_any r g n c1 (P'+3) A1 bs vq out' most w4 h)
     generalize hdN bs ⟨P'+3,out',0⟩=N at *
     generalize hdM bs ⟨P'+3,out',0⟩=M at *
     generalize ownLs bs ⟨P'+3,out',0⟩=LS at *
     clear HKP HR
     go_upto_region 8 with (first
      | (go_at_call 130;(with_reducible refine HG1.out.mono ?_);go_must (rintro e w3 ⟨rfl,hf3',hr3⟩;have HR3:=Lib.hid hr3;have HG23:=Lib.hid (HG2.out w3 hf3');clear hf3' hr3 HG1))
      | (go_at_call 130;(with_reducible refine HG23.out.mono ?_);go_must (rintro e w4 ⟨rfl,hf4,hr4⟩;have HR4:=Lib.hid (HR3.out.trans hr4);have HF4:=Lib.hid hf4;have HL4:=Lib.hid (HL.out w4 hf4);clear hf4 hr4 HG23))
      | (go_at_call 133;(with_reducible refine HL4.out.mono ?_);go_must (rintro e w6 hp;unfold LsPost at hp;obtain ⟨vx,vy,ok6,P6,rfl,hf6,hr6,hor6⟩:=hp;have HF6:=Lib.hid hf6;have HR6:=Lib.hid (HR4.out.trans hr6);have HOR6:=Lib.hid hor6;clear hf6 hr6 hor6)))
     clear HF4 HR4 HR3 HL HL4 HG2
     rcases HOR6.out with ⟨rfl,rfl,rfl,hRE⟩ | ⟨rfl,hR2,hRl,hN1,hN2,hM1,hM2,gq,cx,cy,rfl,rfl,hrx,hry⟩
     ·have HE:Hid (¬ R.e=0):=(show ¬ _ by
       rw [HRT.out]
       unfold ownT
       rw [if_neg hRE]
       exact hRE)
      have HB6:=Lib.hid (HFR.out w6 _ HR6.out)
      have HKR6:=Lib.hid (kraft5_any w6.heap.size 0 0 none [] w6 RdI.nil_ (by omega))
      generalize krV ([]:List Int)=KV at *
      generalize krE ([]:List Int)=KE at *
      clear hRE HOR6
      go_upto_region 17 with (first
       | (go_at_call 134;(with_reducible refine HKR6.out.mono ?_);go_must (rintro e w9 ⟨rfl,rfl⟩)))
      go_wp2_with fail
      go_ret3
      exact If5.bad (HPB.out (HNB.out HE.out)) rfl rfl rfl rfl (HB6.out)
     ·obtain ⟨all,s6⟩:=LS
      replace hR2:s6=⟨P6,out',0⟩:=hR2
      subst hR2
      replace hRl:all.length=N+M:=hRl
      replace hrx:RdI w6 w6.heap.size (some ⟨gq,0,none⟩) N (all.take N):=hrx
      replace hry:RdI w6 w6.heap.size (some ⟨gq,N,none⟩) M (all.drop N):=hry
      replace HRT:Hid (R=ownT bs most all N (8 * n+1) ⟨P6,out',0⟩):=HRT
      have HB6:=Lib.hid (HFR.out w6 _ HR6.out)
      have HGO:Hid (ownGood all N→R=toksF bs most (all.take N) (if nwE (all.drop N)=0 then some (all.drop N) else none) (8 * n+1) ⟨P6,out',0⟩):=(show _→_ from fun h=>by rw [HRT.out];exact ownT_go rfl HLO.out (by omega) (by omega) h)
      have HNG:Hid (¬ ownGood all N→¬ R.e=0):=(show _→_ from fun h=>by rw [HRT.out];exact ownT_bad rfl HLO.out (by omega) (by omega) h)
      have HOG:Hid (ownGood all N ↔ (0 < all.getD 256 0∧krV (all.take N)=32768∧mayL (all.drop N))):=(show _ ↔ _ from Iff.rfl)
      have h256:256 < all.length:=by omega
      have hgd:all.getD 256 0=all[256]:=by rw [List.getD_eq_getElem?_getD,List.getElem?_eq_getElem h256];rfl
      have c256:w6.cell? ⟨gq,256,none⟩=some (.int .i64 all[256]):=by
       obtain ⟨b,o,x,he,hb,HX,e1⟩:=RdI.one hrx (k:=256) (by omega)
       injection he with he
       injection he with hb2 ho2
       subst hb2 ho2
       have hx:(all.take N)[256]?=some x:=HX.out
       rw [List.getElem?_take] at hx
       rw [if_pos (by omega),List.getElem?_eq_getElem h256] at hx
       injection hx with hx
       rw [hx]
       simpa using e1
      rw [hgd] at HOG
      generalize all[256]=x256 at *
      have HKR6:=Lib.hid (kraft5_any w6.heap.size N cx (some ⟨gq,0,none⟩) (all.take N) w6 hrx (by omega))
      have HMD6:=Lib.hid (mayDist_any w6.heap.size M cy (some ⟨gq,N,none⟩) (all.drop N) w6 hry (by omega))
      have HKF:=Lib.hid (fun h=>krV_full (ls:=all.take N) h)
      have HKC:=Lib.hid (fun (hnw:nwE (all.take N)=0)=>icodes_any r g n c1 P6 A1 bs vq out' most w6 w6.heap.size N M cx cy (some ⟨gq,0,none⟩) (some ⟨gq,N,none⟩) (all.take N) (all.drop N) (8 * n+1) HF6.out hrx hry (Nat.le_refl _) (by omega) (by omega) hnw (by omega) HO.out (by omega))
      generalize krE (all.take N)=KE at *
      generalize krV (all.take N)=KV at *
      have hN256:(256:Int) < (N:Int):=by omega
      have hN256n:256 < N:=by omega
      clear hrx hry hRl hgd h256 HOR6 HRT HLO
      by_cases hx0:0 < x256
      ·by_cases hk:KV=32768
       ·have dK:(KV == 32768)=true:=by rw [hk];rfl
        obtain ⟨hnw,-,-,-⟩:=HKF.out hk
        have HKC6:=Lib.hid (HKC.out hnw)
        by_cases hml:mayL (all.drop N)
        ·have HR:=Lib.hid (HGO.out (HOG.out.2 ⟨hx0,hk,hml⟩))
         rw [← HR.out] at HKC6
         have HML:=Lib.hid hml
         clear HKF HKC HGO HNG HOG hml hnw HR
         subst hk
         go_upto_region 17 with (first
          | (go_at_call 134;(with_reducible refine HKR6.out.mono ?_);go_must (rintro e w9 ⟨rfl,rfl⟩))
          | (go_at_call 135;(with_reducible refine HMD6.out.mono ?_);go_must (rintro e w9 hp;unfold MdPost at hp;obtain ⟨ok9,rfl,hok9,rfl⟩:=hp;obtain rfl:ok9=true:=hok9.2 HML.out;clear hok9))
          | (go_at_call 132;(with_reducible refine HKC6.out.mono ?_);go_must (rintro e w5 hp;unfold IqPost at hp;obtain ⟨ok,P5,v5,out5,rfl,hf5,hr5,hor⟩:=hp;have HF5:=Lib.hid hf5;have HB5:=Lib.hid (HFR.out w5 v5 (HR6.out.trans hr5));have HOR:=Lib.hid hor;clear hf5 hr5 hor)))
         rcases HOR.out with ⟨rfl,hRE⟩ | ⟨rfl,hRE⟩
         ·have HRE:=Lib.hid hRE
          have hp5:P'+3≤P5:=by have:=HBP.out (by rw [hRE]);rw [hRE] at this;exact this
          have HO5:Hid ((out5.length:Int)≤most):=(show _≤_ by have:=HBE.out;rw [hRE] at this;exact this)
          clear hRE HOR
          rcases (show last=0∨last=1 by omega) with rfl | rfl
          ·have HC5:=Lib.hid (HNM.out rfl)
           rw [HRE.out] at HC5
           have hpos5:=posOf_eq HF5.out.rd
           have HFU5:Hid (8 * n+1≤P5+f):=(show _≤_ by have:=HFU.out;omega)
           go_wp2_with fail
           go_roundw
           case rel=>exact ⟨P5,f,v5,out5,HF5,HB5,HC5,HO5,HFU5⟩
           case measure=>rw [hpos5,hpos];omega
          ·have HC5:=Lib.hid (HNL.out rfl)
           rw [HRE.out] at HC5
           have HP5:=Lib.hid (HPO.out (by rw [← HC5.out]))
           rw [← HC5.out] at HP5
           obtain ⟨Av,cv,rfl,-,-,-⟩:=HF5.out.own.form
           have c0:=HF5.out.arr.cell (k:=0) rfl
           have c1':=HF5.out.arr.cell (k:=1) rfl
           have cg:=HF5.out.rd.cell (k:=1) rfl
           have hPf:P5≤8 * n:=HF5.out.fit
           have e1:IntKind.i64.wrap ((P5:Int)+7)=(P5:Int)+7:=(by have:=wrap_i64_lt (P5+7) (by omega);simpa using this)
           have e2:((P5:Int)+7).tdiv 8=(((P5+7) / 8:Nat):Int):=by rw [show (P5:Int)+7=((P5+7:Nat):Int) by omega];rfl
           have e3:((P5:Int)+7) / 8=(((P5+7) / 8:Nat):Int):=by omega
           obtain ⟨Q,hQ⟩:∃ Q,(P5+7) / 8=Q:=⟨_,rfl⟩
           rw [hQ] at e2 e3
           have e4:IntKind.i64.wrap (Q:Int)=(Q:Int):=wrap_i64_lt Q (by omega)
           have HQ:=Lib.hid hQ
           clear hQ
           go_wp2_with fail
           go_quiet (fail)
           go_wp2_with fail
           go_ret3
           refine ⟨.slice Av out5.length cv,?_,?_,bdrewN HB5.out _⟩
           ·rw [HP5.out]
            show _=Ending.returned (.tuple #[_,.int .i64 (((P5+7) / 8:Nat):Int),.bool (decide ((0:Int)=0))])
            rw [HQ.out]
            rfl
           ·rw [HP5.out]
            exact (HF5.out.drewN _).own.mono (by omega)
         ·have HE:=Lib.hid hRE
          clear hRE HOR
          go_wp2_with fail
          go_ret3
          exact If5.bad (HPB.out (HNB.out HE.out)) rfl rfl rfl rfl (HB5.out)
        ·have HE:=Lib.hid (HNG.out (fun h=>hml (HOG.out.1 h).2.2))
         have HML:=Lib.hid hml
         clear HKF HKC HGO HNG HOG hml hnw HKC6
         subst hk
         go_upto_region 17 with (first
          | (go_at_call 134;(with_reducible refine HKR6.out.mono ?_);go_must (rintro e w9 ⟨rfl,rfl⟩))
          | (go_at_call 135;(with_reducible refine HMD6.out.mono ?_);go_must (rintro e w9 hp;unfold MdPost at hp;obtain ⟨ok9,rfl,hok9,rfl⟩:=hp;obtain rfl:ok9=false:=(by cases ok9 with | false=>rfl | true=>exact absurd (hok9.1 rfl) HML.out);clear hok9)))
         go_wp2_with fail
         go_ret3
         exact If5.bad (HPB.out (HNB.out HE.out)) rfl rfl rfl rfl (HB6.out)
       ·have dK:(KV == 32768)=false:=beq_eq_false_iff_ne.2 hk
        have HE:=Lib.hid (HNG.out (fun h=>hk (HOG.out.1 h).2.1))
        clear HKF HKC HGO HNG HOG
        go_upto_region 17 with (first
         | (go_at_call 134;(with_reducible refine HKR6.out.mono ?_);go_must (rintro e w9 ⟨rfl,rfl⟩)))
        go_wp2_with fail
        go_ret3
        exact If5.bad (HPB.out (HNB.out HE.out)) rfl rfl rfl rfl (HB6.out)
      ·have HE:=Lib.hid (HNG.out (fun h=>hx0 (HOG.out.1 h).1))
       clear HKF HKC HGO HNG HOG
       go_upto_region 17 with (first
        | (go_at_call 134;(with_reducible refine HKR6.out.mono ?_);go_must (rintro e w9 ⟨rfl,rfl⟩)))
       go_wp2_with fail
       go_ret3
       exact If5.bad (HPB.out (HNB.out HE.out)) rfl rfl rfl rfl (HB6.out)
    ·have HE:Hid (¬ R.e=0):=(show ¬ _ by
      rw [HKP.out]
      exact show ¬ (RS.fail ⟨P'+3,out',0⟩ 4).e=0 from fail_e (by decide))
     clear HKP
     go_wp2_with (first
      | (go_at_call 130;(with_reducible refine HG1.out.mono ?_);go_must (rintro e w3 ⟨rfl,hf3',hr3⟩;have HR3:=Lib.hid hr3;have HG23:=Lib.hid (HG2.out w3 hf3');clear hf3' hr3 HG1))
      | (go_at_call 130;(with_reducible refine HG23.out.mono ?_);go_must (rintro e w4 ⟨rfl,hf4,hr4⟩;have HR4:=Lib.hid (HR3.out.trans hr4);have HF4:=Lib.hid hf4; clear hf4 hr4 HG23)))
     go_ret3
     exact If5.bad (HPB.out (HNB.out HE.out)) rfl rfl rfl rfl (HFR.out _ _ HR4.out)
   ·have HE:Hid (¬ S.e=0):=(show ¬ _ by rw [← HC.out];exact infF_bad rfl (blk_short (by rw [HBL.out];exact hf3)))
    by_cases hf1:P'+1≤8 * n
    ·have HG1:=Lib.hid (iget_ok r g n c1 P' 1 A1 bs vq out' most 1 wr rfl HF.out (by omega) hf1)
     have HG2:=Lib.hid (fun w1 (h:FI w1 r g A1 n c1 (P'+1) bs vq out' most)=>iget_bad r g n c1 (P'+1) 2 A1 bs vq out' most 2 w1 rfl h (by omega) (by omega))
     generalize getV bs P' 1=last at *
     go_wp2_with (first
      | (go_at_call 130;(with_reducible refine HG1.out.mono ?_);go_must (rintro e w3 ⟨rfl,hf3',hr3⟩;have HR3:=Lib.hid hr3;have HG23:=Lib.hid (HG2.out w3 hf3');clear hf3' hr3 HG1))
      | (go_at_call 130;(with_reducible refine HG23.out.mono ?_);go_must (rintro e w4 ⟨rfl,hf4,hr4⟩;have HR4:=Lib.hid (HR3.out.trans hr4);have HF4:=Lib.hid hf4; clear hf4 hr4 HG23)))
     go_ret3
     exact If5.bad (HPB.out HE.out) rfl rfl rfl rfl (HFR.out _ _ HR4.out)
    ·have HG1:=Lib.hid (iget_bad r g n c1 P' 1 A1 bs vq out' most 1 wr rfl HF.out (by omega) hf1)
     have HG2:=Lib.hid (fun w1 (h:FI w1 r g A1 n c1 P' bs vq out' most)=>iget_bad r g n c1 P' 2 A1 bs vq out' most 2 w1 rfl h (by omega) (by omega))
     go_wp2_with (first
      | (go_at_call 130;(with_reducible refine HG1.out.mono ?_);go_must (rintro e w3 ⟨rfl,hf3',hr3⟩;have HR3:=Lib.hid hr3;have HG23:=Lib.hid (HG2.out w3 hf3');clear hf3' hr3 HG1))
      | (go_at_call 130;(with_reducible refine HG23.out.mono ?_);go_must (rintro e w4 ⟨rfl,hf4,hr4⟩;have HR4:=Lib.hid (HR3.out.trans hr4);have HF4:=Lib.hid hf4; clear hf4 hr4 HG23)))
     go_ret3
     exact If5.bad (HPB.out HE.out) rfl rfl rfl rfl (HFR.out _ _ HR4.out)
end Go.Proofs.YteoolehdomjkkaaGreat
