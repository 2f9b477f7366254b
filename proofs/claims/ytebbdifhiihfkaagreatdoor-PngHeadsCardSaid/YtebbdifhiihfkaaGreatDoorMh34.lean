/- XRd5 XRd7 XRdQ XRd8 -/
import Derived.Test.YtebbdifhiihfkaaGreatDoorMh33
import Derived.Test.YtebbdifhiihfkaaGreatDoorMh11
import Derived.Test.YtebbdifhiihfkaaGreatDoorMh16
namespace Go.Proofs.YtebbdifhiihfkaaGreatDoor
set_option linter.all false
open Go.RowKit
/-- A decoder, or none, as a pointer. -/
def DV (w:World) (r g:Nat) (vo:Value) (dv:Value) (dl:Option (List Int)):Prop:=(dv=.pointer none∧dl=none)∨∃ gd ds,dv=.pointer (some ⟨gd,0,none⟩)∧dl=some ds∧DK w r g vo gd ds∧OkL ds
theorem DV.fr {w w':World} {r g:Nat} {vo vo' dv:Value} {dl:Option (List Int)} (h:DV w r g vo dv dl) (hf:RFr w w' r g vo vo'):DV w' r g vo' dv dl:=by
 rcases h with h | ⟨gd,ds,h1,h2,h3,h4⟩
 ·exact .inl h
 ·exact .inr ⟨gd,ds,h1,h2,h3.fr hf,h4⟩
section
variable (r g n c : Nat) (A : Option Addr) (bs : List UInt8) (most : Int) (vo : Value) (s : RS) (w : World)
set_option maxRecDepth 100000 in
set_option maxHeartbeats 3200000 in
theorem rcopy_any (q:Nat) (dv:Value) (dl:Option (List Int)) (h:FS w r g A n c bs most vo s) (hd:DV w r g vo dv dl) (hm:most≤1000000) (hq:257≤q) (hq2:q≤300) (ho:(s.out.length:Int)≤most) :
  Calls Tryz.prog 159 #[.pointer (some ⟨r,0,none⟩),.int .i64 (q:Int),dv] w fun e w'=>e=.returned (.tuple #[])∧∃ vo',FS w' r g A n c bs most vo' (copyP bs most s q dl)∧RFr w w' r g vo vo':=by
 have H:=Lib.hid h
 by_cases h286:286≤q
 ·have hqi:(286:Int)≤(q:Int):=by omega
  have HFL:=Lib.hid (rfail_any r g n c A bs most vo s w 4 h)
  have HR:Hid (copyP bs most s q dl=s.fail 4):=(show _=_ from if_pos h286)
  rw [HR.out]
  clear h hd HR
  go_enter Tryz.func159,Tryz.ntmps159
  go_wp2_with (go_at_call 105;(with_reducible refine HFL.out.mono ?_);go_must (rintro e w4 ⟨rfl,hf4,hr4⟩;have HF4:=Lib.hid hf4;have HR4:=Lib.hid hr4;clear hf4 hr4))
  (try simp only [Exit.inBlock,Exit.then])
  first | (refine bodyPost_ret (results_none rfl _ _ _) rfl ?_) | (refine bodyPost_end (results_none rfl _ _ _) rfl ?_)
  exact ⟨rfl,vo,HF4.out,HR4.out⟩
 ·have hqi:¬ (286:Int)≤(q:Int):=by omega
  obtain ⟨k,hk⟩:∃ k,q - 257=k:=⟨_,rfl⟩
  have hk28:k≤28:=by omega
  obtain ⟨q1,hq1⟩:∃ q1,q - 256=q1:=⟨_,rfl⟩
  have hqa:(q:Int) - 256=(q1:Int):=by omega
  have hqb:(q1:Int) - 1=(k:Int):=by omega
  have HLO:=Lib.hid (fun w=>lengthOf_any k hk28 w)
  have hlb:=lenOf_le hk28
  have HR:Hid (copyP bs most s q dl=if (getP bs s (lenOf k).2).2.e=0 then cpB bs most (getP bs s (lenOf k).2).2 ((lenOf k).1+(getP bs s (lenOf k).2).1) dl else (getP bs s (lenOf k).2).2):=(show _=_ by rw [← hk];exact if_neg h286)
  have HG1:=Lib.hid (rget_any r g n c A bs most vo s w (lenOf k).2 ((lenOf k).2:Int) rfl h (by omega))
  have hv1:=getP_lt bs s (m:=(lenOf k).2) (by omega)
  have hv2:(getP bs s (lenOf k).2).1 < 32:=Nat.lt_of_lt_of_le hv1 (Nat.pow_le_pow_right (n:=2) (by decide) hlb.2)
  have hout1:=getP_out bs s (lenOf k).2
  clear h hv1 hk hq1
  generalize (getP bs s (lenOf k).2).1=v1 at *
  generalize (getP bs s (lenOf k).2).2=s1 at *
  generalize (lenOf k).1=a1 at *
  generalize (lenOf k).2=m1 at *
  generalize copyP bs most s q dl=R at *
  have hlen:(a1:Int)+(v1:Int)=((a1+v1:Nat):Int):=by omega
  obtain ⟨N,hN⟩:∃ N,a1+v1=N:=⟨_,rfl⟩
  rw [hN] at hlen HR
  have hNb:N≤300:=by omega
  by_cases he1:s1.e=0
  ·rw [if_pos he1] at HR
   have d1:(s1.e == 0)=true:=by rw [he1];rfl
   have d1b:(s1.e != 0)=false:=by rw [he1];rfl
   rcases hd with ⟨rfl,rfl⟩ | ⟨gd,ds,rfl,rfl,hdk,hok⟩
   ·have HFL:=Lib.hid (fun w' (h:FS w' r g A n c bs most vo s1)=>rfail_any r g n c A bs most vo s1 w' 1 h)
    have HR2:Hid (R=s1.fail 1):=(show _=_ from HR.out)
    rw [HR2.out]
    clear HR HR2
    go_enter Tryz.func159,Tryz.ntmps159
    go_wp2_with (first
     | (go_at_call 170;(with_reducible refine (HLO.out _).mono ?_);go_must (rintro e w5 ⟨rfl,rfl⟩))
     | (go_at_call 101;(with_reducible refine HG1.out.mono ?_);go_must (rintro e w5 ⟨rfl,hf5,hr5⟩;have e53:=(FR.arr hf5).cell (k:=3) rfl;have HFL5:=Lib.hid (HFL.out w5 hf5);have HR5:=Lib.hid hr5;clear hf5 hr5))
     | (go_at_call 105;(with_reducible refine HFL5.out.mono ?_);go_must (rintro e w6 ⟨rfl,hf6,hr6⟩;have HF6:=Lib.hid hf6;have HR6:=Lib.hid (HR5.out.trans hr6);clear hf6 hr6)))
    (try simp only [Exit.inBlock,Exit.then])
    first | (refine bodyPost_ret (results_none rfl _ _ _) rfl ?_) | (refine bodyPost_end (results_none rfl _ _ _) rfl ?_)
    exact ⟨rfl,vo,HF6.out,HR6.out⟩
   ·have HOK:=Lib.hid hok
    have HDK:=Lib.hid hdk
    have HNX:=Lib.hid (fun w' (h:FS w' r g A n c bs most vo s1) (hd:DK w' r g vo gd ds)=>rnext_any r g n c A bs most vo s1 w' gd ds h hd HOK.out.1 HOK.out.2.1 HOK.out.2.2)
    have HR2:Hid (R=if (nextP bs ds s1).2.e=0∧30≤(nextP bs ds s1).1 then (nextP bs ds s1).2.fail 4 else copiesP most (getP bs (nextP bs ds s1).2 (distOf (nextP bs ds s1).1.toNat).2).2 N ((distOf (nextP bs ds s1).1.toNat).1+(getP bs (nextP bs ds s1).2 (distOf (nextP bs ds s1).1.toNat).2).1)):=(show _=_ from HR.out)
    obtain ⟨p,hp1,hp2,hp3⟩:=nextP_val bs ds s1
    have hp2b:p≤300:=by have:=HOK.out.2.2;omega
    have hout2:=nextP_out bs ds s1
    rw [hp1] at HNX HR2
    have hpt:((p:Int)).toNat=p:=rfl
    rw [hpt] at HR2
    generalize (nextP bs ds s1).2=s2 at *
    clear HR hok hdk hp1 hp2
    by_cases hbad:s2.e=0∧(30:Int)≤(p:Int)
    ·rw [if_pos hbad] at HR2
     have d2:(s2.e == 0)=true:=by rw [hbad.1];rfl
     have d3:=hbad.2
     have HFL:=Lib.hid (fun w' (h:FS w' r g A n c bs most vo s2)=>rfail_any r g n c A bs most vo s2 w' 4 h)
     rw [HR2.out]
     clear HR2
     go_enter Tryz.func159,Tryz.ntmps159
     go_wp2_with (first
      | (go_at_call 170;(with_reducible refine (HLO.out _).mono ?_);go_must (rintro e w5 ⟨rfl,rfl⟩))
      | (go_at_call 101;(with_reducible refine HG1.out.mono ?_);go_must (rintro e w5 ⟨rfl,hf5,hr5⟩;have e53:=(FR.arr hf5).cell (k:=3) rfl;have HNX5:=Lib.hid (HNX.out w5 hf5 (HDK.out.fr hr5));have HR5:=Lib.hid hr5;clear hf5 hr5))
      | (go_at_call 158;(with_reducible refine HNX5.out.mono ?_);go_must (rintro e w6 ⟨rfl,hf6,hr6⟩;have e63:=(FR.arr hf6).cell (k:=3) rfl;have HFL6:=Lib.hid (HFL.out w6 hf6);have HR6:=Lib.hid (HR5.out.trans hr6);clear hf6 hr6))
      | (go_at_call 105;(with_reducible refine HFL6.out.mono ?_);go_must (rintro e w7 ⟨rfl,hf7,hr7⟩;have HF7:=Lib.hid hf7;have HR7:=Lib.hid (HR6.out.trans hr7);clear hf7 hr7)))
     (try simp only [Exit.inBlock,Exit.then])
     first | (refine bodyPost_ret (results_none rfl _ _ _) rfl ?_) | (refine bodyPost_end (results_none rfl _ _ _) rfl ?_)
     exact ⟨rfl,vo,HF7.out,HR7.out⟩
    ·rw [if_neg hbad] at HR2
     have hp29:p≤29:=by
      by_cases h0:s2.e=0
      ·have:¬ (30:Int)≤(p:Int):=fun h=>hbad ⟨h0,h⟩
       omega
      ·have:=hp3 h0
       omega
     have hpi:¬ (30:Int)≤(p:Int):=by omega
     clear hp3
     have hdb:=distOf_le hp29
     have hd1:1≤(distOf p).1:=by
      rcases le29 hp29 with e | e | e | e | e | e | e | e | e | e | e | e | e | e | e | e | e | e | e | e | e | e | e | e | e | e | e | e | e | e <;> (rw [e];decide)
     have HDO:=Lib.hid (fun w=>distanceOf_any p hp29 w)
     have HG2:=Lib.hid (fun w' (h:FS w' r g A n c bs most vo s2)=>rget_any r g n c A bs most vo s2 w' (distOf p).2 ((distOf p).2:Int) rfl h (by omega))
     have hv3:=getP_lt bs s2 (m:=(distOf p).2) (by omega)
     have hv4:(getP bs s2 (distOf p).2).1 < 8192:=Nat.lt_of_lt_of_le hv3 (Nat.pow_le_pow_right (n:=2) (by decide) hdb.2)
     have hout3:=getP_out bs s2 (distOf p).2
     clear hv3
     generalize (getP bs s2 (distOf p).2).1=v2 at *
     generalize (getP bs s2 (distOf p).2).2=s3 at *
     generalize (distOf p).1=a2 at *
     generalize (distOf p).2=m2 at *
     obtain ⟨D,hD⟩:∃ D,a2+v2=D:=⟨_,rfl⟩
     have hDi:(a2:Int)+(v2:Int)=(D:Int):=by omega
     rw [hD] at HR2
     have ho3:s3.out.length≤2000000:=by rw [hout3,hout2,hout1];omega
     have HCP:=Lib.hid (fun w' (h:FS w' r g A n c bs most vo s3)=>rcopies_any r g n c A bs most vo s3 w' N D h hm (by omega) (by omega) (by omega) ho3)
     have HDD:=Lib.hid hD
     rw [HR2.out]
     clear HR2 hD ho3 hout1 hout2 hout3
     by_cases he2:s2.e=0
     ·have d2:(s2.e == 0)=true:=by rw [he2];rfl
      go_enter Tryz.func159,Tryz.ntmps159
      go_wp2_with (first
       | (go_at_call 170;(with_reducible refine (HLO.out _).mono ?_);go_must (rintro e w5 ⟨rfl,rfl⟩))
       | (go_at_call 171;(with_reducible refine (HDO.out _).mono ?_);go_must (rintro e w5 ⟨rfl,rfl⟩))
       | (go_at_call 101;(with_reducible refine HG1.out.mono ?_);go_must (rintro e w5 ⟨rfl,hf5,hr5⟩;have e53:=(FR.arr hf5).cell (k:=3) rfl;have HNX5:=Lib.hid (HNX.out w5 hf5 (HDK.out.fr hr5));have HR5:=Lib.hid hr5;clear hf5 hr5))
       | (go_at_call 158;(with_reducible refine HNX5.out.mono ?_);go_must (rintro e w6 ⟨rfl,hf6,hr6⟩;have e63:=(FR.arr hf6).cell (k:=3) rfl;have HG6:=Lib.hid (HG2.out w6 hf6);have HR6:=Lib.hid (HR5.out.trans hr6);clear hf6 hr6))
       | (go_at_call 101;(with_reducible refine HG6.out.mono ?_);go_must (rintro e w7 ⟨rfl,hf7,hr7⟩;have HCP7:=Lib.hid (HCP.out w7 hf7);have HR7:=Lib.hid (HR6.out.trans hr7);clear hf7 hr7))
       | (go_at_call 180;(with_reducible refine HCP7.out.mono ?_);go_must (rintro e w8 ⟨rfl,v8,hf8,hr8⟩;have HF8:=Lib.hid hf8;have HR8:=Lib.hid (HR7.out.trans hr8);clear hf8 hr8)))
      (try simp only [Exit.inBlock,Exit.then])
      first | (refine bodyPost_ret (results_none rfl _ _ _) rfl ?_) | (refine bodyPost_end (results_none rfl _ _ _) rfl ?_)
      exact ⟨rfl,v8,HF8.out,HR8.out⟩
     ·have d2:(s2.e == 0)=false:=beq_eq_false_iff_ne.2 he2
      go_enter Tryz.func159,Tryz.ntmps159
      go_wp2_with (first
       | (go_at_call 170;(with_reducible refine (HLO.out _).mono ?_);go_must (rintro e w5 ⟨rfl,rfl⟩))
       | (go_at_call 171;(with_reducible refine (HDO.out _).mono ?_);go_must (rintro e w5 ⟨rfl,rfl⟩))
       | (go_at_call 101;(with_reducible refine HG1.out.mono ?_);go_must (rintro e w5 ⟨rfl,hf5,hr5⟩;have e53:=(FR.arr hf5).cell (k:=3) rfl;have HNX5:=Lib.hid (HNX.out w5 hf5 (HDK.out.fr hr5));have HR5:=Lib.hid hr5;clear hf5 hr5))
       | (go_at_call 158;(with_reducible refine HNX5.out.mono ?_);go_must (rintro e w6 ⟨rfl,hf6,hr6⟩;have e63:=(FR.arr hf6).cell (k:=3) rfl;have HG6:=Lib.hid (HG2.out w6 hf6);have HR6:=Lib.hid (HR5.out.trans hr6);clear hf6 hr6))
       | (go_at_call 101;(with_reducible refine HG6.out.mono ?_);go_must (rintro e w7 ⟨rfl,hf7,hr7⟩;have HCP7:=Lib.hid (HCP.out w7 hf7);have HR7:=Lib.hid (HR6.out.trans hr7);clear hf7 hr7))
       | (go_at_call 180;(with_reducible refine HCP7.out.mono ?_);go_must (rintro e w8 ⟨rfl,v8,hf8,hr8⟩;have HF8:=Lib.hid hf8;have HR8:=Lib.hid (HR7.out.trans hr8);clear hf8 hr8)))
      (try simp only [Exit.inBlock,Exit.then])
      first | (refine bodyPost_ret (results_none rfl _ _ _) rfl ?_) | (refine bodyPost_end (results_none rfl _ _ _) rfl ?_)
      exact ⟨rfl,v8,HF8.out,HR8.out⟩
  ·rw [if_neg he1] at HR
   have d1:(s1.e == 0)=false:=beq_eq_false_iff_ne.2 he1
   have d1b:(s1.e != 0)=true:=by rw [bne_iff_ne];exact he1
   rw [HR.out]
   clear HR hd
   go_enter Tryz.func159,Tryz.ntmps159
   go_wp2_with (first
    | (go_at_call 170;(with_reducible refine (HLO.out _).mono ?_);go_must (rintro e w5 ⟨rfl,rfl⟩))
    | (go_at_call 101;(with_reducible refine HG1.out.mono ?_);go_must (rintro e w5 ⟨rfl,hf5,hr5⟩;have e53:=(FR.arr hf5).cell (k:=3) rfl;have HF5:=Lib.hid hf5;have HR5:=Lib.hid hr5;clear hf5 hr5)))
   (try simp only [Exit.inBlock,Exit.then])
   first | (refine bodyPost_ret (results_none rfl _ _ _) rfl ?_) | (refine bodyPost_end (results_none rfl _ _ _) rfl ?_)
   exact ⟨rfl,vo,HF5.out,HR5.out⟩
end
end Go.Proofs.YtebbdifhiihfkaaGreatDoor

/- flate: the reader of blocks, whatever comes: a decoder made. -/
namespace Go.Proofs.YtebbdifhiihfkaaGreatDoor
set_option linter.all false
open Go.RowKit
def cPos (ls:List Int):Nat:=ls.countP fun x=>decide (0 < x)
def cOne (ls:List Int):Nat:=ls.countP fun x=>decide (x=1)
theorem cPos_snoc (l:List Int) (x:Int):cPos (l ++ [x])=cPos l+if 0 < x then 1 else 0:=by unfold cPos;simp [List.countP_append,List.countP_cons]
theorem cOne_snoc (l:List Int) (x:Int):cOne (l ++ [x])=cOne l+if x=1 then 1 else 0:=by unfold cOne;simp [List.countP_append,List.countP_cons]
/-- Are lengths no decoder's, not all of a code being used? -/
def decBad (ls:List Int) (alone:Bool):Prop:=krV ls < 32768∧¬ (alone=true∧cPos ls=1∧cOne ls=1)
instance (ls:List Int) (alone:Bool):Decidable (decBad ls alone):=by unfold decBad;infer_instance
def decP (ls:List Int) (alone:Bool) (s:RS):RS:=if s.e=0 then (if nwE ls=0 then (if decBad ls alone then s.fail 4 else s) else s.fail 4) else s
def decD (ls:List Int) (s:RS):Option (List Int):=if s.e=0∧nwE ls=0 then some ls else none
theorem nwE_ok {ls:List Int} (h:nwE ls=0):OkL ls:=by
 unfold nwE at h
 split at h
 ·rename_i h2
  exact cdE_zero h2
 ·rename_i h2
  exact absurd h h2
theorem FR.later {w w':World} {r g:Nat} {A:Option Addr} {n c P:Nat} {bs:List UInt8} {vo:Value} {out:List UInt8} {most e:Int} (h:FR w r g A n c P bs vo out most e) (hb:Below w.heap.size w w'):FR w' r g A n c P bs vo out most e :=
 ⟨h.arr.later hb,h.rd.later hb,h.rb.blw (hb.mono (Nat.le_of_lt h.rd.lt)),ownB.later h.own hb,h.gr,h.fit,h.big⟩
section
variable (r g n c : Nat) (A : Option Addr) (bs : List UInt8) (most : Int) (vo : Value) (s : RS) (w : World)
set_option maxRecDepth 100000 in
set_option maxHeartbeats 3200000 in
theorem rdecoder_any (B nl cl:Nat) (Al:Option Addr) (ls:List Int) (alone:Bool) (h:FS w r g A n c bs most vo s) (hr:RdI w B Al nl ls) (hB:B≤w.heap.size) (hn:nl≤1000) :
  Calls Tryz.prog 130 #[.pointer (some ⟨r,0,none⟩),.slice Al nl cl,.bool alone] w fun e w'=>∃ dv,e=.returned dv∧FS w' r g A n c bs most vo (decP ls alone s)∧RFr w w' r g vo vo∧DV w' r g vo dv (decD ls s):=by
 have H:=Lib.hid h
 have c3:=(FR.arr h).cell (k:=3) rfl
 by_cases he:s.e=0
 ·have d1:(s.e == 0)=true:=by rw [he];rfl
  have d1b:(s.e != 0)=false:=by rw [he];rfl
  have hrw:=(FR.arr h).lt
  have hgw:=(FR.rd h).lt
  have HVO:Hid (∀ k,vo.ownBlock=some k→k < w.heap.size):=(show ∀ k,_ from fun k hk=>(World.ownsRow.lt (FR.own h) k hk).2)
  have HN:=Lib.hid (new_gen B nl cl Al ls w hr hB (by omega))
  have HL:=Lib.hid hr.len
  have HRD:=Lib.hid hr
  have HFA:Hid (∀ w1,Below w.heap.size w w1→FS w1 r g A n c bs most vo s):=(show ∀ w1,_ from fun w1 hb=>FR.later h hb)
  have HFL:=Lib.hid (fun w' (h:FS w' r g A n c bs most vo s)=>rfail_any r g n c A bs most vo s w' 4 h)
  unfold NewG at HN
  by_cases hE:nwE ls=0
  ·have hD:decD ls s=some ls:=if_pos ⟨he,hE⟩
   have hP:decP ls alone s=if decBad ls alone then s.fail 4 else s:=by unfold decP;rw [if_pos he,if_pos hE]
   have HOK:=Lib.hid (nwE_ok hE)
   rw [hD,hP]
   rw [hE] at HN
   have HKR:=Lib.hid (fun w1 (h:RdI w1 B Al nl ls)=>kraft_any B nl cl Al ls w1 h (by omega))
   have hDB:decBad ls alone=(krV ls < 32768∧¬ (alone=true∧cPos ls=1∧cOne ls=1)):=rfl
   generalize krE ls=KE at *
   clear h hr hD hP
   go_enter Tryz.func130,Tryz.ntmps130
   go_wp2_with (first
    | (go_at_call 160;(with_reducible refine HN.out.mono ?_);go_must (rintro e w1 ⟨v1,rfl,hv1,-,hb1⟩;obtain ⟨gd,rfl,hdg⟩:=hv1 rfl;have hs1:=hb1.size;have HF1:=Lib.hid (HFA.out w1 hb1);have HR1:=Lib.hid (RFr.ofB hb1 r g vo);have HK1:=Lib.hid (DK.new (vo:=vo) hdg hrw hgw HVO.out);have HRD1:=Lib.hid (RdI.blw HRD.out (hb1.mono hB));have HKR1:=Lib.hid (HKR.out w1 HRD1.out);clear hv1 hb1 hdg))
    | (go_at_call 161;(with_reducible refine HKR1.out.mono ?_);go_must (rintro e w2 ⟨rfl,rfl⟩)))
   go_loopw [36,11,12] (fun vk vp vq wr=>∃ k:Nat,k≤nl∧vk=.int .i64 k∧vp=.int .i64 (cPos (ls.take k):Int)∧vq=.int .i64 (cOne (ls.take k):Int)∧wr=w1) (fun vk _ _ _=>nl - (intOf vk).toNat)
   case atStart=>exact ⟨0,Nat.zero_le _,rfl,rfl,rfl,rfl⟩
   case round =>
    obtain ⟨k,hk,rfl,rfl,rfl,rfl⟩:=hrel
    by_cases hlt:k < nl
    ·have hlti:(k:Int) < (nl:Int):=by omega
     obtain ⟨b,o,x,rfl,hb,HX,e1⟩:=HRD1.out.one hlt
     have HP1:Hid (cPos (ls.take (k+1))=cPos (ls.take k)+if 0 < x then 1 else 0):=(show _=_ by rw [take_snoc1 HX.out,cPos_snoc])
     have HO1:Hid (cOne (ls.take (k+1))=cOne (ls.take k)+if x=1 then 1 else 0):=(show _=_ by rw [take_snoc1 HX.out,cOne_snoc])
     have hpl:cPos (ls.take k)≤1000:=Nat.le_trans List.countP_le_length (by rw [List.length_take];omega)
     have hol:cOne (ls.take k)≤1000:=Nat.le_trans List.countP_le_length (by rw [List.length_take];omega)
     generalize cPos (ls.take k)=cp at *
     generalize cOne (ls.take k)=co at *
     by_cases hx0:0 < x
     ·rw [if_pos hx0] at HP1
      by_cases hx1:x=1
      ·rw [if_pos hx1] at HO1
       have t1:(x == 1)=true:=by rw [hx1];rfl
       go_wp2_with fail
       go_roundw
       case rel=>exact ⟨k+1,by omega,by go_num,by (rw [HP1.out]) <;> (first | done | rfl | go_num),by (rw [HO1.out]) <;> (first | done | rfl | go_num),trivial⟩
       case measure=>simp [intOf];omega
      ·rw [if_neg hx1] at HO1
       have t1:(x == 1)=false:=beq_eq_false_iff_ne.2 hx1
       go_wp2_with fail
       go_roundw
       case rel=>exact ⟨k+1,by omega,by go_num,by (rw [HP1.out]) <;> (first | done | rfl | go_num),by (rw [HO1.out]) <;> (first | done | rfl | go_num),trivial⟩
       case measure=>simp [intOf];omega
     ·rw [if_neg hx0] at HP1
      have hx1:¬ x=1:=by omega
      rw [if_neg hx1] at HO1
      have t1:(x == 1)=false:=beq_eq_false_iff_ne.2 hx1
      go_wp2_with fail
      go_roundw
      case rel=>exact ⟨k+1,by omega,by go_num,by (rw [HP1.out]) <;> (first | done | rfl | go_num),by (rw [HO1.out]) <;> (first | done | rfl | go_num),trivial⟩
      case measure=>simp [intOf];omega
    ·obtain rfl:k=nl:=by omega
     have hlti:¬ (k:Int) < (k:Int):=by omega
     have hta:ls.take k=ls:=List.take_of_length_le (by rw [HL.out];exact Nat.le_refl _)
     rw [hta]
     have HFL1:=Lib.hid (HFL.out wr HF1.out)
     have hpl:cPos ls≤1000:=Nat.le_trans List.countP_le_length (by rw [HL.out];omega)
     have hol:cOne ls≤1000:=Nat.le_trans List.countP_le_length (by rw [HL.out];omega)
     clear hta HFA HFL
     by_cases hk1:krV ls < 32768
     ·cases alone with
      | false =>
       have hbad:decBad ls false:=⟨hk1,fun h=>by cases h.1⟩
       generalize krV ls=K at *
       generalize cPos ls=P at *
       generalize cOne ls=O at *
       go_wp2_with (go_at_call 105;(with_reducible refine HFL1.out.mono ?_);go_must (rintro e w4 ⟨rfl,hf4,hr4⟩;have HF4:=Lib.hid hf4;have HR4:=Lib.hid (HR1.out.trans hr4);have HK4:=Lib.hid (HK1.out.fr hr4);clear hf4 hr4))
       go_ret
       exact ⟨_,rfl,by first | exact HF4.out | (rw [if_pos hbad];exact HF4.out),HR4.out,.inr ⟨gd,ls,rfl,rfl,HK4.out,HOK.out⟩⟩
      | true =>
       by_cases hp1:cPos ls=1
       ·by_cases ho1:cOne ls=1
        ·have hbad:¬ decBad ls true:=fun h=>h.2 ⟨rfl,hp1,ho1⟩
         have t1:((cPos ls:Int) == 1)=true:=by rw [hp1];rfl
         have t2:((cOne ls:Int) == 1)=true:=by rw [ho1];rfl
         generalize krV ls=K at *
         generalize cPos ls=P at *
         generalize cOne ls=O at *
         go_wp2_with fail
         go_ret
         exact ⟨_,rfl,by first | exact HF1.out | (rw [if_neg hbad];exact HF1.out),HR1.out,.inr ⟨gd,ls,rfl,rfl,HK1.out,HOK.out⟩⟩
        ·have hbad:decBad ls true:=⟨hk1,fun h=>ho1 h.2.2⟩
         have t1:((cPos ls:Int) == 1)=true:=by rw [hp1];rfl
         have t2:((cOne ls:Int) == 1)=false:=beq_eq_false_iff_ne.2 (by omega)
         generalize krV ls=K at *
         generalize cPos ls=P at *
         generalize cOne ls=O at *
         go_wp2_with (go_at_call 105;(with_reducible refine HFL1.out.mono ?_);go_must (rintro e w4 ⟨rfl,hf4,hr4⟩;have HF4:=Lib.hid hf4;have HR4:=Lib.hid (HR1.out.trans hr4);have HK4:=Lib.hid (HK1.out.fr hr4);clear hf4 hr4))
         go_ret
         exact ⟨_,rfl,by first | exact HF4.out | (rw [if_pos hbad];exact HF4.out),HR4.out,.inr ⟨gd,ls,rfl,rfl,HK4.out,HOK.out⟩⟩
       ·have hbad:decBad ls true:=⟨hk1,fun h=>hp1 h.2.1⟩
        have t1:((cPos ls:Int) == 1)=false:=beq_eq_false_iff_ne.2 (by omega)
        generalize krV ls=K at *
        generalize cPos ls=P at *
        generalize cOne ls=O at *
        go_wp2_with (go_at_call 105;(with_reducible refine HFL1.out.mono ?_);go_must (rintro e w4 ⟨rfl,hf4,hr4⟩;have HF4:=Lib.hid hf4;have HR4:=Lib.hid (HR1.out.trans hr4);have HK4:=Lib.hid (HK1.out.fr hr4);clear hf4 hr4))
        go_ret
        exact ⟨_,rfl,by first | exact HF4.out | (rw [if_pos hbad];exact HF4.out),HR4.out,.inr ⟨gd,ls,rfl,rfl,HK4.out,HOK.out⟩⟩
     ·have hbad:¬ decBad ls alone:=fun h=>hk1 h.1
      generalize krV ls=K at *
      generalize cPos ls=P at *
      generalize cOne ls=O at *
      go_wp2_with fail
      go_ret
      exact ⟨_,rfl,by first | exact HF1.out | (rw [if_neg hbad];exact HF1.out),HR1.out,.inr ⟨gd,ls,rfl,rfl,HK1.out,HOK.out⟩⟩
  ·have hD:decD ls s=none:=if_neg (fun h=>hE h.2)
   have hP:decP ls alone s=s.fail 4:=by unfold decP;rw [if_pos he,if_neg hE]
   rw [hD,hP]
   have dE:(nwE ls != 0)=true:=by rw [bne_iff_ne];exact hE
   have dE2:(nwE ls == 0)=false:=beq_eq_false_iff_ne.2 hE
   generalize nwE ls=E at *
   clear h hr hD hP
   go_enter Tryz.func130,Tryz.ntmps130
   go_wp2_with (first
    | (go_at_call 160;(with_reducible refine HN.out.mono ?_);go_must (rintro e w1 ⟨v1,rfl,-,hv1,hb1⟩;have hv2:=hv1 hE;subst hv2;have HR1:=Lib.hid (RFr.ofB hb1 r g vo);have HFL1:=Lib.hid (HFL.out w1 (HFA.out w1 hb1));clear hv1 hb1))
    | (go_at_call 105;(with_reducible refine HFL1.out.mono ?_);go_must (rintro e w4 ⟨rfl,hf4,hr4⟩;have HF4:=Lib.hid hf4;have HR4:=Lib.hid (HR1.out.trans hr4);clear hf4 hr4)))
   go_ret
   exact ⟨_,rfl,HF4.out,HR4.out,.inl ⟨rfl,rfl⟩⟩
 ·have d1:(s.e == 0)=false:=beq_eq_false_iff_ne.2 he
  have d1b:(s.e != 0)=true:=by rw [bne_iff_ne];exact he
  have hD:decD ls s=none:=if_neg (fun h=>he h.1)
  have hP:decP ls alone s=s:=if_neg he
  rw [hD,hP]
  clear h hr
  go_enter Tryz.func130,Tryz.ntmps130
  go_wp2_with fail
  go_ret
  exact ⟨_,rfl,H.out,RFr.refl _ _ _ _,.inl ⟨rfl,rfl⟩⟩
end
end Go.Proofs.YtebbdifhiihfkaaGreatDoor

/- flate: what a reader of blocks does with lists of lengths, plainly. -/
namespace Go.Proofs.YtebbdifhiihfkaaGreatDoor
set_option linter.all false
/-- A length laid behind others, so often. -/
def rep0 (l:List Int) (n all:Nat) (s:RS):RS:=if s.e=0∧(all:Int) - (l.length:Int) < (n:Int) then s.fail 4 else s
def repP (l:List Int) (x:Int) (n all:Nat) (s:RS):List Int × RS:=if (rep0 l n all s).e=0 then (l ++ List.replicate n x,rep0 l n all s) else (l,rep0 l n all s)
/-- So many lengths. -/
def listF (bs:List UInt8) (ls:List Int) (all:Nat):Nat→List Int→RS→List Int × RS
 | 0,l,s=>(l,s)
 | f+1,l,s =>
  if l.length < all∧s.e=0 then
   if (nextP bs ls s).2.e=0 then
    if (nextP bs ls s).1 < 16 then listF bs ls all f (l ++ [(nextP bs ls s).1]) (nextP bs ls s).2
    else if (nextP bs ls s).1=16 then
     (if l.length=0 then (l,(nextP bs ls s).2.fail 4)
     else listF bs ls all f (repP l (l.getD (l.length - 1) 0) (3+(getP bs (nextP bs ls s).2 2).1) all (getP bs (nextP bs ls s).2 2).2).1 (repP l (l.getD (l.length - 1) 0) (3+(getP bs (nextP bs ls s).2 2).1) all (getP bs (nextP bs ls s).2 2).2).2)
    else if (nextP bs ls s).1=17 then listF bs ls all f (repP l 0 (3+(getP bs (nextP bs ls s).2 3).1) all (getP bs (nextP bs ls s).2 3).2).1 (repP l 0 (3+(getP bs (nextP bs ls s).2 3).1) all (getP bs (nextP bs ls s).2 3).2).2
    else listF bs ls all f (repP l 0 (11+(getP bs (nextP bs ls s).2 7).1) all (getP bs (nextP bs ls s).2 7).2).1 (repP l 0 (11+(getP bs (nextP bs ls s).2 7).1) all (getP bs (nextP bs ls s).2 7).2).2
   else (l,(nextP bs ls s).2)
  else (l,s)
theorem listF_stop {bs:List UInt8} {ls:List Int} {all f:Nat} {l:List Int} {s:RS} (h:¬ (l.length < all∧s.e=0)):listF bs ls all f l s=(l,s):=by
 cases f with
 | zero=>rfl
 | succ f=>exact if_neg h
theorem repP_len (l:List Int) (x:Int) (n all:Nat) (s:RS) (h:l.length≤all):(repP l x n all s).1.length≤all∧((repP l x n all s).2.e=0→(repP l x n all s).1.length=l.length+n):=by
 unfold repP
 split
 ·rename_i h0
  have hn:¬ (all:Int) - (l.length:Int) < (n:Int):=fun hh=>by
   unfold rep0 at h0
   by_cases he:s.e=0
   ·rw [if_pos ⟨he,hh⟩] at h0
    unfold RS.fail at h0
    rw [if_pos he] at h0
    exact absurd (show (4:Int)=0 from h0) (by decide)
   ·rw [if_neg (fun a=>he a.1)] at h0
    exact he h0
  have e1:(l ++ List.replicate n x).length=l.length+n:=by simp
  exact ⟨by show (l ++ List.replicate n x).length≤all;omega,fun _=>e1⟩
 ·rename_i h0
  exact ⟨h,fun h=>absurd h h0⟩
end Go.Proofs.YtebbdifhiihfkaaGreatDoor

/- flate: the reader of blocks, whatever comes: a length laid behind others. -/
namespace Go.Proofs.YtebbdifhiihfkaaGreatDoor
set_option linter.all false
open Go.RowKit
/-- A list of lengths grows beside a reader. -/
theorem RFr.side {w0 w w':World} {r g:Nat} {vo lv:Value} {l:List Int} (h:RFr w0 w r g vo vo) (hl:∀ k,lv.ownBlock=some k→w0.heap.size≤k) (hg:w.grownBy w' lv.ownBlock):RFr w0 w' r g vo vo:=by
 have hs:=h.size
 refine ⟨hg.os.trans h.os,hg.tape.trans h.tape,hg.output.trans h.output,Nat.le_trans hs hg.size,fun k hk h1 h2 h3=>?_,.inl rfl⟩
 refine (hg.block k (by omega) (fun e=>?_)).trans (h.block k hk h1 h2 h3)
 have:=hl k e.symm
 omega
theorem RFr.allocd {w0 w:World} {r g:Nat} {vo:Value} (h:RFr w0 w r g vo vo) (o:Obj):RFr w0 (w.alloc o) r g vo vo:=by
 have hs:=h.size
 refine ⟨h.os,h.tape,h.output,by rw [World.size_alloc];omega,fun k hk h1 h2 h3=>(heap_alloc_old w o (by omega)).trans (h.block k hk h1 h2 h3),.inl rfl⟩
theorem FR.side {w w':World} {r g:Nat} {A:Option Addr} {n c P:Nat} {bs:List UInt8} {vo lv:Value} {out:List UInt8} {most e:Int} {lo:Nat} (h:FR w r g A n c P bs vo out most e) (hr:r < lo) (hv:∀ k,vo.ownBlock=some k→k < lo) (hl:∀ k,lv.ownBlock=some k→lo≤k) (hg:w.grownBy w' lv.ownBlock):FR w' r g A n c P bs vo out most e:=by
 have hgr:=h.gr
 have key:∀ k,k < w.heap.size→k < lo→w'.heap[k]?=w.heap[k]?:=fun k hk hlo=>hg.block k hk (fun e=>by have:=hl k e.symm;omega)
 refine ⟨?_,?_,h.rb.blw ((Below.refl g w).grown hg (Nat.le_of_lt h.rd.lt) (fun k hk=>by have:=hl k hk;omega)),World.ownsRow.kept h.own hg ?_,hgr,h.fit,h.big⟩
 ·have hlt:=h.arr.lt
  obtain ⟨t,ht⟩:=h.arr
  exact ⟨t,(key r hlt hr).trans ht⟩
 ·have hlt:=h.rd.lt
  obtain ⟨t,ht⟩:=h.rd
  exact ⟨t,(key g hlt (by omega)).trans ht⟩
 ·cases e:vo.ownBlock with
  | none=>exact .inl rfl
  | some k=>exact .inr (fun e2=>by have h1:=hv k e;have h2:=hl k e2.symm;omega)
theorem rep_snoc (l:List Int) (x:Int) (i:Nat):l ++ List.replicate i x ++ [x]=l ++ List.replicate (i+1) x:=by
 rw [List.append_assoc,List.replicate_succ']
section
variable (r g n c : Nat) (A : Option Addr) (bs : List UInt8) (most : Int) (vo : Value) (s : RS) (w0 w : World)
set_option maxRecDepth 100000 in
set_option maxHeartbeats 3200000 in
theorem rrepeat_any (lv:Value) (l:List Int) (x:Int) (N all:Nat) (h:FS w r g A n c bs most vo s) (hf:RFr w0 w r g vo vo) (hl:ownI w w0.heap.size lv l) (hr:r < w0.heap.size) (hv:∀ k,vo.ownBlock=some k→k < w0.heap.size) (hN:N≤1000) (hall:all≤1000) (hll:l.length≤1000) :
  Calls Tryz.prog 162 #[.pointer (some ⟨r,0,none⟩),lv,.int .i64 x,.int .i64 (N:Int),.int .i64 (all:Int)] w fun e w'=>∃ lv',e=.returned lv'∧FS w' r g A n c bs most vo (repP l x N all s).2∧ownI w' w0.heap.size lv' (repP l x N all s).1∧RFr w0 w' r g vo vo:=by
 obtain ⟨Al,cl,rfl,-,-,-⟩:=hl.form
 have H:=Lib.hid h
 have HF0:=Lib.hid hf
 have HL:=Lib.hid hl
 have HV:=Lib.hid hv
 have c3:=(FR.arr h).cell (k:=3) rfl
 have HFL:=Lib.hid (rfail_any r g n c A bs most vo s w 4 h)
 obtain ⟨s1,hs1⟩:∃ s1,rep0 l N all s=s1:=⟨_,rfl⟩
 have HRP:Hid (repP l x N all s=if s1.e=0 then (l ++ List.replicate N x,s1) else (l,s1)):=(show _=_ by unfold repP;rw [hs1])
 replace hs1:(if s.e=0∧(all:Int) - (l.length:Int) < (N:Int) then s.fail 4 else s)=s1:=hs1
 have HL0:Hid (l ++ List.replicate 0 x=l):=(show _=_ by simp)
 have hls:∀ k w',RFr w0 w' r g vo vo→(Value.slice Al l.length cl).ownBlock=some k→w0.heap.size≤k:=fun k w' _ hk=>(World.ownsRow.lt hl k hk).1
 clear h hf hl hv hls
 go_enter Tryz.func162,Tryz.ntmps162
 by_cases he:s.e=0
 ·have d1:(s.e == 0)=true:=by rw [he];rfl
  by_cases hlt:(all:Int) - (l.length:Int) < (N:Int)
  ·rw [if_pos ⟨he,hlt⟩] at hs1
   rw [hs1] at HFL
   clear hs1
   have hfl:=World.ownsRow.lt HL.out
   go_wp2_with (go_at_call 105;(with_reducible refine HFL.out.mono ?_);go_must (rintro e w4 ⟨rfl,hf4,hr4⟩;have HF4:=Lib.hid hf4;have HL4:Hid (ownI w4 w0.heap.size (.slice Al l.length cl) l):=(show ownI _ _ _ _ from ownI.rfr HL.out hr4 hr (by have:=(FR.gr H.out);omega) (fun k hk hk2=>by have h1:=HV.out k hk;have h2:=(World.ownsRow.lt HL.out k hk2).1;omega));have HR4:=Lib.hid (HF0.out.trans hr4);clear hf4 hr4))
   go_loopw [11,1] (fun vi vl wr=>∃ i:Nat,i≤N∧vi=.int .i64 i∧Hid (FS wr r g A n c bs most vo s1)∧Hid (RFr w0 wr r g vo vo)∧Hid (ownI wr w0.heap.size vl (l ++ List.replicate i x))∧(¬ s1.e=0→i=0)) (fun vi _ _=>N - (intOf vi).toNat)
   case atStart=>exact ⟨0,Nat.zero_le _,rfl,HF4,HR4,(show ownI _ _ _ _ by rw [HL0.out];exact HL4.out),fun _=>rfl⟩
   case round =>
    obtain ⟨i,hi,rfl,HF,HR,HL,h0⟩:=hrel
    have e3:=(FR.arr HF.out).cell (k:=3) rfl
    obtain ⟨Aq,cq,rfl,-,-,-⟩:=HL.out.form
    have hlen:(l ++ List.replicate i x).length≤2000:=by rw [List.length_append,List.length_replicate];omega
    by_cases hlt:i < N
    ·have hlti:(i:Int) < (N:Int):=by omega
     by_cases he:s1.e=0
     ·have d9:(s1.e == 0)=true:=by rw [he];rfl
      have HSN:=Lib.hid (rep_snoc l x i)
      have HLO:Hid (∀ k,(Value.slice Aq (l ++ List.replicate i x).length cq).ownBlock=some k→w0.heap.size≤k):=(show ∀ k,_ from fun k hk=>(World.ownsRow.lt HL.out k hk).1)
      generalize l ++ List.replicate i x=ll at *
      have HLA:=Lib.hid (ownI.alloc HL.out (.cells #[Value.int .i64 x] 3))
      have HFA:=Lib.hid (FR.later HF.out ((Below.refl wr.heap.size wr).alloc (Nat.le_refl _) (.cells #[Value.int .i64 x] 3)))
      have HRA:=Lib.hid (HR.out.allocd (.cells #[Value.int .i64 x] 3))
      have hq1:ll.length+1≤1099511627776:=by omega
      have hq2:w0.heap.size≤(wr.alloc (.cells #[Value.int .i64 x] 3)).heap.size:=HRA.out.size
      go_wp2_with (at_builtin;go_must (refine wpList_appendI rfl (.tmp 39) (.tmp 41) rfl w0.heap.size _ ll rfl HLA.out (wr.heap.size+1) 1 1 (some ⟨wr.heap.size,0,none⟩) [x] rfl (rd_oneI wr x) hq1 hq2 ?_;intro v5 w5 ho5 hg5 hb5 ha5;rw [HSN.out] at ho5;have HL5:=Lib.hid ho5;have HF5:=Lib.hid (FR.side HFA.out hr HV.out HLO.out hg5);have HR5:=Lib.hid (RFr.side (l:=ll) HRA.out HLO.out hg5);clear ho5 hg5 hb5 ha5))
      go_roundw
      case rel=>exact ⟨i+1,by omega,by go_num,HF5,HR5,HL5,fun h=>absurd he h⟩
      case measure=>simp [intOf];omega
     ·have d9:(s1.e == 0)=false:=beq_eq_false_iff_ne.2 he
      have hi0:=h0 he
      subst hi0
      go_wp2_with fail
      go_ret
      exact ⟨_,rfl,by rw [HRP.out,if_neg he];exact HF.out,by rw [HRP.out,if_neg he];rw [HL0.out] at HL;exact HL.out,HR.out⟩
    ·obtain rfl:i=N:=by omega
     have hlti:¬ (i:Int) < (i:Int):=by omega
     by_cases he:s1.e=0
     ·go_wp2_with fail
      go_ret
      exact ⟨_,rfl,by rw [HRP.out,if_pos he];exact HF.out,by rw [HRP.out,if_pos he];have hh:=HL.out;first | exact hh | (rw [show (l ++ List.replicate i x).length=l.length+i by simp] at hh;exact hh),HR.out⟩
     ·have hi0:=h0 he
      subst hi0
      go_wp2_with fail
      go_ret
      exact ⟨_,rfl,by rw [HRP.out,if_neg he];exact HF.out,by rw [HRP.out,if_neg he];rw [HL0.out] at HL;exact HL.out,HR.out⟩
  ·rw [if_neg (fun h=>hlt h.2)] at hs1
   rw [hs1] at H
   clear hs1
   go_wp2_with fail
   go_loopw [11,1] (fun vi vl wr=>∃ i:Nat,i≤N∧vi=.int .i64 i∧Hid (FS wr r g A n c bs most vo s1)∧Hid (RFr w0 wr r g vo vo)∧Hid (ownI wr w0.heap.size vl (l ++ List.replicate i x))∧(¬ s1.e=0→i=0)) (fun vi _ _=>N - (intOf vi).toNat)
   case atStart=>exact ⟨0,Nat.zero_le _,rfl,H,HF0,(show ownI _ _ _ _ by rw [HL0.out];exact HL.out),fun _=>rfl⟩
   case round =>
    obtain ⟨i,hi,rfl,HF,HR,HL,h0⟩:=hrel
    have e3:=(FR.arr HF.out).cell (k:=3) rfl
    obtain ⟨Aq,cq,rfl,-,-,-⟩:=HL.out.form
    have hlen:(l ++ List.replicate i x).length≤2000:=by rw [List.length_append,List.length_replicate];omega
    by_cases hlt:i < N
    ·have hlti:(i:Int) < (N:Int):=by omega
     by_cases he:s1.e=0
     ·have d9:(s1.e == 0)=true:=by rw [he];rfl
      have HSN:=Lib.hid (rep_snoc l x i)
      have HLO:Hid (∀ k,(Value.slice Aq (l ++ List.replicate i x).length cq).ownBlock=some k→w0.heap.size≤k):=(show ∀ k,_ from fun k hk=>(World.ownsRow.lt HL.out k hk).1)
      generalize l ++ List.replicate i x=ll at *
      have HLA:=Lib.hid (ownI.alloc HL.out (.cells #[Value.int .i64 x] 3))
      have HFA:=Lib.hid (FR.later HF.out ((Below.refl wr.heap.size wr).alloc (Nat.le_refl _) (.cells #[Value.int .i64 x] 3)))
      have HRA:=Lib.hid (HR.out.allocd (.cells #[Value.int .i64 x] 3))
      have hq1:ll.length+1≤1099511627776:=by omega
      have hq2:w0.heap.size≤(wr.alloc (.cells #[Value.int .i64 x] 3)).heap.size:=HRA.out.size
      go_wp2_with (at_builtin;go_must (refine wpList_appendI rfl (.tmp 39) (.tmp 41) rfl w0.heap.size _ ll rfl HLA.out (wr.heap.size+1) 1 1 (some ⟨wr.heap.size,0,none⟩) [x] rfl (rd_oneI wr x) hq1 hq2 ?_;intro v5 w5 ho5 hg5 hb5 ha5;rw [HSN.out] at ho5;have HL5:=Lib.hid ho5;have HF5:=Lib.hid (FR.side HFA.out hr HV.out HLO.out hg5);have HR5:=Lib.hid (RFr.side (l:=ll) HRA.out HLO.out hg5);clear ho5 hg5 hb5 ha5))
      go_roundw
      case rel=>exact ⟨i+1,by omega,by go_num,HF5,HR5,HL5,fun h=>absurd he h⟩
      case measure=>simp [intOf];omega
     ·have d9:(s1.e == 0)=false:=beq_eq_false_iff_ne.2 he
      have hi0:=h0 he
      subst hi0
      go_wp2_with fail
      go_ret
      exact ⟨_,rfl,by rw [HRP.out,if_neg he];exact HF.out,by rw [HRP.out,if_neg he];rw [HL0.out] at HL;exact HL.out,HR.out⟩
    ·obtain rfl:i=N:=by omega
     have hlti:¬ (i:Int) < (i:Int):=by omega
     by_cases he:s1.e=0
     ·go_wp2_with fail
      go_ret
      exact ⟨_,rfl,by rw [HRP.out,if_pos he];exact HF.out,by rw [HRP.out,if_pos he];have hh:=HL.out;first | exact hh | (rw [show (l ++ List.replicate i x).length=l.length+i by simp] at hh;exact hh),HR.out⟩
     ·have hi0:=h0 he
      subst hi0
      go_wp2_with fail
      go_ret
      exact ⟨_,rfl,by rw [HRP.out,if_neg he];exact HF.out,by rw [HRP.out,if_neg he];rw [HL0.out] at HL;exact HL.out,HR.out⟩
 ·have d1:(s.e == 0)=false:=beq_eq_false_iff_ne.2 he
  rw [if_neg (fun h=>he h.1)] at hs1
  rw [hs1] at H
  clear hs1
  go_wp2_with fail
  go_loopw [11,1] (fun vi vl wr=>∃ i:Nat,i≤N∧vi=.int .i64 i∧Hid (FS wr r g A n c bs most vo s1)∧Hid (RFr w0 wr r g vo vo)∧Hid (ownI wr w0.heap.size vl (l ++ List.replicate i x))∧(¬ s1.e=0→i=0)) (fun vi _ _=>N - (intOf vi).toNat)
  case atStart=>exact ⟨0,Nat.zero_le _,rfl,H,HF0,(show ownI _ _ _ _ by rw [HL0.out];exact HL.out),fun _=>rfl⟩
  case round =>
   obtain ⟨i,hi,rfl,HF,HR,HL,h0⟩:=hrel
   have e3:=(FR.arr HF.out).cell (k:=3) rfl
   obtain ⟨Aq,cq,rfl,-,-,-⟩:=HL.out.form
   have hlen:(l ++ List.replicate i x).length≤2000:=by rw [List.length_append,List.length_replicate];omega
   by_cases hlt:i < N
   ·have hlti:(i:Int) < (N:Int):=by omega
    by_cases he:s1.e=0
    ·have d9:(s1.e == 0)=true:=by rw [he];rfl
     have HSN:=Lib.hid (rep_snoc l x i)
     have HLO:Hid (∀ k,(Value.slice Aq (l ++ List.replicate i x).length cq).ownBlock=some k→w0.heap.size≤k):=(show ∀ k,_ from fun k hk=>(World.ownsRow.lt HL.out k hk).1)
     generalize l ++ List.replicate i x=ll at *
     have HLA:=Lib.hid (ownI.alloc HL.out (.cells #[Value.int .i64 x] 3))
     have HFA:=Lib.hid (FR.later HF.out ((Below.refl wr.heap.size wr).alloc (Nat.le_refl _) (.cells #[Value.int .i64 x] 3)))
     have HRA:=Lib.hid (HR.out.allocd (.cells #[Value.int .i64 x] 3))
     have hq1:ll.length+1≤1099511627776:=by omega
     have hq2:w0.heap.size≤(wr.alloc (.cells #[Value.int .i64 x] 3)).heap.size:=HRA.out.size
     go_wp2_with (at_builtin;go_must (refine wpList_appendI rfl (.tmp 39) (.tmp 41) rfl w0.heap.size _ ll rfl HLA.out (wr.heap.size+1) 1 1 (some ⟨wr.heap.size,0,none⟩) [x] rfl (rd_oneI wr x) hq1 hq2 ?_;intro v5 w5 ho5 hg5 hb5 ha5;rw [HSN.out] at ho5;have HL5:=Lib.hid ho5;have HF5:=Lib.hid (FR.side HFA.out hr HV.out HLO.out hg5);have HR5:=Lib.hid (RFr.side (l:=ll) HRA.out HLO.out hg5);clear ho5 hg5 hb5 ha5))
     go_roundw
     case rel=>exact ⟨i+1,by omega,by go_num,HF5,HR5,HL5,fun h=>absurd he h⟩
     case measure=>simp [intOf];omega
    ·have d9:(s1.e == 0)=false:=beq_eq_false_iff_ne.2 he
     have hi0:=h0 he
     subst hi0
     go_wp2_with fail
     go_ret
     exact ⟨_,rfl,by rw [HRP.out,if_neg he];exact HF.out,by rw [HRP.out,if_neg he];rw [HL0.out] at HL;exact HL.out,HR.out⟩
   ·obtain rfl:i=N:=by omega
    have hlti:¬ (i:Int) < (i:Int):=by omega
    by_cases he:s1.e=0
    ·go_wp2_with fail
     go_ret
     exact ⟨_,rfl,by rw [HRP.out,if_pos he];exact HF.out,by rw [HRP.out,if_pos he];have hh:=HL.out;first | exact hh | (rw [show (l ++ List.replicate i x).length=l.length+i by simp] at hh;exact hh),HR.out⟩
    ·have hi0:=h0 he
     subst hi0
     go_wp2_with fail
     go_ret
     exact ⟨_,rfl,by rw [HRP.out,if_neg he];exact HF.out,by rw [HRP.out,if_neg he];rw [HL0.out] at HL;exact HL.out,HR.out⟩
end
end Go.Proofs.YtebbdifhiihfkaaGreatDoor

