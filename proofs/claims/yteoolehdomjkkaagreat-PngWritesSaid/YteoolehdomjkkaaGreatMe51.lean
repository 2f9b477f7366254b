/- XFind5 XDef5 -/
import Derived.Test.YteoolehdomjkkaaGreatMe40
import Derived.Test.YteoolehdomjkkaaGreatMe43
import Derived.Test.YteoolehdomjkkaaGreatMe28
import Derived.Test.YteoolehdomjkkaaGreatMe44
import Derived.Test.YteoolehdomjkkaaGreatMe50
import Derived.Test.YteoolehdomjkkaaGreatMe42
import Derived.Test.YteoolehdomjkkaaGreatMe31
namespace Go.Proofs.YteoolehdomjkkaaGreat
set_option linter.all false
open Go.RowKit
def FindPost5 (ts:List Tok) (w:World) (e:Ending) (w':World):Prop:=∃ A n c,e=.returned (.tuple #[.slice A n c,.int .i64 0])∧n=ts.length∧RdJ w' w'.heap.size A n ts∧Below w.heap.size w w'
set_option maxRecDepth 100000 in
set_option maxHeartbeats 3200000 in
theorem find5_any (B n c0:Nat) (A:Option Addr) (bs:List UInt8) (w:World) (h:RdB w B A n bs) (hB:B≤w.heap.size) (hn:n≤40000) :
  Calls Tryz.prog 64 #[.slice A n c0] w (FindPost5 (findP bs) w):=by
 have HR:=Lib.hid h
 have hl:=h.len
 have hn4:¬ (40000:Int) < (n:Int):=by omega
 clear h
 have HB1:Hid (Below w.heap.size w w):=Below.refl _ _
 have HK1:Hid (ownJ w w.heap.size (.slice none 0 0) []):=ownJ.nil_ _ _
 have HE1:Hid ([] ++ findF bs n 0=findP bs):=(show _=_ by rw [← hl];rfl)
 go_enter Tryz.func64,Tryz.ntmps64
 go_wp2_with fail
 go_loopw [5,4] (fun vi vl wr=>∃ (i f:Nat) (D:List Tok),i≤n∧vi=.int .i64 i∧n≤i+f∧D.length≤i∧Hid (D ++ findF bs f i=findP bs)∧Hid (ownJ wr w.heap.size vl D)∧Hid (Below w.heap.size w wr)) (fun vi _ _=>n - (intOf vi).toNat)
 case atStart=>exact ⟨0,n,[],Nat.zero_le _,rfl,by omega,Nat.le_refl _,HE1,HK1,HB1⟩
 case round =>
  clear HE1 HK1 HB1
  obtain ⟨i,f,D,hi,rfl,hf,hDi,HE,HK,HB⟩:=hrel
  obtain ⟨Av,nv,rfl,-⟩:=HK.out.form
  by_cases hlt:i < n
  ·have hlti:(i:Int) < (n:Int):=by omega
   obtain ⟨f,rfl⟩:∃ g,f=g+1:=⟨f - 1,by omega⟩
   rw [findF_at (by omega)] at HE
   have hst:=stepAt_ok (b:=bs) (at_:=i) (by omega)
   have HSA:Hid (stepAt bs i=if (matP bs i).1=0 then 1 else (matP bs i).1):=(show _=_ from rfl)
   have HTA:Hid (tokAt bs i=if (matP bs i).1=0 then (0,0,(bs.getD i 0).toNat) else ((matP bs i).1,(matP bs i).2,0)):=(show _=_ from rfl)
   have HRo:Hid (RdB wr B A n bs):=HR.out.blw (HB.out.mono hB)
   have HMA:=Lib.hid (match5_any B n c0 i A bs wr HRo.out hlt hn)
   have hmo:=matP_ok bs i
   generalize (matP bs i).1=a at *
   generalize (matP bs i).2=d at *
   have hzw:=HB.out.size
   have HX:Hid (∀ w2 o,(∃ q,w2=wr.drewN q)→ownJ (w2.alloc o) w.heap.size (.slice Av D.length nv) D∧Below w.heap.size w (w2.alloc o)∧w.heap.size≤(w2.alloc o).heap.size):=(show ∀ w2 o,_ by
    rintro w2 o ⟨q,rfl⟩
    exact ⟨(HK.out.drewN q).alloc o,(bdrewN HB.out q).alloc hzw o,by rw [World.size_alloc];exact Nat.le_succ_of_le hzw⟩)
   have hq1:D.length+1≤1099511627776:=by omega
   by_cases ha:a=0
   ·have d1:((a:Int) == 0)=true:=by rw [ha];rfl
    obtain ⟨b,o,x,rfl,hb,HXX,e1⟩:=HRo.out.byte hlt
    have x8:=x.toNat_lt
    rw [if_pos ha] at HSA HTA
    rw [HSA.out,HTA.out,getD_at HXX.out] at HE
    have HEj:Hid (D ++ [(0,0,x.toNat)] ++ findF bs f (i+1)=findP bs):=(show _=_ by rw [← HE.out];simp)
    clear hmo HSA HTA hst HXX
    have hLn:(D ++ [(0,0,x.toNat)]).length=D.length+1:=by simp
    go_wp2_with (first
     | (go_at_call 115;(with_reducible refine HMA.out.mono ?_);go_must (rintro e w2 ⟨rfl,hq2⟩;have e12:w2.cell? ⟨b,o+i,none⟩=some (.int .u8 (x.toNat:Int)):=(by obtain ⟨q,rfl⟩:=hq2;exact e1);obtain ⟨hk3,hb3,hz3⟩:=HX.out w2 (.cells #[.int .i64 0,.int .i64 0,.int .i64 (x.toNat:Int)] 143) hq2;have HK3:=Lib.hid hk3;have HB3:=Lib.hid hb3;have HR3:=Lib.hid (rd_oneJ w2 (0,0,x.toNat) 143 (0,0));clear hk3 hb3))
     | (at_builtin;go_must (refine wpList_appendJ rfl (.tmp 23) (.tmp 30) rfl w.heap.size (.slice Av D.length nv) D rfl HK3.out (w2.heap.size+1) 1 1 (some ⟨w2.heap.size,0,none⟩) [(0,0,x.toNat)] rfl HR3.out hq1 hz3 ?_;intro v5 w5 ho5 hg5 hb5 ha5;obtain ⟨A5,c5,rfl,-⟩:=ho5.form;rw [hLn] at ho5 ⊢;have HO5:=Lib.hid ho5;have HB5:=Lib.hid (HB3.out.trans hb5);clear ho5 hg5 hb5 ha5)))
    go_roundw
    case rel=>exact ⟨i+1,f,D ++ [(0,0,x.toNat)],by omega,by go_num,by omega,by rw [hLn];omega,HEj,HO5,HB5⟩
    case measure=>simp [intOf];omega
   ·have d1:((a:Int) == 0)=false:=beq_eq_false_iff_ne.2 (by omega)
    obtain ⟨g3,g4,g5,g6,g7,g8⟩:3≤a∧a≤258∧i+a≤bs.length∧1≤d∧d≤32768∧d≤i:=by rcases hmo with h | h;exact absurd h ha;exact h
    rw [if_neg ha] at HSA HTA
    rw [HSA.out,HTA.out] at HE
    have HEj:Hid (D ++ [(a,d,0)] ++ findF bs f (i+a)=findP bs):=(show _=_ by rw [← HE.out];simp)
    clear hmo HSA HTA hst
    have hLn:(D ++ [(a,d,0)]).length=D.length+1:=by simp
    go_wp2_with (first
     | (go_at_call 115;(with_reducible refine HMA.out.mono ?_);go_must (rintro e w2 ⟨rfl,hq2⟩;obtain ⟨hk3,hb3,hz3⟩:=HX.out w2 (.cells #[.int .i64 (a:Int),.int .i64 (d:Int),.int .i64 0] 143) hq2;have HK3:=Lib.hid hk3;have HB3:=Lib.hid hb3;have HR3:=Lib.hid (rd_oneJ w2 (a,d,0) 143 (0,0));clear hk3 hb3))
     | (at_builtin;go_must (refine wpList_appendJ rfl (.tmp 34) (.tmp 38) rfl w.heap.size (.slice Av D.length nv) D rfl HK3.out (w2.heap.size+1) 1 1 (some ⟨w2.heap.size,0,none⟩) [(a,d,0)] rfl HR3.out hq1 hz3 ?_;intro v5 w5 ho5 hg5 hb5 ha5;obtain ⟨A5,c5,rfl,-⟩:=ho5.form;rw [hLn] at ho5 ⊢;have HO5:=Lib.hid ho5;have HB5:=Lib.hid (HB3.out.trans hb5);clear ho5 hg5 hb5 ha5)))
    go_roundw
    case rel=>exact ⟨i+a,f,D ++ [(a,d,0)],by omega,by go_num,by omega,by rw [hLn];omega,HEj,HO5,HB5⟩
    case measure=>simp [intOf];omega
  ·obtain rfl:i=n:=by omega
   have HE2:Hid (D=findP bs):=(show _=_ by rw [← HE.out,findF_past (by omega)];simp)
   go_wp2_with fail
   go_ret2
   refine ⟨_,_,_,rfl,by rw [← HE2.out],?_,HB.out⟩
   rw [← HE2.out]
   exact HK.out.rd
end Go.Proofs.YteoolehdomjkkaaGreat

/- flate: the document's Deflate. -/
namespace Go.Proofs.YteoolehdomjkkaaGreat
set_option linter.all false
open Go.RowKit
set_option maxRecDepth 100000 in
set_option maxHeartbeats 6400000 in
theorem deflate5_any (B n c:Nat) (A:Option Addr) (bs:List UInt8) (w:World) (h:RdB w B A n bs) (hB:B≤w.heap.size) (hn:n≤40000) :
  Calls Tryz.prog 23 #[.slice A n c] w fun e w'=>∃ v bz,e=.returned (.tuple #[v,.int .i64 0])∧ownB w' w.heap.size v bz∧WB bz (deflB bs (findP bs))∧Below w.heap.size w w':=by
 have hl:=h.len
 have hsz:tokSize (findP bs)≤40000:=by have:=(findP_ok bs).2;omega
 have htl:=Nat.le_trans (tokSize_len (findP bs)) hsz
 have HFI:=Lib.hid (find5_any B n c A bs w h hB hn)
 have HST:=Lib.hid (fun (w':World) (hb:Below w.heap.size w w')=>stored5_any B n c A bs w' (h.blw (hb.mono hB)) (Nat.le_trans hB hb.size) hn)
 have HFX:=Lib.hid (fun (w':World) (Bt n1 c1:Nat) (A1:Option Addr) (r:RdJ w' Bt A1 n1 (findP bs)) (hb:Bt≤w'.heap.size) (h1:n1=(findP bs).length)=>fixed5_any Bt n1 c1 A1 (findP bs) w' r hb (by omega) (findP_ok bs).1 hsz)
 have HDY:=Lib.hid (fun (w':World) (Bt n1 c1:Nat) (A1:Option Addr) (r:RdJ w' Bt A1 n1 (findP bs)) (hb:Bt≤w'.heap.size) (h1:n1=(findP bs).length)=>dynamic5_any Bt n1 c1 A1 (findP bs) w' r hb (by omega) (findP_ok bs).1 hsz)
 have hle:=(deflB_le bs (findP bs)).1
 rw [plainL_len] at hle
 have hmx:(deflB bs (findP bs)).length≤1000000:=by omega
 have hD:deflB bs (findP bs)=if (ownBits (findP bs)).length < (if (fixB (findP bs)).length < (plainL bs).length then fixB (findP bs) else plainL bs).length then ownBits (findP bs) else (if (fixB (findP bs)).length < (plainL bs).length then fixB (findP bs) else plainL bs):=rfl
 clear hle h htl hsz
 generalize deflB bs (findP bs)=D at *
 generalize plainL bs=L1 at *
 generalize fixB (findP bs)=L2 at *
 generalize ownBits (findP bs)=L3 at *
 generalize findP bs=ts at *
 by_cases h1:L2.length < L1.length
 ·rw [if_pos h1] at hD
  have i1:(L2.length:Int) < (L1.length:Int):=by omega
  by_cases h2:L3.length < L2.length
  ·rw [if_pos h2] at hD
   have i2:(L3.length:Int) < (L2.length:Int):=by omega
   have HD:=Lib.hid hD
   clear hD
   go_enter Tryz.func23,Tryz.ntmps23
   go_wp2_with (first
    | (go_at_call 64;(with_reducible refine HFI.out.mono ?_);go_must (rintro e w1 ⟨A1,n1,c1,rfl,hn1,hr1,hb1⟩;have HN1:=Lib.hid hn1;have HR1:=Lib.hid hr1;have HB1:=Lib.hid hb1;clear hn1 hr1 hb1))
    | (go_at_call 65;(with_reducible refine (HST.out _ HB1.out).mono ?_);go_must (rintro e w2 ⟨g1,p1,rfl,hg1,hw1,hb2⟩;have HW1:=Lib.hid hw1;have HB2:=Lib.hid (HB1.out.trans (hb2.mono HB1.out.size));have HR2:=Lib.hid (RdJ.blw HR1.out hb2);have hs2:=hb2.size;clear hw1 hb2))
    | (go_at_call 66;(with_reducible refine (HFX.out _ _ _ _ _ HR2.out hs2 HN1.out).mono ?_);go_must (rintro e w3 ⟨g2,p2,rfl,hg2,hw2,hb3⟩;have HW2:=Lib.hid hw2;have HW13:=Lib.hid (HW1.out.later hb3);have HB3:=Lib.hid (HB2.out.trans (hb3.mono HB2.out.size));have HR3:=Lib.hid (RdJ.blw HR2.out (hb3.mono hs2));have hs3:=Nat.le_trans hs2 hb3.size;clear hw2 hb3))
    | (go_at_call 67;(with_reducible refine (HDY.out _ _ _ _ _ HR3.out hs3 HN1.out).mono ?_);go_must (rintro e w4 ⟨g3,p3,rfl,hg3,hw3,hb4⟩;have HW34:=Lib.hid hw3;have HW14:=Lib.hid (HW13.out.later hb4);have HW24:=Lib.hid (HW2.out.later hb4);have HB4:=Lib.hid (HB3.out.trans (hb4.mono HB3.out.size));clear hw3 hb4))
    | (go_at_call 68;(with_reducible refine (wbitsR_any _ _ _ _ HW14.out).mono ?_);go_must (rintro e w5 ⟨rfl,rfl⟩))
    | (go_at_call 68;(with_reducible refine (wbitsR_any _ _ _ _ HW24.out).mono ?_);go_must (rintro e w5 ⟨rfl,rfl⟩))
    | (go_at_call 68;(with_reducible refine (wbitsR_any _ _ _ _ HW34.out).mono ?_);go_must (rintro e w5 ⟨rfl,rfl⟩))
    | (go_at_call 69;(with_reducible refine (wbytesR_any _ _ _ _ HW14.out (by rw [← HD.out];exact hmx)).mono ?_);go_must (rintro e w6 ⟨v6,bz,rfl,ho6,hz6,hb6⟩;have HO6:=Lib.hid (ho6.mono HB4.out.size);have HZ6:=Lib.hid hz6;have HB6:=Lib.hid (HB4.out.trans (hb6.mono HB4.out.size));clear ho6 hz6 hb6))
    | (go_at_call 69;(with_reducible refine (wbytesR_any _ _ _ _ HW24.out (by rw [← HD.out];exact hmx)).mono ?_);go_must (rintro e w6 ⟨v6,bz,rfl,ho6,hz6,hb6⟩;have HO6:=Lib.hid (ho6.mono HB4.out.size);have HZ6:=Lib.hid hz6;have HB6:=Lib.hid (HB4.out.trans (hb6.mono HB4.out.size));clear ho6 hz6 hb6))
    | (go_at_call 69;(with_reducible refine (wbytesR_any _ _ _ _ HW34.out (by rw [← HD.out];exact hmx)).mono ?_);go_must (rintro e w6 ⟨v6,bz,rfl,ho6,hz6,hb6⟩;have HO6:=Lib.hid (ho6.mono HB4.out.size);have HZ6:=Lib.hid hz6;have HB6:=Lib.hid (HB4.out.trans (hb6.mono HB4.out.size));clear ho6 hz6 hb6)))
   go_ret2
   exact ⟨v6,bz,rfl,HO6.out,(by rw [HD.out];exact HZ6.out),HB6.out⟩
  ·rw [if_neg h2] at hD
   have i2:¬ (L3.length:Int) < (L2.length:Int):=by omega
   have HD:=Lib.hid hD
   clear hD
   go_enter Tryz.func23,Tryz.ntmps23
   go_wp2_with (first
    | (go_at_call 64;(with_reducible refine HFI.out.mono ?_);go_must (rintro e w1 ⟨A1,n1,c1,rfl,hn1,hr1,hb1⟩;have HN1:=Lib.hid hn1;have HR1:=Lib.hid hr1;have HB1:=Lib.hid hb1;clear hn1 hr1 hb1))
    | (go_at_call 65;(with_reducible refine (HST.out _ HB1.out).mono ?_);go_must (rintro e w2 ⟨g1,p1,rfl,hg1,hw1,hb2⟩;have HW1:=Lib.hid hw1;have HB2:=Lib.hid (HB1.out.trans (hb2.mono HB1.out.size));have HR2:=Lib.hid (RdJ.blw HR1.out hb2);have hs2:=hb2.size;clear hw1 hb2))
    | (go_at_call 66;(with_reducible refine (HFX.out _ _ _ _ _ HR2.out hs2 HN1.out).mono ?_);go_must (rintro e w3 ⟨g2,p2,rfl,hg2,hw2,hb3⟩;have HW2:=Lib.hid hw2;have HW13:=Lib.hid (HW1.out.later hb3);have HB3:=Lib.hid (HB2.out.trans (hb3.mono HB2.out.size));have HR3:=Lib.hid (RdJ.blw HR2.out (hb3.mono hs2));have hs3:=Nat.le_trans hs2 hb3.size;clear hw2 hb3))
    | (go_at_call 67;(with_reducible refine (HDY.out _ _ _ _ _ HR3.out hs3 HN1.out).mono ?_);go_must (rintro e w4 ⟨g3,p3,rfl,hg3,hw3,hb4⟩;have HW34:=Lib.hid hw3;have HW14:=Lib.hid (HW13.out.later hb4);have HW24:=Lib.hid (HW2.out.later hb4);have HB4:=Lib.hid (HB3.out.trans (hb4.mono HB3.out.size));clear hw3 hb4))
    | (go_at_call 68;(with_reducible refine (wbitsR_any _ _ _ _ HW14.out).mono ?_);go_must (rintro e w5 ⟨rfl,rfl⟩))
    | (go_at_call 68;(with_reducible refine (wbitsR_any _ _ _ _ HW24.out).mono ?_);go_must (rintro e w5 ⟨rfl,rfl⟩))
    | (go_at_call 68;(with_reducible refine (wbitsR_any _ _ _ _ HW34.out).mono ?_);go_must (rintro e w5 ⟨rfl,rfl⟩))
    | (go_at_call 69;(with_reducible refine (wbytesR_any _ _ _ _ HW14.out (by rw [← HD.out];exact hmx)).mono ?_);go_must (rintro e w6 ⟨v6,bz,rfl,ho6,hz6,hb6⟩;have HO6:=Lib.hid (ho6.mono HB4.out.size);have HZ6:=Lib.hid hz6;have HB6:=Lib.hid (HB4.out.trans (hb6.mono HB4.out.size));clear ho6 hz6 hb6))
    | (go_at_call 69;(with_reducible refine (wbytesR_any _ _ _ _ HW24.out (by rw [← HD.out];exact hmx)).mono ?_);go_must (rintro e w6 ⟨v6,bz,rfl,ho6,hz6,hb6⟩;have HO6:=Lib.hid (ho6.mono HB4.out.size);have HZ6:=Lib.hid hz6;have HB6:=Lib.hid (HB4.out.trans (hb6.mono HB4.out.size));clear ho6 hz6 hb6))
    | (go_at_call 69;(with_reducible refine (wbytesR_any _ _ _ _ HW34.out (by rw [← HD.out];exact hmx)).mono ?_);go_must (rintro e w6 ⟨v6,bz,rfl,ho6,hz6,hb6⟩;have HO6:=Lib.hid (ho6.mono HB4.out.size);have HZ6:=Lib.hid hz6;have HB6:=Lib.hid (HB4.out.trans (hb6.mono HB4.out.size));clear ho6 hz6 hb6)))
   go_ret2
   exact ⟨v6,bz,rfl,HO6.out,(by rw [HD.out];exact HZ6.out),HB6.out⟩
 ·rw [if_neg h1] at hD
  have i1:¬ (L2.length:Int) < (L1.length:Int):=by omega
  by_cases h2:L3.length < L1.length
  ·rw [if_pos h2] at hD
   have i2:(L3.length:Int) < (L1.length:Int):=by omega
   have HD:=Lib.hid hD
   clear hD
   go_enter Tryz.func23,Tryz.ntmps23
   go_wp2_with (first
    | (go_at_call 64;(with_reducible refine HFI.out.mono ?_);go_must (rintro e w1 ⟨A1,n1,c1,rfl,hn1,hr1,hb1⟩;have HN1:=Lib.hid hn1;have HR1:=Lib.hid hr1;have HB1:=Lib.hid hb1;clear hn1 hr1 hb1))
    | (go_at_call 65;(with_reducible refine (HST.out _ HB1.out).mono ?_);go_must (rintro e w2 ⟨g1,p1,rfl,hg1,hw1,hb2⟩;have HW1:=Lib.hid hw1;have HB2:=Lib.hid (HB1.out.trans (hb2.mono HB1.out.size));have HR2:=Lib.hid (RdJ.blw HR1.out hb2);have hs2:=hb2.size;clear hw1 hb2))
    | (go_at_call 66;(with_reducible refine (HFX.out _ _ _ _ _ HR2.out hs2 HN1.out).mono ?_);go_must (rintro e w3 ⟨g2,p2,rfl,hg2,hw2,hb3⟩;have HW2:=Lib.hid hw2;have HW13:=Lib.hid (HW1.out.later hb3);have HB3:=Lib.hid (HB2.out.trans (hb3.mono HB2.out.size));have HR3:=Lib.hid (RdJ.blw HR2.out (hb3.mono hs2));have hs3:=Nat.le_trans hs2 hb3.size;clear hw2 hb3))
    | (go_at_call 67;(with_reducible refine (HDY.out _ _ _ _ _ HR3.out hs3 HN1.out).mono ?_);go_must (rintro e w4 ⟨g3,p3,rfl,hg3,hw3,hb4⟩;have HW34:=Lib.hid hw3;have HW14:=Lib.hid (HW13.out.later hb4);have HW24:=Lib.hid (HW2.out.later hb4);have HB4:=Lib.hid (HB3.out.trans (hb4.mono HB3.out.size));clear hw3 hb4))
    | (go_at_call 68;(with_reducible refine (wbitsR_any _ _ _ _ HW14.out).mono ?_);go_must (rintro e w5 ⟨rfl,rfl⟩))
    | (go_at_call 68;(with_reducible refine (wbitsR_any _ _ _ _ HW24.out).mono ?_);go_must (rintro e w5 ⟨rfl,rfl⟩))
    | (go_at_call 68;(with_reducible refine (wbitsR_any _ _ _ _ HW34.out).mono ?_);go_must (rintro e w5 ⟨rfl,rfl⟩))
    | (go_at_call 69;(with_reducible refine (wbytesR_any _ _ _ _ HW14.out (by rw [← HD.out];exact hmx)).mono ?_);go_must (rintro e w6 ⟨v6,bz,rfl,ho6,hz6,hb6⟩;have HO6:=Lib.hid (ho6.mono HB4.out.size);have HZ6:=Lib.hid hz6;have HB6:=Lib.hid (HB4.out.trans (hb6.mono HB4.out.size));clear ho6 hz6 hb6))
    | (go_at_call 69;(with_reducible refine (wbytesR_any _ _ _ _ HW24.out (by rw [← HD.out];exact hmx)).mono ?_);go_must (rintro e w6 ⟨v6,bz,rfl,ho6,hz6,hb6⟩;have HO6:=Lib.hid (ho6.mono HB4.out.size);have HZ6:=Lib.hid hz6;have HB6:=Lib.hid (HB4.out.trans (hb6.mono HB4.out.size));clear ho6 hz6 hb6))
    | (go_at_call 69;(with_reducible refine (wbytesR_any _ _ _ _ HW34.out (by rw [← HD.out];exact hmx)).mono ?_);go_must (rintro e w6 ⟨v6,bz,rfl,ho6,hz6,hb6⟩;have HO6:=Lib.hid (ho6.mono HB4.out.size);have HZ6:=Lib.hid hz6;have HB6:=Lib.hid (HB4.out.trans (hb6.mono HB4.out.size));clear ho6 hz6 hb6)))
   go_ret2
   exact ⟨v6,bz,rfl,HO6.out,(by rw [HD.out];exact HZ6.out),HB6.out⟩
  ·rw [if_neg h2] at hD
   have i2:¬ (L3.length:Int) < (L1.length:Int):=by omega
   have HD:=Lib.hid hD
   clear hD
   go_enter Tryz.func23,Tryz.ntmps23
   go_wp2_with (first
    | (go_at_call 64;(with_reducible refine HFI.out.mono ?_);go_must (rintro e w1 ⟨A1,n1,c1,rfl,hn1,hr1,hb1⟩;have HN1:=Lib.hid hn1;have HR1:=Lib.hid hr1;have HB1:=Lib.hid hb1;clear hn1 hr1 hb1))
    | (go_at_call 65;(with_reducible refine (HST.out _ HB1.out).mono ?_);go_must (rintro e w2 ⟨g1,p1,rfl,hg1,hw1,hb2⟩;have HW1:=Lib.hid hw1;have HB2:=Lib.hid (HB1.out.trans (hb2.mono HB1.out.size));have HR2:=Lib.hid (RdJ.blw HR1.out hb2);have hs2:=hb2.size;clear hw1 hb2))
    | (go_at_call 66;(with_reducible refine (HFX.out _ _ _ _ _ HR2.out hs2 HN1.out).mono ?_);go_must (rintro e w3 ⟨g2,p2,rfl,hg2,hw2,hb3⟩;have HW2:=Lib.hid hw2;have HW13:=Lib.hid (HW1.out.later hb3);have HB3:=Lib.hid (HB2.out.trans (hb3.mono HB2.out.size));have HR3:=Lib.hid (RdJ.blw HR2.out (hb3.mono hs2));have hs3:=Nat.le_trans hs2 hb3.size;clear hw2 hb3))
    | (go_at_call 67;(with_reducible refine (HDY.out _ _ _ _ _ HR3.out hs3 HN1.out).mono ?_);go_must (rintro e w4 ⟨g3,p3,rfl,hg3,hw3,hb4⟩;have HW34:=Lib.hid hw3;have HW14:=Lib.hid (HW13.out.later hb4);have HW24:=Lib.hid (HW2.out.later hb4);have HB4:=Lib.hid (HB3.out.trans (hb4.mono HB3.out.size));clear hw3 hb4))
    | (go_at_call 68;(with_reducible refine (wbitsR_any _ _ _ _ HW14.out).mono ?_);go_must (rintro e w5 ⟨rfl,rfl⟩))
    | (go_at_call 68;(with_reducible refine (wbitsR_any _ _ _ _ HW24.out).mono ?_);go_must (rintro e w5 ⟨rfl,rfl⟩))
    | (go_at_call 68;(with_reducible refine (wbitsR_any _ _ _ _ HW34.out).mono ?_);go_must (rintro e w5 ⟨rfl,rfl⟩))
    | (go_at_call 69;(with_reducible refine (wbytesR_any _ _ _ _ HW14.out (by rw [← HD.out];exact hmx)).mono ?_);go_must (rintro e w6 ⟨v6,bz,rfl,ho6,hz6,hb6⟩;have HO6:=Lib.hid (ho6.mono HB4.out.size);have HZ6:=Lib.hid hz6;have HB6:=Lib.hid (HB4.out.trans (hb6.mono HB4.out.size));clear ho6 hz6 hb6))
    | (go_at_call 69;(with_reducible refine (wbytesR_any _ _ _ _ HW24.out (by rw [← HD.out];exact hmx)).mono ?_);go_must (rintro e w6 ⟨v6,bz,rfl,ho6,hz6,hb6⟩;have HO6:=Lib.hid (ho6.mono HB4.out.size);have HZ6:=Lib.hid hz6;have HB6:=Lib.hid (HB4.out.trans (hb6.mono HB4.out.size));clear ho6 hz6 hb6))
    | (go_at_call 69;(with_reducible refine (wbytesR_any _ _ _ _ HW34.out (by rw [← HD.out];exact hmx)).mono ?_);go_must (rintro e w6 ⟨v6,bz,rfl,ho6,hz6,hb6⟩;have HO6:=Lib.hid (ho6.mono HB4.out.size);have HZ6:=Lib.hid hz6;have HB6:=Lib.hid (HB4.out.trans (hb6.mono HB4.out.size));clear ho6 hz6 hb6)))
   go_ret2
   exact ⟨v6,bz,rfl,HO6.out,(by rw [HD.out];exact HZ6.out),HB6.out⟩
set_option maxRecDepth 100000 in
set_option maxHeartbeats 3200000 in
theorem pack5_any (B n c:Nat) (A:Option Addr) (bs S:List UInt8) (w:World) (h:RdB w B A n bs) (hB:B≤w.heap.size) (hn:n≤40000) (hS:beR ((adler bs:Nat):Int) 4=(S,0)) (hS4:S.length=4) :
  Calls Tryz.prog 33 #[.slice A n c] w fun e w'=>∃ v bz,e=.returned (.tuple #[v,.int .i64 0])∧ownB w' w.heap.size v (packL bz S)∧WB bz (deflB bs (findP bs))∧Below w.heap.size w w':=by
 have HD:=Lib.hid (deflate5_any B n c A bs w h hB hn)
 have HR:=Lib.hid h
 have hx:=adler_lt bs
 have HAD:=Lib.hid (fun w1 (h:RdB w1 B A n bs)=>adlerR_any B n c A bs w1 h (by omega))
 have HBG:=Lib.hid (fun w=>bigR_any ((adler bs:Nat):Int) 4 w)
 rw [hS] at HBG
 have hl:=h.len
 generalize adler bs=x at *
 clear h hS
 go_enter Tryz.func33,Tryz.ntmps33
 go_wp2_with (first
  | (go_at_call 23;(with_reducible refine HD.out.mono ?_);go_must (rintro e w1 ⟨v1,bz,rfl,ho1,hz1,hb1⟩;have hbz:=best_len hz1;obtain ⟨A1,c1,rfl,hr1,-,-⟩:=ho1.form;have HAD1:=Lib.hid (HAD.out w1 (HR.out.blw (hb1.mono hB)));have HR1:=Lib.hid hr1;have HB1:=Lib.hid hb1;have HZ1:=Lib.hid hz1;have hsz1:=hb1.size;clear ho1 hz1 hb1 hr1))
  | (go_at_call 75;(with_reducible refine HAD1.out.mono ?_);go_must (rintro e w2 ⟨rfl,rfl⟩))
  | (go_at_call 74;(with_reducible refine (HBG.out _).mono ?_);go_must (rintro e w3 ⟨v3,rfl,ho3,hb3⟩;obtain ⟨A3,c3,rfl,-,-,-⟩:=ho3.form;have hr3:=ownB.rd ho3;rw [hS4] at hr3;have HR3:=Lib.hid (Rd.alloc hr3 (Nat.le_refl _) (.cells #[Value.int .u8 120,Value.int .u8 156] 5));have HR13:=Lib.hid (Rd.alloc (RdB.blw HR1.out hb3) hb3.size (.cells #[Value.int .u8 120,Value.int .u8 156] 5));have hsz3:=hb3.size;have HB3:=Lib.hid (HB1.out.trans (hb3.mono hsz1));have HOL:=Lib.hid (own_lit w3 [120,156] (by decide));have hqa:w3.heap.size≤(w3.alloc (.cells #[Value.int .u8 120,Value.int .u8 156] 5)).heap.size:=alloc_le _ _;have hqb:([120,156]:List UInt8).length+bz.length≤140737488355328:=(by show 2+bz.length≤_;omega);clear ho3 hb3 hr3))
  | (at_builtin;(refine wpList_appendB rfl (.tmp 25) (.tmp 26) rfl w3.heap.size v4 ([120,156] ++ bz) rfl HO4.out _ 4 c3 A3 S rfl HR4.out hqc hqd ?_;intro v5 w5 ho5 hg5 hb5 ha5;have HB5:=Lib.hid (HB4.out.trans (hb5.mono (by omega)));have HO5:=Lib.hid (ownB.mono ho5 (by omega:w.heap.size≤w3.heap.size));clear ho5 hg5 hb5 ha5))
  | (at_builtin;(refine wpList_appendB rfl (.tmp 23) (.tmp 24) rfl w3.heap.size (.slice (some ⟨w3.heap.size,0,none⟩) 2 2) [120,156] rfl HOL.out w1.heap.size bz.length c1 A1 bz rfl HR13.out hqb hqa ?_;intro v4 w4 ho4 hg4 hb4 ha4;have hz4:=hb4.size;have hqd:w3.heap.size≤w4.heap.size:=(by omega);have hqc:(([120,156]:List UInt8) ++ bz).length+4≤140737488355328:=(by rw [List.length_append];show 2+bz.length+4≤_;omega);have HR4:=Lib.hid (Rd.below HR3.out hb4);have HB4:=Lib.hid ((HB3.out.alloc (by omega) (.cells #[Value.int .u8 120,Value.int .u8 156] 5)).trans (hb4.mono (by omega)));have HO4:=Lib.hid ho4;clear ho4 hg4 hb4 ha4)))
 go_ret2
 exact ⟨_,bz,rfl,HO5.out,HZ1.out,HB5.out⟩
end Go.Proofs.YteoolehdomjkkaaGreat

