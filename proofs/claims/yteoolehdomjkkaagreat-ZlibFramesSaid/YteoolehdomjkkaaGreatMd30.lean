/- Merged: Iq6, Iq7, Rd9, Rd10, Rd6. -/
import Derived.BigQuiet
import Derived.Deep.RegionHeld3
import Derived.Test.YteoolehdomjkkaaGreatMd29
import Derived.Test.YteoolehdomjkkaaGreatMd24
import Derived.Test.YteoolehdomjkkaaGreatMd07
import Derived.Test.YteoolehdomjkkaaGreatMd28
import Derived.Test.YteoolehdomjkkaaGreatMd27
/- flate: the document's reader of blocks: a block by two lists of lengths. -/
namespace Go.Proofs.YteoolehdomjkkaaGreat
set_option linter.all false
open Go.RowKit
/-- The document's decoder, or none, as a pointer. -/
def DV5 (w:World) (r g:Nat) (vo:Value) (dv:Value) (dl:Option (List Int)):Prop:=(dv=.pointer none∧dl=none)∨∃ gd ds,dv=.pointer (some ⟨gd,0,none⟩)∧dl=some ds∧DK5 w r g vo gd ds∧OkL ds
theorem DV5.fr {w w':World} {r g:Nat} {vo vo' dv:Value} {dl:Option (List Int)} (h:DV5 w r g vo dv dl) (hf:RFr w w' r g vo vo'):DV5 w' r g vo' dv dl:=by
 rcases h with h | ⟨gd,ds,h1,h2,h3,h4⟩
 ·exact .inl h
 ·exact .inr ⟨gd,ds,h1,h2,h3.fr hf,h4⟩
theorem distOf_pos {p:Nat} (h:p < 30):1≤(distOf p).1:=by
 rcases le29 (show p≤29 by omega) with rfl | rfl | rfl | rfl | rfl | rfl | rfl | rfl | rfl | rfl | rfl | rfl | rfl | rfl | rfl | rfl | rfl | rfl | rfl | rfl | rfl | rfl | rfl | rfl | rfl | rfl | rfl | rfl | rfl | rfl <;> decide
theorem nextP0 (bs:List UInt8) (ls:List Int) (P:Nat) (out:List UInt8):nextP bs ls ⟨P,out,0⟩=((nx ls bs 15 1 0 P).1,⟨(nx ls bs 15 1 0 P).2.2,out,(nx ls bs 15 1 0 P).2.1⟩):=by
 unfold nextP
 rw [if_pos rfl]
section
variable (r g n c P : Nat) (A : Option Addr) (bs : List UInt8) (vo : Value) (out : List UInt8) (most : Int) (w : World)
set_option maxRecDepth 100000 in
set_option maxHeartbeats 6400000 in
theorem icodes_any (B nx' ny cx cy:Nat) (Ax Ay:Option Addr) (ll dd:List Int) (f:Nat) (h:FI w r g A n c P bs vo out most) (hx:RdI w B Ax nx' ll) (hy:RdI w B Ay ny dd) (hB:B≤w.heap.size) (hnx:nx'≤1000) (hny:ny≤1000) (hll:nwE ll=0) (hm:most≤1000000) (ho:(out.length:Int)≤most) (hf:8 * n+1≤P+f) :
  Calls Tryz.prog 132 #[.pointer (some ⟨r,0,none⟩),.slice Ax nx' cx,.slice Ay ny cy] w (IqPost r g n c A bs vo most w (toksF bs most ll (if nwE dd=0 then some dd else none) f ⟨P,out,0⟩)):=by
 obtain ⟨dl,hdl⟩:∃ dl,(if nwE dd=0 then some dd else none)=dl:=⟨_,rfl⟩
 rw [hdl]
 have HOKD:=Lib.hid (fun h=>nwE_ok (ls:=dd) h)
 obtain ⟨E2,hE2⟩:∃ E2,nwE dd=E2:=⟨_,rfl⟩
 rw [hE2] at hdl HOKD
 have HDLE:=Lib.hid hdl
 have hrw:=h.arr.lt
 have hgr:=h.gr
 have HBL:=Lib.hid h.rb.len
 have HVO:Hid (∀ k,vo.ownBlock=some k→k < w.heap.size):=(show ∀ k,_ from fun k hk=>(World.ownsRow.lt h.own k hk).2)
 have HOK:=Lib.hid (nwE_ok hll)
 have HN1:=new5G_any B nx' cx Ax ll w hx hB (by omega)
 unfold New5G at HN1
 rw [hll] at HN1
 replace HN1:=Lib.hid HN1
 have HN2:=fun w1 (h:RdI w1 B Ay ny dd) (hb:B≤w1.heap.size)=>new5G_any B ny cy Ay dd w1 h hb (by omega)
 unfold New5G at HN2
 rw [hE2] at HN2
 replace HN2:=Lib.hid HN2
 have HDV:Hid (∀ (w1 w2:World) (v2:Value),(E2=0→∃ gd,v2=.pointer (some ⟨gd,0,none⟩)∧DecG5 w2 w1.heap.size gd dd)→(E2 ≠ 0→v2=.pointer none)→r < w1.heap.size→g < w1.heap.size→w.heap.size≤w1.heap.size→DV5 w2 r g vo v2 dl):=(show ∀ (w1 w2:World) (v2:Value),_ from fun w1 w2 v2 hv2 hn2 h1 h2 h3=>by
  rw [← HDLE.out]
  by_cases hE:E2=0
  ·obtain ⟨gd,rfl,hdg⟩:=hv2 hE
   rw [if_pos hE]
   exact .inr ⟨gd,dd,rfl,rfl,DK5.new (r:=r) (g:=g) (vo:=vo) hdg h1 h2 (fun k hk=>by have:=HVO.out k hk;omega),HOKD.out hE⟩
  ·rw [if_neg hE]
   exact .inl ⟨hn2 hE,rfl⟩)
 have HY:=Lib.hid hy
 have H:=Lib.hid h
 have HO:=Lib.hid ho
 have HFU:=Lib.hid hf
 obtain ⟨R,hR⟩:∃ R,toksF bs most ll dl f ⟨P,out,0⟩=R:=⟨_,rfl⟩
 rw [hR]
 have HL0:=Lib.hid hR
 clear h hx hy hll hdl ho hf hR hE2
 go_enter Tryz.func132,Tryz.ntmps132
 go_wp2_with (first
  | (go_at_call 167;(with_reducible refine HN1.out.mono ?_);go_must (rintro e w1 ⟨v1,rfl,hv1,-,hb1⟩;obtain ⟨gl,rfl,hdg⟩:=hv1 rfl;have hs1:=hb1.size;have HF1:=Lib.hid (H.out.later hb1);have HR1:=Lib.hid (RFr.ofB hb1 r g vo);have HK1:=Lib.hid (DK5.new (r:=r) (g:=g) (vo:=vo) hdg hrw (by omega) HVO.out);have HN21:=Lib.hid (HN2.out w1 (RdI.blw HY.out (hb1.mono hB)) (by omega));clear hv1 hb1 hdg))
  | (go_at_call 167;(with_reducible refine HN21.out.mono ?_);go_must (rintro e w2 ⟨v2,rfl,hv2,hn2,hb2⟩;have HR2:=Lib.hid (HR1.out.trans (RFr.ofB hb2 r g vo));have HF2:=Lib.hid (HF1.out.later hb2);have HK2:=Lib.hid (HK1.out.fr (RFr.ofB hb2 r g vo));have HD2:=Lib.hid (HDV.out w1 w2 v2 hv2 hn2 (by omega) (by omega) hs1);clear hv2 hn2 hb2 HK1 HF1 HR1)))
 have HRR:=Lib.hid (RFr.refl w2 r g vo)
 go_loopw [11] (fun v11 wr=>∃ (P':Nat) (vq:Value) (out':List UInt8) (f:Nat),Hid (FI wr r g A n c P' bs vq out' most)∧Hid (RFr w2 wr r g vo vq)∧Hid (8 * n+1≤P'+f)∧Hid (toksF bs most ll dl f ⟨P',out',0⟩=R)∧Hid ((out'.length:Int)≤most)) (fun _ wr=>8 * n+1 - posOf wr g)
 case atStart=>exact ⟨P,vo,out,f,HF2,HRR,HFU,HL0,HO⟩
 case round =>
  clear HF2 HRR HFU HL0 HO H HN1 HN2 HN21
  obtain ⟨P',vq,out',f,HF,HR,HFU,HL,HO⟩:=hrel
  have hfit:P'≤8 * n:=HF.out.fit
  have hpos:=posOf_eq HF.out.rd
  have c0:=HF.out.arr.cell (k:=0) rfl
  obtain ⟨f,rfl⟩:∃ f',f=f'+1:=⟨f - 1,by have:=HFU.out;omega⟩
  have HN:=Lib.hid (inext_any r g gl n c P' A bs vq out' most ll wr HF.out (HK2.out.fr HR.out) HOK.out)
  have HNP:=Lib.hid (nextP0 bs ll P' out')
  obtain ⟨q,hq1,hq2,hq3⟩:=nx_val ll bs 15 1 0 P'
  have hq300:q≤300:=by have:=HOK.out.2.2;omega
  have HPP:=Lib.hid (fun h2=>nx_step ll bs 15 1 0 P' h2)
  rw [hq1] at HN HNP
  clear hq1 hq2 hq3
  generalize (nx ll bs 15 1 0 P').2.2=P1 at *
  generalize (nx ll bs 15 1 0 P').2.1=e1 at *
  obtain ⟨L,hL⟩:∃ L,out'.length=L:=⟨_,rfl⟩
  have HLL:=Lib.hid hL
  rw [hL] at HO
  have hLm:(L:Int)≤most:=HO.out
  clear hL
  by_cases ht:e1=0
  ·subst ht
   have HP1:P' < P1:=HPP.out rfl
   clear HPP
   by_cases h285:285 < q
   ·have h285i:(285:Int) < (q:Int):=by omega
    have HE:Hid (¬ R.e=0):=(show ¬ _ by
     rw [← HL.out,toks_copy rfl (by rw [HNP.out]) (by rw [HNP.out];show (256:Int) < (q:Int);omega)]
     exact toks_err (copyP_high (by rw [HNP.out];show 286≤q;omega)))
    go_wp2_with (go_at_call 168;(with_reducible refine HN.out.mono ?_);go_must (rintro e w5 ⟨rfl,hf5,hr5⟩; have HF5:=Lib.hid hf5;have HR5:=Lib.hid (HR.out.trans hr5);clear hf5 hr5))
    go_ret
    unfold IqPost
    exact ⟨false,_,_,_,rfl,HF5.out,HR2.out.trans (HR5.out),.inr ⟨rfl,HE.out⟩⟩
   ·have h285i:¬ (285:Int) < (q:Int):=by omega
    by_cases h256:q=256
    ·subst h256
     have HE:Hid (R=⟨P1,out',0⟩):=(show _=_ by
      rw [← HL.out,toks_end rfl (by rw [HNP.out]) (by rw [HNP.out];rfl),HNP.out])
     go_wp2_with (go_at_call 168;(with_reducible refine HN.out.mono ?_);go_must (rintro e w5 ⟨rfl,hf5,hr5⟩; have HF5:=Lib.hid hf5;have HR5:=Lib.hid (HR.out.trans hr5);clear hf5 hr5))
     go_ret
     unfold IqPost
     exact ⟨true,_,_,_,rfl,HF5.out,HR2.out.trans (HR5.out),.inl ⟨rfl,HE.out⟩⟩
    ·have hb256:((q:Int) == 256)=false:=beq_eq_false_iff_ne.2 (by omega)
     by_cases hlt:q < 256
     ·have hlti:(q:Int) < 256:=by omega
      have HST:Hid (toksF bs most ll dl f (givesP most ⟨P1,out',0⟩ (UInt8.ofNat q))=R):=(show _=_ by
       rw [← HL.out,toks_byte rfl (by rw [HNP.out]) (by rw [HNP.out];exact hlti),HNP.out];rfl)
      by_cases hov:most≤(L:Int)
      ·have HE:Hid (¬ R.e=0):=(show ¬ _ by rw [← HST.out];exact toks_err (givesP_bad (by show most≤((out'.length:Nat):Int);rw [HLL.out];exact hov)))
       have hovd:decide ((L:Int) ≥ most)=true:=decide_eq_true hov
       obtain ⟨Aq,cq,hvq,-,-,-⟩:=HF.out.own.form
       subst hvq
       rw [HLL.out] at HN HF HR
       go_upto_region 11 with (first
        | (go_at_call 168;(with_reducible refine HN.out.mono ?_);go_must (rintro e w5 ⟨rfl,hf5,hr5⟩;have hr5l:r < w5.heap.size:=hf5.arr.lt;have c51:=hf5.arr.cell (k:=1) rfl;have c52:=hf5.arr.cell (k:=2) rfl;have HF5:=Lib.hid hf5;have HR5:=Lib.hid (HR.out.trans hr5);clear hf5 hr5)))
       go_quiet (fail)
       go_wp2_with fail
       go_ret
       unfold IqPost
       exact ⟨false,_,_,_,rfl,HF5.out.drewN _,HR2.out.trans (HR5.out.drewN _),.inr ⟨rfl,HE.out⟩⟩
      ·obtain ⟨x,hx⟩:∃ x:UInt8,q=x.toNat:=⟨UInt8.ofNat q,by rw [UInt8.toNat_ofNat'];exact (Nat.mod_eq_of_lt (by omega)).symm⟩
       subst hx
       have hxo:UInt8.ofNat x.toNat=x:=by simp
       rw [hxo,givesP_ok (by show ((out'.length:Nat):Int) < most;rw [HLL.out];omega)] at HST
       have hx8:=x.toNat_lt
       have hx9:(x.toNat:Int) % 256=(x.toNat:Int):=Int.emod_eq_of_lt (by omega) (by omega)
       have HO6:Hid ((((out' ++ [x]).length:Nat):Int)≤most):=(show _≤_ by rw [List.length_append,HLL.out];show ((L+1:Nat):Int)≤most;omega)
       have HFU6:Hid (8 * n+1≤P1+f):=(show _≤_ by have:=HFU.out;omega)
       have hlen2:out'.length+1≤140737488355328:=by rw [HLL.out];omega
       clear hxo
       have hovd:decide ((L:Int) ≥ most)=false:=decide_eq_false (by omega)
       obtain ⟨Aq,cq,hvq,-,-,-⟩:=HF.out.own.form
       subst hvq
       rw [HLL.out] at HN HF HR
       go_upto_region 11 with (first
        | (go_at_call 168;(with_reducible refine HN.out.mono ?_);go_must (rintro e w5 ⟨rfl,hf5,hr5⟩;have hr5l:r < w5.heap.size:=hf5.arr.lt;have c51:=hf5.arr.cell (k:=1) rfl;have c52:=hf5.arr.cell (k:=2) rfl;have HF5:=Lib.hid hf5;have HR5:=Lib.hid (HR.out.trans hr5);clear hf5 hr5)))
       go_quiet (fail)
       have HFQ:=Lib.hid (HF5.out.drewN nq)
       have HRQ:=Lib.hid (HR5.out.drewN nq)
       have hrqm:r+1≤(w5.drewN nq).heap.size+1:=by show r+1≤w5.heap.size+1;omega
       generalize w5.drewN nq=wq at HFQ HRQ hrqm ⊢
       have c1q:=HFQ.out.arr.cell (k:=1) rfl
       go_wp2_with (at_builtin;go_must (refine wpList_appendB rfl (.tmp 72) (.tmp 75) rfl (r+1) (.slice Aq L cq) out' rfl (ownB.alloc HFQ.out.own _) (wq.heap.size+1) 1 1 (some ⟨wq.heap.size,0,none⟩) [x] rfl (rd_one wq (x.toNat:Int) x rfl) hlen2 (by rw [World.size_alloc];exact hrqm) ?_;intro v6 w6 hown hgb hbl6 hat;obtain ⟨A6,c6,rfl,-,-,-⟩:=hown.form;obtain ⟨hf6,hr6,c61,f61⟩:=HFQ.out.gave hown hgb hbl6 hat;obtain ⟨l6,hl6⟩:∃ l,(out' ++ [x]).length=l:=⟨_,rfl⟩;rw [hl6] at hf6 hr6 ⊢;clear hl6;have HF6:=Lib.hid hf6;have HR6:=Lib.hid (HRQ.out.trans hr6);have hpos6:=posOf_eq hf6.rd;clear hf6 hr6 hown hgb hbl6 hat))
       go_roundw
       case rel=>exact ⟨P1,_,out' ++ [x],f,HF6,HR6,HFU6,HST,HO6⟩
       case measure=>rw [hpos6,hpos];omega
     ·have hlti:¬ (q:Int) < 256:=by omega
      obtain ⟨k,hk⟩:∃ k,q - 257=k:=⟨_,rfl⟩
      have hk28:k≤28:=by omega
      have HQK:=Lib.hid hk
      have hqk:(q:Int)=257+(k:Int):=by omega
      have HST:Hid (toksF bs most ll dl f (copyP bs most ⟨P1,out',0⟩ q dl)=R):=(show _=_ by
       rw [← HL.out,toks_copy rfl (by rw [HNP.out]) (by rw [HNP.out];show (256:Int) < (q:Int);omega),HNP.out];rfl)
      have HLO:=Lib.hid (fun w=>lengthOf5_any k (q:Int) hqk hk28 w)
      have hlb:=lenOf_le hk28
      have HCG:Hid (¬ P1+(lenOf k).2≤8 * n→¬ R.e=0):=(show _→_ from fun hf=>by
       rw [← HST.out]
       refine toks_err (copyP_get ?_)
       rw [HQK.out]
       exact getP_bad (by rw [HBL.out];exact hf))
      have HC0:Hid (P1+(lenOf k).2≤8 * n→dl=none→¬ R.e=0):=(show _→_→_ from fun hf hd=>by
       rw [← HST.out,hd]
       exact toks_err copyP_none)
      have HC1:Hid (∀ ds,P1+(lenOf k).2≤8 * n→dl=some ds→copyP bs most ⟨P1,out',0⟩ q dl=cpB bs most ⟨P1+(lenOf k).2,out',0⟩ ((lenOf k).1+getV bs P1 (lenOf k).2) (some ds)):=(show ∀ ds,_ from fun ds hf hd=>by
       have e1:getP bs (⟨P1,out',0⟩:RS) (lenOf k).2=(getV bs P1 (lenOf k).2,⟨P1+(lenOf k).2,out',0⟩):=getP_ok rfl (by rw [HBL.out];exact hf)
       rw [hd,copyP_go (by omega) (by rw [HQK.out,e1]),HQK.out,e1])
      have HGB:Hid (∀ w1,FI w1 r g A n c P1 bs vq out' most→¬ P1+(lenOf k).2≤8 * n→Calls Tryz.prog 130 #[.pointer (some ⟨r,0,none⟩),.int .i64 ((lenOf k).2:Int)] w1 fun e w'=>e=.returned (.tuple #[.int .i64 0,.bool false])∧FI w' r g A n c P1 bs vq out' most∧RFr w1 w' r g vq vq):=(show ∀ w1,_ from fun w1 h hh=>iget_bad r g n c P1 (lenOf k).2 A bs vq out' most _ w1 rfl h (by omega) hh)
      have HGG:Hid (∀ w1,FI w1 r g A n c P1 bs vq out' most→P1+(lenOf k).2≤8 * n→Calls Tryz.prog 130 #[.pointer (some ⟨r,0,none⟩),.int .i64 ((lenOf k).2:Int)] w1 fun e w'=>e=.returned (.tuple #[.int .i64 ((getV bs P1 (lenOf k).2:Nat):Int),.bool true])∧FI w' r g A n c (P1+(lenOf k).2) bs vq out' most∧RFr w1 w' r g vq vq):=(show ∀ w1,_ from fun w1 h hh=>iget_ok r g n c P1 (lenOf k).2 A bs vq out' most _ w1 rfl h (by omega) hh)
      have hv1:=getV_lt bs P1 (lenOf k).2
      have hv2:getV bs P1 (lenOf k).2 < 32:=Nat.lt_of_lt_of_le hv1 (Nat.pow_le_pow_right (n:=2) (by decide) hlb.2)
      clear hv1
      generalize getV bs P1 (lenOf k).2=m1 at *
      generalize (lenOf k).2=kb at *
      generalize (lenOf k).1=n1 at *
      generalize copyP bs most ⟨P1,out',0⟩ q dl=CP at *
      clear hk hqk
      by_cases hf1:P1+kb≤8 * n
      ·have HG5:=Lib.hid (fun w1 h=>HGG.out w1 h hf1)
       have HD:=Lib.hid (HD2.out.fr HR.out)
       rcases HD.out with ⟨hvn,hdn⟩ | ⟨gd,ds,hvn,hdn,-,hokd⟩
       ·have HE:=Lib.hid (HC0.out hf1 hdn)
        subst hvn
        clear hdn HC0 HC1 HGB HGG HD
        go_wp2_with (first
         | (go_at_call 168;(with_reducible refine HN.out.mono ?_);go_must (rintro e w5 ⟨rfl,hf5,hr5⟩;have HG55:=Lib.hid (HG5.out w5 hf5);have hr5x:=Lib.hid hr5;have HF5:=Lib.hid hf5;have HR5:=Lib.hid (HR.out.trans hr5);clear hf5 hr5))
         | (go_at_call 169;(with_reducible refine (HLO.out _).mono ?_);go_must (rintro e w9 ⟨rfl,rfl⟩))
         | (go_at_call 130;(with_reducible refine HG55.out.mono ?_);go_must (rintro e w6 ⟨rfl,hf6,hr6⟩; have HF6:=Lib.hid hf6;have HR6:=Lib.hid (HR5.out.trans hr6);clear hf6 hr6 HG55)))
        go_ret
        unfold IqPost
        exact ⟨false,_,_,_,rfl,HF6.out,HR2.out.trans (HR6.out),.inr ⟨rfl,HE.out⟩⟩
       ·have HCP:=Lib.hid (HC1.out ds hf1 hdn)
        have HOKD2:=Lib.hid hokd
        subst hvn
        obtain ⟨P2,hP2⟩:∃ P2,P1+kb=P2:=⟨_,rfl⟩
        rw [hP2] at HG5 HCP
        have hP12:P1≤P2:=by omega
        have hf2:P2≤8 * n:=by omega
        -- the distance
        have HDKD:Hid (∀ w6,RFr wr w6 r g vq vq→DK5 w6 r g vq gd ds):=(show ∀ w6,_ from fun w6 hr=>by
         rcases HD.out.fr hr with ⟨h1,h2⟩ | ⟨gd',ds',h1,h2,h3,-⟩
         ·cases h1
         ·injection h1 with h1
          injection h1 with h1
          injection h1 with h1
          rw [hdn] at h2
          injection h2 with h2
          subst h1 h2
          exact h3)
        have HN2:=Lib.hid (fun w6 (h:FI w6 r g A n c P2 bs vq out' most) (hd:DK5 w6 r g vq gd ds)=>inext_any r g gd n c P2 A bs vq out' most ds w6 h hd HOKD2.out)
        have HNP2:=Lib.hid (nextP0 bs ds P2 out')
        obtain ⟨p,hp1,hp2,hp3⟩:=nx_val ds bs 15 1 0 P2
        have hp300:p≤300:=by have:=HOKD2.out.2.2;omega
        have HPP2:=Lib.hid ((nx_le ds bs 15 1 0 P2 (by rw [HBL.out];exact hf2)).2)
        rw [hp1] at HN2 HNP2
        clear hp1 hp2 hp3 HC0 HC1 HGB HGG hP2 HD
        generalize (nx ds bs 15 1 0 P2).2.2=P3 at *
        generalize (nx ds bs 15 1 0 P2).2.1=e2 at *
        have hP23:P2≤P3:=HPP2.out
        by_cases hbad:e2=0∧p < 30
        ·obtain ⟨rfl,hp30⟩:=hbad
         have hp29:¬ (29:Int) < (p:Int):=by omega
         have HDO:=Lib.hid (fun w=>distOf5_any p (p:Int) rfl hp30 w)
         have hdb:=distOf_le (show p≤29 by omega)
         have HDG:Hid (¬ P3+(distOf p).2≤8 * n→¬ R.e=0):=(show _→_ from fun hf=>by
          rw [← HST.out,HCP.out,cpB_go (by rw [HNP2.out];show (p:Int) < 30;omega),HNP2.out]
          exact toks_err (copies_err (getP_bad (by rw [HBL.out];exact hf))))
         have HDC:Hid (P3+(distOf p).2≤8 * n→CP=copiesP most ⟨P3+(distOf p).2,out',0⟩ (n1+m1) ((distOf p).1+getV bs P3 (distOf p).2)):=(show _→_ from fun hf=>by
          have e1:getP bs (⟨P3,out',0⟩:RS) (distOf p).2=(getV bs P3 (distOf p).2,⟨P3+(distOf p).2,out',0⟩):=getP_ok rfl (by rw [HBL.out];exact hf)
          rw [HCP.out,cpB_go (by rw [HNP2.out];show (p:Int) < 30;omega),HNP2.out]
          show copiesP most (getP bs ⟨P3,out',0⟩ (distOf p).2).2 _ _=_
          rw [e1]
          show copiesP most _ _ ((distOf p).1+(getP bs ⟨P3,out',0⟩ (distOf p).2).1)=_
          rw [e1])
         have HHB:Hid (∀ w1,FI w1 r g A n c P3 bs vq out' most→¬ P3+(distOf p).2≤8 * n→Calls Tryz.prog 130 #[.pointer (some ⟨r,0,none⟩),.int .i64 ((distOf p).2:Int)] w1 fun e w'=>e=.returned (.tuple #[.int .i64 0,.bool false])∧FI w' r g A n c P3 bs vq out' most∧RFr w1 w' r g vq vq):=(show ∀ w1,_ from fun w1 h hh=>iget_bad r g n c P3 (distOf p).2 A bs vq out' most _ w1 rfl h (by omega) hh)
         have HHG:Hid (∀ w1,FI w1 r g A n c P3 bs vq out' most→P3+(distOf p).2≤8 * n→Calls Tryz.prog 130 #[.pointer (some ⟨r,0,none⟩),.int .i64 ((distOf p).2:Int)] w1 fun e w'=>e=.returned (.tuple #[.int .i64 ((getV bs P3 (distOf p).2:Nat):Int),.bool true])∧FI w' r g A n c (P3+(distOf p).2) bs vq out' most∧RFr w1 w' r g vq vq):=(show ∀ w1,_ from fun w1 h hh=>iget_ok r g n c P3 (distOf p).2 A bs vq out' most _ w1 rfl h (by omega) hh)
         have hd1:1≤(distOf p).1:=distOf_pos hp30
         have hv3:=getV_lt bs P3 (distOf p).2
         have hv4:getV bs P3 (distOf p).2 < 8192:=Nat.lt_of_lt_of_le hv3 (Nat.pow_le_pow_right (n:=2) (by decide) hdb.2)
         clear hv3
         generalize getV bs P3 (distOf p).2=m2 at *
         generalize (distOf p).2=kd at *
         generalize (distOf p).1=n2 at *
         by_cases hf3:P3+kd≤8 * n
         ·have HG7:=Lib.hid (fun w1 h=>HHG.out w1 h hf3)
          have HCC:=Lib.hid (HDC.out hf3)
          obtain ⟨Aq,cq,hvq,-,-,-⟩:=HF.out.own.form
          subst hvq
          rw [HLL.out] at HN HF HR HG5 HN2 HDKD HG7
          obtain ⟨P4,hP4⟩:∃ P4,P3+kd=P4:=⟨_,rfl⟩
          rw [hP4] at HG7 HCC
          have hP34:P3≤P4:=by omega
          have hf4:P4≤8 * n:=by omega
          obtain ⟨D,hD⟩:∃ D,n2+m2=D:=⟨_,rfl⟩
          obtain ⟨M,hM⟩:∃ M,n1+m1=M:=⟨_,rfl⟩
          rw [hD,hM] at HCC
          have hDi:(n2:Int)+(m2:Int)=(D:Int):=by omega
          have hMi:(n1:Int)+(m1:Int)=(M:Int):=by omega
          have hDw:IntKind.i64.wrap (D:Int)=(D:Int):=wrap_i64_lt D (by omega)
          have hMw:IntKind.i64.wrap (M:Int)=(M:Int):=wrap_i64_lt M (by omega)
          have hDw2:IntKind.i64.wrap ((n2:Int)+(m2:Int))=(D:Int):=by rw [hDi];exact hDw
          have hMw2:IntKind.i64.wrap ((n1:Int)+(m1:Int))=(M:Int):=by rw [hMi];exact hMw
          have hD1:1≤D:=by omega
          have hDb:D≤100000:=by omega
          have hMb:M≤1000:=by omega
          have hsb:IntKind.i64.wrap (most - (L:Int))=most - (L:Int):=by obtain ⟨d,hd⟩:∃ d:Nat,most - (L:Int)=(d:Int):=⟨(most - (L:Int)).toNat,by omega⟩;rw [hd];exact wrap_i64_lt d (by omega)
          clear hD hM hP4 HHB HHG HDG HDC hd1 hdb hlb
          go_upto_region 23 with (first
           | (go_at_call 168;(with_reducible refine HN.out.mono ?_);go_must (rintro e w5 ⟨rfl,hf5,hr5⟩;have HG55:=Lib.hid (HG5.out w5 hf5);have hr5x:=Lib.hid hr5;have HF5:=Lib.hid hf5;have HR5:=Lib.hid (HR.out.trans hr5);clear hf5 hr5))
           | (go_at_call 169;(with_reducible refine (HLO.out _).mono ?_);go_must (rintro e w9 ⟨rfl,rfl⟩))
           | (go_at_call 130;(with_reducible refine HG55.out.mono ?_);go_must (rintro e w6 ⟨rfl,hf6,hr6⟩;have c60:=hf6.arr.cell (k:=0) rfl;have HN26:=Lib.hid (HN2.out w6 hf6 (HDKD.out w6 (hr5x.out.trans hr6)));have HF6:=Lib.hid hf6;have HR6:=Lib.hid (HR5.out.trans hr6);clear hf6 hr6 HG55))
           | (go_at_call 168;(with_reducible refine HN26.out.mono ?_);go_must (rintro e w7 ⟨rfl,hf7,hr7⟩;have HG77:=Lib.hid (HG7.out w7 hf7);have HF7:=Lib.hid hf7;have HR7:=Lib.hid (HR6.out.trans hr7);clear hf7 hr7 HN26))
           | (go_at_call 170;(with_reducible refine (HDO.out _).mono ?_);go_must (rintro e w9 ⟨rfl,rfl⟩))
           | (go_at_call 130;(with_reducible refine HG77.out.mono ?_);go_must (rintro e w8 ⟨rfl,hf8,hr8⟩;have HF8:=Lib.hid hf8;have HR8:=Lib.hid (HR7.out.trans hr8);have c81:=hf8.arr.cell (k:=1) rfl;have c82:=hf8.arr.cell (k:=2) rfl;clear hf8 hr8 HG77)))
          by_cases hDL:L < D
          ·have hDLi:(L:Int) < (D:Int):=by omega
           have HE:Hid (¬ R.e=0):=(show ¬ _ by
            rw [← HST.out,HCC.out]
            exact toks_err (copies_bad (by show ((out'.length:Nat):Int)≤most;rw [HLL.out];exact hLm) (fun h=>by have h1:D≤out'.length:=h.1;rw [HLL.out] at h1;omega)))
           go_quiet (fail)
           go_wp2_with fail
           go_ret
           unfold IqPost
           exact ⟨false,_,_,_,rfl,HF8.out.drewN _,HR2.out.trans (HR8.out.drewN _),.inr ⟨rfl,HE.out⟩⟩
          ·have hDLi:¬ (L:Int) < (D:Int):=by omega
           by_cases hML:most - (L:Int) < (M:Int)
           ·have HE:Hid (¬ R.e=0):=(show ¬ _ by
             rw [← HST.out,HCC.out]
             exact toks_err (copies_bad (by show ((out'.length:Nat):Int)≤most;rw [HLL.out];exact hLm) (fun h=>by have h1:((out'.length:Nat):Int)+(M:Int)≤most:=h.2;rw [HLL.out] at h1;omega)))
            go_quiet (fail)
            go_wp2_with fail
            go_ret
            unfold IqPost
            exact ⟨false,_,_,_,rfl,HF8.out.drewN _,HR2.out.trans (HR8.out.drewN _),.inr ⟨rfl,HE.out⟩⟩
           ·have HE:Hid (toksF bs most ll dl f ⟨P4,cpyN D M out',0⟩=R):=(show _=_ by
             rw [← HST.out,HCC.out,copies_ok rfl (by show D≤out'.length;rw [HLL.out];omega) (by show ((out'.length:Nat):Int)+(M:Int)≤most;rw [HLL.out];omega)])
            go_quiet (fail)
            have HF80:=Lib.hid (HF8.out.drewN nq)
            have HR80:=Lib.hid (HR8.out.drewN nq)
            clear c81 c82 HF8 HR8 HCC HST HN HNP HNP2 HN2 HCP HF6 HF7
            go_wp2_with fail
            obtain ⟨wo,rfl⟩:∃ wo:World,wo=wr:=⟨_,rfl⟩
            go_loopw [23] (fun vc wr=>∃ (i:Nat) (vz:Value),i≤M∧vc=.int .i64 i∧Hid (FI wr r g A n c P4 bs vz (cpyN D i out') most)∧Hid (RFr w2 wr r g vo vz)) (fun vc _=>M - (intOf vc).toNat)
            case atStart=>exact ⟨0,_,Nat.zero_le _,rfl,HF80,HR80⟩
            case round =>
             clear HF80 HR80
             obtain ⟨i,vz,hi,rfl,HF,HR⟩:=hrel
             obtain ⟨C,hC⟩:∃ C,(cpyN D i out').length=C:=⟨_,rfl⟩
             have hCL:C=L+i:=by rw [← hC,cpyN_len,HLL.out]
             by_cases hlt:i < M
             ·have hlti:(i:Int) < (M:Int):=by omega
              have HSN:=Lib.hid (cpyN_snoc D i out')
              obtain ⟨K,hK⟩:∃ K,C - D=K:=⟨_,rfl⟩
              have hKC:K < (cpyN D i out').length:=by rw [hC];omega
              have HGD:Hid ((cpyN D i out').getD ((cpyN D i out').length - D) 0=(cpyN D i out')[K]):=(show _=_ by
               rw [hC,hK,List.getD_eq_getElem?_getD,List.getElem?_eq_getElem hKC];rfl)
              obtain ⟨Az,cz,rfl,-,-,-⟩:=HF.out.own.form
              obtain ⟨-,gz,rfl,-,hgz⟩:=ownB.pos HF.out.own (show 0 < (cpyN D i out').length by omega)
              have ed:=ownB.cell HF.out.own rfl hKC
              rw [HGD.out] at HSN
              generalize (cpyN D i out')[K]=x at *
              generalize cpyN D i out'=cur at *
              rw [hC] at HF HR
              have hx8:=x.toNat_lt
              have c1:=HF.out.arr.cell (k:=1) rfl
              have hrw:=HF.out.arr.lt
              have HFD:=Lib.hid (HF.out.drewN 1)
              have HRD:=Lib.hid (HR.out.drewN 1)
              have HCC:=Lib.hid hC
              have k1:IntKind.i64.wrap ((C:Int) - (n2:Int))=(C:Int) - (n2:Int):=by rw [show (C:Int) - (n2:Int)=((C - n2:Nat):Int) by omega];exact wrap_i64_lt _ (by omega)
              have k2:(C:Int) - (n2:Int) - (m2:Int)=(K:Int):=by omega
              have k3:IntKind.i64.wrap (K:Int)=(K:Int):=wrap_i64_lt K (by omega)
              have k4:(K:Int) < (C:Int):=by omega
              have k5:K < C:=by omega
              have hlen2:cur.length+1≤140737488355328:=by rw [HCC.out];omega
              have hrzm:r+1≤wr.heap.size+1:=by omega
              clear hC hK hCL
              go_upto_region 28 with (fail)
              go_region_law (first
               | (refine step_appendB rfl (.tmp 162) (.tmp 178) rfl (r+1) (.slice (some ⟨gz,0,none⟩) C cz) cur rfl (ownB.alloc HFD.out.own _) (wr.heap.size+1) 1 1 (some ⟨wr.heap.size,0,none⟩) [x] rfl (rd_one (wr.drewN 1) (x.toNat:Int) x rfl) hlen2 (show r+1≤(wr.alloc (.cells #[Value.int .u8 (x.toNat:Int)] 5)).heap.size from by rw [World.size_alloc];exact hrzm) ?_;intro v6 w6 hown hgb hbl6 hat;replace hgb:((wr.drewN 1).alloc (.cells #[Value.int .u8 (x.toNat:Int)] 5)).grownBy w6 _:=hgb;replace hbl6:Below (r+1) ((wr.drewN 1).alloc (.cells #[Value.int .u8 (x.toNat:Int)] 5)) w6:=hbl6;obtain ⟨A6,c6,rfl,-,-,-⟩:=hown.form;obtain ⟨hf6,hr6,c61,f61⟩:=HFD.out.gave hown hgb hbl6 hat;rw [← HSN.out] at hf6 hr6;obtain ⟨l6,hl6⟩:∃ l,(cur ++ [x]).length=l:=⟨_,rfl⟩;rw [HSN.out,hl6] at hf6;rw [HSN.out,hl6] at hr6;rw [← HSN.out] at hf6;rw [hl6];clear hl6;have HF6:=Lib.hid hf6;have HR6:=Lib.hid (HRD.out.trans hr6);clear hf6 hr6 hown hgb hbl6 hat))
              all_goals
               go_simp
               go_wp2_with fail
               go_roundw
               case rel=>exact ⟨i+1,_,by omega,by go_num,HF6,HR6⟩
               case measure=>simp [intOf];omega
             ·obtain rfl:i=M:=by omega
              have hlti:¬ (i:Int) < (i:Int):=by omega
              have HO9:Hid ((((cpyN D i out').length:Nat):Int)≤most):=(show _≤_ by rw [hC,hCL];omega)
              have HFU9:Hid (8 * n+1≤P4+f):=(show _≤_ by have:=HFU.out;omega)
              have hpos9:=posOf_eq HF.out.rd
              clear hC hCL
              go_wp2_with fail
              go_roundw
              case rel=>exact ⟨P4,_,_,f,HF,HR,HFU9,HE,HO9⟩
              case measure=>rw [hpos9,hpos];omega
         ·have HE:=Lib.hid (HDG.out hf3)
          have HG7:=Lib.hid (fun w1 h=>HHB.out w1 h hf3)
          clear HHG HHB HDG HDC
          go_wp2_with (first
           | (go_at_call 168;(with_reducible refine HN.out.mono ?_);go_must (rintro e w5 ⟨rfl,hf5,hr5⟩;have HG55:=Lib.hid (HG5.out w5 hf5);have hr5x:=Lib.hid hr5;have HF5:=Lib.hid hf5;have HR5:=Lib.hid (HR.out.trans hr5);clear hf5 hr5))
           | (go_at_call 169;(with_reducible refine (HLO.out _).mono ?_);go_must (rintro e w9 ⟨rfl,rfl⟩))
           | (go_at_call 130;(with_reducible refine HG55.out.mono ?_);go_must (rintro e w6 ⟨rfl,hf6,hr6⟩;have c60:=hf6.arr.cell (k:=0) rfl;have HN26:=Lib.hid (HN2.out w6 hf6 (HDKD.out w6 (hr5x.out.trans hr6)));have HF6:=Lib.hid hf6;have HR6:=Lib.hid (HR5.out.trans hr6);clear hf6 hr6 HG55))
           | (go_at_call 168;(with_reducible refine HN26.out.mono ?_);go_must (rintro e w7 ⟨rfl,hf7,hr7⟩;have HG77:=Lib.hid (HG7.out w7 hf7);have HF7:=Lib.hid hf7;have HR7:=Lib.hid (HR6.out.trans hr7);clear hf7 hr7 HN26))
           | (go_at_call 170;(with_reducible refine (HDO.out _).mono ?_);go_must (rintro e w9 ⟨rfl,rfl⟩))
           | (go_at_call 130;(with_reducible refine HG77.out.mono ?_);go_must (rintro e w8 ⟨rfl,hf8,hr8⟩;have HF8:=Lib.hid hf8;have HR8:=Lib.hid (HR7.out.trans hr8);have c81:=hf8.arr.cell (k:=1) rfl;have c82:=hf8.arr.cell (k:=2) rfl;clear hf8 hr8 HG77)))
          go_quiet (fail)
          go_wp2_with fail
          go_ret
          unfold IqPost
          exact ⟨false,_,_,_,rfl,HF8.out.drewN _,HR2.out.trans (HR8.out.drewN _),.inr ⟨rfl,HE.out⟩⟩
        ·have HE:Hid (¬ R.e=0):=(show ¬ _ by
          rw [← HST.out,HCP.out]
          refine toks_err (cpB_bad (fun h=>hbad ?_))
          rw [HNP2.out] at h
          exact ⟨h.1,by have h2:(p:Int) < 30:=h.2;omega⟩)
         by_cases he2:e2=0
         ·have d2:(e2 != 0)=false:=by rw [he2];rfl
          have hp29:(29:Int) < (p:Int):=by
           have:¬ p < 30:=fun h=>hbad ⟨he2,h⟩
           omega
          go_wp2_with (first
           | (go_at_call 168;(with_reducible refine HN.out.mono ?_);go_must (rintro e w5 ⟨rfl,hf5,hr5⟩;have HG55:=Lib.hid (HG5.out w5 hf5);have hr5x:=Lib.hid hr5;have HF5:=Lib.hid hf5;have HR5:=Lib.hid (HR.out.trans hr5);clear hf5 hr5))
           | (go_at_call 169;(with_reducible refine (HLO.out _).mono ?_);go_must (rintro e w9 ⟨rfl,rfl⟩))
           | (go_at_call 130;(with_reducible refine HG55.out.mono ?_);go_must (rintro e w6 ⟨rfl,hf6,hr6⟩;have c60:=hf6.arr.cell (k:=0) rfl;have HN26:=Lib.hid (HN2.out w6 hf6 (HDKD.out w6 (hr5x.out.trans hr6)));have HF6:=Lib.hid hf6;have HR6:=Lib.hid (HR5.out.trans hr6);clear hf6 hr6 HG55))
           | (go_at_call 168;(with_reducible refine HN26.out.mono ?_);go_must (rintro e w7 ⟨rfl,hf7,hr7⟩; have HF7:=Lib.hid hf7;have HR7:=Lib.hid (HR6.out.trans hr7);clear hf7 hr7 HN26)))
          go_ret
          unfold IqPost
          exact ⟨false,_,_,_,rfl,HF7.out,HR2.out.trans (HR7.out),.inr ⟨rfl,HE.out⟩⟩
         ·have d2:(e2 != 0)=true:=by rw [bne_iff_ne];exact he2
          go_wp2_with (first
           | (go_at_call 168;(with_reducible refine HN.out.mono ?_);go_must (rintro e w5 ⟨rfl,hf5,hr5⟩;have HG55:=Lib.hid (HG5.out w5 hf5);have hr5x:=Lib.hid hr5;have HF5:=Lib.hid hf5;have HR5:=Lib.hid (HR.out.trans hr5);clear hf5 hr5))
           | (go_at_call 169;(with_reducible refine (HLO.out _).mono ?_);go_must (rintro e w9 ⟨rfl,rfl⟩))
           | (go_at_call 130;(with_reducible refine HG55.out.mono ?_);go_must (rintro e w6 ⟨rfl,hf6,hr6⟩;have c60:=hf6.arr.cell (k:=0) rfl;have HN26:=Lib.hid (HN2.out w6 hf6 (HDKD.out w6 (hr5x.out.trans hr6)));have HF6:=Lib.hid hf6;have HR6:=Lib.hid (HR5.out.trans hr6);clear hf6 hr6 HG55))
           | (go_at_call 168;(with_reducible refine HN26.out.mono ?_);go_must (rintro e w7 ⟨rfl,hf7,hr7⟩; have HF7:=Lib.hid hf7;have HR7:=Lib.hid (HR6.out.trans hr7);clear hf7 hr7 HN26)))
          go_ret
          unfold IqPost
          exact ⟨false,_,_,_,rfl,HF7.out,HR2.out.trans (HR7.out),.inr ⟨rfl,HE.out⟩⟩
      ·have HE:=Lib.hid (HCG.out hf1)
       have HG5:=Lib.hid (fun w1 h=>HGB.out w1 h hf1)
       clear HC0 HC1 HGB HGG HCG
       go_wp2_with (first
        | (go_at_call 168;(with_reducible refine HN.out.mono ?_);go_must (rintro e w5 ⟨rfl,hf5,hr5⟩;have HG55:=Lib.hid (HG5.out w5 hf5);have hr5x:=Lib.hid hr5;have HF5:=Lib.hid hf5;have HR5:=Lib.hid (HR.out.trans hr5);clear hf5 hr5))
        | (go_at_call 169;(with_reducible refine (HLO.out _).mono ?_);go_must (rintro e w9 ⟨rfl,rfl⟩))
        | (go_at_call 130;(with_reducible refine HG55.out.mono ?_);go_must (rintro e w6 ⟨rfl,hf6,hr6⟩; have HF6:=Lib.hid hf6;have HR6:=Lib.hid (HR5.out.trans hr6);clear hf6 hr6 HG55)))
       go_ret
       unfold IqPost
       exact ⟨false,_,_,_,rfl,HF6.out,HR2.out.trans (HR6.out),.inr ⟨rfl,HE.out⟩⟩
  ·have HE:Hid (¬ R.e=0):=(show ¬ _ by
    rw [← HL.out]
    exact toks_bad rfl (by rw [HNP.out];exact ht))
   have d2b:(e1 != 0)=true:=by rw [bne_iff_ne];exact ht
   go_wp2_with (go_at_call 168;(with_reducible refine HN.out.mono ?_);go_must (rintro e w5 ⟨rfl,hf5,hr5⟩; have HF5:=Lib.hid hf5;have HR5:=Lib.hid (HR.out.trans hr5);clear hf5 hr5))
   go_ret
   unfold IqPost
   exact ⟨false,_,_,_,rfl,HF5.out,HR2.out.trans (HR5.out),.inr ⟨rfl,HE.out⟩⟩
end
end Go.Proofs.YteoolehdomjkkaaGreat

/- flate: the document's reader of blocks: may a list of distances be? -/
namespace Go.Proofs.YteoolehdomjkkaaGreat
set_option linter.all false
open Go.RowKit
theorem nextP0s (bs:List UInt8) (ls:List Int) (P:Nat) (out:List UInt8):nextP bs ls ⟨P,out,0⟩=((nx ls bs 15 1 0 P).1,⟨(nx ls bs 15 1 0 P).2.2,out,(nx ls bs 15 1 0 P).2.1⟩):=by
 unfold nextP
 rw [if_pos rfl]
theorem cOne_le (ls:List Int):cOne ls≤cPos ls:=by
 unfold cOne cPos
 refine List.countP_mono_left fun x _ h=>?_
 have:x=1:=by simpa using h
 rw [this];rfl
def MdPost (ls:List Int) (w:World) (e:Ending) (w':World):Prop:=∃ ok,e=.returned (.bool ok)∧(ok=true ↔ mayL ls)∧w=w'
set_option maxRecDepth 100000 in
set_option maxHeartbeats 3200000 in
theorem mayDist_any (B n c:Nat) (A:Option Addr) (ls:List Int) (w:World) (h:RdI w B A n ls) (hn:n≤1000) :
  Calls Tryz.prog 135 #[.slice A n c] w fun e w'=>MdPost ls w e w':=by
 have HRD:=Lib.hid h
 have HL:=Lib.hid h.len
 have HKR:=Lib.hid (kraft5_any B n c A ls w h (by omega))
 have HML:Hid (mayL ls ↔ (krV ls=32768∨cPos ls=0∨(cPos ls=1∧cOne ls=1))):=(show _ ↔ _ from Iff.rfl)
 have H10:=Lib.hid (cOne_le ls)
 generalize krE ls=KE at *
 generalize krV ls=K at *
 clear h
 go_enter Tryz.func135,Tryz.ntmps135
 go_wp2_with (go_at_call 134;(with_reducible refine HKR.out.mono ?_);go_must (rintro e w1 ⟨rfl,rfl⟩))
 go_loopw [7,5,6] (fun vk vp vq wr=>∃ (k:Nat) (one:Bool),k≤n∧vk=.int .i64 k∧vp=.int .i64 (cPos (ls.take k):Int)∧vq=.bool one∧Hid (one=decide (cOne (ls.take k)=cPos (ls.take k)))∧wr=w) (fun vk _ _ _=>n - (intOf vk).toNat)
 case atStart=>exact ⟨0,true,Nat.zero_le _,rfl,rfl,rfl,(show _=_ from rfl),rfl⟩
 case round =>
  obtain ⟨k,one,hk,rfl,rfl,rfl,HON,rfl⟩:=hrel
  by_cases hlt:k < n
  ·have hlti:(k:Int) < (n:Int):=by omega
   obtain ⟨b,o,x,rfl,hb,HX,e1⟩:=HRD.out.one hlt
   have HP1:Hid (cPos (ls.take (k+1))=cPos (ls.take k)+if 0 < x then 1 else 0):=(show _=_ by rw [take_snoc1 HX.out,cPos_snoc])
   have HO1:Hid (cOne (ls.take (k+1))=cOne (ls.take k)+if x=1 then 1 else 0):=(show _=_ by rw [take_snoc1 HX.out,cOne_snoc])
   have hpl:cPos (ls.take k)≤1000:=Nat.le_trans List.countP_le_length (by rw [List.length_take];omega)
   have hol:cOne (ls.take k)≤cPos (ls.take k):=cOne_le _
   generalize cPos (ls.take k)=cp at *
   generalize cOne (ls.take k)=co at *
   by_cases hx0:0 < x
   ·rw [if_pos hx0] at HP1
    by_cases hx1:x=1
    ·rw [if_pos hx1] at HO1
     have t1:(x == 1)=true:=by rw [hx1];rfl
     have HN2:Hid (one=decide (cOne (ls.take (k+1))=cPos (ls.take (k+1)))):=(show _=_ by
      rw [HP1.out,HO1.out,HON.out]
      by_cases e:co=cp
      ·rw [decide_eq_true e,decide_eq_true (by omega)]
      ·rw [decide_eq_false e,decide_eq_false (by omega)])
     clear hol HON
     cases one with
     | false =>
      go_wp2_with fail
      go_roundw
      case rel=>exact ⟨k+1,false,by omega,by go_num,by (rw [HP1.out]) <;> (first | done | rfl | go_num),rfl,HN2,trivial⟩
      case measure=>simp [intOf];omega
     | true =>
      go_wp2_with fail
      go_roundw
      case rel=>exact ⟨k+1,true,by omega,by go_num,by (rw [HP1.out]) <;> (first | done | rfl | go_num),rfl,HN2,trivial⟩
      case measure=>simp [intOf];omega
    ·rw [if_neg hx1] at HO1
     have t1:(x == 1)=false:=beq_eq_false_iff_ne.2 hx1
     have HN2:Hid (false=decide (cOne (ls.take (k+1))=cPos (ls.take (k+1)))):=(show _=_ by
      rw [HP1.out,HO1.out,decide_eq_false (by omega)])
     clear hol HON
     cases one with
     | false =>
      go_wp2_with fail
      go_roundw
      case rel=>exact ⟨k+1,false,by omega,by go_num,by (rw [HP1.out]) <;> (first | done | rfl | go_num),rfl,HN2,trivial⟩
      case measure=>simp [intOf];omega
     | true =>
      go_wp2_with fail
      go_roundw
      case rel=>exact ⟨k+1,false,by omega,by go_num,by (rw [HP1.out]) <;> (first | done | rfl | go_num),rfl,HN2,trivial⟩
      case measure=>simp [intOf];omega
   ·rw [if_neg hx0] at HP1
    have hx1:¬ x=1:=by omega
    rw [if_neg hx1] at HO1
    have HN2:Hid (one=decide (cOne (ls.take (k+1))=cPos (ls.take (k+1)))):=(show _=_ by
     rw [HP1.out,HO1.out,HON.out,Nat.add_zero,Nat.add_zero])
    clear hol HON
    go_wp2_with fail
    go_roundw
    case rel=>exact ⟨k+1,one,by omega,by go_num,by (rw [HP1.out]) <;> (first | done | rfl | go_num),rfl,HN2,trivial⟩
    case measure=>simp [intOf];omega
  ·obtain rfl:k=n:=by omega
   have hlti:¬ (k:Int) < (k:Int):=by omega
   have hta:ls.take k=ls:=List.take_of_length_le (by rw [HL.out];exact Nat.le_refl _)
   rw [hta] at HON ⊢
   clear hta
   generalize cPos ls=P at *
   generalize cOne ls=O at *
   have hO:=H10.out
   by_cases hK:K=32768
   ·have t1:(K == 32768)=true:=by rw [hK];rfl
    go_wp2_with fail
    go_ret
    unfold MdPost
    exact ⟨true,rfl,by rw [HML.out];exact ⟨fun _=>.inl hK,fun _=>rfl⟩,rfl⟩
   ·have t1:(K == 32768)=false:=beq_eq_false_iff_ne.2 hK
    by_cases hP0:P=0
    ·have t2:((P:Int) == 0)=true:=by rw [hP0];rfl
     clear hO
     go_wp2_with fail
     go_ret
     unfold MdPost
     exact ⟨true,rfl,by rw [HML.out];exact ⟨fun _=>.inr (.inl hP0),fun _=>rfl⟩,rfl⟩
    ·have t2:((P:Int) == 0)=false:=beq_eq_false_iff_ne.2 (by omega)
     by_cases hP1:P=1
     ·have t3:((P:Int) == 1)=true:=by rw [hP1];rfl
      have HE:Hid (one=true ↔ O=1):=(show _ ↔ _ by rw [HON.out,decide_eq_true_iff];omega)
      clear hO HON
      cases one with
      | false =>
       go_wp2_with fail
       go_ret
       unfold MdPost
       exact ⟨false,rfl,by rw [HML.out];exact ⟨fun h=>Bool.noConfusion h,fun h=>by rcases h with h | h | h;(· exact absurd h hK);(· exact absurd h hP0);(· exact HE.out.2 h.2)⟩,rfl⟩
      | true =>
       go_wp2_with fail
       go_ret
       unfold MdPost
       exact ⟨true,rfl,by rw [HML.out];exact ⟨fun h=>.inr (.inr ⟨hP1,HE.out.1 (by first | rfl | trivial)⟩),fun _=>rfl⟩,rfl⟩
     ·have t3:((P:Int) == 1)=false:=beq_eq_false_iff_ne.2 (by omega)
      clear hO
      go_wp2_with fail
      go_ret
      unfold MdPost
      exact ⟨false,rfl,by rw [HML.out];exact ⟨fun h=>Bool.noConfusion h,fun h=>by rcases h with h | h | h;(· exact absurd h hK);(· exact absurd h hP0);(· exact absurd h.1 hP1)⟩,rfl⟩
end Go.Proofs.YteoolehdomjkkaaGreat

/- flate: the reader of blocks, whatever comes: lists of lengths. -/
namespace Go.Proofs.YteoolehdomjkkaaGreat
set_option linter.all false
open Go.RowKit
def errOf (w:World) (r:Nat):Int:=match w.cell? ⟨r,3,none⟩ with
 | some (.int _ e)=>e
 | _=>0
theorem errOf_eq {w:World} {r:Nat} {e:Int} (h:w.cell? ⟨r,3,none⟩=some (.int .i64 e)):errOf w r=e:=by unfold errOf;rw [h]
def lenV (v:Value):Nat:=match v with
 | .slice _ n _=>n
 | _=>0
def lmeasG (all r:Nat) (v:Value) (w:World):Nat:=if errOf w r=0 then all+1 - lenV v else 0
section
variable (r g n c : Nat) (A : Option Addr) (bs : List UInt8) (most : Int) (vo : Value) (s : RS) (w : World)
set_option maxRecDepth 100000 in
theorem rlist_err (dv:Value) (all:Nat) (h:FS w r g A n c bs most vo s) (he:¬ s.e=0) :
  Calls Tryz.prog 148 #[.pointer (some ⟨r,0,none⟩),dv,.int .i64 (all:Int)] w fun e w'=>e=.returned (.slice none 0 0)∧w=w':=by
 have c3:=(FR.arr h).cell (k:=3) rfl
 have d1:(s.e == 0)=false:=beq_eq_false_iff_ne.2 he
 clear h
 go_enter Tryz.func148,Tryz.ntmps148
 go_wp2_with fail
 go_loopw [7] (fun v7 wr=>v7=.slice none 0 0∧wr=w) (fun _ _=>0)
 case atStart=>exact ⟨rfl,rfl⟩
 case round =>
  obtain ⟨rfl,rfl⟩:=hrel
  by_cases ha:0 < all
  ·have hai:(0:Int) < (all:Int):=by omega
   go_wp2_with fail
   go_ret
   exact ⟨rfl,rfl⟩
  ·have hai:¬ (0:Int) < (all:Int):=by omega
   go_wp2_with fail
   go_ret
   exact ⟨rfl,rfl⟩
set_option maxRecDepth 100000 in
set_option maxHeartbeats 6400000 in
theorem rlist_any (gd:Nat) (ls:List Int) (all f:Nat) (h:FS w r g A n c bs most vo s) (hd:DK w r g vo gd ls) (hok:OkL ls) (hall:all≤1000) (hf:all+1≤f) :
  Calls Tryz.prog 148 #[.pointer (some ⟨r,0,none⟩),.pointer (some ⟨gd,0,none⟩),.int .i64 (all:Int)] w fun e w'=>∃ lv,e=.returned lv∧FS w' r g A n c bs most vo (listF bs ls all f [] s).2∧ownI w' w.heap.size lv (listF bs ls all f [] s).1∧(listF bs ls all f [] s).1.length≤all∧RFr w w' r g vo vo:=by
 have H:=Lib.hid h
 have HDK:=Lib.hid hd
 have HOK:=Lib.hid hok
 have hrw:=(FR.arr h).lt
 have hgr:=FR.gr h
 have HVO:Hid (∀ k,vo.ownBlock=some k→k < w.heap.size):=(show ∀ k,_ from fun k hk=>(World.ownsRow.lt (FR.own h) k hk).2)
 have HR0:=Lib.hid (RFr.refl w r g vo)
 have HL0:=Lib.hid (ownI.nil_ w w.heap.size)
 obtain ⟨R,hR⟩:∃ R,listF bs ls all f [] s=R:=⟨_,rfl⟩
 rw [hR]
 have HE0:=Lib.hid hR
 have HFU:Hid (s.e=0→all+1≤([]:List Int).length+f):=(show _→_ from fun _=>by simp;omega)
 clear h hd hok hf hR
 go_enter Tryz.func148,Tryz.ntmps148
 go_wp2_with fail
 go_loopw [7] (fun v7 wr=>∃ (l:List Int) (cur:RS) (f:Nat),l.length≤all∧Hid (FS wr r g A n c bs most vo cur)∧Hid (RFr w wr r g vo vo)∧Hid (ownI wr w.heap.size v7 l)∧Hid (listF bs ls all f l cur=R)∧Hid (cur.e=0→all+1≤l.length+f)) (fun v7 wr=>lmeasG all r v7 wr)
 case atStart=>exact ⟨[],s,f,Nat.zero_le _,H,HR0,HL0,HE0,HFU⟩
 case round =>
  clear H HR0 HL0 HE0 HFU
  obtain ⟨l,cur,f,hla,HF,HR,HL,HE,HFU⟩:=hrel
  have e3:=(FR.arr HF.out).cell (k:=3) rfl
  have herr:=errOf_eq e3
  obtain ⟨Al,cl,rfl,-,-,-⟩:=HL.out.form
  by_cases hlt:l.length < all
  ·have hlti:(l.length:Int) < (all:Int):=by omega
   by_cases he:cur.e=0
   ·have d1:(cur.e == 0)=true:=by rw [he];rfl
    obtain ⟨f,rfl⟩:∃ f',f=f'+1:=⟨f - 1,by have:=HFU.out he;omega⟩
    have hfu:=HFU.out he
    have HM0:Hid (lmeasG all r (.slice Al l.length cl) wr=all+1 - l.length):=(show _=_ by unfold lmeasG;rw [herr,if_pos he];rfl)
    have HN:=Lib.hid (rnext_any r g n c A bs most vo cur wr gd ls HF.out (HDK.out.fr HR.out) HOK.out.1 HOK.out.2.1 HOK.out.2.2)
    have HST:=Lib.hid (HE.out)
    rw [listF,if_pos ⟨hlt,he⟩] at HST
    obtain ⟨q,hq1,hq2,hq3⟩:=nextP_val bs ls cur
    have hq300:q≤300:=by have:=HOK.out.2.2;omega
    rw [hq1] at HN HST
    clear hq1 hq2 hq3 HE HFU
    generalize (nextP bs ls cur).2=t1 at *
    by_cases ht:t1.e=0
    ·have d2:(t1.e == 0)=true:=by rw [ht];rfl
     have d2b:(t1.e != 0)=false:=by rw [ht];rfl
     rw [if_pos ht] at HST
     by_cases h16:q < 16
     ·have h16i:(q:Int) < 16:=by omega
      rw [if_pos h16i] at HST
      have HLN:Hid ((l ++ [(q:Int)]).length=l.length+1):=(show _=_ by simp)
      have hq9:l.length+1≤1099511627776:=by omega
      go_wp2_with (first
       | (go_at_call 176;(with_reducible refine HN.out.mono ?_);go_must (rintro e w5 ⟨rfl,hf5,hr5⟩;have e53:=(FR.arr hf5).cell (k:=3) rfl;have HR5:=Lib.hid (HR.out.trans hr5);have HL5:Hid (ownI w5 w.heap.size (.slice Al l.length cl) l):=(show ownI _ _ _ _ from ownI.rfr HL.out hr5 hrw (by omega) (fun k hk hk2=>by have h1:=HVO.out k hk;have h2:=(World.ownsRow.lt HL.out k hk2).1;omega));have HLA:=Lib.hid (ownI.alloc HL5.out (.cells #[Value.int .i64 (q:Int)] 3));have HFA:=Lib.hid (FR.later hf5 ((Below.refl w5.heap.size w5).alloc (Nat.le_refl _) (.cells #[Value.int .i64 (q:Int)] 3)));have HRA:=Lib.hid (HR5.out.allocd (.cells #[Value.int .i64 (q:Int)] 3));have hqs:w.heap.size≤(w5.alloc (.cells #[Value.int .i64 (q:Int)] 3)).heap.size:=HRA.out.size;have HLO:Hid (∀ k,(Value.slice Al l.length cl).ownBlock=some k→w.heap.size≤k):=(show ∀ k,_ from fun k hk=>(World.ownsRow.lt HL5.out k hk).1);clear hf5 hr5))
       | (at_builtin;go_must (refine wpList_appendI rfl (.tmp 39) (.tmp 41) rfl w.heap.size _ l rfl HLA.out (w5.heap.size+1) 1 1 (some ⟨w5.heap.size,0,none⟩) [(q:Int)] rfl (rd_oneI w5 (q:Int)) hq9 hqs ?_;intro v6 w6 ho6 hg6 hb6 ha6;obtain ⟨A6,c6,rfl,-,-,-⟩:=ho6.form;rw [HLN.out] at ho6;have HL6:=Lib.hid ho6;have HF6:=Lib.hid (FR.side HFA.out hrw HVO.out HLO.out hg6);have HR6:=Lib.hid (RFr.side (l:=l) HRA.out HLO.out hg6);clear ho6 hg6 hb6 ha6)))
      have e63:=(FR.arr HF6.out).cell (k:=3) rfl
      have herr6:=errOf_eq e63
      have HF6:Hid (FS w6 r g A n c bs most vo t1):=HF6
      have HFU2:Hid (t1.e=0→all+1≤(l ++ [(q:Int)]).length+f):=(show _→_ from fun _=>by rw [HLN.out];omega)
      go_roundw
      case rel=>exact ⟨l ++ [(q:Int)],t1,f,by rw [HLN.out];omega,HF6,HR6,HL6,HST,HFU2⟩
      case measure =>
       rw [HM0.out]
       unfold lmeasG
       rw [herr6,if_pos ht]
       show all+1 - (l.length+1) < _
       omega
     ·have h16i:¬ (q:Int) < 16:=by omega
      rw [if_neg h16i] at HST
      by_cases hq16:q=16
      ·subst hq16
       rw [if_pos (show ((16:Nat):Int)=16 from rfl)] at HST
       by_cases hl0:l.length=0
       ·rw [if_pos hl0] at HST
        have hl0i:(l.length:Int)=0:=by omega
        have hl0b:((l.length:Int) == 0)=true:=by rw [hl0];rfl
        have HFL:=Lib.hid (fun w5 (h:FS w5 r g A n c bs most vo t1)=>rfail_any r g n c A bs most vo t1 w5 4 h)
        have hfe:(t1.fail 4).e=4:=by unfold RS.fail;rw [if_pos ht]
        have HS2:Hid (listF bs ls all f l (t1.fail 4)=R):=(show _=_ by rw [← HST.out,listF_stop (fun h=>by rw [hfe] at h;exact absurd h.2 (by decide))])
        have HFU2:Hid ((t1.fail 4).e=0→all+1≤l.length+f):=(show _→_ from fun h=>by rw [hfe] at h;exact absurd h (by decide))
        clear hl0 hl0i
        go_wp2_with (first
         | (go_at_call 176;(with_reducible refine HN.out.mono ?_);go_must (rintro e w5 ⟨rfl,hf5,hr5⟩;have e53:=(FR.arr hf5).cell (k:=3) rfl;have HR5:=Lib.hid (HR.out.trans hr5);have HL5:Hid (ownI w5 w.heap.size (.slice Al l.length cl) l):=(show ownI _ _ _ _ from ownI.rfr HL.out hr5 hrw (by omega) (fun k hk hk2=>by have h1:=HVO.out k hk;have h2:=(World.ownsRow.lt HL.out k hk2).1;omega));have HFL5:=Lib.hid (HFL.out w5 hf5);clear hf5 hr5))
         | (go_at_call 100;(with_reducible refine HFL5.out.mono ?_);go_must (rintro e w6 ⟨rfl,hf6,hr6⟩;have HF6:=Lib.hid hf6;have HR6:=Lib.hid (HR5.out.trans hr6);have HL6:Hid (ownI w6 w.heap.size (.slice Al l.length cl) l):=(show ownI _ _ _ _ from ownI.rfr HL5.out hr6 hrw (by omega) (fun k hk hk2=>by have h1:=HVO.out k hk;have h2:=(World.ownsRow.lt HL5.out k hk2).1;omega));clear hf6 hr6)))
        have e63:=(FR.arr HF6.out).cell (k:=3) rfl
        have herr6:=errOf_eq e63
        go_roundw
        case rel=>exact ⟨l,t1.fail 4,f,hla,HF6,HR6,HL6,HS2,HFU2⟩
        case measure =>
         rw [HM0.out]
         unfold lmeasG
         rw [herr6,hfe,if_neg (by decide)]
         omega
       ·rw [if_neg hl0] at HST
        have hl0b:((l.length:Int) == 0)=false:=beq_eq_false_iff_ne.2 (by omega)
        have hlD:l.length - 1 < l.length:=by omega
        have hgd:l.getD (l.length - 1) 0=l[l.length - 1]:=by rw [List.getD_eq_getElem?_getD,List.getElem?_eq_getElem hlD];rfl
        rw [hgd] at HST
        obtain ⟨-,gq,rfl,hgq1,hgq2⟩:=ownI.pos HL.out (show 0 < l.length by omega)
        have HCL:Hid (∀ w',ownI w' w.heap.size (.slice (some ⟨gq,0,none⟩) l.length cl) l→w'.cell? ⟨gq,l.length - 1,none⟩=some (.int .i64 l[l.length - 1])):=(show ∀ w',_ from fun w' h=>ownI.cell h rfl hlD)
        generalize l[l.length - 1]=x at *
        have HG:=Lib.hid (fun w5 (h:FS w5 r g A n c bs most vo t1)=>rget_any r g n c A bs most vo t1 w5 2 2 rfl h (by omega))
        have hv:=getP_lt bs t1 (m:=2) (by omega)
        generalize (getP bs t1 2).1=v at *
        generalize (getP bs t1 2).2=t2 at *
        have hvb:v < 200:=Nat.lt_of_lt_of_le hv (by decide)
        obtain ⟨N,hN⟩:∃ N,3+v=N:=⟨_,rfl⟩
        have hNi:(3:Int)+(v:Int)=(N:Int):=by omega
        have hN3:3≤N:=by omega
        rw [hN] at HST
        have HRP:=Lib.hid (fun w6 lv (h:FS w6 r g A n c bs most vo t2) (hf:RFr w w6 r g vo vo) (hl:ownI w6 w.heap.size lv l)=>rrepeat_any r g n c A bs most vo t2 w w6 lv l x N all h hf hl hrw HVO.out (by omega) hall (by omega))
        have hrl:=repP_len l x N all t2 hla
        generalize repP l x N all t2=PP at *
        clear hv hN
        obtain ⟨L,hL⟩:∃ L,l.length=L:=⟨_,rfl⟩
        obtain ⟨D,hD⟩:∃ D,l.length - 1=D:=⟨_,rfl⟩
        rw [hD] at HCL
        have hDi:(l.length:Int) - 1=(D:Int):=by omega
        have hDw:IntKind.i64.wrap (D:Int)=(D:Int):=wrap_i64_lt D (by omega)
        have hDw2:IntKind.i64.wrap ((l.length:Int) - 1)=(D:Int):=by rw [hDi];exact hDw
        have hNw:IntKind.i64.wrap (N:Int)=(N:Int):=wrap_i64_lt N (by omega)
        have hNw2:IntKind.i64.wrap ((3:Int)+(v:Int))=(N:Int):=by rw [hNi];exact hNw
        have hDl:D < l.length:=by omega
        clear hL hD
        go_upto_region 11 with ((go_at_call 176;(with_reducible refine HN.out.mono ?_);go_must (rintro e w5 ⟨rfl,hf5,hr5⟩;have e53:=(FR.arr hf5).cell (k:=3) rfl;have HR5:=Lib.hid (HR.out.trans hr5);have HL5:Hid (ownI w5 w.heap.size (.slice (some ⟨gq,0,none⟩) l.length cl) l):=(show ownI _ _ _ _ from ownI.rfr HL.out hr5 hrw (by omega) (fun k hk hk2=>by have h1:=HVO.out k hk;have h2:=(World.ownsRow.lt HL.out k hk2).1;omega));have HG5d:=Lib.hid (HG.out w5.drew (show FS w5.drew r g A n c bs most vo t1 from FR.drewN hf5 1));have hc5:=HCL.out w5 HL5.out;clear hf5 hr5)))
        go_region_with (first
         | (go_at_call 96;(with_reducible refine HG5d.out.mono ?_);go_must (rintro e w6 ⟨rfl,hf6,hr6⟩;have HR6:=Lib.hid ((show RFr w w5.drew r g vo vo from RFr.drewN HR5.out 1).trans hr6);have HL6:Hid (ownI w6 w.heap.size (Value.slice (some ⟨gq,0,none⟩) l.length cl) l):=(show ownI _ _ _ _ from ownI.rfr HL5.out.drew hr6 hrw (by have:=HR5.out.size;omega) (fun k hk hk2=>by have h1:=HVO.out k hk;have h2:=(World.ownsRow.lt HL5.out k hk2).1;omega));have hc6:=HCL.out w6 HL6.out;have HRP6:=Lib.hid (HRP.out w6 (Value.slice (some ⟨gq,0,none⟩) l.length cl) hf6 HR6.out HL6.out);clear hf6 hr6))
         | (go_at_call 179;(with_reducible refine HRP6.out.mono ?_);go_must (rintro e w7 ⟨v7,rfl,hf7,hl7,hr7⟩;have HF7:=Lib.hid hf7;have HL7:=Lib.hid hl7;have HR7:=Lib.hid hr7;clear hf7 hl7 hr7)))
        all_goals
         go_simp
         go_wp2_with fail
         have e73:=(FR.arr HF7.out).cell (k:=3) rfl
         have herr7:=errOf_eq e73
         obtain ⟨A7,c7,rfl,-,-,-⟩:=HL7.out.form
         have HFU2:Hid (PP.2.e=0→all+1≤PP.1.length+f):=(show _→_ from fun h0=>by rw [hrl.2 h0];omega)
         have HRL:=Lib.hid hrl
         clear hrl
         go_roundw
         case rel=>exact ⟨PP.1,PP.2,f,HRL.out.1,HF7,HR7,HL7,HST,HFU2⟩
         case measure =>
          rw [HM0.out]
          unfold lmeasG
          rw [herr7]
          by_cases h0:PP.2.e=0
          ·rw [if_pos h0]
           have:=HRL.out.2 h0
           show all+1 - PP.1.length < _
           omega
          ·rw [if_neg h0]
           omega
      ·have hq16b:((q:Int) == 16)=false:=beq_eq_false_iff_ne.2 (by omega)
       rw [if_neg (by omega:¬ (q:Int)=16)] at HST
       by_cases hq17:q=17
       ·subst hq17
        rw [if_pos (show ((17:Nat):Int)=17 from rfl)] at HST
        have HG:=Lib.hid (fun w5 (h:FS w5 r g A n c bs most vo t1)=>rget_any r g n c A bs most vo t1 w5 3 3 rfl h (by omega))
        have hv:=getP_lt bs t1 (m:=3) (by omega)
        generalize (getP bs t1 3).1=v at *
        generalize (getP bs t1 3).2=t2 at *
        have hvb:v < 200:=Nat.lt_of_lt_of_le hv (by decide)
        obtain ⟨N,hN⟩:∃ N,3+v=N:=⟨_,rfl⟩
        have hNi:(3:Int)+(v:Int)=(N:Int):=by omega
        have hN3:3≤N:=by omega
        rw [hN] at HST
        have HRP:=Lib.hid (fun w6 lv (h:FS w6 r g A n c bs most vo t2) (hf:RFr w w6 r g vo vo) (hl:ownI w6 w.heap.size lv l)=>rrepeat_any r g n c A bs most vo t2 w w6 lv l 0 N all h hf hl hrw HVO.out (by omega) hall (by omega))
        have hrl:=repP_len l 0 N all t2 hla
        generalize repP l 0 N all t2=PP at *
        clear hv hN
        go_wp2_with (first
         | (go_at_call 176;(with_reducible refine HN.out.mono ?_);go_must (rintro e w5 ⟨rfl,hf5,hr5⟩;have e53:=(FR.arr hf5).cell (k:=3) rfl;have HR5:=Lib.hid (HR.out.trans hr5);have HL5:Hid (ownI w5 w.heap.size (.slice Al l.length cl) l):=(show ownI _ _ _ _ from ownI.rfr HL.out hr5 hrw (by omega) (fun k hk hk2=>by have h1:=HVO.out k hk;have h2:=(World.ownsRow.lt HL.out k hk2).1;omega));have HG5:=Lib.hid (HG.out w5 hf5);clear hf5 hr5))
         | (go_at_call 96;(with_reducible refine HG5.out.mono ?_);go_must (rintro e w6 ⟨rfl,hf6,hr6⟩;have HR6:=Lib.hid (HR5.out.trans hr6);have HL6:Hid (ownI w6 w.heap.size (.slice Al l.length cl) l):=(show ownI _ _ _ _ from ownI.rfr HL5.out hr6 hrw (by omega) (fun k hk hk2=>by have h1:=HVO.out k hk;have h2:=(World.ownsRow.lt HL5.out k hk2).1;omega));have HRP6:=Lib.hid (HRP.out w6 (.slice Al l.length cl) hf6 HR6.out HL6.out);clear hf6 hr6))
         | (go_at_call 179;(with_reducible refine HRP6.out.mono ?_);go_must (rintro e w7 ⟨v7,rfl,hf7,hl7,hr7⟩;have HF7:=Lib.hid hf7;have HL7:=Lib.hid hl7;have HR7:=Lib.hid hr7;clear hf7 hl7 hr7)))
        have e73:=(FR.arr HF7.out).cell (k:=3) rfl
        have herr7:=errOf_eq e73
        obtain ⟨A7,c7,rfl,-,-,-⟩:=HL7.out.form
        have HFU2:Hid (PP.2.e=0→all+1≤PP.1.length+f):=(show _→_ from fun h0=>by rw [hrl.2 h0];omega)
        have HRL:=Lib.hid hrl
        clear hrl
        go_roundw
        case rel=>exact ⟨PP.1,PP.2,f,HRL.out.1,HF7,HR7,HL7,HST,HFU2⟩
        case measure =>
         rw [HM0.out]
         unfold lmeasG
         rw [herr7]
         by_cases h0:PP.2.e=0
         ·rw [if_pos h0]
          have:=HRL.out.2 h0
          show all+1 - PP.1.length < _
          omega
         ·rw [if_neg h0]
          omega
       ·have hq17b:((q:Int) == 17)=false:=beq_eq_false_iff_ne.2 (by omega)
        rw [if_neg (by omega:¬ (q:Int)=17)] at HST
        have HG:=Lib.hid (fun w5 (h:FS w5 r g A n c bs most vo t1)=>rget_any r g n c A bs most vo t1 w5 7 7 rfl h (by omega))
        have hv:=getP_lt bs t1 (m:=7) (by omega)
        generalize (getP bs t1 7).1=v at *
        generalize (getP bs t1 7).2=t2 at *
        have hvb:v < 200:=Nat.lt_of_lt_of_le hv (by decide)
        obtain ⟨N,hN⟩:∃ N,11+v=N:=⟨_,rfl⟩
        have hNi:(11:Int)+(v:Int)=(N:Int):=by omega
        have hN3:3≤N:=by omega
        rw [hN] at HST
        have HRP:=Lib.hid (fun w6 lv (h:FS w6 r g A n c bs most vo t2) (hf:RFr w w6 r g vo vo) (hl:ownI w6 w.heap.size lv l)=>rrepeat_any r g n c A bs most vo t2 w w6 lv l 0 N all h hf hl hrw HVO.out (by omega) hall (by omega))
        have hrl:=repP_len l 0 N all t2 hla
        generalize repP l 0 N all t2=PP at *
        clear hv hN
        go_wp2_with (first
         | (go_at_call 176;(with_reducible refine HN.out.mono ?_);go_must (rintro e w5 ⟨rfl,hf5,hr5⟩;have e53:=(FR.arr hf5).cell (k:=3) rfl;have HR5:=Lib.hid (HR.out.trans hr5);have HL5:Hid (ownI w5 w.heap.size (.slice Al l.length cl) l):=(show ownI _ _ _ _ from ownI.rfr HL.out hr5 hrw (by omega) (fun k hk hk2=>by have h1:=HVO.out k hk;have h2:=(World.ownsRow.lt HL.out k hk2).1;omega));have HG5:=Lib.hid (HG.out w5 hf5);clear hf5 hr5))
         | (go_at_call 96;(with_reducible refine HG5.out.mono ?_);go_must (rintro e w6 ⟨rfl,hf6,hr6⟩;have HR6:=Lib.hid (HR5.out.trans hr6);have HL6:Hid (ownI w6 w.heap.size (.slice Al l.length cl) l):=(show ownI _ _ _ _ from ownI.rfr HL5.out hr6 hrw (by omega) (fun k hk hk2=>by have h1:=HVO.out k hk;have h2:=(World.ownsRow.lt HL5.out k hk2).1;omega));have HRP6:=Lib.hid (HRP.out w6 (.slice Al l.length cl) hf6 HR6.out HL6.out);clear hf6 hr6))
         | (go_at_call 179;(with_reducible refine HRP6.out.mono ?_);go_must (rintro e w7 ⟨v7,rfl,hf7,hl7,hr7⟩;have HF7:=Lib.hid hf7;have HL7:=Lib.hid hl7;have HR7:=Lib.hid hr7;clear hf7 hl7 hr7)))
        have e73:=(FR.arr HF7.out).cell (k:=3) rfl
        have herr7:=errOf_eq e73
        obtain ⟨A7,c7,rfl,-,-,-⟩:=HL7.out.form
        have HFU2:Hid (PP.2.e=0→all+1≤PP.1.length+f):=(show _→_ from fun h0=>by rw [hrl.2 h0];omega)
        have HRL:=Lib.hid hrl
        clear hrl
        go_roundw
        case rel=>exact ⟨PP.1,PP.2,f,HRL.out.1,HF7,HR7,HL7,HST,HFU2⟩
        case measure =>
         rw [HM0.out]
         unfold lmeasG
         rw [herr7]
         by_cases h0:PP.2.e=0
         ·rw [if_pos h0]
          have:=HRL.out.2 h0
          show all+1 - PP.1.length < _
          omega
         ·rw [if_neg h0]
          omega
    ·have d2:(t1.e == 0)=false:=beq_eq_false_iff_ne.2 ht
     have d2b:(t1.e != 0)=true:=by rw [bne_iff_ne];exact ht
     rw [if_neg ht] at HST
     have HS2:Hid (listF bs ls all f l t1=R):=(show _=_ by rw [← HST.out,listF_stop (fun h=>ht h.2)])
     have HFU2:Hid (t1.e=0→all+1≤l.length+f):=(show _→_ from fun h=>absurd h ht)
     go_wp2_with (go_at_call 176;(with_reducible refine HN.out.mono ?_);go_must (rintro e w5 ⟨rfl,hf5,hr5⟩;have e53:=(FR.arr hf5).cell (k:=3) rfl;have HR5:=Lib.hid (HR.out.trans hr5);have HL5:Hid (ownI w5 w.heap.size (.slice Al l.length cl) l):=(show ownI _ _ _ _ from ownI.rfr HL.out hr5 hrw (by omega) (fun k hk hk2=>by have h1:=HVO.out k hk;have h2:=(World.ownsRow.lt HL.out k hk2).1;omega));have HF5:=Lib.hid hf5;clear hf5 hr5))
     have herr5:=errOf_eq e53
     go_roundw
     case rel=>exact ⟨l,t1,f,hla,HF5,HR5,HL5,HS2,HFU2⟩
     case measure =>
      rw [HM0.out]
      unfold lmeasG
      rw [herr5,if_neg ht]
      omega
   ·have d1:(cur.e == 0)=false:=beq_eq_false_iff_ne.2 he
    have HS:Hid ((l,cur)=R):=(show _=_ by rw [← HE.out,listF_stop (fun h=>he h.2)])
    go_wp2_with fail
    go_ret
    exact ⟨_,rfl,by rw [← HS.out];exact HF.out,by rw [← HS.out];exact HL.out,by rw [← HS.out];exact hla,HR.out⟩
  ·have hlti:¬ (l.length:Int) < (all:Int):=by omega
   have HS:Hid ((l,cur)=R):=(show _=_ by rw [← HE.out,listF_stop (fun h=>hlt h.1)])
   go_wp2_with fail
   go_ret
   exact ⟨_,rfl,by rw [← HS.out];exact HF.out,by rw [← HS.out];exact HL.out,by rw [← HS.out];exact hla,HR.out⟩
end
end Go.Proofs.YteoolehdomjkkaaGreat

/- flate: the reader of blocks, whatever comes: are all lengths 0; lists by a decoder or none. -/
namespace Go.Proofs.YteoolehdomjkkaaGreat
set_option linter.all false
open Go.RowKit
set_option maxRecDepth 100000 in
theorem none_any (B nl cl:Nat) (Al:Option Addr) (ls:List Int) (w:World) (hr:RdI w B Al nl ls) (hn:nl≤1000) :
  Calls Tryz.prog 149 #[.slice Al nl cl] w fun e w'=>e=.returned (.bool (noneP ls))∧w=w':=by
 have HRD:=Lib.hid hr
 have HL:=Lib.hid hr.len
 clear hr
 go_enter Tryz.func149,Tryz.ntmps149
 go_wp2_with fail
 go_loopw [7] (fun vk wr=>∃ k:Nat,k≤nl∧vk=.int .i64 k∧Hid (cPos (ls.take k)=0)∧wr=w) (fun vk _=>nl - (intOf vk).toNat)
 case atStart=>exact ⟨0,Nat.zero_le _,rfl,(show cPos (ls.take 0)=0 from rfl),rfl⟩
 case round =>
  obtain ⟨k,hk,rfl,HC,rfl⟩:=hrel
  by_cases hlt:k < nl
  ·have hlti:(k:Int) < (nl:Int):=by omega
   obtain ⟨b,o,x,rfl,hb,HX,e1⟩:=HRD.out.one hlt
   by_cases hx0:0 < x
   ·have HN:Hid (noneP ls=false):=(show _=_ by
     have h1:cPos (ls.take (k+1))=1:=by rw [take_snoc1 HX.out,cPos_snoc,HC.out,if_pos hx0]
     have h2:cPos ls=cPos (ls.take (k+1))+cPos (ls.drop (k+1)):=by
      unfold cPos
      rw [← List.countP_append,List.take_append_drop]
     unfold noneP
     rw [h2,h1]
     exact beq_eq_false_iff_ne.2 (by omega))
    go_wp2_with fail
    go_ret
    exact ⟨by rw [HN.out];rfl,rfl⟩
   ·have HP1:Hid (cPos (ls.take (k+1))=0):=(show _=_ by rw [take_snoc1 HX.out,cPos_snoc,HC.out,if_neg hx0])
    go_wp2_with fail
    go_roundw
    case rel=>exact ⟨k+1,by omega,by go_num,HP1,trivial⟩
    case measure=>simp [intOf];omega
  ·obtain rfl:k=nl:=by omega
   have hlti:¬ (k:Int) < (k:Int):=by omega
   have HN:Hid (noneP ls=true):=(show _=_ by
    have h1:=HC.out
    rw [List.take_of_length_le (by rw [HL.out];exact Nat.le_refl _)] at h1
    unfold noneP
    rw [h1]
    rfl)
   go_wp2_with fail
   go_ret
   exact ⟨by rw [HN.out];rfl,rfl⟩
section
variable (r g n c : Nat) (A : Option Addr) (bs : List UInt8) (most : Int) (vo : Value) (s : RS) (w : World)
theorem rlistD_any (dv:Value) (D:Option (List Int)) (all:Nat) (h:FS w r g A n c bs most vo s) (hd:DV w r g vo dv D) (hD:D=none→¬ s.e=0) (hall:all≤1000) :
  Calls Tryz.prog 148 #[.pointer (some ⟨r,0,none⟩),dv,.int .i64 (all:Int)] w fun e w'=>∃ lv,e=.returned lv∧FS w' r g A n c bs most vo (listD bs D all s).2∧ownI w' w.heap.size lv (listD bs D all s).1∧RFr w w' r g vo vo:=by
 rcases hd with ⟨rfl,rfl⟩ | ⟨gd,ds,rfl,rfl,h1,h2⟩
 ·refine (rlist_err r g n c A bs most vo s w (.pointer none) all h (hD rfl)).mono ?_
  rintro e w' ⟨rfl,rfl⟩
  exact ⟨_,rfl,h,ownI.nil_ _ _,RFr.refl _ _ _ _⟩
 ·refine (rlist_any r g n c A bs most vo s w gd ds all (all+1) h h1 h2 hall (Nat.le_refl _)).mono ?_
  rintro e w' ⟨lv,rfl,h3,h4,-,h5⟩
  exact ⟨lv,rfl,h3,h4,h5⟩
end
end Go.Proofs.YteoolehdomjkkaaGreat

/- flate: the reader of blocks, whatever comes: tokens. -/
namespace Go.Proofs.YteoolehdomjkkaaGreat
set_option linter.all false
open Go.RowKit
section
variable (r g n c : Nat) (A : Option Addr) (bs : List UInt8) (most : Int) (vo : Value) (s : RS) (w : World)
set_option maxRecDepth 100000 in
set_option maxHeartbeats 3200000 in
theorem rtokens_any (gl:Nat) (ll:List Int) (dv:Value) (dl:Option (List Int)) (f:Nat) (h:FS w r g A n c bs most vo s) (hl:DK w r g vo gl ll) (hlo:OkL ll) (hd:DV w r g vo dv dl) (hm:most≤1000000) (ho:(s.out.length:Int)≤most) (hf:8 * n+1≤s.p+f) :
  Calls Tryz.prog 146 #[.pointer (some ⟨r,0,none⟩),.pointer (some ⟨gl,0,none⟩),dv] w fun e w'=>e=.returned (.tuple #[])∧∃ vo',FS w' r g A n c bs most vo' (toksF bs most ll dl f s)∧RFr w w' r g vo vo':=by
 have H:=Lib.hid h
 have HDL:=Lib.hid hl
 have HOK:=Lib.hid hlo
 have HDV:=Lib.hid hd
 have HBL:=Lib.hid (FR.rb h).len
 have HO:=Lib.hid ho
 have HFU:=Lib.hid hf
 have HR0:=Lib.hid (RFr.refl w r g vo)
 obtain ⟨R,hR⟩:∃ R,toksF bs most ll dl f s=R:=⟨_,rfl⟩
 rw [hR]
 have HL0:=Lib.hid hR
 clear h hl hlo hd ho hf hR
 go_enter Tryz.func146,Tryz.ntmps146
 go_wp2_with fail
 go_loopw [6] (fun v6 wr=>∃ (cur:RS) (vq:Value) (f:Nat),Hid (FS wr r g A n c bs most vq cur)∧Hid (RFr w wr r g vo vq)∧Hid (8 * n+1≤cur.p+f)∧Hid (toksF bs most ll dl f cur=R)∧Hid ((cur.out.length:Int)≤most)) (fun _ wr=>8 * n+1 - posOf wr g)
 case atStart=>exact ⟨s,vo,f,H,HR0,HFU,HL0,HO⟩
 case round =>
  clear H HR0 HFU HL0 HO
  obtain ⟨cur,vq,f,HF,HR,HFU,HL,HO⟩:=hrel
  have e3:=(FR.arr HF.out).cell (k:=3) rfl
  have hfit:cur.p≤8 * n:=FR.fit HF.out
  have hpos:=posOf_eq (FR.rd HF.out)
  by_cases he:cur.e=0
  ·have d1:(cur.e == 0)=true:=by rw [he];rfl
   obtain ⟨f,rfl⟩:∃ f',f=f'+1:=⟨f - 1,by have:=HFU.out;omega⟩
   have HN:=Lib.hid (rnext_any r g n c A bs most vq cur wr gl ll HF.out (HDL.out.fr HR.out) HOK.out.1 HOK.out.2.1 HOK.out.2.2)
   have HST:Hid (toksF bs most ll dl (f+1) cur=if (nextP bs ll cur).2.e=0 then (if (nextP bs ll cur).1=256 then (nextP bs ll cur).2 else if (nextP bs ll cur).1 < 256 then toksF bs most ll dl f (givesP most (nextP bs ll cur).2 (UInt8.ofNat (nextP bs ll cur).1.toNat)) else toksF bs most ll dl f (copyP bs most (nextP bs ll cur).2 (nextP bs ll cur).1.toNat dl)) else (nextP bs ll cur).2):=(show _=_ from if_pos he)
   rw [HL.out] at HST
   obtain ⟨q,hq1,hq2,hq3⟩:=nextP_val bs ll cur
   have hq300:q≤300:=by have:=HOK.out.2.2;omega
   have HPP:=Lib.hid (fun h2=>nextP_p (bs:=bs) (ls:=ll) he h2)
   have hout:=nextP_out bs ll cur
   rw [hq1] at HN HST
   have hqt:((q:Int)).toNat=q:=rfl
   rw [hqt] at HST
   clear hq1 hq2 hq3 hqt
   generalize (nextP bs ll cur).2=t1 at *
   by_cases ht:t1.e=0
   ·have d2:(t1.e == 0)=true:=by rw [ht];rfl
    have d2b:(t1.e != 0)=false:=by rw [ht];rfl
    rw [if_pos ht] at HST
    have hpp:=HPP.out ht
    clear HPP
    by_cases h256:q=256
    ·subst h256
     rw [if_pos (by rfl)] at HST
     go_wp2_with (go_at_call 176;(with_reducible refine HN.out.mono ?_);go_must (rintro e w5 ⟨rfl,hf5,hr5⟩;have e53:=(FR.arr hf5).cell (k:=3) rfl;have HF5:=Lib.hid hf5;have HR5:=Lib.hid (HR.out.trans hr5);clear hf5 hr5))
     (try simp only [Exit.inBlock,Exit.then])
     first | (refine bodyPost_ret (results_none rfl _ _ _) rfl ?_) | (refine bodyPost_end (results_none rfl _ _ _) rfl ?_)
     exact ⟨rfl,vq,by rw [HST.out];exact HF5.out,HR5.out⟩
    ·have hn256:¬ (q:Int)=256:=by omega
     have hb256:((q:Int) == 256)=false:=beq_eq_false_iff_ne.2 hn256
     rw [if_neg hn256] at HST
     by_cases hlt:q < 256
     ·have hlti:(q:Int) < 256:=by omega
      rw [if_pos hlti] at HST
      obtain ⟨x,hx⟩:∃ x:UInt8,q=x.toNat:=⟨UInt8.ofNat q,by rw [UInt8.toNat_ofNat'];exact (Nat.mod_eq_of_lt (by omega)).symm⟩
      subst hx
      have hxo:UInt8.ofNat x.toNat=x:=by simp
      rw [hxo] at HST
      have x8:=x.toNat_lt
      have HGV:=Lib.hid (fun w5 (h:FS w5 r g A n c bs most vq t1)=>rgives_any r g n c A bs most vq t1 w5 x h hm)
      have HFU2:Hid (8 * n+1≤(givesP most t1 x).p+f):=(show _≤_ by rw [givesP_p];have:=HFU.out;omega)
      have hp6:(givesP most t1 x).p=t1.p:=givesP_p _ _ _
      have HO6:Hid (((givesP most t1 x).out.length:Int)≤most):=(show _≤_ from givesP_le (by rw [hout];exact HO.out))
      generalize givesP most t1 x=t2 at *
      clear hxo hout
      go_wp2_with (first
       | (go_at_call 176;(with_reducible refine HN.out.mono ?_);go_must (rintro e w5 ⟨rfl,hf5,hr5⟩;have e53:=(FR.arr hf5).cell (k:=3) rfl;have HGV5:=Lib.hid (HGV.out w5 hf5);have HR5:=Lib.hid (HR.out.trans hr5);clear hf5 hr5))
       | (go_at_call 145;(with_reducible refine HGV5.out.mono ?_);go_must (rintro e w6 ⟨rfl,v6,hf6,hr6⟩;have HF6:=Lib.hid hf6;have HR6:=Lib.hid (HR5.out.trans hr6);clear hf6 hr6)))
      have hpos6:=posOf_eq (FR.rd HF6.out)
      go_roundw
      case rel=>exact ⟨t2,v6,f,HF6,HR6,HFU2,HST.out.symm,HO6⟩
      case measure=>rw [hpos6,hpos];omega
     ·have hlti:¬ (q:Int) < 256:=by omega
      rw [if_neg hlti] at HST
      have hf1:t1.p≤8 * bs.length∨True:=.inr trivial
      have HCY:=Lib.hid (fun w5 (h:FS w5 r g A n c bs most vq t1) (hd:DV w5 r g vq dv dl)=>rcopy_any r g n c A bs most vq t1 w5 q dv dl h hd hm (by omega) (by omega) (by rw [hout];exact HO.out))
      have HPC:=Lib.hid (fun (h:t1.p≤8 * bs.length)=>copyP_p (most:=most) (q:=q) (dl:=dl) h)
      have HO6:Hid (((copyP bs most t1 q dl).out.length:Int)≤most):=(show _≤_ from copyP_le (by rw [hout];exact HO.out))
      generalize copyP bs most t1 q dl=t2 at *
      clear hout
      go_wp2_with (first
       | (go_at_call 176;(with_reducible refine HN.out.mono ?_);go_must (rintro e w5 ⟨rfl,hf5,hr5⟩;have e53:=(FR.arr hf5).cell (k:=3) rfl;have hfit5:t1.p≤8 * n:=FR.fit hf5;have HR5:=Lib.hid (HR.out.trans hr5);have HCY5:=Lib.hid (HCY.out w5 hf5 (HDV.out.fr HR5.out));clear hf5 hr5))
       | (go_at_call 177;(with_reducible refine HCY5.out.mono ?_);go_must (rintro e w6 ⟨rfl,v6,hf6,hr6⟩;have HF6:=Lib.hid hf6;have HR6:=Lib.hid (HR5.out.trans hr6);clear hf6 hr6)))
      have hpos6:=posOf_eq (FR.rd HF6.out)
      have hp6:=HPC.out (by rw [HBL.out];exact hfit5)
      have HFU2:Hid (8 * n+1≤t2.p+f):=(show _≤_ by have:=HFU.out;omega)
      go_roundw
      case rel=>exact ⟨t2,v6,f,HF6,HR6,HFU2,HST.out.symm,HO6⟩
      case measure=>rw [hpos6,hpos];omega
   ·have d2:(t1.e == 0)=false:=beq_eq_false_iff_ne.2 ht
    have d2b:(t1.e != 0)=true:=by rw [bne_iff_ne];exact ht
    rw [if_neg ht] at HST
    go_wp2_with (go_at_call 176;(with_reducible refine HN.out.mono ?_);go_must (rintro e w5 ⟨rfl,hf5,hr5⟩;have e53:=(FR.arr hf5).cell (k:=3) rfl;have HF5:=Lib.hid hf5;have HR5:=Lib.hid (HR.out.trans hr5);clear hf5 hr5))
    (try simp only [Exit.inBlock,Exit.then])
    first | (refine bodyPost_ret (results_none rfl _ _ _) rfl ?_) | (refine bodyPost_end (results_none rfl _ _ _) rfl ?_)
    exact ⟨rfl,vq,by rw [HST.out];exact HF5.out,HR5.out⟩
  ·have d1:(cur.e == 0)=false:=beq_eq_false_iff_ne.2 he
   have HE:Hid (cur=R):=(show _=_ by rw [← HL.out,toksF_err he])
   go_wp2_with fail
   (try simp only [Exit.inBlock,Exit.then])
   first | (refine bodyPost_ret (results_none rfl _ _ _) rfl ?_) | (refine bodyPost_end (results_none rfl _ _ _) rfl ?_)
   exact ⟨rfl,vq,by rw [← HE.out];exact HF.out,HR.out⟩
end
end Go.Proofs.YteoolehdomjkkaaGreat
