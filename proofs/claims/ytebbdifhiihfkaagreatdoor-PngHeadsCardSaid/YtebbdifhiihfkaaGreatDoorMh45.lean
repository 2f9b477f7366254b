/- XRd12 XRd13 XUnp2 XUnp3 -/
import Derived.Test.YtebbdifhiihfkaaGreatDoorMh44
import Derived.Test.YtebbdifhiihfkaaGreatDoorMh36
import Derived.Test.YtebbdifhiihfkaaGreatDoorMh11
import Derived.Test.YtebbdifhiihfkaaGreatDoorMh33
import Derived.Test.YtebbdifhiihfkaaGreatDoorMh38
namespace Go.Proofs.YtebbdifhiihfkaaGreatDoor
set_option linter.all false
open Go.RowKit
theorem RdI.rfr {w w':World} {r g B b o n:Nat} {vo vo':Value} {l:List Int} (h:RdI w B (some ⟨b,o,none⟩) n l) (hf:RFr w w' r g vo vo') (hb:b < w.heap.size) (hr:b ≠ r) (hg:b ≠ g) (hv:vo.ownBlock ≠ some b):RdI w' B (some ⟨b,o,none⟩) n l:=by
 refine ⟨h.1,fun hn=>?_⟩
 obtain ⟨b',o',e,hlt,hc⟩:=h.2 hn
 injection e with e
 injection e with e1 e2 e3
 subst e1 e2
 exact ⟨_,_,rfl,hlt,fun j u hu=>(World.cell?_of_block (hf.block b hb hr hg hv)).trans (hc j u hu)⟩
section
variable (r g n c : Nat) (A : Option Addr) (bs : List UInt8) (most : Int) (vo : Value) (s : RS) (w : World)
set_option maxRecDepth 100000 in
set_option maxHeartbeats 3200000 in
theorem rfixed_any (f:Nat) (h:FS w r g A n c bs most vo s) (he:s.e=0) (hm:most≤1000000) (ho:(s.out.length:Int)≤most) (hf:8 * n+1≤f) :
  Calls Tryz.prog 103 #[.pointer (some ⟨r,0,none⟩)] w fun e w'=>e=.returned (.tuple #[])∧∃ vo',FS w' r g A n c bs most vo' (rfixP bs most f s)∧RFr w w' r g vo vo':=by
 have hrw:=(FR.arr h).lt
 have hgr:=FR.gr h
 have HVO:Hid (∀ k,vo.ownBlock=some k→k < w.heap.size):=(show ∀ k,_ from fun k hk=>(World.ownsRow.lt (FR.own h) k hk).2)
 have H:=Lib.hid h
 have hDL:decD fixL s=some fixL:=if_pos ⟨he,by decide +kernel⟩
 have hDD:decD fixD s=some fixD:=if_pos ⟨he,by decide +kernel⟩
 have HDC:Hid (∀ w1 cl b,FS w1 r g A n c bs most vo s→RdI w1 w1.heap.size (some ⟨b,0,none⟩) 288 fixL→Calls Tryz.prog 130 #[.pointer (some ⟨r,0,none⟩),.slice (some ⟨b,0,none⟩) 288 cl,.bool false] w1 fun e w'=>∃ dv,e=.returned dv∧FS w' r g A n c bs most vo s∧RFr w1 w' r g vo vo∧DV w' r g vo dv (some fixL)):=(show ∀ w1 cl b,_ from fun w1 cl b h hr=>by
  have:=rdecoder_any r g n c A bs most vo s w1 w1.heap.size 288 cl (some ⟨b,0,none⟩) fixL false h hr (Nat.le_refl _) (by omega)
  rwa [fixL_dec,hDL] at this)
 have HDD:Hid (∀ w1 B cl b,B≤w1.heap.size→FS w1 r g A n c bs most vo s→RdI w1 B (some ⟨b,0,none⟩) 32 fixD→Calls Tryz.prog 130 #[.pointer (some ⟨r,0,none⟩),.slice (some ⟨b,0,none⟩) 32 cl,.bool false] w1 fun e w'=>∃ dv,e=.returned dv∧FS w' r g A n c bs most vo s∧RFr w1 w' r g vo vo∧DV w' r g vo dv (some fixD)):=(show ∀ w1 B cl b,_ from fun w1 B cl b hB h hr=>by
  have:=rdecoder_any r g n c A bs most vo s w1 B 32 cl (some ⟨b,0,none⟩) fixD false h hr hB (by omega)
  rwa [fixD_dec,hDD] at this)
 have HTK:Hid (∀ w1 gl dv,FS w1 r g A n c bs most vo s→DK w1 r g vo gl fixL→OkL fixL→DV w1 r g vo dv (some fixD)→Calls Tryz.prog 129 #[.pointer (some ⟨r,0,none⟩),.pointer (some ⟨gl,0,none⟩),dv] w1 fun e w'=>e=.returned (.tuple #[])∧∃ vo',FS w' r g A n c bs most vo' (rfixP bs most f s)∧RFr w1 w' r g vo vo'):=(show ∀ w1 gl dv,_ from fun w1 gl dv h1 h2 h3 h4=>rtokens_any r g n c A bs most vo s w1 gl fixL dv (some fixD) f h1 h2 h3 h4 hm ho (by omega))
 clear h hDL hDD
 generalize rfixP bs most f s=R at *
 go_enter Tryz.func103,Tryz.ntmps103
 go_wp2_with (first
  | (go_at_call 118;(with_reducible refine (fixed_any w).mono ?_);go_must (rintro e w1 ⟨gl,cl,gd,cd,rfl,hgl,hgd,hrl,hrd,hb1⟩;have HF1:Hid (FS w1 r g A n c bs most vo s):=(show FS _ _ _ _ _ _ _ _ _ _ from FR.later H.out hb1);have HR1:=Lib.hid (RFr.ofB hb1 r g vo);have HDC1:=Lib.hid (HDC.out w1 cl gl HF1.out hrl);have HRD:=Lib.hid hrd;have hs1:=hb1.size;have hgd1:gd < w1.heap.size:=(by obtain ⟨b,o,e,hb,-⟩:=hrd.at_ (by omega);injection e with e;injection e with e;omega);clear hrl hrd hb1))
  | (go_at_call 130;(with_reducible refine HDC1.out.mono ?_);go_must (rintro e w2 ⟨d2,rfl,hf2,hr2,hd2⟩;have HR2:=Lib.hid (HR1.out.trans hr2);have HD2:=Lib.hid hd2;have HDD2:=Lib.hid (HDD.out w2 w1.heap.size cd gd hr2.size hf2 (RdI.rfr HRD.out hr2 hgd1 (by omega) (by omega) (fun e=>by have:=HVO.out gd e;omega)));clear hf2 hr2 hd2))
  | (go_at_call 130;(with_reducible refine HDD2.out.mono ?_);go_must (rintro e w3 ⟨d3,rfl,hf3,hr3,hd3⟩;rcases HD2.out with ⟨-,h0⟩ | ⟨gq,ds,rfl,h0,h1,h2⟩;(· cases h0);injection h0 with h0;subst h0;have HR3:=Lib.hid (HR2.out.trans hr3);have HTK3:=Lib.hid (HTK.out w3 gq d3 hf3 (h1.fr hr3) h2 hd3);clear hf3 hr3 hd3 h1 h2))
  | (go_at_call 129;(with_reducible refine HTK3.out.mono ?_);go_must (rintro e w4 ⟨rfl,vo',hf4,hr4⟩;have HF4:=Lib.hid hf4;have HR4:=Lib.hid (HR3.out.trans hr4);clear hf4 hr4)))
 (try simp only [Exit.inBlock,Exit.then]);first | (refine bodyPost_ret (results_none rfl _ _ _) rfl ?_) | (refine bodyPost_end (results_none rfl _ _ _) rfl ?_)
 exact ⟨rfl,vo',HF4.out,HR4.out⟩
end
end Go.Proofs.YtebbdifhiihfkaaGreatDoor

/- flate: Inflate, whatever comes. -/
namespace Go.Proofs.YtebbdifhiihfkaaGreatDoor
set_option linter.all false
open Go.RowKit
def imeas (n g r:Nat) (vi:Value) (w:World):Nat:=if intOf vi=0∧errOf w r=0 then 8 * n+1 - posOf w g else 0
set_option maxRecDepth 100000 in
set_option maxHeartbeats 6400000 in
theorem inflate_all (B n c:Nat) (A:Option Addr) (bs:List UInt8) (most:Int) (w:World) (h:RdB w B A n bs) (hB:B≤w.heap.size) (hn:n≤1000000) :
  Calls Tryz.prog 85 #[.slice A n c,.int .i64 most] w fun e w'=>∃ v,e=.returned (.tuple #[v,.int .i64 ((inflP bs most).2.1:Int),.int .i64 (inflP bs most).2.2])∧ownB w' w.heap.size v (inflP bs most).1∧Below w.heap.size w w':=by
 by_cases hmost:most < 0∨40000 < most
 ·have HP:Hid (inflP bs most=([],0,1)):=(show _=_ from if_pos hmost)
  rw [HP.out]
  clear h
  go_enter Tryz.func85,Tryz.ntmps85
  rcases hmost with h1 | h1
  ·have t1:decide (most < 0)=true:=decide_eq_true h1
   go_wp2_with fail
   go_ret3
   exact ⟨_,rfl,ownB.nil_ _ _,Below.refl _ _⟩
  ·have t1:decide (most < 0)=false:=decide_eq_false (by omega)
   have t2:decide (most > 40000)=true:=decide_eq_true h1
   have t3:¬ most < 0:=by omega
   go_wp2_with fail
   go_ret3
   exact ⟨_,rfl,ownB.nil_ _ _,Below.refl _ _⟩
 ·have hn1:¬ most < 0:=fun h=>hmost (.inl h)
  have hn2:¬ 40000 < most:=fun h=>hmost (.inr h)
  have h0:0≤most:=by omega
  have hm:most≤40000:=by omega
  have hlb:bs.length=n:=h.len
  have HP:Hid (inflP bs most=if (infS bs most).e=0 then ((infS bs most).out,((infS bs most).p+7) / 8,0) else ([],0,(infS bs most).e)):=(show _=_ from if_neg hmost)
  rw [HP.out]
  obtain ⟨S,hS⟩:∃ S,infS bs most=S:=⟨_,rfl⟩
  rw [hS]
  obtain ⟨T,hT⟩:∃ T,(if S.e=0 then (S.out,(S.p+7) / 8,0) else (([]:List UInt8),0,S.e))=T:=⟨_,rfl⟩
  rw [hT]
  have HT:=Lib.hid hT
  have HC:Hid (infF bs most (8 * n+1) (8 * n+1) ⟨0,[],0⟩=S):=(show _=_ by rw [← hS,← hlb];rfl)
  have HN:=Lib.hid (newReader_any B n c A bs w h (by omega))
  have t1:decide (most < 0)=false:=decide_eq_false (by omega)
  have t2:decide (most > 40000)=false:=decide_eq_false (by omega)
  have t3:¬ most < 0:=by omega
  have t4:¬ 40000 < most:=by omega
  clear h hS hn1 hn2 HP hmost hT
  go_enter Tryz.func85,Tryz.ntmps85
  go_wp2_with (go_at_call 100;(with_reducible refine HN.out.mono ?_);go_must (rintro e w1 ⟨g,A1,c1,rfl,hg,hgw,ha1,hr1,hb1⟩;have HFR:Hid (FS (w1.alloc (.cells #[.pointer (some ⟨g,0,none⟩),.slice none 0 0,.int .i64 most,.int .i64 0] 129)) w1.heap.size g A1 n c1 bs most (.slice none 0 0) ⟨0,[],0⟩):=(show FR _ _ _ _ _ _ _ _ _ _ _ _ from ⟨Arr.new w1 [.pointer (some ⟨g,0,none⟩),.slice none 0 0,.int .i64 most,.int .i64 0] 129,ha1.alloc _,Rd.alloc hr1 (Nat.le_of_lt hgw) _,ownB.nil_ _ _,hgw,Nat.zero_le _,hn⟩);have HB1:=Lib.hid (hb1.alloc hb1.size (.cells #[.pointer (some ⟨g,0,none⟩),.slice none 0 0,.int .i64 most,.int .i64 0] 129));have hz1:=hb1.size;clear ha1 hr1 hb1))
  obtain ⟨r,hr⟩:∃ r,w1.heap.size=r:=⟨_,rfl⟩
  rw [hr] at HFR
  simp only [hr]
  have hgr:g < r:=by omega
  have hwr:w.heap.size≤r:=by omega
  have hr:=Lib.hid hr
  clear hz1 hgw
  go_wp2_with fail
  have HB2:=Lib.hid (HB1.out)
  obtain ⟨w2,hw2⟩:∃ w2,w1.alloc (.cells #[.pointer (some ⟨g,0,none⟩),.slice none 0 0,.int .i64 most,.int .i64 0] 129)=w2:=⟨_,rfl⟩
  simp only [hw2]
  rw [hw2] at HB2 HFR
  clear hw2 HB1
  go_loopw [8] (fun vi wr=>∃ (last f:Nat) (vo:Value) (cur:RS),vi=.int .i64 last∧last≤1∧Hid (FS wr r g A1 n c1 bs most vo cur)∧Hid (Below w.heap.size w wr)∧Hid (if last=0 then infF bs most (8 * n+1) f cur=S else cur=S)∧Hid ((cur.out.length:Int)≤most)∧Hid (cur.e=0→8 * n+1≤cur.p+f)) (fun vi wr=>imeas n g r vi wr)
  case atStart=>exact ⟨0,8 * n+1,.slice none 0 0,⟨0,[],0⟩,rfl,Nat.zero_le _,HFR,HB2,(show _=_ from HC.out),(show (((0:Nat):Int))≤most from h0),(show _→_ from fun _=>Nat.le_add_left _ _)⟩
  case round =>
   clear HFR HB2 HC
   obtain ⟨last,f,vo,cur,rfl,hl,HFR,HB,HC,HO,HFU⟩:=hrel
   have c3:=(FR.arr HFR.out).cell (k:=3) rfl
   have herr:=errOf_eq c3
   have hpm:=posOf_eq (FR.rd HFR.out)
   by_cases hgo:last=0∧cur.e=0
   ·obtain ⟨rfl,he⟩:=hgo
    have d1:(cur.e == 0)=true:=by rw [he];rfl
    obtain ⟨f,rfl⟩:∃ f',f=f'+1:=⟨f - 1,by have:=HFU.out he;have:=FR.fit HFR.out;omega⟩
    have HST:Hid ((if blk0 bs cur=0 then infF bs most (8 * n+1) f (blkP bs most (8 * n+1) cur) else blkP bs most (8 * n+1) cur)=S):=(show _=_ by
     have h1:infF bs most (8 * n+1) (f+1) cur=S:=by have:=HC.out;rwa [if_pos rfl] at this
     rw [← h1]
     exact (if_pos he).symm)
    have hfu:=HFU.out he
    have hblk:=blkP_p (bs:=bs) (most:=most) (f:=8 * n+1) (s:=cur)
    have hble:((blkP bs most (8 * n+1) cur).out.length:Int)≤most:=kindP_le (by rw [blk2_out];exact HO.out)
    have HBP:Hid (blkP bs most (8 * n+1) cur=kindP bs most (8 * n+1) (blk1 bs cur) (blk2 bs cur)):=(show _=_ from rfl)
    have HKE:Hid (¬ blk1 bs cur=0→(blk2 bs cur).e=0):=(show _→_ from fun h=>getP_v0 h)
    have hko:((blk2 bs cur).out.length:Int)≤most:=by rw [blk2_out];exact HO.out
    have hv0:blk0 bs cur < 2:=getP_lt bs cur (m:=1) (by omega)
    have hv1:blk1 bs cur < 4:=getP_lt bs (getP bs cur 1).2 (m:=2) (by omega)
    have HG1:Hid (Calls Tryz.prog 101 #[.pointer (some ⟨r,0,none⟩),.int .i64 1] wr fun e w'=>e=.returned (.int .i64 (blk0 bs cur:Int))∧FS w' r g A1 n c1 bs most vo (getP bs cur 1).2∧RFr wr w' r g vo vo):=(show Calls _ _ _ _ _ from rget_any r g n c1 A1 bs most vo cur wr 1 1 rfl HFR.out (by omega))
    have HG2:Hid (∀ w3,FS w3 r g A1 n c1 bs most vo (getP bs cur 1).2→Calls Tryz.prog 101 #[.pointer (some ⟨r,0,none⟩),.int .i64 2] w3 fun e w'=>e=.returned (.int .i64 (blk1 bs cur:Int))∧FS w' r g A1 n c1 bs most vo (blk2 bs cur)∧RFr w3 w' r g vo vo):=(show ∀ w3,_ from fun w3 h=>rget_any r g n c1 A1 bs most vo _ w3 2 2 rfl h (by omega))
    have hm0:imeas n g r (.int .i64 ((0:Nat):Int)) wr=8 * n+1 - cur.p:=by unfold imeas;rw [herr,hpm];exact if_pos ⟨rfl,he⟩
    have HFN:Hid (cur.p≤8 * n):=(show _ from FR.fit HFR.out)
    generalize blk2 bs cur=t2 at *
    generalize (getP bs cur 1).2=t1 at *
    generalize blk1 bs cur=k at *
    generalize blk0 bs cur=last at *
    generalize blkP bs most (8 * n+1) cur=nxt at *
    have hd9:w.heap.size≤g:=hg
    have HFIN:Hid (∀ w5 v5,FS w5 r g A1 n c1 bs most v5 nxt→imeas n g r (.int .i64 (last:Int)) w5 < 8 * n+1 - cur.p):=(show ∀ w5 v5,_ from fun w5 v5 h5=>by
     have h1:=posOf_eq (FR.rd h5)
     have h2:=errOf_eq ((FR.arr h5).cell (k:=3) rfl)
     have h3:=HFN.out
     unfold imeas
     rw [h2,h1]
     split
     ·rename_i hh
      have:=hblk hh.2
      omega
     ·omega)
    have HNX:Hid (if last=0 then infF bs most (8 * n+1) f nxt=S else nxt=S):=(show _ by
     have:=HST.out
     by_cases h:last=0
     ·rw [if_pos h] at this ⊢;exact this
     ·rw [if_neg h] at this ⊢;exact this)
    have HFU2:Hid (nxt.e=0→8 * n+1≤nxt.p+f):=(show _→_ from fun h=>by have:=hblk h;omega)
    clear HST HC HFU hblk herr hpm
    rcases (show k=0∨k=1∨k=2∨k=3 by omega) with rfl | rfl | rfl | rfl
    ·have HK:=Lib.hid (fun w4 (h:FS w4 r g A1 n c1 bs most vo t2)=>rplain_any r g n c1 A1 bs most vo t2 w4 h (by omega))
     rw [show plainP bs most t2=nxt from HBP.out.symm] at HK
     clear HBP HKE
     go_wp2_with (first
      | (go_at_call 101;(with_reducible refine HG1.out.mono ?_);go_must (rintro e w3 ⟨rfl,hf3,hr3⟩;have HB3:=Lib.hid (HB.out.trans (FR.fr HFR.out hr3 hd9));have HG23:=Lib.hid (HG2.out _ hf3);have HF3:=Lib.hid hf3;clear hf3 hr3))
      | (go_at_call 101;(with_reducible refine HG23.out.mono ?_);go_must (rintro e w4 ⟨rfl,hf4,hr4⟩;have HB4:=Lib.hid (HB3.out.trans (FR.fr HF3.out hr4 hd9));have HK4:=Lib.hid (HK.out _ hf4);have HF4:=Lib.hid hf4;clear hf4 hr4 HG23))
      | (go_at_call 102;(with_reducible refine HK4.out.mono ?_);go_must (rintro e w5 ⟨rfl,v5,hf5,hr5⟩;have HB5:=Lib.hid (HB4.out.trans (FR.fr HF4.out hr5 hd9));have HF5:=Lib.hid hf5;clear hf5 hr5)))
     go_roundw
     case rel=>exact ⟨last,f,v5,nxt,rfl,by omega,HF5,HB5,HNX,hble,HFU2⟩
     case measure=>rw [hm0];exact HFIN.out _ v5 HF5.out
    ·have HK:=Lib.hid (fun w4 (h:FS w4 r g A1 n c1 bs most vo t2)=>rfixed_any r g n c1 A1 bs most vo t2 w4 (8 * n+1) h (HKE.out (by omega)) (by omega) hko (Nat.le_refl _))
     rw [show rfixP bs most (8 * n+1) t2=nxt from HBP.out.symm] at HK
     clear HBP HKE
     go_wp2_with (first
      | (go_at_call 101;(with_reducible refine HG1.out.mono ?_);go_must (rintro e w3 ⟨rfl,hf3,hr3⟩;have HB3:=Lib.hid (HB.out.trans (FR.fr HFR.out hr3 hd9));have HG23:=Lib.hid (HG2.out _ hf3);have HF3:=Lib.hid hf3;clear hf3 hr3))
      | (go_at_call 101;(with_reducible refine HG23.out.mono ?_);go_must (rintro e w4 ⟨rfl,hf4,hr4⟩;have HB4:=Lib.hid (HB3.out.trans (FR.fr HF3.out hr4 hd9));have HK4:=Lib.hid (HK.out _ hf4);have HF4:=Lib.hid hf4;clear hf4 hr4 HG23))
      | (go_at_call 103;(with_reducible refine HK4.out.mono ?_);go_must (rintro e w5 ⟨rfl,v5,hf5,hr5⟩;have HB5:=Lib.hid (HB4.out.trans (FR.fr HF4.out hr5 hd9));have HF5:=Lib.hid hf5;clear hf5 hr5)))
     go_roundw
     case rel=>exact ⟨last,f,v5,nxt,rfl,by omega,HF5,HB5,HNX,hble,HFU2⟩
     case measure=>rw [hm0];exact HFIN.out _ v5 HF5.out
    ·have HK:=Lib.hid (fun w4 (h:FS w4 r g A1 n c1 bs most vo t2)=>rown_any r g n c1 A1 bs most vo t2 w4 (8 * n+1) h (by omega) hko (Nat.le_refl _))
     rw [show rownP bs most (8 * n+1) t2=nxt from HBP.out.symm] at HK
     clear HBP HKE
     go_wp2_with (first
      | (go_at_call 101;(with_reducible refine HG1.out.mono ?_);go_must (rintro e w3 ⟨rfl,hf3,hr3⟩;have HB3:=Lib.hid (HB.out.trans (FR.fr HFR.out hr3 hd9));have HG23:=Lib.hid (HG2.out _ hf3);have HF3:=Lib.hid hf3;clear hf3 hr3))
      | (go_at_call 101;(with_reducible refine HG23.out.mono ?_);go_must (rintro e w4 ⟨rfl,hf4,hr4⟩;have HB4:=Lib.hid (HB3.out.trans (FR.fr HF3.out hr4 hd9));have HK4:=Lib.hid (HK.out _ hf4);have HF4:=Lib.hid hf4;clear hf4 hr4 HG23))
      | (go_at_call 104;(with_reducible refine HK4.out.mono ?_);go_must (rintro e w5 ⟨rfl,v5,hf5,hr5⟩;have HB5:=Lib.hid (HB4.out.trans (FR.fr HF4.out hr5 hd9));have HF5:=Lib.hid hf5;clear hf5 hr5)))
     go_roundw
     case rel=>exact ⟨last,f,v5,nxt,rfl,by omega,HF5,HB5,HNX,hble,HFU2⟩
     case measure=>rw [hm0];exact HFIN.out _ v5 HF5.out
    ·have HK:=Lib.hid (fun w4 (h:FS w4 r g A1 n c1 bs most vo t2)=>rfail_any r g n c1 A1 bs most vo t2 w4 4 h)
     rw [show t2.fail 4=nxt from HBP.out.symm] at HK
     clear HBP HKE
     go_wp2_with (first
      | (go_at_call 101;(with_reducible refine HG1.out.mono ?_);go_must (rintro e w3 ⟨rfl,hf3,hr3⟩;have HB3:=Lib.hid (HB.out.trans (FR.fr HFR.out hr3 hd9));have HG23:=Lib.hid (HG2.out _ hf3);have HF3:=Lib.hid hf3;clear hf3 hr3))
      | (go_at_call 101;(with_reducible refine HG23.out.mono ?_);go_must (rintro e w4 ⟨rfl,hf4,hr4⟩;have HB4:=Lib.hid (HB3.out.trans (FR.fr HF3.out hr4 hd9));have HK4:=Lib.hid (HK.out _ hf4);have HF4:=Lib.hid hf4;clear hf4 hr4 HG23))
      | (go_at_call 105;(with_reducible refine HK4.out.mono ?_);go_must (rintro e w5 ⟨rfl,hf5,hr5⟩;have HB5:=Lib.hid (HB4.out.trans (FR.fr HF4.out hr5 hd9));have HF5:=Lib.hid hf5;clear hf5 hr5)))
     go_roundw
     case rel=>exact ⟨last,f,vo,nxt,rfl,by omega,HF5,HB5,HNX,hble,HFU2⟩
     case measure=>rw [hm0];exact HFIN.out _ vo HF5.out
   ·have HSC:Hid (cur=S):=(show _=_ by
     have h1:=HC.out
     by_cases hl0:last=0
     ·rw [if_pos hl0] at h1
      rwa [infF_err (fun h=>hgo ⟨hl0,h⟩)] at h1
     ·rwa [if_neg hl0] at h1)
    rw [← HSC.out] at HT
    clear HSC HC
    by_cases he:cur.e=0
    ·obtain rfl:last=1:=by
      have:¬ last=0:=fun h=>hgo ⟨h,he⟩
      omega
     rw [if_pos he] at HT
     have d1:(cur.e != 0)=false:=by rw [he];rfl
     obtain ⟨Av,cv,rfl,-,-,-⟩:=(FR.own HFR.out).form
     have c0:=(FR.arr HFR.out).cell (k:=0) rfl
     have c1':=(FR.arr HFR.out).cell (k:=1) rfl
     have cg:=(FR.rd HFR.out).cell (k:=1) rfl
     have hPf:cur.p≤8 * n:=FR.fit HFR.out
     have e1:IntKind.i64.wrap ((cur.p:Int)+7)=(cur.p:Int)+7:=(by have:=wrap_i64_lt (cur.p+7) (by omega);simpa using this)
     have e2:((cur.p:Int)+7).tdiv 8=(((cur.p+7) / 8:Nat):Int):=by rw [show (cur.p:Int)+7=((cur.p+7:Nat):Int) by omega];rfl
     have e3:((cur.p:Int)+7) / 8=(((cur.p+7) / 8:Nat):Int):=by omega
     obtain ⟨Q,hQ⟩:∃ Q,(cur.p+7) / 8=Q:=⟨_,rfl⟩
     rw [hQ] at e2 e3
     have e4:IntKind.i64.wrap (Q:Int)=(Q:Int):=wrap_i64_lt Q (by omega)
     go_wp2_with fail
     go_quiet ((go_at_call 106;exact Calls.quiet_of_same ((at_any g cur.p _ (by exact cg)).mono fun _ _ h=>⟨h.1,h.2.symm⟩)))
     go_wp2_with fail
     go_ret3
     rw [← HT.out]
     exact ⟨_,by rw [hQ];rfl,(FR.own (FR.drewN HFR.out _)).mono (by omega),bdrewN HB.out _⟩
    ·rw [if_neg he] at HT
     have d1:(cur.e != 0)=true:=by rw [bne_iff_ne];exact he
     have d2:(cur.e == 0)=false:=beq_eq_false_iff_ne.2 he
     rcases (show last=0∨last=1 by omega) with rfl | rfl
     ·go_wp2_with fail
      go_quiet (fail)
      go_wp2_with fail
      go_ret3
      rw [← HT.out]
      exact ⟨_,rfl,ownB.nil_ _ _,bdrewN HB.out _⟩
     ·go_wp2_with fail
      go_quiet (fail)
      go_wp2_with fail
      go_ret3
      rw [← HT.out]
      exact ⟨_,rfl,ownB.nil_ _ _,bdrewN HB.out _⟩
end Go.Proofs.YtebbdifhiihfkaaGreatDoor

/- zlib: Unpack and Whole, whatever comes. -/
namespace Go.Proofs.YtebbdifhiihfkaaGreatDoor
set_option linter.all false
open Go.RowKit
theorem and32 (N:Nat):N &&& 32=N / 32 % 2 * 32:=by
 refine Nat.eq_of_testBit_eq fun i=>?_
 rw [Nat.testBit_and,show (32:Nat)=2 ^ 5 from rfl,Nat.testBit_two_pow]
 by_cases h5:5=i
 ·subst h5
  rw [Nat.testBit_eq_decide_div_mod_eq]
  rcases Nat.mod_two_eq_zero_or_one (N / 2 ^ 5) with h | h
  ·rw [h];simp
  ·rw [h];decide
 ·rcases Nat.mod_two_eq_zero_or_one (N / 2 ^ 5) with h | h
  ·rw [h];simp [h5]
  ·rw [h,Nat.one_mul,Nat.testBit_two_pow]
   simp [h5]
set_option maxRecDepth 100000 in
set_option maxHeartbeats 6400000 in
theorem unpack_any (B n c:Nat) (A:Option Addr) (bs:List UInt8) (most:Int) (w:World) (h:RdB w B A n bs) (hB:B≤w.heap.size) (hc:n≤c) (hn:n≤1000000) :
  Calls Tryz.prog 58 #[.slice A n c,.int .i64 most] w fun e w'=>∃ v,e=.returned (.tuple #[v,.int .i64 ((unpkP bs most).2.1:Int),.int .i64 (unpkP bs most).2.2])∧ownB w' w.heap.size v (unpkP bs most).1∧Below w.heap.size w w':=by
 have hl:=h.len
 have HR:=Lib.hid h
 have HRB:=Lib.hid (readBig_any B n c A bs 0 2 w h hc (by omega))
 by_cases h2:bs.length < 2
 ·have hP:unpkP bs most=([],0,2):=if_pos h2
  rw [hP]
  have hr:rdR beV bs 0 2=(0,2):=by unfold rdR;rw [if_neg (by omega),if_pos (by omega)]
  rw [hr] at HRB
  clear h hP hr
  go_enter Tryz.func58,Tryz.ntmps58
  go_wp2_with (go_at_call 18;(with_reducible refine HRB.out.mono ?_);go_must (rintro e w1 ⟨rfl,rfl⟩))
  go_ret3
  exact ⟨_,rfl,ownB.nil_ _ _,Below.refl _ _⟩
 ·have hr:rdR beV bs 0 2=((hdV bs:Int),0):=by
   unfold rdR
   rw [if_neg (by omega),if_neg (by omega)]
   rfl
  rw [hr] at HRB
  have hv:=beV_two (bs:=bs) (by omega)
  have hP:unpkP bs most=if hdBad (hdV bs) then ([],0,4) else
   if (inflP (bs.drop 2) most).2.2=0 then
    (if bs.length < 2+(inflP (bs.drop 2) most).2.1+4 then ([],0,2) else if sumV bs (inflP (bs.drop 2) most).2.1=adler (inflP (bs.drop 2) most).1 then ((inflP (bs.drop 2) most).1,2+(inflP (bs.drop 2) most).2.1+4,0) else ([],0,5))
   else ([],0,(inflP (bs.drop 2) most).2.2):=if_neg h2
  rw [hP]
  have hbd:hdBad (hdV bs) ↔ (¬ hdV bs / 256 % 16=8∨7 < hdV bs / 4096∨¬ hdV bs % 31=0∨¬ hdV bs / 32 % 2=0):=Iff.rfl
  clear hP hr
  generalize hdV bs=N at *
  have q1:(N:Int) / 256=((N / 256:Nat):Int):=by omega
  have q2:(N:Int) / 4096=((N / 4096:Nat):Int):=by omega
  have q3:(N:Int).tmod 31=((N % 31:Nat):Int):=rfl
  have q3b:(N:Int) % 31=((N % 31:Nat):Int):=by omega
  have q4:bits .and .i64 ((N / 256:Nat):Int) 15=((N / 256 % 16:Nat):Int):=by
   have:=i64_and_nat (N / 256) 15 (by omega) (by omega)
   rw [show (15:Nat)=2 ^ 4 - 1 from rfl,Nat.and_two_pow_sub_one_eq_mod] at this
   exact this
  have q5:bits .and .i64 (N:Int) 32=((N / 32 % 2 * 32:Nat):Int):=by
   have:=i64_and_nat N 32 (by omega) (by omega)
   rw [and32 N] at this
   exact this
  obtain ⟨n1,hn1⟩:∃ x,N / 256=x:=⟨_,rfl⟩
  obtain ⟨n2,hn2⟩:∃ x,N / 256 % 16=x:=⟨_,rfl⟩
  obtain ⟨n3,hn3⟩:∃ x,N / 4096=x:=⟨_,rfl⟩
  obtain ⟨n4,hn4⟩:∃ x,N % 31=x:=⟨_,rfl⟩
  obtain ⟨n5,hn5⟩:∃ x,N / 32 % 2 * 32=x:=⟨_,rfl⟩
  have hbd2:hdBad N ↔ (¬ n2=8∨7 < n3∨¬ n4=0∨¬ n5=0):=by rw [hbd];omega
  rw [hn1] at q1
  rw [hn2,hn1] at q4
  rw [hn3] at q2
  rw [hn4] at q3 q3b
  rw [hn5] at q5
  have w3:IntKind.i64.wrap (n4:Int)=(n4:Int):=wrap_i64_lt n4 (by omega)
  clear hbd hn1 hn2 hn3 hn4 hn5 h
  by_cases hbad:hdBad N
  ·rw [if_pos hbad]
   have hb:=hbd2.1 hbad
   clear hbd2 hbad
   have key:(((n2:Int) != 8)=true)∨(((n2:Int) != 8)=false∧(7:Int) < (n3:Int))∨(((n2:Int) != 8)=false∧¬ (7:Int) < (n3:Int)∧((n4:Int) != 0)=true)∨(((n2:Int) != 8)=false∧¬ (7:Int) < (n3:Int)∧((n4:Int) != 0)=false∧((n5:Int) != 0)=true):=by
    rw [bne_iff_ne,bne_iff_ne,bne_iff_ne,bne_eq_false_iff_eq,bne_eq_false_iff_eq]
    omega
   clear hb
   rcases key with k1 | ⟨k1,k2⟩ | ⟨k1,k2,k3⟩ | ⟨k1,k2,k3,k4⟩ <;>
    ·go_enter Tryz.func58,Tryz.ntmps58
     go_wp2_with (go_at_call 18;(with_reducible refine HRB.out.mono ?_);go_must (rintro e w1 ⟨rfl,rfl⟩))
     go_ret3
     exact ⟨_,rfl,ownB.nil_ _ _,Below.refl _ _⟩
  ·rw [if_neg hbad]
   obtain ⟨k1,k2,k3,k4⟩:((n2:Int) != 8)=false∧¬ (7:Int) < (n3:Int)∧((n4:Int) != 0)=false∧((n5:Int) != 0)=false:=by
    rw [bne_eq_false_iff_eq,bne_eq_false_iff_eq,bne_eq_false_iff_eq]
    have:=mt hbd2.2 hbad
    omega
   clear hbd2 hbad
   obtain ⟨b,o,rfl,-,-⟩:=HR.out.at_ (show 0 < n by omega)
   have h2n:(2:Int)≤(n:Int):=by omega
   have hrd2:RdB w B (some ⟨b,o+2,none⟩) (n - 2) (bs.drop 2):=by
    have h1:=RdB.cut HR.out (k:=2) (m:=n - 2) (by omega) (A':=some ⟨b,o+2,none⟩) (fun _=>by simp [Addr.add])
    rwa [List.take_of_length_le (by rw [List.length_drop];omega)] at h1
   have HI:=Lib.hid (inflate_all B (n - 2) (c - 2) (some ⟨b,o+2,none⟩) (bs.drop 2) most w hrd2 hB (by omega))
   have HI0:Hid (n=2→Calls Tryz.prog 85 #[.slice (some ⟨b,o,none⟩) 0 0,.int .i64 most] w fun e w'=>∃ v,e=.returned (.tuple #[v,.int .i64 ((inflP (bs.drop 2) most).2.1:Int),.int .i64 (inflP (bs.drop 2) most).2.2])∧ownB w' w.heap.size v (inflP (bs.drop 2) most).1∧Below w.heap.size w w'):=(show _→_ from fun hn2=>by
    have e:bs.drop 2=[]:=List.drop_eq_nil_of_le (by omega)
    rw [e]
    exact inflate_all B 0 0 (some ⟨b,o,none⟩) [] most w rdB_nil0 hB (by omega))
   have HIR:Hid ((inflP (bs.drop 2) most).2.2=0→(inflP (bs.drop 2) most).2.1+2≤n∧(inflP (bs.drop 2) most).1.length≤40000):=(show _→_ from fun h=>by
    have h1:=inflP_rng h
    have h3:=inflP_zero h
    rw [List.length_drop] at h1
    omega)
   have HRB2:=Lib.hid (fun (k:Int) w1 (h:RdB w1 B (some ⟨b,o,none⟩) n bs)=>readBig_any B n c (some ⟨b,o,none⟩) bs k 4 w1 h hc (by omega))
   obtain ⟨⟨xs,u,E⟩,hI⟩:∃ I,inflP (bs.drop 2) most=I:=⟨_,rfl⟩
   rw [hI] at HI HI0 HIR ⊢
   replace HIR:Hid (E=0→u+2≤n∧xs.length≤40000):=HIR
   have hcn:(2:Int)≤(c:Int):=by omega
   have hc2:2≤c:=by omega
   clear hI hrd2
   show Calls _ _ _ _ (fun e w'=>∃ v,e=.returned (.tuple #[v,.int .i64 (((if E=0 then (if bs.length < 2+u+4 then ([],0,2) else if sumV bs u=adler xs then (xs,2+u+4,0) else ([],0,5)) else ([],0,E)):List UInt8 × Nat × Int).2.1:Int),.int .i64 ((if E=0 then (if bs.length < 2+u+4 then ([],0,2) else if sumV bs u=adler xs then (xs,2+u+4,0) else ([],0,5)) else ([],0,E)):List UInt8 × Nat × Int).2.2])∧ownB w' w.heap.size v ((if E=0 then (if bs.length < 2+u+4 then ([],0,2) else if sumV bs u=adler xs then (xs,2+u+4,0) else ([],0,5)) else ([],0,E)):List UInt8 × Nat × Int).1∧Below w.heap.size w w')
   by_cases hE:E=0
   ·rw [if_pos hE]
    have dE:(E != 0)=false:=by rw [hE];rfl
    obtain ⟨hu,hxl⟩:=HIR.out hE
    have hk:(2:Int)+(u:Int)=((2+u:Nat):Int):=by omega
    obtain ⟨K,hK⟩:∃ K,2+u=K:=⟨_,rfl⟩
    rw [hK] at hk
    have hr0:∀ h:bs.length < K+4,rdR beV bs (K:Int) 4=(0,2):=fun h=>by unfold rdR;rw [if_neg (by omega),if_pos (by omega)]
    have hr1:∀ h:¬ bs.length < K+4,rdR beV bs (K:Int) 4=((sumV bs u:Int),0):=fun h=>by
     unfold rdR sumV
     rw [if_neg (by omega),if_neg (by omega),Int.toNat_natCast,hK]
     rfl
    have HRK:=Lib.hid (HRB2.out (K:Int))
    rw [hK]
    clear HRB2 HIR
    by_cases h4:bs.length < K+4
    ·rw [if_pos h4]
     rw [hr0 h4] at HRK
     clear hr0 hr1
     by_cases hcc:c=2
     ·subst hcc
      obtain rfl:n=2:=by omega
      have HI00:=Lib.hid (HI0.out rfl)
      clear HI0
      go_enter Tryz.func58,Tryz.ntmps58
      go_wp2_with (first
       | (go_at_call 18;(with_reducible refine HRB.out.mono ?_);go_must (rintro e w1 ⟨rfl,rfl⟩))
       | (go_at_call 85;(with_reducible refine HI00.out.mono ?_);go_must (rintro e w2 ⟨v2,rfl,ho2,hb2⟩;obtain ⟨A2,c2,rfl,-,-,-⟩:=ho2.form;have HB2:=Lib.hid hb2;have HRK2:=Lib.hid (HRK.out w2 (HR.out.blw (hb2.mono hB)));clear ho2 hb2))
       | (go_at_call 18;(with_reducible refine HRK2.out.mono ?_);go_must (rintro e w3 ⟨rfl,rfl⟩)))
      go_ret3
      exact ⟨_,rfl,ownB.nil_ _ _,HB2.out⟩
     ·clear HI0
      go_enter Tryz.func58,Tryz.ntmps58
      go_wp2_with (first
       | (go_at_call 18;(with_reducible refine HRB.out.mono ?_);go_must (rintro e w1 ⟨rfl,rfl⟩))
       | (go_at_call 85;(with_reducible refine HI.out.mono ?_);go_must (rintro e w2 ⟨v2,rfl,ho2,hb2⟩;obtain ⟨A2,c2,rfl,-,-,-⟩:=ho2.form;have HB2:=Lib.hid hb2;have HRK2:=Lib.hid (HRK.out w2 (HR.out.blw (hb2.mono hB)));clear ho2 hb2))
       | (go_at_call 18;(with_reducible refine HRK2.out.mono ?_);go_must (rintro e w3 ⟨rfl,rfl⟩)))
      go_ret3
      exact ⟨_,rfl,ownB.nil_ _ _,HB2.out⟩
    ·rw [if_neg h4]
     rw [hr1 h4] at HRK
     have hs:=sumV_lt (bs:=bs) (u:=u) (by omega)
     have ha:=adler_lt xs
     have hsw:IntKind.u32.wrap (sumV bs u:Int)=(sumV bs u:Int):=by show (sumV bs u:Int) % 4294967296=_;omega
     have hK4:(K:Int)+4=((K+4:Nat):Int):=by omega
     obtain ⟨K4,hK4e⟩:∃ x,K+4=x:=⟨_,rfl⟩
     rw [hK4e] at hK4 ⊢
     clear hr0 hr1
     generalize sumV bs u=s at *
     by_cases hsum:s=adler xs
     ·rw [if_pos hsum]
      have dS:((s:Int) != (adler xs:Int))=false:=by rw [hsum];exact bne_self_eq_false _
      have HAD:=Lib.hid (fun A2 c2 w2 w1 (h:RdB w1 w2 A2 xs.length xs)=>adler_any w2 xs.length c2 A2 xs w1 h (by omega))
      generalize adler xs=ad at *
      clear hsum
      go_enter Tryz.func58,Tryz.ntmps58
      go_wp2_with (first
       | (go_at_call 18;(with_reducible refine HRB.out.mono ?_);go_must (rintro e w1 ⟨rfl,rfl⟩))
       | (go_at_call 85;(with_reducible refine HI.out.mono ?_);go_must (rintro e w2 ⟨v2,rfl,ho2,hb2⟩;obtain ⟨A2,c2,rfl,-,-,-⟩:=ho2.form;have HO2:=Lib.hid ho2;have HB2:=Lib.hid hb2;have HRK2:=Lib.hid (HRK.out w2 (HR.out.blw (hb2.mono hB)));have HAD2:=Lib.hid (HAD.out A2 c2 w2.heap.size w2 (ownB.rd ho2));clear ho2 hb2))
       | (go_at_call 18;(with_reducible refine HRK2.out.mono ?_);go_must (rintro e w3 ⟨rfl,rfl⟩))
       | (go_at_call 86;(with_reducible refine HAD2.out.mono ?_);go_must (rintro e w4 ⟨rfl,rfl⟩)))
      go_ret3
      exact ⟨_,rfl,HO2.out,HB2.out⟩
     ·rw [if_neg hsum]
      have dS:((s:Int) != (adler xs:Int))=true:=by rw [bne_iff_ne];omega
      have HAD:=Lib.hid (fun A2 c2 w2 w1 (h:RdB w1 w2 A2 xs.length xs)=>adler_any w2 xs.length c2 A2 xs w1 h (by omega))
      generalize adler xs=ad at *
      clear hsum
      go_enter Tryz.func58,Tryz.ntmps58
      go_wp2_with (first
       | (go_at_call 18;(with_reducible refine HRB.out.mono ?_);go_must (rintro e w1 ⟨rfl,rfl⟩))
       | (go_at_call 85;(with_reducible refine HI.out.mono ?_);go_must (rintro e w2 ⟨v2,rfl,ho2,hb2⟩;obtain ⟨A2,c2,rfl,-,-,-⟩:=ho2.form;have HB2:=Lib.hid hb2;have HRK2:=Lib.hid (HRK.out w2 (HR.out.blw (hb2.mono hB)));have HAD2:=Lib.hid (HAD.out A2 c2 w2.heap.size w2 (ownB.rd ho2));clear ho2 hb2))
       | (go_at_call 18;(with_reducible refine HRK2.out.mono ?_);go_must (rintro e w3 ⟨rfl,rfl⟩))
       | (go_at_call 86;(with_reducible refine HAD2.out.mono ?_);go_must (rintro e w4 ⟨rfl,rfl⟩)))
      go_ret3
      exact ⟨_,rfl,ownB.nil_ _ _,HB2.out⟩
   ·rw [if_neg hE]
    have dE:(E != 0)=true:=by rw [bne_iff_ne];exact hE
    by_cases hcc:c=2
    ·subst hcc
     obtain rfl:n=2:=by omega
     have HI00:=Lib.hid (HI0.out rfl)
     clear HI0
     go_enter Tryz.func58,Tryz.ntmps58
     go_wp2_with (first
      | (go_at_call 18;(with_reducible refine HRB.out.mono ?_);go_must (rintro e w1 ⟨rfl,rfl⟩))
      | (go_at_call 85;(with_reducible refine HI00.out.mono ?_);go_must (rintro e w2 ⟨v2,rfl,ho2,hb2⟩;obtain ⟨A2,c2,rfl,-,-,-⟩:=ho2.form;have HB2:=Lib.hid hb2;clear ho2 hb2)))
     go_ret3
     exact ⟨_,rfl,ownB.nil_ _ _,HB2.out⟩
    ·clear HI0
     go_enter Tryz.func58,Tryz.ntmps58
     go_wp2_with (first
      | (go_at_call 18;(with_reducible refine HRB.out.mono ?_);go_must (rintro e w1 ⟨rfl,rfl⟩))
      | (go_at_call 85;(with_reducible refine HI.out.mono ?_);go_must (rintro e w2 ⟨v2,rfl,ho2,hb2⟩;obtain ⟨A2,c2,rfl,-,-,-⟩:=ho2.form;have HB2:=Lib.hid hb2;clear ho2 hb2)))
     go_ret3
     exact ⟨_,rfl,ownB.nil_ _ _,HB2.out⟩
end Go.Proofs.YtebbdifhiihfkaaGreatDoor

/- zlib: Whole, whatever comes. -/
namespace Go.Proofs.YtebbdifhiihfkaaGreatDoor
set_option linter.all false
open Go.RowKit
theorem unpk_rng {bs:List UInt8} {most:Int} (h:(unpkP bs most).2.2=0):(unpkP bs most).2.1≤bs.length∧(unpkP bs most).1.length≤40000∧(((unpkP bs most).1.length:Nat):Int)≤most:=by
 unfold unpkP at h ⊢
 split at h
 ·exact absurd (show (2:Int)=0 from h) (by decide)
 ·rename_i h1
  rw [if_neg h1]
  split at h
  ·exact absurd (show (4:Int)=0 from h) (by decide)
  ·rename_i h2
   rw [if_neg h2]
   split at h
   ·rename_i h3
    rw [if_pos h3]
    split at h
    ·exact absurd (show (2:Int)=0 from h) (by decide)
    ·rename_i h4
     rw [if_neg h4]
     split at h
     ·rename_i h5
      rw [if_pos h5]
      have g1:=inflP_rng h3
      have g2:=inflP_zero h3
      exact ⟨by show 2+(inflP (bs.drop 2) most).2.1+4≤_;omega,by show (inflP (bs.drop 2) most).1.length≤_;omega,by show (((inflP (bs.drop 2) most).1.length:Nat):Int)≤_;omega⟩
     ·exact absurd (show (5:Int)=0 from h) (by decide)
   ·rename_i h3
    exact absurd h h3
set_option maxRecDepth 100000 in
set_option maxHeartbeats 3200000 in
theorem whole_any (B n c:Nat) (A:Option Addr) (bs:List UInt8) (most:Int) (w:World) (h:RdB w B A n bs) (hB:B≤w.heap.size) (hc:n≤c) (hn:n≤1000000) :
  Calls Tryz.prog 31 #[.slice A n c,.int .i64 most] w fun e w'=>∃ v,e=.returned (.tuple #[v,.int .i64 (wholP bs most).2])∧ownB w' w.heap.size v (wholP bs most).1∧Below w.heap.size w w':=by
 have hl:=h.len
 have HU:=Lib.hid (unpack_any B n c A bs most w h hB hc hn)
 have hP:wholP bs most=if (unpkP bs most).2.2=0 then (if (unpkP bs most).2.1 < bs.length then ([],3) else ((unpkP bs most).1,0)) else ([],(unpkP bs most).2.2):=rfl
 have hrg:=unpk_rng (bs:=bs) (most:=most)
 rw [hP]
 clear h hP
 obtain ⟨⟨xs,u,E⟩,hI⟩:∃ I,unpkP bs most=I:=⟨_,rfl⟩
 rw [hI] at HU hrg ⊢
 clear hI
 replace hrg:E=0→u≤bs.length∧xs.length≤40000∧((xs.length:Nat):Int)≤most:=hrg
 show Calls _ _ _ _ (fun e w'=>∃ v,e=.returned (.tuple #[v,.int .i64 ((if E=0 then (if u < bs.length then ([],3) else (xs,0)) else ([],E)):List UInt8 × Int).2])∧ownB w' w.heap.size v ((if E=0 then (if u < bs.length then ([],3) else (xs,0)) else ([],E)):List UInt8 × Int).1∧Below w.heap.size w w')
 by_cases hE:E=0
 ·rw [if_pos hE]
  have dE:(E != 0)=false:=by rw [hE];rfl
  by_cases hu:u < bs.length
  ·rw [if_pos hu]
   have hui:(u:Int) < (n:Int):=by omega
   clear hrg
   go_enter Tryz.func31,Tryz.ntmps31
   go_wp2_with (go_at_call 58;(with_reducible refine HU.out.mono ?_);go_must (rintro e w2 ⟨v2,rfl,ho2,hb2⟩;obtain ⟨A2,c2,rfl,-,-,-⟩:=ho2.form;have HB2:=Lib.hid hb2;clear ho2 hb2))
   go_ret2
   exact ⟨_,rfl,ownB.nil_ _ _,HB2.out⟩
  ·rw [if_neg hu]
   have hui:¬ (u:Int) < (n:Int):=by omega
   clear hrg
   go_enter Tryz.func31,Tryz.ntmps31
   go_wp2_with (go_at_call 58;(with_reducible refine HU.out.mono ?_);go_must (rintro e w2 ⟨v2,rfl,ho2,hb2⟩;obtain ⟨A2,c2,rfl,-,-,-⟩:=ho2.form;have HO2:=Lib.hid ho2;have HB2:=Lib.hid hb2;clear ho2 hb2))
   go_ret2
   exact ⟨_,rfl,HO2.out,HB2.out⟩
 ·rw [if_neg hE]
  have dE:(E != 0)=true:=by rw [bne_iff_ne];exact hE
  go_enter Tryz.func31,Tryz.ntmps31
  go_wp2_with (go_at_call 58;(with_reducible refine HU.out.mono ?_);go_must (rintro e w2 ⟨v2,rfl,ho2,hb2⟩;obtain ⟨A2,c2,rfl,-,-,-⟩:=ho2.form;have HB2:=Lib.hid hb2;clear ho2 hb2))
  go_ret2
  exact ⟨_,rfl,ownB.nil_ _ _,HB2.out⟩
end Go.Proofs.YtebbdifhiihfkaaGreatDoor

