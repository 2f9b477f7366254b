/- XPd3 XPeP XPsP XPhP -/
import Derived.Test.YtebbdifhiihfkaaGreatDoorMh08
import Derived.Test.YtebbdifhiihfkaaGreatDoorMh40
import Derived.Test.YtebbdifhiihfkaaGreatDoorMh42
import Derived.Test.YtebbdifhiihfkaaGreatDoorMh43
import Derived.Test.YtebbdifhiihfkaaGreatDoorMh45
import Derived.Test.YtebbdifhiihfkaaGreatDoorMh39
namespace Go.Proofs.YtebbdifhiihfkaaGreatDoor
set_option linter.all false
open Go.RowKit
theorem mem_tot:∀ {l:List CK} {x:CK},x ∈ l→x.2.length≤totC l
 | y :: l,x,h=>by
  rw [totC]
  rcases List.mem_cons.1 h with rfl | h
  ·omega
  ·have:=mem_tot h
   omega
/-- What a picture that is not laced is, of the bytes that come out. -/
def decR (W H C D K N:Nat) (R:List UInt8 × Int):Sh × List UInt8 × Int :=
 if R.2 ≠ 0 then (⟨0,0,0,0⟩,[],R.2) else if R.1.length < N then (⟨0,0,0,0⟩,[],2) else unT W H C D (unF K (W * K) (R.1.take N) H)
set_option maxRecDepth 100000 in
set_option maxHeartbeats 6400000 in
theorem decode_head (B n c:Nat) (A:Option Addr) (bs:List UInt8) (w:World) (h:RdB w B A n bs) (hB:B≤w.heap.size) (hc:n≤c) (hn:n≤1000000) (hE:(chunksP bs).1=0) (hS:SoundP (chunksP bs).2) (hH:hdErr (hdCk (chunksP bs).2) ≠ 0) :
  Calls Tryz.prog 12 #[.slice A n c] w fun e w'=>UnU ⟨0,0,0,0⟩ [] (hdErr (hdCk (chunksP bs).2)) w.heap.size w e w':=by
 have hln:=h.len
 have htot:=chunksP_tot (bs:=bs)
 have hgd:=chunksP_good (bs:=bs)
 have hdm:∀ x ∈ (chunksP bs).2,x.2.length≤1000000:=fun x hx=>by have:=mem_tot hx;omega
 have hpl:(chunksP bs).2.length≤1000000:=by have:=totC_len (chunksP bs).2;omega
 obtain ⟨w1,hw1⟩:∃ w1,w.alloc (.cells #[.int .i64 0,.int .i64 0,.int .i64 0,.int .i64 0,.slice none 0 0] 39)=w1:=⟨_,rfl⟩
 obtain ⟨bx,hbk⟩:∃ b,w.heap.size=b:=⟨_,rfl⟩
 have HX1:Hid (Arr w1 bx [.int .i64 0,.int .i64 0,.int .i64 0,.int .i64 0,.slice none 0 0]):=(show Arr _ _ _ by rw [← hw1,← hbk];exact Arr.new w [.int .i64 0,.int .i64 0,.int .i64 0,.int .i64 0,.slice none 0 0] _)
 have HR1:Hid (RdB w1 B A n bs):=(show RdB _ _ _ _ _ by rw [← hw1];exact Rd.alloc h hB _)
 have HB1:Hid (Below bx w w1):=(show Below _ _ _ by rw [← hw1,← hbk];exact (Below.refl w.heap.size w).alloc (Nat.le_refl _) _)
 have hz1:bx+1≤w1.heap.size:=by rw [← hw1,World.size_alloc,hbk];exact Nat.le_refl _
 have hch:=chunks_any B n c A bs w1 HR1.out (by omega) hc hn
 unfold ChPost at hch
 obtain ⟨E1,hE1⟩:∃ E1:Int,((chunksP bs).1:Int)=E1:=⟨_,rfl⟩
 obtain ⟨p,hp⟩:∃ p,(chunksP bs).2=p:=⟨_,rfl⟩
 rw [hE1,hp] at hch
 rw [hp] at htot hgd hdm hpl
 rw [hbk] at hB ⊢
 rw [hp] at hS hH ⊢
 obtain rfl:E1=0:=by omega
 have HS:=Lib.hid hS
 obtain ⟨sp1,sp2,sp3,-,-⟩:=hS
 obtain ⟨hd,hhd⟩:∃ hd,hdCk p=hd:=⟨_,rfl⟩
 have hp0:p[0]?=some (IHDR,hd):=by
  rw [List.getElem?_eq_getElem sp1]
  have h1:p.getD 0 ([],[])=p[0]:=by rw [List.getD_eq_getElem?_getD,List.getElem?_eq_getElem sp1];rfl
  have h2:hdCk p=p[0].2:=by unfold hdCk;rw [h1]
  rw [h1] at sp2
  rw [← hhd,h2,← sp2]
 rw [hhd] at sp3
 have HP0:=Lib.hid hp0
 have HD13:=Lib.hid sp3
 rw [hhd] at hH ⊢
 obtain ⟨E,hEe⟩:∃ E,hdErr hd=E:=⟨_,rfl⟩
 rw [hEe] at hH ⊢
 have hEt:(E != 0)=true:=by rw [bne_iff_ne];exact hH
 have HEE:=Lib.hid hEe
 have SP1:=Lib.hid sp1
 have HCH:=Lib.hid hch
 have HGD:=Lib.hid hgd
 have HDM:=Lib.hid hdm
 clear hch hE hE1 hp h hgd hdm hhd sp1 sp2 sp3 hp0 hEe hH
 go_enter Tryz.func12,Tryz.ntmps12
 go_wp2_with (first
  | (go_at_call 9;(with_reducible refine HCH.out.mono ?_);go_must (rintro e w2 ⟨A2,n2,c2,l,rfl,hr2,hcr2,hc2,hb2⟩;have HR2:=Lib.hid hr2;have HC2:=Lib.hid hcr2;have HX2:=Lib.hid (HX1.out.later hb2);have HB2:=Lib.hid (HB1.out.trans (hb2.mono (by omega)));have hz2:=hb2.size;have HN2:Hid (l.length=n2):=(show _=_ from hr2.len);have HNL:Hid (n2≤1000000):=(show _≤_ by have h1:=hr2.len;have h2:=hcr2.1;omega);have x0:=HX2.out.cell (k:=0) rfl;have x1:=HX2.out.cell (k:=1) rfl;have x2:=HX2.out.cell (k:=2) rfl;have x3:=HX2.out.cell (k:=3) rfl;have x4:=HX2.out.cell (k:=4) rfl;have f0:=HX2.out.frozen 0;have f1:=HX2.out.frozen 1;have f2:=HX2.out.frozen 2;have f3:=HX2.out.frozen 3;have f4:=HX2.out.frozen 4;clear hr2 hcr2 hb2))
  | (go_at_call 26;(with_reducible refine (sound_any w2.heap.size n2 c2 A2 l p w2 HR2.out HC2.out (Nat.le_refl _) hc2 HNL.out HGD.out HDM.out).mono ?_);go_must (rintro e w3 ⟨b3,rfl,hif3,hb3⟩;obtain rfl:b3=true:=hif3.2 HS.out;have HR3:=Lib.hid (RdQ.later HR2.out hb3);have HC3:=Lib.hid (HC2.out.later hb3);have HX3:=Lib.hid (HX2.out.later hb3);have HB3:=Lib.hid (HB2.out.trans (hb3.mono (by omega)));have hz3:=hb3.size;have x0:=HX3.out.cell (k:=0) rfl;have x1:=HX3.out.cell (k:=1) rfl;have x2:=HX3.out.cell (k:=2) rfl;have x3:=HX3.out.cell (k:=3) rfl;have x4:=HX3.out.cell (k:=4) rfl;have f0:=HX3.out.frozen 0;have f1:=HX3.out.frozen 1;have f2:=HX3.out.frozen 2;have f3:=HX3.out.frozen 3;have f4:=HX3.out.frozen 4;obtain ⟨kz,dz,Az,cz,hpz,hlz,hcz,hrz⟩:=HC3.out.one (i:=0) SP1.out;have hez:=hpz.symm.trans HP0.out;injection hez with hez;injection hez with hez1 hez2;subst hez1 hez2;have hlz2:=HD13.out;have HLZ:Hid (l[0]?=some (IHDR,Az,13,cz)):=(show _=_ by rw [hlz,hlz2]);have hrz2:RdB w3 w3.heap.size Az 13 dz:=(by rw [← hlz2];exact hrz);have HRZ:=Lib.hid hrz2;have hn2p:0 < n2:=(by have h1:=HN2.out;have h2:=HC3.out.1;have h3:=SP1.out;omega);obtain ⟨bl,ol,xl,rfl,hbl,HXL,e1,e2⟩:=HR3.out.one (k:=0) hn2p;have hxl:xl=(IHDR,Az,13,cz):=(by have:=HXL.out.symm.trans HLZ.out;injection this);subst hxl;simp only [Nat.zero_mul,Nat.add_zero] at e1 e2;have hn2i:(0:Int) < (n2:Int):=(by omega);have HSP3:=Lib.hid (pshape_any w3.heap.size cz Az dz w3 hrz2 (Nat.le_refl _) (by omega));clear hpz hlz hcz hrz hlz2 hrz2 e1;unfold ShPost ShP at HSP3;rw [HEE.out] at HSP3;clear hif3 hb3))
  | (go_at_call 27;(with_reducible refine HSP3.out.mono ?_);go_must (rintro e w4 ⟨la,rfl,hla,hb4⟩;have HX4:=Lib.hid (HX3.out.later hb4);have HB4:=Lib.hid (HB3.out.trans (hb4.mono (by omega)));have hz4:=hb4.size;have hbx4:=HX4.out.lt;have hbxn:=Nat.ne_of_lt hbx4;have x0:=HX4.out.cell (k:=0) rfl;have x1:=HX4.out.cell (k:=1) rfl;have x2:=HX4.out.cell (k:=2) rfl;have x3:=HX4.out.cell (k:=3) rfl;have x4:=HX4.out.cell (k:=4) rfl;have f0:=HX4.out.frozen 0;have f1:=HX4.out.frozen 1;have f2:=HX4.out.frozen 2;have f3:=HX4.out.frozen 3;have f4:=HX4.out.frozen 4; clear hb4 hla)))
 refine bodyPost_ret (v:=.tuple #[.agg #[.int .i64 0,.int .i64 0,.int .i64 0,.int .i64 0,.slice none 0 0],.int .i64 E]) ?_ rfl ?_
 ·unfold results
  go_simp
 ·exact ⟨_,rfl,ownB.nil_ _ _,(Below.alloc (((((HB4.out.setCell (p:=⟨bx,0,none⟩) (Nat.le_refl _) _).setCell (p:=⟨bx,1,none⟩) (Nat.le_refl _) _).setCell (p:=⟨bx,2,none⟩) (Nat.le_refl _) _).setCell (p:=⟨bx,3,none⟩) (Nat.le_refl _) _).setCell (p:=⟨bx,4,none⟩) (Nat.le_refl _) _) (by simp;omega) _)⟩
set_option maxRecDepth 100000 in
set_option maxHeartbeats 6400000 in
theorem decode_plain (W H C D K N:Nat) (sF:Sh) (out:List UInt8) (EF:Int) (B n c:Nat) (A:Option Addr) (bs:List UInt8) (w:World) (h:RdB w B A n bs) (hB:B≤w.heap.size) (hc:n≤c) (hn:n≤1000000) (hE:(chunksP bs).1=0) (hS:SoundP (chunksP bs).2) (hH:hdErr (hdCk (chunksP bs).2)=0) (hL:hdLa (hdCk (chunksP bs).2)=false)
  (hW1:hdW (hdCk (chunksP bs).2)=W) (hH1:hdH (hdCk (chunksP bs).2)=H) (hC1:hdC (hdCk (chunksP bs).2)=C) (hD1:hdD (hdCk (chunksP bs).2)=D) (hs:PS W H C D K) (hz:H * (W * K)≤16384) (hNN:H * (W * K+1)=N)
  (hR:decR W H C D K N (wholP (datL (chunksP bs).2) (N:Int))=(sF,out,EF)) :
  Calls Tryz.prog 12 #[.slice A n c] w fun e w'=>UnU sF out EF w.heap.size w e w':=by
 have hln:=h.len
 have htot:=chunksP_tot (bs:=bs)
 have hgd:=chunksP_good (bs:=bs)
 have hdm:∀ x ∈ (chunksP bs).2,x.2.length≤1000000:=fun x hx=>by have:=mem_tot hx;omega
 have hpl:(chunksP bs).2.length≤1000000:=by have:=totC_len (chunksP bs).2;omega
 obtain ⟨w1,hw1⟩:∃ w1,w.alloc (.cells #[.int .i64 0,.int .i64 0,.int .i64 0,.int .i64 0,.slice none 0 0] 39)=w1:=⟨_,rfl⟩
 obtain ⟨bx,hbk⟩:∃ b,w.heap.size=b:=⟨_,rfl⟩
 have HX1:Hid (Arr w1 bx [.int .i64 0,.int .i64 0,.int .i64 0,.int .i64 0,.slice none 0 0]):=(show Arr _ _ _ by rw [← hw1,← hbk];exact Arr.new w [.int .i64 0,.int .i64 0,.int .i64 0,.int .i64 0,.slice none 0 0] _)
 have HR1:Hid (RdB w1 B A n bs):=(show RdB _ _ _ _ _ by rw [← hw1];exact Rd.alloc h hB _)
 have HB1:Hid (Below bx w w1):=(show Below _ _ _ by rw [← hw1,← hbk];exact (Below.refl w.heap.size w).alloc (Nat.le_refl _) _)
 have hz1:bx+1≤w1.heap.size:=by rw [← hw1,World.size_alloc,hbk];exact Nat.le_refl _
 have hch:=chunks_any B n c A bs w1 HR1.out (by omega) hc hn
 unfold ChPost at hch
 obtain ⟨E1,hE1⟩:∃ E1:Int,((chunksP bs).1:Int)=E1:=⟨_,rfl⟩
 obtain ⟨p,hp⟩:∃ p,(chunksP bs).2=p:=⟨_,rfl⟩
 rw [hE1,hp] at hch
 rw [hp] at htot hgd hdm hpl
 rw [hbk] at hB ⊢
 rw [hp] at hS hH hL hW1 hH1 hC1 hD1 hR
 obtain rfl:E1=0:=by omega
 have HS:=Lib.hid hS
 obtain ⟨sp1,sp2,sp3,-,-⟩:=hS
 obtain ⟨hd,hhd⟩:∃ hd,hdCk p=hd:=⟨_,rfl⟩
 have hp0:p[0]?=some (IHDR,hd):=by
  rw [List.getElem?_eq_getElem sp1]
  have h1:p.getD 0 ([],[])=p[0]:=by rw [List.getD_eq_getElem?_getD,List.getElem?_eq_getElem sp1];rfl
  have h2:hdCk p=p[0].2:=by unfold hdCk;rw [h1]
  rw [h1] at sp2
  rw [← hhd,h2,← sp2]
 rw [hhd] at sp3
 have HP0:=Lib.hid hp0
 have HD13:=Lib.hid sp3
 rw [hhd] at hH hL hW1 hH1 hC1 hD1
 have HEE:=Lib.hid hH
 have HLA:=Lib.hid hL
 have HW1:=Lib.hid hW1
 have HH1:=Lib.hid hH1
 have HC1:=Lib.hid hC1
 have HD1:=Lib.hid hD1
 have SP1:=Lib.hid sp1
 have HCH:=Lib.hid hch
 have HGD:=Lib.hid hgd
 have HDM:=Lib.hid hdm
 have HTT:Hid (totC p≤1000000):=(show _≤_ by omega)
 have HPL:Hid (p.length≤1000000):=(show _≤_ from hpl)
 have HDR:=Lib.hid hR
 have HPS:=Lib.hid hs
 have HZZ:=Lib.hid hz
 have hN4:N≤40000:=by rw [← hNN,Nat.mul_add,Nat.mul_one];have:=hs.h2;omega
 have HNN:=Lib.hid hNN
 clear hch hE hE1 hp h hgd hdm hhd sp1 sp2 sp3 hp0 hH hL hW1 hH1 hC1 hD1 hR hs hz hNN htot
 go_enter Tryz.func12,Tryz.ntmps12
 go_upto_region 9 with (first
  | (go_at_call 9;(with_reducible refine HCH.out.mono ?_);go_must (rintro e w2 ⟨A2,n2,c2,l,rfl,hr2,hcr2,hc2,hb2⟩;have HR2:=Lib.hid hr2;have HC2:=Lib.hid hcr2;have HX2:=Lib.hid (HX1.out.later hb2);have HB2:=Lib.hid (HB1.out.trans (hb2.mono (by omega)));have hz2:=hb2.size;have HN2:Hid (l.length=n2):=(show _=_ from hr2.len);have HNL:Hid (n2≤1000000):=(show _≤_ by have h1:=hr2.len;have h2:=hcr2.1;omega);have x0:=HX2.out.cell (k:=0) rfl;have x1:=HX2.out.cell (k:=1) rfl;have x2:=HX2.out.cell (k:=2) rfl;have x3:=HX2.out.cell (k:=3) rfl;have x4:=HX2.out.cell (k:=4) rfl;have f0:=HX2.out.frozen 0;have f1:=HX2.out.frozen 1;have f2:=HX2.out.frozen 2;have f3:=HX2.out.frozen 3;have f4:=HX2.out.frozen 4;clear hr2 hcr2 hb2))
  | (go_at_call 26;(with_reducible refine (sound_any w2.heap.size n2 c2 A2 l p w2 HR2.out HC2.out (Nat.le_refl _) hc2 HNL.out HGD.out HDM.out).mono ?_);go_must (rintro e w3 ⟨b3,rfl,hif3,hb3⟩;obtain rfl:b3=true:=hif3.2 HS.out;have HR3:=Lib.hid (RdQ.later HR2.out hb3);have HC3:=Lib.hid (HC2.out.later hb3);have HX3:=Lib.hid (HX2.out.later hb3);have HB3:=Lib.hid (HB2.out.trans (hb3.mono (by omega)));have hz3:=hb3.size;have x0:=HX3.out.cell (k:=0) rfl;have x1:=HX3.out.cell (k:=1) rfl;have x2:=HX3.out.cell (k:=2) rfl;have x3:=HX3.out.cell (k:=3) rfl;have x4:=HX3.out.cell (k:=4) rfl;have f0:=HX3.out.frozen 0;have f1:=HX3.out.frozen 1;have f2:=HX3.out.frozen 2;have f3:=HX3.out.frozen 3;have f4:=HX3.out.frozen 4;obtain ⟨kz,dz,Az,cz,hpz,hlz,hcz,hrz⟩:=HC3.out.one (i:=0) SP1.out;have hez:=hpz.symm.trans HP0.out;injection hez with hez;injection hez with hez1 hez2;subst hez1 hez2;have hlz2:=HD13.out;have HLZ:Hid (l[0]?=some (IHDR,Az,13,cz)):=(show _=_ by rw [hlz,hlz2]);have hrz2:RdB w3 w3.heap.size Az 13 dz:=(by rw [← hlz2];exact hrz);have HRZ:=Lib.hid hrz2;have hn2p:0 < n2:=(by have h1:=HN2.out;have h2:=HC3.out.1;have h3:=SP1.out;omega);obtain ⟨bl,ol,xl,rfl,hbl,HXL,e1,e2⟩:=HR3.out.one (k:=0) hn2p;have hxl:xl=(IHDR,Az,13,cz):=(by have:=HXL.out.symm.trans HLZ.out;injection this);subst hxl;simp only [Nat.zero_mul,Nat.add_zero] at e1 e2;have hn2i:(0:Int) < (n2:Int):=(by omega);have HSP3:=Lib.hid (pshape_any w3.heap.size cz Az dz w3 hrz2 (Nat.le_refl _) (by omega));clear hpz hlz hcz hrz hlz2 hrz2 e1;unfold ShPost ShP at HSP3;rw [HEE.out,HW1.out,HH1.out,HC1.out,HD1.out] at HSP3;clear hif3 hb3))
  | (go_at_call 27;(with_reducible refine HSP3.out.mono ?_);go_must (rintro e w4 ⟨la,rfl,hla,hb4⟩;have HX4:=Lib.hid (HX3.out.later hb4);have HB4:=Lib.hid (HB3.out.trans (hb4.mono (by omega)));have hz4:=hb4.size;have hbx4:=HX4.out.lt;have hbxn:=Nat.ne_of_lt hbx4;have x0:=HX4.out.cell (k:=0) rfl;have x1:=HX4.out.cell (k:=1) rfl;have x2:=HX4.out.cell (k:=2) rfl;have x3:=HX4.out.cell (k:=3) rfl;have x4:=HX4.out.cell (k:=4) rfl;have f0:=HX4.out.frozen 0;have f1:=HX4.out.frozen 1;have f2:=HX4.out.frozen 2;have f3:=HX4.out.frozen 3;have f4:=HX4.out.frozen 4;obtain rfl:la=false:=(hla (by first | rfl | trivial)).trans HLA.out;have HR4:=Lib.hid (RdQ.later HR3.out hb4);have HC4:=Lib.hid (HC3.out.later hb4);clear hb4 hla)))
 clear hw1 HCH HX1 HR1 HB1 HX2 HR2 HC2 HB2 HX3 HR3 HC3 HB3 HSP3 HXL HLZ HRZ
 obtain ⟨sW,sH,sC,sD⟩:=sF
 obtain ⟨b6,hb6⟩:∃ b,w4.heap.size=b:=⟨_,rfl⟩
 obtain ⟨wb,hwb⟩:∃ w,(w4.alloc (.cells #[.int .i64 (W:Int),.int .i64 (H:Int),.int .i64 (C:Int),.int .i64 (D:Int)] 37)).alloc (.cells #[.slice none 0 0,.int .i64 0,.int .i8 0] 68)=w:=⟨_,rfl⟩
 have HS6:Hid (Arr wb b6 [.int .i64 (W:Int),.int .i64 (H:Int),.int .i64 (C:Int),.int .i64 (D:Int)]):=(show Arr _ _ _ by rw [← hwb,← hb6];exact (Arr.new w4 [.int .i64 (W:Int),.int .i64 (H:Int),.int .i64 (C:Int),.int .i64 (D:Int)] _).alloc _)
 have HBF:Hid (Lib.IsBuffer 68 5 (b6+1) (b6+1) (cb (datL (p.take 0))) wb):=(show Lib.IsBuffer _ _ _ _ _ _ by
  have:=Lib.fresh_isBuffer 68 5 (w4.alloc (.cells #[.int .i64 (W:Int),.int .i64 (H:Int),.int .i64 (C:Int),.int .i64 (D:Int)] 37))
  rw [World.size_alloc,hb6,hwb] at this
  exact this)
 have HWB:Hid (Below w4.heap.size w4 wb):=(show Below _ _ _ by rw [← hwb];exact ((Below.refl w4.heap.size w4).alloc (Nat.le_refl _) _).alloc (by rw [World.size_alloc];omega) _)
 have hzb:b6+2≤wb.heap.size:=by rw [← hwb,World.size_alloc,World.size_alloc,hb6];exact Nat.le_refl _
 have hbl4:bl < w4.heap.size:=by omega
 have HB6:=Lib.hid hb6
 clear x0 x1 x2 x3 x4 f0 f1 f2 f3 f4 e2
 go_wp2_with fail
 simp only [hb6]
 clear hwb hb6
 go_loopw [46] (fun vi wr=>∃ i:Nat,i≤n2∧vi=.int .i64 (i:Int)∧Hid (Lib.IsBuffer 68 5 (b6+1) (b6+1) (cb (datL (p.take i))) wr)∧Hid (Below (b6+1) wb wr)) (fun vi _=>n2 - (intOf vi).toNat)
 case atStart=>exact ⟨0,Nat.zero_le _,rfl,HBF.out,Below.refl _ _⟩
 case round =>
  clear HBF
  obtain ⟨i,hi,rfl,HI,HBr⟩:=hrel
  have hzr:=HBr.out.size
  have HB4r:Hid (Below w4.heap.size w4 wr):=(show Below _ _ _ from HWB.out.trans (HBr.out.mono (by have:=HB6.out;omega)))
  have hz4r:=HB4r.out.size
  by_cases hlt:i < n2
  ·have hlti:(i:Int) < (n2:Int):=by omega
   have HR:Hid (RdQ wr w4.heap.size (some ⟨bl,ol,none⟩) n2 l):=(show RdQ _ _ _ _ _ from HR4.out.blw HB4r.out)
   obtain ⟨b',o',x,hbo,-,HX,e1,e2⟩:=HR.out.one hlt
   injection hbo with hbo
   injection hbo with q1 q2
   subst q1 q2
   have hip:i < p.length:=by have h1:=HN2.out;have h2:=HC4.out.1;omega
   obtain ⟨⟨xk,xd⟩,hpi⟩:∃ x,p[i]?=some x:=⟨_,List.getElem?_eq_getElem hip⟩
   obtain ⟨xA,xc,hli,hxc,hxr,gx,rfl,hgx,-⟩:=HC4.out.2 i xk xd hpi
   have hx:x=(xk,some ⟨gx,0,none⟩,xd.length,xc):=by have:=HX.out.symm.trans hli;injection this
   subst hx
   have HSN:=Lib.hid (datL_snoc hpi)
   have hdl:(datL (p.take (i+1))).length≤1000000:=by
    have h1:=datL_len (p.take (i+1))
    have h2:=totC_app (p.take (i+1)) (p.drop (i+1))
    rw [List.take_append_drop] at h2
    have:=HTT.out
    omega
   have hxl:(datL (p.take i)).length+xd.length≤1000000∨¬ xk=IDAT:=by
    by_cases e:xk=IDAT
    ·left
     have h3:=HSN.out
     rw [if_pos e] at h3
     have h4:(datL (p.take (i+1))).length=(datL (p.take i)).length+xd.length:=by rw [h3,List.length_append]
     omega
    ·exact .inr e
   have HXR:=Lib.hid hxr
   have hi2:IntKind.i64.wrap ((i:Int)+1)=(i:Int)+1:=by rw [show (i:Int)+1=((i+1:Nat):Int) by omega];exact wrap_i64_lt _ (by omega)
   dsimp only at e1 e2
   clear HX hli hpi hxr HR
   obtain ⟨wq,hwq⟩:∃ wq,wr.alloc (.cells #[.string ⟨xk.toArray⟩,.slice (some ⟨gx,0,none⟩) xd.length xc] 33)=wq:=⟨_,rfl⟩
   have HWQ:Hid (Below wr.heap.size wr wq):=(show Below _ _ _ by rw [← hwq];exact (Below.refl wr.heap.size wr).alloc (Nat.le_refl _) _)
   have HIQ:Hid (Lib.IsBuffer 68 5 (b6+1) (b6+1) (cb (datL (p.take i))) wq):=(show Lib.IsBuffer _ _ _ _ _ _ by rw [← hwq];exact HI.out.alloc _)
   have HBQ:Hid (Below (b6+1) wb wq):=(show Below _ _ _ from HBr.out.trans (HWQ.out.mono (by omega)))
   have hzq:b6+1≤wq.heap.size:=by have:=HWQ.out.size;omega
   have q0:wq.cell? ⟨wr.heap.size,0,none⟩=some (.string ⟨xk.toArray⟩):=by rw [← hwq];exact (Arr.new wr [.string ⟨xk.toArray⟩,.slice (some ⟨gx,0,none⟩) xd.length xc] 33).cell (k:=0) rfl
   have q1:wq.cell? ⟨wr.heap.size,1,none⟩=some (.slice (some ⟨gx,0,none⟩) xd.length xc):=by rw [← hwq];exact (Arr.new wr [.string ⟨xk.toArray⟩,.slice (some ⟨gx,0,none⟩) xd.length xc] 33).cell (k:=1) rfl
   by_cases hk:xk=IDAT
   ·have hsnn:=HSN.out
    rw [if_pos hk] at hsnn
    have hk2:xk=[73,68,65,84]:=hk
    subst hk2
    have hle:(datL (p.take i)).length+xd.length≤1000000:=hxl.elim id (fun h=>absurd hk h)
    have hrq:=RdB.blw HXR.out (HB4r.out.trans (HWQ.out.mono (by have:=HB6.out;omega)))
    have HWR:=Lib.hid (bufWrite_any (b6+1) (b6+1) (cb (datL (p.take i))) (cb xd) ⟨gx,0,none⟩ xd.length xc wq HIQ.out hzq (cb_one _) (cb_length _) (by show gx ≠ b6+1;have:=HB6.out;omega) (fun j v hj=>by
     have hjl:j < xd.length:=by have h1:=(List.getElem?_eq_some_iff.1 hj).1;rwa [cb_length] at h1
     obtain ⟨b9,o9,e9,-,hc9⟩:=hrq.2 (by omega)
     injection e9 with e9
     injection e9 with e91 e92
     subst e91 e92
     rw [add_none]
     exact hc9 j v hj) (cb_one _) (by rw [cb_length];omega))
    have HS2:Hid (cb (datL (p.take (i+1)))=cb (datL (p.take i)) ++ cb xd):=(show _=_ by rw [hsnn,cb_append])
    clear hrq hsnn hk hxl hle
    go_wp2_with (go_at_call 28;(with_reducible refine HWR.out.mono ?_);go_must (rintro e w7 ⟨rfl,hI7,hb7⟩;rw [← HS2.out] at hI7;have HI7:=Lib.hid hI7;have HB7:=Lib.hid (HBQ.out.trans hb7);clear hI7 hb7))
    go_roundw
    case rel =>
     first
      | exact ⟨i+1,by omega,by go_num,HI7.out,HB7.out⟩
      | ((repeat apply Exists.intro);exact ⟨⟨i+1,by omega,by go_num,HI7.out,HB7.out⟩,rfl⟩)
    case measure=>simp [intOf];omega
   ·have hkk:(xk == [73,68,65,84])=false:=by rw [beq_eq_false_iff_ne];exact hk
    have hsnn:=HSN.out
    rw [if_neg hk,List.append_nil] at hsnn
    have HS2:=Lib.hid hsnn
    clear hsnn hk hxl
    go_wp2_with fail
    go_roundw
    case rel=>exact ⟨i+1,by omega,by go_num,(show Lib.IsBuffer _ _ _ _ _ _ by rw [HS2.out];exact HIQ.out),HBQ.out⟩
    case measure=>simp [intOf];omega
  ·obtain rfl:i=n2:=by omega
   have hlti:¬ (i:Int) < (i:Int):=by omega
   have hpt:p.take i=p:=List.take_of_length_le (by have h1:=HN2.out;have h2:=HC4.out.1;omega)
   have HI2:Hid (Lib.IsBuffer 68 5 (b6+1) (b6+1) (cb (datL p)) wr):=(show Lib.IsBuffer _ _ _ _ _ _ by have:=HI.out;rwa [hpt] at this)
   have hdl:(datL p).length≤1000000:=by have h1:=datL_len p;have:=HTT.out;omega
   have HSr:=Lib.hid (HS6.out.blw HBr.out (Nat.lt_succ_self b6))
   have s0:=HSr.out.cell (k:=0) rfl
   have s1:=HSr.out.cell (k:=1) rfl
   have s2:=HSr.out.cell (k:=2) rfl
   have s3:=HSr.out.cell (k:=3) rfl
   have HPA:=Lib.hid (parts0_any (W:Int) (H:Int) (C:Int) (D:Int) wr)
   have HAL:=Lib.hid (fun w=>all_any W H C D K w HPS.out HZZ.out)
   rw [HNN.out] at HAL
   have HBX:=Lib.hid (HB4.out.trans (HB4r.out.mono (by omega)))
   have HXr:=Lib.hid (HX4.out.later HB4r.out)
   clear HI hpt HC4 HR4
   go_wp2_with (go_at_call 29;(with_reducible refine HPA.out.mono ?_);go_must (rintro e w8 ⟨g9,rfl,hr8,hb8⟩;have HV8:=Lib.hid hr8;have HI8:=Lib.hid (HI2.out.old hb8);have HS8:=Lib.hid (HSr.out.later hb8);have HX8:=Lib.hid (HXr.out.later hb8);have HB8:=Lib.hid (HBX.out.trans (hb8.mono (by omega)));have hz8:=hb8.size;clear hr8 hb8))
   obtain ⟨wo,rfl⟩:∃ wo:World,wo=wr:=⟨_,rfl⟩
   go_loopw [62,12] (fun vi vn wr=>∃ k:Nat,k≤1∧vi=.int .i64 (k:Int)∧vn=.int .i64 ((k * N:Nat):Int)∧Hid (Below w8.heap.size w8 wr)) (fun vi _ _=>1 - (intOf vi).toNat)
   case atStart=>exact ⟨0,Nat.zero_le _,rfl,by rw [Nat.zero_mul];rfl,Below.refl _ _⟩
   case round =>
    obtain ⟨k,hk,rfl,rfl,HBk⟩:=hrel
    have hzk:=HBk.out.size
    by_cases hk1:k < 1
    ·obtain rfl:k=0:=by omega
     have HVk:Hid (RdV wr w8.heap.size (some ⟨g9,0,none⟩) 1 [⟨W,H,C,D⟩]):=(show RdV _ _ _ _ _ from HV8.out.blw HBk.out)
     obtain ⟨b',o',x,hbo,-,HX,e0,e1,e2,e3⟩:=HVk.out.one (k:=0) (by decide)
     injection hbo with hbo
     injection hbo with q1 q2
     subst q1 q2
     have hx:x=⟨W,H,C,D⟩:=by have:=HX.out;injection this with this;exact this.symm
     subst hx
     simp only [Nat.zero_mul,Nat.add_zero] at e0 e1 e2 e3
     (try dsimp only at e0 e1 e2 e3)
     have hw0:IntKind.i64.wrap (N:Int)=(N:Int):=wrap_i64_lt _ (by omega)
     clear HX HVk
     go_wp2_with (go_at_call 30;(with_reducible refine (HAL.out _).mono ?_);go_must (rintro e wz ⟨rfl,hbz⟩;have HBz:=Lib.hid (HBk.out.trans ((((Below.refl wr.heap.size wr).alloc (Nat.le_refl _) (.cells #[.int .i64 (W:Int),.int .i64 (H:Int),.int .i64 (C:Int),.int .i64 (D:Int)] 37)).trans (hbz.mono (by rw [World.size_alloc];omega))).mono hzk));clear hbz))
     go_roundw
     case rel=>exact ⟨1,by omega,rfl,by first | rfl | (simp),HBz.out⟩
     case measure=>simp [intOf]
    ·obtain rfl:k=1:=by omega
     have hN1:((1 * N:Nat):Int)=(N:Int):=by rw [Nat.one_mul]
     obtain ⟨data,hdata⟩:∃ d,datL p=d:=⟨_,rfl⟩
     rw [hdata] at HI8 hdl
     have HIk:=Lib.hid (HI8.out.old HBk.out)
     have HBB:=Lib.hid (bufBytes_any (b6+1) (b6+1) (cb data) wr HIk.out)
     have HSk:=Lib.hid (HS8.out.later HBk.out)
     have HXk:=Lib.hid (HX8.out.later HBk.out)
     have HBX8:=Lib.hid (HB8.out.trans (HBk.out.mono (by omega)))
     have HVk:Hid (RdV wr wr.heap.size (some ⟨g9,0,none⟩) 1 [⟨W,H,C,D⟩]):=(show RdV _ _ _ _ _ from RdV.later HV8.out HBk.out)
     rw [hdata] at HDR
     obtain ⟨⟨Ro,RE⟩,hRR⟩:∃ R,wholP data (N:Int)=R:=⟨_,rfl⟩
     rw [hRR] at HDR
     have HWH:=Lib.hid (fun A9 c9 (w9:World) (h:RdB w9 w9.heap.size A9 data.length data) (hc9:data.length≤c9)=>whole_any w9.heap.size data.length c9 A9 data (N:Int) w9 h (Nat.le_refl _) hc9 hdl)
     rw [hRR] at HWH
     have hrg:RE=0→Ro.length≤1000000:=fun h=>by
      have h1:(unpkP data (N:Int)).2.2=0:=by
       unfold wholP at hRR
       split at hRR
       ·assumption
       ·injection hRR with _ hRR;exact hRR.trans h
      have h2:=(unpk_rng h1).2.1
      unfold wholP at hRR
      rw [if_pos h1] at hRR
      split at hRR
      ·injection hRR with h3 _;rw [← h3];exact Nat.zero_le _
      ·injection hRR with h3 _;rw [← h3];omega
     have HRG:=Lib.hid hrg
     clear hRR hrg
     by_cases hre:RE=0
     ·have HRE:=Lib.hid hre
      have hreb:(RE != 0)=false:=by rw [hre];rfl
      have hrol:=HRG.out hre
      by_cases hln:Ro.length < N
      ·have hlni:(Ro.length:Int) < (N:Int):=by omega
       have HFN:Hid (sW=0∧sH=0∧sC=0∧sD=0∧out=[]∧EF=2):=(show _∧_ by
        have h1:=HDR.out
        unfold decR at h1
        rw [if_neg (show ¬ ((Ro,RE):List UInt8 × Int).2 ≠ 0 from fun h=>h HRE.out),if_pos (show ((Ro,RE):List UInt8 × Int).1.length < N from hln)] at h1
        injection h1 with h1 h2
        injection h1 with h4 h5 h6 h7
        injection h2 with h2 h3
        exact ⟨h4.symm,h5.symm,h6.symm,h7.symm,h2.symm,h3.symm⟩)
       clear hre
       go_wp2_with (first
        | (go_at_call 32;(with_reducible refine HBB.out.mono ?_);go_must (rintro e wd ⟨v9,rfl,ho9,q9,rfl⟩;have ho9':ownB (wr.drewN q9) (b6+1) v9 data:=(by unfold ownB;rwa [cb_length] at ho9);obtain ⟨A9,c9,rfl,hr9,hc9,-⟩:=ho9'.form;have HW9:=Lib.hid (HWH.out A9 c9 (wr.drewN q9) hr9 hc9);clear ho9 ho9' hr9))
        | (go_at_call 31;(with_reducible refine HW9.out.mono ?_);go_must (rintro e wf ⟨vf,rfl,hof,hbf⟩;obtain ⟨Af,cf,rfl,hrf,hcf,-⟩:=hof.form;have hbf':Below wr.heap.size wr wf:=⟨hbf.os,hbf.tape,hbf.output,hbf.size,hbf.block⟩;have HRF:=Lib.hid hrf;have HXf:=Lib.hid (HXk.out.later hbf');have HSf:=Lib.hid (HSk.out.later hbf');have HVf:=Lib.hid (RdV.later HVk.out hbf');have HBf:=Lib.hid (HBX8.out.trans (hbf'.mono (by omega)));have hzf:=hbf'.size;have x0:=HXf.out.cell (k:=0) rfl;have x1:=HXf.out.cell (k:=1) rfl;have x2:=HXf.out.cell (k:=2) rfl;have x3:=HXf.out.cell (k:=3) rfl;have x4:=HXf.out.cell (k:=4) rfl;have f0:=HXf.out.frozen 0;have f1:=HXf.out.frozen 1;have f2:=HXf.out.frozen 2;have f3:=HXf.out.frozen 3;have f4:=HXf.out.frozen 4;have s0:=HSf.out.cell (k:=0) rfl;have s1:=HSf.out.cell (k:=1) rfl;have s2:=HSf.out.cell (k:=2) rfl;have s3:=HSf.out.cell (k:=3) rfl;clear hof hbf hbf' hrf)))
       refine bodyPost_ret (v:=.tuple #[.agg #[.int .i64 0,.int .i64 0,.int .i64 0,.int .i64 0,.slice none 0 0],.int .i64 2]) ?_ rfl ?_
       ·unfold results
        go_simp
       ·obtain ⟨rfl,rfl,rfl,rfl,rfl,rfl⟩:=HFN.out
        exact ⟨_,rfl,ownB.nil_ _ _,((((HBf.out.setCell (p:=⟨bx,0,none⟩) (Nat.le_refl _) _).setCell (p:=⟨bx,1,none⟩) (Nat.le_refl _) _).setCell (p:=⟨bx,2,none⟩) (Nat.le_refl _) _).setCell (p:=⟨bx,3,none⟩) (Nat.le_refl _) _).setCell (p:=⟨bx,4,none⟩) (Nat.le_refl _) _⟩
      ·have hlni:¬ (Ro.length:Int) < (N:Int):=by omega
       have HUN:Hid (unT W H C D (unF K (W * K) (Ro.take (H * (W * K+1))) H)=(⟨sW,sH,sC,sD⟩,out,EF)):=(show _=_ by
        have h1:=HDR.out
        unfold decR at h1
        rw [if_neg (show ¬ ((Ro,RE):List UInt8 × Int).2 ≠ 0 from fun h=>h HRE.out),if_neg (show ¬ ((Ro,RE):List UInt8 × Int).1.length < N from hln)] at h1
        rw [HNN.out]
        exact h1)
       have HPT:=Lib.hid (fun (wx:World) (Ax:Option Addr) (cx:Nat) (h1:RdB wx wx.heap.size Ax Ro.length Ro) (h2:RdV wx wx.heap.size (some ⟨g9,0,none⟩) 1 [⟨W,H,C,D⟩]) (h3:Ro.length≤cx)=>put1_any W H C D K (W * K) Ro.length cx wx.heap.size 1 Ax (some ⟨g9,0,none⟩) Ro out ⟨sW,sH,sC,sD⟩ EF wx HPS.out HZZ.out rfl h1 (Nat.le_refl _) (by rw [HNN.out];omega) h3 hrol h2 HUN.out)
       unfold UnU at HPT
       clear hre
       go_wp2_with (first
        | (go_at_call 32;(with_reducible refine HBB.out.mono ?_);go_must (rintro e wd ⟨v9,rfl,ho9,q9,rfl⟩;have ho9':ownB (wr.drewN q9) (b6+1) v9 data:=(by unfold ownB;rwa [cb_length] at ho9);obtain ⟨A9,c9,rfl,hr9,hc9,-⟩:=ho9'.form;have HW9:=Lib.hid (HWH.out A9 c9 (wr.drewN q9) hr9 hc9);clear ho9 ho9' hr9))
        | (go_at_call 31;(with_reducible refine HW9.out.mono ?_);go_must (rintro e wf ⟨vf,rfl,hof,hbf⟩;obtain ⟨Af,cf,rfl,hrf,hcf,-⟩:=hof.form;have hbf':Below wr.heap.size wr wf:=⟨hbf.os,hbf.tape,hbf.output,hbf.size,hbf.block⟩;have HRF:=Lib.hid hrf;have HXf:=Lib.hid (HXk.out.later hbf');have HSf:=Lib.hid (HSk.out.later hbf');have HVf:=Lib.hid (RdV.later HVk.out hbf');have HBf:=Lib.hid (HBX8.out.trans (hbf'.mono (by omega)));have hzf:=hbf'.size;have x0:=HXf.out.cell (k:=0) rfl;have x1:=HXf.out.cell (k:=1) rfl;have x2:=HXf.out.cell (k:=2) rfl;have x3:=HXf.out.cell (k:=3) rfl;have x4:=HXf.out.cell (k:=4) rfl;have f0:=HXf.out.frozen 0;have f1:=HXf.out.frozen 1;have f2:=HXf.out.frozen 2;have f3:=HXf.out.frozen 3;have f4:=HXf.out.frozen 4;have s0:=HSf.out.cell (k:=0) rfl;have s1:=HSf.out.cell (k:=1) rfl;have s2:=HSf.out.cell (k:=2) rfl;have s3:=HSf.out.cell (k:=3) rfl;clear hof hbf hbf' hrf))
        | (go_at_call 33;(with_reducible refine (HPT.out wf Af cf HRF.out HVf.out hcf).mono ?_);go_must (rintro e wg ⟨vg,rfl,hog,hbg⟩;obtain ⟨Ag,cg,rfl,-,-,-⟩:=hog.form;have HOG:=Lib.hid hog;have HXg:=Lib.hid (HXf.out.later hbg);have HBg:=Lib.hid (HBf.out.trans (hbg.mono (by omega)));have hng:=ownB_ne hog (show bx < wf.heap.size by omega);have HNG:=Lib.hid hng;have x0:=HXg.out.cell (k:=0) rfl;have x1:=HXg.out.cell (k:=1) rfl;have x2:=HXg.out.cell (k:=2) rfl;have x3:=HXg.out.cell (k:=3) rfl;have x4:=HXg.out.cell (k:=4) rfl;have f0:=HXg.out.frozen 0;have f1:=HXg.out.frozen 1;have f2:=HXg.out.frozen 2;have f3:=HXg.out.frozen 3;have f4:=HXg.out.frozen 4;clear hog hbg hng)))
       refine bodyPost_ret (v:=.tuple #[.agg #[.int .i64 sW,.int .i64 sH,.int .i64 sC,.int .i64 sD,.slice Ag out.length cg],.int .i64 EF]) ?_ rfl ?_
       ·unfold results
        go_simp
       ·exact ⟨_,rfl,(((((HOG.out.far HNG.out 0 _).far HNG.out 1 _).far HNG.out 2 _).far HNG.out 3 _).far HNG.out 4 _).mono (by omega),((((HBg.out.setCell (p:=⟨bx,0,none⟩) (Nat.le_refl _) _).setCell (p:=⟨bx,1,none⟩) (Nat.le_refl _) _).setCell (p:=⟨bx,2,none⟩) (Nat.le_refl _) _).setCell (p:=⟨bx,3,none⟩) (Nat.le_refl _) _).setCell (p:=⟨bx,4,none⟩) (Nat.le_refl _) _⟩
     ·have hreb:(RE != 0)=true:=by rw [bne_iff_ne];exact hre
      have HFN:Hid (sW=0∧sH=0∧sC=0∧sD=0∧out=[]∧EF=RE):=(show _∧_ by
       have h1:=HDR.out
       unfold decR at h1
       rw [if_pos (show ((Ro,RE):List UInt8 × Int).2 ≠ 0 from hre)] at h1
       injection h1 with h1 h2
       injection h1 with h4 h5 h6 h7
       injection h2 with h2 h3
       exact ⟨h4.symm,h5.symm,h6.symm,h7.symm,h2.symm,h3.symm⟩)
      clear hre
      go_wp2_with (first
       | (go_at_call 32;(with_reducible refine HBB.out.mono ?_);go_must (rintro e wd ⟨v9,rfl,ho9,q9,rfl⟩;have ho9':ownB (wr.drewN q9) (b6+1) v9 data:=(by unfold ownB;rwa [cb_length] at ho9);obtain ⟨A9,c9,rfl,hr9,hc9,-⟩:=ho9'.form;have HW9:=Lib.hid (HWH.out A9 c9 (wr.drewN q9) hr9 hc9);clear ho9 ho9' hr9))
       | (go_at_call 31;(with_reducible refine HW9.out.mono ?_);go_must (rintro e wf ⟨vf,rfl,hof,hbf⟩;obtain ⟨Af,cf,rfl,hrf,hcf,-⟩:=hof.form;have hbf':Below wr.heap.size wr wf:=⟨hbf.os,hbf.tape,hbf.output,hbf.size,hbf.block⟩;have HRF:=Lib.hid hrf;have HXf:=Lib.hid (HXk.out.later hbf');have HSf:=Lib.hid (HSk.out.later hbf');have HVf:=Lib.hid (RdV.later HVk.out hbf');have HBf:=Lib.hid (HBX8.out.trans (hbf'.mono (by omega)));have hzf:=hbf'.size;have x0:=HXf.out.cell (k:=0) rfl;have x1:=HXf.out.cell (k:=1) rfl;have x2:=HXf.out.cell (k:=2) rfl;have x3:=HXf.out.cell (k:=3) rfl;have x4:=HXf.out.cell (k:=4) rfl;have f0:=HXf.out.frozen 0;have f1:=HXf.out.frozen 1;have f2:=HXf.out.frozen 2;have f3:=HXf.out.frozen 3;have f4:=HXf.out.frozen 4;have s0:=HSf.out.cell (k:=0) rfl;have s1:=HSf.out.cell (k:=1) rfl;have s2:=HSf.out.cell (k:=2) rfl;have s3:=HSf.out.cell (k:=3) rfl;clear hof hbf hbf' hrf)))
      refine bodyPost_ret (v:=.tuple #[.agg #[.int .i64 0,.int .i64 0,.int .i64 0,.int .i64 0,.slice none 0 0],.int .i64 RE]) ?_ rfl ?_
      ·unfold results
       go_simp
      ·obtain ⟨rfl,rfl,rfl,rfl,rfl,rfl⟩:=HFN.out
       exact ⟨_,rfl,ownB.nil_ _ _,((((HBf.out.setCell (p:=⟨bx,0,none⟩) (Nat.le_refl _) _).setCell (p:=⟨bx,1,none⟩) (Nat.le_refl _) _).setCell (p:=⟨bx,2,none⟩) (Nat.le_refl _) _).setCell (p:=⟨bx,3,none⟩) (Nat.le_refl _) _).setCell (p:=⟨bx,4,none⟩) (Nat.le_refl _) _⟩
end Go.Proofs.YtebbdifhiihfkaaGreatDoor

/- png's laws, plainly. -/
namespace Go.Proofs.YtebbdifhiihfkaaGreatDoor
set_option linter.all false
open Go.RowKit
/-- What Encode wrote, cut ahead of its end. -/
theorem file_len (hd z:List UInt8) (h13:hd.length=13):(fileP hd z).length=z.length+57:=by
 rw [fileP_flat]
 unfold flatQ
 simp only [List.flatMap_cons,List.flatMap_nil,List.append_nil,List.length_append]
 rw [chQ_len (x:=(IHDR,hd)) rfl,chQ_len (x:=(IDAT,z)) rfl,chQ_len (x:=(IEND,[])) rfl,h13]
 have:markL.length=8:=rfl
 simp only [List.length_nil]
 omega
/-- The facts on a head that Encode wrote. -/
theorem head_ok {W H C D K:Nat} (hs:PS W H C D K) (hz:H * (W * K)≤16384):hdErr (hdrL W H C D 0)=0∧hdLa (hdrL W H C D 0)=false∧hdW (hdrL W H C D 0)=W∧hdH (hdrL W H C D 0)=H∧hdC (hdrL W H C D 0)=C∧hdD (hdrL W H C D 0)=D:=by
 have h1:=hs.w1
 have h2:=hs.w2
 have h3:=hs.h1
 have h4:=hs.h2
 obtain ⟨g1,g2,g3,g4⟩:=hdrL_sh (L:=0) (show W < 4294967296 by omega) (show H < 4294967296 by omega) hs.c1 hs.c2 hs.d
 refine ⟨?_,?_,g1,g2,g3,g4⟩
 ·rw [hdrL_err (by omega) (by omega) h1 h3 hs.c1 hs.c2 hs.d (by decide),if_pos (hs.may hz)]
 ·unfold hdLa
  rw [(hdrL_get W H C D 0).2.2.2.2.2.2.2]
  rfl
end Go.Proofs.YtebbdifhiihfkaaGreatDoor

/- PngSplits: the data in two chunks, plainly. -/
namespace Go.Proofs.YtebbdifhiihfkaaGreatDoor
set_option linter.all false
open Go.RowKit
theorem PK.pos {b l:List UInt8} (h:PK b l):2≤l.length:=by
 obtain ⟨bz,S,rfl,hw,rfl⟩:=h
 rw [packL_len0]
 omega
theorem good3 {hd z:List UInt8} (h13:hd.length=13) (hz:z.length≤1000000):∀ y ∈ [(IHDR,hd),(IDAT,z),(IEND,([]:List UInt8))],GoodC y:=by
 intro y hy
 rcases List.mem_cons.1 hy with rfl | hy
 ·exact ⟨rfl,rfl,by show hd.length≤_;omega⟩
 ·rcases List.mem_cons.1 hy with rfl | hy
  ·exact ⟨rfl,rfl,by show z.length≤_;omega⟩
  ·rcases List.mem_cons.1 hy with rfl | hy
   ·exact ⟨rfl,rfl,Nat.zero_le _⟩
   ·cases hy
/-- The contract of Chunks on what Encode wrote. -/
theorem chunks3_any {hd z:List UInt8} (h13:hd.length=13) (hz:z.length≤100000) (w:World) (A:Option Addr) (m c:Nat) (h:RdB w w.heap.size A m (fileP hd z)) (hc:m≤c) :
  Calls Tryz.prog 9 #[.slice A m c] w fun e w'=>∃ A9 c9 lq,e=.returned (.tuple #[.slice A9 3 c9,.int .i64 0])∧RdQ w' w'.heap.size A9 3 lq∧CR w' none lq [(IHDR,hd),(IDAT,z),(IEND,[])]∧3≤c9∧Below w.heap.size w w':=by
 have hl:=h.len
 rw [file_len hd z h13] at hl
 refine (chunks_any w.heap.size m c A _ w h (Nat.le_refl _) hc (by omega)).mono ?_
 rintro e w' hh
 unfold ChPost at hh
 rw [fileP_flat,chunksP_flat (good3 h13 (by omega))] at hh
 obtain ⟨A9,n9,c9,lq,rfl,hr,hcr,h9,hb⟩:=hh
 obtain rfl:n9=3:=hr.len.symm.trans hcr.1
 exact ⟨A9,c9,lq,rfl,hr,hcr,h9,hb⟩
end Go.Proofs.YtebbdifhiihfkaaGreatDoor

/- PngHeads: a head with other sides, plainly. -/
namespace Go.Proofs.YtebbdifhiihfkaaGreatDoor
set_option linter.all false
open Go.RowKit
theorem sound3 {hd z:List UInt8} (h13:hd.length=13):SoundP [(IHDR,hd),(IDAT,z),(IEND,[])]:=by
 refine ⟨Nat.succ_pos _,rfl,h13,fun i x hx=>?_,rfl⟩
 match i,hx with
 | 0,hx=>injection hx with hx;subst hx;exact (badB_H _ _ _ _).trans rfl
 | 1,hx=>injection hx with hx;subst hx;exact (badB_D _ _ _ _).trans rfl
 | 2,hx=>injection hx with hx;subst hx;exact (badB_E _ _ _ _).trans rfl
 | n+3,hx=>cases hx
theorem datD3 (hd z:List UInt8):datL [(IHDR,hd),(IDAT,z),(IEND,[])]=z:=by
 unfold datL
 rw [List.flatMap_cons,List.flatMap_cons,List.flatMap_cons,List.flatMap_nil,if_neg (show ¬ IHDR=IDAT by decide),if_pos rfl,if_neg (show ¬ IEND=IDAT by decide)]
 simp
theorem flat3 (hd z:List UInt8):markL ++ chQ (IHDR,hd) ++ chQ (IDAT,z) ++ chQ (IEND,[])=markL ++ flatQ [(IHDR,hd),(IDAT,z),(IEND,[])]:=by
 unfold flatQ
 simp only [List.flatMap_cons,List.flatMap_nil,List.append_nil,List.append_assoc]
theorem file_h8 {hd z l:List UInt8} (hl:l=fileP hd z):l.take 8=markL:=by
 rw [hl,fileP_flat,show (8:Nat)=markL.length from rfl,List.take_left]
theorem hdr_turn (W H H' C D:Nat) (L:UInt8):beB W 4 ++ beB H' 4 ++ (hdrL W H C D L).drop 8=hdrL W H' C D L:=by
 have e:(beB W 4 ++ beB H 4).length=8:=by rw [List.length_append,beB_len,beB_len]
 unfold hdrL
 rw [← e,List.drop_left]
theorem hdr_reads {W H C D:Nat} {L:UInt8} (hW:W < 4294967296) (hH:H < 4294967296):rdR beV (hdrL W H C D L) 0 4=((W:Int),0)∧rdR beV (hdrL W H C D L) 4 4=((H:Int),0):=by
 obtain ⟨g0,g1,g2,-⟩:=hdrL_get W H C D L
 constructor
 ·unfold rdR
  rw [if_neg (by omega),if_neg (by omega)]
  show (((beV (((hdrL W H C D L).drop 0).take 4):Nat):Int),(0:Int))=_
  rw [List.drop_zero,g1,beV_beB hW]
 ·unfold rdR
  rw [if_neg (by omega),if_neg (by omega)]
  show (((beV (((hdrL W H C D L).drop 4).take 4):Nat):Int),(0:Int))=_
  rw [g2,beV_beB hH]
/-- A head with more rows than the data holds is an error. -/
theorem heads_decode {W H C D K M:Nat} {bs:List UInt8} (hs:PS W H C D K) (hz:H * (W * K)≤16384) (hb:bs.length=H * (W * K)) (hM1:1≤M) (hM2:M≤200) :
  ∃ E:Int,E ≠ 0∧∀ z,PK (flF K (W * K) bs H) z→∀ (w:World) (A:Option Addr) (m c:Nat),RdB w w.heap.size A m (markL ++ flatQ [(IHDR,hdrL W (H+M) C D 0),(IDAT,z),(IEND,[])])→m≤c→m≤1000000 →
   Calls Tryz.prog 12 #[.slice A m c] w fun e w'=>∃ A9 n9 c9,e=.returned (.tuple #[.agg #[.int .i64 0,.int .i64 0,.int .i64 0,.int .i64 0,.slice A9 n9 c9],.int .i64 E])∧Below w.heap.size w w':=by
 have h1:=hs.w1
 have h2:=hs.w2
 have h3:=hs.h1
 have h4:=hs.h2
 have hfl:=flF_len (K:=K) (n:=W * K) (bs:=bs) hs.k1 hs.k8 H (by omega)
 have hNN:H * (W * K+1)≤20000:=by rw [Nat.mul_add,Nat.mul_one];omega
 have h13:=(hdrL_get W (H+M) C D 0).1
 have her:=hdrL_err (W:=W) (H:=H+M) (C:=C) (D:=D) (L:=0) (by omega) (by omega) h1 (by omega) hs.c1 hs.c2 hs.d (by decide)
 have hq:∀ z,PK (flF K (W * K) bs H) z→chunksP (markL ++ flatQ [(IHDR,hdrL W (H+M) C D 0),(IDAT,z),(IEND,[])])=(0,[(IHDR,hdrL W (H+M) C D 0),(IDAT,z),(IEND,[])]):=fun z hp=>chunksP_flat (good3 h13 (by have:=hp.len;omega))
 by_cases hm:Sh.may ⟨(W:Int),((H+M:Nat):Int),(C:Int),(D:Int)⟩=true
 ·obtain ⟨W',H',C',D',K',he,hs',hz'⟩:=PS.of_may hm
  injection he with e1 e2 e3 e4
  obtain rfl:W=W':=by omega
  obtain rfl:H+M=H':=by omega
  obtain rfl:C=C':=by omega
  obtain rfl:D=D':=by omega
  obtain rfl:K=K':=by have a:=hs.k;have b:=hs'.k;omega
  obtain ⟨o1,o2,o3,o4,o5,o6⟩:=head_ok hs' hz'
  refine ⟨2,by decide,fun z hp w A m c g1 g2 g3=>?_⟩
  have hqz:=hq z hp
  have hN:(H+M) * (W * K+1)≤40000:=by rw [Nat.mul_add,Nat.mul_one];omega
  have hlt:H * (W * K+1) < (H+M) * (W * K+1):=Nat.mul_lt_mul_of_pos_right (by omega) (Nat.succ_pos _)
  have hw:=hp.backM (most:=(((H+M) * (W * K+1):Nat):Int)) (by omega) (by rw [hfl];omega) (by omega)
  refine (decode_plain W (H+M) C D K ((H+M) * (W * K+1)) ⟨0,0,0,0⟩ [] 2 w.heap.size m c A _ w g1 (Nat.le_refl _) g2 g3 (by rw [hqz]) (by rw [hqz];exact sound3 h13) (by rw [hqz];exact o1) (by rw [hqz];exact o2) (by rw [hqz];exact o3) (by rw [hqz];exact o4) (by rw [hqz];exact o5) (by rw [hqz];exact o6) hs' hz' rfl (by
   rw [hqz]
   show decR W (H+M) C D K _ (wholP (datL [(IHDR,hdrL W (H+M) C D 0),(IDAT,z),(IEND,[])]) _)=_
   rw [datD3,hw]
   unfold decR
   rw [if_neg (show ¬ ((flF K (W * K) bs H,0):List UInt8 × Int).2 ≠ 0 from fun h=>h rfl),if_pos (show ((flF K (W * K) bs H,0):List UInt8 × Int).1.length < (H+M) * (W * K+1) by show (flF K (W * K) bs H).length < _;omega)])).mono ?_
  rintro e w' ⟨v,rfl,ho,hb⟩
  obtain ⟨A9,c9,rfl,-,-,-⟩:=ho.form
  exact ⟨A9,_,c9,rfl,hb⟩
 ·rw [if_neg hm] at her
  refine ⟨10,by decide,fun z hp w A m c g1 g2 g3=>?_⟩
  have hqz:=hq z hp
  refine (decode_head w.heap.size m c A _ w g1 (Nat.le_refl _) g2 g3 (by rw [hqz]) (by rw [hqz];exact sound3 h13) (by rw [hqz];exact fun h=>by rw [show hdCk [(IHDR,hdrL W (H+M) C D 0),(IDAT,z),(IEND,([]:List UInt8))]=hdrL W (H+M) C D 0 from rfl,her] at h;exact absurd h (by decide))).mono ?_
  rw [hqz,show hdCk [(IHDR,hdrL W (H+M) C D 0),(IDAT,z),(IEND,([]:List UInt8))]=hdrL W (H+M) C D 0 from rfl,her]
  rintro e w' ⟨v,rfl,ho,hb⟩
  obtain ⟨A9,c9,rfl,-,-,-⟩:=ho.form
  exact ⟨A9,_,c9,rfl,hb⟩
theorem RdQ.at {w:World} {B n b o:Nat} {l:List (List UInt8 × Option Addr × Nat × Nat)} (h:RdQ w B (some ⟨b,o,none⟩) n l) {k:Nat} (hk:k < n) {x:List UInt8 × Option Addr × Nat × Nat} (hx:l[k]?=some x) :
  w.cell? ⟨b,o+k * 2,none⟩=some (Value.string ⟨x.1.toArray⟩)∧w.cell? ⟨b,o+k * 2+1,none⟩=some (Value.slice x.2.1 x.2.2.1 x.2.2.2):=by
 obtain ⟨b',o',x',e,-,hx',c0,c1⟩:=h.one hk
 injection e with e
 injection e with e1 e2
 subst e1 e2
 obtain rfl:x=x':=Option.some.inj (hx.symm.trans hx'.out)
 exact ⟨c0,c1⟩
theorem heads_cells {w:World} {B b o n1 n2 c0 c1 c2:Nat} {A0 A1 A2:Option Addr} {l:List (List UInt8 × Option Addr × Nat × Nat)} (h:RdQ w B (some ⟨b,o,none⟩) 3 l)
  (h0:l[0]?=some (IHDR,A0,13,c0)) (h1:l[1]?=some (IDAT,A1,n1,c1)) (h2:l[2]?=some (IEND,A2,n2,c2)) :
  w.cell? ⟨b,o,none⟩=some (Value.string ⟨#[73,72,68,82]⟩)∧w.cell? ⟨b,o+1,none⟩=some (Value.slice A0 13 c0)∧w.cell? ⟨b,o+2,none⟩=some (Value.string ⟨#[73,68,65,84]⟩) ∧
   w.cell? ⟨b,o+2+1,none⟩=some (Value.slice A1 n1 c1)∧w.cell? ⟨b,o+4,none⟩=some (Value.string ⟨#[73,69,78,68]⟩) :=
 ⟨(h.at (k:=0) (by decide) h0).1,(h.at (k:=0) (by decide) h0).2,(h.at (k:=1) (by decide) h1).1,(h.at (k:=1) (by decide) h1).2,(h.at (k:=2) (by decide) h2).1⟩
theorem heads_depth {w:World} {B b o W H C D:Nat} {L:UInt8} (hD:D=8∨D=16) (h:RdB w B (some ⟨b,o,none⟩) 13 (hdrL W H C D L)):w.cell? ⟨b,o+8,none⟩=some (.int .u8 (D:Int)):=by
 obtain ⟨b',o',x,e,-,hx,hc⟩:=h.byte (k:=8) (by decide)
 injection e with e
 injection e with e1 e2
 subst e1 e2
 have g:=(hdrL_get W H C D L).2.2.2.1
 have hx':=hx.out
 rw [List.getD_eq_getElem?_getD,hx'] at g
 have hxe:x=UInt8.ofNat D:=g
 rw [hc,hxe]
 rcases hD with rfl | rfl <;> rfl
/-- The contracts of ReadBig on the head. -/
theorem heads_read {W H C D:Nat} {L:UInt8} (hW:W < 4294967296) (hH:H < 4294967296) (w:World) (A:Option Addr) (c:Nat) (h:RdB w w.heap.size A 13 (hdrL W H C D L)) (hc:13≤c) :
  Calls Tryz.prog 18 #[.slice A 13 c,.int .i64 0,.int .i64 4] w (fun e w'=>e=.returned (.tuple #[.int .i64 (W:Int),.int .i64 0])∧w=w') ∧
  Calls Tryz.prog 18 #[.slice A 13 c,.int .i64 4,.int .i64 4] w (fun e w'=>e=.returned (.tuple #[.int .i64 (H:Int),.int .i64 0])∧w=w'):=by
 obtain ⟨e1,e2⟩:=hdr_reads (C:=C) (D:=D) (L:=L) hW hH
 have k1:=readBig_any w.heap.size 13 c A _ 0 4 w h hc (by decide)
 have k2:=readBig_any w.heap.size 13 c A _ 4 4 w h hc (by decide)
 rw [e1] at k1
 rw [e2] at k2
 exact ⟨k1,k2⟩
end Go.Proofs.YtebbdifhiihfkaaGreatDoor

