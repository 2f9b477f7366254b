/- XPgP XPix3 XPix7 XBox XPg1 XPg2 -/
import Derived.Test.YtebbdifhiihfkaaGreatDoorMh10
import Derived.Test.YtebbdifhiihfkaaGreatDoorMh09
import Derived.Test.YtebbdifhiihfkaaGreatDoorMh05
import Derived.Test.YtebbdifhiihfkaaGreatDoorMh30
import Derived.Test.YtebbdifhiihfkaaGreatDoorMh29
import Derived.Lib.LazyBuf
import Derived.Deep.RegionHeld3
namespace Go.Proofs.YtebbdifhiihfkaaGreatDoor
set_option linter.all false
/-- A row of so many bytes, the one ahead of it. -/
def rwF (n:Nat) (bs:List UInt8) (y:Nat):List UInt8:=(bs.drop (y * n)).take n
def prF (n:Nat) (bs:List UInt8) (y:Nat):List UInt8:=if y=0 then [] else rwF n bs (y - 1)
def bF (K n:Nat) (bs:List UInt8) (y:Nat):Int × List UInt8 × Int:=bestR (K:Int) (prF n bs y) (rwF n bs y)
/-- Rows, filtered. -/
def flF (K n:Nat) (bs:List UInt8):Nat→List UInt8
 | 0=>[]
 | y+1=>flF K n bs y ++ [UInt8.ofNat (bF K n bs y).1.toNat] ++ (bF K n bs y).2.1
theorem rwF_len {n y:Nat} {bs:List UInt8} (h:y * n+n≤bs.length):(rwF n bs y).length=n:=by
 unfold rwF
 rw [List.length_take,List.length_drop]
 omega
theorem prF_len {n y:Nat} {bs:List UInt8} (h:y * n≤bs.length):(prF n bs y).length=if y=0 then 0 else n:=by
 unfold prF
 split
 ·rfl
 ·rename_i h0
  obtain ⟨z,rfl⟩:∃ z,y=z+1:=⟨y - 1,by omega⟩
  rw [Nat.succ_mul] at h
  exact rwF_len h
theorem bF_ok {K n y:Nat} {bs:List UInt8} (h1:1≤K) (h8:K≤8) (h:y * n+n≤bs.length):∃ (kd:Nat) (ds:List UInt8),bF K n bs y=((kd:Int),ds,0)∧kd≤4∧ds.length=n:=by
 have hr:=rwF_len h
 have hp:=prF_len (n:=n) (y:=y) (bs:=bs) (by omega)
 have hw:wrongV 0 (K:Int) (prF n bs y).length (rwF n bs y).length=0:=by
  unfold wrongV
  rw [if_neg (by omega),if_neg]
  rw [hp,hr]
  split
  ·simp
  ·simp
 unfold bF bestR
 rw [if_pos hw]
 refine ⟨_,_,rfl,bk_lt _ 4,?_⟩
 unfold bV
 rw [if_neg (by decide)]
 show (doB _ _ _ _).length=_
 rw [doB_len,hr]
theorem flF_len {K n:Nat} {bs:List UInt8} (h1:1≤K) (h8:K≤8):∀ y,y * n≤bs.length→(flF K n bs y).length=y * (n+1)
 | 0,_=>by simp [flF]
 | y+1,h=>by
  rw [Nat.succ_mul] at h
  obtain ⟨kd,ds,e,-,hl⟩:=bF_ok h1 h8 h
  rw [flF,e,List.length_append,List.length_append,flF_len h1 h8 y (by omega),Nat.succ_mul]
  show y * (n+1)+1+ds.length=_
  omega
end Go.Proofs.YtebbdifhiihfkaaGreatDoor

/- pix: pictures compared, copied; bytes compared, copied. -/
namespace Go.Proofs.YtebbdifhiihfkaaGreatDoor
set_option linter.all false
open Go.RowKit
end Go.Proofs.YtebbdifhiihfkaaGreatDoor

/- pix: a picture copied. -/
namespace Go.Proofs.YtebbdifhiihfkaaGreatDoor
set_option linter.all false
open Go.RowKit
end Go.Proofs.YtebbdifhiihfkaaGreatDoor

/- Boxed structs: one fact a box. -/
namespace Go.Proofs.YtebbdifhiihfkaaGreatDoor
set_option linter.all false
open Go.RowKit
/-- The cells of a boxed picture, of a boxed shape. -/
def r5 (a b c d e:Value):Nat→Option Value
 | 0=>some a
 | 1=>some b
 | 2=>some c
 | 3=>some d
 | 4=>some e
 | _=>none
def s4 (a b c d:Value):Nat→Option Value
 | 0=>some a
 | 1=>some b
 | 2=>some c
 | 3=>some d
 | _=>none
@[go_sem] theorem r5_0 (a b c d e:Value):r5 a b c d e 0=some a:=rfl
@[go_sem] theorem r5_1 (a b c d e:Value):r5 a b c d e 1=some b:=rfl
@[go_sem] theorem r5_2 (a b c d e:Value):r5 a b c d e 2=some c:=rfl
@[go_sem] theorem r5_3 (a b c d e:Value):r5 a b c d e 3=some d:=rfl
@[go_sem] theorem r5_4 (a b c d e:Value):r5 a b c d e 4=some e:=rfl
@[go_sem] theorem s4_0 (a b c d:Value):s4 a b c d 0=some a:=rfl
@[go_sem] theorem s4_1 (a b c d:Value):s4 a b c d 1=some b:=rfl
@[go_sem] theorem s4_2 (a b c d:Value):s4 a b c d 2=some c:=rfl
@[go_sem] theorem s4_3 (a b c d:Value):s4 a b c d 3=some d:=rfl
theorem kept {w w':World} {b:Nat} {F:Nat→Option Value} {v:Value} (c:∀ i,w.cell? ⟨b,i,none⟩=F i) (h0:F 0=some v) (h:Below w.heap.size w w'):∀ i,w'.cell? ⟨b,i,none⟩=F i :=
 fun i=>(h.cell (p:=⟨b,i,none⟩) (show b < w.heap.size from block_lt_of_cell (a:=⟨b,0,none⟩) ((c 0).trans h0))).trans (c i)
theorem RdB.here {w:World} {B n:Nat} {A:Option Addr} {bs:List UInt8} (h:RdB w B A n bs):RdB w w.heap.size A n bs:=Rd.here h
theorem RdB.alloc {w:World} {B n:Nat} {A:Option Addr} {bs:List UInt8} (h:RdB w B A n bs) (hB:B≤w.heap.size) (o:Obj):RdB (w.alloc o) B A n bs:=Rd.alloc h hB o
theorem RdB.drewN {w:World} {B n:Nat} {A:Option Addr} {bs:List UInt8} (h:RdB w B A n bs) (k:Nat):RdB (w.drewN k) B A n bs:=h
theorem RdB.drew {w:World} {B n:Nat} {A:Option Addr} {bs:List UInt8} (h:RdB w B A n bs):RdB w.drew B A n bs:=h
theorem RdB.more {w:World} {B B' n:Nat} {A:Option Addr} {bs:List UInt8} (h:RdB w B A n bs) (hB:B≤B'):RdB w B' A n bs:=Rd.more h hB
end Go.Proofs.YtebbdifhiihfkaaGreatDoor

/- png: bytes of a pixel, colour types, rows filtered. -/
namespace Go.Proofs.YtebbdifhiihfkaaGreatDoor
set_option linter.all false
open Go.RowKit
set_option maxRecDepth 100000 in
theorem bpp_any (W H:Int) (C D K:Nat) (hC:C≤4) (hD:D≤16) (hK:C * D=8 * K) (w:World):Calls Tryz.prog 73 #[.agg #[.int .i64 W,.int .i64 H,.int .i64 (C:Int),.int .i64 (D:Int)]] w fun e w'=>e=.returned (.int .i64 (K:Int))∧Below w.heap.size w w':=by
 have hb:K≤8:=by
  have:C * D≤4 * 16:=Nat.mul_le_mul hC hD
  omega
 have e1:(C:Int) * (D:Int)=((8 * K:Nat):Int):=by rw [← hK];push_cast;rfl
 have e2:IntKind.i64.wrap ((8 * K:Nat):Int)=((8 * K:Nat):Int):=wrap_i64_lt _ (by omega)
 have e3:(((8 * K:Nat):Int)).tdiv 8=(K:Int):=by
  show (((8 * K / 8:Nat)):Int)=_
  rw [Nat.mul_div_cancel_left _ (by decide)]
 have e5:(((8 * K:Nat):Int)) / 8=(K:Int):=by omega
 obtain ⟨Q,hQ⟩:∃ Q,8 * K=Q:=⟨_,rfl⟩
 rw [hQ] at e1 e2 e3 e5
 have e4:IntKind.i64.wrap (K:Int)=(K:Int):=wrap_i64_lt K (by omega)
 clear hK hQ
 go_enter Tryz.func73,Tryz.ntmps73
 go_wp2_with fail
 go_ret
 exact ⟨rfl,(Below.refl w.heap.size w).alloc (Nat.le_refl _) _⟩
/-- A row read out of a picture's bytes. -/
theorem RdB.row {w:World} {B m k n q b o:Nat} {bs:List UInt8} (h:RdB w B (some ⟨b,o,none⟩) m bs) (hq:k * n=q) (hf:q+n≤m):RdB w B (some ⟨b,o+q,none⟩) n (rwF n bs k):=by
 unfold rwF
 rw [hq]
 refine RdB.cut h hf (fun _=>?_)
 simp [Addr.add]
set_option maxRecDepth 100000 in
set_option maxHeartbeats 6400000 in
theorem filtered_any (W H C D K m c B:Nat) (A:Option Addr) (bs:List UInt8) (w:World) (hs:Sh.nums ⟨W,H,C,D⟩=true) (hK:C * D=8 * K) (h:RdB w B A m bs) (hB:B≤w.heap.size) (hm:m=H * (W * K)) (hcap:m≤c) (hmb:m≤1000000) :
  Calls Tryz.prog 43 #[.agg #[.int .i64 (W:Int),.int .i64 (H:Int),.int .i64 (C:Int),.int .i64 (D:Int),.slice A m c]] w fun e w'=>∃ v,e=.returned (.tuple #[v,.int .i64 0])∧ownB w' w.heap.size v (flF K (W * K) bs H)∧Below w.heap.size w w':=by
 obtain ⟨⟨w1,w2⟩,⟨h1,h2⟩,⟨c1,c2⟩,hd⟩:=(Sh.nums_iff _).1 hs
 have w1:1≤W:=by have h:(1:Int)≤(W:Int):=w1;omega
 have w2:W≤256:=by have h:(W:Int)≤256:=w2;omega
 have h1:1≤H:=by have h:(1:Int)≤(H:Int):=h1;omega
 have h2:H≤256:=by have h:(H:Int)≤256:=h2;omega
 have c2:C≤4:=by have h:(C:Int)≤4:=c2;omega
 have c1:1≤C:=by have h:(1:Int)≤(C:Int):=c1;omega
 have hd:D=8∨D=16:=by have h:(D:Int)=8∨(D:Int)=16:=hd;omega
 have hD:D≤16:=by omega
 have hK1:1≤K:=by
  have:1 * 8≤C * D:=Nat.mul_le_mul c1 (by omega)
  omega
 have hK8:K≤8:=by
  have:C * D≤4 * 16:=Nat.mul_le_mul c2 hD
  omega
 have hrow:Sh.row ⟨W,H,C,D⟩=((W * K:Nat):Int):=by
  unfold Sh.row
  rw [if_pos hs]
  show (W:Int) * (C:Int) * (D:Int) / 8=_
  have:(W:Int) * (C:Int) * (D:Int)=8 * ((W * K:Nat):Int):=by
   have e:W * C * D=8 * (W * K):=by rw [Nat.mul_assoc,hK];ac_rfl
   rw [show (8:Int) * ((W * K:Nat):Int)=((8 * (W * K):Nat):Int) by push_cast;rfl,← e]
   push_cast
   rfl
  omega
 obtain ⟨n,hn⟩:∃ n,W * K=n:=⟨_,rfl⟩
 have hn1:1≤n:=by rw [← hn];exact Nat.mul_le_mul w1 hK1
 have hn2:n≤256 * 8:=by rw [← hn];exact Nat.mul_le_mul w2 hK8
 rw [hn] at hm hrow ⊢
 have hlen:=h.len
 have hm1:1 * 1≤m:=by rw [hm];exact Nat.mul_le_mul h1 hn1
 obtain ⟨b,o,rfl,hb,-⟩:=h.at_ (by omega)
 obtain ⟨w1',hw1⟩:∃ w1,w.alloc (.cells #[.int .i64 (W:Int),.int .i64 (H:Int),.int .i64 (C:Int),.int .i64 (D:Int),.slice (some ⟨b,o,none⟩) m c] 39)=w1:=⟨_,rfl⟩
 obtain ⟨bx,hbk⟩:∃ b,w.heap.size=b:=⟨_,rfl⟩
 have HA1:Hid (Arr w1' bx [.int .i64 (W:Int),.int .i64 (H:Int),.int .i64 (C:Int),.int .i64 (D:Int),.slice (some ⟨b,o,none⟩) m c]):=(show Arr _ _ _ by rw [← hw1,← hbk];exact Arr.new w [.int .i64 (W:Int),.int .i64 (H:Int),.int .i64 (C:Int),.int .i64 (D:Int),.slice (some ⟨b,o,none⟩) m c] _)
 have HR1:Hid (RdB w1' B (some ⟨b,o,none⟩) m bs):=(show RdB _ _ _ _ _ by rw [← hw1];exact Rd.alloc h hB _)
 have HB1:Hid (Below bx w w1'):=(show Below _ _ _ by rw [← hw1,← hbk];exact (Below.refl w.heap.size w).alloc (Nat.le_refl _) _)
 have hz1:w1'.heap.size=bx+1:=by rw [← hw1,World.size_alloc,hbk]
 have HRW:Hid (Calls Tryz.prog 71 #[.agg #[.int .i64 (W:Int),.int .i64 (H:Int),.int .i64 (C:Int),.int .i64 (D:Int)]] w1' fun e w'=>e=.returned (.int .i64 (n:Int))∧Below w1'.heap.size w1' w'):=(show Calls _ _ _ _ _ by have:=row_any ⟨W,H,C,D⟩ w1';rw [hrow] at this;exact this)
 have HBP:=Lib.hid (fun w=>bpp_any (W:Int) (H:Int) C D K c2 hD hK w)
 have a0:=HA1.out.cell (k:=0) rfl
 have a1:=HA1.out.cell (k:=1) rfl
 have a2:=HA1.out.cell (k:=2) rfl
 have a3:=HA1.out.cell (k:=3) rfl
 have HM:=Lib.hid hm
 have HLEN:=Lib.hid hlen
 clear h hK hn hs hrow hd w1 w2 c1 c2 hm hlen
 rw [hbk] at hB
 go_enter Tryz.func43,Tryz.ntmps43
 simp only [hw1,hbk]
 go_wp2_with (go_at_call 71;(with_reducible refine HRW.out.mono ?_);go_must (rintro e w2 ⟨rfl,hb2⟩;have HA2:=Lib.hid (HA1.out.later hb2);have HR2:=Lib.hid (RdB.blw HR1.out (hb2.mono (by omega)));have b1:=HA2.out.cell (k:=1) rfl;have hz2:=hb2.size;have HB2:=Lib.hid (HB1.out.trans (hb2.mono (by omega)));clear hb2 a0 a1 a2 a3))
 clear hw1 HRW HA1 HR1 HB1
 have hbw:bx+1≤w2.heap.size:=by omega
 clear hz1 hz2
 have HO0:=Lib.hid (ownB.nil_ w2 (bx+1))
 go_loopw [18,5,6] (fun vk vo vp wr=>∃ (k:Nat) (Ap:Option Addr) (np cp:Nat),k≤H∧vk=.int .i64 k∧Hid (ownB wr (bx+1) vo (flF K n bs k))∧vp=.slice Ap np cp∧Hid (RdB wr B Ap np (prF n bs k))∧Hid (Arr wr bx [.int .i64 (W:Int),.int .i64 (H:Int),.int .i64 (C:Int),.int .i64 (D:Int),.slice (some ⟨b,o,none⟩) m c])∧Hid (RdB wr B (some ⟨b,o,none⟩) m bs)∧Hid (Below bx w wr)∧Hid (bx+1≤wr.heap.size)) (fun vk _ _ _=>H - (intOf vk).toNat)
 case atStart=>exact ⟨0,none,0,0,Nat.zero_le _,rfl,HO0,rfl,(show RdB _ _ _ _ _ from Rd.none_),HA2,HR2,HB2,hbw⟩
 case round =>
  clear HA2 HR2 HB2 HO0 hbw b1
  obtain ⟨k,Ap,np,cp,hk,rfl,HO,rfl,HP,HA,HR,HB,HZ⟩:=hrel
  have hz:=HZ.out
  by_cases hlt:k < H
  ·have hlti:(k:Int) < (H:Int):=by omega
   obtain ⟨q,hq⟩:∃ q,k * n=q:=⟨_,rfl⟩
   have hqm:q+n≤m:=by
    rw [HM.out,← hq]
    have:(k+1) * n≤H * n:=Nat.mul_le_mul_right n (by omega)
    rw [Nat.succ_mul] at this
    exact this
   have hkq:k * n+n≤bs.length:=by rw [hq,HLEN.out];exact hqm
   obtain ⟨kd,ds,hbf,hkd,hdl⟩:=bF_ok (K:=K) hK1 hK8 hkq
   have HFS:Hid (flF K n bs (k+1)=flF K n bs k ++ [UInt8.ofNat kd] ++ ds):=(show _=_ by rw [flF,hbf];rfl)
   have HFL:Hid ((flF K n bs k).length=k * (n+1)):=(show _=_ from flF_len hK1 hK8 k (by omega))
   have HBE:Hid (∀ w3 c',RdB w3 B Ap np (prF n bs k)→RdB w3 B (some ⟨b,o+q,none⟩) n (rwF n bs k)→B≤w3.heap.size→Calls Tryz.prog 72 #[.int .i64 (K:Int),.slice Ap np cp,.slice (some ⟨b,o+q,none⟩) n c'] w3 fun e w'=>∃ v,e=.returned (.tuple #[.int .i64 (kd:Int),v,.int .i64 0])∧ownB w' w3.heap.size v ds∧Below w3.heap.size w3 w'):=(show ∀ w3 c',_ from fun w3 c' h1 h2 h3=>by
    have:=best_any (K:Int) B np cp B n c' Ap (some ⟨b,o+q,none⟩) (prF n bs k) (rwF n bs k) w3 h1 h2 h3 h3 (by omega)
    rw [show bestR (K:Int) (prF n bs k) (rwF n bs k)=((kd:Int),ds,0) from hbf] at this
    exact this)
   have HRR:=Lib.hid (RdB.row HR.out hq hqm)
   have HPN:Hid (prF n bs (k+1)=rwF n bs k):=(show _=_ by unfold prF;rw [if_neg (by omega)];rfl)
   have hkb:k * (n+1)≤256 * 2049:=Nat.mul_le_mul (by omega) (by omega)
   obtain ⟨Ao,co,rfl,-,-,-⟩:=HO.out.form
   generalize hF:flF K n bs k=F at *
   have hFl:F.length≤600000:=by rw [HFL.out];omega
   have hq1:(k:Int) * (n:Int)=(q:Int):=by rw [← hq];push_cast;rfl
   have hqw:IntKind.i64.wrap (q:Int)=(q:Int):=wrap_i64_lt q (by omega)
   have hqn:IntKind.i64.wrap ((q:Int)+(n:Int))=(q:Int)+(n:Int):=by rw [show (q:Int)+(n:Int)=((q+n:Nat):Int) by omega];exact wrap_i64_lt _ (by omega)
   have hqt:((q:Int)+(n:Int)).toNat=q+n:=by omega
   have hqs:((q:Int)+(n:Int)).toNat - q=n:=by omega
   have hqc:¬ c=q:=by omega
   have hqc2:q < c:=by omega
   have hqc3:(q:Int)≤(q:Int)+(n:Int):=by omega
   have hqc4:(q:Int)+(n:Int)≤(c:Int):=by omega
   have hkd8:(kd:Int) % 256=(kd:Int):=by omega
   have hkx:(kd:Int)=((UInt8.ofNat kd).toNat:Int):=by rw [UInt8.toNat_ofNat'];omega
   have b0:=HA.out.cell (k:=0) rfl
   have b1:=HA.out.cell (k:=1) rfl
   have b2:=HA.out.cell (k:=2) rfl
   have b3:=HA.out.cell (k:=3) rfl
   have b4:=HA.out.cell (k:=4) rfl
   have HDL:=Lib.hid hdl
   have HKX:=Lib.hid hkx
   clear hq hF hkq hbf hkx hdl
   generalize UInt8.ofNat kd=kx at *
   go_wp2_with (first
    | (go_at_call 73;(with_reducible refine (HBP.out _).mono ?_);go_must (rintro e w3 ⟨rfl,hb3⟩;have hz3:=hb3.size;have HR3:=Lib.hid (RdB.blw HR.out (hb3.mono (by omega)));have HRR3:=Lib.hid (RdB.blw HRR.out (hb3.mono (by omega)));have HA3:=Lib.hid (HA.out.later hb3);have HO3:=Lib.hid (HO.out.later hb3);have HBE3:=Lib.hid (HBE.out w3 (c - q) (RdB.blw HP.out (hb3.mono (by omega))) HRR3.out (by omega));have HB3:=Lib.hid (HB.out.trans (hb3.mono (by omega)));clear hb3))
    | (go_at_call 72;(with_reducible refine HBE3.out.mono ?_);go_must (rintro e w4 ⟨v4,rfl,ho4,hb4⟩;obtain ⟨A4,c4,hv4,-,-,-⟩:=ho4.form;rw [HDL.out] at hv4;subst hv4;have hz4:=hb4.size;have HR4:=Lib.hid (RdB.blw HR3.out (hb4.mono (by omega)));have HRR4:=Lib.hid (RdB.blw HRR3.out (hb4.mono (by omega)));have HA4:=Lib.hid ((HA3.out.later hb4).alloc (.cells #[.int .u8 (kd:Int)] 5));have HO4:=Lib.hid (ownB.alloc (HO3.out.later hb4) (.cells #[.int .u8 (kd:Int)] 5));have HD4:=Lib.hid (ownB.alloc ho4 (.cells #[.int .u8 (kd:Int)] 5));have HVO:Hid (∀ j,(Value.slice Ao F.length co).ownBlock=some j→j < w3.heap.size):=(show ∀ j,_ from fun j hj=>(World.ownsRow.lt HO3.out j hj).2);have HVD:Hid (∀ j,(Value.slice A4 n c4).ownBlock=some j→w3.heap.size≤j∧j < w4.heap.size):=(show ∀ j,_ from fun j hj=>World.ownsRow.lt ho4 j hj);have HB4:=Lib.hid ((HB3.out.trans (hb4.mono (by omega))).alloc (by omega) (.cells #[.int .u8 (kd:Int)] 5));have hq1':bx+1≤(w4.alloc (.cells #[.int .u8 (kd:Int)] 5)).heap.size:=(by rw [World.size_alloc];omega);have hz4a:(w4.alloc (.cells #[.int .u8 (kd:Int)] 5)).heap.size=w4.heap.size+1:=World.size_alloc _ _;clear ho4 hb4))
    | (at_builtin;(refine wpList_appendB rfl (.tmp 49) (.tmp 50) rfl (bx+1) v5 (F ++ [kx]) rfl HO5.out _ n c4 A4 ds rfl HR5.out (by rw [List.length_append];show F.length+1+n≤_;omega) hq2 ?_;intro v6 w6 ho6 hg6 hb6 ha6;have HO6:=Lib.hid ho6;have HB6:=Lib.hid (HB5.out.trans (hb6.mono (Nat.le_succ bx)));have hz6:=hb6.size;have HX6:=Lib.hid (HX5.out.trans hb6);clear ho6 hg6 hb6 ha6))
    | (at_builtin;(refine wpList_appendB rfl (.tmp 45) (.tmp 48) rfl (bx+1) (.slice Ao F.length co) F rfl HO4.out (w4.heap.size+1) 1 1 (some ⟨w4.heap.size,0,none⟩) [kx] rfl (rd_one w4 (kd:Int) kx HKX.out) (by omega) hq1' ?_;intro v5 w5 ho5 hg5 hb5 ha5;have HO5:=Lib.hid ho5;have hq2:=Nat.le_trans hq1' hb5.size;have HR5:=Lib.hid (ownB.rd (World.ownsRow.kept HD4.out hg5 (by
      cases e:(Value.slice A4 n c4).ownBlock with
      | none=>exact .inl rfl
      | some j=>exact .inr (fun e2=>by have h1:=HVD.out j e;have h2:=HVO.out j e2.symm;omega))));have HB5:=Lib.hid (HB4.out.trans (hb5.mono (Nat.le_succ bx)));have HX5:=Lib.hid hb5;clear ho5 hg5 hb5 ha5)))
   have HA6:=Lib.hid (HA4.out.blw HX6.out (Nat.lt_succ_self bx))
   have HR6:=Lib.hid (RdB.blw (Rd.alloc HR4.out (by omega) (.cells #[.int .u8 (kd:Int)] 5)) (HX6.out.mono (by omega)))
   have HP6:Hid (RdB w6 B (some ⟨b,o+q,none⟩) n (prF n bs (k+1))):=(show RdB _ _ _ _ _ by rw [HPN.out];exact RdB.blw (Rd.alloc HRR4.out (by omega) (.cells #[.int .u8 (kd:Int)] 5)) (HX6.out.mono (by omega)))
   rw [← HFS.out] at HO6
   have HZ6:Hid (bx+1≤w6.heap.size):=(show _≤_ by omega)
   go_roundw
   case rel=>exact ⟨k+1,_,_,_,by omega,by go_num,HO6,rfl,HP6,HA6,HR6,HB6,HZ6⟩
   case measure=>simp [intOf];omega
  ·obtain rfl:k=H:=by omega
   have hlti:¬ (k:Int) < (k:Int):=by omega
   have b1:=HA.out.cell (k:=1) rfl
   go_wp2_with fail
   go_ret2
   exact ⟨_,rfl,HO.out.mono (Nat.le_succ bx),HB.out⟩
end Go.Proofs.YtebbdifhiihfkaaGreatDoor

/- png: a file of rows. -/
namespace Go.Proofs.YtebbdifhiihfkaaGreatDoor
set_option linter.all false
open Go.RowKit
/-- A colour type. -/
def colV (C:Nat):UInt8:=if C=1 then 0 else if C=2 then 4 else if C=3 then 2 else 6
set_option maxRecDepth 100000 in
theorem colours_any (C:Nat) (hC:1≤C∧C≤4) (w:World):Calls Tryz.prog 75 #[.int .i64 (C:Int)] w fun e w'=>e=.returned (.int .u8 ((colV C).toNat:Int))∧Below w.heap.size w w':=by
 rcases (show C=1∨C=2∨C=3∨C=4 by omega) with rfl | rfl | rfl | rfl
 all_goals
  go_enter Tryz.func75,Tryz.ntmps75
  go_wp2_with fail
  go_ret
  exact ⟨rfl,(Below.refl w.heap.size w).alloc (Nat.le_refl _) _⟩
theorem big4e {x:Nat} (h:x < 4294967296):beR (x:Int) 4=(beB x 4,0)∧(beB x 4).length=4:=by
 obtain ⟨S,hS,h4⟩:=big4 h
 have e:=big4b0 h hS
 subst e
 exact ⟨hS,h4⟩
theorem bigN_any (x:Nat) (h:x < 4294967296) (w:World):Calls Tryz.prog 46 #[.int .i64 (x:Int),.int .i64 4] w fun e w'=>∃ v,e=.returned (.tuple #[v,.int .i64 0])∧ownB w' w.heap.size v (beB x 4)∧Below w.heap.size w w':=by
 have h1:=big_any (x:Int) 4 w
 rw [(big4e h).1] at h1
 exact h1
/-- A chunk behind what is there, its numbers reckoned. -/
def ckL (out ks data:List UInt8):List UInt8:=layL out (beB data.length 4) ks data (beB (crc (ks ++ data)) 4)
theorem lay2_any (base B m c2 g0 n0 cap0:Nat) (A:Option Addr) (out data ks:List UInt8) (S:ByteArray) (w:World) (hS:S.data.toList=ks) (hks:ks.length=4) (ho:RowM w g0 n0 cap0 out) (hg0:base≤g0) (hr:RdB w B A m data) (hB:B≤base)
  (hm:m≤1000000) (hout:n0≤1000000) :
  Calls Tryz.prog 76 #[.slice (some ⟨g0,0,none⟩) n0 cap0,.string S,.slice A m c2] w fun e w'=>∃ g9 c9,e=.returned (.slice (some ⟨g9,0,none⟩) (n0+4+(4+m)+4) c9)∧RowM w' g9 (n0+4+(4+m)+4) c9 (ckL out ks data)∧base≤g9∧Below base w w':=by
 have hl:=hr.len
 have e1:=big4e (show m < 4294967296 by omega)
 have e2:=big4e (crc_lt (ks ++ data))
 unfold ckL
 rw [hl]
 exact lay_any base B m c2 g0 n0 cap0 A out data ks (beB m 4) (beB (crc (ks ++ data)) 4) S w hS hks ho hg0 hr hB hm hout e1.1 e1.2 e2.1 e2.2
/-- A head's bytes, a file's. -/
def hdrL (W H C D:Nat) (L:UInt8):List UInt8:=beB W 4 ++ beB H 4 ++ [UInt8.ofNat D,colV C,0,0,L]
def fileP (hd z:List UInt8):List UInt8:=ckL (ckL (ckL [137,80,78,71,13,10,26,10] [73,72,68,82] hd) [73,68,65,84] z) [73,69,78,68] []
def FileI (hd rs l:List UInt8):Prop:=∃ z,PK rs z∧l=fileP hd z
theorem FileI.uniq {hd rs l l':List UInt8} (h:FileI hd rs l) (h':FileI hd rs l'):l=l':=by
 obtain ⟨z,hz,rfl⟩:=h
 obtain ⟨z',hz',rfl⟩:=h'
 rw [hz.uniq hz']
set_option maxRecDepth 100000 in
set_option maxHeartbeats 6400000 in
theorem file_8 (W H C B n c:Nat) (A:Option Addr) (rs:List UInt8) (L:UInt8) (w:World) (h:RdB w B A n rs) (hB:B≤w.heap.size) (hn:n≤40000) (hcap:n≤c) (hW:W≤256) (hH:H≤256) (hC:1≤C∧C≤4) :
  Calls Tryz.prog 44 #[.agg #[.int .i64 (W:Int),.int .i64 (H:Int),.int .i64 (C:Int),.int .i64 8],.int .u8 (L.toNat:Int),.slice A n c] w fun e w'=>∃ g9 n9 c9 l,e=.returned (.tuple #[.slice (some ⟨g9,0,none⟩) n9 c9,.int .i64 0])∧RowM w' g9 n9 c9 l∧FileI (hdrL W H C 8 L) rs l∧Below w.heap.size w w':=by
 obtain ⟨w1,hw1⟩:∃ w1,w.alloc (.cells #[.int .i64 (W:Int),.int .i64 (H:Int),.int .i64 (C:Int),.int .i64 8] 37)=w1:=⟨_,rfl⟩
 obtain ⟨bk,hbk⟩:∃ b,w.heap.size=b:=⟨_,rfl⟩
 have HA1:Hid (Arr w1 bk [.int .i64 (W:Int),.int .i64 (H:Int),.int .i64 (C:Int),.int .i64 8]):=(show Arr _ _ _ by rw [← hw1,← hbk];exact Arr.new w [.int .i64 (W:Int),.int .i64 (H:Int),.int .i64 (C:Int),.int .i64 8] _)
 have HR1:RdB w1 B A n rs:=by rw [← hw1];exact Rd.alloc h hB _
 have hz1:w1.heap.size=bk+1:=by rw [← hw1,World.size_alloc,hbk]
 have HB1:Hid (Below bk w w1):=(show Below _ _ _ by rw [← hw1,← hbk];exact (Below.refl w.heap.size w).alloc (Nat.le_refl _) _)
 have HPK:=Lib.hid (packK_any B n c A rs w1 HR1 (by omega) (by omega) hcap)
 have hrl:=h.len
 have HCL:=Lib.hid (fun w=>colours_any C hC w)
 obtain ⟨cv,hcv⟩:∃ cv,colV C=cv:=⟨_,rfl⟩
 rw [hcv] at HCL
 have HHD:Hid (hdrL W H C 8 L=beB W 4 ++ beB H 4 ++ [UInt8.ofNat 8,cv,0,0,L]):=(show _=_ by unfold hdrL;rw [hcv])
 have HBW:=Lib.hid (fun w=>bigN_any W (by omega) w)
 have HBH:=Lib.hid (fun w=>bigN_any H (by omega) w)
 have HTL:Hid (∀ w7:World,RdB (w7.alloc (.cells #[.int .u8 8,.int .u8 (cv.toNat:Int),.int .u8 0,.int .u8 0,.int .u8 (L.toNat:Int)] 5)) (w7.heap.size+1) (some ⟨w7.heap.size,0,none⟩) 5 [UInt8.ofNat 8,cv,0,0,L]):=(show ∀ w7:World,_ from fun w7=>by
  have:=rd_lit w7 5 (0,0) [UInt8.ofNat 8,cv,0,0,L]
  have e:(cb [UInt8.ofNat 8,cv,0,0,L]).toArray=#[.int .u8 8,.int .u8 (cv.toNat:Int),.int .u8 0,.int .u8 0,.int .u8 (L.toNat:Int)]:=by
   rfl
  rw [e] at this
  exact this)
 have hwl:(beB W 4).length=4:=beB_len _ _
 have hhl:(beB H 4).length=4:=beB_len _ _
 generalize hdrL W H C 8 L=HD0 at *
 generalize beB W 4=bw at *
 generalize beB H 4=bh at *
 have HWL:=Lib.hid hwl
 have HHL:=Lib.hid hhl
 clear hcv hwl hhl
 clear h HR1
 go_enter Tryz.func44,Tryz.ntmps44
 simp only [hw1,hbk]
 go_upto_region 6 with (first
  | (go_at_call 74;(with_reducible refine HPK.out.mono ?_);go_must (rintro e w2 ⟨v2,zl,rfl,ho2,hz2,hb2⟩;have hbz:=hz2.len;obtain ⟨A2,c2,hv2,hr2,-,-⟩:=ho2.form;obtain ⟨n2,hn2⟩:∃ L,zl.length=L:=⟨_,rfl⟩;rw [hn2] at hv2 hr2;subst hv2;have HD2:=Lib.hid hr2;have HA2:=Lib.hid (HA1.out.later hb2);have a20:=HA2.out.cell (k:=0) rfl;have a21:=HA2.out.cell (k:=1) rfl;have hs2:=hb2.size;have HB2:=Lib.hid (HB1.out.trans (hb2.mono (by omega)));have hnn:n2≤50000:=(by omega);have HZ2:=Lib.hid hz2;clear ho2 hz2 hb2 hr2))
  | (go_at_call 46;(with_reducible refine (HBW.out w2).mono ?_);go_must (rintro e w3 ⟨v3,rfl,ho3,hb3⟩;have HO3:=Lib.hid ho3;have HA3:=Lib.hid (HA2.out.later hb3);have a31:=HA3.out.cell (k:=1) rfl;have HD3:=Lib.hid (RdB.blw HD2.out hb3);have hs3:=hb3.size;have HB3:=Lib.hid (HB2.out.trans (hb3.mono (by omega)));clear ho3 hb3))
  | (go_at_call 46;(with_reducible refine (HBH.out w3).mono ?_);go_must (rintro e w4 ⟨v4,rfl,ho4,hb4⟩;have HO4:=Lib.hid ho4;have HO34:=Lib.hid (ownB.later HO3.out hb4);have HA4:=Lib.hid (HA3.out.later hb4);have HD4:=Lib.hid (RdB.blw HD3.out (hb4.mono (by omega)));have hs4:=hb4.size;have HB4:=Lib.hid (HB3.out.trans (hb4.mono (by omega)));clear ho4 hb4)))
 obtain ⟨A3,c3,rfl,-,-,-⟩:=HO34.out.form
 obtain ⟨A4,c4,rfl,hr4,-,-⟩:=HO4.out.form
 rw [HWL.out] at HO34 ⊢
 rw [HHL.out] at hr4 ⊢
 have HO3d:Hid (ownB w4.drew w2.heap.size (.slice A3 4 c3) bw):=HO34
 have HR4d:Hid (RdB w4.drew w4.heap.size A4 4 bh):=hr4
 have s2:w4.drew.cell? ⟨bk,2,none⟩=some (.int .i64 (C:Int)):=HA4.out.cell (k:=2) rfl
 have s3:w4.drew.cell? ⟨bk,3,none⟩=some (.int .i64 8):=HA4.out.cell (k:=3) rfl
 have hbk2:bk < w2.heap.size:=by omega
 have hq1:bw.length+4≤140737488355328:=by rw [HWL.out];decide
 have hq2:w2.heap.size≤w4.drew.heap.size:=by show w2.heap.size≤w4.heap.size;omega
 have hq3:(bw ++ bh).length+5≤140737488355328:=by rw [List.length_append,HWL.out,HHL.out];decide
 clear hr4 HO34 hw1
 go_cut [14] (fun v wc=>Hid (ownB wc w2.heap.size v (bw ++ bh ++ [UInt8.ofNat 8,cv,0,0,L]))∧Hid (Below w2.heap.size w4 wc))
 case first =>
  go_region_held3 (fun w'=>w'.cell? ⟨bk,2,none⟩=some (.int .i64 (C:Int))∧w'.cell? ⟨bk,3,none⟩=some (.int .i64 8))
   (first | (with_reducible exact ⟨s2,s3⟩) | (with_reducible exact ⟨s26,s36⟩) | (with_reducible exact ⟨s27,s37⟩) | (with_reducible exact ⟨s29,s39⟩) | (with_reducible exact ⟨cell_alloc2 s27 _,cell_alloc2 s37 _⟩) | go_keep)
   (first
   | (refine step_appendB rfl (.tmp 38) (.tmp 46) rfl w2.heap.size v6 (bw ++ bh) rfl (ownB.alloc (ownB.later HO6.out HB7.out) _) _ 5 5 (some ⟨w7.heap.size,0,none⟩) [UInt8.ofNat 8,cv,0,0,L] rfl (HTL.out w7) hq3 hq8 ?_;intro v9 w9 ho9 hg9 hb9 ha9;have hX9:Below w2.heap.size w4 w9:=((hX7.alloc hq7 _).trans hb9);have s29:=cell_blw hb9 hbk2 (cell_alloc2 s27 _);have s39:=cell_blw hb9 hbk2 (cell_alloc2 s37 _);clear hg9 hb9 ha9)
   | (refine step_appendB rfl (.tmp 36) (.tmp 37) rfl w2.heap.size (.slice A3 4 c3) bw rfl HO3d.out w4.heap.size 4 c4 A4 bh rfl HR4d.out hq1 hq2 ?_;intro v6 w6 ho6 hg6 hb6 ha6;have HO6:Hid (ownB w6 w2.heap.size v6 (bw ++ bh)):=ho6;have s26:=cell_blw hb6 hbk2 s2;have s36:=cell_blw hb6 hbk2 s3;have hX6:Below w2.heap.size w4 w6:=⟨hb6.os,hb6.tape,hb6.output,hb6.size,hb6.block⟩;have hq6:w2.heap.size≤w6.heap.size:=Nat.le_trans hq2 hb6.size;have hbk6:bk < w6.heap.size:=Nat.lt_of_lt_of_le hbk2 hq6;clear ho6 hg6 hb6 ha6)
   | (go_at_call 75;(with_reducible refine (HCL.out w6).mono ?_);go_must (rintro e w7 ⟨rfl,hb7⟩;have HB7:=Lib.hid hb7;have s27:=cell_blw hb7 hbk6 s26;have s37:=cell_blw hb7 hbk6 s36;have hX7:Below w2.heap.size w4 w7:=hX6.trans (hb7.mono hq6);have hq7:w2.heap.size≤w7.heap.size:=Nat.le_trans hq6 hb7.size;have hq8:w2.heap.size≤(w7.alloc (.cells #[.int .u8 8,.int .u8 (cv.toNat:Int),.int .u8 0,.int .u8 0,.int .u8 (L.toNat:Int)] 5)).heap.size:=Nat.le_trans hq7 (alloc_le _ _);clear hb7)))
  all_goals
   go_wp2_with fail
   go_meet
   case rel=>exact ⟨ho9,hX9⟩
 case rest =>
  obtain ⟨HH,HX⟩:=hcut
  clear s2 s3 hq1 hq3 HO3d HR4d
  have kc:=conv_const
  obtain ⟨A14,c14,hv14,hr14,-,-⟩:=HH.out.form
  have hl14:(bw ++ bh ++ [UInt8.ofNat 8,cv,0,0,L]).length=13:=by rw [List.length_append,List.length_append,HWL.out,HHL.out];rfl
  rw [hl14] at hv14 hr14
  subst hv14
  obtain ⟨hd,hhd⟩:∃ hd,bw ++ bh ++ [UInt8.ofNat 8,cv,0,0,L]=hd:=⟨_,rfl⟩
  rw [hhd] at hr14 HHD hl14
  have HH14:=Lib.hid hl14
  clear hhd hl14
  have hzc:w2.heap.size≤wc.heap.size:=by have:=HX.out.size;omega
  have hbc:bk≤wc.heap.size:=by omega
  have HD:=Lib.hid (RdB.blw HD4.out HX.out)
  have HBC:=Lib.hid (HB4.out.trans (HX.out.mono (by omega)))
  obtain ⟨wm,hwm0⟩:∃ wm,wc.alloc (.cells #[.int .u8 137,.int .u8 80,.int .u8 78,.int .u8 71,.int .u8 13,.int .u8 10,.int .u8 26,.int .u8 10] 5 (8,9))=wm:=⟨_,rfl⟩
  have hrm:RowM wm wc.heap.size 8 8 [137,80,78,71,13,10,26,10]:=by rw [← hwm0];exact const_row wc [137,80,78,71,13,10,26,10] (8,9) (.inr (by decide))
  have hm14:RdB wm wc.heap.size A14 13 hd:=by rw [← hwm0];exact Rd.alloc hr14 (Nat.le_refl _) _
  have HM:=Lib.hid (show RdB wm w2.heap.size A2 n2 zl by rw [← hwm0];exact Rd.alloc HD.out hzc _)
  have HBM:=Lib.hid (show Below bk w wm by rw [← hwm0];exact HBC.out.alloc hbc _)
  have HL1:=Lib.hid (lay2_any wc.heap.size wc.heap.size 13 c14 wc.heap.size 8 8 A14 [137,80,78,71,13,10,26,10] hd [73,72,68,82] ⟨#[73,72,68,82]⟩ wm rfl rfl hrm (Nat.le_refl _) hm14 (Nat.le_refl _) (by omega) (by omega))
  generalize hd1:ckL [137,80,78,71,13,10,26,10] [73,72,68,82] hd=D1 at *
  have HL2:=Lib.hid (fun w10 g c (ho:RowM w10 g 33 c D1) (hg:wc.heap.size≤g) (hr:RdB w10 w2.heap.size A2 n2 zl)=>lay2_any wc.heap.size w2.heap.size n2 c2 g 33 c A2 D1 zl [73,68,65,84] ⟨#[73,68,65,84]⟩ w10 rfl rfl ho hg hr hzc (by omega) (by omega))
  generalize hd2:ckL D1 [73,68,65,84] zl=D2 at *
  obtain ⟨n11,hn11⟩:∃ k,33+4+(4+n2)+4=k:=⟨_,rfl⟩
  rw [hn11] at HL2
  have HL3:=Lib.hid (fun w11 g c (ho:RowM w11 g n11 c D2) (hg:wc.heap.size≤g)=>lay2_any wc.heap.size wc.heap.size 0 0 g n11 c none D2 [] [73,69,78,68] ⟨#[73,69,78,68]⟩ w11 rfl rfl ho hg rdB_nil0 (Nat.le_refl _) (by omega) (by omega))
  obtain ⟨n12,hn12⟩:∃ k,n11+4+(4+0)+4=k:=⟨_,rfl⟩
  rw [hn12] at HL3
  have HD1:=Lib.hid hd1
  have HD2':=Lib.hid hd2
  clear hd1 hd2 hn2 hr14 hrm hm14
  go_wp2_with (first
   | (go_at_call 76;(with_reducible refine HL1.out.mono ?_);go_must (rintro e w10 ⟨g10,c10,rfl,ho10,hg10,hb10⟩;have HL22:=Lib.hid (HL2.out w10 g10 c10 ho10 hg10 (RdB.blw HM.out (hb10.mono hzc)));have HB10:=Lib.hid (HBM.out.trans (hb10.mono hbc));clear ho10 hb10))
   | (go_at_call 76;(with_reducible refine HL22.out.mono ?_);go_must (rintro e w11 ⟨g11,c11,rfl,ho11,hg11,hb11⟩;have HL33:=Lib.hid (HL3.out w11 g11 c11 ho11 hg11);have HB11:=Lib.hid (HB10.out.trans (hb11.mono hbc));clear ho11 hb11))
   | (go_at_call 76;(with_reducible refine HL33.out.mono ?_);go_must (rintro e w12 ⟨g12,c12,rfl,ho12,hg12,hb12⟩;have HO12:=Lib.hid ho12;have HB12:=Lib.hid (HB11.out.trans (hb12.mono hbc));clear ho12 hb12)))
  go_ret2
  refine ⟨g12,n12,c12,_,rfl,HO12.out,⟨zl,HZ2.out,?_⟩,HB12.out⟩
  rw [HHD.out]
  unfold fileP
  rw [HD1.out,HD2'.out]
set_option maxRecDepth 100000 in
set_option maxHeartbeats 6400000 in
theorem file_16 (W H C B n c:Nat) (A:Option Addr) (rs:List UInt8) (L:UInt8) (w:World) (h:RdB w B A n rs) (hB:B≤w.heap.size) (hn:n≤40000) (hcap:n≤c) (hW:W≤256) (hH:H≤256) (hC:1≤C∧C≤4) :
  Calls Tryz.prog 44 #[.agg #[.int .i64 (W:Int),.int .i64 (H:Int),.int .i64 (C:Int),.int .i64 16],.int .u8 (L.toNat:Int),.slice A n c] w fun e w'=>∃ g9 n9 c9 l,e=.returned (.tuple #[.slice (some ⟨g9,0,none⟩) n9 c9,.int .i64 0])∧RowM w' g9 n9 c9 l∧FileI (hdrL W H C 16 L) rs l∧Below w.heap.size w w':=by
 obtain ⟨w1,hw1⟩:∃ w1,w.alloc (.cells #[.int .i64 (W:Int),.int .i64 (H:Int),.int .i64 (C:Int),.int .i64 16] 37)=w1:=⟨_,rfl⟩
 obtain ⟨bk,hbk⟩:∃ b,w.heap.size=b:=⟨_,rfl⟩
 have HA1:Hid (Arr w1 bk [.int .i64 (W:Int),.int .i64 (H:Int),.int .i64 (C:Int),.int .i64 16]):=(show Arr _ _ _ by rw [← hw1,← hbk];exact Arr.new w [.int .i64 (W:Int),.int .i64 (H:Int),.int .i64 (C:Int),.int .i64 16] _)
 have HR1:RdB w1 B A n rs:=by rw [← hw1];exact Rd.alloc h hB _
 have hz1:w1.heap.size=bk+1:=by rw [← hw1,World.size_alloc,hbk]
 have HB1:Hid (Below bk w w1):=(show Below _ _ _ by rw [← hw1,← hbk];exact (Below.refl w.heap.size w).alloc (Nat.le_refl _) _)
 have HPK:=Lib.hid (packK_any B n c A rs w1 HR1 (by omega) (by omega) hcap)
 have hrl:=h.len
 have HCL:=Lib.hid (fun w=>colours_any C hC w)
 obtain ⟨cv,hcv⟩:∃ cv,colV C=cv:=⟨_,rfl⟩
 rw [hcv] at HCL
 have HHD:Hid (hdrL W H C 16 L=beB W 4 ++ beB H 4 ++ [UInt8.ofNat 16,cv,0,0,L]):=(show _=_ by unfold hdrL;rw [hcv])
 have HBW:=Lib.hid (fun w=>bigN_any W (by omega) w)
 have HBH:=Lib.hid (fun w=>bigN_any H (by omega) w)
 have HTL:Hid (∀ w7:World,RdB (w7.alloc (.cells #[.int .u8 16,.int .u8 (cv.toNat:Int),.int .u8 0,.int .u8 0,.int .u8 (L.toNat:Int)] 5)) (w7.heap.size+1) (some ⟨w7.heap.size,0,none⟩) 5 [UInt8.ofNat 16,cv,0,0,L]):=(show ∀ w7:World,_ from fun w7=>by
  have:=rd_lit w7 5 (0,0) [UInt8.ofNat 16,cv,0,0,L]
  have e:(cb [UInt8.ofNat 16,cv,0,0,L]).toArray=#[.int .u8 16,.int .u8 (cv.toNat:Int),.int .u8 0,.int .u8 0,.int .u8 (L.toNat:Int)]:=by
   rfl
  rw [e] at this
  exact this)
 have hwl:(beB W 4).length=4:=beB_len _ _
 have hhl:(beB H 4).length=4:=beB_len _ _
 generalize hdrL W H C 16 L=HD0 at *
 generalize beB W 4=bw at *
 generalize beB H 4=bh at *
 have HWL:=Lib.hid hwl
 have HHL:=Lib.hid hhl
 clear hcv hwl hhl
 clear h HR1
 go_enter Tryz.func44,Tryz.ntmps44
 simp only [hw1,hbk]
 go_upto_region 6 with (first
  | (go_at_call 74;(with_reducible refine HPK.out.mono ?_);go_must (rintro e w2 ⟨v2,zl,rfl,ho2,hz2,hb2⟩;have hbz:=hz2.len;obtain ⟨A2,c2,hv2,hr2,-,-⟩:=ho2.form;obtain ⟨n2,hn2⟩:∃ L,zl.length=L:=⟨_,rfl⟩;rw [hn2] at hv2 hr2;subst hv2;have HD2:=Lib.hid hr2;have HA2:=Lib.hid (HA1.out.later hb2);have a20:=HA2.out.cell (k:=0) rfl;have a21:=HA2.out.cell (k:=1) rfl;have hs2:=hb2.size;have HB2:=Lib.hid (HB1.out.trans (hb2.mono (by omega)));have hnn:n2≤50000:=(by omega);have HZ2:=Lib.hid hz2;clear ho2 hz2 hb2 hr2))
  | (go_at_call 46;(with_reducible refine (HBW.out w2).mono ?_);go_must (rintro e w3 ⟨v3,rfl,ho3,hb3⟩;have HO3:=Lib.hid ho3;have HA3:=Lib.hid (HA2.out.later hb3);have a31:=HA3.out.cell (k:=1) rfl;have HD3:=Lib.hid (RdB.blw HD2.out hb3);have hs3:=hb3.size;have HB3:=Lib.hid (HB2.out.trans (hb3.mono (by omega)));clear ho3 hb3))
  | (go_at_call 46;(with_reducible refine (HBH.out w3).mono ?_);go_must (rintro e w4 ⟨v4,rfl,ho4,hb4⟩;have HO4:=Lib.hid ho4;have HO34:=Lib.hid (ownB.later HO3.out hb4);have HA4:=Lib.hid (HA3.out.later hb4);have HD4:=Lib.hid (RdB.blw HD3.out (hb4.mono (by omega)));have hs4:=hb4.size;have HB4:=Lib.hid (HB3.out.trans (hb4.mono (by omega)));clear ho4 hb4)))
 obtain ⟨A3,c3,rfl,-,-,-⟩:=HO34.out.form
 obtain ⟨A4,c4,rfl,hr4,-,-⟩:=HO4.out.form
 rw [HWL.out] at HO34 ⊢
 rw [HHL.out] at hr4 ⊢
 have HO3d:Hid (ownB w4.drew w2.heap.size (.slice A3 4 c3) bw):=HO34
 have HR4d:Hid (RdB w4.drew w4.heap.size A4 4 bh):=hr4
 have s2:w4.drew.cell? ⟨bk,2,none⟩=some (.int .i64 (C:Int)):=HA4.out.cell (k:=2) rfl
 have s3:w4.drew.cell? ⟨bk,3,none⟩=some (.int .i64 16):=HA4.out.cell (k:=3) rfl
 have hbk2:bk < w2.heap.size:=by omega
 have hq1:bw.length+4≤140737488355328:=by rw [HWL.out];decide
 have hq2:w2.heap.size≤w4.drew.heap.size:=by show w2.heap.size≤w4.heap.size;omega
 have hq3:(bw ++ bh).length+5≤140737488355328:=by rw [List.length_append,HWL.out,HHL.out];decide
 clear hr4 HO34 hw1
 go_cut [14] (fun v wc=>Hid (ownB wc w2.heap.size v (bw ++ bh ++ [UInt8.ofNat 16,cv,0,0,L]))∧Hid (Below w2.heap.size w4 wc))
 case first =>
  go_region_held3 (fun w'=>w'.cell? ⟨bk,2,none⟩=some (.int .i64 (C:Int))∧w'.cell? ⟨bk,3,none⟩=some (.int .i64 16))
   (first | (with_reducible exact ⟨s2,s3⟩) | (with_reducible exact ⟨s26,s36⟩) | (with_reducible exact ⟨s27,s37⟩) | (with_reducible exact ⟨s29,s39⟩) | (with_reducible exact ⟨cell_alloc2 s27 _,cell_alloc2 s37 _⟩) | go_keep)
   (first
   | (refine step_appendB rfl (.tmp 38) (.tmp 46) rfl w2.heap.size v6 (bw ++ bh) rfl (ownB.alloc (ownB.later HO6.out HB7.out) _) _ 5 5 (some ⟨w7.heap.size,0,none⟩) [UInt8.ofNat 16,cv,0,0,L] rfl (HTL.out w7) hq3 hq8 ?_;intro v9 w9 ho9 hg9 hb9 ha9;have hX9:Below w2.heap.size w4 w9:=((hX7.alloc hq7 _).trans hb9);have s29:=cell_blw hb9 hbk2 (cell_alloc2 s27 _);have s39:=cell_blw hb9 hbk2 (cell_alloc2 s37 _);clear hg9 hb9 ha9)
   | (refine step_appendB rfl (.tmp 36) (.tmp 37) rfl w2.heap.size (.slice A3 4 c3) bw rfl HO3d.out w4.heap.size 4 c4 A4 bh rfl HR4d.out hq1 hq2 ?_;intro v6 w6 ho6 hg6 hb6 ha6;have HO6:Hid (ownB w6 w2.heap.size v6 (bw ++ bh)):=ho6;have s26:=cell_blw hb6 hbk2 s2;have s36:=cell_blw hb6 hbk2 s3;have hX6:Below w2.heap.size w4 w6:=⟨hb6.os,hb6.tape,hb6.output,hb6.size,hb6.block⟩;have hq6:w2.heap.size≤w6.heap.size:=Nat.le_trans hq2 hb6.size;have hbk6:bk < w6.heap.size:=Nat.lt_of_lt_of_le hbk2 hq6;clear ho6 hg6 hb6 ha6)
   | (go_at_call 75;(with_reducible refine (HCL.out w6).mono ?_);go_must (rintro e w7 ⟨rfl,hb7⟩;have HB7:=Lib.hid hb7;have s27:=cell_blw hb7 hbk6 s26;have s37:=cell_blw hb7 hbk6 s36;have hX7:Below w2.heap.size w4 w7:=hX6.trans (hb7.mono hq6);have hq7:w2.heap.size≤w7.heap.size:=Nat.le_trans hq6 hb7.size;have hq8:w2.heap.size≤(w7.alloc (.cells #[.int .u8 16,.int .u8 (cv.toNat:Int),.int .u8 0,.int .u8 0,.int .u8 (L.toNat:Int)] 5)).heap.size:=Nat.le_trans hq7 (alloc_le _ _);clear hb7)))
  all_goals
   go_wp2_with fail
   go_meet
   case rel=>exact ⟨ho9,hX9⟩
 case rest =>
  obtain ⟨HH,HX⟩:=hcut
  clear s2 s3 hq1 hq3 HO3d HR4d
  have kc:=conv_const
  obtain ⟨A14,c14,hv14,hr14,-,-⟩:=HH.out.form
  have hl14:(bw ++ bh ++ [UInt8.ofNat 16,cv,0,0,L]).length=13:=by rw [List.length_append,List.length_append,HWL.out,HHL.out];rfl
  rw [hl14] at hv14 hr14
  subst hv14
  obtain ⟨hd,hhd⟩:∃ hd,bw ++ bh ++ [UInt8.ofNat 16,cv,0,0,L]=hd:=⟨_,rfl⟩
  rw [hhd] at hr14 HHD hl14
  have HH14:=Lib.hid hl14
  clear hhd hl14
  have hzc:w2.heap.size≤wc.heap.size:=by have:=HX.out.size;omega
  have hbc:bk≤wc.heap.size:=by omega
  have HD:=Lib.hid (RdB.blw HD4.out HX.out)
  have HBC:=Lib.hid (HB4.out.trans (HX.out.mono (by omega)))
  obtain ⟨wm,hwm0⟩:∃ wm,wc.alloc (.cells #[.int .u8 137,.int .u8 80,.int .u8 78,.int .u8 71,.int .u8 13,.int .u8 10,.int .u8 26,.int .u8 10] 5 (8,9))=wm:=⟨_,rfl⟩
  have hrm:RowM wm wc.heap.size 8 8 [137,80,78,71,13,10,26,10]:=by rw [← hwm0];exact const_row wc [137,80,78,71,13,10,26,10] (8,9) (.inr (by decide))
  have hm14:RdB wm wc.heap.size A14 13 hd:=by rw [← hwm0];exact Rd.alloc hr14 (Nat.le_refl _) _
  have HM:=Lib.hid (show RdB wm w2.heap.size A2 n2 zl by rw [← hwm0];exact Rd.alloc HD.out hzc _)
  have HBM:=Lib.hid (show Below bk w wm by rw [← hwm0];exact HBC.out.alloc hbc _)
  have HL1:=Lib.hid (lay2_any wc.heap.size wc.heap.size 13 c14 wc.heap.size 8 8 A14 [137,80,78,71,13,10,26,10] hd [73,72,68,82] ⟨#[73,72,68,82]⟩ wm rfl rfl hrm (Nat.le_refl _) hm14 (Nat.le_refl _) (by omega) (by omega))
  generalize hd1:ckL [137,80,78,71,13,10,26,10] [73,72,68,82] hd=D1 at *
  have HL2:=Lib.hid (fun w10 g c (ho:RowM w10 g 33 c D1) (hg:wc.heap.size≤g) (hr:RdB w10 w2.heap.size A2 n2 zl)=>lay2_any wc.heap.size w2.heap.size n2 c2 g 33 c A2 D1 zl [73,68,65,84] ⟨#[73,68,65,84]⟩ w10 rfl rfl ho hg hr hzc (by omega) (by omega))
  generalize hd2:ckL D1 [73,68,65,84] zl=D2 at *
  obtain ⟨n11,hn11⟩:∃ k,33+4+(4+n2)+4=k:=⟨_,rfl⟩
  rw [hn11] at HL2
  have HL3:=Lib.hid (fun w11 g c (ho:RowM w11 g n11 c D2) (hg:wc.heap.size≤g)=>lay2_any wc.heap.size wc.heap.size 0 0 g n11 c none D2 [] [73,69,78,68] ⟨#[73,69,78,68]⟩ w11 rfl rfl ho hg rdB_nil0 (Nat.le_refl _) (by omega) (by omega))
  obtain ⟨n12,hn12⟩:∃ k,n11+4+(4+0)+4=k:=⟨_,rfl⟩
  rw [hn12] at HL3
  have HD1:=Lib.hid hd1
  have HD2':=Lib.hid hd2
  clear hd1 hd2 hn2 hr14 hrm hm14
  go_wp2_with (first
   | (go_at_call 76;(with_reducible refine HL1.out.mono ?_);go_must (rintro e w10 ⟨g10,c10,rfl,ho10,hg10,hb10⟩;have HL22:=Lib.hid (HL2.out w10 g10 c10 ho10 hg10 (RdB.blw HM.out (hb10.mono hzc)));have HB10:=Lib.hid (HBM.out.trans (hb10.mono hbc));clear ho10 hb10))
   | (go_at_call 76;(with_reducible refine HL22.out.mono ?_);go_must (rintro e w11 ⟨g11,c11,rfl,ho11,hg11,hb11⟩;have HL33:=Lib.hid (HL3.out w11 g11 c11 ho11 hg11);have HB11:=Lib.hid (HB10.out.trans (hb11.mono hbc));clear ho11 hb11))
   | (go_at_call 76;(with_reducible refine HL33.out.mono ?_);go_must (rintro e w12 ⟨g12,c12,rfl,ho12,hg12,hb12⟩;have HO12:=Lib.hid ho12;have HB12:=Lib.hid (HB11.out.trans (hb12.mono hbc));clear ho12 hb12)))
  go_ret2
  refine ⟨g12,n12,c12,_,rfl,HO12.out,⟨zl,HZ2.out,?_⟩,HB12.out⟩
  rw [HHD.out]
  unfold fileP
  rw [HD1.out,HD2'.out]
theorem file_any (W H C D B n c:Nat) (A:Option Addr) (rs:List UInt8) (L:UInt8) (w:World) (h:RdB w B A n rs) (hB:B≤w.heap.size) (hn:n≤40000) (hcap:n≤c) (hW:W≤256) (hH:H≤256) (hC:1≤C∧C≤4) (hD:D=8∨D=16) :
  Calls Tryz.prog 44 #[.agg #[.int .i64 (W:Int),.int .i64 (H:Int),.int .i64 (C:Int),.int .i64 (D:Int)],.int .u8 (L.toNat:Int),.slice A n c] w fun e w'=>∃ g9 n9 c9 l,e=.returned (.tuple #[.slice (some ⟨g9,0,none⟩) n9 c9,.int .i64 0])∧RowM w' g9 n9 c9 l∧FileI (hdrL W H C D L) rs l∧Below w.heap.size w w':=by
 rcases hD with rfl | rfl
 ·exact file_8 W H C B n c A rs L w h hB hn hcap hW hH hC
 ·exact file_16 W H C B n c A rs L w h hB hn hcap hW hH hC
theorem file0_any (W H C D B n c:Nat) (A:Option Addr) (rs:List UInt8) (w:World) (h:RdB w B A n rs) (hB:B≤w.heap.size) (hn:n≤40000) (hcap:n≤c) (hW:W≤256) (hH:H≤256) (hC:1≤C∧C≤4) (hD:D=8∨D=16) :
  Calls Tryz.prog 44 #[.agg #[.int .i64 (W:Int),.int .i64 (H:Int),.int .i64 (C:Int),.int .i64 (D:Int)],.int .u8 0,.slice A n c] w fun e w'=>∃ g9 n9 c9 l,e=.returned (.tuple #[.slice (some ⟨g9,0,none⟩) n9 c9,.int .i64 0])∧RowM w' g9 n9 c9 l∧FileI (hdrL W H C D 0) rs l∧Below w.heap.size w w' :=
 file_any W H C D B n c A rs 0 w h hB hn hcap hW hH hC hD
end Go.Proofs.YtebbdifhiihfkaaGreatDoor

