/- XPh3 XPh5 XPh6 XPh4 XPh7 -/
import Derived.Test.YteoolehdomjkkaaGreatMe38
import Derived.Test.YteoolehdomjkkaaGreatMe39
import Derived.Test.YteoolehdomjkkaaGreatMe36
import Derived.Test.YteoolehdomjkkaaGreatMe31
import Derived.Test.YteoolehdomjkkaaGreatMe51
import Derived.Deep.RegionHeld3
namespace Go.Proofs.YteoolehdomjkkaaGreat
set_option linter.all false
open Go.RowKit
set_option maxRecDepth 100000 in
set_option maxHeartbeats 6400000 in
theorem rows9_any (W H C D K m c B:Nat) (A:Option Addr) (bs:List UInt8) (w:World) (hs:Sh.nums ⟨W,H,C,D⟩=true) (hK:C * D=8 * K) (h:RdB w B A m bs) (hB:B≤w.heap.size) (hm:m=H * (W * K)) (hcap:m≤c) (hmb:m≤1000000) :
  Calls Tryz.prog 46 #[.agg #[.int .i64 (W:Int),.int .i64 (H:Int),.int .i64 (C:Int),.int .i64 (D:Int)],.slice A m c] w fun e w'=>∃ v,e=.returned v∧ownB w' w.heap.size v (flF K (W * K) bs H)∧Below w.heap.size w w':=by
 obtain ⟨⟨w1,w2⟩,⟨h1,h2⟩,⟨c1,c2⟩,hd⟩:=(Sh.nums_iff _).1 hs
 have w1:1≤W:=by have h:(1:Int)≤(W:Int):=w1;omega
 have w2:W≤256:=by have h:(W:Int)≤256:=w2;omega
 have h1:1≤H:=by have h:(1:Int)≤(H:Int):=h1;omega
 have h2:H≤256:=by have h:(H:Int)≤256:=h2;omega
 have c2:C≤4:=by have h:(C:Int)≤4:=c2;omega
 have c1:1≤C:=by have h:(1:Int)≤(C:Int):=c1;omega
 have hd:D=8∨D=16:=by have h:(D:Int)=8∨(D:Int)=16:=hd;omega
 have hD:D≤16:=by omega
 have hK1:1≤K:=by
  have:1 * 8≤C * D:=Nat.mul_le_mul c1 (by omega)
  omega
 have hK8:K≤8:=by
  have:C * D≤4 * 16:=Nat.mul_le_mul c2 hD
  omega
 have hrow:Sh.row ⟨W,H,C,D⟩=((W * K:Nat):Int):=by
  unfold Sh.row
  rw [if_pos hs]
  show (W:Int) * (C:Int) * (D:Int) / 8=_
  have:(W:Int) * (C:Int) * (D:Int)=8 * ((W * K:Nat):Int):=by
   have e:W * C * D=8 * (W * K):=by rw [Nat.mul_assoc,hK];ac_rfl
   rw [show (8:Int) * ((W * K:Nat):Int)=((8 * (W * K):Nat):Int) by push_cast;rfl,← e]
   push_cast
   rfl
  omega
 obtain ⟨n,hn⟩:∃ n,W * K=n:=⟨_,rfl⟩
 have hn1:1≤n:=by rw [← hn];exact Nat.mul_le_mul w1 hK1
 have hn2:n≤256 * 8:=by rw [← hn];exact Nat.mul_le_mul w2 hK8
 rw [hn] at hm hrow ⊢
 have hlen:=h.len
 have hm1:1 * 1≤m:=by rw [hm];exact Nat.mul_le_mul h1 hn1
 obtain ⟨b,o,rfl,hb,-⟩:=h.at_ (by omega)
 obtain ⟨w1',hw1⟩:∃ w1,w.alloc (.cells #[.int .i64 (W:Int),.int .i64 (H:Int),.int .i64 (C:Int),.int .i64 (D:Int)] 23)=w1:=⟨_,rfl⟩
 obtain ⟨bx,hbk⟩:∃ b,w.heap.size=b:=⟨_,rfl⟩
 have HA1:Hid (Arr w1' bx [.int .i64 (W:Int),.int .i64 (H:Int),.int .i64 (C:Int),.int .i64 (D:Int)]):=(show Arr _ _ _ by rw [← hw1,← hbk];exact Arr.new w [.int .i64 (W:Int),.int .i64 (H:Int),.int .i64 (C:Int),.int .i64 (D:Int)] _)
 have HR1:Hid (RdB w1' B (some ⟨b,o,none⟩) m bs):=(show RdB _ _ _ _ _ by rw [← hw1];exact Rd.alloc h hB _)
 have HB1:Hid (Below bx w w1'):=(show Below _ _ _ by rw [← hw1,← hbk];exact (Below.refl w.heap.size w).alloc (Nat.le_refl _) _)
 have hz1:w1'.heap.size=bx+1:=by rw [← hw1,World.size_alloc,hbk]
 have HRW:Hid (Calls Tryz.prog 90 #[.agg #[.int .i64 (W:Int),.int .i64 (H:Int),.int .i64 (C:Int),.int .i64 (D:Int)]] w1' fun e w'=>e=.returned (.int .i64 (n:Int))∧Below w1'.heap.size w1' w'):=(show Calls _ _ _ _ _ by have:=row9_any ⟨W,H,C,D⟩ w1';rw [hrow] at this;exact this)
 have e1:(C:Int) * (D:Int)=((8 * K:Nat):Int):=by rw [← hK];push_cast;rfl
 have e2:IntKind.i64.wrap ((8 * K:Nat):Int)=((8 * K:Nat):Int):=wrap_i64_lt _ (by omega)
 have e3:(((8 * K:Nat):Int)).tdiv 8=(K:Int):=by
  show (((8 * K / 8:Nat)):Int)=_
  rw [Nat.mul_div_cancel_left _ (by decide)]
 have e5:(((8 * K:Nat):Int)) / 8=(K:Int):=by omega
 obtain ⟨KQ,hKQ⟩:∃ Q,8 * K=Q:=⟨_,rfl⟩
 rw [hKQ] at e1 e2 e3 e5
 have e4:IntKind.i64.wrap (K:Int)=(K:Int):=wrap_i64_lt K (by omega)
 clear hKQ
 have a0:=HA1.out.cell (k:=0) rfl
 have a1:=HA1.out.cell (k:=1) rfl
 have a2:=HA1.out.cell (k:=2) rfl
 have a3:=HA1.out.cell (k:=3) rfl
 have HM:=Lib.hid hm
 have HLEN:=Lib.hid hlen
 clear h hK hn hs hrow hd w1 w2 c1 c2 hm hlen
 rw [hbk] at hB
 go_enter Tryz.func46,Tryz.ntmps46
 simp only [hw1,hbk]
 go_wp2_with (go_at_call 90;(with_reducible refine HRW.out.mono ?_);go_must (rintro e w2 ⟨rfl,hb2⟩;have HA2:=Lib.hid (HA1.out.later hb2);have HR2:=Lib.hid (RdB.blw HR1.out (hb2.mono (by omega)));have hz2:=hb2.size;have HB2:=Lib.hid (HB1.out.trans (hb2.mono (by omega)));clear hb2 a0 a1 a2 a3))
 clear hw1 HRW HA1 HR1 HB1
 have hbw:bx+1≤w2.heap.size:=by omega
 clear hz1 hz2
 have HO0:=Lib.hid (ownB.nil_ w2 (bx+1))
 go_loopw [8,5,6] (fun vk vo vp wr=>∃ (k:Nat) (Ap:Option Addr) (np cp:Nat),k≤H∧vk=.int .i64 k∧Hid (ownB wr (bx+1) vo (flF K n bs k))∧vp=.slice Ap np cp∧Hid (RdB wr B Ap np (prF n bs k))∧Hid (Arr wr bx [.int .i64 (W:Int),.int .i64 (H:Int),.int .i64 (C:Int),.int .i64 (D:Int)])∧Hid (RdB wr B (some ⟨b,o,none⟩) m bs)∧Hid (Below bx w wr)∧Hid (bx+1≤wr.heap.size)) (fun vk _ _ _=>H - (intOf vk).toNat)
 case atStart=>exact ⟨0,none,0,0,Nat.zero_le _,rfl,HO0,rfl,(show RdB _ _ _ _ _ from Rd.none_),HA2,HR2,HB2,hbw⟩
 case round =>
  clear HA2 HR2 HB2 HO0 hbw
  obtain ⟨k,Ap,np,cp,hk,rfl,HO,rfl,HP,HA,HR,HB,HZ⟩:=hrel
  have hz:=HZ.out
  by_cases hlt:k < H
  ·have hlti:(k:Int) < (H:Int):=by omega
   obtain ⟨q,hq⟩:∃ q,k * n=q:=⟨_,rfl⟩
   have hqm:q+n≤m:=by
    rw [HM.out,← hq]
    have:(k+1) * n≤H * n:=Nat.mul_le_mul_right n (by omega)
    rw [Nat.succ_mul] at this
    exact this
   have hkq:k * n+n≤bs.length:=by rw [hq,HLEN.out];exact hqm
   obtain ⟨kd,ds,hbf,hkd,hdl⟩:=bF_ok (K:=K) hK1 hK8 hkq
   have HFS:Hid (flF K n bs (k+1)=flF K n bs k ++ [UInt8.ofNat kd] ++ ds):=(show _=_ by rw [flF,hbf];rfl)
   have HFL:Hid ((flF K n bs k).length=k * (n+1)):=(show _=_ from flF_len hK1 hK8 k (by omega))
   have HBE:Hid (∀ w3 c',RdB w3 B Ap np (prF n bs k)→RdB w3 B (some ⟨b,o+q,none⟩) n (rwF n bs k)→B≤w3.heap.size→Calls Tryz.prog 91 #[.int .i64 (K:Int),.slice Ap np cp,.slice (some ⟨b,o+q,none⟩) n c'] w3 fun e w'=>∃ v,e=.returned (.tuple #[.int .i64 (kd:Int),v,.int .i64 0])∧ownB w' w3.heap.size v ds∧Below w3.heap.size w3 w'):=(show ∀ w3 c',_ from fun w3 c' h1 h2 h3=>by
    have:=best9_any (K:Int) B np cp B n c' Ap (some ⟨b,o+q,none⟩) (prF n bs k) (rwF n bs k) w3 h1 h2 h3 h3 (by omega)
    rw [show bestR (K:Int) (prF n bs k) (rwF n bs k)=((kd:Int),ds,0) from hbf] at this
    exact this)
   have HRR:=Lib.hid (RdB.row HR.out hq hqm)
   have HPN:Hid (prF n bs (k+1)=rwF n bs k):=(show _=_ by unfold prF;rw [if_neg (by omega)];rfl)
   have hkb:k * (n+1)≤256 * 2049:=Nat.mul_le_mul (by omega) (by omega)
   obtain ⟨Ao,co,rfl,-,-,-⟩:=HO.out.form
   generalize hF:flF K n bs k=F at *
   have hFl:F.length≤600000:=by rw [HFL.out];omega
   have hq1:(k:Int) * (n:Int)=(q:Int):=by rw [← hq];push_cast;rfl
   have hqw:IntKind.i64.wrap (q:Int)=(q:Int):=wrap_i64_lt q (by omega)
   have hqn:IntKind.i64.wrap ((q:Int)+(n:Int))=(q:Int)+(n:Int):=by rw [show (q:Int)+(n:Int)=((q+n:Nat):Int) by omega];exact wrap_i64_lt _ (by omega)
   have hqt:((q:Int)+(n:Int)).toNat=q+n:=by omega
   have hqs:((q:Int)+(n:Int)).toNat - q=n:=by omega
   have hqc:¬ c=q:=by omega
   have hqc2:q < c:=by omega
   have hqc3:(q:Int)≤(q:Int)+(n:Int):=by omega
   have hqc4:(q:Int)+(n:Int)≤(c:Int):=by omega
   have hkd8:(kd:Int) % 256=(kd:Int):=by omega
   have hkx:(kd:Int)=((UInt8.ofNat kd).toNat:Int):=by rw [UInt8.toNat_ofNat'];omega
   have b0:=HA.out.cell (k:=0) rfl
   have b1:=HA.out.cell (k:=1) rfl
   have b2:=HA.out.cell (k:=2) rfl
   have b3:=HA.out.cell (k:=3) rfl
   have HDL:=Lib.hid hdl
   have HKX:=Lib.hid hkx
   clear hq hF hkq hbf hkx hdl
   generalize UInt8.ofNat kd=kx at *
   have HBE3:=Lib.hid (HBE.out wr (c - q) HP.out HRR.out (by omega))
   go_wp2_with (first
    | (go_at_call 91;(with_reducible refine HBE3.out.mono ?_);go_must (rintro e w4 ⟨v4,rfl,ho4,hb4⟩;obtain ⟨A4,c4,hv4,-,-,-⟩:=ho4.form;rw [HDL.out] at hv4;subst hv4;have hz4:=hb4.size;have HR4:=Lib.hid (RdB.blw HR.out (hb4.mono (by omega)));have HRR4:=Lib.hid (RdB.blw HRR.out (hb4.mono (by omega)));have HA4:=Lib.hid ((HA.out.later hb4).alloc (.cells #[.int .u8 (kd:Int)] 5));have HO4:=Lib.hid (ownB.alloc (HO.out.later hb4) (.cells #[.int .u8 (kd:Int)] 5));have HD4:=Lib.hid (ownB.alloc ho4 (.cells #[.int .u8 (kd:Int)] 5));have HVO:Hid (∀ j,(Value.slice Ao F.length co).ownBlock=some j→j < wr.heap.size):=(show ∀ j,_ from fun j hj=>(World.ownsRow.lt HO.out j hj).2);have HVD:Hid (∀ j,(Value.slice A4 n c4).ownBlock=some j→wr.heap.size≤j∧j < w4.heap.size):=(show ∀ j,_ from fun j hj=>World.ownsRow.lt ho4 j hj);have HB4:=Lib.hid ((HB.out.trans (hb4.mono (by omega))).alloc (by omega) (.cells #[.int .u8 (kd:Int)] 5));have hq1':bx+1≤(w4.alloc (.cells #[.int .u8 (kd:Int)] 5)).heap.size:=(by rw [World.size_alloc];omega);have hz4a:(w4.alloc (.cells #[.int .u8 (kd:Int)] 5)).heap.size=w4.heap.size+1:=World.size_alloc _ _;clear ho4 hb4))
    | (at_builtin;(refine wpList_appendB rfl (.tmp 48) (.tmp 49) rfl (bx+1) v5 (F ++ [kx]) rfl HO5.out _ n c4 A4 ds rfl HR5.out (by rw [List.length_append];show F.length+1+n≤_;omega) hq2 ?_;intro v6 w6 ho6 hg6 hb6 ha6;have HO6:=Lib.hid ho6;have HB6:=Lib.hid (HB5.out.trans (hb6.mono (Nat.le_succ bx)));have hz6:=hb6.size;have HX6:=Lib.hid (HX5.out.trans hb6);clear ho6 hg6 hb6 ha6))
    | (at_builtin;(refine wpList_appendB rfl (.tmp 44) (.tmp 47) rfl (bx+1) (.slice Ao F.length co) F rfl HO4.out (w4.heap.size+1) 1 1 (some ⟨w4.heap.size,0,none⟩) [kx] rfl (rd_one w4 (kd:Int) kx HKX.out) (by omega) hq1' ?_;intro v5 w5 ho5 hg5 hb5 ha5;have HO5:=Lib.hid ho5;have hq2:=Nat.le_trans hq1' hb5.size;have HR5:=Lib.hid (ownB.rd (World.ownsRow.kept HD4.out hg5 (by
      cases e:(Value.slice A4 n c4).ownBlock with
      | none=>exact .inl rfl
      | some j=>exact .inr (fun e2=>by have h1:=HVD.out j e;have h2:=HVO.out j e2.symm;omega))));have HB5:=Lib.hid (HB4.out.trans (hb5.mono (Nat.le_succ bx)));have HX5:=Lib.hid hb5;clear ho5 hg5 hb5 ha5)))
   have HA6:=Lib.hid (HA4.out.blw HX6.out (Nat.lt_succ_self bx))
   have HR6:=Lib.hid (RdB.blw (Rd.alloc HR4.out (by omega) (.cells #[.int .u8 (kd:Int)] 5)) (HX6.out.mono (by omega)))
   have HP6:Hid (RdB w6 B (some ⟨b,o+q,none⟩) n (prF n bs (k+1))):=(show RdB _ _ _ _ _ by rw [HPN.out];exact RdB.blw (Rd.alloc HRR4.out (by omega) (.cells #[.int .u8 (kd:Int)] 5)) (HX6.out.mono (by omega)))
   rw [← HFS.out] at HO6
   have HZ6:Hid (bx+1≤w6.heap.size):=(show _≤_ by omega)
   go_roundw
   case rel=>exact ⟨k+1,_,_,_,by omega,by go_num,HO6,rfl,HP6,HA6,HR6,HB6,HZ6⟩
   case measure=>simp [intOf];omega
  ·obtain rfl:k=H:=by omega
   have hlti:¬ (k:Int) < (k:Int):=by omega
   have b1:=HA.out.cell (k:=1) rfl
   go_wp2_with fail
   go_ret
   exact ⟨_,rfl,HO.out.mono (Nat.le_succ bx),HB.out⟩
end Go.Proofs.YteoolehdomjkkaaGreat

/- png: the document's pixels, a pass of them. -/
namespace Go.Proofs.YteoolehdomjkkaaGreat
set_option linter.all false
open Go.RowKit
set_option maxRecDepth 100000 in
set_option maxHeartbeats 3200000 in
theorem pixel9_any (W H C D K m c B x y q b o:Nat) (X Y:Int) (bs:List UInt8) (w:World) (hX:X=(x:Int)) (hY:Y=(y:Int)) (hs:PS W H C D K) (hm:m=H * (W * K)) (hmb:m≤1000000) (hcap:m≤c) (hx:x < W) (hy:y < H) (hq:(y * W+x) * K=q) :
  Calls Tryz.prog 92 #[.agg #[.int .i64 (W:Int),.int .i64 (H:Int),.int .i64 (C:Int),.int .i64 (D:Int),.slice (some ⟨b,o,none⟩) m c],.int .i64 X,.int .i64 Y] w fun e w'=>e=.returned (.slice (some ⟨b,o+q,none⟩) K (c - q))∧Below w.heap.size w w':=by
 subst hX hY
 have hin:=px_in (K:=K) hx hy hm
 rw [hq] at hin
 have hk8:=hs.k8
 have hk1:=hs.k1
 have hw2:=hs.w2
 have hh2:=hs.h2
 have e1:(C:Int) * (D:Int)=((8 * K:Nat):Int):=by rw [← hs.k];push_cast;rfl
 have e2:IntKind.i64.wrap ((8 * K:Nat):Int)=((8 * K:Nat):Int):=wrap_i64_lt _ (by omega)
 have e3:(((8 * K:Nat):Int)).tdiv 8=(K:Int):=by
  show (((8 * K / 8:Nat)):Int)=_
  rw [Nat.mul_div_cancel_left _ (by decide)]
 have e5:(((8 * K:Nat):Int)) / 8=(K:Int):=by omega
 obtain ⟨KQ,hKQ⟩:∃ Q,8 * K=Q:=⟨_,rfl⟩
 rw [hKQ] at e1 e2 e3 e5
 have e4:IntKind.i64.wrap (K:Int)=(K:Int):=wrap_i64_lt K (by omega)
 obtain ⟨n,hn⟩:∃ n,W * K=n:=⟨_,rfl⟩
 have hn2:n≤256 * 8:=by rw [← hn];exact Nat.mul_le_mul hw2 hk8
 have HRW:=Lib.hid (fun w=>row9_any ⟨W,H,C,D⟩ w)
 rw [hs.size.2,hn] at HRW
 obtain ⟨q1,hq1⟩:∃ a,y * n=a:=⟨_,rfl⟩
 obtain ⟨q2,hq2⟩:∃ a,x * K=a:=⟨_,rfl⟩
 have hqq:q1+q2=q:=by rw [← hq1,← hq2,← hn,← hq,Nat.add_mul,Nat.mul_assoc]
 have f1:(y:Int) * (n:Int)=(q1:Int):=pixel_fact hq1
 have f2:(x:Int) * (K:Int)=(q2:Int):=pixel_fact hq2
 have f3:(q1:Int)+(q2:Int)=(q:Int):=by omega
 have f4:IntKind.i64.wrap (q1:Int)=(q1:Int):=wrap_i64_lt q1 (by omega)
 have f5:IntKind.i64.wrap (q2:Int)=(q2:Int):=wrap_i64_lt q2 (by omega)
 have f6:IntKind.i64.wrap (q:Int)=(q:Int):=wrap_i64_lt q (by omega)
 have f7:IntKind.i64.wrap ((q:Int)+(K:Int))=(q:Int)+(K:Int):=by rw [show (q:Int)+(K:Int)=((q+K:Nat):Int) by omega];exact wrap_i64_lt _ (by omega)
 have f8:((q:Int)+(K:Int)).toNat - q=K:=by omega
 have f9:¬ c=q:=by omega
 have f10:q < c:=by omega
 have f11:(q:Int)≤(q:Int)+(K:Int):=by omega
 have f12:(q:Int)+(K:Int)≤(c:Int):=by omega
 dsimp only [Sh.v] at HRW
 clear hs hq1 hq2 hn hqq hq hKQ
 go_enter Tryz.func92,Tryz.ntmps92
 go_wp2_with (go_at_call 90;(with_reducible refine (HRW.out _).mono ?_);go_must (rintro e w1 ⟨rfl,hb1⟩;have c4:=(box5 hb1) 4;have c0:=(box5 hb1) 0;have HB1:=Lib.hid (bxd hb1);clear hb1))
 go_ret
 exact ⟨by first | rfl | simp,HB1.out⟩
end Go.Proofs.YteoolehdomjkkaaGreat

/- png: the document's pass. -/
namespace Go.Proofs.YteoolehdomjkkaaGreat
set_option linter.all false
open Go.RowKit
set_option maxRecDepth 100000 in
set_option maxHeartbeats 6400000 in
theorem pass9s_any (W H C D K m c B pw ph k:Nat) (A:Option Addr) (bs:List UInt8) (w:World) (hs:PS W H C D K) (hz:H * (W * K)≤16384) (h:RdB w B A m bs) (hB:B≤w.heap.size) (hm:m=H * (W * K)) (hm1:1≤m) (hcap:m≤c) (hk:1≤k∧k≤7) (hpw:pw≤256) (hph:ph≤256) (hpe:passW W H k=pw) (hpf:passH W H k=ph)
  (hx:∀ i,i < pw→(gT k).1.1+i * (gT k).2.1 < W) (hy:∀ j,j < ph→(gT k).1.2+j * (gT k).2.2 < H) :
  Calls Tryz.prog 49 #[.agg #[.int .i64 (W:Int),.int .i64 (H:Int),.int .i64 (C:Int),.int .i64 (D:Int),.slice A m c],.int .i64 (k:Int)] w fun e w'=>∃ A' n' c',e=.returned (.tuple #[.agg #[.int .i64 (pw:Int),.int .i64 (ph:Int),.int .i64 (C:Int),.int .i64 (D:Int)],.slice A' n' c'])∧ownB w' w.heap.size (.slice A' n' c') (pkJ W K bs (gT k).1.1 (gT k).1.2 (gT k).2.1 (gT k).2.2 pw ph)∧Below w.heap.size w w':=by
 have hK8:=hs.k8
 have hK1:=hs.k1
 have hW:=hs.w2
 have hH:=hs.h2
 have HPX0:=Lib.hid (fun x y q b o X Y w hX hY hx hy hq=>pixel9_any W H C D K m c B x y q b o X Y bs w hX hY hs hm (by omega) hcap hx hy hq)
 have HPA:=Lib.hid (fun w=>pass9_ok W H k (C:Int) (D:Int) w (hs.may hz) ⟨hs.w1,hs.w2⟩ ⟨hs.h1,hs.h2⟩ hk.1 hk.2)
 rw [hpe,hpf] at HPA
 clear hpe hpf
 have HG:=Lib.hid (fun w=>grid9_any k hk.1 hk.2 w)
 obtain ⟨_,_,_,_,g5,g6,g7,g8⟩:=gT_ok k
 have g1:(gT k).1.1≤4:=(gT_ok k).1
 have g2:(gT k).1.2≤4:=(gT_ok k).2.1
 generalize (gT k).1.1=gx at *
 generalize (gT k).1.2=gy at *
 generalize (gT k).2.1=dx at *
 generalize (gT k).2.2=dy at *
 have hlen:bs.length=m:=h.len
 have HLM:=Lib.hid (hlen.trans hm)
 have HM:=Lib.hid hm
 have HX:=Lib.hid hx
 have HY:=Lib.hid hy
 obtain ⟨b,o,rfl,hb,-⟩:=h.at_ (by omega)
 obtain ⟨b0,hb0⟩:∃ b,w.heap.size=b:=⟨_,rfl⟩
 rw [hb0] at hB
 obtain ⟨w1,hw1⟩:∃ w1,((w.alloc (.cells #[.int .i64 (W:Int),.int .i64 (H:Int),.int .i64 (C:Int),.int .i64 (D:Int),.slice (some ⟨b,o,none⟩) m c] 26)).alloc (.cells #[.int .i64 0,.int .i64 0,.int .i64 0,.int .i64 0] 23)).alloc (.cells #[.int .i64 (W:Int),.int .i64 (H:Int),.int .i64 (C:Int),.int .i64 (D:Int)] 23)=w1:=⟨_,rfl⟩
 have z0:(w.alloc (.cells #[.int .i64 (W:Int),.int .i64 (H:Int),.int .i64 (C:Int),.int .i64 (D:Int),.slice (some ⟨b,o,none⟩) m c] 26)).heap.size=b0+1:=by rw [World.size_alloc,hb0]
 have z1:((w.alloc (.cells #[.int .i64 (W:Int),.int .i64 (H:Int),.int .i64 (C:Int),.int .i64 (D:Int),.slice (some ⟨b,o,none⟩) m c] 26)).alloc (.cells #[.int .i64 0,.int .i64 0,.int .i64 0,.int .i64 0] 23)).heap.size=b0+2:=by rw [World.size_alloc,z0]
 have z2:w1.heap.size=b0+3:=by rw [← hw1,World.size_alloc,z1]
 have HA1:Hid (Arr w1 b0 [.int .i64 (W:Int),.int .i64 (H:Int),.int .i64 (C:Int),.int .i64 (D:Int),.slice (some ⟨b,o,none⟩) m c]):=(show Arr _ _ _ by rw [← hw1,← hb0];exact ((Arr.new w [.int .i64 (W:Int),.int .i64 (H:Int),.int .i64 (C:Int),.int .i64 (D:Int),.slice (some ⟨b,o,none⟩) m c] _).alloc _).alloc _)
 have HT1:Hid (Arr w1 (b0+1) [.int .i64 0,.int .i64 0,.int .i64 0,.int .i64 0]):=(show Arr _ _ _ by rw [← hw1,← z0];exact (Arr.new _ [.int .i64 0,.int .i64 0,.int .i64 0,.int .i64 0] _).alloc _)
 have HP1:Hid (Arr w1 (b0+2) [.int .i64 (W:Int),.int .i64 (H:Int),.int .i64 (C:Int),.int .i64 (D:Int)]):=(show Arr _ _ _ by rw [← hw1,← z1];exact Arr.new _ [.int .i64 (W:Int),.int .i64 (H:Int),.int .i64 (C:Int),.int .i64 (D:Int)] _)
 have HR1:Hid (RdB w1 B (some ⟨b,o,none⟩) m bs):=(show RdB _ _ _ _ _ by rw [← hw1];exact Rd.alloc (Rd.alloc (Rd.alloc h (by omega) _) (by omega) _) (by omega) _)
 have HB1:Hid (Below b0 w w1):=(show Below _ _ _ by rw [← hw1,← hb0];exact (((Below.refl w.heap.size w).alloc (Nat.le_refl _) _).alloc (by simp) _).alloc (by simp;omega) _)
 have a0:=HA1.out.cell (k:=0) rfl
 have a1:=HA1.out.cell (k:=1) rfl
 have a2:=HA1.out.cell (k:=2) rfl
 have a3:=HA1.out.cell (k:=3) rfl
 clear h hm hx hy hlen hz
 go_enter Tryz.func49,Tryz.ntmps49
 (try simp only [hw1,hb0,z0,z1])
 go_upto_region 2 with fail
 (try simp only [hw1,hb0,z0,z1])
 go_upto_region 3 with (go_at_call 18;(with_reducible refine (HPA.out _).mono ?_);go_must (rintro e w2 ⟨rfl,hb2⟩;have hz2:=hb2.size;have HA2:=Lib.hid (HA1.out.later hb2);have HP2:=Lib.hid (HP1.out.later hb2);have HT2:=Lib.hid (HT1.out.later hb2);have HR2:=Lib.hid (RdB.blw HR1.out (hb2.mono (by omega)));have HB2:=Lib.hid (HB1.out.trans (hb2.mono (by omega)));have c0:=HP2.out.cell (k:=0) rfl;have c1:=HP2.out.cell (k:=1) rfl;have k0:=HP2.out.frozen 0;have k1:=HP2.out.frozen 1;clear hb2 a0 a1 a2 a3))
 have HPs:Hid (Arr ((w2.setCell ⟨b0+2,0,none⟩ (.int .i64 (pw:Int))).setCell ⟨b0+2,1,none⟩ (.int .i64 (ph:Int))) (b0+2) [.int .i64 (pw:Int),.int .i64 (ph:Int),.int .i64 (C:Int),.int .i64 (D:Int)]):=(show Arr _ _ _ from (HP2.out.set 0 _).set 1 _)
 have HAs:Hid (Arr ((w2.setCell ⟨b0+2,0,none⟩ (.int .i64 (pw:Int))).setCell ⟨b0+2,1,none⟩ (.int .i64 (ph:Int))) b0 [.int .i64 (W:Int),.int .i64 (H:Int),.int .i64 (C:Int),.int .i64 (D:Int),.slice (some ⟨b,o,none⟩) m c]):=(show Arr _ _ _ from (HA2.out.far (p:=⟨b0+2,0,none⟩) (by show b0+2 ≠ b0;omega) _).far (p:=⟨b0+2,1,none⟩) (by show b0+2 ≠ b0;omega) _)
 have HTs:Hid (Arr ((w2.setCell ⟨b0+2,0,none⟩ (.int .i64 (pw:Int))).setCell ⟨b0+2,1,none⟩ (.int .i64 (ph:Int))) (b0+1) [.int .i64 0,.int .i64 0,.int .i64 0,.int .i64 0]):=(show Arr _ _ _ from (HT2.out.far (p:=⟨b0+2,0,none⟩) (by show b0+2 ≠ b0+1;omega) _).far (p:=⟨b0+2,1,none⟩) (by show b0+2 ≠ b0+1;omega) _)
 have hBs:Below b0 w2 ((w2.setCell ⟨b0+2,0,none⟩ (.int .i64 (pw:Int))).setCell ⟨b0+2,1,none⟩ (.int .i64 (ph:Int))):=((Below.refl b0 w2).setCell (p:=⟨b0+2,0,none⟩) (by show b0≤b0+2;omega) _).setCell (p:=⟨b0+2,1,none⟩) (by show b0≤b0+2;omega) _
 have HRs:=Lib.hid (RdB.blw HR2.out (hBs.mono hB))
 have HBs:=Lib.hid (HB2.out.trans hBs)
 have hzs:=hBs.size
 clear hBs HP2 HA2 HT2 HR2 HB2 c0 c1 k0 k1
 generalize (w2.setCell ⟨b0+2,0,none⟩ (.int .i64 (pw:Int))).setCell ⟨b0+2,1,none⟩ (.int .i64 (ph:Int))=wq at *
 go_wp2_with (go_at_call 53;(with_reducible refine (HG.out _).mono ?_);go_must (rintro e w3 ⟨rfl,hb3⟩;have hz3:=hb3.size;have HA3:=Lib.hid (HAs.out.later hb3);have HP3:=Lib.hid (HPs.out.later hb3);have HT3:=Lib.hid (HTs.out.later hb3);have HR3:=Lib.hid (RdB.blw HRs.out (hb3.mono (by omega)));have HB3:=Lib.hid (HBs.out.trans (hb3.mono (by omega)));clear hb3))
 clear hw1 z0 z1 HA1 HP1 HT1 HR1 HB1 HAs HPs HTs HRs HBs
 have HO0:=Lib.hid (ownB.nil_ w3 (b0+3))
 have HZ0:Hid (b0+3≤w3.heap.size):=(show _≤_ by omega)
 go_loopw [12,11] (fun vj vo wr=>∃ (j:Nat),j≤ph∧vj=.int .i64 j∧Hid (ownB wr (b0+3) vo (pkJ W K bs gx gy dx dy pw j))∧Hid (Arr wr b0 [.int .i64 (W:Int),.int .i64 (H:Int),.int .i64 (C:Int),.int .i64 (D:Int),.slice (some ⟨b,o,none⟩) m c])∧Hid (Arr wr (b0+2) [.int .i64 (pw:Int),.int .i64 (ph:Int),.int .i64 (C:Int),.int .i64 (D:Int)])∧Hid (Arr wr (b0+1) [.int .i64 0,.int .i64 0,.int .i64 0,.int .i64 0])∧Hid (RdB wr B (some ⟨b,o,none⟩) m bs)∧Hid (Below b0 w wr)∧Hid (b0+3≤wr.heap.size)) (fun vj _ _=>ph - (intOf vj).toNat)
 case atStart=>exact ⟨0,Nat.zero_le _,rfl,HO0,HA3,HP3,HT3,HR3,HB3,HZ0⟩
 case round =>
  clear HA3 HP3 HT3 HR3 HB3 HO0 HZ0
  obtain ⟨j,hj,rfl,HO,HA,HP,HT,HR,HB,HZ⟩:=hrel
  have d1:=HP.out.cell (k:=1) rfl
  by_cases hlt:j < ph
  ·have hlti:(j:Int) < (ph:Int):=by omega
   have d0:=HP.out.cell (k:=0) rfl
   have hyH:=HY.out j hlt
   obtain ⟨J1,hJ1⟩:∃ q,j * dy=q:=⟨_,rfl⟩
   have hJb:J1≤256 * 8:=by rw [← hJ1];exact Nat.mul_le_mul (by omega) g8
   have HJN:Hid (pkJ W K bs gx gy dx dy pw (j+1)=pkJ W K bs gx gy dx dy pw j ++ pkI W K bs gx dx (gy+J1) pw):=(show _=_ by rw [pkJ,hJ1])
   have HJL:Hid ((pkJ W K bs gx gy dx dy pw j).length=j * (pw * K)):=(show _=_ from pkJ_len HLM.out HX.out j (fun q hq=>HY.out q (by omega)))
   have hjb:j * (pw * K)≤256 * (256 * 8):=Nat.mul_le_mul (by omega) (Nat.mul_le_mul hpw hK8)
   have j1:(j:Int) * (dy:Int)=(J1:Int):=pixel_fact hJ1
   have j2:IntKind.i64.wrap (J1:Int)=(J1:Int):=wrap_i64_lt J1 (by omega)
   rw [hJ1] at hyH
   obtain ⟨Y,hY⟩:∃ q,gy+J1=q:=⟨_,rfl⟩
   rw [hY] at HJN hyH
   have j3:(gy:Int)+(J1:Int)=(Y:Int):=by omega
   have j4:IntKind.i64.wrap (Y:Int)=(Y:Int):=wrap_i64_lt Y (by omega)
   obtain ⟨T,hT⟩:∃ q,Y * W=q:=⟨_,rfl⟩
   have hTb:T≤256 * 256:=by rw [← hT];exact Nat.mul_le_mul (by omega) hW
   have j5:(Y:Int) * (W:Int)=(T:Int):=pixel_fact hT
   have j6:IntKind.i64.wrap (T:Int)=(T:Int):=wrap_i64_lt T (by omega)
   obtain ⟨U,hU⟩:∃ q,T+gx=q:=⟨_,rfl⟩
   have j7:(T:Int)+(gx:Int)=(U:Int):=by omega
   have j8:IntKind.i64.wrap (U:Int)=(U:Int):=wrap_i64_lt U (by omega)
   have HTU:Hid (Y * W+gx=U):=(show _=_ by rw [hT,hU])
   have HJ0:Hid (pkJ W K bs gx gy dx dy pw j ++ pkI W K bs gx dx Y 0=pkJ W K bs gx gy dx dy pw j):=(show _=_ by simp [pkI])
   have hyH2:Y < H:=hyH
   clear hJ1 hY hT hU hyH
   generalize pkJ W K bs gx gy dx dy pw j=F at *
   have HO':Hid (ownB wr (b0+3) u11 (F ++ pkI W K bs gx dx Y 0)):=(show ownB _ _ _ _ by rw [HJ0.out];exact HO.out)
   go_wp2_with fail
   obtain ⟨wo,rfl⟩:∃ wo:World,wo=wr:=⟨_,rfl⟩
   go_loopw [13,11] (fun vi vo wr=>∃ (i:Nat),i≤pw∧vi=.int .i64 i∧Hid (ownB wr (b0+3) vo (F ++ pkI W K bs gx dx Y i))∧Hid (Arr wr b0 [.int .i64 (W:Int),.int .i64 (H:Int),.int .i64 (C:Int),.int .i64 (D:Int),.slice (some ⟨b,o,none⟩) m c])∧Hid (Arr wr (b0+2) [.int .i64 (pw:Int),.int .i64 (ph:Int),.int .i64 (C:Int),.int .i64 (D:Int)])∧Hid (Arr wr (b0+1) [.int .i64 0,.int .i64 0,.int .i64 0,.int .i64 0])∧Hid (RdB wr B (some ⟨b,o,none⟩) m bs)∧Hid (Below b0 w wr)∧Hid (b0+3≤wr.heap.size)) (fun vi _ _=>pw - (intOf vi).toNat)
   case atStart=>exact ⟨0,Nat.zero_le _,rfl,HO',HA,HP,HT,HR,HB,HZ⟩
   case round =>
    clear HO HO' HA HP HT HR HB HZ d0
    obtain ⟨i,hi,rfl,HO,HA,HP,HT,HR,HB,HZ⟩:=hrel
    have d0:=HP.out.cell (k:=0) rfl
    by_cases hlt2:i < pw
    ·have hlti2:(i:Int) < (pw:Int):=by omega
     have hxW:=HX.out i hlt2
     obtain ⟨I1,hI1⟩:∃ q,i * dx=q:=⟨_,rfl⟩
     have hIb:I1≤256 * 8:=by rw [← hI1];exact Nat.mul_le_mul (by omega) g6
     have HIN:Hid (F ++ pkI W K bs gx dx Y (i+1)=F ++ pkI W K bs gx dx Y i ++ pxF W K bs (gx+I1) Y):=(show _=_ by rw [pkI,hI1,List.append_assoc])
     have HIL:Hid ((pkI W K bs gx dx Y i).length=i * K):=(show _=_ from pkI_len hyH2 HLM.out i (fun q hq=>HX.out q (by omega)))
     have hib:i * K≤256 * 8:=Nat.mul_le_mul (by omega) hK8
     rw [hI1] at hxW
     have hin:=px_in (K:=K) hxW hyH2 HM.out
     have i1:(i:Int) * (dx:Int)=(I1:Int):=pixel_fact hI1
     have i2:IntKind.i64.wrap (I1:Int)=(I1:Int):=wrap_i64_lt I1 (by omega)
     obtain ⟨Q,hQ⟩:∃ q,U+I1=q:=⟨_,rfl⟩
     have i3:(U:Int)+(I1:Int)=(Q:Int):=by omega
     have i4:IntKind.i64.wrap (Q:Int)=(Q:Int):=wrap_i64_lt Q (by omega)
     have hQe:Y * W+(gx+I1)=Q:=by rw [← hQ,← HTU.out];omega
     rw [hQe] at hin
     obtain ⟨P,hP⟩:∃ q,Q * K=q:=⟨_,rfl⟩
     rw [hP] at hin
     have hPb:P≤70000 * 8:=by rw [← hP];exact Nat.mul_le_mul (by omega) hK8
     have i5:(Q:Int) * (K:Int)=(P:Int):=pixel_fact hP
     have i6:IntKind.i64.wrap (P:Int)=(P:Int):=wrap_i64_lt P (by omega)
     have i7:IntKind.i64.wrap ((P:Int)+(K:Int))=(P:Int)+(K:Int):=by rw [show (P:Int)+(K:Int)=((P+K:Nat):Int) by omega];exact wrap_i64_lt _ (by omega)
     have HPX:=Lib.hid (RdB.px (x:=gx+I1) (y:=Y) (W:=W) HR.out (by rw [hQe];exact hP) hin)
     have q1:((P:Int)+(K:Int)).toNat - P=K:=by omega
     have q2:¬ c=P:=by omega
     have q3:P < c:=by omega
     have q4:(P:Int)≤(P:Int)+(K:Int):=by omega
     have q5:(P:Int)+(K:Int)≤(c:Int):=by omega
     have q6:((P:Int)+(K:Int)).toNat=P+K:=by omega
     obtain ⟨Ao,co,rfl,-,-,-⟩:=HO.out.form
     have hFl:(F ++ pkI W K bs gx dx Y i).length+K≤140737488355328:=by rw [List.length_append,HJL.out,HIL.out];omega
     have a0:=HA.out.cell (k:=0) rfl
     have a4:=HA.out.cell (k:=4) rfl
     have hz3:=HZ.out
     have hPQ:(Y * W+(gx+I1)) * K=P:=by rw [hQe];exact hP
     clear hI1 hQ hQe hP hin hib hIb hPb
     generalize F ++ pkI W K bs gx dx Y i=G at *
     obtain ⟨XX,hXX⟩:∃ q,gx+I1=q:=⟨_,rfl⟩
     rw [hXX] at HPX HIN hxW hPQ
     have i8:(gx:Int)+(I1:Int)=(XX:Int):=by omega
     have i9:IntKind.i64.wrap (XX:Int)=(XX:Int):=wrap_i64_lt XX (by omega)
     have HPX1:=Lib.hid (HPX0.out XX Y P b o (XX:Int) (Y:Int) wr rfl rfl hxW hyH2 hPQ)
     have a1:=HA.out.cell (k:=1) rfl
     have a2:=HA.out.cell (k:=2) rfl
     have a3:=HA.out.cell (k:=3) rfl
     clear hXX hPQ i3 i4 i5 i6 i7 q1 q2 q3 q4 q5 q6 j5 j6 j7 j8
     go_wp2_with (first
      | (go_at_call 92;(with_reducible refine HPX1.out.mono ?_);go_must (rintro e w4 ⟨rfl,hb4⟩;have hz4:=hb4.size;have HO4:=Lib.hid (HO.out.later hb4);have HA4:=Lib.hid (HA.out.later hb4);have HP4:=Lib.hid (HP.out.later hb4);have HT4:=Lib.hid (HT.out.later hb4);have HR4:=Lib.hid (RdB.blw HR.out (hb4.mono (by omega)));have HX4:=Lib.hid (RdB.blw HPX.out (hb4.mono (by omega)));have HB4:=Lib.hid (HB.out.trans (hb4.mono (by omega)));have hz5:b0+3≤w4.heap.size:=(by omega);clear hb4))
      | (at_builtin;(refine wpList_appendB rfl (.tmp 44) (.tmp 56) rfl (b0+3) (.slice Ao G.length co) G rfl HO4.out B K _ (some ⟨b,o+P,none⟩) (pxF W K bs XX Y) rfl HX4.out hFl hz5 ?_;intro v5 w5 ho5 hg5 hb5 ha5;rw [← HIN.out] at ho5;have HO5:=Lib.hid ho5;have HA5:=Lib.hid (HA4.out.blw hb5 (by omega));have HP5:=Lib.hid (HP4.out.blw hb5 (by omega));have HT5:=Lib.hid (HT4.out.blw hb5 (by omega));have HR5:=Lib.hid (RdB.blw HR4.out (hb5.mono (by omega)));have HB5:=Lib.hid (HB4.out.trans (hb5.mono (by omega)));have HZ5:Hid (b0+3≤w5.heap.size):=(Nat.le_trans hz5 hb5.size);clear ho5 hg5 hb5 ha5)))
     go_roundw
     case rel=>exact ⟨i+1,by omega,by go_num,HO5,HA5,HP5,HT5,HR5,HB5,HZ5⟩
     case measure=>simp [intOf];omega
    ·obtain rfl:i=pw:=by omega
     have hlti2:¬ (i:Int) < (i:Int):=by omega
     rw [← HJN.out] at HO
     go_wp2_with fail
     go_roundw
     case rel=>exact ⟨j+1,by omega,by go_num,HO,HA,HP,HT,HR,HB,HZ⟩
     case measure=>simp [intOf];omega
  ·obtain rfl:j=ph:=by omega
   have hlti:¬ (j:Int) < (j:Int):=by omega
   obtain ⟨Ao,co,rfl,-,-,-⟩:=HO.out.form
   obtain ⟨F,hF⟩:∃ F,pkJ W K bs gx gy dx dy pw j=F:=⟨_,rfl⟩
   have HF:=Lib.hid hF
   rw [hF] at HO
   simp only [hF]
   clear hF
   have e0:=HP.out.cell (k:=0) rfl
   have e1:=HP.out.cell (k:=1) rfl
   have e2:=HP.out.cell (k:=2) rfl
   have e3:=HP.out.cell (k:=3) rfl
   have t0:=HT.out.cell (k:=0) rfl
   have t1:=HT.out.cell (k:=1) rfl
   have t2:=HT.out.cell (k:=2) rfl
   have t3:=HT.out.cell (k:=3) rfl
   have f0:=HT.out.frozen 0
   have f1:=HT.out.frozen 1
   have f2:=HT.out.frozen 2
   have f3:=HT.out.frozen 3
   go_wp2_with fail
   refine bodyPost_ret (v:=.tuple #[.agg #[.int .i64 (pw:Int),.int .i64 (j:Int),.int .i64 (C:Int),.int .i64 (D:Int)],.slice Ao F.length co]) ?_ rfl ?_
   ·unfold results
    go_simp
   ·have n1:=ownB_ne HO.out (g:=b0+1) (by omega)
    refine ⟨Ao,F.length,co,rfl,?_,?_⟩
    ·rw [HF.out]
     exact ((((HO.out.far n1 _ _).far n1 _ _).far n1 _ _).far n1 _ _).mono (base':=b0) (by omega)
    ·exact (((HB.out.setCell (by show b0≤b0+1;omega) _).setCell (by show b0≤b0+1;omega) _).setCell (by show b0≤b0+1;omega) _).setCell (by show b0≤b0+1;omega) _
end Go.Proofs.YteoolehdomjkkaaGreat

/- png: the document's chunks. -/
namespace Go.Proofs.YteoolehdomjkkaaGreat
set_option linter.all false
open Go.RowKit
set_option maxRecDepth 100000 in
theorem big9_any (x:Nat) (h:x < 4294967296) (w:World):Calls Tryz.prog 87 #[.int .i64 (x:Int)] w fun e w'=>∃ v,e=.returned v∧ownB w' w.heap.size v (beB x 4)∧Below w.heap.size w w':=by
 have HB:=bigR_any (x:Int) 4 w
 rw [(big4e h).1] at HB
 replace HB:=Lib.hid HB
 go_enter Tryz.func87,Tryz.ntmps87
 go_wp2_with (go_at_call 74;(with_reducible refine HB.out.mono ?_);go_must (rintro e w1 ⟨v1,rfl,ho1,hb1⟩;have HO1:=Lib.hid ho1;have HB1:=Lib.hid hb1;clear ho1 hb1))
 go_ret
 exact ⟨v1,rfl,HO1.out,HB1.out⟩
/-- A chunk's bytes. -/
def chP (ks data:List UInt8):List UInt8:=beB data.length 4 ++ (ks ++ data) ++ beB (crc (ks ++ data)) 4
theorem ckL_eq (out ks data:List UInt8):ckL out ks data=out ++ chP ks data:=by
 unfold ckL layL chP
 simp only [List.append_assoc]
set_option maxRecDepth 100000 in
set_option maxHeartbeats 3200000 in
theorem chunk9_any (B m c2:Nat) (A:Option Addr) (data ks:List UInt8) (S:ByteArray) (w:World) (hS:S.data.toList=ks) (hks:ks.length=4) (hr:RdB w B A m data) (hB:B≤w.heap.size) (hm:m≤1000000) :
  Calls Tryz.prog 89 #[.string S,.slice A m c2] w fun e w'=>∃ v,e=.returned v∧ownB w' w.heap.size v (chP ks data)∧Below w.heap.size w w':=by
 have hS4:S.size=4:=by show S.data.size=4;rw [← Array.length_toList,hS];exact hks
 obtain ⟨cap,w2,hconv,hb2,hz2,hrow2⟩:=conv_row w S
 rw [hS4] at hconv hrow2
 rw [hS] at hrow2
 have hl:=hr.len
 have HR2:=Lib.hid (hr.blw (hb2.mono hB))
 have HB2:=Lib.hid hb2
 have hzs:=hb2.size
 have HW2:=Lib.hid hrow2
 have HBN:=Lib.hid (fun w=>big9_any m (by omega) w)
 have hx:=crc_lt (ks ++ data)
 have HBC:=Lib.hid (fun w=>big9_any (crc (ks ++ data)) hx w)
 have HCH:Hid (chP ks data=beB m 4 ++ (ks ++ data) ++ beB (crc (ks ++ data)) 4):=(show _=_ by unfold chP;rw [hl])
 have HCR:=Lib.hid (fun w1 b c' (h:RdB w1 (b+1) (some ⟨b,0,none⟩) (4+m) (ks ++ data))=>crcR_any (b+1) (4+m) c' (some ⟨b,0,none⟩) (ks ++ data) w1 h (by omega))
 have h4:(beB m 4).length=4:=beB_len _ _
 have h5:(beB (crc (ks ++ data)) 4).length=4:=beB_len _ _
 generalize chP ks data=CP at *
 generalize beB (crc (ks ++ data)) 4=bc at *
 generalize crc (ks ++ data)=X at *
 generalize beB m 4=bn at *
 have HN4:=Lib.hid h4
 have HC4:=Lib.hid h5
 clear hr hb2 hrow2 h4 h5
 go_enter Tryz.func89,Tryz.ntmps89
 have hxw:IntKind.i64.wrap (X:Int)=(X:Int):=wrap_i64_lt X (by omega)
 go_wp2_with (first
  | (go_at_call 139;(with_reducible refine HCR5.out.mono ?_);go_must (rintro e w9 ⟨rfl,rfl⟩))
  | (go_at_call 87;(with_reducible refine (HBC.out _).mono ?_);go_must (rintro e w6 ⟨v6,rfl,ho6,hb6⟩;obtain ⟨A6,c6,hv6,hr6,-,-⟩:=ho6.form;rw [HC4.out] at hv6 hr6;subst hv6;have HR6:=Lib.hid hr6;have hz6:=hb6.size;have HO6:=Lib.hid (HO5.out.later hb6);have HB6:=Lib.hid (HB5.out.trans (hb6.mono (by omega)));have hq6:w.heap.size≤w6.heap.size:=(by omega);clear ho6 hb6 hr6))
  | (go_at_call 87;(with_reducible refine (HBN.out _).mono ?_);go_must (rintro e w4 ⟨v4,rfl,ho4,hb4⟩;obtain ⟨A4,c4,hv4,-,-,-⟩:=ho4.form;rw [HN4.out] at hv4;subst hv4;have HO4:=Lib.hid ho4;have hz4:=hb4.size;have HD4:=Lib.hid (HD3.out.later hb4);have HB4:=Lib.hid (HB3.out.trans (hb4.mono (by omega)));have hq4:w.heap.size≤w4.heap.size:=(by omega);clear ho4 hb4))
  | (at_builtin;(refine wpList_appendB rfl (.tmp 14) (.tmp 18) rfl w.heap.size v5 (bn ++ (ks ++ data)) rfl HO6.out _ 4 c6 A6 bc rfl HR6.out (by rw [List.length_append,List.length_append,HN4.out,hks,hl];omega) hq6 ?_;intro v7 w7 ho7 hg7 hb7 ha7;rw [← HCH.out] at ho7;have HO7:=Lib.hid ho7;have HB7:=Lib.hid (HB6.out.trans hb7);clear ho7 hg7 hb7 ha7))
  | (at_builtin;(refine wpList_appendB rfl (.tmp 12) (.tmp 13) rfl w.heap.size (.slice A4 4 c4) bn rfl (HO4.out.mono (by omega)) (b+1) (4+m) c3 (some ⟨b,0,none⟩) (ks ++ data) rfl HD4.out.rd (by rw [HN4.out];omega) hq4 ?_;intro v5 w5 ho5 hg5 hb5 ha5;have HD5:=HD4.out.keep (hg5.block b HD4.out.lt (fun e=>by have:=(World.ownsRow.lt HO4.out b e.symm).1;omega));have HO5:=Lib.hid ho5;have hz5:=hb5.size;have HB5:=Lib.hid (HB4.out.trans hb5);have HCR5:=Lib.hid (HCR.out w5 b c3 HD5.rd);clear ho5 hg5 hb5 ha5 HD5))
  | (at_builtin;(refine wpList_appendM rfl (.tmp 7) (.tmp 8) rfl w.heap.size 4 cap ks rfl HW2.out B m c2 A data rfl HR2.out (by omega) ?_;intro b c3 w3 hr3 hg3 ha3;have hz3:=hg3.size;have hbw:=hr3.lt;have hb3:w.heap.size≤b:=(by omega);have HD3:=Lib.hid hr3;have HB3:Hid (Below w.heap.size w w3):=(show Below _ _ _ from Below.grown HB2.out hg3 (by omega) (fun k hk=>by injection hk with hk;omega));clear hr3 hg3 ha3)))
 go_ret
 exact ⟨v7,rfl,HO7.out,HB7.out⟩
end Go.Proofs.YteoolehdomjkkaaGreat

/- png: the document's file of rows. -/
namespace Go.Proofs.YteoolehdomjkkaaGreat
set_option linter.all false
open Go.RowKit
theorem packK5_any (B n c:Nat) (A:Option Addr) (bs:List UInt8) (w:World) (h:RdB w B A n bs) (hB:B≤w.heap.size) (hn:n≤40000) :
  Calls Tryz.prog 33 #[.slice A n c] w fun e w'=>∃ v l,e=.returned (.tuple #[v,.int .i64 0])∧ownB w' w.heap.size v l∧PK bs l∧Below w.heap.size w w':=by
 obtain ⟨S,hS,hS4⟩:=big4 (adler_lt bs)
 refine (pack5_any B n c A bs S w h hB hn hS hS4).mono ?_
 rintro e w' ⟨v,bz,he,ho,hw,hb⟩
 exact ⟨v,_,he,ho,⟨bz,S,rfl,hw,big4b0 (adler_lt bs) hS⟩,hb⟩
theorem colour_cell (w:World) (C:Nat) (hC:1≤C∧C≤4):(w.alloc (.cells #[.int .u8 0,.int .u8 4,.int .u8 2,.int .u8 6] 5)).cell? ⟨w.heap.size,C - 1,none⟩=some (.int .u8 ((colV C).toNat:Int)):=by
 rw [cell_of_row (w.alloc (.cells #[.int .u8 0,.int .u8 4,.int .u8 2,.int .u8 6] 5)) w.heap.size _ #[.int .u8 0,.int .u8 4,.int .u8 2,.int .u8 6] 5 (0,0) (heap_alloc_new w _)]
 rcases (show C=1∨C=2∨C=3∨C=4 by omega) with rfl | rfl | rfl | rfl <;> rfl
end Go.Proofs.YteoolehdomjkkaaGreat

