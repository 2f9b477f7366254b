/- XPkP XPg3 XPng5 XPg4 -/
import Derived.Test.YteoolehdomjkkaaGreatMe35
import Derived.Test.YteoolehdomjkkaaGreatMe37
import Derived.Test.YteoolehdomjkkaaGreatMe36
namespace Go.Proofs.YteoolehdomjkkaaGreat
set_option linter.all false
def pxF (W K:Nat) (bs:List UInt8) (x y:Nat):List UInt8:=(bs.drop ((y * W+x) * K)).take K
def pkI (W K:Nat) (bs:List UInt8) (x0 dx y:Nat):Nat→List UInt8
 | 0=>[]
 | i+1=>pkI W K bs x0 dx y i ++ pxF W K bs (x0+i * dx) y
def pkJ (W K:Nat) (bs:List UInt8) (x0 y0 dx dy pw:Nat):Nat→List UInt8
 | 0=>[]
 | j+1=>pkJ W K bs x0 y0 dx dy pw j ++ pkI W K bs x0 dx (y0+j * dy) pw
theorem px_in {W H K x y m:Nat} (hx:x < W) (hy:y < H) (hm:m=H * (W * K)):(y * W+x) * K+K≤m:=by
 rw [hm,← Nat.mul_assoc]
 have h1:y * W+x+1≤H * W:=by
  have:(y+1) * W≤H * W:=Nat.mul_le_mul_right W hy
  rw [Nat.succ_mul] at this
  omega
 have h2:=Nat.mul_le_mul_right K h1
 rw [Nat.succ_mul] at h2
 exact h2
theorem pkI_len {W H K x0 dx y:Nat} {bs:List UInt8} (hy:y < H) (hm:bs.length=H * (W * K)):∀ i,(∀ q,q < i→x0+q * dx < W)→(pkI W K bs x0 dx y i).length=i * K
 | 0,_=>by simp [pkI]
 | i+1,h=>by
  have:=px_in (K:=K) (h i (by omega)) hy hm
  rw [pkI,List.length_append,pkI_len hy hm i (fun q hq=>h q (by omega)),Nat.succ_mul]
  unfold pxF
  rw [List.length_take,List.length_drop]
  omega
theorem pkJ_len {W H K x0 y0 dx dy pw:Nat} {bs:List UInt8} (hm:bs.length=H * (W * K)) (hx:∀ q,q < pw→x0+q * dx < W):∀ j,(∀ q,q < j→y0+q * dy < H)→(pkJ W K bs x0 y0 dx dy pw j).length=j * (pw * K)
 | 0,_=>by simp [pkJ]
 | j+1,h=>by
  rw [pkJ,List.length_append,pkJ_len hm hx j (fun q hq=>h q (by omega)),pkI_len (h j (by omega)) hm pw hx,Nat.succ_mul]
theorem cw_in {n x d i:Nat} (hd:1≤d) (h:i < cw n x d):x+i * d < n:=by
 unfold cw at h
 have h1:(i+1) * d≤n - x+d - 1:=by
  have:=(Nat.le_div_iff_mul_le (show 0 < d by omega)).1 (show i+1≤_ from h)
  exact this
 rw [Nat.succ_mul] at h1
 omega
theorem pass_in {W H k:Nat}:(∀ i,i < passW W H k→(gT k).1.1+i * (gT k).2.1 < W)∧(∀ j,j < passH W H k→(gT k).1.2+j * (gT k).2.2 < H):=by
 obtain ⟨_,_,_,_,h5,_,h7,_⟩:=gT_ok k
 unfold passW passH
 split
 ·exact ⟨fun i h=>absurd h (by omega),fun i h=>absurd h (by omega)⟩
 ·exact ⟨fun i h=>cw_in h5 h,fun i h=>cw_in h7 h⟩
end Go.Proofs.YteoolehdomjkkaaGreat

/- png: the pixels of a pass taken. -/
namespace Go.Proofs.YteoolehdomjkkaaGreat
set_option linter.all false
open Go.RowKit
theorem pixel_fact {a b c:Nat} (h:a * b=c):(a:Int) * (b:Int)=(c:Int):=by rw [← h];push_cast;rfl
theorem RdB.px {w:World} {B m K q b o x y W:Nat} {bs:List UInt8} (h:RdB w B (some ⟨b,o,none⟩) m bs) (hq:(y * W+x) * K=q) (hf:q+K≤m):RdB w B (some ⟨b,o+q,none⟩) K (pxF W K bs x y):=by
 unfold pxF
 rw [hq]
 refine RdB.cut h hf (fun _=>?_)
 simp [Addr.add]
set_option maxRecDepth 100000 in
set_option maxHeartbeats 6400000 in
theorem pick_any (W H C D K m c B pw ph k:Nat) (A:Option Addr) (bs:List UInt8) (w:World) (hW:W≤256) (hH:H≤256) (hC:C≤4) (hD:D≤16) (hK:C * D=8 * K) (hK1:1≤K) (h:RdB w B A m bs) (hB:B≤w.heap.size) (hm:m=H * (W * K)) (hm1:1≤m) (hcap:m≤c) (hk:1≤k∧k≤7) (hpw:pw≤256) (hph:ph≤256)
  (hx:∀ i,i < pw→(gT k).1.1+i * (gT k).2.1 < W) (hy:∀ j,j < ph→(gT k).1.2+j * (gT k).2.2 < H) :
  Calls Tryz.prog 48 #[.agg #[.int .i64 (W:Int),.int .i64 (H:Int),.int .i64 (C:Int),.int .i64 (D:Int),.slice A m c],.int .i64 (k:Int),.agg #[.int .i64 (pw:Int),.int .i64 (ph:Int),.int .i64 (C:Int),.int .i64 (D:Int)]] w fun e w'=>∃ A' n' c',e=.returned (.agg #[.int .i64 (pw:Int),.int .i64 (ph:Int),.int .i64 (C:Int),.int .i64 (D:Int),.slice A' n' c'])∧ownB w' w.heap.size (.slice A' n' c') (pkJ W K bs (gT k).1.1 (gT k).1.2 (gT k).2.1 (gT k).2.2 pw ph)∧Below w.heap.size w w':=by
 have hK8:K≤8:=by
  have:C * D≤4 * 16:=Nat.mul_le_mul hC hD
  omega
 have HG:=Lib.hid (fun w=>grid_any k hk.1 hk.2 w)
 obtain ⟨_,_,_,_,g5,g6,g7,g8⟩:=gT_ok k
 have g1:(gT k).1.1≤4:=(gT_ok k).1
 have g2:(gT k).1.2≤4:=(gT_ok k).2.1
 generalize (gT k).1.1=gx at *
 generalize (gT k).1.2=gy at *
 generalize (gT k).2.1=dx at *
 generalize (gT k).2.2=dy at *
 have hlen:bs.length=m:=h.len
 have HLM:=Lib.hid (hlen.trans hm)
 have HM:=Lib.hid hm
 have HX:=Lib.hid hx
 have HY:=Lib.hid hy
 have HBP:=Lib.hid (fun w=>bpp_any (W:Int) (H:Int) C D K hC hD hK w)
 obtain ⟨b,o,rfl,hb,-⟩:=h.at_ (by omega)
 obtain ⟨b0,hb0⟩:∃ b,w.heap.size=b:=⟨_,rfl⟩
 rw [hb0] at hB
 obtain ⟨w1,hw1⟩:∃ w1,((w.alloc (.cells #[.int .i64 (W:Int),.int .i64 (H:Int),.int .i64 (C:Int),.int .i64 (D:Int),.slice (some ⟨b,o,none⟩) m c] 26)).alloc (.cells #[.int .i64 (pw:Int),.int .i64 (ph:Int),.int .i64 (C:Int),.int .i64 (D:Int)] 23)).alloc (.cells #[.int .i64 0,.int .i64 0,.int .i64 0,.int .i64 0,.slice none 0 0] 26)=w1:=⟨_,rfl⟩
 have z0:(w.alloc (.cells #[.int .i64 (W:Int),.int .i64 (H:Int),.int .i64 (C:Int),.int .i64 (D:Int),.slice (some ⟨b,o,none⟩) m c] 26)).heap.size=b0+1:=by rw [World.size_alloc,hb0]
 have z1:((w.alloc (.cells #[.int .i64 (W:Int),.int .i64 (H:Int),.int .i64 (C:Int),.int .i64 (D:Int),.slice (some ⟨b,o,none⟩) m c] 26)).alloc (.cells #[.int .i64 (pw:Int),.int .i64 (ph:Int),.int .i64 (C:Int),.int .i64 (D:Int)] 23)).heap.size=b0+2:=by rw [World.size_alloc,z0]
 have z2:w1.heap.size=b0+3:=by rw [← hw1,World.size_alloc,z1]
 have HA1:Hid (Arr w1 b0 [.int .i64 (W:Int),.int .i64 (H:Int),.int .i64 (C:Int),.int .i64 (D:Int),.slice (some ⟨b,o,none⟩) m c]):=(show Arr _ _ _ by rw [← hw1,← hb0];exact ((Arr.new w [.int .i64 (W:Int),.int .i64 (H:Int),.int .i64 (C:Int),.int .i64 (D:Int),.slice (some ⟨b,o,none⟩) m c] _).alloc _).alloc _)
 have HP1:Hid (Arr w1 (b0+1) [.int .i64 (pw:Int),.int .i64 (ph:Int),.int .i64 (C:Int),.int .i64 (D:Int)]):=(show Arr _ _ _ by rw [← hw1,← z0];exact (Arr.new _ [.int .i64 (pw:Int),.int .i64 (ph:Int),.int .i64 (C:Int),.int .i64 (D:Int)] _).alloc _)
 have HT1:Hid (Arr w1 (b0+2) [.int .i64 0,.int .i64 0,.int .i64 0,.int .i64 0,.slice none 0 0]):=(show Arr _ _ _ by rw [← hw1,← z1];exact Arr.new _ [.int .i64 0,.int .i64 0,.int .i64 0,.int .i64 0,.slice none 0 0] _)
 have HR1:Hid (RdB w1 B (some ⟨b,o,none⟩) m bs):=(show RdB _ _ _ _ _ by rw [← hw1];exact Rd.alloc (Rd.alloc (Rd.alloc h (by omega) _) (by omega) _) (by omega) _)
 have HB1:Hid (Below b0 w w1):=(show Below _ _ _ by rw [← hw1,← hb0];exact (((Below.refl w.heap.size w).alloc (Nat.le_refl _) _).alloc (by simp) _).alloc (by simp;omega) _)
 have a0:=HA1.out.cell (k:=0) rfl
 have a1:=HA1.out.cell (k:=1) rfl
 have a2:=HA1.out.cell (k:=2) rfl
 have a3:=HA1.out.cell (k:=3) rfl
 clear h hK hm hx hy hlen
 go_enter Tryz.func48,Tryz.ntmps48
 simp only [hw1,hb0,z0,z1]
 go_wp2_with (first
  | (go_at_call 51;(with_reducible refine (HG.out _).mono ?_);go_must (rintro e w2 ⟨rfl,hb2⟩;have hz2:=hb2.size;have HA2:=Lib.hid (HA1.out.later hb2);have HP2:=Lib.hid (HP1.out.later hb2);have HT2:=Lib.hid (HT1.out.later hb2);have HR2:=Lib.hid (RdB.blw HR1.out (hb2.mono (by omega)));have HB2:=Lib.hid (HB1.out.trans (hb2.mono (by omega)));have c0:=HA2.out.cell (k:=0) rfl;have c1:=HA2.out.cell (k:=1) rfl;have c2:=HA2.out.cell (k:=2) rfl;have c3:=HA2.out.cell (k:=3) rfl;clear hb2 a0 a1 a2 a3))
  | (go_at_call 83;(with_reducible refine (HBP.out _).mono ?_);go_must (rintro e w3 ⟨rfl,hb3⟩;have hz3:=hb3.size;have HA3:=Lib.hid (HA2.out.later hb3);have HP3:=Lib.hid (HP2.out.later hb3);have HT3:=Lib.hid (HT2.out.later hb3);have HR3:=Lib.hid (RdB.blw HR2.out (hb3.mono (by omega)));have HB3:=Lib.hid (HB2.out.trans (hb3.mono (by omega)));have d1:=HP3.out.cell (k:=1) rfl;clear hb3 c0 c1 c2 c3)))
 clear hw1 z0 z1 HA1 HP1 HT1 HR1 HB1 HA2 HP2 HT2 HR2 HB2
 have HO0:=Lib.hid (ownB.nil_ w3 (b0+3))
 have HZ0:Hid (b0+3≤w3.heap.size):=(show _≤_ by omega)
 go_loopw [28,12] (fun vj vo wr=>∃ (j:Nat),j≤ph∧vj=.int .i64 j∧Hid (ownB wr (b0+3) vo (pkJ W K bs gx gy dx dy pw j))∧Hid (Arr wr b0 [.int .i64 (W:Int),.int .i64 (H:Int),.int .i64 (C:Int),.int .i64 (D:Int),.slice (some ⟨b,o,none⟩) m c])∧Hid (Arr wr (b0+1) [.int .i64 (pw:Int),.int .i64 (ph:Int),.int .i64 (C:Int),.int .i64 (D:Int)])∧Hid (Arr wr (b0+2) [.int .i64 0,.int .i64 0,.int .i64 0,.int .i64 0,.slice none 0 0])∧Hid (RdB wr B (some ⟨b,o,none⟩) m bs)∧Hid (Below b0 w wr)∧Hid (b0+3≤wr.heap.size)) (fun vj _ _=>ph - (intOf vj).toNat)
 case atStart=>exact ⟨0,Nat.zero_le _,rfl,HO0,HA3,HP3,HT3,HR3,HB3,HZ0⟩
 case round =>
  clear HA3 HP3 HT3 HR3 HB3 HO0 HZ0 d1
  obtain ⟨j,hj,rfl,HO,HA,HP,HT,HR,HB,HZ⟩:=hrel
  by_cases hlt:j < ph
  ·have hlti:(j:Int) < (ph:Int):=by omega
   have d0:=HP.out.cell (k:=0) rfl
   have hyH:=HY.out j hlt
   obtain ⟨J1,hJ1⟩:∃ q,j * dy=q:=⟨_,rfl⟩
   have hJb:J1≤256 * 8:=by rw [← hJ1];exact Nat.mul_le_mul (by omega) g8
   have HJN:Hid (pkJ W K bs gx gy dx dy pw (j+1)=pkJ W K bs gx gy dx dy pw j ++ pkI W K bs gx dx (gy+J1) pw):=(show _=_ by rw [pkJ,hJ1])
   have HJL:Hid ((pkJ W K bs gx gy dx dy pw j).length=j * (pw * K)):=(show _=_ from pkJ_len HLM.out HX.out j (fun q hq=>HY.out q (by omega)))
   have hjb:j * (pw * K)≤256 * (256 * 8):=Nat.mul_le_mul (by omega) (Nat.mul_le_mul hpw hK8)
   have j1:(j:Int) * (dy:Int)=(J1:Int):=pixel_fact hJ1
   have j2:IntKind.i64.wrap (J1:Int)=(J1:Int):=wrap_i64_lt J1 (by omega)
   rw [hJ1] at hyH
   obtain ⟨Y,hY⟩:∃ q,gy+J1=q:=⟨_,rfl⟩
   rw [hY] at HJN hyH
   have j3:(gy:Int)+(J1:Int)=(Y:Int):=by omega
   have j4:IntKind.i64.wrap (Y:Int)=(Y:Int):=wrap_i64_lt Y (by omega)
   obtain ⟨T,hT⟩:∃ q,Y * W=q:=⟨_,rfl⟩
   have hTb:T≤256 * 256:=by rw [← hT];exact Nat.mul_le_mul (by omega) hW
   have j5:(Y:Int) * (W:Int)=(T:Int):=pixel_fact hT
   have j6:IntKind.i64.wrap (T:Int)=(T:Int):=wrap_i64_lt T (by omega)
   obtain ⟨U,hU⟩:∃ q,T+gx=q:=⟨_,rfl⟩
   have j7:(T:Int)+(gx:Int)=(U:Int):=by omega
   have j8:IntKind.i64.wrap (U:Int)=(U:Int):=wrap_i64_lt U (by omega)
   have HTU:Hid (Y * W+gx=U):=(show _=_ by rw [hT,hU])
   have HJ0:Hid (pkJ W K bs gx gy dx dy pw j ++ pkI W K bs gx dx Y 0=pkJ W K bs gx gy dx dy pw j):=(show _=_ by simp [pkI])
   have hyH2:Y < H:=hyH
   clear hJ1 hY hT hU hyH
   generalize pkJ W K bs gx gy dx dy pw j=F at *
   have HO':Hid (ownB wr (b0+3) u12 (F ++ pkI W K bs gx dx Y 0)):=(show ownB _ _ _ _ by rw [HJ0.out];exact HO.out)
   go_wp2_with fail
   obtain ⟨wo,rfl⟩:∃ wo:World,wo=wr:=⟨_,rfl⟩
   go_loopw [33,12] (fun vi vo wr=>∃ (i:Nat),i≤pw∧vi=.int .i64 i∧Hid (ownB wr (b0+3) vo (F ++ pkI W K bs gx dx Y i))∧Hid (Arr wr b0 [.int .i64 (W:Int),.int .i64 (H:Int),.int .i64 (C:Int),.int .i64 (D:Int),.slice (some ⟨b,o,none⟩) m c])∧Hid (Arr wr (b0+1) [.int .i64 (pw:Int),.int .i64 (ph:Int),.int .i64 (C:Int),.int .i64 (D:Int)])∧Hid (Arr wr (b0+2) [.int .i64 0,.int .i64 0,.int .i64 0,.int .i64 0,.slice none 0 0])∧Hid (RdB wr B (some ⟨b,o,none⟩) m bs)∧Hid (Below b0 w wr)∧Hid (b0+3≤wr.heap.size)) (fun vi _ _=>pw - (intOf vi).toNat)
   case atStart=>exact ⟨0,Nat.zero_le _,rfl,HO',HA,HP,HT,HR,HB,HZ⟩
   case round =>
    clear HO HO' HA HP HT HR HB HZ d0
    obtain ⟨i,hi,rfl,HO,HA,HP,HT,HR,HB,HZ⟩:=hrel
    by_cases hlt2:i < pw
    ·have hlti2:(i:Int) < (pw:Int):=by omega
     have hxW:=HX.out i hlt2
     obtain ⟨I1,hI1⟩:∃ q,i * dx=q:=⟨_,rfl⟩
     have hIb:I1≤256 * 8:=by rw [← hI1];exact Nat.mul_le_mul (by omega) g6
     have HIN:Hid (F ++ pkI W K bs gx dx Y (i+1)=F ++ pkI W K bs gx dx Y i ++ pxF W K bs (gx+I1) Y):=(show _=_ by rw [pkI,hI1,List.append_assoc])
     have HIL:Hid ((pkI W K bs gx dx Y i).length=i * K):=(show _=_ from pkI_len hyH2 HLM.out i (fun q hq=>HX.out q (by omega)))
     have hib:i * K≤256 * 8:=Nat.mul_le_mul (by omega) hK8
     rw [hI1] at hxW
     have hin:=px_in (K:=K) hxW hyH2 HM.out
     have i1:(i:Int) * (dx:Int)=(I1:Int):=pixel_fact hI1
     have i2:IntKind.i64.wrap (I1:Int)=(I1:Int):=wrap_i64_lt I1 (by omega)
     obtain ⟨Q,hQ⟩:∃ q,U+I1=q:=⟨_,rfl⟩
     have i3:(U:Int)+(I1:Int)=(Q:Int):=by omega
     have i4:IntKind.i64.wrap (Q:Int)=(Q:Int):=wrap_i64_lt Q (by omega)
     have hQe:Y * W+(gx+I1)=Q:=by rw [← hQ,← HTU.out];omega
     rw [hQe] at hin
     obtain ⟨P,hP⟩:∃ q,Q * K=q:=⟨_,rfl⟩
     rw [hP] at hin
     have hPb:P≤70000 * 8:=by rw [← hP];exact Nat.mul_le_mul (by omega) hK8
     have i5:(Q:Int) * (K:Int)=(P:Int):=pixel_fact hP
     have i6:IntKind.i64.wrap (P:Int)=(P:Int):=wrap_i64_lt P (by omega)
     have i7:IntKind.i64.wrap ((P:Int)+(K:Int))=(P:Int)+(K:Int):=by rw [show (P:Int)+(K:Int)=((P+K:Nat):Int) by omega];exact wrap_i64_lt _ (by omega)
     have HPX:=Lib.hid (RdB.px (x:=gx+I1) (y:=Y) (W:=W) HR.out (by rw [hQe];exact hP) hin)
     have q1:((P:Int)+(K:Int)).toNat - P=K:=by omega
     have q2:¬ c=P:=by omega
     have q3:P < c:=by omega
     have q4:(P:Int)≤(P:Int)+(K:Int):=by omega
     have q5:(P:Int)+(K:Int)≤(c:Int):=by omega
     have q6:((P:Int)+(K:Int)).toNat=P+K:=by omega
     obtain ⟨Ao,co,rfl,-,-,-⟩:=HO.out.form
     have hFl:(F ++ pkI W K bs gx dx Y i).length+K≤140737488355328:=by rw [List.length_append,HJL.out,HIL.out];omega
     have a0:=HA.out.cell (k:=0) rfl
     have a4:=HA.out.cell (k:=4) rfl
     have hz3:=HZ.out
     clear hI1 hQ hQe hP hin hib hIb hPb
     generalize F ++ pkI W K bs gx dx Y i=G at *
     go_wp2_with (at_builtin;go_must (refine wpList_appendB rfl (.tmp 53) (.tmp 60) rfl (b0+3) (.slice Ao G.length co) G rfl HO.out B K _ (some ⟨b,o+P,none⟩) (pxF W K bs (gx+I1) Y) rfl HPX.out hFl hz3 ?_;intro v5 w5 ho5 hg5 hb5 ha5;rw [← HIN.out] at ho5;have HO5:=Lib.hid ho5;have HA5:=Lib.hid (HA.out.blw hb5 (by omega));have HP5:=Lib.hid (HP.out.blw hb5 (by omega));have HT5:=Lib.hid (HT.out.blw hb5 (by omega));have HR5:=Lib.hid (RdB.blw HR.out (hb5.mono (by omega)));have HB5:=Lib.hid (HB.out.trans (hb5.mono (by omega)));have HZ5:Hid (b0+3≤w5.heap.size):=(Nat.le_trans hz3 hb5.size);clear ho5 hg5 hb5 ha5))
     go_roundw
     case rel=>exact ⟨i+1,by omega,by go_num,HO5,HA5,HP5,HT5,HR5,HB5,HZ5⟩
     case measure=>simp [intOf];omega
    ·obtain rfl:i=pw:=by omega
     have hlti2:¬ (i:Int) < (i:Int):=by omega
     rw [← HJN.out] at HO
     go_wp2_with fail
     go_roundw
     case rel=>exact ⟨j+1,by omega,by go_num,HO,HA,HP,HT,HR,HB,HZ⟩
     case measure=>simp [intOf];omega
  ·obtain rfl:j=ph:=by omega
   have hlti:¬ (j:Int) < (j:Int):=by omega
   obtain ⟨Ao,co,rfl,-,-,-⟩:=HO.out.form
   obtain ⟨F,hF⟩:∃ F,pkJ W K bs gx gy dx dy pw j=F:=⟨_,rfl⟩
   have HF:=Lib.hid hF
   rw [hF] at HO
   simp only [hF]
   clear hF
   have e0:=HP.out.cell (k:=0) rfl
   have e1:=HP.out.cell (k:=1) rfl
   have e2:=HP.out.cell (k:=2) rfl
   have e3:=HP.out.cell (k:=3) rfl
   have t0:=HT.out.cell (k:=0) rfl
   have t1:=HT.out.cell (k:=1) rfl
   have t2:=HT.out.cell (k:=2) rfl
   have t3:=HT.out.cell (k:=3) rfl
   have t4:=HT.out.cell (k:=4) rfl
   have f0:=HT.out.frozen 0
   have f1:=HT.out.frozen 1
   have f2:=HT.out.frozen 2
   have f3:=HT.out.frozen 3
   have f4:=HT.out.frozen 4
   go_wp2_with fail
   refine bodyPost_ret (v:=.agg #[.int .i64 (pw:Int),.int .i64 (j:Int),.int .i64 (C:Int),.int .i64 (D:Int),.slice Ao F.length co]) ?_ rfl ?_
   ·unfold results
    go_simp
   ·have n1:=ownB_ne HO.out (g:=b0+2) (by omega)
    refine ⟨Ao,F.length,co,rfl,?_,?_⟩
    ·rw [HF.out]
     exact (((((HO.out.far n1 _ _).far n1 _ _).far n1 _ _).far n1 _ _).far n1 _ _).mono (base':=b0) (by omega)
    ·exact ((((HB.out.setCell (by show b0≤b0+2;omega) _).setCell (by show b0≤b0+2;omega) _).setCell (by show b0≤b0+2;omega) _).setCell (by show b0≤b0+2;omega) _).setCell (by show b0≤b0+2;omega) _
end Go.Proofs.YteoolehdomjkkaaGreat

/- png: how wide and high a pass is. -/
namespace Go.Proofs.YteoolehdomjkkaaGreat
set_option linter.all false
open Go.RowKit
set_option maxRecDepth 100000 in
set_option maxHeartbeats 3200000 in
theorem pass_bad (s:Sh) (k:Int) (w:World) (h:s.may=false∨(s.may=true∧(k < 1∨7 < k))) :
  Calls Tryz.prog 17 #[.agg #[.int .i64 s.w,.int .i64 s.h,.int .i64 s.c,.int .i64 s.d],.int .i64 k] w fun e w'=>e=.returned (.tuple #[.int .i64 0,.int .i64 0])∧Below w.heap.size w w':=by
 have HM:=Lib.hid (mayS_any s (w.alloc (.cells #[.int .i64 s.w,.int .i64 s.h,.int .i64 s.c,.int .i64 s.d] 23)))
 have HM:Hid (Calls Tryz.prog 50 #[.agg #[.int .i64 s.w,.int .i64 s.h,.int .i64 s.c,.int .i64 s.d]] (w.alloc (.cells #[.int .i64 s.w,.int .i64 s.h,.int .i64 s.c,.int .i64 s.d] 23)) fun e w'=>e=.returned (.bool s.may)∧Below (w.alloc (.cells #[.int .i64 s.w,.int .i64 s.h,.int .i64 s.c,.int .i64 s.d] 23)).heap.size (w.alloc (.cells #[.int .i64 s.w,.int .i64 s.h,.int .i64 s.c,.int .i64 s.d] 23)) w'):=HM
 have HB0:=Lib.hid ((Below.refl w.heap.size w).alloc (Nat.le_refl _) (.cells #[.int .i64 s.w,.int .i64 s.h,.int .i64 s.c,.int .i64 s.d] 23))
 have hz:w.heap.size≤(w.alloc (.cells #[.int .i64 s.w,.int .i64 s.h,.int .i64 s.c,.int .i64 s.d] 23)).heap.size:=by simp
 generalize s.may=mm at *
 rcases h with rfl | ⟨rfl,h | h⟩
 ·go_enter Tryz.func17,Tryz.ntmps17
  go_wp2_with (go_at_call 50;(with_reducible refine HM.out.mono ?_);go_must (rintro e w2 ⟨rfl,hb2⟩;have HB2:=Lib.hid (HB0.out.trans (hb2.mono hz));clear hb2))
  go_ret2
  exact ⟨rfl,HB2.out⟩
 ·go_enter Tryz.func17,Tryz.ntmps17
  go_wp2_with (go_at_call 50;(with_reducible refine HM.out.mono ?_);go_must (rintro e w2 ⟨rfl,hb2⟩;have HB2:=Lib.hid (HB0.out.trans (hb2.mono hz));clear hb2))
  go_ret2
  exact ⟨rfl,HB2.out⟩
 ·have h1:¬ k < 1:=by omega
  go_enter Tryz.func17,Tryz.ntmps17
  go_wp2_with (go_at_call 50;(with_reducible refine HM.out.mono ?_);go_must (rintro e w2 ⟨rfl,hb2⟩;have HB2:=Lib.hid (HB0.out.trans (hb2.mono hz));clear hb2))
  go_ret2
  exact ⟨rfl,HB2.out⟩
set_option maxRecDepth 100000 in
set_option maxHeartbeats 3200000 in
theorem pass_ok (W H k:Nat) (c d:Int) (w:World) (hm:Sh.may ⟨W,H,c,d⟩=true) (hW:1≤W∧W≤256) (hH:1≤H∧H≤256) (h1:1≤k) (h7:k≤7) :
  Calls Tryz.prog 17 #[.agg #[.int .i64 (W:Int),.int .i64 (H:Int),.int .i64 c,.int .i64 d],.int .i64 (k:Int)] w fun e w'=>e=.returned (.tuple #[.int .i64 (passW W H k:Int),.int .i64 (passH W H k:Int)])∧Below w.heap.size w w':=by
 obtain ⟨w1,hw1⟩:∃ w1,w.alloc (.cells #[.int .i64 (W:Int),.int .i64 (H:Int),.int .i64 c,.int .i64 d] 23)=w1:=⟨_,rfl⟩
 obtain ⟨bk,hbk⟩:∃ b,w.heap.size=b:=⟨_,rfl⟩
 have HA1:Hid (Arr w1 bk [.int .i64 (W:Int),.int .i64 (H:Int),.int .i64 c,.int .i64 d]):=(show Arr _ _ _ by rw [← hw1,← hbk];exact Arr.new w [.int .i64 (W:Int),.int .i64 (H:Int),.int .i64 c,.int .i64 d] _)
 have HB1:Hid (Below bk w w1):=(show Below _ _ _ by rw [← hw1,← hbk];exact (Below.refl w.heap.size w).alloc (Nat.le_refl _) _)
 have hz1:w1.heap.size=bk+1:=by rw [← hw1,World.size_alloc,hbk]
 have HMY:Hid (Calls Tryz.prog 50 #[.agg #[.int .i64 (W:Int),.int .i64 (H:Int),.int .i64 c,.int .i64 d]] w1 fun e w'=>e=.returned (.bool true)∧Below w1.heap.size w1 w'):=(show Calls _ _ _ _ _ by have:=mayS_any ⟨W,H,c,d⟩ w1;rw [hm] at this;exact this)
 have HG:=Lib.hid (fun w=>grid_any k h1 h7 w)
 obtain ⟨g1,g2,g3,g4,g5,g6,g7,g8⟩:=gT_ok k
 have hPW:passW W H k=if W≤(gT k).1.1∨H≤(gT k).1.2 then 0 else cw W (gT k).1.1 (gT k).2.1:=rfl
 have hPH:passH W H k=if W≤(gT k).1.1∨H≤(gT k).1.2 then 0 else cw H (gT k).1.2 (gT k).2.2:=rfl
 generalize (gT k).1.1=X at *
 generalize (gT k).1.2=Y at *
 generalize (gT k).2.1=DX at *
 generalize (gT k).2.2=DY at *
 generalize passW W H k=PW at *
 generalize passH W H k=PH at *
 obtain ⟨a,ha⟩:∃ a,W+DX - 1 - X=a:=⟨_,rfl⟩
 obtain ⟨b,hb⟩:∃ b,H+DY - 1 - Y=b:=⟨_,rfl⟩
 obtain ⟨q,hq⟩:∃ q,a / DX=q:=⟨_,rfl⟩
 obtain ⟨r,hr⟩:∃ r,b / DY=r:=⟨_,rfl⟩
 obtain ⟨P1,hP1⟩:∃ P:Int,(W:Int) - (X:Int)=P:=⟨_,rfl⟩
 obtain ⟨P2,hP2⟩:∃ P:Int,P1+(DX:Int)=P:=⟨_,rfl⟩
 obtain ⟨R1,hR1⟩:∃ P:Int,(H:Int) - (Y:Int)=P:=⟨_,rfl⟩
 obtain ⟨R2,hR2⟩:∃ P:Int,R1+(DY:Int)=P:=⟨_,rfl⟩
 have hP3:P2 - 1=(a:Int):=by omega
 have hR3:R2 - 1=(b:Int):=by omega
 have wid:∀ x:Int,-100000≤x→x≤100000→IntKind.i64.wrap x=x:=fun x h1 h2=>by rw [IntKind.wrap_i64];omega
 have v1:=wid P1 (by omega) (by omega)
 have v2:=wid P2 (by omega) (by omega)
 have v3:=wid (a:Int) (by omega) (by omega)
 have v4:=wid R1 (by omega) (by omega)
 have v5:=wid R2 (by omega) (by omega)
 have v6:=wid (b:Int) (by omega) (by omega)
 have hqa:q≤a:=by rw [← hq];exact Nat.div_le_self _ _
 have hrb:r≤b:=by rw [← hr];exact Nat.div_le_self _ _
 have v7:=wid (q:Int) (by omega) (by omega)
 have v8:=wid (r:Int) (by omega) (by omega)
 have q1:(a:Int).tdiv (DX:Int)=(q:Int):=by rw [← hq];rfl
 have q2:(a:Int) / (DX:Int)=(q:Int):=by rw [← hq];rfl
 have r1:(b:Int).tdiv (DY:Int)=(r:Int):=by rw [← hr];rfl
 have r2:(b:Int) / (DY:Int)=(r:Int):=by rw [← hr];rfl
 have z1:¬ (DX:Int)=0:=by omega
 have z2:¬ (DY:Int)=0:=by omega
 have z3:((DX:Int) == 0)=false:=beq_eq_false_iff_ne.2 z1
 have z4:((DY:Int) == 0)=false:=beq_eq_false_iff_ne.2 z2
 have k1:¬ (k:Int) < 1:=by omega
 have k7:¬ (7:Int) < (k:Int):=by omega
 have hc1:¬ W≤X→cw W X DX=q:=fun h=>by unfold cw;rw [← hq,← ha];congr 1;omega
 have hc2:¬ H≤Y→cw H Y DY=r:=fun h=>by unfold cw;rw [← hr,← hb];congr 1;omega
 clear ha hb hq hr wid hm
 have a0:=HA1.out.cell (k:=0) rfl
 have a1:=HA1.out.cell (k:=1) rfl
 have a2:=HA1.out.cell (k:=2) rfl
 have a3:=HA1.out.cell (k:=3) rfl
 go_enter Tryz.func17,Tryz.ntmps17
 simp only [hw1,hbk]
 go_wp2_with (first
  | (go_at_call 50;(with_reducible refine HMY.out.mono ?_);go_must (rintro e w2 ⟨rfl,hb2⟩;have HA2:=Lib.hid (HA1.out.later hb2);have hz2:=hb2.size;have HB2:=Lib.hid (HB1.out.trans (hb2.mono (by omega)));clear hb2 a0 a1 a2 a3))
  | (go_at_call 51;(with_reducible refine (HG.out _).mono ?_);go_must (rintro e w3 ⟨rfl,hb3⟩;have HA3:=Lib.hid (HA2.out.later hb3);have c0:=HA3.out.cell (k:=0) rfl;have c1:=HA3.out.cell (k:=1) rfl;have hz3:=hb3.size;have HB3:=Lib.hid (HB2.out.trans (hb3.mono (by omega)));clear hb3)))
 by_cases hx:W≤X
 ·have hxi:(W:Int)≤(X:Int):=by omega
  rw [if_pos (.inl hx)] at hPW hPH
  clear hc1 hc2
  go_quiet (fail)
  go_wp2_with fail
  go_ret2
  first | exact ⟨rfl,bdrewN HB3.out _⟩ | exact ⟨by rw [hPW,hPH];rfl,bdrewN HB3.out _⟩
 ·have hxi:¬ (W:Int)≤(X:Int):=by omega
  by_cases hy:H≤Y
  ·have hyi:(H:Int)≤(Y:Int):=by omega
   rw [if_pos (.inr hy)] at hPW hPH
   clear hc1 hc2
   go_quiet (fail)
   go_wp2_with fail
   go_ret2
   first | exact ⟨rfl,bdrewN HB3.out _⟩ | exact ⟨by rw [hPW,hPH];rfl,bdrewN HB3.out _⟩
  ·have hyi:¬ (H:Int)≤(Y:Int):=by omega
   rw [if_neg (by omega),hc1 hx] at hPW
   rw [if_neg (by omega),hc2 hy] at hPH
   clear hc1 hc2
   go_quiet (fail)
   go_wp2_with fail
   go_ret2
   first | exact ⟨rfl,bdrewN HB3.out _⟩ | exact ⟨by rw [hPW,hPH];rfl,bdrewN HB3.out _⟩
end Go.Proofs.YteoolehdomjkkaaGreat

/- png: shapes of passes; a picture written, laced too. -/
namespace Go.Proofs.YteoolehdomjkkaaGreat
set_option linter.all false
open Go.RowKit
/-- A shape's numbers, and the bytes of its pixels. -/
structure PS (W H C D K:Nat):Prop where
 w1:1≤W
 w2:W≤256
 h1:1≤H
 h2:H≤256
 c1:1≤C
 c2:C≤4
 d:D=8∨D=16
 k:C * D=8 * K
 k1:1≤K
 k8:K≤8
section
variable {W H C D K : Nat}
theorem PS.d16 (h:PS W H C D K):D≤16:=by rcases h.d with e | e <;> omega
theorem PS.nums (h:PS W H C D K):Sh.nums ⟨W,H,C,D⟩=true:=by
 rw [Sh.nums_iff]
 have:=h.w1
 have:=h.w2
 have:=h.h1
 have:=h.h2
 have:=h.c1
 have:=h.c2
 have:=h.d
 refine ⟨⟨?_,?_⟩,⟨?_,?_⟩,⟨?_,?_⟩,?_⟩
 ·show (1:Int)≤(W:Int);omega
 ·show (W:Int)≤256;omega
 ·show (1:Int)≤(H:Int);omega
 ·show (H:Int)≤256;omega
 ·show (1:Int)≤(C:Int);omega
 ·show (C:Int)≤4;omega
 ·show (D:Int)=8∨(D:Int)=16;omega
theorem PS.size (h:PS W H C D K):Sh.size ⟨W,H,C,D⟩=((H * (W * K):Nat):Int)∧Sh.row ⟨W,H,C,D⟩=((W * K:Nat):Int):=by
 have hs:=h.nums
 have hr:Sh.row ⟨W,H,C,D⟩=((W * K:Nat):Int):=by
  unfold Sh.row
  rw [if_pos hs]
  show (W:Int) * (C:Int) * (D:Int) / 8=_
  have:(W:Int) * (C:Int) * (D:Int)=8 * ((W * K:Nat):Int):=by
   have e:W * C * D=8 * (W * K):=by rw [Nat.mul_assoc,h.k];ac_rfl
   rw [show (8:Int) * ((W * K:Nat):Int)=((8 * (W * K):Nat):Int) by push_cast;rfl,← e]
   push_cast
   rfl
  omega
 refine ⟨?_,hr⟩
 unfold Sh.size
 rw [hr,if_pos hs]
 show ((W * K:Nat):Int) * (H:Int)=_
 push_cast
 rw [Int.mul_comm]
theorem PS.pass {pw ph:Nat} (h:PS W H C D K) (h1:1≤pw) (h2:pw≤256) (h3:1≤ph) (h4:ph≤256):PS pw ph C D K:=⟨h1,h2,h3,h4,h.c1,h.c2,h.d,h.k,h.k1,h.k8⟩
theorem PS.of_may {s:Sh} (h:s.may=true):∃ W H C D K:Nat,s=⟨W,H,C,D⟩∧PS W H C D K∧H * (W * K)≤16384:=by
 unfold Sh.may at h
 rw [Bool.and_eq_true] at h
 obtain ⟨hn,hz⟩:=h
 obtain ⟨⟨a1,a2⟩,⟨a3,a4⟩,⟨a5,a6⟩,a7⟩:=(Sh.nums_iff s).1 hn
 obtain ⟨W,H,C,D⟩:=s
 obtain ⟨W,rfl⟩:=Int.eq_ofNat_of_zero_le (show 0≤W by have:1≤W:=a1;omega)
 obtain ⟨H,rfl⟩:=Int.eq_ofNat_of_zero_le (show 0≤H by have:1≤H:=a3;omega)
 obtain ⟨C,rfl⟩:=Int.eq_ofNat_of_zero_le (show 0≤C by have:1≤C:=a5;omega)
 obtain ⟨D,rfl⟩:=Int.eq_ofNat_of_zero_le (show 0≤D by have:D=8∨D=16:=a7;omega)
 have a1:1≤(W:Int):=a1
 have a2:(W:Int)≤256:=a2
 have a3:1≤(H:Int):=a3
 have a4:(H:Int)≤256:=a4
 have a5:1≤(C:Int):=a5
 have a6:(C:Int)≤4:=a6
 have a7:(D:Int)=8∨(D:Int)=16:=a7
 have hd:D=8∨D=16:=by omega
 have key:∃ K,C * D=8 * K∧1≤K∧K≤8:=by
  rcases hd with rfl | rfl
  ·exact ⟨C,by omega,by omega,by omega⟩
  ·exact ⟨2 * C,by omega,by omega,by omega⟩
 obtain ⟨K,k1,k2,k3⟩:=key
 have hp:PS W H C D K:=⟨by omega,by omega,by omega,by omega,by omega,by omega,hd,k1,k2,k3⟩
 refine ⟨W,H,C,D,K,rfl,hp,?_⟩
 have hz2:Sh.size ⟨W,H,C,D⟩≤16384:=by simpa using hz
 rw [hp.size.1] at hz2
 omega
theorem PS.may (h:PS W H C D K) (hm:H * (W * K)≤16384):Sh.may ⟨W,H,C,D⟩=true:=by
 unfold Sh.may
 rw [h.nums,h.size.1]
 simp
 have:((H * (W * K):Nat):Int)≤16384:=by omega
 push_cast at this
 exact this
theorem PS.mayR (h:PS W H C D K) (hm:H * (W * K)≤16384):Sh.mayR ⟨W,H,C,D⟩ (H * (W * K))=true:=by
 unfold Sh.mayR
 rw [h.may hm,h.size.1]
 simp
end
/-- The rows of the first passes. -/
def lcF (W H K:Nat) (bs:List UInt8):Nat→List UInt8
 | 0=>[]
 | k+1=>lcF W H K bs k ++ (if passW W H (k+1)=0 then [] else flF K (passW W H (k+1) * K) (pkJ W K bs (gT (k+1)).1.1 (gT (k+1)).1.2 (gT (k+1)).2.1 (gT (k+1)).2.2 (passW W H (k+1)) (passH W H (k+1))) (passH W H (k+1)))
theorem lcF_len {W H C D K:Nat} {bs:List UInt8} (h:PS W H C D K) (hm:bs.length=H * (W * K)):∀ k,(lcF W H K bs k).length≤passN W H k * K+256 * k
 | 0=>by simp [lcF]
 | k+1=>by
  have ih:=lcF_len h hm k
  have hp:=pass_le W H (k+1) h.w2 h.h2
  have hi:=pass_in (W:=W) (H:=H) (k:=k+1)
  have e:passN W H (k+1)=passN W H k+passW W H (k+1) * passH W H (k+1):=rfl
  rw [lcF,List.length_append,e,Nat.add_mul]
  split
  ·show _+0≤_
   omega
  ·have hl:=pkJ_len (K:=K) hm hi.1 (passH W H (k+1)) hi.2
   rw [flF_len h.k1 h.k8 _ (by rw [hl];exact Nat.le_refl _)]
   have e2:passH W H (k+1) * (passW W H (k+1) * K+1)=passW W H (k+1) * passH W H (k+1) * K+passH W H (k+1):=by
    rw [Nat.mul_add,Nat.mul_one,← Nat.mul_assoc,Nat.mul_comm (passH W H (k+1)) (passW W H (k+1))]
   rw [e2]
   omega
theorem passN_mono (W H:Nat):∀ k,k≤7→passN W H k≤W * H:=fun k hk=>by
 rw [← passN_all W H]
 have key:∀ a b,a≤b→passN W H a≤passN W H b:=fun a b hab=>by
  induction b with
  | zero =>
   obtain rfl:a=0:=by omega
   exact Nat.le_refl _
  | succ b ih =>
   by_cases e:a=b+1
   ·rw [e];exact Nat.le_refl _
   ·exact Nat.le_trans (ih (by omega)) (Nat.le_add_right _ _)
 exact key k 7 hk
theorem lcF_le {W H C D K:Nat} {bs:List UInt8} (h:PS W H C D K) (hm:bs.length=H * (W * K)) (hz:H * (W * K)≤16384) {k:Nat} (hk:k≤7):(lcF W H K bs k).length≤18176:=by
 have h1:=lcF_len h hm k
 have h2:=Nat.mul_le_mul_right K (passN_mono W H k hk)
 have h3:W * H * K=H * (W * K):=by rw [Nat.mul_comm W H,Nat.mul_assoc]
 omega
set_option maxRecDepth 100000 in
set_option maxHeartbeats 6400000 in
theorem small_any (W H C D K k:Nat) (sb:Bool) (w:World) (hs:PS W H C D K) (hz:H * (W * K)≤16384) (h1:1≤k) (h7:k≤7) (hsb:decide (0 < passW W H k)=sb) :
  Calls Tryz.prog 47 #[.agg #[.int .i64 (W:Int),.int .i64 (H:Int),.int .i64 (C:Int),.int .i64 (D:Int)],.int .i64 (k:Int)] w fun e w'=>e=.returned (.tuple #[.agg #[.int .i64 (passW W H k:Int),.int .i64 (passH W H k:Int),.int .i64 (C:Int),.int .i64 (D:Int)],.bool sb])∧Below w.heap.size w w':=by
 have HSB:=Lib.hid hsb
 clear hsb
 have HPA:=Lib.hid (fun w=>pass_ok W H k (C:Int) (D:Int) w (hs.may hz) ⟨hs.w1,hs.w2⟩ ⟨hs.h1,hs.h2⟩ h1 h7)
 generalize passW W H k=pw at *
 generalize passH W H k=ph at *
 obtain ⟨b0,hb0⟩:∃ b,w.heap.size=b:=⟨_,rfl⟩
 obtain ⟨w1,hw1⟩:∃ w1,(w.alloc (.cells #[.int .i64 (W:Int),.int .i64 (H:Int),.int .i64 (C:Int),.int .i64 (D:Int)] 23)).alloc (.cells #[.int .i64 0,.int .i64 0,.int .i64 0,.int .i64 0] 23)=w1:=⟨_,rfl⟩
 have z0:(w.alloc (.cells #[.int .i64 (W:Int),.int .i64 (H:Int),.int .i64 (C:Int),.int .i64 (D:Int)] 23)).heap.size=b0+1:=by rw [World.size_alloc,hb0]
 have HA1:Hid (Arr w1 b0 [.int .i64 (W:Int),.int .i64 (H:Int),.int .i64 (C:Int),.int .i64 (D:Int)]):=(show Arr _ _ _ by rw [← hw1,← hb0];exact (Arr.new w [.int .i64 (W:Int),.int .i64 (H:Int),.int .i64 (C:Int),.int .i64 (D:Int)] _).alloc _)
 have HT1:Hid (Arr w1 (b0+1) [.int .i64 0,.int .i64 0,.int .i64 0,.int .i64 0]):=(show Arr _ _ _ by rw [← hw1,← z0];exact Arr.new _ [.int .i64 0,.int .i64 0,.int .i64 0,.int .i64 0] _)
 have HB1:Hid (Below b0 w w1):=(show Below _ _ _ by rw [← hw1,← hb0];exact ((Below.refl w.heap.size w).alloc (Nat.le_refl _) _).alloc (by simp) _)
 have z2:w1.heap.size=b0+2:=by rw [← hw1,World.size_alloc,z0]
 have a0:=HA1.out.cell (k:=0) rfl
 have a1:=HA1.out.cell (k:=1) rfl
 have a2:=HA1.out.cell (k:=2) rfl
 have a3:=HA1.out.cell (k:=3) rfl
 clear hs hz h1 h7
 go_enter Tryz.func47,Tryz.ntmps47
 simp only [hw1,hb0,z0]
 go_wp2_with (go_at_call 17;(with_reducible refine (HPA.out _).mono ?_);go_must (rintro e w2 ⟨rfl,hb2⟩;have HA2:=Lib.hid (HA1.out.later hb2);have HT2:=Lib.hid (HT1.out.later hb2);have HB2:=Lib.hid (HB1.out.trans (hb2.mono (by omega)));have c0:=HA2.out.cell (k:=0) rfl;have c1:=HA2.out.cell (k:=1) rfl;have c2:=HA2.out.cell (k:=2) rfl;have c3:=HA2.out.cell (k:=3) rfl;have f0:=HA2.out.frozen 0;have f1:=HA2.out.frozen 1;have t0:=HT2.out.cell (k:=0) rfl;have t1:=HT2.out.cell (k:=1) rfl;have t2:=HT2.out.cell (k:=2) rfl;have t3:=HT2.out.cell (k:=3) rfl;have g0:=HT2.out.frozen 0;have g1:=HT2.out.frozen 1;have g2:=HT2.out.frozen 2;have g3:=HT2.out.frozen 3;clear hb2 a0 a1 a2 a3))
 refine bodyPost_ret (v:=.tuple #[.agg #[.int .i64 (pw:Int),.int .i64 (ph:Int),.int .i64 (C:Int),.int .i64 (D:Int)],.bool sb]) ?_ rfl ?_
 ·unfold results
  go_simp
  exact HSB.out
 ·refine ⟨rfl,?_⟩
  exact (((((HB2.out.setCell (p:=⟨b0,0,none⟩) (Nat.le_refl _) _).setCell (p:=⟨b0,1,none⟩) (Nat.le_refl _) _).setCell (p:=⟨b0+1,0,none⟩) (Nat.le_succ _) _).setCell (p:=⟨b0+1,1,none⟩) (Nat.le_succ _) _).setCell (p:=⟨b0+1,2,none⟩) (Nat.le_succ _) _).setCell (p:=⟨b0+1,3,none⟩) (Nat.le_succ _) _
set_option maxRecDepth 100000 in
set_option maxHeartbeats 6400000 in
theorem encode_bad (s:Sh) (m c:Nat) (A:Option Addr) (w:World) (hm:s.mayR m=false) :
  Calls Tryz.prog 13 #[.agg #[.int .i64 s.w,.int .i64 s.h,.int .i64 s.c,.int .i64 s.d,.slice A m c]] w fun e w'=>e=.returned (.tuple #[.slice none 0 0,.int .i64 4])∧Below w.heap.size w w':=by
 obtain ⟨W,H,C,D⟩:=s
 show Calls _ _ #[.agg #[.int .i64 W,.int .i64 H,.int .i64 C,.int .i64 D,.slice A m c]] w _
 have HMY:=Lib.hid (fun w=>may_any ⟨W,H,C,D⟩ A m c w)
 rw [hm] at HMY
 dsimp only [Sh.r] at HMY
 go_enter Tryz.func13,Tryz.ntmps13
 go_wp2_with (go_at_call 41;(with_reducible refine (HMY.out _).mono ?_);go_must (rintro e w2 ⟨rfl,hb2⟩;have HB2:=Lib.hid (bxd hb2);clear hb2))
 go_ret2
 exact ⟨rfl,HB2.out⟩
theorem lace_bad (s:Sh) (m c:Nat) (A:Option Addr) (w:World) (hm:s.mayR m=false) :
  Calls Tryz.prog 15 #[.agg #[.int .i64 s.w,.int .i64 s.h,.int .i64 s.c,.int .i64 s.d,.slice A m c]] w fun e w'=>e=.returned (.tuple #[.slice none 0 0,.int .i64 4])∧Below w.heap.size w w':=by
 obtain ⟨W,H,C,D⟩:=s
 show Calls _ _ #[.agg #[.int .i64 W,.int .i64 H,.int .i64 C,.int .i64 D,.slice A m c]] w _
 have HMY:=Lib.hid (fun w=>may_any ⟨W,H,C,D⟩ A m c w)
 rw [hm] at HMY
 dsimp only [Sh.r] at HMY
 go_enter Tryz.func15,Tryz.ntmps15
 go_wp2_with (go_at_call 41;(with_reducible refine (HMY.out _).mono ?_);go_must (rintro e w2 ⟨rfl,hb2⟩;have HB2:=Lib.hid (bxd hb2);clear hb2))
 go_ret2
 exact ⟨rfl,HB2.out⟩
set_option maxRecDepth 100000 in
set_option maxHeartbeats 6400000 in
theorem encode_any (W H C D K m c B:Nat) (A:Option Addr) (bs:List UInt8) (w:World) (hs:PS W H C D K) (hz:H * (W * K)≤16384) (h:RdB w B A m bs) (hB:B≤w.heap.size) (hm:m=H * (W * K)) (hcap:m≤c) :
  Calls Tryz.prog 13 #[.agg #[.int .i64 (W:Int),.int .i64 (H:Int),.int .i64 (C:Int),.int .i64 (D:Int),.slice A m c]] w fun e w'=>∃ g9 n9 c9 l,e=.returned (.tuple #[.slice (some ⟨g9,0,none⟩) n9 c9,.int .i64 0])∧RowM w' g9 n9 c9 l∧FileI (hdrL W H C D 0) (flF K (W * K) bs H) l∧Below w.heap.size w w':=by
 obtain ⟨w1,hw1⟩:∃ w1,w.alloc (.cells #[.int .i64 (W:Int),.int .i64 (H:Int),.int .i64 (C:Int),.int .i64 (D:Int),.slice A m c] 26)=w1:=⟨_,rfl⟩
 obtain ⟨bk,hbk⟩:∃ b,w.heap.size=b:=⟨_,rfl⟩
 have HA1:Hid (Arr w1 bk [.int .i64 (W:Int),.int .i64 (H:Int),.int .i64 (C:Int),.int .i64 (D:Int),.slice A m c]):=(show Arr _ _ _ by rw [← hw1,← hbk];exact Arr.new w [.int .i64 (W:Int),.int .i64 (H:Int),.int .i64 (C:Int),.int .i64 (D:Int),.slice A m c] _)
 have HR1:Hid (RdB w1 B A m bs):=(show RdB _ _ _ _ _ by rw [← hw1];exact Rd.alloc h hB _)
 have HB1:Hid (Below bk w w1):=(show Below _ _ _ by rw [← hw1,← hbk];exact (Below.refl w.heap.size w).alloc (Nat.le_refl _) _)
 have hz1:w1.heap.size=bk+1:=by rw [← hw1,World.size_alloc,hbk]
 have HMY:=Lib.hid (fun w=>may_any ⟨W,H,C,D⟩ A m c w)
 have hmr:=hs.mayR hz
 rw [← hm] at hmr
 rw [hmr] at HMY
 dsimp only [Sh.r] at HMY
 have hlen:=h.len
 have hfl:(flF K (W * K) bs H).length≤20000:=by
  rw [flF_len hs.k1 hs.k8 H (by rw [hlen,hm];exact Nat.le_refl _),Nat.mul_add,Nat.mul_one]
  have:=hs.h2
  omega
 have HFI:=Lib.hid (fun w2 (h:RdB w2 B A m bs) (hB:B≤w2.heap.size)=>filtered_any W H C D K m c B A bs w2 hs.nums hs.k h hB hm hcap (by omega))
 have HFL:=Lib.hid (fun w3 A3 n3 c3 rs (h:RdB w3 w3.heap.size A3 n3 rs) (hn:n3≤40000) (hc:n3≤c3)=>file0_any W H C D w3.heap.size n3 c3 A3 rs w3 h (Nat.le_refl _) hn hc hs.w2 hs.h2 ⟨hs.c1,hs.c2⟩ hs.d)
 generalize flF K (W * K) bs H=F at *
 have a0:=HA1.out.cell (k:=0) rfl
 have a1:=HA1.out.cell (k:=1) rfl
 have a2:=HA1.out.cell (k:=2) rfl
 have a3:=HA1.out.cell (k:=3) rfl
 have a4:=HA1.out.cell (k:=4) rfl
 clear h hm hs hz hmr hlen
 rw [hbk] at hB
 go_enter Tryz.func13,Tryz.ntmps13
 simp only [hw1,hbk]
 go_wp2_with (first
  | (go_at_call 41;(with_reducible refine (HMY.out _).mono ?_);go_must (rintro e w2 ⟨rfl,hb2⟩;have HA2:=Lib.hid (HA1.out.later hb2);have hz2:=hb2.size;have HFI2:=Lib.hid (HFI.out w2 (RdB.blw HR1.out (hb2.mono (by omega))) (by omega));have b0:=HA2.out.cell (k:=0) rfl;have b1:=HA2.out.cell (k:=1) rfl;have b2:=HA2.out.cell (k:=2) rfl;have b3:=HA2.out.cell (k:=3) rfl;have b4:=HA2.out.cell (k:=4) rfl;have HB2:=Lib.hid (HB1.out.trans (hb2.mono (by omega)));clear hb2 a0 a1 a2 a3 a4))
  | (go_at_call 42;(with_reducible refine HFI2.out.mono ?_);go_must (rintro e w3 ⟨v3,rfl,ho3,hb3⟩;obtain ⟨A3,c3,rfl,hr3,hc3,-⟩:=ho3.form;have HA3:=Lib.hid (HA2.out.later hb3);have hz3:=hb3.size;have HFL3:=Lib.hid (HFL.out w3 A3 F.length c3 F hr3 (by omega) hc3);have d0:=HA3.out.cell (k:=0) rfl;have d1:=HA3.out.cell (k:=1) rfl;have d2:=HA3.out.cell (k:=2) rfl;have d3:=HA3.out.cell (k:=3) rfl;have HB3:=Lib.hid (HB2.out.trans (hb3.mono (by omega)));clear ho3 hb3 hr3 b0 b1 b2 b3 b4))
  | (go_at_call 43;(with_reducible refine HFL3.out.mono ?_);go_must (rintro e w4 ⟨g9,n9,c9,l,rfl,hr4,hi4,hb4⟩;have HR4:=Lib.hid hr4;have HI4:=Lib.hid hi4;have HB4:=Lib.hid (HB3.out.trans (hb4.mono (by omega)));clear hr4 hb4 hi4)))
 go_ret2
 exact ⟨g9,n9,c9,l,rfl,HR4.out,HI4.out,HB4.out⟩
end Go.Proofs.YteoolehdomjkkaaGreat

