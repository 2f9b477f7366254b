/- XPd1 -/
import Derived.Test.YtebbdifhiihfkaaGreatDoorMh39
import Derived.Test.YtebbdifhiihfkaaGreatDoorMh10
import Derived.Test.YtebbdifhiihfkaaGreatDoorMh31
import Derived.Deep.RegionHeld3
import Derived.BigQuiet
namespace Go.Proofs.YtebbdifhiihfkaaGreatDoor
set_option linter.all false
open Go.RowKit
set_option maxRecDepth 100000 in
theorem all_any (W H C D K:Nat) (w:World) (hs:PS W H C D K) (hz:H * (W * K)≤16384) :
  Calls Tryz.prog 30 #[.agg #[.int .i64 (W:Int),.int .i64 (H:Int),.int .i64 (C:Int),.int .i64 (D:Int)]] w fun e w'=>e=.returned (.int .i64 ((H * (W * K+1):Nat):Int))∧Below w.heap.size w w':=by
 have hsz:=hs.size.1
 have hh:=hs.h2
 have HS:=Lib.hid (fun w=>size_any ⟨W,H,C,D⟩ w)
 rw [hsz] at HS
 dsimp only [Sh.v] at HS
 have he:H * (W * K+1)=H * (W * K)+H:=by rw [Nat.mul_add,Nat.mul_one]
 rw [he]
 generalize H * (W * K)=q at *
 have hw:IntKind.i64.wrap ((q:Int)+(H:Int))=((q+H:Nat):Int):=by rw [show (q:Int)+(H:Int)=((q+H:Nat):Int) by omega];exact wrap_i64_lt _ (by omega)
 obtain ⟨r,hr⟩:∃ r,q+H=r:=⟨_,rfl⟩
 rw [hr] at hw ⊢
 clear hr hs hsz he
 obtain ⟨w1,hw1⟩:∃ w1,w.alloc (.cells #[.int .i64 (W:Int),.int .i64 (H:Int),.int .i64 (C:Int),.int .i64 (D:Int)] 37)=w1:=⟨_,rfl⟩
 obtain ⟨bk,hbk⟩:∃ b,w.heap.size=b:=⟨_,rfl⟩
 have HA1:Hid (Arr w1 bk [.int .i64 (W:Int),.int .i64 (H:Int),.int .i64 (C:Int),.int .i64 (D:Int)]):=(show Arr _ _ _ by rw [← hw1,← hbk];exact Arr.new w [.int .i64 (W:Int),.int .i64 (H:Int),.int .i64 (C:Int),.int .i64 (D:Int)] _)
 have HB1:Hid (Below bk w w1):=(show Below _ _ _ by rw [← hw1,← hbk];exact (Below.refl w.heap.size w).alloc (Nat.le_refl _) _)
 have hz1:bk≤w1.heap.size:=by rw [← hw1,World.size_alloc,hbk];exact Nat.le_succ _
 have a0:=HA1.out.cell (k:=0) rfl
 have a1:=HA1.out.cell (k:=1) rfl
 have a2:=HA1.out.cell (k:=2) rfl
 have a3:=HA1.out.cell (k:=3) rfl
 go_enter Tryz.func30,Tryz.ntmps30
 simp only [hw1,hbk]
 go_upto_region 1 with fail
 clear hw1
 go_region_held3 (fun w'=>w'.cell? ⟨bk,0,none⟩=some (.int .i64 (W:Int))∧w'.cell? ⟨bk,1,none⟩=some (.int .i64 (H:Int))∧w'.cell? ⟨bk,2,none⟩=some (.int .i64 (C:Int))∧w'.cell? ⟨bk,3,none⟩=some (.int .i64 (D:Int)))
  (first | go_keep | (with_reducible exact ⟨a0,a1,a2,a3⟩) | (with_reducible exact ⟨c0,c1,c2,c3⟩))
  (first | (go_at_call 42;(with_reducible refine (HS.out _).mono ?_);go_must (rintro e w3 ⟨rfl,hb3⟩;have hb3':Below w1.heap.size w1 w3:=⟨hb3.os,hb3.tape,hb3.output,hb3.size,hb3.block⟩;have HA3:=Lib.hid (HA1.out.later hb3');have c0:=HA3.out.cell (k:=0) rfl;have c1:=HA3.out.cell (k:=1) rfl;have c2:=HA3.out.cell (k:=2) rfl;have c3:=HA3.out.cell (k:=3) rfl;have HB3:=Lib.hid (HB1.out.trans (hb3'.mono hz1));clear hb3 hb3')))
 all_goals
  go_wp2_with fail
  go_ret
  exact ⟨rfl,HB3.out⟩
def UnPost (W H C D:Nat) (R:Option (List UInt8 × List UInt8)) (b:Nat) (w:World) (e:Ending) (w':World):Prop :=
 match R with
 | none=>e=.returned (.tuple #[.agg #[.int .i64 0,.int .i64 0,.int .i64 0,.int .i64 0,.slice none 0 0],.int .i64 4])∧Below b w w'
 | some p=>∃ v,e=.returned (.tuple #[.agg #[.int .i64 (W:Int),.int .i64 (H:Int),.int .i64 (C:Int),.int .i64 (D:Int),v],.int .i64 0])∧ownB w' b v p.1∧Below b w w'
/-- Bytes beside block T, if there are any. -/
def Pv (w:World) (T:Option Nat) (A:Option Addr) (n:Nat) (bs:List UInt8):Prop :=
 RdB w w.heap.size A n bs∧(0 < n→∀ b o,A=some ⟨b,o,none⟩→some b ≠ T)
theorem Pv.grow {w w':World} {T T':Option Nat} {A:Option Addr} {n:Nat} {bs:List UInt8} (h:Pv w T A n bs) (hs:w.heap.size≤w'.heap.size) (hb:∀ b,b < w.heap.size→some b ≠ T→w'.heap[b]?=w.heap[b]?) (hT:∀ b,b < w.heap.size→some b ≠ T→some b ≠ T'):Pv w' T' A n bs:=by
 obtain ⟨⟨h1,h2⟩,h3⟩:=h
 refine ⟨⟨h1,fun hn=>?_⟩,fun hn b' o' e=>?_⟩
 ·obtain ⟨b,o,rfl,hlt,hc⟩:=h2 hn
  have hne:=h3 hn b o rfl
  refine ⟨b,o,rfl,Nat.lt_of_lt_of_le hlt hs,fun j u hu=>?_⟩
  rw [World.cell?_of_block (w:=w) (w':=w') (a:=⟨b,o+j,none⟩) (hb b hlt hne)]
  exact hc j u hu
 ·obtain ⟨b,o,rfl,hlt,hc⟩:=h2 hn
  injection e with e
  injection e with e1 e2
  subst e1
  exact hT b hlt (h3 hn b o rfl)
theorem Pv.gro {w w':World} {T T':Option Nat} {A:Option Addr} {n:Nat} {bs:List UInt8} (h:Pv w T A n bs) (hg:w.grownBy w' T) (ht:T'=T∨T'=some w.heap.size):Pv w' T' A n bs :=
 h.grow hg.size (fun b hb hne=>hg.block b hb hne) (fun b hb hne=>by
  rcases ht with rfl | rfl
  ·exact hne
  ·intro e;injection e with e;omega)
theorem Pv.later {w w':World} {T:Option Nat} {A:Option Addr} {n:Nat} {bs:List UInt8} (h:Pv w T A n bs) (hb:Below w.heap.size w w'):Pv w' T A n bs :=
 h.grow hb.size (fun b hlt _=>hb.block b hlt) (fun _ _ h=>h)
theorem Pv.new {w w':World} {T:Option Nat} {A:Option Addr} {c:Nat} {bs:List UInt8} (h:ownB w' w.heap.size (.slice A bs.length c) bs) (hT:∀ g,T=some g→g < w.heap.size):Pv w' T A bs.length bs :=
 ⟨h.rd,fun hn b o e e2=>by
  subst e
  obtain ⟨-,g,e3,hg,-⟩:=h.pos hn
  injection e3 with e3
  injection e3 with e4 e5
  have:=hT b e2.symm
  omega⟩
theorem undoR_row {K kd n:Nat} {prev row:List UInt8} (h1:1≤K) (h8:K≤8) (hk:kd≤4) (hr:row.length=n) (hp:prev.length=0∨prev.length=n):undoR (kd:Int) (K:Int) prev row=(undoB (kd:Int) (K:Int) prev row,0):=by
 unfold undoR
 rw [if_pos]
 unfold wrongV
 rw [if_neg (by omega),if_neg (by omega)]
set_option maxRecDepth 100000 in
set_option maxHeartbeats 6400000 in
theorem unfiltered_any (W H C D K n m c B:Nat) (A:Option Addr) (rs:List UInt8) (w:World) (hs:PS W H C D K) (hn:W * K=n) (h:RdB w B A m rs) (hB:B≤w.heap.size) (hm:m=H * (n+1)) (hcap:m≤c) (hmb:m≤1000000) :
  Calls Tryz.prog 59 #[.slice A m c,.agg #[.int .i64 (W:Int),.int .i64 (H:Int),.int .i64 (C:Int),.int .i64 (D:Int)]] w fun e w'=>UnPost W H C D (unF K n rs H) w.heap.size w e w':=by
 have hd16:=hs.d16
 have hrow:=hs.size.2
 have hnums:=hs.nums
 obtain ⟨w1,w2,h1,h2,c1,c2,hd,hK,hK1,hK8⟩:=hs
 rw [hn] at hrow
 have hn1:1≤n:=by rw [← hn];exact Nat.mul_le_mul w1 hK1
 have hn2:n≤256 * 8:=by rw [← hn];exact Nat.mul_le_mul w2 hK8
 have hlen:=h.len
 have hm1:1 * 1≤m:=by rw [hm];exact Nat.mul_le_mul h1 (by omega)
 obtain ⟨b,o,rfl,hb,-⟩:=h.at_ (by omega)
 obtain ⟨wa,hwa⟩:∃ w1,(w.alloc (.cells #[.int .i64 (W:Int),.int .i64 (H:Int),.int .i64 (C:Int),.int .i64 (D:Int)] 37)).alloc (.cells #[.int .i64 0,.int .i64 0,.int .i64 0,.int .i64 0,.slice none 0 0] 39)=w1:=⟨_,rfl⟩
 obtain ⟨bx,hbk⟩:∃ b,w.heap.size=b:=⟨_,rfl⟩
 have HA1:Hid (Arr wa bx [.int .i64 (W:Int),.int .i64 (H:Int),.int .i64 (C:Int),.int .i64 (D:Int)]):=(show Arr _ _ _ by rw [← hwa,← hbk];exact (Arr.new w [.int .i64 (W:Int),.int .i64 (H:Int),.int .i64 (C:Int),.int .i64 (D:Int)] _).alloc _)
 have HZ1:Hid (Arr wa (bx+1) [.int .i64 0,.int .i64 0,.int .i64 0,.int .i64 0,.slice none 0 0]):=(show Arr _ _ _ by
  rw [← hwa,← hbk]
  have:=Arr.new (w.alloc (.cells #[.int .i64 (W:Int),.int .i64 (H:Int),.int .i64 (C:Int),.int .i64 (D:Int)] 37)) [.int .i64 0,.int .i64 0,.int .i64 0,.int .i64 0,.slice none 0 0] 39
  rw [World.size_alloc] at this
  exact this)
 have HR1:Hid (RdB wa B (some ⟨b,o,none⟩) m rs):=(show RdB _ _ _ _ _ by rw [← hwa];exact Rd.alloc (Rd.alloc h hB _) (by rw [World.size_alloc];omega) _)
 have HB1:Hid (Below bx w wa):=(show Below _ _ _ by rw [← hwa,← hbk];exact ((Below.refl w.heap.size w).alloc (Nat.le_refl _) _).alloc (by rw [World.size_alloc];omega) _)
 have hz1:bx+2≤wa.heap.size:=by rw [← hwa,World.size_alloc,World.size_alloc,hbk];exact Nat.le_refl _
 have HRW:Hid (Calls Tryz.prog 71 #[.agg #[.int .i64 (W:Int),.int .i64 (H:Int),.int .i64 (C:Int),.int .i64 (D:Int)]] wa fun e w'=>e=.returned (.int .i64 (n:Int))∧Below wa.heap.size wa w'):=(show Calls _ _ _ _ _ by have:=row_any ⟨W,H,C,D⟩ wa;rw [hrow] at this;exact this)
 have HBP:=Lib.hid (fun w=>bpp_any (W:Int) (H:Int) C D K c2 hd16 hK w)
 have a0:=HA1.out.cell (k:=0) rfl
 have a1:=HA1.out.cell (k:=1) rfl
 have a2:=HA1.out.cell (k:=2) rfl
 have a3:=HA1.out.cell (k:=3) rfl
 have HM:=Lib.hid hm
 have HLEN:=Lib.hid hlen
 clear h hK hn hrow hd w1 w2 c1 hm hlen hnums
 rw [hbk] at hB ⊢
 go_enter Tryz.func59,Tryz.ntmps59
 (try simp only [hwa,hbk])
 go_wp2_with (go_at_call 71;(with_reducible refine HRW.out.mono ?_);go_must (rintro e w2 ⟨rfl,hb2⟩;have HA2:=Lib.hid (HA1.out.later hb2);have HX2:=Lib.hid (HZ1.out.later hb2);have HR2:=Lib.hid (RdB.blw HR1.out (hb2.mono (by omega)));have b1:=HA2.out.cell (k:=1) rfl;have hz2:=hb2.size;have HB2:=Lib.hid (HB1.out.trans (hb2.mono (by omega)));clear hb2 a0 a1 a2 a3))
 clear hwa HRW HA1 HR1 HB1 HZ1
 have hbw:bx+2≤w2.heap.size:=by omega
 clear hz1 hz2
 go_loopw [17,7,8] (fun vk vo vp wr=>∃ (k:Nat) (Ap:Option Addr) (np cp:Nat) (p:List UInt8 × List UInt8),k≤H∧vk=.int .i64 k∧Hid (unF K n rs k=some p)∧Hid (ownB wr (bx+2) vo p.1)∧vp=.slice Ap np cp∧Hid (Pv wr vo.ownBlock Ap np p.2)∧Hid (Below (bx+2) w2 wr)) (fun vk _ _ _=>H - (intOf vk).toNat)
 case atStart=>exact ⟨0,none,0,0,([],[]),Nat.zero_le _,rfl,rfl,ownB.nil_ w2 (bx+2),rfl,⟨Rd.none_,fun h=>absurd h (Nat.lt_irrefl _)⟩,Below.refl _ _⟩
 case round =>
  obtain ⟨k,Ap,np,cp,p,hk,rfl,HU,HO,rfl,HP,HB⟩:=hrel
  obtain ⟨out,prev⟩:=p
  have hz:bx+2≤wr.heap.size:=Nat.le_trans hbw HB.out.size
  have HA:=Lib.hid (HA2.out.blw HB.out (by omega))
  have HX:=Lib.hid (HX2.out.blw HB.out (by omega))
  have HR:=Lib.hid (RdB.blw HR2.out (HB.out.mono (by omega)))
  have HBB:=Lib.hid (HB2.out.trans (HB.out.mono (by omega)))
  by_cases hlt:k < H
  ·have hlti:(k:Int) < (H:Int):=by omega
   obtain ⟨q,hq⟩:∃ q,k * (n+1)=q:=⟨_,rfl⟩
   obtain ⟨q2,hq2⟩:∃ q2,(k+1) * (n+1)=q2:=⟨_,rfl⟩
   have hq12:q2=q+(n+1):=by rw [← hq2,← hq,Nat.succ_mul]
   have hqm:q2≤m:=by
    rw [HM.out,← hq2]
    exact Nat.mul_le_mul_right (n+1) (by omega)
   obtain ⟨bq,oq,kx,hbo,-,HKX,ek⟩:=HR.out.byte (k:=q) (by omega)
   injection hbo with hbo
   injection hbo with e1 e2
   subst e1 e2
   have HUK:Hid (unK n rs k=kx.toNat):=(show _=_ by unfold unK;rw [hq,List.getD_eq_getElem?_getD,HKX.out];rfl)
   have HUL:=Lib.hid (unF_len HU.out (by rw [hq,HLEN.out];omega))
   have HRR:Hid (RdB wr B (some ⟨b,o+q+1,none⟩) n ((rs.drop (q+1)).take n)):=(show RdB _ _ _ _ _ from RdB.cut HR.out (k:=q+1) (m:=n) (by omega) (fun _=>by simp [Addr.add]))
   have hw1:IntKind.i64.wrap ((n:Int)+1)=(n:Int)+1:=by rw [show (n:Int)+1=((n+1:Nat):Int) by omega];exact wrap_i64_lt _ (by omega)
   have hw2:(k:Int) * ((n:Int)+1)=(q:Int):=by rw [← hq];push_cast;rfl
   have hw3:IntKind.i64.wrap (q:Int)=(q:Int):=wrap_i64_lt _ (by omega)
   have hw4:IntKind.i64.wrap ((k:Int)+1)=(k:Int)+1:=by rw [show (k:Int)+1=((k+1:Nat):Int) by omega];exact wrap_i64_lt _ (by omega)
   have hw5:((k:Int)+1) * ((n:Int)+1)=(q2:Int):=by rw [← hq2];push_cast;rfl
   have hw6:IntKind.i64.wrap (q2:Int)=(q2:Int):=wrap_i64_lt _ (by omega)
   have g1:q≤q2:=by omega
   have g2:q2≤c:=by omega
   have g3:(q:Int)≤(q2:Int):=by omega
   have g4:(q2:Int)≤(c:Int):=by omega
   have g5:¬ c=q:=by omega
   have g6:q2 - q=n+1:=by omega
   have g7:q < c:=by omega
   have g8:0 < q2 - q:=by omega
   have b0:=HA.out.cell (k:=0) rfl
   have b1:=HA.out.cell (k:=1) rfl
   have b2:=HA.out.cell (k:=2) rfl
   have b3:=HA.out.cell (k:=3) rfl
   have HQ:=Lib.hid hq
   have HQ12:=Lib.hid hq12
   clear hq hq2 hq12
   by_cases hk4:4 < kx.toNat
   ·have hk4i:(4:Int) < (kx.toNat:Int):=by omega
    have HN:Hid (unF K n rs H=none):=(show _=_ from unF_none (unF_stop HU.out (by rw [HUK.out];exact hk4)) H (by omega))
    have z0:=HX.out.cell (k:=0) rfl
    have z1:=HX.out.cell (k:=1) rfl
    have z2:=HX.out.cell (k:=2) rfl
    have z3:=HX.out.cell (k:=3) rfl
    have z4:=HX.out.cell (k:=4) rfl
    have f0:=HX.out.frozen 0
    have f1:=HX.out.frozen 1
    have f2:=HX.out.frozen 2
    have f3:=HX.out.frozen 3
    have f4:=HX.out.frozen 4
    go_wp2_with fail
    refine bodyPost_ret (v:=.tuple #[.agg #[.int .i64 0,.int .i64 0,.int .i64 0,.int .i64 0,.slice none 0 0],.int .i64 4]) ?_ rfl ?_
    ·unfold results
     go_simp
    ·rw [HN.out]
     exact ⟨rfl,((((HBB.out.setCell (p:=⟨bx+1,0,none⟩) (Nat.le_succ _) _).setCell (p:=⟨bx+1,1,none⟩) (Nat.le_succ _) _).setCell (p:=⟨bx+1,2,none⟩) (Nat.le_succ _) _).setCell (p:=⟨bx+1,3,none⟩) (Nat.le_succ _) _).setCell (p:=⟨bx+1,4,none⟩) (Nat.le_succ _) _⟩
   ·have hk4i:¬ (4:Int) < (kx.toNat:Int):=by omega
    obtain ⟨x,hx⟩:∃ x,unR K n rs prev k=x:=⟨_,rfl⟩
    have HST:Hid (unF K n rs (k+1)=some (out ++ x,x)):=(show _=_ by rw [← hx];exact unF_step HU.out (by rw [HUK.out];exact hk4))
    have hxl:x.length=n:=by rw [← hx];exact unR_len (by have h1:(k+1) * (n+1)≤H * (n+1):=Nat.mul_le_mul_right _ (by omega);have h2:=HM.out;have h3:=HLEN.out;omega)
    have hxe:undoB (kx.toNat:Int) (K:Int) prev ((rs.drop (q+1)).take n)=x:=by rw [← hx];unfold unR;rw [HUK.out,HQ.out]
    have HUD:Hid (∀ w3 c',RdB w3 w3.heap.size Ap np prev→RdB w3 B (some ⟨b,o+q+1,none⟩) n ((rs.drop (q+1)).take n)→B≤w3.heap.size→Calls Tryz.prog 87 #[.int .i64 (kx.toNat:Int),.int .i64 (K:Int),.slice Ap np cp,.slice (some ⟨b,o+q+1,none⟩) n c'] w3 fun e w'=>∃ v,e=.returned (.tuple #[v,.int .i64 0])∧ownB w' w3.heap.size v x∧Below w3.heap.size w3 w'):=(show ∀ w3 c',_ from fun w3 c' h1 h2 h3=>by
     have:=undo_any (kx.toNat:Int) (K:Int) w3.heap.size np cp B n c' Ap (some ⟨b,o+q+1,none⟩) prev ((rs.drop (q+1)).take n) w3 h1 h2 (Nat.le_refl _) h3 (by omega)
     rw [undoR_row hK1 hK8 (by omega) h2.len (HUL.out.2),hxe] at this
     exact this)
    have HXL:=Lib.hid hxl
    have hol:out.length≤600000:=by
     have h1:out.length=k * n:=HUL.out.1
     have h2:k * n≤256 * 2048:=Nat.mul_le_mul (by omega) (by omega)
     omega
    obtain ⟨Ao,co,rfl,-,-,-⟩:=HO.out.form
    have hkw:IntKind.i64.wrap (kx.toNat:Int)=(kx.toNat:Int):=wrap_i64_lt _ (by omega)
    have hc1:¬ c - q=1:=by have:=HQ12.out;omega
    have hc2:(1:Int)≤((n:Int)+1):=by omega
    have hc3:1≤n+1:=by omega
    have hc4:1≤c - q:=by omega
    have hVO:∀ g,(Value.slice Ao out.length co).ownBlock=some g→g < wr.heap.size:=fun g hg=>(World.ownsRow.lt HO.out g hg).2
    have HVO:=Lib.hid hVO
    have hbr:B≤wr.heap.size:=by omega
    clear hx hxe hxl hVO HKX
    go_upto_region 9 with fail
    go_cut [11,12] (fun vx ve wx=>∃ Ax cx,vx=.slice Ax n cx∧ve=.int .i64 0∧ownB wx wr.heap.size (.slice Ax n cx) x∧Below wr.heap.size wr wx)
    case first =>
     have HX3:=Lib.hid (Below.refl wr.heap.size wr)
     go_region_held3 (fun w'=>w'.cell? ⟨bx,0,none⟩=some (.int .i64 (W:Int))∧w'.cell? ⟨bx,1,none⟩=some (.int .i64 (H:Int))∧w'.cell? ⟨bx,2,none⟩=some (.int .i64 (C:Int))∧w'.cell? ⟨bx,3,none⟩=some (.int .i64 (D:Int))∧w'.cell? ⟨b,o+q,none⟩=some (.int .u8 (kx.toNat:Int)))
      (first | go_keep | (with_reducible exact ⟨b0,b1,b2,b3,ek⟩) | (with_reducible exact ⟨d0,d1,d2,d3,d4⟩) | (with_reducible exact ⟨r0,r1,r2,r3,r4⟩))
      (first
      | (go_at_call 73;(with_reducible refine (HBP.out _).mono ?_);go_must (rintro e w3 ⟨rfl,hb3⟩;have hb3':Below wr.heap.size wr w3:=⟨hb3.os,hb3.tape,hb3.output,hb3.size,hb3.block⟩;have HA3:=Lib.hid (HA.out.later hb3');have d0:=HA3.out.cell (k:=0) rfl;have d1:=HA3.out.cell (k:=1) rfl;have d2:=HA3.out.cell (k:=2) rfl;have d3:=HA3.out.cell (k:=3) rfl;have d4:=bsame hb3' (by omega) ek;have hz3:=hb3'.size;have HUD3:=Lib.hid (HUD.out w3 (c - q - 1) (HP.out.later hb3').1 (RdB.blw HRR.out (hb3'.mono hbr)) (Nat.le_trans hbr hz3));have HB3:=Lib.hid hb3';clear hb3 hb3'))
      | (go_at_call 87;(with_reducible refine HUD3.out.mono ?_);go_must (rintro e w4 ⟨v4,rfl,ho4,hb4⟩;obtain ⟨A4,c4,hv4,-,-,-⟩:=ho4.form;rw [HXL.out] at hv4;subst hv4;have HO4:=Lib.hid (ho4.mono hz3);have HB4:=Lib.hid (HB3.out.trans (hb4.mono hz3));have HA4:=Lib.hid (HA.out.later HB4.out);have r0:=HA4.out.cell (k:=0) rfl;have r1:=HA4.out.cell (k:=1) rfl;have r2:=HA4.out.cell (k:=2) rfl;have r3:=HA4.out.cell (k:=3) rfl;have r4:=bsame HB4.out (by omega) ek;clear ho4 hb4)))
     all_goals
      go_wp2_with fail
      go_meet
      case rel=>exact ⟨_,_,rfl,rfl,HO4.out,HB4.out⟩
    case rest =>
    obtain ⟨Ax,cx,rfl,rfl,ho5,hb5⟩:=hcut
    have HO5:=Lib.hid ho5
    have HR5:=Lib.hid ho5.rd
    have HVL:=Lib.hid (HO.out.later hb5)
    have HP5:Hid (Pv wc (Value.slice Ao out.length co).ownBlock Ax n x):=(show Pv _ _ _ _ _ by
     have hxl:=HXL.out
     subst hxl
     exact Pv.new ho5 HVO.out)
    have HB5:=Lib.hid (HB.out.trans (hb5.mono hz))
    have hz5:bx+2≤wc.heap.size:=Nat.le_trans hz hb5.size
    clear ho5 hb5
    go_wp2_with (at_builtin;(refine wpList_appendB rfl (.tmp 53) (.tmp 54) rfl (bx+2) (.slice Ao out.length co) out rfl HVL.out _ n cx Ax x rfl HR5.out (by omega) hz5 ?_;intro v6 w6 ho6 hg6 hb6 hat6;have HO6:=Lib.hid ho6;have HG6:=Lib.hid hg6;have HB6:=Lib.hid (HB5.out.trans hb6);have HAT6:=Lib.hid hat6;clear ho6 hg6 hb6 hat6))
    go_roundw
    case rel=>exact ⟨k+1,Ax,n,cx,(out ++ x,x),by omega,by go_num,HST.out,HO6.out,rfl,HP5.out.gro HG6.out HAT6.out,HB6.out⟩
    case measure=>simp [intOf];omega
  ·obtain rfl:k=H:=by omega
   have hlti:¬ (k:Int) < (k:Int):=by omega
   obtain ⟨Ao,co,rfl,-,-,-⟩:=HO.out.form
   have b0:=HA.out.cell (k:=0) rfl
   have b1:=HA.out.cell (k:=1) rfl
   have b2:=HA.out.cell (k:=2) rfl
   have b3:=HA.out.cell (k:=3) rfl
   have z0:=HX.out.cell (k:=0) rfl
   have z1:=HX.out.cell (k:=1) rfl
   have z2:=HX.out.cell (k:=2) rfl
   have z3:=HX.out.cell (k:=3) rfl
   have z4:=HX.out.cell (k:=4) rfl
   have f0:=HX.out.frozen 0
   have f1:=HX.out.frozen 1
   have f2:=HX.out.frozen 2
   have f3:=HX.out.frozen 3
   have f4:=HX.out.frozen 4
   have hne:(Value.slice Ao out.length co).ownBlock ≠ some (bx+1):=ownB_ne HO.out (Nat.lt_succ_self _)
   have HNE:=Lib.hid hne
   clear hne
   go_wp2_with fail
   refine bodyPost_ret (v:=.tuple #[.agg #[.int .i64 (W:Int),.int .i64 (k:Int),.int .i64 (C:Int),.int .i64 (D:Int),.slice Ao out.length co],.int .i64 0]) ?_ rfl ?_
   ·unfold results
    go_simp
   ·rw [HU.out]
    exact ⟨_,rfl,(((((HO.out.far HNE.out 0 _).far HNE.out 1 _).far HNE.out 2 _).far HNE.out 3 _).far HNE.out 4 _).mono (by omega),((((HBB.out.setCell (p:=⟨bx+1,0,none⟩) (Nat.le_succ _) _).setCell (p:=⟨bx+1,1,none⟩) (Nat.le_succ _) _).setCell (p:=⟨bx+1,2,none⟩) (Nat.le_succ _) _).setCell (p:=⟨bx+1,3,none⟩) (Nat.le_succ _) _).setCell (p:=⟨bx+1,4,none⟩) (Nat.le_succ _) _⟩
end Go.Proofs.YtebbdifhiihfkaaGreatDoor

