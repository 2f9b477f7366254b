/- XPngChunks XPngChunksW -/
import Derived.Test.YteoolehdomjkkaaGreatDoorMf47
import Derived.Test.YteoolehdomjkkaaGreatDoorMf40
import Derived.Test.YteoolehdomjkkaaGreatDoorMf43
import Derived.Test.YteoolehdomjkkaaGreatDoorMf48
import Derived.Test.YteoolehdomjkkaaGreatDoorMf32
namespace Go.Proofs.YteoolehdomjkkaaGreatDoor
set_option linter.all false
open Go.RowKit
theorem rdB_al {w:World} {A:Option Addr} {n:Nat} {bs:List UInt8} (h:RdB w w.heap.size A n bs) (o:Obj):RdB (w.alloc o) (w.alloc o).heap.size A n bs:=Rd.here (Rd.alloc h (Nat.le_refl _) o)
theorem bytesC_any (n n' c c':Nat) (A A':Option Addr) (xs ys:List UInt8) (w:World) (h:RdB w w.heap.size A n xs) (h':RdB w w.heap.size A' n' ys) (he:xs=ys) :
  Calls Tryz.prog 11 #[.slice A n c,.slice A' n' c'] w fun e w'=>e=.returned (.bool true)∧w=w':=by
 subst he
 refine (bytes_any _ _ _ _ _ _ _ _ _ _ _ h h').mono ?_
 rintro e w' ⟨rfl,h⟩
 exact ⟨by simp,h⟩
theorem rasterC_any (W H C D:Int) (n c c':Nat) (A A':Option Addr) (xs:List UInt8) (w:World) (h:RdB w w.heap.size A n xs) (h':RdB w w.heap.size A' n xs) :
  Calls Tryz.prog 14 #[.agg #[.int .i64 W,.int .i64 H,.int .i64 C,.int .i64 D,.slice A n c],.agg #[.int .i64 W,.int .i64 H,.int .i64 C,.int .i64 D,.slice A' n c']] w fun e w'=>e=.returned (.bool true)∧Below w.heap.size w w':=by
 refine (sameR_any ⟨W,H,C,D⟩ ⟨W,H,C,D⟩ _ n c _ n c' A A' xs xs w h h' (Nat.le_refl _) (Nat.le_refl _)).mono ?_
 rintro e w' ⟨rfl,h⟩
 exact ⟨by simp,h⟩
set_option maxRecDepth 100000 in
set_option maxHeartbeats 6400000 in
theorem pngChunks_out (W H C D:Int) (A A2:Option Addr) (n c n2 c2:Nat) (bs data:List UInt8) (ch:Nat) (mv:Bool) (w:World) (h:RdB w w.heap.size A n bs) (h2:RdB w w.heap.size A2 n2 data)
  (hmv:Sh.mayR ⟨W,H,C,D⟩ n=mv) (hk:3000 < n∨500 < n2∨ch < 97∨122 < ch∨mv=false) :
  Calls Tryz.prog 4 #[.agg #[.int .i64 W,.int .i64 H,.int .i64 C,.int .i64 D,.slice A n c],.slice A2 n2 c2,.int .u8 (ch:Int)] w fun e w'=>e=.returned (.bool true)∧Below w.heap.size w w':=by
 have HMY:=Lib.hid (fun w=>may_any ⟨W,H,C,D⟩ A n c w)
 rw [hmv] at HMY
 dsimp only [Sh.r] at HMY
 clear hmv
 have hln:=h.len
 have hln2:=h2.len
 obtain ⟨w1,hw1⟩:∃ w1,w.alloc (.cells #[.int .i64 W,.int .i64 H,.int .i64 C,.int .i64 D,.slice A n c] 39)=w1:=⟨_,rfl⟩
 obtain ⟨bk,hbk⟩:∃ b,w.heap.size=b:=⟨_,rfl⟩
 have HA:Hid (Arr w1 bk [.int .i64 W,.int .i64 H,.int .i64 C,.int .i64 D,.slice A n c]):=(show Arr _ _ _ by rw [← hw1,← hbk];exact Arr.new w [.int .i64 W,.int .i64 H,.int .i64 C,.int .i64 D,.slice A n c] _)
 have HB:Hid (Below bk w w1):=(show Below _ _ _ by rw [← hw1,← hbk];exact (Below.refl w.heap.size w).alloc (Nat.le_refl _) _)
 have HR:Hid (RdB w1 w1.heap.size A n bs):=(show RdB _ _ _ _ _ by rw [← hw1];exact Rd.here (Rd.alloc h (Nat.le_refl _) _))
 have HD:Hid (RdB w1 w1.heap.size A2 n2 data):=(show RdB _ _ _ _ _ by rw [← hw1];exact Rd.here (Rd.alloc h2 (Nat.le_refl _) _))
 have hbz:bk≤w1.heap.size:=by rw [← hw1,World.size_alloc,hbk];exact Nat.le_succ _
 have a0:=HA.out.cell (k:=0) rfl
 have a1:=HA.out.cell (k:=1) rfl
 have a2:=HA.out.cell (k:=2) rfl
 have a3:=HA.out.cell (k:=3) rfl
 have a4:=HA.out.cell (k:=4) rfl
 rw [hbk]
 clear h h2 hln hln2
 by_cases t1:3000 < n
 ·have t1i:(3000:Int) < (n:Int):=by omega
  go_enter Tryz.func4,Tryz.ntmps4
  (try simp only [hw1,hbk])
  go_wp2_with (first
   | (go_at_call 7;(with_reducible refine (first13_any _).mono ?_);go_must (rintro e wf ⟨rfl,hb⟩;replace HA:=Lib.hid (HA.out.later hb);replace HB:=Lib.hid (HB.out.trans (hb.mono hbz));replace HR:=Lib.hid (RdB.later HR.out hb);replace HD:=Lib.hid (RdB.later HD.out hb);replace hbz:=Nat.le_trans hbz hb.size;replace a0:=HA.out.cell (k:=0) rfl;replace a1:=HA.out.cell (k:=1) rfl;replace a2:=HA.out.cell (k:=2) rfl;replace a3:=HA.out.cell (k:=3) rfl;replace a4:=HA.out.cell (k:=4) rfl;clear hb))
   | (go_at_call 15;(with_reducible refine (HMY.out _).mono ?_);go_must (rintro e wm ⟨rfl,hb⟩;replace HA:=Lib.hid (HA.out.later hb);replace HB:=Lib.hid (HB.out.trans (hb.mono hbz));replace HR:=Lib.hid (RdB.later HR.out hb);replace HD:=Lib.hid (RdB.later HD.out hb);replace hbz:=Nat.le_trans hbz hb.size;replace a0:=HA.out.cell (k:=0) rfl;replace a1:=HA.out.cell (k:=1) rfl;replace a2:=HA.out.cell (k:=2) rfl;replace a3:=HA.out.cell (k:=3) rfl;replace a4:=HA.out.cell (k:=4) rfl;clear hb)))
  go_ret
  exact ⟨rfl,HB.out⟩
 ·have t1i:¬ (3000:Int) < (n:Int):=by omega
  by_cases t2:500 < n2
  ·have t2i:(500:Int) < (n2:Int):=by omega
   go_enter Tryz.func4,Tryz.ntmps4
   (try simp only [hw1,hbk])
   go_wp2_with (first
    | (go_at_call 7;(with_reducible refine (first13_any _).mono ?_);go_must (rintro e wf ⟨rfl,hb⟩;replace HA:=Lib.hid (HA.out.later hb);replace HB:=Lib.hid (HB.out.trans (hb.mono hbz));replace HR:=Lib.hid (RdB.later HR.out hb);replace HD:=Lib.hid (RdB.later HD.out hb);replace hbz:=Nat.le_trans hbz hb.size;replace a0:=HA.out.cell (k:=0) rfl;replace a1:=HA.out.cell (k:=1) rfl;replace a2:=HA.out.cell (k:=2) rfl;replace a3:=HA.out.cell (k:=3) rfl;replace a4:=HA.out.cell (k:=4) rfl;clear hb))
    | (go_at_call 15;(with_reducible refine (HMY.out _).mono ?_);go_must (rintro e wm ⟨rfl,hb⟩;replace HA:=Lib.hid (HA.out.later hb);replace HB:=Lib.hid (HB.out.trans (hb.mono hbz));replace HR:=Lib.hid (RdB.later HR.out hb);replace HD:=Lib.hid (RdB.later HD.out hb);replace hbz:=Nat.le_trans hbz hb.size;replace a0:=HA.out.cell (k:=0) rfl;replace a1:=HA.out.cell (k:=1) rfl;replace a2:=HA.out.cell (k:=2) rfl;replace a3:=HA.out.cell (k:=3) rfl;replace a4:=HA.out.cell (k:=4) rfl;clear hb)))
   go_ret
   exact ⟨rfl,HB.out⟩
  ·have t2i:¬ (500:Int) < (n2:Int):=by omega
   by_cases t3:ch < 97
   ·have t3i:(ch:Int) < 97:=by omega
    go_enter Tryz.func4,Tryz.ntmps4
    (try simp only [hw1,hbk])
    go_wp2_with (first
     | (go_at_call 7;(with_reducible refine (first13_any _).mono ?_);go_must (rintro e wf ⟨rfl,hb⟩;replace HA:=Lib.hid (HA.out.later hb);replace HB:=Lib.hid (HB.out.trans (hb.mono hbz));replace HR:=Lib.hid (RdB.later HR.out hb);replace HD:=Lib.hid (RdB.later HD.out hb);replace hbz:=Nat.le_trans hbz hb.size;replace a0:=HA.out.cell (k:=0) rfl;replace a1:=HA.out.cell (k:=1) rfl;replace a2:=HA.out.cell (k:=2) rfl;replace a3:=HA.out.cell (k:=3) rfl;replace a4:=HA.out.cell (k:=4) rfl;clear hb))
     | (go_at_call 15;(with_reducible refine (HMY.out _).mono ?_);go_must (rintro e wm ⟨rfl,hb⟩;replace HA:=Lib.hid (HA.out.later hb);replace HB:=Lib.hid (HB.out.trans (hb.mono hbz));replace HR:=Lib.hid (RdB.later HR.out hb);replace HD:=Lib.hid (RdB.later HD.out hb);replace hbz:=Nat.le_trans hbz hb.size;replace a0:=HA.out.cell (k:=0) rfl;replace a1:=HA.out.cell (k:=1) rfl;replace a2:=HA.out.cell (k:=2) rfl;replace a3:=HA.out.cell (k:=3) rfl;replace a4:=HA.out.cell (k:=4) rfl;clear hb)))
    go_ret
    exact ⟨rfl,HB.out⟩
   ·have t3i:¬ (ch:Int) < 97:=by omega
    by_cases t4:122 < ch
    ·have t4i:(122:Int) < (ch:Int):=by omega
     go_enter Tryz.func4,Tryz.ntmps4
     (try simp only [hw1,hbk])
     go_wp2_with (first
      | (go_at_call 7;(with_reducible refine (first13_any _).mono ?_);go_must (rintro e wf ⟨rfl,hb⟩;replace HA:=Lib.hid (HA.out.later hb);replace HB:=Lib.hid (HB.out.trans (hb.mono hbz));replace HR:=Lib.hid (RdB.later HR.out hb);replace HD:=Lib.hid (RdB.later HD.out hb);replace hbz:=Nat.le_trans hbz hb.size;replace a0:=HA.out.cell (k:=0) rfl;replace a1:=HA.out.cell (k:=1) rfl;replace a2:=HA.out.cell (k:=2) rfl;replace a3:=HA.out.cell (k:=3) rfl;replace a4:=HA.out.cell (k:=4) rfl;clear hb))
      | (go_at_call 15;(with_reducible refine (HMY.out _).mono ?_);go_must (rintro e wm ⟨rfl,hb⟩;replace HA:=Lib.hid (HA.out.later hb);replace HB:=Lib.hid (HB.out.trans (hb.mono hbz));replace HR:=Lib.hid (RdB.later HR.out hb);replace HD:=Lib.hid (RdB.later HD.out hb);replace hbz:=Nat.le_trans hbz hb.size;replace a0:=HA.out.cell (k:=0) rfl;replace a1:=HA.out.cell (k:=1) rfl;replace a2:=HA.out.cell (k:=2) rfl;replace a3:=HA.out.cell (k:=3) rfl;replace a4:=HA.out.cell (k:=4) rfl;clear hb)))
     go_ret
     exact ⟨rfl,HB.out⟩
    ·have t4i:¬ (122:Int) < (ch:Int):=by omega
     obtain rfl:mv=false:=by
      rcases hk with h | h | h | h | h
      ·exact absurd h t1
      ·exact absurd h t2
      ·exact absurd h t3
      ·exact absurd h t4
      ·exact h
     go_enter Tryz.func4,Tryz.ntmps4
     (try simp only [hw1,hbk])
     go_wp2_with (first
      | (go_at_call 7;(with_reducible refine (first13_any _).mono ?_);go_must (rintro e wf ⟨rfl,hb⟩;replace HA:=Lib.hid (HA.out.later hb);replace HB:=Lib.hid (HB.out.trans (hb.mono hbz));replace HR:=Lib.hid (RdB.later HR.out hb);replace HD:=Lib.hid (RdB.later HD.out hb);replace hbz:=Nat.le_trans hbz hb.size;replace a0:=HA.out.cell (k:=0) rfl;replace a1:=HA.out.cell (k:=1) rfl;replace a2:=HA.out.cell (k:=2) rfl;replace a3:=HA.out.cell (k:=3) rfl;replace a4:=HA.out.cell (k:=4) rfl;clear hb))
      | (go_at_call 15;(with_reducible refine (HMY.out _).mono ?_);go_must (rintro e wm ⟨rfl,hb⟩;replace HA:=Lib.hid (HA.out.later hb);replace HB:=Lib.hid (HB.out.trans (hb.mono hbz));replace HR:=Lib.hid (RdB.later HR.out hb);replace HD:=Lib.hid (RdB.later HD.out hb);replace hbz:=Nat.le_trans hbz hb.size;replace a0:=HA.out.cell (k:=0) rfl;replace a1:=HA.out.cell (k:=1) rfl;replace a2:=HA.out.cell (k:=2) rfl;replace a3:=HA.out.cell (k:=3) rfl;replace a4:=HA.out.cell (k:=4) rfl;clear hb)))
     go_ret
     exact ⟨rfl,HB.out⟩
/-- The region that lays a chunk ahead of the end. -/
def chkInv1 (mk:(Nat→Value)→Act) (g5 n5 c5 m n2 c2:Nat) (A2:Option Addr) (l5 data:List UInt8) (ch:UInt8) (z:Nat) (w0:World) (f:Nat→Bool) (a:Act) (w:World):Prop :=
 ∃ (v:Nat→Value),a=mk v ∧
  (f 0=true→v 67=.slice (some ⟨g5,0,none⟩) n5 c5) ∧
  (f 1=true→v 68=.int .i64 (m:Int)) ∧
  (f 2=true→v 69=.slice (some ⟨g5,0,none⟩) m c5) ∧
  (f 3=true→f 7=false→ownB w z (v 70) (l5.take m)) ∧
  (f 4=true→v 71=.string ⟨#[ch,88,121,122]⟩) ∧
  (f 5=true→v 72=.slice A2 n2 c2) ∧
  (f 6=true→f 7=false→ownB w z (v 73) (chQ ([ch,88,121,122],data))) ∧
  (f 7=true→f 11=false→ownB w z (v 74) (l5.take m ++ chQ ([ch,88,121,122],data))) ∧
  (f 8=true→v 75=.slice (some ⟨g5,0,none⟩) n5 c5) ∧
  (f 9=true→v 76=.int .i64 (m:Int)) ∧
  (f 10=true→v 77=.slice (some ⟨g5,m,none⟩) (n5 - m) (c5 - m)) ∧
  (f 11=true→ownB w z (v 78) (l5.take m ++ chQ ([ch,88,121,122],data) ++ l5.drop m)) ∧
  (f 12=true→ownB w z (v 12) (l5.take m ++ chQ ([ch,88,121,122],data) ++ l5.drop m)) ∧
  (f 3=true→f 7=false→f 6=true→∀ g,(v 70).ownBlock=some g→(v 73).ownBlock ≠ some g) ∧
  (f 12=true→f 11=true) ∧
  (f 7=true→f 3=true) ∧
  (f 11=true→f 7=true) ∧
  (f 7=true→f 6=true) ∧
  (Below z w0 w)
/-- The same behind it. -/
def chkInv2 (mk:(Nat→Value)→Act) (g5 n5 c5 m n2 c2:Nat) (A2:Option Addr) (l5 data:List UInt8) (ch:UInt8) (z:Nat) (w0:World) (f:Nat→Bool) (a:Act) (w:World):Prop :=
 ∃ (v:Nat→Value),a=mk v ∧
  (f 0=true→v 79=.slice (some ⟨g5,0,none⟩) n5 c5) ∧
  (f 1=true→v 80=.int .i64 (m:Int)) ∧
  (f 2=true→v 81=.slice (some ⟨g5,0,none⟩) m c5) ∧
  (f 3=true→f 7=false→ownB w z (v 82) (l5.take m)) ∧
  (f 4=true→v 83=.string ⟨#[ch - 32,88,89,90]⟩) ∧
  (f 5=true→v 84=.slice A2 n2 c2) ∧
  (f 6=true→f 7=false→ownB w z (v 85) (chQ ([ch - 32,88,89,90],data))) ∧
  (f 7=true→f 11=false→ownB w z (v 86) (l5.take m ++ chQ ([ch - 32,88,89,90],data))) ∧
  (f 8=true→v 87=.slice (some ⟨g5,0,none⟩) n5 c5) ∧
  (f 9=true→v 88=.int .i64 (m:Int)) ∧
  (f 10=true→v 89=.slice (some ⟨g5,m,none⟩) (n5 - m) (c5 - m)) ∧
  (f 11=true→ownB w z (v 90) (l5.take m ++ chQ ([ch - 32,88,89,90],data) ++ l5.drop m)) ∧
  (f 12=true→ownB w z (v 13) (l5.take m ++ chQ ([ch - 32,88,89,90],data) ++ l5.drop m)) ∧
  (f 3=true→f 7=false→f 6=true→∀ g,(v 82).ownBlock=some g→(v 85).ownBlock ≠ some g) ∧
  (f 12=true→f 11=true) ∧
  (f 7=true→f 3=true) ∧
  (f 11=true→f 7=true) ∧
  (f 7=true→f 6=true) ∧
  (Below z w0 w)
set_option maxRecDepth 100000 in
set_option maxHeartbeats 12800000 in
theorem pngChunks_main (W H C D K:Nat) (A A2:Option Addr) (n c n2 c2:Nat) (bs data:List UInt8) (ch:UInt8) (w:World) (h:RdB w w.heap.size A n bs) (h2:RdB w w.heap.size A2 n2 data) (hc:n≤c)
  (hs:PS W H C D K) (hz:H * (W * K)≤16384) (hn:n=H * (W * K)) (t1:n≤3000) (t2:n2≤500) (t3:97≤ch.toNat) (t4:ch.toNat≤122) :
  Calls Tryz.prog 4 #[.agg #[.int .i64 (W:Int),.int .i64 (H:Int),.int .i64 (C:Int),.int .i64 (D:Int),.slice A n c],.slice A2 n2 c2,.int .u8 (ch.toNat:Int)] w fun e w'=>e=.returned (.bool true)∧Below w.heap.size w w':=by
 have HMY:=Lib.hid (fun w=>may_any ⟨W,H,C,D⟩ A n c w)
 have hmr:=hs.mayR hz
 rw [← hn] at hmr
 rw [hmr] at HMY
 dsimp only [Sh.r] at HMY
 have hbl:bs.length=H * (W * K):=h.len.trans hn
 have HEN:=Lib.hid (fun A c (w:World) (h:RdB w w.heap.size A n bs) (hc:n≤c)=>encode_any W H C D K n c w.heap.size A bs w hs hz h (Nat.le_refl _) hn hc)
 have hfl:=flF_len (K:=K) (n:=W * K) (bs:=bs) hs.k1 hs.k8 H (by omega)
 have hNN:H * (W * K+1)≤20000:=by rw [Nat.mul_add,Nat.mul_one];have:=hs.h2;omega
 have hd13:=(hdrL_get W H C D 0).1
 obtain ⟨o1,o2,o3,o4,o5,o6⟩:=head_ok hs hz
 have hdr:∀ z,PK (flF K (W * K) bs H) z→decR W H C D K (H * (W * K+1)) (wholP z ((H * (W * K+1):Nat):Int))=(⟨W,H,C,D⟩,bs,0):=fun z hp=>decR_ok hs hz hbl hp
 have hzl:∀ z,PK (flF K (W * K) bs H) z→z.length≤21000:=fun z hp=>by have:=hp.len;omega
 have hlb:∀ l,FileI (hdrL W H C D 0) (flF K (W * K) bs H) l→57≤l.length∧l.length≤30000:=fun l hl=>by
  obtain ⟨z,hp,rfl⟩:=hl
  have h1:=file_len (hdrL W H C D 0) z hd13
  have h2:=hzl z hp
  omega
 have HLB:=Lib.hid hlb
 obtain ⟨fl,hfle⟩:∃ fl,flF K (W * K) bs H=fl:=⟨_,rfl⟩
 obtain ⟨hd,hde⟩:∃ hd,hdrL W H C D 0=hd:=⟨_,rfl⟩
 have hln2a:=h2.len
 have hng:GoodC ([ch,88,121,122],data):=good_name (letB_low t3 t4) (by decide) (by decide) (by decide) (by omega)
 have h32n:(ch - 32).toNat=ch.toNat - 32:=by rw [UInt8.toNat_sub];show (256 - 32+ch.toNat) % 256=_;omega
 have hgg:GoodC ([ch - 32,88,89,90],data):=good_name (letB_up (by omega) (by omega)) (by decide) (by decide) (by decide) (by omega)
 rw [hfle,hde] at HEN HLB
 rw [hfle] at hdr hzl
 rw [hde] at hd13 o1 o2 o3 o4 o5 o6
 have hgood:∀ z,PK fl z→∀ x,GoodC x→∀ y ∈ [(IHDR,hd),(IDAT,z),x,(IEND,[])],GoodC y:=fun z hp x hx y hy=>by
  have:=hzl z hp
  rcases List.mem_cons.1 hy with rfl | hy
  ·exact ⟨rfl,rfl,by show hd.length≤_;omega⟩
  ·rcases List.mem_cons.1 hy with rfl | hy
   ·exact ⟨rfl,rfl,by show z.length≤_;omega⟩
   ·rcases List.mem_cons.1 hy with rfl | hy
    ·exact hx
    ·rcases List.mem_cons.1 hy with rfl | hy
     ·exact ⟨rfl,rfl,Nat.zero_le _⟩
     ·cases hy
 have kk:∀ (a x y z:UInt8),88≤x.toNat→x.toNat≤88→([a,x,y,z] == IHDR)=false∧([a,x,y,z] == PLTE)=false∧([a,x,y,z] == IDAT)=false∧([a,x,y,z] == IEND)=false:=fun a x y z hx hx2=>by
  refine ⟨beq_eq_false_iff_ne.2 fun e=>?_,beq_eq_false_iff_ne.2 fun e=>?_,beq_eq_false_iff_ne.2 fun e=>?_,beq_eq_false_iff_ne.2 fun e=>?_⟩ <;>
   ·injection e with _ e
    injection e with e _
    rw [e] at hx hx2
    revert hx hx2
    decide
 obtain ⟨ka,kb,kc,kd⟩:=kk ch 88 121 122 (by decide) (by decide)
 obtain ⟨la,lb,lc,ld⟩:=kk (ch - 32) 88 89 90 (by decide) (by decide)
 have hcx:∀ z,PK fl z→chunksP (markL ++ flatQ [(IHDR,hd),(IDAT,z),([ch,88,121,122],data),(IEND,[])])=(0,[(IHDR,hd),(IDAT,z),([ch,88,121,122],data),(IEND,[])]):=fun z hp=>chunksP_flat (hgood z hp _ hng)
 have hcy:∀ z,PK fl z→chunksP (markL ++ flatQ [(IHDR,hd),(IDAT,z),([ch - 32,88,89,90],data),(IEND,[])])=(0,[(IHDR,hd),(IDAT,z),([ch - 32,88,89,90],data),(IEND,[])]):=fun z hp=>chunksP_flat (hgood z hp _ hgg)
 have HCK:Hid (∀ z,PK fl z→∀ (w:World) A m c,RdB w w.heap.size A m (markL ++ flatQ [(IHDR,hd),(IDAT,z),([ch,88,121,122],data),(IEND,[])])→m≤c→m≤1000000→Calls Tryz.prog 9 #[.slice A m c] w fun e w'=>∃ A9 c9 lq,e=.returned (.tuple #[.slice A9 4 c9,.int .i64 0])∧RdQ w' w'.heap.size A9 4 lq∧CR w' none lq [(IHDR,hd),(IDAT,z),([ch,88,121,122],data),(IEND,[])]∧4≤c9∧Below w.heap.size w w'):=(show ∀ z,_ from fun z hp w A m c h1 h2 h3=>by
  refine (chunks_any w.heap.size m c A _ w h1 (Nat.le_refl _) h2 h3).mono ?_
  rintro e w' hh
  unfold ChPost at hh
  rw [hcx z hp] at hh
  obtain ⟨A9,n9,c9,lq,rfl,hr,hcr,h9,hb⟩:=hh
  obtain rfl:n9=4:=hr.len.symm.trans hcr.1
  exact ⟨A9,c9,lq,rfl,hr,hcr,h9,hb⟩)
 have HDX:Hid (∀ z,PK fl z→∀ (w:World) A m c,RdB w w.heap.size A m (markL ++ flatQ [(IHDR,hd),(IDAT,z),([ch,88,121,122],data),(IEND,[])])→m≤c→m≤1000000→Calls Tryz.prog 12 #[.slice A m c] w fun e w'=>∃ A9 c9,e=.returned (.tuple #[.agg #[.int .i64 (W:Int),.int .i64 (H:Int),.int .i64 (C:Int),.int .i64 (D:Int),.slice A9 n c9],.int .i64 0])∧RdB w' w'.heap.size A9 n bs∧Below w.heap.size w w'):=(show ∀ z,_ from fun z hp w A m c h1 h2 h3=>by
  have hq:=hcx z hp
  refine (decode_plain W H C D K (H * (W * K+1)) ⟨W,H,C,D⟩ bs 0 w.heap.size m c A _ w h1 (Nat.le_refl _) h2 h3 (by rw [hq]) (by rw [hq];exact sound4 hd13 ka kb kc kd (by show ¬ ch.toNat≤90;omega)) (by rw [hq];exact o1) (by rw [hq];exact o2) (by rw [hq];exact o3) (by rw [hq];exact o4) (by rw [hq];exact o5) (by rw [hq];exact o6) hs hz rfl (by
   rw [hq]
   have hdl:datL [(IHDR,hd),(IDAT,z),([ch,88,121,122],data),(IEND,[])]=z:=by
    have e1:¬ (([ch,88,121,122],data):CK).1=IDAT:=fun e=>by have:=beq_iff_eq.2 e;rw [kc] at this;cases this
    unfold datL
    rw [List.flatMap_cons,List.flatMap_cons,List.flatMap_cons,List.flatMap_cons,List.flatMap_nil,if_neg (show ¬ IHDR=IDAT by decide),if_pos rfl,if_neg e1,if_neg (show ¬ IEND=IDAT by decide)]
    simp
   show decR W H C D K _ (wholP (datL [(IHDR,hd),(IDAT,z),([ch,88,121,122],data),(IEND,[])]) _)=_
   rw [hdl]
   exact hdr z hp)).mono ?_
  rintro e w' ⟨v,rfl,ho,hb⟩
  obtain ⟨A9,c9,rfl,hr,-,-⟩:=ho.form
  have hbn:bs.length=n:=hbl.trans hn.symm
  rw [hbn] at hr ⊢
  exact ⟨A9,c9,rfl,hr,hb⟩)
 have HDY:Hid (∀ z,PK fl z→∀ (w:World) A m c,RdB w w.heap.size A m (markL ++ flatQ [(IHDR,hd),(IDAT,z),([ch - 32,88,89,90],data),(IEND,[])])→m≤c→m≤1000000→Calls Tryz.prog 12 #[.slice A m c] w fun e w'=>∃ A9 n9 c9,e=.returned (.tuple #[.agg #[.int .i64 0,.int .i64 0,.int .i64 0,.int .i64 0,.slice A9 n9 c9],.int .i64 4])∧Below w.heap.size w w'):=(show ∀ z,_ from fun z hp w A m c h1 h2 h3=>by
  have hq:=hcy z hp
  refine (decode_unsound w.heap.size m c A _ w h1 (Nat.le_refl _) h2 h3 (by rw [hq]) (by rw [hq];exact unsound4 la lb lc ld (by show (ch - 32).toNat≤90;omega))).mono ?_
  rintro e w' ⟨v,rfl,ho,hb⟩
  obtain ⟨A9,c9,rfl,-,-,-⟩:=ho.form
  exact ⟨A9,_,c9,rfl,hb⟩)
 have t1i:¬ (3000:Int) < (n:Int):=by omega
 have t2i:¬ (500:Int) < (n2:Int):=by omega
 have t3i:¬ (ch.toNat:Int) < 97:=by omega
 have t4i:¬ (122:Int) < (ch.toNat:Int):=by omega
 have h32:IntKind.u8.wrap ((ch.toNat:Int) - 32)=((ch - 32).toNat:Int):=by rw [h32n];show ((ch.toNat:Int) - 32) % 256=_;omega
 have h32b:((ch.toNat:Int) - 32) % 256=((ch - 32).toNat:Int):=by rw [h32n];omega
 have hcc:=hc
 have HNN2:=Lib.hid t2
 clear hcx hcy hgood kk ka kb kc kd la lb lc ld hng hgg hdr hzl hlb hfl hNN o1 o2 o3 o4 o5 o6 hfle hde hs hz hn hmr hbl hd13 h32n t1 t3 t4 hln2a
 have hln:=h.len
 have hln2:=h2.len
 obtain ⟨w1,hw1⟩:∃ w1,w.alloc (.cells #[.int .i64 W,.int .i64 H,.int .i64 C,.int .i64 D,.slice A n c] 39)=w1:=⟨_,rfl⟩
 obtain ⟨bk,hbk⟩:∃ b,w.heap.size=b:=⟨_,rfl⟩
 have HA:Hid (Arr w1 bk [.int .i64 W,.int .i64 H,.int .i64 C,.int .i64 D,.slice A n c]):=(show Arr _ _ _ by rw [← hw1,← hbk];exact Arr.new w [.int .i64 W,.int .i64 H,.int .i64 C,.int .i64 D,.slice A n c] _)
 have HB:Hid (Below bk w w1):=(show Below _ _ _ by rw [← hw1,← hbk];exact (Below.refl w.heap.size w).alloc (Nat.le_refl _) _)
 have HR:Hid (RdB w1 w1.heap.size A n bs):=(show RdB _ _ _ _ _ by rw [← hw1];exact Rd.here (Rd.alloc h (Nat.le_refl _) _))
 have HD:Hid (RdB w1 w1.heap.size A2 n2 data):=(show RdB _ _ _ _ _ by rw [← hw1];exact Rd.here (Rd.alloc h2 (Nat.le_refl _) _))
 have hbz:bk≤w1.heap.size:=by rw [← hw1,World.size_alloc,hbk];exact Nat.le_succ _
 have a0:=HA.out.cell (k:=0) rfl
 have a1:=HA.out.cell (k:=1) rfl
 have a2:=HA.out.cell (k:=2) rfl
 have a3:=HA.out.cell (k:=3) rfl
 have a4:=HA.out.cell (k:=4) rfl
 rw [hbk]
 clear h h2
 go_enter Tryz.func4,Tryz.ntmps4
 (try simp only [hw1,hbk])
 go_upto_region 11 with (first
  | (go_at_call 7;(with_reducible refine (first13_any _).mono ?_);go_must (rintro e wf ⟨rfl,hb⟩;replace HA:=Lib.hid (HA.out.later hb);replace HB:=Lib.hid (HB.out.trans (hb.mono hbz));replace HR:=Lib.hid (RdB.later HR.out hb);replace HD:=Lib.hid (RdB.later HD.out hb);replace hbz:=Nat.le_trans hbz hb.size;replace a0:=HA.out.cell (k:=0) rfl;replace a1:=HA.out.cell (k:=1) rfl;replace a2:=HA.out.cell (k:=2) rfl;replace a3:=HA.out.cell (k:=3) rfl;replace a4:=HA.out.cell (k:=4) rfl;clear hb))
  | (go_at_call 15;(with_reducible refine (HMY.out _).mono ?_);go_must (rintro e wm ⟨rfl,hb⟩;replace HA:=Lib.hid (HA.out.later hb);replace HB:=Lib.hid (HB.out.trans (hb.mono hbz));replace HR:=Lib.hid (RdB.later HR.out hb);replace HD:=Lib.hid (RdB.later HD.out hb);replace hbz:=Nat.le_trans hbz hb.size;replace a0:=HA.out.cell (k:=0) rfl;replace a1:=HA.out.cell (k:=1) rfl;replace a2:=HA.out.cell (k:=2) rfl;replace a3:=HA.out.cell (k:=3) rfl;replace a4:=HA.out.cell (k:=4) rfl;clear hb))
  | (go_at_call 16;(with_reducible refine (HEN.out _ _ _ HR.out hcc).mono ?_);go_must (rintro e w5 ⟨g5,n5,c5,l5,rfl,hr5,hf5,hb⟩;replace HA:=Lib.hid (HA.out.later hb);replace HB:=Lib.hid (HB.out.trans (hb.mono hbz));replace HR:=Lib.hid (RdB.later HR.out hb);replace HD:=Lib.hid (RdB.later HD.out hb);replace hbz:=Nat.le_trans hbz hb.size;replace a0:=HA.out.cell (k:=0) rfl;replace a1:=HA.out.cell (k:=1) rfl;replace a2:=HA.out.cell (k:=2) rfl;replace a3:=HA.out.cell (k:=3) rfl;replace a4:=HA.out.cell (k:=4) rfl;have HE5:=Lib.hid hr5;have HF5:=Lib.hid hf5;have hn5:=HLB.out _ hf5;have hl5:=hr5.rd.len;have hc5:n5≤c5:=(by obtain ⟨cur,fz,e1,e2,e3,e4,e5⟩:=hr5;exact e4);obtain ⟨z5,hpk5,hz5⟩:=hf5;obtain ⟨m,hm⟩:∃ m,m+12=l5.length:=⟨l5.length - 12,by omega⟩;have hmi:IntKind.i64.wrap ((n5:Int) - 12)=(m:Int):=(by rw [show (n5:Int) - 12=(m:Int) by omega];exact wrap_i64_lt _ (by omega));have hn5i:¬ (n5:Int) < 57:=(by omega);have HPK5:=Lib.hid hpk5;have HZ5:=Lib.hid hz5;have HM5:=Lib.hid hm;have HN5:=Lib.hid hl5;have HLN5:=Lib.hid hn5;have hk8:(convert 22 9 (.slice (some ⟨w5.heap.size,0,none⟩) 4 4)).run Tryz.prog (w5.alloc (.cells #[.int .u8 (ch.toNat:Int),.int .u8 88,.int .u8 121,.int .u8 122] 5))=.ok (.string ⟨#[ch,88,121,122]⟩) (w5.alloc (.cells #[.int .u8 (ch.toNat:Int),.int .u8 88,.int .u8 121,.int .u8 122] 5)):=run_strB (c:=4) (rd_lit w5 5 (0,0) [ch,88,121,122]);have hk9:(convert 22 9 (.slice (some ⟨w5.heap.size+1,0,none⟩) 4 4)).run Tryz.prog ((w5.alloc (.cells #[.int .u8 (ch.toNat:Int),.int .u8 88,.int .u8 121,.int .u8 122] 5)).alloc (.cells #[.int .u8 ((ch - 32).toNat:Int),.int .u8 88,.int .u8 89,.int .u8 90] 5))=.ok (.string ⟨#[ch - 32,88,89,90]⟩) ((w5.alloc (.cells #[.int .u8 (ch.toNat:Int),.int .u8 88,.int .u8 121,.int .u8 122] 5)).alloc (.cells #[.int .u8 ((ch - 32).toNat:Int),.int .u8 88,.int .u8 89,.int .u8 90] 5)):=(by have:=run_strB (c:=4) (rd_lit (w5.alloc (.cells #[.int .u8 (ch.toNat:Int),.int .u8 88,.int .u8 121,.int .u8 122] 5)) 5 (0,0) [ch - 32,88,89,90]);rw [World.size_alloc] at this;exact this);clear hpk5 hz5 hm hl5 hn5 hr5;clear hb)))
 obtain ⟨wz,hwz⟩:∃ wz,(w5.alloc (.cells #[.int .u8 (ch.toNat:Int),.int .u8 88,.int .u8 121,.int .u8 122] 5)).alloc (.cells #[.int .u8 ((ch - 32).toNat:Int),.int .u8 88,.int .u8 89,.int .u8 90] 5)=wz:=⟨_,rfl⟩
 rw [hwz]
 have HAz:Hid (Arr wz bk [.int .i64 (W:Int),.int .i64 (H:Int),.int .i64 (C:Int),.int .i64 (D:Int),.slice A n c]):=(show Arr _ _ _ by rw [← hwz];exact (HA.out.alloc _).alloc _)
 have hzw:w5.heap.size≤wz.heap.size:=by rw [← hwz,World.size_alloc,World.size_alloc];omega
 have HWZ:Hid (Below w5.heap.size w5 wz):=(show Below _ _ _ by rw [← hwz];exact ((Below.refl w5.heap.size w5).alloc (Nat.le_refl _) _).alloc (by rw [World.size_alloc];omega) _)
 have HBz:=Lib.hid (HB.out.trans (HWZ.out.mono hbz))
 have HRz:=Lib.hid (RdB.later HR.out HWZ.out)
 have HDz:=Lib.hid (RdB.later HD.out HWZ.out)
 have HEz:=Lib.hid (RdB.later (Rd.here HE5.out.rd) HWZ.out)
 have hbzz:bk≤wz.heap.size:=Nat.le_trans hbz hzw
 have hmn:m+12=n5:=HM5.out.trans HN5.out
 have HT1:Hid (RdB wz wz.heap.size (some ⟨g5,0,none⟩) m (l5.take m)):=(show RdB _ _ _ _ _ from RdB.pre HEz.out (by omega))
 have HT2:Hid (RdB wz wz.heap.size (some ⟨g5,m,none⟩) (n5 - m) (l5.drop m)):=(show RdB _ _ _ _ _ by
  have:=RdB.cut HEz.out (k:=m) (m:=n5 - m) (by omega) (A':=some ⟨g5,m,none⟩) (fun _=>by simp [add_none])
  rwa [List.take_of_length_le (by rw [List.length_drop,HN5.out];exact Nat.le_refl _)] at this)
 have HNC:Hid ((m:Int)≤(c5:Int)∧m≤c5∧((m:Int)≤(n5:Int)∧m≤n5)∧¬ c5=m∧m≤140737488355328):=(show _∧_ from by have h9:=HLN5.out;have h8:=HN5.out;refine ⟨by omega,by omega,⟨by omega,by omega⟩,by omega,by omega⟩)
 have HLA:Hid ((l5.take m).length≤100000∧(chQ ([ch,88,121,122],data)).length≤100000∧(chQ ([ch - 32,88,89,90],data)).length≤100000∧n5 - m≤100000):=(show _∧_ by
  have h1:=HLN5.out
  have h2:=HNN2.out
  have h3:=HDz.out.len
  have h4:=HN5.out
  refine ⟨by rw [List.length_take];omega,?_,?_,by omega⟩
  ·rw [chQ_len rfl];show data.length+12≤_;omega
  ·rw [chQ_len rfl];show data.length+12≤_;omega)
 have HZW:Hid (wz.heap.size≤wz.heap.size):=Nat.le_refl _
 clear hwz HWZ HA HB HR HD HE5 hk8 hk9 a0 a1 a2 a3 a4 hmi hbz h32 h32b
 go_cut [12] (fun v12 wx=>ownB wx wz.heap.size v12 (l5.take m ++ chQ ([ch,88,121,122],data) ++ l5.drop m)∧Below wz.heap.size wz wx)
 case first =>
  refine wp_region_inv2 (by kernel_rfl) (by kernel_rfl) (chkInv1 (fun v=>⟨#[.agg #[.int .i64 (W:Int),.int .i64 (H:Int),.int .i64 (C:Int),.int .i64 (D:Int),.slice A n c],.slice A2 n2 c2,.int .u8 (ch.toNat:Int),.pointer (some ⟨bk,0,none⟩),undef,undef,.bool false,.slice (some ⟨g5,0,none⟩) n5 c5,.int .i64 0,.string ⟨#[ch,88,121,122]⟩,.string ⟨#[ch - 32,88,89,90]⟩,.int .i64 (m:Int),v 12,undef,undef,undef,undef,undef,undef,undef,.bool true,.bool false,.pointer (some ⟨bk,4,none⟩),.slice A n c,.int .i64 (n:Int),.bool (decide (3000 < (n:Int))),.bool (decide (3000 < (n:Int))),.slice A2 n2 c2,.int .i64 (n2:Int),.bool (decide (500 < (n2:Int))),.bool (decide (3000 < (n:Int)) || decide (500 < (n2:Int))),.bool (decide (3000 < (n:Int)) || decide (500 < (n2:Int))),.int .u8 (ch.toNat:Int),.bool (decide ((ch.toNat:Int) < 97)),.bool (decide (3000 < (n:Int)) || decide (500 < (n2:Int)) || decide ((ch.toNat:Int) < 97)),.bool (decide (3000 < (n:Int)) || decide (500 < (n2:Int)) || decide ((ch.toNat:Int) < 97)),.int .u8 (ch.toNat:Int),.bool (decide (122 < (ch.toNat:Int))),.bool (decide (3000 < (n:Int)) || decide (500 < (n2:Int)) || decide ((ch.toNat:Int) < 97) || decide (122 < (ch.toNat:Int))),.bool (decide (3000 < (n:Int)) || decide (500 < (n2:Int)) || decide ((ch.toNat:Int) < 97) || decide (122 < (ch.toNat:Int))),.agg #[.int .i64 (W:Int),.int .i64 (H:Int),.int .i64 (C:Int),.int .i64 (D:Int),.slice A n c],.bool true,.bool false,.bool (decide (3000 < (n:Int)) || decide (500 < (n2:Int)) || decide ((ch.toNat:Int) < 97) || decide (122 < (ch.toNat:Int))),undef,.tuple #[.slice (some ⟨g5,0,none⟩) n5 c5,.int .i64 0],.agg #[.int .i64 (W:Int),.int .i64 (H:Int),.int .i64 (C:Int),.int .i64 (D:Int),.slice A n c],.tuple #[.slice (some ⟨g5,0,none⟩) n5 c5,.int .i64 0],.slice (some ⟨g5,0,none⟩) n5 c5,.int .i64 0,.int .i64 0,.bool false,.bool false,.slice (some ⟨g5,0,none⟩) n5 c5,.int .i64 (n5:Int),.bool (decide ((n5:Int) < 57)),.bool (decide ((n5:Int) < 57)),.int .u8 (ch.toNat:Int),.slice (some ⟨w5.heap.size,0,none⟩) 4 4,.string ⟨#[ch,88,121,122]⟩,.int .u8 (ch.toNat:Int),.int .u8 ((ch - 32).toNat:Int),.slice (some ⟨w5.heap.size+1,0,none⟩) 4 4,.string ⟨#[ch - 32,88,89,90]⟩,.slice (some ⟨g5,0,none⟩) n5 c5,.int .i64 (n5:Int),.int .i64 (m:Int),v 67,v 68,v 69,v 70,v 71,v 72,v 73,v 74,v 75,v 76,v 77,v 78,undef,undef,undef,undef,undef,undef,undef,undef,undef,undef,undef,undef,undef,undef,undef,undef,undef,undef,undef,undef,undef,undef,undef,undef,undef,undef,undef,undef,undef,undef,undef,undef,undef,undef,undef,undef,undef,undef,undef,undef,undef,undef,undef,undef,undef,undef,undef,undef,undef,undef,undef,undef,undef,undef,undef,undef,undef,undef,undef,undef,undef,undef,undef,undef,undef,undef],[]⟩) g5 n5 c5 m n2 c2 A2 l5 data ch wz.heap.size wz) ?_ ?_ ?_
  ·exact ⟨(fun k=>match k with | 67=>undef | 68=>undef | 69=>undef | 70=>undef | 71=>undef | 72=>undef | 73=>undef | 74=>undef | 75=>undef | 76=>undef | 77=>undef | 78=>undef | 12=>undef | _=>undef),rfl,(fun h=>by cases h),(fun h=>by cases h),(fun h=>by cases h),(fun h=>by cases h),(fun h=>by cases h),(fun h=>by cases h),(fun h=>by cases h),(fun h=>by cases h),(fun h=>by cases h),(fun h=>by cases h),(fun h=>by cases h),(fun h=>by cases h),(fun h=>by cases h),(fun h=>by cases h),(fun h=>by cases h),(fun h=>by cases h),(fun h=>by cases h),(fun h=>by cases h),(Below.refl _ _).drew⟩
  ·intro f a w i hi0 hf he hI
   have hi:i < 13:=hi0
   clear hi0
   obtain ⟨v,rfl,p0,p1,p2,p3,p4,p5,p6,p7,p8,p9,p10,p11,p12,q3_6,d12_11,d7_3,d11_7,d7_6,hB⟩:=hI
   have hzw:wz.heap.size≤w.heap.size:=Nat.le_trans HZW.out hB.size
   replace p0:=Lib.hid p0
   replace p1:=Lib.hid p1
   replace p2:=Lib.hid p2
   replace p3:=Lib.hid p3
   replace p4:=Lib.hid p4
   replace p5:=Lib.hid p5
   replace p6:=Lib.hid p6
   replace p7:=Lib.hid p7
   replace p8:=Lib.hid p8
   replace p9:=Lib.hid p9
   replace p10:=Lib.hid p10
   replace p11:=Lib.hid p11
   replace p12:=Lib.hid p12
   replace q3_6:=Lib.hid q3_6
   replace d12_11:=Lib.hid d12_11
   replace d7_3:=Lib.hid d7_3
   replace d11_7:=Lib.hid d11_7
   replace d7_6:=Lib.hid d7_6
   replace hB:=Lib.hid hB
   have hi':i=0∨i=1∨i=2∨i=3∨i=4∨i=5∨i=6∨i=7∨i=8∨i=9∨i=10∨i=11∨i=12:=by omega
   clear hi
   rcases hi' with rfl | rfl | rfl | rfl | rfl | rfl | rfl | rfl | rfl | rfl | rfl | rfl | rfl
   ·clear he
    refine wpOp_plainK rfl rfl (fun K HK=>?_)
    dsimp only
    go_simp
    exact HK.out _ _ ⟨(fun k=>if k=67 then .slice (some ⟨g5,0,none⟩) n5 c5 else v k),rfl,fun _=>rfl,p1.out,p2.out,p3.out,p4.out,p5.out,p6.out,p7.out,p8.out,p9.out,p10.out,p11.out,p12.out,q3_6.out,d12_11.out,d7_3.out,d11_7.out,d7_6.out,hB.out⟩
   ·clear he
    refine wpOp_plainK rfl rfl (fun K HK=>?_)
    dsimp only
    go_simp
    exact HK.out _ _ ⟨(fun k=>if k=68 then .int .i64 (m:Int) else v k),rfl,p0.out,fun _=>rfl,p2.out,p3.out,p4.out,p5.out,p6.out,p7.out,p8.out,p9.out,p10.out,p11.out,p12.out,q3_6.out,d12_11.out,d7_3.out,d11_7.out,d7_6.out,hB.out⟩
   ·have r0:=p0.out (he 0 (by kernel_rfl))
    have r1:=p1.out (he 1 (by kernel_rfl))
    have k1:=HNC.out.1
    have k2:=HNC.out.2.1
    clear he
    refine wpOp_plainK rfl rfl (fun K HK=>?_)
    dsimp only
    rw [r0,r1]
    clear r0 r1
    go_simp
    exact HK.out _ _ ⟨(fun k=>if k=69 then .slice (some ⟨g5,0,none⟩) m c5 else (fun k=>if k=68 then .int .i64 (m:Int) else (fun k=>if k=67 then .slice (some ⟨g5,0,none⟩) n5 c5 else v k) k) k),rfl,fun _=>rfl,fun _=>rfl,fun _=>rfl,p3.out,p4.out,p5.out,p6.out,p7.out,p8.out,p9.out,p10.out,p11.out,p12.out,q3_6.out,d12_11.out,d7_3.out,d11_7.out,d7_6.out,hB.out⟩
   ·have r2:=p2.out (he 2 (by kernel_rfl))
    have hcall:=copyB_any wz.heap.size m c5 (some ⟨g5,0,none⟩) (l5.take m) w (RdB.blw HT1.out hB.out) HNC.out.2.2.2.2
    clear he
    refine wpOp_plainK rfl rfl (fun K HK=>?_)
    dsimp only
    rw [r2]
    clear r2
    go_simp
    go_at_call 8
    (with_reducible refine hcall.mono ?_)
    rintro e w' ⟨v1,rfl,ho,hb⟩
    go_simp
    exact HK.out _ _ ⟨(fun k=>if k=70 then v1 else (fun k=>if k=69 then .slice (some ⟨g5,0,none⟩) m c5 else v k) k),rfl,p0.out,p1.out,fun _=>rfl,fun _ _=>ho.mono hzw,p4.out,p5.out,fun h h6=>ownB.later (p6.out h h6) hb,fun h h6=>ownB.later (p7.out h h6) hb,p8.out,p9.out,p10.out,fun h=>ownB.later (p11.out h) hb,fun h=>ownB.later (p12.out h) hb,fun _ _ h g e1 e2=>by have h1:=(World.ownsRow.lt ho g e1).1;have h2:=(World.ownsRow.lt (p6.out h (by cases hh:f 7 with | false=>rfl | true=>exact Bool.noConfusion (show true=false from (d7_3.out (hh)).symm.trans hf))) g e2).2;omega,d12_11.out,fun _=>rfl,d11_7.out,d7_6.out,hB.out.trans (Below.mono hb hzw)⟩
   ·clear he
    refine wpOp_plainK rfl rfl (fun K HK=>?_)
    dsimp only
    go_simp
    exact HK.out _ _ ⟨(fun k=>if k=71 then .string ⟨#[ch,88,121,122]⟩ else v k),rfl,p0.out,p1.out,p2.out,p3.out,fun _=>rfl,p5.out,p6.out,p7.out,p8.out,p9.out,p10.out,p11.out,p12.out,q3_6.out,d12_11.out,d7_3.out,d11_7.out,d7_6.out,hB.out⟩
   ·clear he
    refine wpOp_plainK rfl rfl (fun K HK=>?_)
    dsimp only
    go_simp
    exact HK.out _ _ ⟨(fun k=>if k=72 then .slice A2 n2 c2 else v k),rfl,p0.out,p1.out,p2.out,p3.out,p4.out,fun _=>rfl,p6.out,p7.out,p8.out,p9.out,p10.out,p11.out,p12.out,q3_6.out,d12_11.out,d7_3.out,d11_7.out,d7_6.out,hB.out⟩
   ·have r4:=p4.out (he 4 (by kernel_rfl))
    have r5:=p5.out (he 5 (by kernel_rfl))
    have hcall:=chunkL_any wz.heap.size n2 c2 A2 data [ch,88,121,122] ⟨#[ch,88,121,122]⟩ w rfl rfl (RdB.blw HDz.out hB.out) hzw (by have:=HNN2.out;omega)
    clear he
    refine wpOp_plainK rfl rfl (fun K HK=>?_)
    dsimp only
    rw [r4,r5]
    clear r4 r5
    go_simp
    go_at_call 17
    (with_reducible refine hcall.mono ?_)
    rintro e w' ⟨v1,rfl,ho,hb⟩
    go_simp
    exact HK.out _ _ ⟨(fun k=>if k=73 then v1 else (fun k=>if k=72 then .slice A2 n2 c2 else (fun k=>if k=71 then .string ⟨#[ch,88,121,122]⟩ else v k) k) k),rfl,p0.out,p1.out,p2.out,fun h h6=>ownB.later (p3.out h h6) hb,fun _=>rfl,fun _=>rfl,fun _ _=>ho.mono hzw,fun h h6=>ownB.later (p7.out h h6) hb,p8.out,p9.out,p10.out,fun h=>ownB.later (p11.out h) hb,fun h=>ownB.later (p12.out h) hb,fun h h6 _ g e1 e2=>by have h1:=(World.ownsRow.lt (p3.out h h6) g e1).2;have h2:=(World.ownsRow.lt ho g e2).1;omega,d12_11.out,d7_3.out,d11_7.out,fun _=>rfl,hB.out.trans (Below.mono hb hzw)⟩
   ·have fa:f 3=true:=he 3 (by kernel_rfl)
    have hown:=p3.out fa hf
    have fc:f 6=true:=he 6 (by kernel_rfl)
    have hsrc:=p6.out fc hf
    obtain ⟨A4,c4,e4,r4,-,-⟩:=hsrc.form
    refine wpOp_appendA rfl rfl (.tmp 70) (.tmp 73) rfl wz.heap.size (v 70) _ rfl hown w.heap.size _ c4 A4 _ e4 r4 (by have:=HLA.out;omega) hzw (fun v' w' ho hg hb ha=>?_)
    exact ⟨(fun k=>if k=74 then v' else v k),rfl,p0.out,p1.out,p2.out,fun _ h6=>Bool.noConfusion (show true=false from h6),p4.out,p5.out,fun _ h6=>Bool.noConfusion (show true=false from h6),fun _ _=>ho,p8.out,p9.out,p10.out,fun h=>Bool.noConfusion (show true=false from (d11_7.out (h)).symm.trans hf),fun h=>Bool.noConfusion (show true=false from (d11_7.out (d12_11.out (h))).symm.trans hf),fun _ h6=>Bool.noConfusion (show true=false from h6),d12_11.out,fun _=>he 3 (by kernel_rfl),fun _=>rfl,fun _=>he 6 (by kernel_rfl),hB.out.trans hb⟩
   ·clear he
    refine wpOp_plainK rfl rfl (fun K HK=>?_)
    dsimp only
    go_simp
    exact HK.out _ _ ⟨(fun k=>if k=75 then .slice (some ⟨g5,0,none⟩) n5 c5 else v k),rfl,p0.out,p1.out,p2.out,p3.out,p4.out,p5.out,p6.out,p7.out,fun _=>rfl,p9.out,p10.out,p11.out,p12.out,q3_6.out,d12_11.out,d7_3.out,d11_7.out,d7_6.out,hB.out⟩
   ·clear he
    refine wpOp_plainK rfl rfl (fun K HK=>?_)
    dsimp only
    go_simp
    exact HK.out _ _ ⟨(fun k=>if k=76 then .int .i64 (m:Int) else v k),rfl,p0.out,p1.out,p2.out,p3.out,p4.out,p5.out,p6.out,p7.out,p8.out,fun _=>rfl,p10.out,p11.out,p12.out,q3_6.out,d12_11.out,d7_3.out,d11_7.out,d7_6.out,hB.out⟩
   ·have r8:=p8.out (he 8 (by kernel_rfl))
    have r9:=p9.out (he 9 (by kernel_rfl))
    have k1:=HNC.out.1
    have k2:=HNC.out.2.1
    have k3:=HNC.out.2.2.1
    have k4:=HNC.out.2.2.2.1
    clear he
    refine wpOp_plainK rfl rfl (fun K HK=>?_)
    dsimp only
    rw [r8,r9]
    clear r8 r9
    go_simp
    exact HK.out _ _ ⟨(fun k=>if k=77 then .slice (some ⟨g5,m,none⟩) (n5 - m) (c5 - m) else (fun k=>if k=76 then .int .i64 (m:Int) else (fun k=>if k=75 then .slice (some ⟨g5,0,none⟩) n5 c5 else v k) k) k),rfl,p0.out,p1.out,p2.out,p3.out,p4.out,p5.out,p6.out,p7.out,fun _=>rfl,fun _=>rfl,fun _=>rfl,p11.out,p12.out,q3_6.out,d12_11.out,d7_3.out,d11_7.out,d7_6.out,hB.out⟩
   ·have fa:f 7=true:=he 7 (by kernel_rfl)
    have hown:=p7.out fa hf
    have r10:=p10.out (he 10 (by kernel_rfl))
    have r4:=RdB.blw HT2.out hB.out
    refine wpOp_appendA rfl rfl (.tmp 74) (.tmp 77) rfl wz.heap.size (v 74) _ rfl hown _ (n5 - m) (c5 - m) (some ⟨g5,m,none⟩) (l5.drop m) r10 r4 (by rw [List.length_append];have:=HLA.out;omega) hzw (fun v' w' ho hg hb ha=>?_)
    exact ⟨(fun k=>if k=78 then v' else v k),rfl,p0.out,p1.out,p2.out,fun h h6=>Bool.noConfusion (show true=false from (fa).symm.trans h6),p4.out,p5.out,fun h h6=>Bool.noConfusion (show true=false from (fa).symm.trans h6),fun _ h6=>Bool.noConfusion (show true=false from h6),p8.out,p9.out,p10.out,fun _=>ho,fun h=>Bool.noConfusion (show true=false from (d12_11.out (h)).symm.trans hf),q3_6.out,fun _=>rfl,d7_3.out,fun _=>he 7 (by kernel_rfl),d7_6.out,hB.out.trans hb⟩
   ·have hown:=p11.out (he 11 (by kernel_rfl))
    have hfd:=he 11 (by kernel_rfl)
    clear he
    refine wpOp_plainK rfl rfl (fun K HK=>?_)
    dsimp only
    go_simp
    exact HK.out _ _ ⟨(fun k=>if k=12 then (v 78) else v k),rfl,p0.out,p1.out,p2.out,p3.out,p4.out,p5.out,p6.out,p7.out,p8.out,p9.out,p10.out,p11.out,fun _=>hown,q3_6.out,fun _=>hfd,d7_3.out,d11_7.out,d7_6.out,hB.out⟩
  ·intro f a w hall hI
   obtain ⟨v,rfl,p0,p1,p2,p3,p4,p5,p6,p7,p8,p9,p10,p11,p12,q3_6,d12_11,d7_3,d11_7,d7_6,hB⟩:=hI
   have FIN:Hid (ownB w wz.heap.size (v 12) (l5.take m ++ chQ ([ch,88,121,122],data) ++ l5.drop m)∧Below wz.heap.size wz w):=(show _∧_ from ⟨p12 (hall 12 (by decide)),hB⟩)
   clear p0 p1 p2 p3 p4 p5 p6 p7 p8 p9 p10 p11 p12 q3_6 d12_11 d7_3 d11_7 d7_6 hB hall
   go_wp2_with fail
   go_meet
   case rel=>exact FIN.out
 case rest =>
 obtain ⟨ho12,hb12⟩:=hcut
 obtain ⟨A12,c12,rfl,hr12,hc12,-⟩:=ho12.form
 have HX:=Lib.hid hr12
 have HXC:=Lib.hid hc12
 have HAc:=Lib.hid (HAz.out.later hb12)
 have HBc:=Lib.hid (HBz.out.trans (hb12.mono hbzz))
 have HRc:=Lib.hid (RdB.later HRz.out hb12)
 have HDc:=Lib.hid (RdB.later HDz.out hb12)
 have HT1c:=Lib.hid (RdB.blw HT1.out hb12)
 have HT2c:=Lib.hid (RdB.blw HT2.out hb12)
 have hbc:bk≤wc.heap.size:=Nat.le_trans hbzz hb12.size
 have hzc:wz.heap.size≤wc.heap.size:=hb12.size
 obtain ⟨wy,rfl⟩:∃ wy:World,wy=wc:=⟨_,rfl⟩
 clear ho12 hr12 hb12 hc12 HAz HBz HRz HDz HEz hbzz hzw HT1 HT2 HZW
 obtain ⟨X,hX⟩:∃ X,l5.take m ++ chQ ([ch,88,121,122],data) ++ l5.drop m=X:=⟨_,rfl⟩
 rw [hX] at HX HXC
 (try rw [hX])
 have HXE:=Lib.hid hX
 clear hX
 have HT1:Hid (RdB wy wy.heap.size (some ⟨g5,0,none⟩) m (l5.take m)):=(show RdB _ _ _ _ _ from Rd.more HT1c.out hzc)
 have HT2:Hid (RdB wy wy.heap.size (some ⟨g5,m,none⟩) (n5 - m) (l5.drop m)):=(show RdB _ _ _ _ _ from Rd.more HT2c.out hzc)
 have HZW:Hid (wy.heap.size≤wy.heap.size):=Nat.le_refl _
 clear HT1c HT2c
 go_upto_region 12 with fail
 go_cut [13] (fun v13 wx=>ownB wx wy.heap.size v13 (l5.take m ++ chQ ([ch - 32,88,89,90],data) ++ l5.drop m)∧Below wy.heap.size wy wx)
 case first =>
  refine wp_region_inv2 (by kernel_rfl) (by kernel_rfl) (chkInv2 (fun v=>⟨#[.agg #[.int .i64 (W:Int),.int .i64 (H:Int),.int .i64 (C:Int),.int .i64 (D:Int),.slice A n c],.slice A2 n2 c2,.int .u8 (ch.toNat:Int),.pointer (some ⟨bk,0,none⟩),undef,undef,.bool false,.slice (some ⟨g5,0,none⟩) n5 c5,.int .i64 0,.string ⟨#[ch,88,121,122]⟩,.string ⟨#[ch - 32,88,89,90]⟩,.int .i64 (m:Int),.slice A12 X.length c12,v 13,undef,undef,undef,undef,u18,undef,u20,u21,u22,u23,u24,u25,u26,u27,u28,u29,u30,u31,u32,u33,u34,u35,u36,u37,u38,u39,u40,u41,u42,u43,u44,u45,u46,u47,u48,u49,u50,u51,u52,u53,u54,u55,u56,u57,u58,u59,u60,u61,u62,u63,u64,u65,u66,u67,u68,u69,u70,u71,u72,u73,u74,u75,u76,u77,u78,v 79,v 80,v 81,v 82,v 83,v 84,v 85,v 86,v 87,v 88,v 89,v 90,u91,u92,u93,u94,u95,u96,u97,u98,u99,u100,u101,u102,u103,u104,u105,u106,u107,u108,u109,u110,u111,u112,u113,u114,u115,u116,u117,u118,u119,u120,u121,u122,u123,u124,u125,u126,u127,u128,u129,u130,u131,u132,u133,u134,u135,u136,u137,u138,u139,u140,u141,u142,u143,u144],[]⟩) g5 n5 c5 m n2 c2 A2 l5 data ch wy.heap.size wy) ?_ ?_ ?_
  ·exact ⟨(fun k=>match k with | 79=>u79 | 80=>u80 | 81=>u81 | 82=>u82 | 83=>u83 | 84=>u84 | 85=>u85 | 86=>u86 | 87=>u87 | 88=>u88 | 89=>u89 | 90=>u90 | 13=>undef | _=>undef),rfl,(fun h=>by cases h),(fun h=>by cases h),(fun h=>by cases h),(fun h=>by cases h),(fun h=>by cases h),(fun h=>by cases h),(fun h=>by cases h),(fun h=>by cases h),(fun h=>by cases h),(fun h=>by cases h),(fun h=>by cases h),(fun h=>by cases h),(fun h=>by cases h),(fun h=>by cases h),(fun h=>by cases h),(fun h=>by cases h),(fun h=>by cases h),(fun h=>by cases h),(Below.refl _ _).drew⟩
  ·intro f a w i hi0 hf he hI
   have hi:i < 13:=hi0
   clear hi0
   obtain ⟨v,rfl,p0,p1,p2,p3,p4,p5,p6,p7,p8,p9,p10,p11,p12,q3_6,d12_11,d7_3,d11_7,d7_6,hB⟩:=hI
   have hzw:wy.heap.size≤w.heap.size:=Nat.le_trans HZW.out hB.size
   replace p0:=Lib.hid p0
   replace p1:=Lib.hid p1
   replace p2:=Lib.hid p2
   replace p3:=Lib.hid p3
   replace p4:=Lib.hid p4
   replace p5:=Lib.hid p5
   replace p6:=Lib.hid p6
   replace p7:=Lib.hid p7
   replace p8:=Lib.hid p8
   replace p9:=Lib.hid p9
   replace p10:=Lib.hid p10
   replace p11:=Lib.hid p11
   replace p12:=Lib.hid p12
   replace q3_6:=Lib.hid q3_6
   replace d12_11:=Lib.hid d12_11
   replace d7_3:=Lib.hid d7_3
   replace d11_7:=Lib.hid d11_7
   replace d7_6:=Lib.hid d7_6
   replace hB:=Lib.hid hB
   have hi':i=0∨i=1∨i=2∨i=3∨i=4∨i=5∨i=6∨i=7∨i=8∨i=9∨i=10∨i=11∨i=12:=by omega
   clear hi
   rcases hi' with rfl | rfl | rfl | rfl | rfl | rfl | rfl | rfl | rfl | rfl | rfl | rfl | rfl
   ·clear he
    refine wpOp_plainK rfl rfl (fun K HK=>?_)
    dsimp only
    go_simp
    exact HK.out _ _ ⟨(fun k=>if k=79 then .slice (some ⟨g5,0,none⟩) n5 c5 else v k),rfl,fun _=>rfl,p1.out,p2.out,p3.out,p4.out,p5.out,p6.out,p7.out,p8.out,p9.out,p10.out,p11.out,p12.out,q3_6.out,d12_11.out,d7_3.out,d11_7.out,d7_6.out,hB.out⟩
   ·clear he
    refine wpOp_plainK rfl rfl (fun K HK=>?_)
    dsimp only
    go_simp
    exact HK.out _ _ ⟨(fun k=>if k=80 then .int .i64 (m:Int) else v k),rfl,p0.out,fun _=>rfl,p2.out,p3.out,p4.out,p5.out,p6.out,p7.out,p8.out,p9.out,p10.out,p11.out,p12.out,q3_6.out,d12_11.out,d7_3.out,d11_7.out,d7_6.out,hB.out⟩
   ·have r0:=p0.out (he 0 (by kernel_rfl))
    have r1:=p1.out (he 1 (by kernel_rfl))
    have k1:=HNC.out.1
    have k2:=HNC.out.2.1
    clear he
    refine wpOp_plainK rfl rfl (fun K HK=>?_)
    dsimp only
    rw [r0,r1]
    clear r0 r1
    go_simp
    exact HK.out _ _ ⟨(fun k=>if k=81 then .slice (some ⟨g5,0,none⟩) m c5 else (fun k=>if k=80 then .int .i64 (m:Int) else (fun k=>if k=79 then .slice (some ⟨g5,0,none⟩) n5 c5 else v k) k) k),rfl,fun _=>rfl,fun _=>rfl,fun _=>rfl,p3.out,p4.out,p5.out,p6.out,p7.out,p8.out,p9.out,p10.out,p11.out,p12.out,q3_6.out,d12_11.out,d7_3.out,d11_7.out,d7_6.out,hB.out⟩
   ·have r2:=p2.out (he 2 (by kernel_rfl))
    have hcall:=copyB_any wy.heap.size m c5 (some ⟨g5,0,none⟩) (l5.take m) w (RdB.blw HT1.out hB.out) HNC.out.2.2.2.2
    clear he
    refine wpOp_plainK rfl rfl (fun K HK=>?_)
    dsimp only
    rw [r2]
    clear r2
    go_simp
    go_at_call 8
    (with_reducible refine hcall.mono ?_)
    rintro e w' ⟨v1,rfl,ho,hb⟩
    go_simp
    exact HK.out _ _ ⟨(fun k=>if k=82 then v1 else (fun k=>if k=81 then .slice (some ⟨g5,0,none⟩) m c5 else v k) k),rfl,p0.out,p1.out,fun _=>rfl,fun _ _=>ho.mono hzw,p4.out,p5.out,fun h h6=>ownB.later (p6.out h h6) hb,fun h h6=>ownB.later (p7.out h h6) hb,p8.out,p9.out,p10.out,fun h=>ownB.later (p11.out h) hb,fun h=>ownB.later (p12.out h) hb,fun _ _ h g e1 e2=>by have h1:=(World.ownsRow.lt ho g e1).1;have h2:=(World.ownsRow.lt (p6.out h (by cases hh:f 7 with | false=>rfl | true=>exact Bool.noConfusion (show true=false from (d7_3.out (hh)).symm.trans hf))) g e2).2;omega,d12_11.out,fun _=>rfl,d11_7.out,d7_6.out,hB.out.trans (Below.mono hb hzw)⟩
   ·clear he
    refine wpOp_plainK rfl rfl (fun K HK=>?_)
    dsimp only
    go_simp
    exact HK.out _ _ ⟨(fun k=>if k=83 then .string ⟨#[ch - 32,88,89,90]⟩ else v k),rfl,p0.out,p1.out,p2.out,p3.out,fun _=>rfl,p5.out,p6.out,p7.out,p8.out,p9.out,p10.out,p11.out,p12.out,q3_6.out,d12_11.out,d7_3.out,d11_7.out,d7_6.out,hB.out⟩
   ·clear he
    refine wpOp_plainK rfl rfl (fun K HK=>?_)
    dsimp only
    go_simp
    exact HK.out _ _ ⟨(fun k=>if k=84 then .slice A2 n2 c2 else v k),rfl,p0.out,p1.out,p2.out,p3.out,p4.out,fun _=>rfl,p6.out,p7.out,p8.out,p9.out,p10.out,p11.out,p12.out,q3_6.out,d12_11.out,d7_3.out,d11_7.out,d7_6.out,hB.out⟩
   ·have r4:=p4.out (he 4 (by kernel_rfl))
    have r5:=p5.out (he 5 (by kernel_rfl))
    have hcall:=chunkL_any wy.heap.size n2 c2 A2 data [ch - 32,88,89,90] ⟨#[ch - 32,88,89,90]⟩ w rfl rfl (RdB.blw HDc.out hB.out) hzw (by have:=HNN2.out;omega)
    clear he
    refine wpOp_plainK rfl rfl (fun K HK=>?_)
    dsimp only
    rw [r4,r5]
    clear r4 r5
    go_simp
    go_at_call 17
    (with_reducible refine hcall.mono ?_)
    rintro e w' ⟨v1,rfl,ho,hb⟩
    go_simp
    exact HK.out _ _ ⟨(fun k=>if k=85 then v1 else (fun k=>if k=84 then .slice A2 n2 c2 else (fun k=>if k=83 then .string ⟨#[ch - 32,88,89,90]⟩ else v k) k) k),rfl,p0.out,p1.out,p2.out,fun h h6=>ownB.later (p3.out h h6) hb,fun _=>rfl,fun _=>rfl,fun _ _=>ho.mono hzw,fun h h6=>ownB.later (p7.out h h6) hb,p8.out,p9.out,p10.out,fun h=>ownB.later (p11.out h) hb,fun h=>ownB.later (p12.out h) hb,fun h h6 _ g e1 e2=>by have h1:=(World.ownsRow.lt (p3.out h h6) g e1).2;have h2:=(World.ownsRow.lt ho g e2).1;omega,d12_11.out,d7_3.out,d11_7.out,fun _=>rfl,hB.out.trans (Below.mono hb hzw)⟩
   ·have fa:f 3=true:=he 3 (by kernel_rfl)
    have hown:=p3.out fa hf
    have fc:f 6=true:=he 6 (by kernel_rfl)
    have hsrc:=p6.out fc hf
    obtain ⟨A4,c4,e4,r4,-,-⟩:=hsrc.form
    refine wpOp_appendA rfl rfl (.tmp 82) (.tmp 85) rfl wy.heap.size (v 82) _ rfl hown w.heap.size _ c4 A4 _ e4 r4 (by have:=HLA.out;omega) hzw (fun v' w' ho hg hb ha=>?_)
    exact ⟨(fun k=>if k=86 then v' else v k),rfl,p0.out,p1.out,p2.out,fun _ h6=>Bool.noConfusion (show true=false from h6),p4.out,p5.out,fun _ h6=>Bool.noConfusion (show true=false from h6),fun _ _=>ho,p8.out,p9.out,p10.out,fun h=>Bool.noConfusion (show true=false from (d11_7.out (h)).symm.trans hf),fun h=>Bool.noConfusion (show true=false from (d11_7.out (d12_11.out (h))).symm.trans hf),fun _ h6=>Bool.noConfusion (show true=false from h6),d12_11.out,fun _=>he 3 (by kernel_rfl),fun _=>rfl,fun _=>he 6 (by kernel_rfl),hB.out.trans hb⟩
   ·clear he
    refine wpOp_plainK rfl rfl (fun K HK=>?_)
    dsimp only
    go_simp
    exact HK.out _ _ ⟨(fun k=>if k=87 then .slice (some ⟨g5,0,none⟩) n5 c5 else v k),rfl,p0.out,p1.out,p2.out,p3.out,p4.out,p5.out,p6.out,p7.out,fun _=>rfl,p9.out,p10.out,p11.out,p12.out,q3_6.out,d12_11.out,d7_3.out,d11_7.out,d7_6.out,hB.out⟩
   ·clear he
    refine wpOp_plainK rfl rfl (fun K HK=>?_)
    dsimp only
    go_simp
    exact HK.out _ _ ⟨(fun k=>if k=88 then .int .i64 (m:Int) else v k),rfl,p0.out,p1.out,p2.out,p3.out,p4.out,p5.out,p6.out,p7.out,p8.out,fun _=>rfl,p10.out,p11.out,p12.out,q3_6.out,d12_11.out,d7_3.out,d11_7.out,d7_6.out,hB.out⟩
   ·have r8:=p8.out (he 8 (by kernel_rfl))
    have r9:=p9.out (he 9 (by kernel_rfl))
    have k1:=HNC.out.1
    have k2:=HNC.out.2.1
    have k3:=HNC.out.2.2.1
    have k4:=HNC.out.2.2.2.1
    clear he
    refine wpOp_plainK rfl rfl (fun K HK=>?_)
    dsimp only
    rw [r8,r9]
    clear r8 r9
    go_simp
    exact HK.out _ _ ⟨(fun k=>if k=89 then .slice (some ⟨g5,m,none⟩) (n5 - m) (c5 - m) else (fun k=>if k=88 then .int .i64 (m:Int) else (fun k=>if k=87 then .slice (some ⟨g5,0,none⟩) n5 c5 else v k) k) k),rfl,p0.out,p1.out,p2.out,p3.out,p4.out,p5.out,p6.out,p7.out,fun _=>rfl,fun _=>rfl,fun _=>rfl,p11.out,p12.out,q3_6.out,d12_11.out,d7_3.out,d11_7.out,d7_6.out,hB.out⟩
   ·have fa:f 7=true:=he 7 (by kernel_rfl)
    have hown:=p7.out fa hf
    have r10:=p10.out (he 10 (by kernel_rfl))
    have r4:=RdB.blw HT2.out hB.out
    refine wpOp_appendA rfl rfl (.tmp 86) (.tmp 89) rfl wy.heap.size (v 86) _ rfl hown _ (n5 - m) (c5 - m) (some ⟨g5,m,none⟩) (l5.drop m) r10 r4 (by rw [List.length_append];have:=HLA.out;omega) hzw (fun v' w' ho hg hb ha=>?_)
    exact ⟨(fun k=>if k=90 then v' else v k),rfl,p0.out,p1.out,p2.out,fun h h6=>Bool.noConfusion (show true=false from (fa).symm.trans h6),p4.out,p5.out,fun h h6=>Bool.noConfusion (show true=false from (fa).symm.trans h6),fun _ h6=>Bool.noConfusion (show true=false from h6),p8.out,p9.out,p10.out,fun _=>ho,fun h=>Bool.noConfusion (show true=false from (d12_11.out (h)).symm.trans hf),q3_6.out,fun _=>rfl,d7_3.out,fun _=>he 7 (by kernel_rfl),d7_6.out,hB.out.trans hb⟩
   ·have hown:=p11.out (he 11 (by kernel_rfl))
    have hfd:=he 11 (by kernel_rfl)
    clear he
    refine wpOp_plainK rfl rfl (fun K HK=>?_)
    dsimp only
    go_simp
    exact HK.out _ _ ⟨(fun k=>if k=13 then (v 90) else v k),rfl,p0.out,p1.out,p2.out,p3.out,p4.out,p5.out,p6.out,p7.out,p8.out,p9.out,p10.out,p11.out,fun _=>hown,q3_6.out,fun _=>hfd,d7_3.out,d11_7.out,d7_6.out,hB.out⟩
  ·intro f a w hall hI
   obtain ⟨v,rfl,p0,p1,p2,p3,p4,p5,p6,p7,p8,p9,p10,p11,p12,q3_6,d12_11,d7_3,d11_7,d7_6,hB⟩:=hI
   have FIN:Hid (ownB w wy.heap.size (v 13) (l5.take m ++ chQ ([ch - 32,88,89,90],data) ++ l5.drop m)∧Below wy.heap.size wy w):=(show _∧_ from ⟨p12 (hall 12 (by decide)),hB⟩)
   clear p0 p1 p2 p3 p4 p5 p6 p7 p8 p9 p10 p11 p12 q3_6 d12_11 d7_3 d11_7 d7_6 hB hall
   go_wp2_with fail
   go_meet
   case rel=>exact FIN.out
 case rest =>
 obtain ⟨ho13,hb13⟩:=hcut
 obtain ⟨A13,c13,rfl,hr13,hc13,-⟩:=ho13.form
 have HY:=Lib.hid hr13
 have HYC:=Lib.hid hc13
 have HA:=Lib.hid (HAc.out.later hb13)
 have HB:=Lib.hid (HBc.out.trans (hb13.mono hbc))
 have HR:=Lib.hid (RdB.later HRc.out hb13)
 have HD:=Lib.hid (RdB.later HDc.out hb13)
 have HX':=Lib.hid (RdB.later HX.out hb13)
 have hbz:bk≤wc.heap.size:=Nat.le_trans hbc hb13.size
 clear HX
 have HX:=HX'
 clear HX'
 obtain ⟨Y,hY⟩:∃ Y,l5.take m ++ chQ ([ch - 32,88,89,90],data) ++ l5.drop m=Y:=⟨_,rfl⟩
 rw [hY] at HY HYC
 (try rw [hY])
 obtain ⟨hcut1,hcut2⟩:=file_cut HZ5.out HM5.out
 have hxf:X=markL ++ flatQ [(IHDR,hd),(IDAT,z5),([ch,88,121,122],data),(IEND,[])]:=by rw [← HXE.out,hcut1,hcut2,chQ_flat (IEND,[]),mid_flat];rfl
 have hyf:Y=markL ++ flatQ [(IHDR,hd),(IDAT,z5),([ch - 32,88,89,90],data),(IEND,[])]:=by rw [← hY,hcut1,hcut2,chQ_flat (IEND,[]),mid_flat];rfl
 have hxl:X.length≤1000000:=by rw [← HXE.out,List.length_append,List.length_append,List.length_drop];have:=HLA.out;have:=HN5.out;omega
 have hyl:Y.length≤1000000:=by rw [← hY,List.length_append,List.length_append,List.length_drop];have:=HLA.out;have:=HN5.out;omega
 have HKX:Hid (∀ (w:World) A c,RdB w w.heap.size A X.length X→X.length≤c→Calls Tryz.prog 9 #[.slice A X.length c] w fun e w'=>∃ A9 c9 lq,e=.returned (.tuple #[.slice A9 4 c9,.int .i64 0])∧RdQ w' w'.heap.size A9 4 lq∧CR w' none lq [(IHDR,hd),(IDAT,z5),([ch,88,121,122],data),(IEND,[])]∧4≤c9∧Below w.heap.size w w'):=(show ∀ w A c,_ from fun w A c h1 h2=>HCK.out z5 HPK5.out w A _ c (by rw [hxf] at h1;rw [hxf];exact h1) h2 hxl)
 have HEX:Hid (∀ (w:World) A c,RdB w w.heap.size A X.length X→X.length≤c→Calls Tryz.prog 12 #[.slice A X.length c] w fun e w'=>∃ A9 c9,e=.returned (.tuple #[.agg #[.int .i64 (W:Int),.int .i64 (H:Int),.int .i64 (C:Int),.int .i64 (D:Int),.slice A9 n c9],.int .i64 0])∧RdB w' w'.heap.size A9 n bs∧Below w.heap.size w w'):=(show ∀ w A c,_ from fun w A c h1 h2=>HDX.out z5 HPK5.out w A _ c (by rw [hxf] at h1;rw [hxf];exact h1) h2 hxl)
 have HEY:Hid (∀ (w:World) A c,RdB w w.heap.size A Y.length Y→Y.length≤c→Calls Tryz.prog 12 #[.slice A Y.length c] w fun e w'=>∃ A9 n9 c9,e=.returned (.tuple #[.agg #[.int .i64 0,.int .i64 0,.int .i64 0,.int .i64 0,.slice A9 n9 c9],.int .i64 4])∧Below w.heap.size w w'):=(show ∀ w A c,_ from fun w A c h1 h2=>HDY.out z5 HPK5.out w A _ c (by rw [hyf] at h1;rw [hyf];exact h1) h2 hyl)
 clear hxf hyf hxl hyl hcut1 hcut2 hY HXE HCK HDX HDY ho13 hr13 hb13 hc13 HAc HBc HRc HDc hbc HT1 HT2 HNC HLA HZW HM5 HN5 HLN5 HZ5 HPK5 HLB HEN hzc
 have a0:=HA.out.cell (k:=0) rfl
 have a1:=HA.out.cell (k:=1) rfl
 have a2:=HA.out.cell (k:=2) rfl
 have a3:=HA.out.cell (k:=3) rfl
 have a4:=HA.out.cell (k:=4) rfl
 generalize X.length=xn at *
 generalize Y.length=yn at *
 go_wp2_with (first
  | (go_at_call 9;(with_reducible refine (HKX.out _ _ _ HX.out HXC.out).mono ?_);go_must (rintro e wk ⟨A9,c9,lq,rfl,hrq,hcq,hc9,hb⟩;replace HA:=Lib.hid (HA.out.later hb);replace HB:=Lib.hid (HB.out.trans (hb.mono hbz));replace HR:=Lib.hid (RdB.later HR.out hb);replace HD:=Lib.hid (RdB.later HD.out hb);replace hbz:=Nat.le_trans hbz hb.size;replace a0:=HA.out.cell (k:=0) rfl;replace a1:=HA.out.cell (k:=1) rfl;replace a2:=HA.out.cell (k:=2) rfl;replace a3:=HA.out.cell (k:=3) rfl;replace a4:=HA.out.cell (k:=4) rfl;replace HX:=Lib.hid (RdB.later HX.out hb);replace HY:=Lib.hid (RdB.later HY.out hb);have HQ:=Lib.hid hrq;have HCQ:=Lib.hid hcq;clear hb hrq hcq))
  | (go_at_call 12;(with_reducible refine (HEX.out _ _ _ HX.out HXC.out).mono ?_);go_must (rintro e wd ⟨A8,c8,rfl,hr8,hb⟩;replace HA:=Lib.hid (HA.out.later hb);replace HB:=Lib.hid (HB.out.trans (hb.mono hbz));replace HR:=Lib.hid (RdB.later HR.out hb);replace HD:=Lib.hid (RdB.later HD.out hb);replace hbz:=Nat.le_trans hbz hb.size;replace a0:=HA.out.cell (k:=0) rfl;replace a1:=HA.out.cell (k:=1) rfl;replace a2:=HA.out.cell (k:=2) rfl;replace a3:=HA.out.cell (k:=3) rfl;replace a4:=HA.out.cell (k:=4) rfl;replace HQ:=Lib.hid (RdQ.later HQ.out hb);replace HCQ:=Lib.hid (HCQ.out.later hb);replace HA:=Lib.hid (HA.out.alloc (.cells #[.int .i64 (W:Int),.int .i64 (H:Int),.int .i64 (C:Int),.int .i64 (D:Int),.slice A8 n c8] 39));replace HB:=Lib.hid (HB.out.alloc hbz (.cells #[.int .i64 (W:Int),.int .i64 (H:Int),.int .i64 (C:Int),.int .i64 (D:Int),.slice A8 n c8] 39));replace HR:=Lib.hid (rdB_al HR.out (.cells #[.int .i64 (W:Int),.int .i64 (H:Int),.int .i64 (C:Int),.int .i64 (D:Int),.slice A8 n c8] 39));replace HD:=Lib.hid (rdB_al HD.out (.cells #[.int .i64 (W:Int),.int .i64 (H:Int),.int .i64 (C:Int),.int .i64 (D:Int),.slice A8 n c8] 39));replace HQ:=Lib.hid (RdQ.here (RdQ.alloc HQ.out (Nat.le_refl _) (.cells #[.int .i64 (W:Int),.int .i64 (H:Int),.int .i64 (C:Int),.int .i64 (D:Int),.slice A8 n c8] 39)));replace HCQ:=Lib.hid (HCQ.out.alloc (.cells #[.int .i64 (W:Int),.int .i64 (H:Int),.int .i64 (C:Int),.int .i64 (D:Int),.slice A8 n c8] 39));replace hbz:bk≤(wd.alloc (.cells #[.int .i64 (W:Int),.int .i64 (H:Int),.int .i64 (C:Int),.int .i64 (D:Int),.slice A8 n c8] 39)).heap.size:=(by rw [World.size_alloc];omega);replace HY:=Lib.hid (rdB_al (RdB.later HY.out hb) (.cells #[.int .i64 (W:Int),.int .i64 (H:Int),.int .i64 (C:Int),.int .i64 (D:Int),.slice A8 n c8] 39));have H8:=Lib.hid (rdB_al hr8 (.cells #[.int .i64 (W:Int),.int .i64 (H:Int),.int .i64 (C:Int),.int .i64 (D:Int),.slice A8 n c8] 39));have HA8:Hid (Arr (wd.alloc (.cells #[.int .i64 (W:Int),.int .i64 (H:Int),.int .i64 (C:Int),.int .i64 (D:Int),.slice A8 n c8] 39)) wd.heap.size [.int .i64 (W:Int),.int .i64 (H:Int),.int .i64 (C:Int),.int .i64 (D:Int),.slice A8 n c8]):=(show Arr _ _ _ from Arr.new wd [.int .i64 (W:Int),.int .i64 (H:Int),.int .i64 (C:Int),.int .i64 (D:Int),.slice A8 n c8] _);clear hb hr8))
  | (go_at_call 12;(with_reducible refine (HEY.out _ _ _ HY.out HYC.out).mono ?_);go_must (rintro e we ⟨A7,n7,c7,rfl,hb⟩;replace HA:=Lib.hid (HA.out.later hb);replace HB:=Lib.hid (HB.out.trans (hb.mono hbz));replace HR:=Lib.hid (RdB.later HR.out hb);replace HD:=Lib.hid (RdB.later HD.out hb);replace hbz:=Nat.le_trans hbz hb.size;replace a0:=HA.out.cell (k:=0) rfl;replace a1:=HA.out.cell (k:=1) rfl;replace a2:=HA.out.cell (k:=2) rfl;replace a3:=HA.out.cell (k:=3) rfl;replace a4:=HA.out.cell (k:=4) rfl;replace HQ:=Lib.hid (RdQ.later HQ.out hb);replace HCQ:=Lib.hid (HCQ.out.later hb);replace HA:=Lib.hid (HA.out.alloc (.cells #[.int .i64 0,.int .i64 0,.int .i64 0,.int .i64 0,.slice A7 n7 c7] 39));replace HB:=Lib.hid (HB.out.alloc hbz (.cells #[.int .i64 0,.int .i64 0,.int .i64 0,.int .i64 0,.slice A7 n7 c7] 39));replace HR:=Lib.hid (rdB_al HR.out (.cells #[.int .i64 0,.int .i64 0,.int .i64 0,.int .i64 0,.slice A7 n7 c7] 39));replace HD:=Lib.hid (rdB_al HD.out (.cells #[.int .i64 0,.int .i64 0,.int .i64 0,.int .i64 0,.slice A7 n7 c7] 39));replace HQ:=Lib.hid (RdQ.here (RdQ.alloc HQ.out (Nat.le_refl _) (.cells #[.int .i64 0,.int .i64 0,.int .i64 0,.int .i64 0,.slice A7 n7 c7] 39)));replace HCQ:=Lib.hid (HCQ.out.alloc (.cells #[.int .i64 0,.int .i64 0,.int .i64 0,.int .i64 0,.slice A7 n7 c7] 39));replace hbz:bk≤(we.alloc (.cells #[.int .i64 0,.int .i64 0,.int .i64 0,.int .i64 0,.slice A7 n7 c7] 39)).heap.size:=(by rw [World.size_alloc];omega);replace H8:=Lib.hid (rdB_al (RdB.later H8.out hb) (.cells #[.int .i64 0,.int .i64 0,.int .i64 0,.int .i64 0,.slice A7 n7 c7] 39));replace HA8:=Lib.hid ((HA8.out.later hb).alloc (.cells #[.int .i64 0,.int .i64 0,.int .i64 0,.int .i64 0,.slice A7 n7 c7] 39));clear hb))
  | (go_at_call 7;(with_reducible refine (first13_any _).mono ?_);go_must (rintro e wf ⟨rfl,hb⟩;replace HA:=Lib.hid (HA.out.later hb);replace HB:=Lib.hid (HB.out.trans (hb.mono hbz));replace HR:=Lib.hid (RdB.later HR.out hb);replace HD:=Lib.hid (RdB.later HD.out hb);replace hbz:=Nat.le_trans hbz hb.size;replace a0:=HA.out.cell (k:=0) rfl;replace a1:=HA.out.cell (k:=1) rfl;replace a2:=HA.out.cell (k:=2) rfl;replace a3:=HA.out.cell (k:=3) rfl;replace a4:=HA.out.cell (k:=4) rfl;replace HQ:=Lib.hid (RdQ.later HQ.out hb);replace HCQ:=Lib.hid (HCQ.out.later hb);replace H8:=Lib.hid (RdB.later H8.out hb);replace HA8:=Lib.hid (HA8.out.later hb);obtain ⟨bq,oq,xq,rfl,hbq,HXQ,q0,q1⟩:=HQ.out.one (k:=2) (by decide);obtain ⟨kq,dq,Aq,cq,hpq,hlq,hcq2,hrq2⟩:=HCQ.out.one (i:=2) (show 2 < 4 by decide);have hpq2:(([ch,88,121,122],data):CK)=(kq,dq):=(by injection hpq);injection hpq2 with hk1 hk2;subst hk1 hk2;have hxq:xq=([ch,88,121,122],Aq,data.length,cq):=(by have:=HXQ.out.symm.trans hlq;injection this);subst hxq;dsimp only at q0 q1;have hrq3:RdB wf wf.heap.size Aq n2 data:=(by have e9:=HD.out.len;rw [← e9];exact hrq2);have HY1:=Lib.hid (bytesC_any n2 n2 cq c2 Aq A2 data data wf hrq3 HD.out rfl);have HY3:=Lib.hid (rasterC_any (W:Int) (H:Int) (C:Int) (D:Int) n c8 c A8 A bs wf H8.out HR.out);have e0:=HA8.out.cell (k:=0) rfl;have e1:=HA8.out.cell (k:=1) rfl;have e2:=HA8.out.cell (k:=2) rfl;have e3:=HA8.out.cell (k:=3) rfl;have e4:=HA8.out.cell (k:=4) rfl;clear hpq hlq hcq2 hrq2;clear hb))
  | (go_at_call 11;(with_reducible refine HY1.out.mono ?_);go_must (rintro e w12 ⟨rfl,rfl⟩))
  | (go_at_call 14;(with_reducible refine HY3.out.mono ?_);go_must (rintro e w14 ⟨rfl,hb⟩;have HBF:=Lib.hid (HB.out.trans (hb.mono hbz));clear hb)))
 go_ret
 exact ⟨rfl,HBF.out⟩
end Go.Proofs.YteoolehdomjkkaaGreatDoor

/- PngChunks: the walk's two ends joined. -/
namespace Go.Proofs.YteoolehdomjkkaaGreatDoor
set_option linter.all false
open Go.RowKit
theorem pngChunks_walk (s:Sh) (A:Option Addr) (n c:Nat) (bs:List UInt8) (A2:Option Addr) (n2 c2:Nat) (data:List UInt8) (ch:UInt8) (w:World)
  (h:RdB w w.heap.size A n bs) (hc:n≤c) (h2:RdB w w.heap.size A2 n2 data) :
  Calls Tryz.prog 4 #[s.r A n c,.slice A2 n2 c2,.int .u8 (ch.toNat:Int)] w fun e w'=>e=.returned (.bool true)∧Below w.heap.size w w':=by
 cases hm:s.mayR n with
 | false =>
  obtain ⟨W,H,C,D⟩:=s
  exact pngChunks_out W H C D A A2 n c n2 c2 bs data ch.toNat false w h h2 hm (Or.inr (Or.inr (Or.inr (Or.inr rfl))))
 | true =>
  by_cases hk:3000 < n∨500 < n2∨ch.toNat < 97∨122 < ch.toNat
  ·obtain ⟨W,H,C,D⟩:=s
   exact pngChunks_out W H C D A A2 n c n2 c2 bs data ch.toNat true w h h2 hm (by omega)
  ·have hm':=hm
   unfold Sh.mayR at hm'
   rw [Bool.and_eq_true] at hm'
   obtain ⟨W,H,C,D,Q,rfl,hs,hz⟩:=PS.of_may hm'.1
   have hm2:=of_decide_eq_true hm'.2
   rw [hs.size.1] at hm2
   have hm3:n=H * (W * Q):=by exact_mod_cast hm2
   exact pngChunks_main W H C D Q A A2 n c n2 c2 bs data ch w h h2 hc hs hz hm3 (by omega) (by omega) (by omega) (by omega)
end Go.Proofs.YteoolehdomjkkaaGreatDoor

