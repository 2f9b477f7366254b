/- XPcP XPng4 XPkP XPg3 XPng5 XPg4 XFiltFirst XFiltPure XPdP XNum3 XPe1 -/
import Derived.Test.YtebbdifhiihfkaaGreatDoorMh06
import Derived.Test.YtebbdifhiihfkaaGreatDoorMh31
import Derived.Test.YtebbdifhiihfkaaGreatDoorMh38
import Derived.Test.YtebbdifhiihfkaaGreatDoorMh09
import Derived.Test.YtebbdifhiihfkaaGreatDoorMh05
import Derived.Test.YtebbdifhiihfkaaGreatDoorMh10
import Derived.Test.YtebbdifhiihfkaaGreatDoorMh04
namespace Go.Proofs.YtebbdifhiihfkaaGreatDoor
set_option linter.all false
open Go.RowKit
/-- A chunk by hand. -/
def chQ (x:CK):List UInt8:=beB x.2.length 4 ++ (x.1 ++ x.2) ++ beB (crc (x.1 ++ x.2)) 4
def flatQ (l:List CK):List UInt8:=l.flatMap chQ
theorem chQ_len {x:CK} (h:x.1.length=4):(chQ x).length=x.2.length+12:=by
 unfold chQ
 rw [List.length_append,List.length_append,List.length_append,beB_len,beB_len,h]
 omega
theorem nx_at {x:CK} (h:GoodC x) (pre post:List UInt8):nxL (pre ++ (chQ x ++ post)) pre.length=x.2.length∧nxK (pre ++ (chQ x ++ post)) pre.length=x.1∧nxD (pre ++ (chQ x ++ post)) pre.length=x.2∧nxE (pre ++ (chQ x ++ post)) pre.length=0:=by
 obtain ⟨h1,h2,h3⟩:=h
 obtain ⟨ks,d⟩:=x
 have h1:ks.length=4:=h1
 have h2:ks.all letB=true:=h2
 have h3:d.length≤2147483647:=h3
 have hq:chQ (ks,d) ++ post=beB d.length 4 ++ (ks ++ (d ++ (beB (crc (ks ++ d)) 4 ++ post))):=by unfold chQ;simp [List.append_assoc]
 rw [hq]
 have hcl:crc (ks ++ d) < 4294967296:=crc_lt _
 have ha:=beB_len d.length 4
 have hb:=beB_len (crc (ks ++ d)) 4
 have va:=beV_beB (x:=d.length) (by omega)
 have vb:=beV_beB hcl
 have hcr:crc (ks ++ d)=crc (ks ++ d):=rfl
 generalize beB d.length 4=N at *
 generalize hS:beB (crc (ks ++ d)) 4=S at *
 have dr:∀ j,(pre ++ (N ++ (ks ++ (d ++ (S ++ post))))).drop (pre.length+j)=(N ++ (ks ++ (d ++ (S ++ post)))).drop j:=fun j=>by
  rw [List.drop_append,List.drop_eq_nil_of_le (by omega),List.nil_append]
  congr 1
  omega
 have d4:(N ++ (ks ++ (d ++ (S ++ post)))).drop 4=ks ++ (d ++ (S ++ post)):=by rw [← ha];exact List.drop_left
 have d8:(N ++ (ks ++ (d ++ (S ++ post)))).drop 8=d ++ (S ++ post):=by
  rw [show 8=4+4 from rfl,← List.drop_drop,d4,← h1];exact List.drop_left
 have dz:(N ++ (ks ++ (d ++ (S ++ post)))).drop (8+d.length)=S ++ post:=by
  rw [← List.drop_drop,d8];exact List.drop_left
 have eL:nxL (pre ++ (N ++ (ks ++ (d ++ (S ++ post))))) pre.length=d.length:=by
  unfold nxL
  have:=dr 0
  rw [Nat.add_zero,List.drop_zero] at this
  rw [this,← ha,List.take_left,va]
 have eK:nxK (pre ++ (N ++ (ks ++ (d ++ (S ++ post))))) pre.length=ks:=by
  unfold nxK
  rw [dr,d4,← h1,List.take_left]
 have eD:nxD (pre ++ (N ++ (ks ++ (d ++ (S ++ post))))) pre.length=d:=by
  unfold nxD
  rw [eL,dr,d8,List.take_left]
 have eX:nxX (pre ++ (N ++ (ks ++ (d ++ (S ++ post))))) pre.length=crc (ks ++ d):=by
  unfold nxX
  rw [eL,Nat.add_assoc,dr,dz,← hb,List.take_left,vb]
 have eC:nxC (pre ++ (N ++ (ks ++ (d ++ (S ++ post))))) pre.length=crc (ks ++ d):=by
  unfold nxC
  rw [eL,dr,d4,← List.append_assoc,show 4+d.length=(ks ++ d).length by rw [List.length_append,h1],List.take_left]
 have eN:(pre ++ (N ++ (ks ++ (d ++ (S ++ post))))).length=pre.length+(4+(4+(d.length+(4+post.length)))):=by
  simp only [List.length_append,ha,hb,h1]
 refine ⟨eL,eK,eD,?_⟩
 unfold nxE
 rw [eL,eK,eX,eC,if_neg (by omega),if_neg (by omega),if_neg (by omega),if_neg (by rw [h2];decide),if_neg (by omega),if_pos rfl]
theorem ckF_flat:∀ (l:List CK) (pre:List UInt8) (acc:List CK) (f:Nat),(∀ x ∈ l,GoodC x)→(pre ++ flatQ l).length≤pre.length+f→ckF (pre ++ flatQ l) f pre.length acc=(0,acc ++ l)
 | [],pre,acc,f,_,_=>by
  rw [ckF_end (by simp [flatQ]),List.append_nil]
 | x :: l,pre,acc,f,h,hf=>by
  have hx:=h x (List.mem_cons_self ..)
  have hq:flatQ (x :: l)=chQ x ++ flatQ l:=by unfold flatQ;rw [List.flatMap_cons]
  have hl:=chQ_len hx.1
  obtain ⟨n1,n2,n3,n4⟩:=nx_at hx pre (flatQ l)
  rw [hq] at hf ⊢
  rw [List.length_append,List.length_append] at hf
  obtain ⟨g,rfl⟩:∃ g,f=g+1:=⟨f - 1,by omega⟩
  rw [ckF_go (by rw [List.length_append,List.length_append];omega) n4,n1,n2,n3,← hl]
  have e1:pre ++ (chQ x ++ flatQ l)=(pre ++ chQ x) ++ flatQ l:=(List.append_assoc _ _ _).symm
  have e2:pre.length+(chQ x).length=(pre ++ chQ x).length:=(List.length_append).symm
  rw [e1,e2,ckF_flat l (pre ++ chQ x) _ g (fun y hy=>h y (List.mem_cons_of_mem _ hy)) (by rw [List.length_append,List.length_append];omega),List.append_assoc]
  rfl
theorem chunksP_flat {l:List CK} (h:∀ x ∈ l,GoodC x):chunksP (markL ++ flatQ l)=(0,l):=by
 unfold chunksP
 have e:markL.length=8:=rfl
 rw [if_pos (by rw [← e,List.take_left])]
 have:=ckF_flat l markL [] (markL ++ flatQ l).length h (by omega)
 rwa [e,List.nil_append] at this
theorem ckL_chQ (out ks data:List UInt8):ckL out ks data=out ++ chQ (ks,data):=by
 unfold ckL layL chQ
 simp only [List.append_assoc]
theorem fileP_flat (hd z:List UInt8):fileP hd z=markL ++ flatQ [(IHDR,hd),(IDAT,z),(IEND,[])]:=by
 unfold fileP
 rw [ckL_chQ,ckL_chQ,ckL_chQ]
 unfold flatQ
 simp only [List.flatMap_cons,List.flatMap_nil,List.append_nil,List.append_assoc]
 rfl
end Go.Proofs.YtebbdifhiihfkaaGreatDoor

/- png: the passes. -/
namespace Go.Proofs.YtebbdifhiihfkaaGreatDoor
set_option linter.all false
open Go.RowKit
end Go.Proofs.YtebbdifhiihfkaaGreatDoor

/- png: the pixels of a pass, plainly. -/
namespace Go.Proofs.YtebbdifhiihfkaaGreatDoor
set_option linter.all false
def pxF (W K:Nat) (bs:List UInt8) (x y:Nat):List UInt8:=(bs.drop ((y * W+x) * K)).take K
end Go.Proofs.YtebbdifhiihfkaaGreatDoor

/- png: the pixels of a pass taken. -/
namespace Go.Proofs.YtebbdifhiihfkaaGreatDoor
set_option linter.all false
open Go.RowKit
theorem RdB.px {w:World} {B m K q b o x y W:Nat} {bs:List UInt8} (h:RdB w B (some ⟨b,o,none⟩) m bs) (hq:(y * W+x) * K=q) (hf:q+K≤m):RdB w B (some ⟨b,o+q,none⟩) K (pxF W K bs x y):=by
 unfold pxF
 rw [hq]
 refine RdB.cut h hf (fun _=>?_)
 simp [Addr.add]
end Go.Proofs.YtebbdifhiihfkaaGreatDoor

/- png: how wide and high a pass is. -/
namespace Go.Proofs.YtebbdifhiihfkaaGreatDoor
set_option linter.all false
open Go.RowKit
end Go.Proofs.YtebbdifhiihfkaaGreatDoor

/- png: shapes of passes; a picture written, laced too. -/
namespace Go.Proofs.YtebbdifhiihfkaaGreatDoor
set_option linter.all false
open Go.RowKit
/-- A shape's numbers, and the bytes of its pixels. -/
structure PS (W H C D K:Nat):Prop where
 w1:1≤W
 w2:W≤256
 h1:1≤H
 h2:H≤256
 c1:1≤C
 c2:C≤4
 d:D=8∨D=16
 k:C * D=8 * K
 k1:1≤K
 k8:K≤8
section
variable {W H C D K : Nat}
theorem PS.d16 (h:PS W H C D K):D≤16:=by rcases h.d with e | e <;> omega
theorem PS.nums (h:PS W H C D K):Sh.nums ⟨W,H,C,D⟩=true:=by
 rw [Sh.nums_iff]
 have:=h.w1
 have:=h.w2
 have:=h.h1
 have:=h.h2
 have:=h.c1
 have:=h.c2
 have:=h.d
 refine ⟨⟨?_,?_⟩,⟨?_,?_⟩,⟨?_,?_⟩,?_⟩
 ·show (1:Int)≤(W:Int);omega
 ·show (W:Int)≤256;omega
 ·show (1:Int)≤(H:Int);omega
 ·show (H:Int)≤256;omega
 ·show (1:Int)≤(C:Int);omega
 ·show (C:Int)≤4;omega
 ·show (D:Int)=8∨(D:Int)=16;omega
theorem PS.size (h:PS W H C D K):Sh.size ⟨W,H,C,D⟩=((H * (W * K):Nat):Int)∧Sh.row ⟨W,H,C,D⟩=((W * K:Nat):Int):=by
 have hs:=h.nums
 have hr:Sh.row ⟨W,H,C,D⟩=((W * K:Nat):Int):=by
  unfold Sh.row
  rw [if_pos hs]
  show (W:Int) * (C:Int) * (D:Int) / 8=_
  have:(W:Int) * (C:Int) * (D:Int)=8 * ((W * K:Nat):Int):=by
   have e:W * C * D=8 * (W * K):=by rw [Nat.mul_assoc,h.k];ac_rfl
   rw [show (8:Int) * ((W * K:Nat):Int)=((8 * (W * K):Nat):Int) by push_cast;rfl,← e]
   push_cast
   rfl
  omega
 refine ⟨?_,hr⟩
 unfold Sh.size
 rw [hr,if_pos hs]
 show ((W * K:Nat):Int) * (H:Int)=_
 push_cast
 rw [Int.mul_comm]
theorem PS.pass {pw ph:Nat} (h:PS W H C D K) (h1:1≤pw) (h2:pw≤256) (h3:1≤ph) (h4:ph≤256):PS pw ph C D K:=⟨h1,h2,h3,h4,h.c1,h.c2,h.d,h.k,h.k1,h.k8⟩
theorem PS.of_may {s:Sh} (h:s.may=true):∃ W H C D K:Nat,s=⟨W,H,C,D⟩∧PS W H C D K∧H * (W * K)≤16384:=by
 unfold Sh.may at h
 rw [Bool.and_eq_true] at h
 obtain ⟨hn,hz⟩:=h
 obtain ⟨⟨a1,a2⟩,⟨a3,a4⟩,⟨a5,a6⟩,a7⟩:=(Sh.nums_iff s).1 hn
 obtain ⟨W,H,C,D⟩:=s
 obtain ⟨W,rfl⟩:=Int.eq_ofNat_of_zero_le (show 0≤W by have:1≤W:=a1;omega)
 obtain ⟨H,rfl⟩:=Int.eq_ofNat_of_zero_le (show 0≤H by have:1≤H:=a3;omega)
 obtain ⟨C,rfl⟩:=Int.eq_ofNat_of_zero_le (show 0≤C by have:1≤C:=a5;omega)
 obtain ⟨D,rfl⟩:=Int.eq_ofNat_of_zero_le (show 0≤D by have:D=8∨D=16:=a7;omega)
 have a1:1≤(W:Int):=a1
 have a2:(W:Int)≤256:=a2
 have a3:1≤(H:Int):=a3
 have a4:(H:Int)≤256:=a4
 have a5:1≤(C:Int):=a5
 have a6:(C:Int)≤4:=a6
 have a7:(D:Int)=8∨(D:Int)=16:=a7
 have hd:D=8∨D=16:=by omega
 have key:∃ K,C * D=8 * K∧1≤K∧K≤8:=by
  rcases hd with rfl | rfl
  ·exact ⟨C,by omega,by omega,by omega⟩
  ·exact ⟨2 * C,by omega,by omega,by omega⟩
 obtain ⟨K,k1,k2,k3⟩:=key
 have hp:PS W H C D K:=⟨by omega,by omega,by omega,by omega,by omega,by omega,hd,k1,k2,k3⟩
 refine ⟨W,H,C,D,K,rfl,hp,?_⟩
 have hz2:Sh.size ⟨W,H,C,D⟩≤16384:=by simpa using hz
 rw [hp.size.1] at hz2
 omega
theorem PS.may (h:PS W H C D K) (hm:H * (W * K)≤16384):Sh.may ⟨W,H,C,D⟩=true:=by
 unfold Sh.may
 rw [h.nums,h.size.1]
 simp
 have:((H * (W * K):Nat):Int)≤16384:=by omega
 push_cast at this
 exact this
theorem PS.mayR (h:PS W H C D K) (hm:H * (W * K)≤16384):Sh.mayR ⟨W,H,C,D⟩ (H * (W * K))=true:=by
 unfold Sh.mayR
 rw [h.may hm,h.size.1]
 simp
end
set_option maxRecDepth 100000 in
set_option maxHeartbeats 6400000 in
theorem encode_any (W H C D K m c B:Nat) (A:Option Addr) (bs:List UInt8) (w:World) (hs:PS W H C D K) (hz:H * (W * K)≤16384) (h:RdB w B A m bs) (hB:B≤w.heap.size) (hm:m=H * (W * K)) (hcap:m≤c) :
  Calls Tryz.prog 16 #[.agg #[.int .i64 (W:Int),.int .i64 (H:Int),.int .i64 (C:Int),.int .i64 (D:Int),.slice A m c]] w fun e w'=>∃ g9 n9 c9 l,e=.returned (.tuple #[.slice (some ⟨g9,0,none⟩) n9 c9,.int .i64 0])∧RowM w' g9 n9 c9 l∧FileI (hdrL W H C D 0) (flF K (W * K) bs H) l∧Below w.heap.size w w':=by
 obtain ⟨w1,hw1⟩:∃ w1,w.alloc (.cells #[.int .i64 (W:Int),.int .i64 (H:Int),.int .i64 (C:Int),.int .i64 (D:Int),.slice A m c] 39)=w1:=⟨_,rfl⟩
 obtain ⟨bk,hbk⟩:∃ b,w.heap.size=b:=⟨_,rfl⟩
 have HA1:Hid (Arr w1 bk [.int .i64 (W:Int),.int .i64 (H:Int),.int .i64 (C:Int),.int .i64 (D:Int),.slice A m c]):=(show Arr _ _ _ by rw [← hw1,← hbk];exact Arr.new w [.int .i64 (W:Int),.int .i64 (H:Int),.int .i64 (C:Int),.int .i64 (D:Int),.slice A m c] _)
 have HR1:Hid (RdB w1 B A m bs):=(show RdB _ _ _ _ _ by rw [← hw1];exact Rd.alloc h hB _)
 have HB1:Hid (Below bk w w1):=(show Below _ _ _ by rw [← hw1,← hbk];exact (Below.refl w.heap.size w).alloc (Nat.le_refl _) _)
 have hz1:w1.heap.size=bk+1:=by rw [← hw1,World.size_alloc,hbk]
 have HMY:=Lib.hid (fun w=>may_any ⟨W,H,C,D⟩ A m c w)
 have hmr:=hs.mayR hz
 rw [← hm] at hmr
 rw [hmr] at HMY
 dsimp only [Sh.r] at HMY
 have hlen:=h.len
 have hfl:(flF K (W * K) bs H).length≤20000:=by
  rw [flF_len hs.k1 hs.k8 H (by rw [hlen,hm];exact Nat.le_refl _),Nat.mul_add,Nat.mul_one]
  have:=hs.h2
  omega
 have HFI:=Lib.hid (fun w2 (h:RdB w2 B A m bs) (hB:B≤w2.heap.size)=>filtered_any W H C D K m c B A bs w2 hs.nums hs.k h hB hm hcap (by omega))
 have HFL:=Lib.hid (fun w3 A3 n3 c3 rs (h:RdB w3 w3.heap.size A3 n3 rs) (hn:n3≤40000) (hc:n3≤c3)=>file0_any W H C D w3.heap.size n3 c3 A3 rs w3 h (Nat.le_refl _) hn hc hs.w2 hs.h2 ⟨hs.c1,hs.c2⟩ hs.d)
 generalize flF K (W * K) bs H=F at *
 have a0:=HA1.out.cell (k:=0) rfl
 have a1:=HA1.out.cell (k:=1) rfl
 have a2:=HA1.out.cell (k:=2) rfl
 have a3:=HA1.out.cell (k:=3) rfl
 have a4:=HA1.out.cell (k:=4) rfl
 clear h hm hs hz hmr hlen
 rw [hbk] at hB
 go_enter Tryz.func16,Tryz.ntmps16
 simp only [hw1,hbk]
 go_wp2_with (first
  | (go_at_call 15;(with_reducible refine (HMY.out _).mono ?_);go_must (rintro e w2 ⟨rfl,hb2⟩;have HA2:=Lib.hid (HA1.out.later hb2);have hz2:=hb2.size;have HFI2:=Lib.hid (HFI.out w2 (RdB.blw HR1.out (hb2.mono (by omega))) (by omega));have b0:=HA2.out.cell (k:=0) rfl;have b1:=HA2.out.cell (k:=1) rfl;have b2:=HA2.out.cell (k:=2) rfl;have b3:=HA2.out.cell (k:=3) rfl;have b4:=HA2.out.cell (k:=4) rfl;have HB2:=Lib.hid (HB1.out.trans (hb2.mono (by omega)));clear hb2 a0 a1 a2 a3 a4))
  | (go_at_call 43;(with_reducible refine HFI2.out.mono ?_);go_must (rintro e w3 ⟨v3,rfl,ho3,hb3⟩;obtain ⟨A3,c3,rfl,hr3,hc3,-⟩:=ho3.form;have HA3:=Lib.hid (HA2.out.later hb3);have hz3:=hb3.size;have HFL3:=Lib.hid (HFL.out w3 A3 F.length c3 F hr3 (by omega) hc3);have d0:=HA3.out.cell (k:=0) rfl;have d1:=HA3.out.cell (k:=1) rfl;have d2:=HA3.out.cell (k:=2) rfl;have d3:=HA3.out.cell (k:=3) rfl;have HB3:=Lib.hid (HB2.out.trans (hb3.mono (by omega)));clear ho3 hb3 hr3 b0 b1 b2 b3 b4))
  | (go_at_call 44;(with_reducible refine HFL3.out.mono ?_);go_must (rintro e w4 ⟨g9,n9,c9,l,rfl,hr4,hi4,hb4⟩;have HR4:=Lib.hid hr4;have HI4:=Lib.hid hi4;have HB4:=Lib.hid (HB3.out.trans (hb4.mono (by omega)));clear hr4 hb4 hi4)))
 go_ret2
 exact ⟨g9,n9,c9,l,rfl,HR4.out,HI4.out,HB4.out⟩
end Go.Proofs.YtebbdifhiihfkaaGreatDoor

set_option linter.all false
namespace Go.Proofs.YtebbdifhiihfkaaGreatDoor
open Go.RowKit
end Go.Proofs.YtebbdifhiihfkaaGreatDoor

/- What the filters do, as lists. -/
set_option linter.all false
namespace Go.Proofs.YtebbdifhiihfkaaGreatDoor
open Go.RowKit
theorem undoB_len (kind bpp:Int) (prev row:List UInt8):(undoB kind bpp prev row).length=row.length:=undoTo_len _ _ _ _ _
end Go.Proofs.YtebbdifhiihfkaaGreatDoor

/- png: a picture read, plainly. -/
namespace Go.Proofs.YtebbdifhiihfkaaGreatDoor
set_option linter.all false
open Go.RowKit
/-- What a head says. -/
def chV (c:UInt8):Nat:=if c=0 then 1 else if c=4 then 2 else if c=2 then 3 else if c=6 then 4 else 0
def hdW (hd:List UInt8):Nat:=beV (hd.take 4)
def hdH (hd:List UInt8):Nat:=beV ((hd.drop 4).take 4)
def hdC (hd:List UInt8):Nat:=chV (hd.getD 9 0)
def hdD (hd:List UInt8):Nat:=(hd.getD 8 0).toNat
def hdSh (hd:List UInt8):Sh:=⟨(hdW hd:Int),(hdH hd:Int),(hdC hd:Int),(hdD hd:Int)⟩
def HdBad (hd:List UInt8):Prop:=hd.getD 10 0 ≠ 0∨hd.getD 11 0 ≠ 0∨1 < (hd.getD 12 0).toNat∨hdC hd=0∨(hdD hd ≠ 8∧hdD hd ≠ 16)∨hdW hd=0∨hdH hd=0
instance (hd:List UInt8):Decidable (HdBad hd):=by unfold HdBad;infer_instance
def hdErr (hd:List UInt8):Int:=if HdBad hd then 4 else if (hdSh hd).may=true then 0 else 10
def hdLa (hd:List UInt8):Bool:=hd.getD 12 0 == 1
/-- Rows unfiltered: the pixels, the last row. -/
def unK (n:Nat) (rs:List UInt8) (y:Nat):Nat:=(rs.getD (y * (n+1)) 0).toNat
def unR (K n:Nat) (rs prev:List UInt8) (y:Nat):List UInt8:=undoB (unK n rs y:Int) (K:Int) prev ((rs.drop (y * (n+1)+1)).take n)
def unF (K n:Nat) (rs:List UInt8):Nat→Option (List UInt8 × List UInt8)
 | 0=>some ([],[])
 | y+1=>match unF K n rs y with
  | none=>none
  | some p=>if 4 < unK n rs y then none else some (p.1 ++ unR K n rs p.2 y,unR K n rs p.2 y)
theorem unF_none {K n:Nat} {rs:List UInt8} {y:Nat} (h:unF K n rs y=none):∀ z,y≤z→unF K n rs z=none:=fun z hz=>by
 induction z with
 | zero =>
  obtain rfl:y=0:=by omega
  exact h
 | succ z ih =>
  by_cases e:y=z+1
  ·rw [← e];exact h
  ·rw [unF,ih (by omega)]
theorem unF_step {K n:Nat} {rs:List UInt8} {y:Nat} {p:List UInt8 × List UInt8} (h:unF K n rs y=some p) (hk:¬ 4 < unK n rs y):unF K n rs (y+1)=some (p.1 ++ unR K n rs p.2 y,unR K n rs p.2 y):=by
 rw [unF,h]
 show (if _ then _ else _)=_
 rw [if_neg hk]
theorem unF_stop {K n:Nat} {rs:List UInt8} {y:Nat} {p:List UInt8 × List UInt8} (h:unF K n rs y=some p) (hk:4 < unK n rs y):unF K n rs (y+1)=none:=by
 rw [unF,h]
 show (if _ then _ else _)=_
 rw [if_pos hk]
theorem unR_len {K n:Nat} {rs prev:List UInt8} {y:Nat} (h:(y+1) * (n+1)≤rs.length):(unR K n rs prev y).length=n:=by
 rw [Nat.succ_mul] at h
 unfold unR
 rw [undoB_len,List.length_take,List.length_drop]
 omega
theorem unF_len {K n:Nat} {rs:List UInt8}:∀ {y:Nat} {p:List UInt8 × List UInt8},unF K n rs y=some p→y * (n+1)≤rs.length→p.1.length=y * n∧(p.2.length=0∨p.2.length=n)
 | 0,p,h,_=>by
  injection h with h
  subst h
  exact ⟨by simp,.inl rfl⟩
 | y+1,p,h,hl=>by
  rw [unF] at h
  cases e:unF K n rs y with
  | none=>rw [e] at h;cases h
  | some q =>
   rw [e] at h
   have h:(if 4 < unK n rs y then none else some (q.1 ++ unR K n rs q.2 y,unR K n rs q.2 y))=some p:=h
   split at h
   ·cases h
   ·injection h with h
    subst h
    have h1:=unF_len e (by rw [Nat.succ_mul] at hl;omega)
    have h2:=unR_len (K:=K) (prev:=q.2) hl
    exact ⟨by show (q.1 ++ _).length=_;rw [List.length_append,h1.1,h2,Nat.succ_mul],.inr h2⟩
theorem PK.backM {b l:List UInt8} {most:Int} (h:PK b l) (hb:b.length≤40000) (hm:(b.length:Int)≤most) (hm2:most≤40000):wholP l most=(b,0):=by
 obtain ⟨bz,S,rfl,hw,hS⟩:=h
 exact whol_back hb hm hm2 hw hS
theorem hdrL_get (W H C D:Nat) (L:UInt8):(hdrL W H C D L).length=13∧(hdrL W H C D L).take 4=beB W 4∧((hdrL W H C D L).drop 4).take 4=beB H 4∧(hdrL W H C D L).getD 8 0=UInt8.ofNat D∧(hdrL W H C D L).getD 9 0=colV C∧(hdrL W H C D L).getD 10 0=0∧(hdrL W H C D L).getD 11 0=0∧(hdrL W H C D L).getD 12 0=L:=by
 unfold hdrL
 have ha:=beB_len W 4
 have hb:=beB_len H 4
 generalize beB W 4=a at *
 generalize beB H 4=b at *
 match a,ha with
 | [a1,a2,a3,a4],_ =>
  match b,hb with
  | [b1,b2,b3,b4],_=>exact ⟨rfl,rfl,rfl,rfl,rfl,rfl,rfl,rfl⟩
theorem chV_col {C:Nat} (h1:1≤C) (h4:C≤4):chV (colV C)=C:=by
 rcases (show C=1∨C=2∨C=3∨C=4 by omega) with rfl | rfl | rfl | rfl <;> rfl
theorem hdrL_sh {W H C D:Nat} {L:UInt8} (hW:W < 4294967296) (hH:H < 4294967296) (h1:1≤C) (h4:C≤4) (hD:D=8∨D=16):hdW (hdrL W H C D L)=W∧hdH (hdrL W H C D L)=H∧hdC (hdrL W H C D L)=C∧hdD (hdrL W H C D L)=D:=by
 obtain ⟨-,g1,g2,g3,g4,-⟩:=hdrL_get W H C D L
 unfold hdW hdH hdC hdD
 rw [g1,g2,g3,g4,beV_beB hW,beV_beB hH,chV_col h1 h4]
 refine ⟨rfl,rfl,rfl,?_⟩
 rcases hD with rfl | rfl <;> rfl
theorem hdrL_err {W H C D:Nat} {L:UInt8} (hW:W < 4294967296) (hH:H < 4294967296) (w1:1≤W) (hh1:1≤H) (h1:1≤C) (h4:C≤4) (hD:D=8∨D=16) (hL:L.toNat≤1):hdErr (hdrL W H C D L)=if Sh.may ⟨W,H,C,D⟩=true then 0 else 10:=by
 obtain ⟨s1,s2,s3,s4⟩:=hdrL_sh (L:=L) hW hH h1 h4 hD
 obtain ⟨-,-,-,-,-,g5,g6,g7⟩:=hdrL_get W H C D L
 unfold hdErr hdSh
 rw [if_neg (by unfold HdBad;rw [s1,s2,s3,s4,g5,g6,g7];rintro (h | h | h | h | h | h | h);exact h rfl;exact h rfl;all_goals omega),s1,s2,s3,s4]
end Go.Proofs.YtebbdifhiihfkaaGreatDoor

set_option linter.all false
namespace Go.Proofs.YtebbdifhiihfkaaGreatDoor
open Go.RowKit
set_option maxHeartbeats 400000 in
theorem crcR_any (B n c:Nat) (A:Option Addr) (bs:List UInt8) (w:World) (h:RdB w B A n bs) (hm:n≤140737488355328) :
  Calls Tryz.prog 25 #[.slice A n c] w fun e w'=>e=.returned (.int .u32 (crc bs))∧w=w':=by
 obtain rfl:=h.len
 go_enter Tryz.func25,Tryz.ntmps25
 go_wp2
 go_loop [3,4] (fun s i=>∃ k:Nat,k≤bs.length∧i=.int .i64 k∧s=.int .u32 (crcP (bs.take k))) (fun _ i=>bs.length - (intOf i).toNat)
 case atStart=>exact ⟨0,Nat.zero_le _,rfl,rfl⟩
 case round =>
  obtain ⟨k,hk,rfl,rfl⟩:=hrel
  by_cases hlt:k < bs.length
  ·obtain ⟨b,o,rfl,_,hc⟩:=h.at_ (by omega)
   have hck:=hc k (by omega)
   clear hc
   have hp:=crcP_lt (bs.take k)
   have hx:=bs[k].toNat_lt
   have Hs:=Lib.hid (crcP_step bs k (by omega))
   have hxx:=crc_xor _ _ hp hx
   have hbx:=u32_xor_nat _ _ hp (by omega:bs[k].toNat < 4294967296)
   go_wp2
   go_loop [3,5] (fun s i=>∃ m:Nat,m≤8∧i=.int .i64 m∧s=.int .u32 (crcIt (crcP (bs.take k) ^^^ bs[k].toNat) m)) (fun _ i=>8 - (intOf i).toNat)
   case atStart=>exact ⟨0,Nat.zero_le _,rfl,by simp [crcIt]⟩
   case round =>
    obtain ⟨m,hm8,rfl,rfl⟩:=hrel
    have hy:=crcIt_lt hxx m
    have hs1:crcIt (crcP (bs.take k) ^^^ bs[k].toNat) (m+1)=crcStep (crcIt (crcP (bs.take k) ^^^ bs[k].toNat) m):=rfl
    by_cases hm:m < 8
    ·generalize crcIt (crcP (bs.take k) ^^^ bs[k].toNat) m=y at *
     have H1:=Lib.hid hs1
     clear hs1
     go_wp2
     ·have h1:(bits BinOp.and IntKind.u32 (y:Int) 1 == 1)=true:=by assumption
      go_round
      case rel=>exact ⟨m+1,by omega,by go_num,by rw [H1.out,crc_yes y hy h1]⟩
      case measure=>simp [intOf];omega
     ·have h1:(bits BinOp.and IntKind.u32 (y:Int) 1 == 1)=false:=by assumption
      go_round
      case rel=>exact ⟨m+1,by omega,by go_num,by rw [H1.out,crc_no y hy h1]⟩
      case measure=>simp [intOf];omega
    ·have:m=8:=by omega
     subst this
     go_wp2
     go_round
     case rel=>exact ⟨k+1,by omega,by go_num,by rw [Hs.out]⟩
     case measure=>simp [intOf];omega
  ·have:k=bs.length:=by omega
   subst this
   go_wp2
   go_ret
   refine ⟨?_,rfl⟩
   show Ending.returned (.int .u32 (bits .xor .u32 IntKind.u32.max (crcP bs:Int)))=_
   rw [crc_end _ (crcP_lt _)]
   rfl
end Go.Proofs.YtebbdifhiihfkaaGreatDoor

/- png's laws: a chunk by hand. -/
namespace Go.Proofs.YtebbdifhiihfkaaGreatDoor
set_option linter.all false
open Go.RowKit
set_option maxRecDepth 100000 in
theorem word_any (x:Nat) (h:x < 4294967296) (w:World):Calls Tryz.prog 19 #[.int .i64 (x:Int)] w fun e w'=>∃ v,e=.returned v∧ownB w' w.heap.size v (beB x 4)∧Below w.heap.size w w':=by
 have HB:=Lib.hid (bigN_any x h w)
 go_enter Tryz.func19,Tryz.ntmps19
 go_wp2_with (go_at_call 46;(with_reducible refine HB.out.mono ?_);go_must (rintro e w1 ⟨v1,rfl,ho1,hb1⟩;have HO1:=Lib.hid ho1;have HB1:=Lib.hid hb1;clear ho1 hb1))
 go_ret
 exact ⟨v1,rfl,HO1.out,HB1.out⟩
set_option maxRecDepth 100000 in
set_option maxHeartbeats 3200000 in
theorem chunkL_any (B m c2:Nat) (A:Option Addr) (data ks:List UInt8) (S:ByteArray) (w:World) (hS:S.data.toList=ks) (hks:ks.length=4) (hr:RdB w B A m data) (hB:B≤w.heap.size) (hm:m≤1000000) :
  Calls Tryz.prog 17 #[.string S,.slice A m c2] w fun e w'=>∃ v,e=.returned v∧ownB w' w.heap.size v (chQ (ks,data))∧Below w.heap.size w w':=by
 have hS4:S.size=4:=by show S.data.size=4;rw [← Array.length_toList,hS];exact hks
 obtain ⟨cap,w2,hconv,hb2,hz2,hrow2⟩:=conv_row w S
 rw [hS4] at hconv hrow2
 rw [hS] at hrow2
 have hl:=hr.len
 have HR2:=Lib.hid (hr.blw (hb2.mono hB))
 have HB2:=Lib.hid hb2
 have hzs:=hb2.size
 have HW2:=Lib.hid hrow2
 have HBN:=Lib.hid (fun w=>word_any m (by omega) w)
 have hx:=crc_lt (ks ++ data)
 have HBC:=Lib.hid (fun w=>word_any (crc (ks ++ data)) hx w)
 have HCH:Hid (chQ (ks,data)=beB m 4 ++ (ks ++ data) ++ beB (crc (ks ++ data)) 4):=(show _=_ by unfold chQ;rw [← hl])
 have HCR:=Lib.hid (fun w1 b c' (h:RdB w1 (b+1) (some ⟨b,0,none⟩) (4+m) (ks ++ data))=>crcR_any (b+1) (4+m) c' (some ⟨b,0,none⟩) (ks ++ data) w1 h (by omega))
 have h4:(beB m 4).length=4:=beB_len _ _
 have h5:(beB (crc (ks ++ data)) 4).length=4:=beB_len _ _
 generalize chQ (ks,data)=CP at *
 generalize beB (crc (ks ++ data)) 4=bc at *
 generalize crc (ks ++ data)=X at *
 generalize beB m 4=bn at *
 have HN4:=Lib.hid h4
 have HC4:=Lib.hid h5
 clear hr hb2 hrow2 h4 h5
 go_enter Tryz.func17,Tryz.ntmps17
 have hxw:IntKind.i64.wrap (X:Int)=(X:Int):=wrap_i64_lt X (by omega)
 go_wp2_with (first
  | (go_at_call 25;(with_reducible refine HCR5.out.mono ?_);go_must (rintro e w9 ⟨rfl,rfl⟩))
  | (go_at_call 19;(with_reducible refine (HBC.out _).mono ?_);go_must (rintro e w6 ⟨v6,rfl,ho6,hb6⟩;obtain ⟨A6,c6,hv6,hr6,-,-⟩:=ho6.form;rw [HC4.out] at hv6 hr6;subst hv6;have HR6:=Lib.hid hr6;have hz6:=hb6.size;have HO6:=Lib.hid (HO5.out.later hb6);have HB6:=Lib.hid (HB5.out.trans (hb6.mono (by omega)));have hq6:w.heap.size≤w6.heap.size:=(by omega);clear ho6 hb6 hr6))
  | (go_at_call 19;(with_reducible refine (HBN.out _).mono ?_);go_must (rintro e w4 ⟨v4,rfl,ho4,hb4⟩;obtain ⟨A4,c4,hv4,-,-,-⟩:=ho4.form;rw [HN4.out] at hv4;subst hv4;have HO4:=Lib.hid ho4;have hz4:=hb4.size;have HD4:=Lib.hid (HD3.out.later hb4);have HB4:=Lib.hid (HB3.out.trans (hb4.mono (by omega)));have hq4:w.heap.size≤w4.heap.size:=(by omega);clear ho4 hb4))
  | (at_builtin;(refine wpList_appendB rfl (.tmp 14) (.tmp 18) rfl w.heap.size v5 (bn ++ (ks ++ data)) rfl HO6.out _ 4 c6 A6 bc rfl HR6.out (by rw [List.length_append,List.length_append,HN4.out,hks,hl];omega) hq6 ?_;intro v7 w7 ho7 hg7 hb7 ha7;rw [← HCH.out] at ho7;have HO7:=Lib.hid ho7;have HB7:=Lib.hid (HB6.out.trans hb7);clear ho7 hg7 hb7 ha7))
  | (at_builtin;(refine wpList_appendB rfl (.tmp 12) (.tmp 13) rfl w.heap.size (.slice A4 4 c4) bn rfl (HO4.out.mono (by omega)) (b+1) (4+m) c3 (some ⟨b,0,none⟩) (ks ++ data) rfl HD4.out.rd (by rw [HN4.out];omega) hq4 ?_;intro v5 w5 ho5 hg5 hb5 ha5;have HD5:=HD4.out.keep (hg5.block b HD4.out.lt (fun e=>by have:=(World.ownsRow.lt HO4.out b e.symm).1;omega));have HO5:=Lib.hid ho5;have hz5:=hb5.size;have HB5:=Lib.hid (HB4.out.trans hb5);have HCR5:=Lib.hid (HCR.out w5 b c3 HD5.rd);clear ho5 hg5 hb5 ha5 HD5))
  | (at_builtin;(refine wpList_appendM rfl (.tmp 7) (.tmp 8) rfl w.heap.size 4 cap ks rfl HW2.out B m c2 A data rfl HR2.out (by omega) ?_;intro b c3 w3 hr3 hg3 ha3;have hz3:=hg3.size;have hbw:=hr3.lt;have hb3:w.heap.size≤b:=(by omega);have HD3:=Lib.hid hr3;have HB3:Hid (Below w.heap.size w w3):=(show Below _ _ _ from Below.grown HB2.out hg3 (by omega) (fun k hk=>by injection hk with hk;omega));clear hr3 hg3 ha3)))
 go_ret
 exact ⟨v7,rfl,HO7.out,HB7.out⟩
end Go.Proofs.YtebbdifhiihfkaaGreatDoor

