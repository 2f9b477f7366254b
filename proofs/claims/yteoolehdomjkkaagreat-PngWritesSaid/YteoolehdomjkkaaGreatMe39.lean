/- XPh1 XPh2 -/
import Derived.Test.YteoolehdomjkkaaGreatMe38
import Derived.BigQuiet
namespace Go.Proofs.YteoolehdomjkkaaGreat
set_option linter.all false
open Go.RowKit
set_option maxRecDepth 100000 in
theorem grid9_1 (w:World):Calls Tryz.prog 53 #[.int .i64 1] w fun e w'=>e=.returned (.tuple #[.int .i64 0,.int .i64 0,.int .i64 8,.int .i64 8])∧Below w.heap.size w w':=by
 go_enter Tryz.func53,Tryz.ntmps53
 go_wp2_with fail
 go_quiet (fail)
 go_wp2_with fail
 (try simp only [Exit.inBlock,Exit.then])
 refine bodyPost_ret (results_tmp4 rfl _ _ _) rfl ⟨rfl,bdrewN (((((Below.refl w.heap.size w).alloc (Nat.le_refl _) _).alloc (by simp) _).alloc (by simp;omega) _).alloc (by simp;omega) _) _⟩
set_option maxRecDepth 100000 in
theorem grid9_2 (w:World):Calls Tryz.prog 53 #[.int .i64 2] w fun e w'=>e=.returned (.tuple #[.int .i64 4,.int .i64 0,.int .i64 8,.int .i64 8])∧Below w.heap.size w w':=by
 go_enter Tryz.func53,Tryz.ntmps53
 go_wp2_with fail
 go_quiet (fail)
 go_wp2_with fail
 (try simp only [Exit.inBlock,Exit.then])
 refine bodyPost_ret (results_tmp4 rfl _ _ _) rfl ⟨rfl,bdrewN (((((Below.refl w.heap.size w).alloc (Nat.le_refl _) _).alloc (by simp) _).alloc (by simp;omega) _).alloc (by simp;omega) _) _⟩
set_option maxRecDepth 100000 in
theorem grid9_3 (w:World):Calls Tryz.prog 53 #[.int .i64 3] w fun e w'=>e=.returned (.tuple #[.int .i64 0,.int .i64 4,.int .i64 4,.int .i64 8])∧Below w.heap.size w w':=by
 go_enter Tryz.func53,Tryz.ntmps53
 go_wp2_with fail
 go_quiet (fail)
 go_wp2_with fail
 (try simp only [Exit.inBlock,Exit.then])
 refine bodyPost_ret (results_tmp4 rfl _ _ _) rfl ⟨rfl,bdrewN (((((Below.refl w.heap.size w).alloc (Nat.le_refl _) _).alloc (by simp) _).alloc (by simp;omega) _).alloc (by simp;omega) _) _⟩
set_option maxRecDepth 100000 in
theorem grid9_4 (w:World):Calls Tryz.prog 53 #[.int .i64 4] w fun e w'=>e=.returned (.tuple #[.int .i64 2,.int .i64 0,.int .i64 4,.int .i64 4])∧Below w.heap.size w w':=by
 go_enter Tryz.func53,Tryz.ntmps53
 go_wp2_with fail
 go_quiet (fail)
 go_wp2_with fail
 (try simp only [Exit.inBlock,Exit.then])
 refine bodyPost_ret (results_tmp4 rfl _ _ _) rfl ⟨rfl,bdrewN (((((Below.refl w.heap.size w).alloc (Nat.le_refl _) _).alloc (by simp) _).alloc (by simp;omega) _).alloc (by simp;omega) _) _⟩
set_option maxRecDepth 100000 in
theorem grid9_5 (w:World):Calls Tryz.prog 53 #[.int .i64 5] w fun e w'=>e=.returned (.tuple #[.int .i64 0,.int .i64 2,.int .i64 2,.int .i64 4])∧Below w.heap.size w w':=by
 go_enter Tryz.func53,Tryz.ntmps53
 go_wp2_with fail
 go_quiet (fail)
 go_wp2_with fail
 (try simp only [Exit.inBlock,Exit.then])
 refine bodyPost_ret (results_tmp4 rfl _ _ _) rfl ⟨rfl,bdrewN (((((Below.refl w.heap.size w).alloc (Nat.le_refl _) _).alloc (by simp) _).alloc (by simp;omega) _).alloc (by simp;omega) _) _⟩
set_option maxRecDepth 100000 in
theorem grid9_6 (w:World):Calls Tryz.prog 53 #[.int .i64 6] w fun e w'=>e=.returned (.tuple #[.int .i64 1,.int .i64 0,.int .i64 2,.int .i64 2])∧Below w.heap.size w w':=by
 go_enter Tryz.func53,Tryz.ntmps53
 go_wp2_with fail
 go_quiet (fail)
 go_wp2_with fail
 (try simp only [Exit.inBlock,Exit.then])
 refine bodyPost_ret (results_tmp4 rfl _ _ _) rfl ⟨rfl,bdrewN (((((Below.refl w.heap.size w).alloc (Nat.le_refl _) _).alloc (by simp) _).alloc (by simp;omega) _).alloc (by simp;omega) _) _⟩
set_option maxRecDepth 100000 in
theorem grid9_7 (w:World):Calls Tryz.prog 53 #[.int .i64 7] w fun e w'=>e=.returned (.tuple #[.int .i64 0,.int .i64 1,.int .i64 1,.int .i64 2])∧Below w.heap.size w w':=by
 go_enter Tryz.func53,Tryz.ntmps53
 go_wp2_with fail
 go_quiet (fail)
 go_wp2_with fail
 (try simp only [Exit.inBlock,Exit.then])
 refine bodyPost_ret (results_tmp4 rfl _ _ _) rfl ⟨rfl,bdrewN (((((Below.refl w.heap.size w).alloc (Nat.le_refl _) _).alloc (by simp) _).alloc (by simp;omega) _).alloc (by simp;omega) _) _⟩
theorem grid9_any (k:Nat) (h1:1≤k) (h7:k≤7) (w:World):Calls Tryz.prog 53 #[.int .i64 (k:Int)] w fun e w'=>e=.returned (.tuple #[.int .i64 ((gT k).1.1:Int),.int .i64 ((gT k).1.2:Int),.int .i64 ((gT k).2.1:Int),.int .i64 ((gT k).2.2:Int)])∧Below w.heap.size w w':=by
 rcases (show k=1∨k=2∨k=3∨k=4∨k=5∨k=6∨k=7 by omega) with rfl | rfl | rfl | rfl | rfl | rfl | rfl
 ·exact grid9_1 w
 ·exact grid9_2 w
 ·exact grid9_3 w
 ·exact grid9_4 w
 ·exact grid9_5 w
 ·exact grid9_6 w
 ·exact grid9_7 w
end Go.Proofs.YteoolehdomjkkaaGreat

/- png: the document's Pass. -/
namespace Go.Proofs.YteoolehdomjkkaaGreat
set_option linter.all false
open Go.RowKit
set_option maxRecDepth 100000 in
set_option maxHeartbeats 3200000 in
theorem pass9_bad (s:Sh) (k:Int) (w:World) (h:s.may=false∨(s.may=true∧(k < 1∨7 < k))) :
  Calls Tryz.prog 18 #[.agg #[.int .i64 s.w,.int .i64 s.h,.int .i64 s.c,.int .i64 s.d],.int .i64 k] w fun e w'=>e=.returned (.tuple #[.int .i64 0,.int .i64 0])∧Below w.heap.size w w':=by
 have HM:=Lib.hid (mayS9_any s (w.alloc (.cells #[.int .i64 s.w,.int .i64 s.h,.int .i64 s.c,.int .i64 s.d] 23)))
 have HM:Hid (Calls Tryz.prog 52 #[.agg #[.int .i64 s.w,.int .i64 s.h,.int .i64 s.c,.int .i64 s.d]] (w.alloc (.cells #[.int .i64 s.w,.int .i64 s.h,.int .i64 s.c,.int .i64 s.d] 23)) fun e w'=>e=.returned (.bool s.may)∧Below (w.alloc (.cells #[.int .i64 s.w,.int .i64 s.h,.int .i64 s.c,.int .i64 s.d] 23)).heap.size (w.alloc (.cells #[.int .i64 s.w,.int .i64 s.h,.int .i64 s.c,.int .i64 s.d] 23)) w'):=HM
 have HB0:=Lib.hid ((Below.refl w.heap.size w).alloc (Nat.le_refl _) (.cells #[.int .i64 s.w,.int .i64 s.h,.int .i64 s.c,.int .i64 s.d] 23))
 have hz:w.heap.size≤(w.alloc (.cells #[.int .i64 s.w,.int .i64 s.h,.int .i64 s.c,.int .i64 s.d] 23)).heap.size:=by simp
 generalize s.may=mm at *
 rcases h with rfl | ⟨rfl,h | h⟩
 ·go_enter Tryz.func18,Tryz.ntmps18
  go_wp2_with (go_at_call 52;(with_reducible refine HM.out.mono ?_);go_must (rintro e w2 ⟨rfl,hb2⟩;have HB2:=Lib.hid (HB0.out.trans (hb2.mono hz));clear hb2))
  go_ret2
  exact ⟨rfl,HB2.out⟩
 ·go_enter Tryz.func18,Tryz.ntmps18
  go_wp2_with (go_at_call 52;(with_reducible refine HM.out.mono ?_);go_must (rintro e w2 ⟨rfl,hb2⟩;have HB2:=Lib.hid (HB0.out.trans (hb2.mono hz));clear hb2))
  go_ret2
  exact ⟨rfl,HB2.out⟩
 ·have h1:¬ k < 1:=by omega
  go_enter Tryz.func18,Tryz.ntmps18
  go_wp2_with (go_at_call 52;(with_reducible refine HM.out.mono ?_);go_must (rintro e w2 ⟨rfl,hb2⟩;have HB2:=Lib.hid (HB0.out.trans (hb2.mono hz));clear hb2))
  go_ret2
  exact ⟨rfl,HB2.out⟩
set_option maxRecDepth 100000 in
set_option maxHeartbeats 3200000 in
theorem pass9_ok (W H k:Nat) (c d:Int) (w:World) (hm:Sh.may ⟨W,H,c,d⟩=true) (hW:1≤W∧W≤256) (hH:1≤H∧H≤256) (h1:1≤k) (h7:k≤7) :
  Calls Tryz.prog 18 #[.agg #[.int .i64 (W:Int),.int .i64 (H:Int),.int .i64 c,.int .i64 d],.int .i64 (k:Int)] w fun e w'=>e=.returned (.tuple #[.int .i64 (passW W H k:Int),.int .i64 (passH W H k:Int)])∧Below w.heap.size w w':=by
 obtain ⟨w1,hw1⟩:∃ w1,w.alloc (.cells #[.int .i64 (W:Int),.int .i64 (H:Int),.int .i64 c,.int .i64 d] 23)=w1:=⟨_,rfl⟩
 obtain ⟨bk,hbk⟩:∃ b,w.heap.size=b:=⟨_,rfl⟩
 have HA1:Hid (Arr w1 bk [.int .i64 (W:Int),.int .i64 (H:Int),.int .i64 c,.int .i64 d]):=(show Arr _ _ _ by rw [← hw1,← hbk];exact Arr.new w [.int .i64 (W:Int),.int .i64 (H:Int),.int .i64 c,.int .i64 d] _)
 have HB1:Hid (Below bk w w1):=(show Below _ _ _ by rw [← hw1,← hbk];exact (Below.refl w.heap.size w).alloc (Nat.le_refl _) _)
 have hz1:w1.heap.size=bk+1:=by rw [← hw1,World.size_alloc,hbk]
 have HMY:Hid (Calls Tryz.prog 52 #[.agg #[.int .i64 (W:Int),.int .i64 (H:Int),.int .i64 c,.int .i64 d]] w1 fun e w'=>e=.returned (.bool true)∧Below w1.heap.size w1 w'):=(show Calls _ _ _ _ _ by have:=mayS9_any ⟨W,H,c,d⟩ w1;rw [hm] at this;exact this)
 have HG:=Lib.hid (fun w=>grid9_any k h1 h7 w)
 obtain ⟨g1,g2,g3,g4,g5,g6,g7,g8⟩:=gT_ok k
 have hPW:passW W H k=if W≤(gT k).1.1∨H≤(gT k).1.2 then 0 else cw W (gT k).1.1 (gT k).2.1:=rfl
 have hPH:passH W H k=if W≤(gT k).1.1∨H≤(gT k).1.2 then 0 else cw H (gT k).1.2 (gT k).2.2:=rfl
 generalize (gT k).1.1=X at *
 generalize (gT k).1.2=Y at *
 generalize (gT k).2.1=DX at *
 generalize (gT k).2.2=DY at *
 generalize passW W H k=PW at *
 generalize passH W H k=PH at *
 obtain ⟨a,ha⟩:∃ a,W+DX - 1 - X=a:=⟨_,rfl⟩
 obtain ⟨b,hb⟩:∃ b,H+DY - 1 - Y=b:=⟨_,rfl⟩
 obtain ⟨q,hq⟩:∃ q,a / DX=q:=⟨_,rfl⟩
 obtain ⟨r,hr⟩:∃ r,b / DY=r:=⟨_,rfl⟩
 obtain ⟨P1,hP1⟩:∃ P:Int,(W:Int) - (X:Int)=P:=⟨_,rfl⟩
 obtain ⟨P2,hP2⟩:∃ P:Int,P1+(DX:Int)=P:=⟨_,rfl⟩
 obtain ⟨R1,hR1⟩:∃ P:Int,(H:Int) - (Y:Int)=P:=⟨_,rfl⟩
 obtain ⟨R2,hR2⟩:∃ P:Int,R1+(DY:Int)=P:=⟨_,rfl⟩
 have hP3:P2 - 1=(a:Int):=by omega
 have hR3:R2 - 1=(b:Int):=by omega
 have wid:∀ x:Int,-100000≤x→x≤100000→IntKind.i64.wrap x=x:=fun x h1 h2=>by rw [IntKind.wrap_i64];omega
 have v1:=wid P1 (by omega) (by omega)
 have v2:=wid P2 (by omega) (by omega)
 have v3:=wid (a:Int) (by omega) (by omega)
 have v4:=wid R1 (by omega) (by omega)
 have v5:=wid R2 (by omega) (by omega)
 have v6:=wid (b:Int) (by omega) (by omega)
 have hqa:q≤a:=by rw [← hq];exact Nat.div_le_self _ _
 have hrb:r≤b:=by rw [← hr];exact Nat.div_le_self _ _
 have v7:=wid (q:Int) (by omega) (by omega)
 have v8:=wid (r:Int) (by omega) (by omega)
 have q1:(a:Int).tdiv (DX:Int)=(q:Int):=by rw [← hq];rfl
 have q2:(a:Int) / (DX:Int)=(q:Int):=by rw [← hq];rfl
 have r1:(b:Int).tdiv (DY:Int)=(r:Int):=by rw [← hr];rfl
 have r2:(b:Int) / (DY:Int)=(r:Int):=by rw [← hr];rfl
 have z1:¬ (DX:Int)=0:=by omega
 have z2:¬ (DY:Int)=0:=by omega
 have z3:((DX:Int) == 0)=false:=beq_eq_false_iff_ne.2 z1
 have z4:((DY:Int) == 0)=false:=beq_eq_false_iff_ne.2 z2
 have k1:¬ (k:Int) < 1:=by omega
 have k7:¬ (7:Int) < (k:Int):=by omega
 have hc1:¬ W≤X→cw W X DX=q:=fun h=>by unfold cw;rw [← hq,← ha];congr 1;omega
 have hc2:¬ H≤Y→cw H Y DY=r:=fun h=>by unfold cw;rw [← hr,← hb];congr 1;omega
 clear ha hb hq hr wid hm
 have a0:=HA1.out.cell (k:=0) rfl
 have a1:=HA1.out.cell (k:=1) rfl
 have a2:=HA1.out.cell (k:=2) rfl
 have a3:=HA1.out.cell (k:=3) rfl
 go_enter Tryz.func18,Tryz.ntmps18
 simp only [hw1,hbk]
 go_wp2_with (first
  | (go_at_call 52;(with_reducible refine HMY.out.mono ?_);go_must (rintro e w2 ⟨rfl,hb2⟩;have HA2:=Lib.hid (HA1.out.later hb2);have hz2:=hb2.size;have HB2:=Lib.hid (HB1.out.trans (hb2.mono (by omega)));clear hb2 a0 a1 a2 a3))
  | (go_at_call 53;(with_reducible refine (HG.out _).mono ?_);go_must (rintro e w3 ⟨rfl,hb3⟩;have HA3:=Lib.hid (HA2.out.later hb3);have c0:=HA3.out.cell (k:=0) rfl;have c1:=HA3.out.cell (k:=1) rfl;have hz3:=hb3.size;have HB3:=Lib.hid (HB2.out.trans (hb3.mono (by omega)));clear hb3)))
 by_cases hx:W≤X
 ·have hxi:(W:Int)≤(X:Int):=by omega
  rw [if_pos (.inl hx)] at hPW hPH
  clear hc1 hc2
  go_quiet (fail)
  go_wp2_with fail
  go_ret2
  first | exact ⟨rfl,bdrewN HB3.out _⟩ | exact ⟨by rw [hPW,hPH];rfl,bdrewN HB3.out _⟩
 ·have hxi:¬ (W:Int)≤(X:Int):=by omega
  by_cases hy:H≤Y
  ·have hyi:(H:Int)≤(Y:Int):=by omega
   rw [if_pos (.inr hy)] at hPW hPH
   clear hc1 hc2
   go_quiet (fail)
   go_wp2_with fail
   go_ret2
   first | exact ⟨rfl,bdrewN HB3.out _⟩ | exact ⟨by rw [hPW,hPH];rfl,bdrewN HB3.out _⟩
  ·have hyi:¬ (H:Int)≤(Y:Int):=by omega
   rw [if_neg (by omega),hc1 hx] at hPW
   rw [if_neg (by omega),hc2 hy] at hPH
   clear hc1 hc2
   go_quiet (fail)
   go_wp2_with fail
   go_ret2
   first | exact ⟨rfl,bdrewN HB3.out _⟩ | exact ⟨by rw [hPW,hPH];rfl,bdrewN HB3.out _⟩
end Go.Proofs.YteoolehdomjkkaaGreat

