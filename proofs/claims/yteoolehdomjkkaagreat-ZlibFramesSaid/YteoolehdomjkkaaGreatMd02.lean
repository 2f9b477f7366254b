/- Merged: Fl1, Fl2, RowK, Stab. -/
import Derived.Test.YteoolehdomjkkaaGreatMd01
/- flate: the fixed lengths; symbols of lengths and of distances. -/
namespace Go.Proofs.YteoolehdomjkkaaGreat
set_option linter.all false
open Go.RowKit
theorem fixO_1 {k:Nat} (h:k < 144):fixO k=8:=if_pos h
theorem fixO_2 {k:Nat} (h:¬ k < 144) (h2:k < 256):fixO k=9:=by unfold fixO;rw [if_neg h,if_pos h2]
theorem fixO_3 {k:Nat} (h:¬ k < 144) (h2:¬ k < 256) (h3:k < 280):fixO k=7:=by unfold fixO;rw [if_neg h,if_neg h2,if_pos h3]
theorem fixO_4 {k:Nat} (h:¬ k < 144) (h2:¬ k < 256) (h3:¬ k < 280):fixO k=8:=by unfold fixO;rw [if_neg h,if_neg h2,if_neg h3]
theorem repl_snoc (k:Nat) (x:Int):List.replicate (k+1) x=List.replicate k x ++ [x]:=by rw [List.replicate_succ']
set_option maxRecDepth 100000 in
set_option maxHeartbeats 3200000 in
theorem fixed_any (w:World):Calls Tryz.prog 24 #[] w fun e w'=>∃ g c g' c',e=.returned (.tuple #[.slice (some ⟨g,0,none⟩) 288 c,.slice (some ⟨g',0,none⟩) 32 c'])∧w.heap.size≤g∧w.heap.size≤g'∧RdI w' w'.heap.size (some ⟨g,0,none⟩) 288 fixL∧RdI w' w'.heap.size (some ⟨g',0,none⟩) 32 fixD∧Below w.heap.size w w':=by
 have HO0:=Lib.hid (ownI.nil_ w w.heap.size)
 have HB0:=Lib.hid (Below.refl w.heap.size w)
 go_enter Tryz.func24,Tryz.ntmps24
 go_wp2_with fail
 go_loopw [5,2] (fun vi vl wr=>∃ k:Nat,k≤288∧vi=.int .i64 k∧Hid (ownI wr w.heap.size vl ((List.range k).map fixO))∧Hid (Below w.heap.size w wr)) (fun vi _ _=>288 - (intOf vi).toNat)
 case atStart=>exact ⟨0,Nat.zero_le _,rfl,(show ownI _ _ _ _ from HO0.out),HB0⟩
 case round =>
  clear HO0 HB0
  obtain ⟨k,hk,rfl,HO,HB⟩:=hrel
  obtain ⟨Av,nv,rfl,-⟩:=HO.out.form
  by_cases hlt:k < 288
  ·have hi:(k:Int) < 288:=by omega
   have HSN:=Lib.hid (fixL_snoc k)
   have hln:((List.range k).map fixO).length≤300:=by simp;omega
   by_cases h1:k < 144
   ·have h1i:(k:Int) < 144:=by omega
    rw [fixO_1 h1] at HSN
    generalize (List.range k).map fixO=l at *
    go_wp2_with (at_builtin;go_must (refine wpList_appendI rfl (.tmp 14) (.tmp 15) rfl w.heap.size _ _ rfl (ownI.alloc HO.out _) _ 1 1 _ [(8:Int)] rfl (rd_oneI _ _) (by omega) (by have:=HB.out.size;simp;omega) ?_;intro v8 w8 ho8 hg8 hb8 hat8;have HB8:=Lib.hid ((HB.out.alloc HB.out.size (.cells #[Value.int .i64 8] 3)).trans hb8);rw [← HSN.out] at ho8;have HO8:=Lib.hid ho8;clear ho8 hg8 hb8 hat8))
    go_roundw
    case rel=>exact ⟨k+1,by omega,by go_num,HO8,HB8⟩
    case measure=>simp [intOf];omega
   ·have h1i:¬ (k:Int) < 144:=by omega
    by_cases h2:k < 256
    ·have h2i:(k:Int) < 256:=by omega
     rw [fixO_2 h1 h2] at HSN
     generalize (List.range k).map fixO=l at *
     go_wp2_with (at_builtin;go_must (refine wpList_appendI rfl (.tmp 20) (.tmp 21) rfl w.heap.size _ _ rfl (ownI.alloc HO.out _) _ 1 1 _ [(9:Int)] rfl (rd_oneI _ _) (by omega) (by have:=HB.out.size;simp;omega) ?_;intro v8 w8 ho8 hg8 hb8 hat8;have HB8:=Lib.hid ((HB.out.alloc HB.out.size (.cells #[Value.int .i64 9] 3)).trans hb8);rw [← HSN.out] at ho8;have HO8:=Lib.hid ho8;clear ho8 hg8 hb8 hat8))
     go_roundw
     case rel=>exact ⟨k+1,by omega,by go_num,HO8,HB8⟩
     case measure=>simp [intOf];omega
    ·have h2i:¬ (k:Int) < 256:=by omega
     by_cases h3:k < 280
     ·have h3i:(k:Int) < 280:=by omega
      rw [fixO_3 h1 h2 h3] at HSN
      generalize (List.range k).map fixO=l at *
      go_wp2_with (at_builtin;go_must (refine wpList_appendI rfl (.tmp 26) (.tmp 27) rfl w.heap.size _ _ rfl (ownI.alloc HO.out _) _ 1 1 _ [(7:Int)] rfl (rd_oneI _ _) (by omega) (by have:=HB.out.size;simp;omega) ?_;intro v8 w8 ho8 hg8 hb8 hat8;have HB8:=Lib.hid ((HB.out.alloc HB.out.size (.cells #[Value.int .i64 7] 3)).trans hb8);rw [← HSN.out] at ho8;have HO8:=Lib.hid ho8;clear ho8 hg8 hb8 hat8))
      go_roundw
      case rel=>exact ⟨k+1,by omega,by go_num,HO8,HB8⟩
      case measure=>simp [intOf];omega
     ·have h3i:¬ (k:Int) < 280:=by omega
      rw [fixO_4 h1 h2 h3] at HSN
      generalize (List.range k).map fixO=l at *
      go_wp2_with (at_builtin;go_must (refine wpList_appendI rfl (.tmp 8) (.tmp 9) rfl w.heap.size _ _ rfl (ownI.alloc HO.out _) _ 1 1 _ [(8:Int)] rfl (rd_oneI _ _) (by omega) (by have:=HB.out.size;simp;omega) ?_;intro v8 w8 ho8 hg8 hb8 hat8;have HB8:=Lib.hid ((HB.out.alloc HB.out.size (.cells #[Value.int .i64 8] 3)).trans hb8);rw [← HSN.out] at ho8;have HO8:=Lib.hid ho8;clear ho8 hg8 hb8 hat8))
      go_roundw
      case rel=>exact ⟨k+1,by omega,by go_num,HO8,HB8⟩
      case measure=>simp [intOf];omega
  ·obtain rfl:k=288:=by omega
   obtain ⟨wo,rfl⟩:∃ wo:World,wo=wr:=⟨_,rfl⟩
   obtain ⟨gl,rfl,hgl⟩:∃ g,Av=some ⟨g,0,none⟩∧w.heap.size≤g:=by obtain ⟨_,g,e,hg,_⟩:=HO.out.pos (by simp);exact ⟨g,e,hg⟩
   have HL1:=Lib.hid (show RdI wo wo.heap.size (some ⟨gl,0,none⟩) 288 fixL from HO.out.rd)
   have HN2:=Lib.hid (ownI.nil_ wo wo.heap.size)
   have HB2:=Lib.hid (Below.refl wo.heap.size wo)
   have hln:((List.range 288).map fixO).length=288:=by simp
   rw [hln,show ((288:Nat):Int)=288 from rfl]
   clear HO
   go_wp2_with fail
   go_loopw [30,3] (fun vi vl wr=>∃ k:Nat,k≤32∧vi=.int .i64 k∧Hid (ownI wr wo.heap.size vl (List.replicate k (5:Int)))∧Hid (Below wo.heap.size wo wr)) (fun vi _ _=>32 - (intOf vi).toNat)
   case atStart=>exact ⟨0,Nat.zero_le _,rfl,(show ownI _ _ _ _ from HN2.out),HB2⟩
   case round =>
    clear HN2 HB2
    obtain ⟨k,hk,rfl,HO,HB2⟩:=hrel
    obtain ⟨Ad,nd,rfl,-⟩:=HO.out.form
    by_cases hlt:k < 32
    ·have hi:(k:Int) < 32:=by omega
     have HSN:=Lib.hid (repl_snoc k 5)
     have hln:(List.replicate k (5:Int)).length≤300:=by simp;omega
     generalize List.replicate k (5:Int)=l at *
     go_wp2_with (at_builtin;go_must (refine wpList_appendI rfl (.tmp 32) (.tmp 33) rfl wo.heap.size _ _ rfl (ownI.alloc HO.out _) _ 1 1 _ [(5:Int)] rfl (rd_oneI _ _) (by omega) (by have:=HB2.out.size;simp;omega) ?_;intro v8 w8 ho8 hg8 hb8 hat8;have HB8:=Lib.hid ((HB2.out.alloc HB2.out.size (.cells #[Value.int .i64 5] 3)).trans hb8);rw [← HSN.out] at ho8;have HO8:=Lib.hid ho8;clear ho8 hg8 hb8 hat8))
     go_roundw
     case rel=>exact ⟨k+1,by omega,by go_num,HO8,HB8⟩
     case measure=>simp [intOf];omega
    ·obtain rfl:k=32:=by omega
     rw [List.length_replicate]
     go_wp2_with fail
     go_ret2
     obtain ⟨gd,rfl,hgd⟩:∃ g,Ad=some ⟨g,0,none⟩∧wo.heap.size≤g:=by obtain ⟨_,g,e,hg,_⟩:=HO.out.pos (by simp);exact ⟨g,e,hg⟩
     exact ⟨_,_,_,_,rfl,hgl,Nat.le_trans HB.out.size hgd,HL1.out.later HB2.out,(show RdI _ _ _ 32 fixD by have:=HO.out.rd;rwa [List.length_replicate] at this),HB.out.trans (HB2.out.mono HB.out.size)⟩
theorem le29 {k:Nat} (h:k≤29):k=0∨k=1∨k=2∨k=3∨k=4∨k=5∨k=6∨k=7∨k=8∨k=9∨k=10∨k=11∨k=12∨k=13∨k=14∨k=15∨k=16∨k=17∨k=18∨k=19∨k=20∨k=21∨k=22∨k=23∨k=24∨k=25∨k=26∨k=27∨k=28∨k=29:=by omega
theorem le27 {k:Nat} (h:k≤27):k=0∨k=1∨k=2∨k=3∨k=4∨k=5∨k=6∨k=7∨k=8∨k=9∨k=10∨k=11∨k=12∨k=13∨k=14∨k=15∨k=16∨k=17∨k=18∨k=19∨k=20∨k=21∨k=22∨k=23∨k=24∨k=25∨k=26∨k=27:=by omega
set_option maxHeartbeats 3200000 in
theorem group4_any (k:Nat) (hk:k≤27) (w:World):Calls Tryz.prog 126 #[.int .i64 (k:Int),.int .i64 4,.int .i64 3] w fun e w'=>e=.returned (.tuple #[.int .i64 ((lenOf k).1:Int),.int .i64 ((lenOf k).2:Int)])∧w=w':=by
 rcases le27 hk with rfl | rfl | rfl | rfl | rfl | rfl | rfl | rfl | rfl | rfl | rfl | rfl | rfl | rfl | rfl | rfl | rfl | rfl | rfl | rfl | rfl | rfl | rfl | rfl | rfl | rfl | rfl | rfl
 all_goals
  go_enter Tryz.func126,Tryz.ntmps126
  go_wp2_with fail
  go_ret2
  exact ⟨rfl,rfl⟩
set_option maxHeartbeats 3200000 in
theorem group2_any (k:Nat) (hk:k≤29) (w:World):Calls Tryz.prog 126 #[.int .i64 (k:Int),.int .i64 2,.int .i64 1] w fun e w'=>e=.returned (.tuple #[.int .i64 ((distOf k).1:Int),.int .i64 ((distOf k).2:Int)])∧w=w':=by
 rcases le29 hk with rfl | rfl | rfl | rfl | rfl | rfl | rfl | rfl | rfl | rfl | rfl | rfl | rfl | rfl | rfl | rfl | rfl | rfl | rfl | rfl | rfl | rfl | rfl | rfl | rfl | rfl | rfl | rfl | rfl | rfl
 all_goals
  go_enter Tryz.func126,Tryz.ntmps126
  go_wp2_with fail
  go_ret2
  exact ⟨rfl,rfl⟩
theorem lengthOf_any (k:Nat) (hk:k≤28) (w:World):Calls Tryz.prog 70 #[.int .i64 (k:Int)] w fun e w'=>e=.returned (.tuple #[.int .i64 ((lenOf k).1:Int),.int .i64 ((lenOf k).2:Int)])∧w=w':=by
 by_cases h:k=28
 ·subst h
  go_enter Tryz.func70,Tryz.ntmps70
  go_wp2_with fail
  go_ret2
  exact ⟨rfl,rfl⟩
 ·have d:((k:Int) == 28)=false:=beq_eq_false_iff_ne.2 (by omega)
  have HG:=Lib.hid (group4_any k (by omega) w)
  generalize lenOf k=r at *
  clear h hk
  go_enter Tryz.func70,Tryz.ntmps70
  go_wp2_with (go_at_call 126;(with_reducible refine HG.out.mono ?_);go_must (rintro e w1 ⟨rfl,rfl⟩))
  go_ret2
  exact ⟨rfl,rfl⟩
theorem distanceOf_any (k:Nat) (hk:k≤29) (w:World):Calls Tryz.prog 71 #[.int .i64 (k:Int)] w fun e w'=>e=.returned (.tuple #[.int .i64 ((distOf k).1:Int),.int .i64 ((distOf k).2:Int)])∧w=w':=by
 have HG:=Lib.hid (group2_any k (by omega) w)
 generalize distOf k=r at *
 clear hk
 go_enter Tryz.func71,Tryz.ntmps71
 go_wp2_with (go_at_call 126;(with_reducible refine HG.out.mono ?_);go_must (rintro e w1 ⟨rfl,rfl⟩))
 go_ret2
 exact ⟨rfl,rfl⟩
end Go.Proofs.YteoolehdomjkkaaGreat

/- flate: symbols of lengths and of distances. -/
namespace Go.Proofs.YteoolehdomjkkaaGreat
set_option linter.all false
open Go.RowKit
/-- What Symbol answers. -/
def symV (x:Int):Int × Int × Int:=if x < 3∨258 < x then (-1,0,0) else (257+(lenS x.toNat:Int),((lenOf (lenS x.toNat)).2:Int),x - ((lenOf (lenS x.toNat)).1:Int))
def dstV (x:Int):Int × Int × Int:=if x < 1∨32768 < x then (-1,0,0) else ((distS x.toNat:Int),((distOf (distS x.toNat)).2:Int),x - ((distOf (distS x.toNat)).1:Int))
theorem lenOf_le {k:Nat} (h:k≤28):(lenOf k).1≤258∧(lenOf k).2≤5:=by
 rcases le28 h with rfl | rfl | rfl | rfl | rfl | rfl | rfl | rfl | rfl | rfl | rfl | rfl | rfl | rfl | rfl | rfl | rfl | rfl | rfl | rfl | rfl | rfl | rfl | rfl | rfl | rfl | rfl | rfl | rfl <;> decide
theorem distOf_le {k:Nat} (h:k≤29):(distOf k).1≤24577∧(distOf k).2≤13:=by
 rcases le29 h with rfl | rfl | rfl | rfl | rfl | rfl | rfl | rfl | rfl | rfl | rfl | rfl | rfl | rfl | rfl | rfl | rfl | rfl | rfl | rfl | rfl | rfl | rfl | rfl | rfl | rfl | rfl | rfl | rfl | rfl <;> decide
set_option maxHeartbeats 3200000 in
theorem symbol_any (x:Int) (w:World):Calls Tryz.prog 26 #[.int .i64 x] w fun e w'=>e=.returned (.tuple #[.int .i64 (symV x).1,.int .i64 (symV x).2.1,.int .i64 (symV x).2.2])∧w=w':=by
 by_cases h1:x < 3
 ·have HV:Hid (symV x=(-1,0,0)):=(show _=_ from if_pos (.inl h1))
  go_enter Tryz.func26,Tryz.ntmps26
  go_wp2_with fail
  go_ret3
  exact ⟨by rw [HV.out];rfl,rfl⟩
 ·by_cases h2:258 < x
  ·have HV:Hid (symV x=(-1,0,0)):=(show _=_ from if_pos (.inr h2))
   go_enter Tryz.func26,Tryz.ntmps26
   go_wp2_with fail
   go_ret3
   exact ⟨by rw [HV.out];rfl,rfl⟩
  ·obtain ⟨y,rfl⟩:=Int.eq_ofNat_of_zero_le (show 0≤x by omega)
   have HV:Hid (symV (y:Int)=(257+(lenS y:Int),((lenOf (lenS y)).2:Int),(y:Int) - ((lenOf (lenS y)).1:Int))):=(show _=_ by unfold symV;rw [if_neg (by omega)];rfl)
   have HS:=Lib.hid (lenS_spec (x:=y) (by omega))
   go_enter Tryz.func26,Tryz.ntmps26
   go_wp2_with fail
   go_loopw [5] (fun vi wr=>∃ k:Nat,k≤28∧vi=.int .i64 k∧Hid (∀ j,k < j→j≤28→y < (lenOf j).1)∧wr=w) (fun vi _=>(intOf vi).toNat)
   case atStart=>exact ⟨28,Nat.le_refl _,rfl,(show ∀ j,_ from fun j a b=>by omega),rfl⟩
   case round =>
    obtain ⟨k,hk,rfl,HG,rfl⟩:=hrel
    have HL:=Lib.hid (lengthOf_any k hk wr)
    have hb:=lenOf_le hk
    by_cases hf:(lenOf k).1≤y
    ·have HK:Hid (k=lenS y):=(show _=_ from scan_uniq len_mono ⟨hk,hf,HG.out⟩ HS.out)
     have hfi:((lenOf k).1:Int)≤(y:Int):=by omega
     rw [← HK.out] at HV
     generalize lenOf k=r at *
     go_wp2_with (go_at_call 70;(with_reducible refine HL.out.mono ?_);go_must (rintro e w1 ⟨rfl,rfl⟩))
     go_ret3
     exact ⟨by rw [HV.out];rfl,rfl⟩
    ·have hfi:¬ ((lenOf k).1:Int)≤(y:Int):=by omega
     have h0:0 < k:=by
      rcases Nat.eq_zero_or_pos k with e | e
      ·subst e;exact absurd (show (lenOf 0).1≤y from by have:(lenOf 0).1=3:=rfl;omega) hf
      ·exact e
     have hs1:(k:Int) - 1=((k - 1:Nat):Int):=by omega
     have HG1:Hid (∀ j,k - 1 < j→j≤28→y < (lenOf j).1):=(show ∀ j,_ from fun j a b=>by
      by_cases e:j=k
      ·subst e;omega
      ·exact HG.out j (by omega) b)
     generalize lenOf k=r at *
     go_wp2_with (go_at_call 70;(with_reducible refine HL.out.mono ?_);go_must (rintro e w1 ⟨rfl,rfl⟩))
     go_roundw
     case rel=>exact ⟨k - 1,by omega,by rw [← hs1],HG1,trivial⟩
     case measure=>simp [intOf];omega
set_option maxHeartbeats 3200000 in
theorem distance_any (x:Int) (w:World):Calls Tryz.prog 28 #[.int .i64 x] w fun e w'=>e=.returned (.tuple #[.int .i64 (dstV x).1,.int .i64 (dstV x).2.1,.int .i64 (dstV x).2.2])∧w=w':=by
 by_cases h1:x < 1
 ·have HV:Hid (dstV x=(-1,0,0)):=(show _=_ from if_pos (.inl h1))
  go_enter Tryz.func28,Tryz.ntmps28
  go_wp2_with fail
  go_ret3
  exact ⟨by rw [HV.out];rfl,rfl⟩
 ·by_cases h2:32768 < x
  ·have HV:Hid (dstV x=(-1,0,0)):=(show _=_ from if_pos (.inr h2))
   go_enter Tryz.func28,Tryz.ntmps28
   go_wp2_with fail
   go_ret3
   exact ⟨by rw [HV.out];rfl,rfl⟩
  ·obtain ⟨y,rfl⟩:=Int.eq_ofNat_of_zero_le (show 0≤x by omega)
   have HV:Hid (dstV (y:Int)=((distS y:Int),((distOf (distS y)).2:Int),(y:Int) - ((distOf (distS y)).1:Int))):=(show _=_ by unfold dstV;rw [if_neg (by omega)];rfl)
   have HS:=Lib.hid (distS_spec (x:=y) (by omega))
   go_enter Tryz.func28,Tryz.ntmps28
   go_wp2_with fail
   go_loopw [5] (fun vi wr=>∃ k:Nat,k≤29∧vi=.int .i64 k∧Hid (∀ j,k < j→j≤29→y < (distOf j).1)∧wr=w) (fun vi _=>(intOf vi).toNat)
   case atStart=>exact ⟨29,Nat.le_refl _,rfl,(show ∀ j,_ from fun j a b=>by omega),rfl⟩
   case round =>
    obtain ⟨k,hk,rfl,HG,rfl⟩:=hrel
    have HL:=Lib.hid (distanceOf_any k hk wr)
    have hb:=distOf_le hk
    by_cases hf:(distOf k).1≤y
    ·have HK:Hid (k=distS y):=(show _=_ from scan_uniq dist_mono ⟨hk,hf,HG.out⟩ HS.out)
     have hfi:((distOf k).1:Int)≤(y:Int):=by omega
     rw [← HK.out] at HV
     generalize distOf k=r at *
     go_wp2_with (go_at_call 71;(with_reducible refine HL.out.mono ?_);go_must (rintro e w1 ⟨rfl,rfl⟩))
     go_ret3
     exact ⟨by rw [HV.out];rfl,rfl⟩
    ·have hfi:¬ ((distOf k).1:Int)≤(y:Int):=by omega
     have h0:0 < k:=by
      rcases Nat.eq_zero_or_pos k with e | e
      ·subst e;exact absurd (show (distOf 0).1≤y from by have:(distOf 0).1=1:=rfl;omega) hf
      ·exact e
     have hs1:(k:Int) - 1=((k - 1:Nat):Int):=by omega
     have HG1:Hid (∀ j,k - 1 < j→j≤29→y < (distOf j).1):=(show ∀ j,_ from fun j a b=>by
      by_cases e:j=k
      ·subst e;omega
      ·exact HG.out j (by omega) b)
     generalize distOf k=r at *
     go_wp2_with (go_at_call 71;(with_reducible refine HL.out.mono ?_);go_must (rintro e w1 ⟨rfl,rfl⟩))
     go_roundw
     case rel=>exact ⟨k - 1,by omega,by rw [← hs1],HG1,trivial⟩
     case measure=>simp [intOf];omega
end Go.Proofs.YteoolehdomjkkaaGreat

/- Rows of lz.Token: 3 cells an element. -/
namespace Go.Proofs.YteoolehdomjkkaaGreat
set_option linter.all false
open Go.RowKit
def eK (x:(Nat × Nat × Nat)):List Value:=[Value.int .i64 (x.1:Int),Value.int .i64 (x.2.1:Int),Value.int .i64 (x.2.2:Int)]
theorem eK_len (x:(Nat × Nat × Nat)):(eK x).length=3:=rfl
/-- The cells of a list. -/
def cK (l:List (Nat × Nat × Nat)):List Value:=l.flatMap eK
theorem cK_length:∀ l:List (Nat × Nat × Nat),(cK l).length=l.length * 3
 | []=>rfl
 | x :: l=>by
  have:=cK_length l
  unfold cK at this ⊢
  rw [List.flatMap_cons,List.length_append,this,eK_len,List.length_cons]
  omega
theorem cK_append (a b:List (Nat × Nat × Nat)):cK (a ++ b)=cK a ++ cK b:=by simp [cK]
theorem cK_single (x:(Nat × Nat × Nat)):cK [x]=eK x:=by simp [cK]
theorem cK_get:∀ (l:List (Nat × Nat × Nat)) (k j:Nat) (hk:k < l.length),j < 3→(cK l)[k * 3+j]?=(eK l[k])[j]?
 | x :: l,0,j,_,hj=>by
  unfold cK
  rw [List.flatMap_cons,List.getElem?_append_left (by rw [eK_len];omega)]
  simp
 | x :: l,i+1,j,hi,hj=>by
  have:=cK_get l i j (by simpa using hi) hj
  unfold cK at this ⊢
  rw [List.flatMap_cons,List.getElem?_append_right (by rw [eK_len];omega),eK_len,List.getElem_cons_succ,← this]
  congr 1
  omega
theorem cK_one (l:List (Nat × Nat × Nat)):∀ u ∈ cK l,u.oneCell'=true:=by
 intro u hu
 simp only [cK,List.mem_flatMap] at hu
 obtain ⟨x,_,hx⟩:=hu
 simp only [eK,List.mem_cons,List.not_mem_nil,or_false] at hx
 rcases hx with rfl | rfl | rfl <;> rfl
theorem cK_set (l:List (Nat × Nat × Nat)) (k:Nat) (x:(Nat × Nat × Nat)) (hk:k < l.length):cK (l.set k x)=(((cK l).set (k * 3) (Value.int .i64 (x.1:Int))).set (k * 3+1) (Value.int .i64 (x.2.1:Int))).set (k * 3+2) (Value.int .i64 (x.2.2:Int)):=by
 have e1:l=l.take k ++ l[k] :: l.drop (k+1):=by rw [← List.drop_eq_getElem_cons hk,List.take_append_drop]
 have e2:l.set k x=l.take k ++ x :: l.drop (k+1):=by rw [List.set_eq_take_append_cons_drop,if_pos hk]
 rw [e2]
 have hl:(cK (l.take k)).length=k * 3:=by rw [cK_length,List.length_take,Nat.min_eq_left (by omega)]
 have e3:cK l=cK (l.take k) ++ (eK l[k] ++ cK (l.drop (k+1))):=by
  conv=>lhs;rw [e1]
  rw [cK_append]
  simp only [cK,List.flatMap_cons]
 have e4:cK (l.take k ++ x :: l.drop (k+1))=cK (l.take k) ++ (eK x ++ cK (l.drop (k+1))):=by
  rw [cK_append]
  simp only [cK,List.flatMap_cons]
 rw [e3,e4]
 generalize cK (l.take k)=P at *
 rw [← hl]
 simp [eK,List.set_append]
theorem Tryz.info_K:(Tryz.prog.info? 122).map (fun i=>(i.zero,i.size,i.bytes))=some (some (.agg #[.int .i64 0,.int .i64 0,.int .i64 0]),3,24):=by kernel_rfl
def ownK (w:World) (base:Nat) (v:Value) (l:List (Nat × Nat × Nat)):Prop:=w.ownsRow base 122 3 v l.length (cK l)
def RdK (w:World) (B:Nat) (A:Option Addr) (n:Nat) (l:List (Nat × Nat × Nat)):Prop:=Rd w B 3 A n (cK l)
theorem RdK.len {w:World} {B n:Nat} {A:Option Addr} {l:List (Nat × Nat × Nat)} (h:RdK w B A n l):l.length=n:=by
 have:=h.1;rw [cK_length] at this;omega
theorem RdK.one {w:World} {B n:Nat} {A:Option Addr} {l:List (Nat × Nat × Nat)} (h:RdK w B A n l) {k:Nat} (hk:k < n) :
  ∃ b o x,A=some ⟨b,o,none⟩∧b < B∧Hid (l[k]?=some x)∧w.cell? ⟨b,o+k * 3,none⟩=some (Value.int .i64 (x.1:Int))∧w.cell? ⟨b,o+k * 3+1,none⟩=some (Value.int .i64 (x.2.1:Int))∧w.cell? ⟨b,o+k * 3+2,none⟩=some (Value.int .i64 (x.2.2:Int)):=by
 obtain ⟨b,o,e,hb,hc⟩:=h.2 (by omega)
 have hl:=h.len
 have hk':k < l.length:=by omega
 refine ⟨b,o,l[k],e,hb,List.getElem?_eq_getElem hk',?_,?_,?_⟩
 ·exact hc (k * 3) _ ((cK_get l k 0 hk' (by omega)).trans rfl)
 ·exact hc (k * 3+1) _ ((cK_get l k 1 hk' (by omega)).trans rfl)
 ·exact hc (k * 3+2) _ ((cK_get l k 2 hk' (by omega)).trans rfl)
theorem RdK.blw {w w':World} {B n:Nat} {A:Option Addr} {l:List (Nat × Nat × Nat)} (h:RdK w B A n l) (hb:Below B w w'):RdK w' B A n l:=Rd.below h hb
theorem RdK.more {w:World} {B B' n:Nat} {A:Option Addr} {l:List (Nat × Nat × Nat)} (h:RdK w B A n l) (hB:B≤B'):RdK w B' A n l:=Rd.more h hB
theorem RdK.here {w:World} {B n:Nat} {A:Option Addr} {l:List (Nat × Nat × Nat)} (h:RdK w B A n l):RdK w w.heap.size A n l :=
 ⟨h.1,fun hn=>by
  obtain ⟨b,o,e,hb,hc⟩:=h.2 hn
  have hl:=h.1
  exact ⟨b,o,e,block_lt_of_cell (a:=⟨b,o+0,none⟩) (hc 0 (cK l)[0] (List.getElem?_eq_getElem (by omega))),hc⟩⟩
theorem RdK.later {w w':World} {n:Nat} {A:Option Addr} {l:List (Nat × Nat × Nat)} (h:RdK w w.heap.size A n l) (hb:Below w.heap.size w w'):RdK w' w'.heap.size A n l:=RdK.here (RdK.blw h hb)
theorem RdK.alloc {w:World} {B n:Nat} {A:Option Addr} {l:List (Nat × Nat × Nat)} (h:RdK w B A n l) (hB:B≤w.heap.size) (o:Obj):RdK (w.alloc o) B A n l:=Rd.alloc h hB o
theorem RdK.nil_ {w:World} {B:Nat} {A:Option Addr}:RdK w B A 0 []:=⟨by simp [cK],fun h=>absurd h (by omega)⟩
theorem RdK.cut {w:World} {B n:Nat} {A:Option Addr} {l:List (Nat × Nat × Nat)} (h:RdK w B A n l) {k m:Nat} (hk:k+m≤n) {A':Option Addr} (hA:0 < m→A'=A.map (·.add (k * 3))) :
  RdK w B A' m ((l.drop k).take m):=by
 have:=Rd.cut h hk (A':=A') hA
 unfold RdK
 have e1:∀ (q:Nat) (l:List (Nat × Nat × Nat)),cK (l.take q)=(cK l).take (q * 3):=fun q l=>by
  rcases Nat.lt_or_ge q l.length with hq | hq
  ·conv=>rhs;rw [← List.take_append_drop q l,cK_append]
   rw [List.take_left' (by rw [cK_length,List.length_take,Nat.min_eq_left (by omega)])]
  ·rw [List.take_of_length_le hq,List.take_of_length_le (by rw [cK_length];exact Nat.mul_le_mul_right _ hq)]
 have e2:∀ (q:Nat) (l:List (Nat × Nat × Nat)),cK (l.drop q)=(cK l).drop (q * 3):=fun q l=>by
  rcases Nat.lt_or_ge q l.length with hq | hq
  ·conv=>rhs;rw [← List.take_append_drop q l,cK_append]
   rw [List.drop_left' (by rw [cK_length,List.length_take,Nat.min_eq_left (by omega)])]
  ·rw [List.drop_eq_nil_of_le hq,List.drop_eq_nil_of_le (by rw [cK_length];exact Nat.mul_le_mul_right _ hq)]
   rfl
 rw [e1,e2]
 exact this
theorem ownK.nil_ (w:World) (base:Nat):ownK w base (.slice none 0 0) []:=World.ownsRow_nil _ _ _ _
theorem ownK.mono {w:World} {base base':Nat} {v:Value} {l:List (Nat × Nat × Nat)} (h:ownK w base v l) (hb:base'≤base):ownK w base' v l:=by
 refine ⟨h.1,?_⟩
 rcases h.2 with hn | ⟨g,cap,cur,rfl,hbg,rest⟩
 ·exact .inl hn
 ·exact .inr ⟨g,cap,cur,rfl,by omega,rest⟩
theorem ownK.later {w w':World} {base:Nat} {v:Value} {l:List (Nat × Nat × Nat)} (h:ownK w base v l) (hb:Below w.heap.size w w'):ownK w' base v l :=
 Below.ownsRow h hb (fun g hg=>(World.ownsRow.lt h g hg).2)
theorem ownK.alloc {w:World} {base:Nat} {v:Value} {l:List (Nat × Nat × Nat)} (h:ownK w base v l) (o:Obj):ownK (w.alloc o) base v l:=World.ownsRow.alloc h o
theorem ownK.drew {w:World} {base:Nat} {v:Value} {l:List (Nat × Nat × Nat)} (h:ownK w base v l):ownK w.drew base v l:=h
theorem ownK.drewN {w:World} {base:Nat} {v:Value} {l:List (Nat × Nat × Nat)} (h:ownK w base v l) (n:Nat):ownK (w.drewN n) base v l:=h
theorem ownK.form {w:World} {base:Nat} {v:Value} {l:List (Nat × Nat × Nat)} (h:ownK w base v l) :
  ∃ A c,v=.slice A l.length c∧RdK w w.heap.size A l.length l∧l.length≤c∧c≤maxLen:=by
 rcases h.2 with ⟨rfl,h0⟩ | ⟨g,cap,cur,rfl,_,_,h1,h2,_⟩
 ·have:l=[]:=List.eq_nil_of_length_eq_zero h0
  subst this
  exact ⟨none,0,rfl,Rd.none_,by simp,by simp⟩
 ·exact ⟨_,_,rfl,Rd.of_own h,h1,h2⟩
theorem ownK.kept {w w':World} {base:Nat} {v:Value} {l:List (Nat × Nat × Nat)} {row:Option Nat} (h:ownK w base v l) (hg:w.grownBy w' row) (hne:v.ownBlock=none∨v.ownBlock ≠ row):ownK w' base v l :=
 World.ownsRow.kept h hg hne
theorem ownK.far {w:World} {base g:Nat} {v:Value} {l:List (Nat × Nat × Nat)} (h:ownK w base v l) (hg:v.ownBlock ≠ some g) (o:Nat) (u:Value) :
  ownK (w.setCell ⟨g,o,none⟩ u) base v l:=by
 refine ⟨h.1,?_⟩
 rcases h.2 with hn | ⟨g',cap,cur,rfl,hb,hgg,rest⟩
 ·exact .inl hn
 ·refine .inr ⟨g',cap,cur,rfl,hb,?_,rest⟩
  rw [Below.heap_setCell _ _ _ _ (by intro e;apply hg;simp [Value.ownBlock];exact e)]
  exact hgg
theorem ownK.ne {w:World} {base g:Nat} {v:Value} {l:List (Nat × Nat × Nat)} (h:ownK w base v l) (hg:g < base):v.ownBlock ≠ some g:=by
 intro e
 have:=(World.ownsRow.lt h g e).1
 omega
theorem ownK.pos {w:World} {base n c:Nat} {A:Option Addr} {l:List (Nat × Nat × Nat)} (h:ownK w base (.slice A n c) l) (hn:0 < n):n=l.length∧∃ g,A=some ⟨g,0,none⟩∧base≤g∧g < w.heap.size:=by
 rcases h.2 with ⟨h',_⟩ | ⟨g,cap,cur,h',hb,hg,_⟩
 ·injection h' with _ h2;omega
 ·injection h' with h1 h2
  exact ⟨h2,g,h1,hb,(World.ownsRow.lt h g (by rw [h1];rfl)).2⟩
theorem ownK.cell {w:World} {base g n c:Nat} {l:List (Nat × Nat × Nat)} (h:ownK w base (.slice (some ⟨g,0,none⟩) n c) l) (hn:n=l.length) {k:Nat} (hk:k < l.length) :
  w.cell? ⟨g,k * 3,none⟩=some ((fun x:(Nat × Nat × Nat)=>Value.int .i64 (x.1:Int)) l[k])∧w.cell? ⟨g,k * 3+1,none⟩=some ((fun x:(Nat × Nat × Nat)=>Value.int .i64 (x.2.1:Int)) l[k])∧w.cell? ⟨g,k * 3+2,none⟩=some ((fun x:(Nat × Nat × Nat)=>Value.int .i64 (x.2.2:Int)) l[k]):=by
 subst hn
 refine ⟨?_,?_,?_⟩
 ·exact (World.ownsRow.cellAt h (k * 3) (by have:=hk;omega)).trans ((cK_get l k 0 hk (by omega)).trans rfl)
 ·exact (World.ownsRow.cellAt h (k * 3+1) (by have:=hk;omega)).trans ((cK_get l k 1 hk (by omega)).trans rfl)
 ·exact (World.ownsRow.cellAt h (k * 3+2) (by have:=hk;omega)).trans ((cK_get l k 2 hk (by omega)).trans rfl)
theorem ownK.frozen {w:World} {base g n c:Nat} {l:List (Nat × Nat × Nat)} (h:ownK w base (.slice (some ⟨g,0,none⟩) n c) l) (hn:n=l.length) (k:Nat) :
  w.frozen? ⟨g,k,none⟩=false:=by
 subst hn
 exact World.ownsRow.frozenAt h k
theorem ownK.store {w:World} {base g n c:Nat} {l:List (Nat × Nat × Nat)} (h:ownK w base (.slice (some ⟨g,0,none⟩) n c) l) (hn:n=l.length) (k:Nat) (x:(Nat × Nat × Nat)) (hk:k < l.length) :
  ownK (((w.setCell ⟨g,k * 3,none⟩ (Value.int .i64 (x.1:Int))).setCell ⟨g,k * 3+1,none⟩ (Value.int .i64 (x.2.1:Int))).setCell ⟨g,k * 3+2,none⟩ (Value.int .i64 (x.2.2:Int))) base (.slice (some ⟨g,0,none⟩) n c) (l.set k x):=by
 subst hn
 have h0:w.ownsRow base 122 3 (.slice (some ⟨g,0,none⟩) l.length c) l.length (cK l):=h
 have h1:=(World.ownsRow.stored h0 (k * 3) (Value.int .i64 (x.1:Int))).1
 have h2:=(World.ownsRow.stored h1 (k * 3+1) (Value.int .i64 (x.2.1:Int))).1
 have h3:=(World.ownsRow.stored h2 (k * 3+2) (Value.int .i64 (x.2.2:Int))).1
 unfold ownK
 rw [List.length_set,cK_set l k x hk]
 exact h3
theorem ownK.rd {w:World} {base n c:Nat} {A:Option Addr} {l:List (Nat × Nat × Nat)} (h:ownK w base (.slice A n c) l):RdK w w.heap.size A n l:=by
 obtain ⟨A4,c4,e5,hd4,_,_⟩:=h.form
 injection e5 with e1 e2 e3
 rw [e1,e2]
 exact hd4
/-- One element that lies in a block, whole. -/
theorem rd_oneK (w:World) (x:(Nat × Nat × Nat)) (t:TypeId) (fr:Nat × Nat):RdK (w.alloc (.cells (eK x).toArray t fr)) (w.heap.size+1) (some ⟨w.heap.size,0,none⟩) 1 [x]:=by
 refine ⟨by rw [cK_length];rfl,fun _=>⟨_,_,rfl,by omega,fun j u hu=>?_⟩⟩
 rw [Nat.zero_add]
 have:=cell_of_row (w.alloc (.cells (eK x).toArray t fr)) w.heap.size j (eK x).toArray t fr (heap_alloc_new w _)
 rw [this]
 rw [cK_single] at hu
 simpa using hu
set_option maxRecDepth 100000 in
theorem run_appendK (w:World) (base:Nat) (t2:TypeId) (v:Value) (l:List (Nat × Nat × Nat)) (hown:ownK w base v l) (B m c:Nat) (A:Option Addr) (news:List (Nat × Nat × Nat)) (hr:RdK w B A m news)
  (hb:l.length+m≤1099511627776) (hbase:base≤w.heap.size) :
  ∃ v' w',(Builtin.append_ #[71,71] t2 #[v,.slice A m c]).run Tryz.prog w=.ok v' w'∧ownK w' base v' (l ++ news)∧w.grownBy w' v.ownBlock ∧
   (v'.ownBlock=v.ownBlock∨v'.ownBlock=some w.heap.size)∧(v'=.slice none 0 0 ↔ v=.slice none 0 0∧m=0):=by
 obtain ⟨i0,hi,hz0,hz1,hz2⟩:=info_parts Tryz.info_K
 have hl:=hr.len
 subst hl
 unfold ownK
 rw [List.length_append,cK_append]
 rcases A with _ | ad
 ·have hn:news=[]:=by
   rcases Nat.eq_zero_or_pos news.length with h0 | h0
   ·exact List.eq_nil_of_length_eq_zero h0
   ·obtain ⟨b,o,h,_⟩:=hr.2 h0
    cases h
  subst hn
  refine ⟨v,w,?_,by simpa [cK,ownK] using hown,World.grownBy.refl w _,.inl rfl,by simp⟩
  rcases hown.2 with ⟨rfl,h0⟩ | ⟨g,cap,cur,rfl,_,_,hnc,_⟩
  ·simp [Builtin.append_,run_underlying Tryz.underlying71,sizeOf,typeInfo,hi,Builtin.lenOf,Builtin.firstCells]
  ·simp [Builtin.append_,run_underlying Tryz.underlying71,sizeOf,typeInfo,hi,Builtin.lenOf,Builtin.firstCells,hnc,storeCells]
 ·have hcells:∀ j u,(cK news)[j]?=some u→w.cell? (ad.add j)=some u:=by
   intro j u hu
   rcases Nat.eq_zero_or_pos news.length with h0 | h0
   ·have hn:news=[]:=List.eq_nil_of_length_eq_zero h0
    subst hn
    simp [cK] at hu
   ·obtain ⟨b,o,h,_,hc⟩:=hr.2 h0
    injection h with h
    subst h
    rw [add_none]
    exact hc j u hu
  obtain ⟨v',w',hrun,h2,h3,h4,h5⟩:=run_append_own_at (P:=Tryz.prog) w base 71 t2 122 i0 _ 3 24 Tryz.underlying71 hi hz0 hz1 hz2 rfl (by omega) v l.length (cK l) hown ad news.length c (cK news) (by rw [cK_length]) hcells (cK_one _) (by unfold maxLen;omega) (by omega) hbase
  exact ⟨v',w',hrun,h2,h3,h5,h4⟩
/-- append(v, x...): v the call's own, x whatever. -/
theorem wpList_appendK {w:World} {ops:Array Oper} {rest:List Oper} {o:Oper} {a:Act} {Q:Exit→Act→World→Prop} (hgd:o.guard=none) (s x:Operand)
  (ho:o.op=.call { callee:=.builtin .append,args:=#[s,x],argTypes:=#[71,71] })
  (base:Nat) (v:Value) (l:List (Nat × Nat × Nat)) (hs:a.eval s=v) (hown:ownK w base v l) (B m c:Nat) (A:Option Addr) (news:List (Nat × Nat × Nat)) (hx:a.eval x=.slice A m c) (hr:RdK w B A m news)
  (hb:l.length+m≤1099511627776) (hbase:base≤w.heap.size)
  (h:∀ v' w',ownK w' base v' (l ++ news)→w.grownBy w' v.ownBlock→Below base w w'→(v'.ownBlock=v.ownBlock∨v'.ownBlock=some w.heap.size)→wpList Tryz.prog ops Q rest (a.put o.dst v') w') :
  wpList Tryz.prog ops Q (o :: rest) a w:=by
 refine wpList_plain hgd fun K hK=>?_
 obtain ⟨v',w',hrun,h2,h3,h4,_⟩:=run_appendK w base o.type v l hown B m c A news hr hb hbase
 unfold Oper.wp execOp
 simp only [ho,resolve,invoke,builtin,Sem.run_bind,Sem.run_pure,Result.andThen_ok,List.map_toArray,List.map_cons,List.map_nil,hs,hx,hrun]
 exact hK _ _ (h v' w' h2 h3 ((Below.refl _ _).grown h3 hbase (fun k hk=>(World.ownsRow.lt hown k hk).1)) h4)
end Go.Proofs.YteoolehdomjkkaaGreat

/- Stable sorting, plainly: lists with the same elements of each weight in the same order, and rising, are one. -/
namespace Go.Proofs.YteoolehdomjkkaaGreat
set_option linter.all false
section
variable {α : Type} (wt : α → Int)
/-- The same elements of each weight, in the same order. -/
def FEq (l l':List α):Prop:=∀ v:Int,l'.filter (fun x=>wt x == v)=l.filter (fun x=>wt x == v)
def Srt (l:List α):Prop:=l.Pairwise (fun x y=>wt x≤wt y)
/-- l' is l, sorted stably. -/
def SS (l l':List α):Prop:=Srt wt l'∧FEq wt l l'
variable {wt}
theorem FEq.refl (l:List α):FEq wt l l:=fun _=>rfl
theorem FEq.trans {a b c:List α} (h:FEq wt a b) (k:FEq wt b c):FEq wt a c:=fun v=>(k v).trans (h v)
theorem FEq.symm {a b:List α} (h:FEq wt a b):FEq wt b a:=fun v=>(h v).symm
theorem FEq.append {a b a' b':List α} (h:FEq wt a a') (k:FEq wt b b'):FEq wt (a ++ b) (a' ++ b'):=fun v=>by
 rw [List.filter_append,List.filter_append,h v,k v]
theorem FEq.swap {U V:List α} (h:∀ x ∈ U,∀ y ∈ V,wt y < wt x):FEq wt (U ++ V) (V ++ U):=fun v=>by
 rw [List.filter_append,List.filter_append]
 by_cases hU:U.filter (fun x=>wt x == v)=[]
 ·rw [hU,List.append_nil,List.nil_append]
 ·have hV:V.filter (fun x=>wt x == v)=[]:=by
   obtain ⟨x,hx⟩:=List.exists_mem_of_ne_nil _ hU
   rw [List.mem_filter,beq_iff_eq] at hx
   rw [List.filter_eq_nil_iff]
   intro y hy e
   rw [beq_iff_eq] at e
   have:=h x hx.1 y hy
   omega
  rw [hV,List.append_nil,List.nil_append]
theorem FEq.mem {a b:List α} (h:FEq wt a b) (x:α):x ∈ b ↔ x ∈ a:=by
 have e:=h (wt x)
 have h1:∀ l:List α,x ∈ l ↔ x ∈ l.filter (fun y=>wt y == wt x):=fun l=>by simp [List.mem_filter]
 rw [h1 a,h1 b,e]
theorem FEq.perm [DecidableEq α] {a b:List α} (h:FEq wt a b):a.Perm b:=by
 rw [List.perm_iff_count]
 intro x
 have h1:∀ l:List α,l.count x=(l.filter (fun y=>wt y == wt x)).count x:=fun l=>by rw [List.count_filter (by simp)]
 rw [h1 a,h1 b,h (wt x)]
theorem FEq.length {a b:List α} (h:FEq wt a b):b.length=a.length:=by
 classical
 exact h.perm.length_eq.symm
theorem Srt.uniq {l:List α}:∀ {l':List α},Srt wt l→Srt wt l'→FEq wt l l'→l=l':=by
 induction l with
 | nil =>
  intro l' _ _ h
  have:=h.length
  exact (List.eq_nil_of_length_eq_zero (by simpa using this)).symm
 | cons x t ih =>
  intro l' h1 h2 h
  cases l' with
  | nil=>have:=h.length;simp at this
  | cons y s =>
   unfold Srt at h1 h2
   rw [List.pairwise_cons] at h1 h2
   have hxy:wt x=wt y:=by
    have hx:x ∈ y :: s:=(h.mem x).2 (by simp)
    have hy:y ∈ x :: t:=(h.mem y).1 (by simp)
    rw [List.mem_cons] at hx hy
    rcases hx with rfl | hx
    ·rfl
    rcases hy with rfl | hy
    ·rfl
    have:=h1.1 y hy
    have:=h2.1 x hx
    omega
   have e:=h (wt x)
   rw [List.filter_cons_of_pos (by simp [hxy]),List.filter_cons_of_pos (by simp)] at e
   injection e with e1 e2
   subst e1
   congr 1
   refine ih h1.2 h2.2 (fun v=>?_)
   by_cases hv:wt y=v
   ·subst hv;exact e2
   ·have e:=h v
    rwa [List.filter_cons_of_neg (by simpa using hv),List.filter_cons_of_neg (by simpa using hv)] at e
theorem SS.uniq {l a b:List α} (h:SS wt l a) (k:SS wt l b):a=b:=Srt.uniq h.1 k.1 (h.2.symm.trans k.2)
theorem SS.of {l:List α} (h:Srt wt l):SS wt l l:=⟨h,FEq.refl l⟩
theorem Srt.append {a b:List α}:Srt wt (a ++ b) ↔ Srt wt a∧Srt wt b∧∀ x ∈ a,∀ y ∈ b,wt x≤wt y:=List.pairwise_append
theorem Srt.one (x:α):Srt wt [x]:=List.pairwise_singleton _ _
theorem Srt.nil_:Srt wt []:=List.Pairwise.nil
/-- Two runs with a gap between them, each sorted. -/
theorem SS.join {U V M N:List α} (h:SS wt U M) (k:SS wt V N) (hg:∀ x ∈ U,∀ y ∈ V,wt x≤wt y):SS wt (U ++ V) (M ++ N) :=
 ⟨Srt.append.2 ⟨h.1,k.1,fun x hx y hy=>hg x ((h.2.mem x).1 hx) y ((k.2.mem y).1 hy)⟩,h.2.append k.2⟩
theorem SS.feq {l l' m:List α} (h:FEq wt l l') (k:SS wt l' m):SS wt l m:=⟨k.1,h.trans k.2⟩
/-- An element set behind all that are no heavier. -/
def insR (wt:α→Int) (acc:List α) (x:α):List α:=acc.takeWhile (fun y=>decide (wt y≤wt x)) ++ x :: acc.dropWhile (fun y=>decide (wt y≤wt x))
def stab (wt:α→Int) (l:List α):List α:=l.foldl (insR wt) []
theorem Srt.drop_gt {l:List α} {v:Int} (h:Srt wt l):∀ y ∈ l.dropWhile (fun y=>decide (wt y≤v)),v < wt y:=by
 induction l with
 | nil=>simp
 | cons x t ih =>
  unfold Srt at h
  rw [List.pairwise_cons] at h
  rw [List.dropWhile_cons]
  split
  ·exact ih h.2
  ·rename_i hx
   intro y hy
   rw [List.mem_cons] at hy
   have hx':v < wt x:=by simpa using hx
   rcases hy with rfl | hy
   ·exact hx'
   ·have:=h.1 y hy;omega
theorem takeWhile_le {l:List α} {v:Int}:∀ y ∈ l.takeWhile (fun y=>decide (wt y≤v)),wt y≤v:=by
 induction l with
 | nil=>simp
 | cons x t ih =>
  intro y hy
  rw [List.takeWhile_cons] at hy
  split at hy
  ·rename_i hx
   rw [List.mem_cons] at hy
   rcases hy with rfl | hy
   ·simpa using hx
   ·exact ih y hy
  ·cases hy
theorem SS.insert {l m:List α} (h:SS wt l m) {a b:List α} (hm:m=a ++ b) (x:α) (ha:∀ y ∈ a,wt y≤wt x) (hb:∀ y ∈ b,wt x < wt y):SS wt (l ++ [x]) (a ++ x :: b):=by
 subst hm
 obtain ⟨h1,h2,h3⟩:=Srt.append.1 h.1
 refine ⟨Srt.append.2 ⟨h1,?_,?_⟩,?_⟩
 ·unfold Srt
  rw [List.pairwise_cons]
  exact ⟨fun y hy=>by have:=hb y hy;omega,h2⟩
 ·intro y hy z hz
  rw [List.mem_cons] at hz
  rcases hz with rfl | hz
  ·exact ha y hy
  ·exact h3 y hy z hz
 ·have e1:FEq wt (l ++ [x]) ((a ++ b) ++ [x]):=h.2.append (FEq.refl _)
  refine e1.trans ?_
  rw [List.append_assoc]
  refine (FEq.refl a).append ?_
  exact FEq.swap (fun y hy z hz=>by
   have:z=x:=by simpa using hz
   subst this
   exact hb y hy)
theorem stab_ss (l:List α):SS wt l (stab wt l):=by
 induction l using snoc_ind with
 | h0=>exact SS.of Srt.nil_
 | h1 l x ih =>
  unfold stab at ih ⊢
  rw [List.foldl_append]
  exact ih.insert (List.takeWhile_append_dropWhile).symm x takeWhile_le (Srt.drop_gt ih.1)
theorem SS.eq_stab {l m:List α} (h:SS wt l m):m=stab wt l:=h.uniq (stab_ss l)
theorem stab_snoc {l a b:List α} {x:α} (hm:stab wt l=a ++ b) (ha:∀ y ∈ a,wt y≤wt x) (hb:∀ y ∈ b,wt x < wt y):stab wt (l ++ [x])=a ++ x :: b :=
 ((stab_ss l).insert hm x ha hb).eq_stab.symm
end
end Go.Proofs.YteoolehdomjkkaaGreat
