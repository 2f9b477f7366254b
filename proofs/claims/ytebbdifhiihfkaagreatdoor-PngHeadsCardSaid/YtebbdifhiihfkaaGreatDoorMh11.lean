/- XFl1 XFl2 -/
import Derived.Test.YtebbdifhiihfkaaGreatDoorMh01
import Derived.Test.YtebbdifhiihfkaaGreatDoorMh05
namespace Go.Proofs.YtebbdifhiihfkaaGreatDoor
set_option linter.all false
open Go.RowKit
theorem fixO_1 {k:Nat} (h:k < 144):fixO k=8:=if_pos h
theorem fixO_2 {k:Nat} (h:¬ k < 144) (h2:k < 256):fixO k=9:=by unfold fixO;rw [if_neg h,if_pos h2]
theorem fixO_3 {k:Nat} (h:¬ k < 144) (h2:¬ k < 256) (h3:k < 280):fixO k=7:=by unfold fixO;rw [if_neg h,if_neg h2,if_pos h3]
theorem fixO_4 {k:Nat} (h:¬ k < 144) (h2:¬ k < 256) (h3:¬ k < 280):fixO k=8:=by unfold fixO;rw [if_neg h,if_neg h2,if_neg h3]
theorem repl_snoc (k:Nat) (x:Int):List.replicate (k+1) x=List.replicate k x ++ [x]:=by rw [List.replicate_succ']
set_option maxRecDepth 100000 in
set_option maxHeartbeats 3200000 in
theorem fixed_any (w:World):Calls Tryz.prog 118 #[] w fun e w'=>∃ g c g' c',e=.returned (.tuple #[.slice (some ⟨g,0,none⟩) 288 c,.slice (some ⟨g',0,none⟩) 32 c'])∧w.heap.size≤g∧w.heap.size≤g'∧RdI w' w'.heap.size (some ⟨g,0,none⟩) 288 fixL∧RdI w' w'.heap.size (some ⟨g',0,none⟩) 32 fixD∧Below w.heap.size w w':=by
 have HO0:=Lib.hid (ownI.nil_ w w.heap.size)
 have HB0:=Lib.hid (Below.refl w.heap.size w)
 go_enter Tryz.func118,Tryz.ntmps118
 go_wp2_with fail
 go_loopw [5,2] (fun vi vl wr=>∃ k:Nat,k≤288∧vi=.int .i64 k∧Hid (ownI wr w.heap.size vl ((List.range k).map fixO))∧Hid (Below w.heap.size w wr)) (fun vi _ _=>288 - (intOf vi).toNat)
 case atStart=>exact ⟨0,Nat.zero_le _,rfl,(show ownI _ _ _ _ from HO0.out),HB0⟩
 case round =>
  clear HO0 HB0
  obtain ⟨k,hk,rfl,HO,HB⟩:=hrel
  obtain ⟨Av,nv,rfl,-⟩:=HO.out.form
  by_cases hlt:k < 288
  ·have hi:(k:Int) < 288:=by omega
   have HSN:=Lib.hid (fixL_snoc k)
   have hln:((List.range k).map fixO).length≤300:=by simp;omega
   by_cases h1:k < 144
   ·have h1i:(k:Int) < 144:=by omega
    rw [fixO_1 h1] at HSN
    generalize (List.range k).map fixO=l at *
    go_wp2_with (at_builtin;go_must (refine wpList_appendI rfl (.tmp 14) (.tmp 15) rfl w.heap.size _ _ rfl (ownI.alloc HO.out _) _ 1 1 _ [(8:Int)] rfl (rd_oneI _ _) (by omega) (by have:=HB.out.size;simp;omega) ?_;intro v8 w8 ho8 hg8 hb8 hat8;have HB8:=Lib.hid ((HB.out.alloc HB.out.size (.cells #[Value.int .i64 8] 3)).trans hb8);rw [← HSN.out] at ho8;have HO8:=Lib.hid ho8;clear ho8 hg8 hb8 hat8))
    go_roundw
    case rel=>exact ⟨k+1,by omega,by go_num,HO8,HB8⟩
    case measure=>simp [intOf];omega
   ·have h1i:¬ (k:Int) < 144:=by omega
    by_cases h2:k < 256
    ·have h2i:(k:Int) < 256:=by omega
     rw [fixO_2 h1 h2] at HSN
     generalize (List.range k).map fixO=l at *
     go_wp2_with (at_builtin;go_must (refine wpList_appendI rfl (.tmp 20) (.tmp 21) rfl w.heap.size _ _ rfl (ownI.alloc HO.out _) _ 1 1 _ [(9:Int)] rfl (rd_oneI _ _) (by omega) (by have:=HB.out.size;simp;omega) ?_;intro v8 w8 ho8 hg8 hb8 hat8;have HB8:=Lib.hid ((HB.out.alloc HB.out.size (.cells #[Value.int .i64 9] 3)).trans hb8);rw [← HSN.out] at ho8;have HO8:=Lib.hid ho8;clear ho8 hg8 hb8 hat8))
     go_roundw
     case rel=>exact ⟨k+1,by omega,by go_num,HO8,HB8⟩
     case measure=>simp [intOf];omega
    ·have h2i:¬ (k:Int) < 256:=by omega
     by_cases h3:k < 280
     ·have h3i:(k:Int) < 280:=by omega
      rw [fixO_3 h1 h2 h3] at HSN
      generalize (List.range k).map fixO=l at *
      go_wp2_with (at_builtin;go_must (refine wpList_appendI rfl (.tmp 26) (.tmp 27) rfl w.heap.size _ _ rfl (ownI.alloc HO.out _) _ 1 1 _ [(7:Int)] rfl (rd_oneI _ _) (by omega) (by have:=HB.out.size;simp;omega) ?_;intro v8 w8 ho8 hg8 hb8 hat8;have HB8:=Lib.hid ((HB.out.alloc HB.out.size (.cells #[Value.int .i64 7] 3)).trans hb8);rw [← HSN.out] at ho8;have HO8:=Lib.hid ho8;clear ho8 hg8 hb8 hat8))
      go_roundw
      case rel=>exact ⟨k+1,by omega,by go_num,HO8,HB8⟩
      case measure=>simp [intOf];omega
     ·have h3i:¬ (k:Int) < 280:=by omega
      rw [fixO_4 h1 h2 h3] at HSN
      generalize (List.range k).map fixO=l at *
      go_wp2_with (at_builtin;go_must (refine wpList_appendI rfl (.tmp 8) (.tmp 9) rfl w.heap.size _ _ rfl (ownI.alloc HO.out _) _ 1 1 _ [(8:Int)] rfl (rd_oneI _ _) (by omega) (by have:=HB.out.size;simp;omega) ?_;intro v8 w8 ho8 hg8 hb8 hat8;have HB8:=Lib.hid ((HB.out.alloc HB.out.size (.cells #[Value.int .i64 8] 3)).trans hb8);rw [← HSN.out] at ho8;have HO8:=Lib.hid ho8;clear ho8 hg8 hb8 hat8))
      go_roundw
      case rel=>exact ⟨k+1,by omega,by go_num,HO8,HB8⟩
      case measure=>simp [intOf];omega
  ·obtain rfl:k=288:=by omega
   obtain ⟨wo,rfl⟩:∃ wo:World,wo=wr:=⟨_,rfl⟩
   obtain ⟨gl,rfl,hgl⟩:∃ g,Av=some ⟨g,0,none⟩∧w.heap.size≤g:=by obtain ⟨_,g,e,hg,_⟩:=HO.out.pos (by simp);exact ⟨g,e,hg⟩
   have HL1:=Lib.hid (show RdI wo wo.heap.size (some ⟨gl,0,none⟩) 288 fixL from HO.out.rd)
   have HN2:=Lib.hid (ownI.nil_ wo wo.heap.size)
   have HB2:=Lib.hid (Below.refl wo.heap.size wo)
   have hln:((List.range 288).map fixO).length=288:=by simp
   rw [hln,show ((288:Nat):Int)=288 from rfl]
   clear HO
   go_wp2_with fail
   go_loopw [30,3] (fun vi vl wr=>∃ k:Nat,k≤32∧vi=.int .i64 k∧Hid (ownI wr wo.heap.size vl (List.replicate k (5:Int)))∧Hid (Below wo.heap.size wo wr)) (fun vi _ _=>32 - (intOf vi).toNat)
   case atStart=>exact ⟨0,Nat.zero_le _,rfl,(show ownI _ _ _ _ from HN2.out),HB2⟩
   case round =>
    clear HN2 HB2
    obtain ⟨k,hk,rfl,HO,HB2⟩:=hrel
    obtain ⟨Ad,nd,rfl,-⟩:=HO.out.form
    by_cases hlt:k < 32
    ·have hi:(k:Int) < 32:=by omega
     have HSN:=Lib.hid (repl_snoc k 5)
     have hln:(List.replicate k (5:Int)).length≤300:=by simp;omega
     generalize List.replicate k (5:Int)=l at *
     go_wp2_with (at_builtin;go_must (refine wpList_appendI rfl (.tmp 32) (.tmp 33) rfl wo.heap.size _ _ rfl (ownI.alloc HO.out _) _ 1 1 _ [(5:Int)] rfl (rd_oneI _ _) (by omega) (by have:=HB2.out.size;simp;omega) ?_;intro v8 w8 ho8 hg8 hb8 hat8;have HB8:=Lib.hid ((HB2.out.alloc HB2.out.size (.cells #[Value.int .i64 5] 3)).trans hb8);rw [← HSN.out] at ho8;have HO8:=Lib.hid ho8;clear ho8 hg8 hb8 hat8))
     go_roundw
     case rel=>exact ⟨k+1,by omega,by go_num,HO8,HB8⟩
     case measure=>simp [intOf];omega
    ·obtain rfl:k=32:=by omega
     rw [List.length_replicate]
     go_wp2_with fail
     go_ret2
     obtain ⟨gd,rfl,hgd⟩:∃ g,Ad=some ⟨g,0,none⟩∧wo.heap.size≤g:=by obtain ⟨_,g,e,hg,_⟩:=HO.out.pos (by simp);exact ⟨g,e,hg⟩
     exact ⟨_,_,_,_,rfl,hgl,Nat.le_trans HB.out.size hgd,HL1.out.later HB2.out,(show RdI _ _ _ 32 fixD by have:=HO.out.rd;rwa [List.length_replicate] at this),HB.out.trans (HB2.out.mono HB.out.size)⟩
theorem le29 {k:Nat} (h:k≤29):k=0∨k=1∨k=2∨k=3∨k=4∨k=5∨k=6∨k=7∨k=8∨k=9∨k=10∨k=11∨k=12∨k=13∨k=14∨k=15∨k=16∨k=17∨k=18∨k=19∨k=20∨k=21∨k=22∨k=23∨k=24∨k=25∨k=26∨k=27∨k=28∨k=29:=by omega
theorem le27 {k:Nat} (h:k≤27):k=0∨k=1∨k=2∨k=3∨k=4∨k=5∨k=6∨k=7∨k=8∨k=9∨k=10∨k=11∨k=12∨k=13∨k=14∨k=15∨k=16∨k=17∨k=18∨k=19∨k=20∨k=21∨k=22∨k=23∨k=24∨k=25∨k=26∨k=27:=by omega
set_option maxHeartbeats 3200000 in
theorem group4_any (k:Nat) (hk:k≤27) (w:World):Calls Tryz.prog 183 #[.int .i64 (k:Int),.int .i64 4,.int .i64 3] w fun e w'=>e=.returned (.tuple #[.int .i64 ((lenOf k).1:Int),.int .i64 ((lenOf k).2:Int)])∧w=w':=by
 rcases le27 hk with rfl | rfl | rfl | rfl | rfl | rfl | rfl | rfl | rfl | rfl | rfl | rfl | rfl | rfl | rfl | rfl | rfl | rfl | rfl | rfl | rfl | rfl | rfl | rfl | rfl | rfl | rfl | rfl
 all_goals
  go_enter Tryz.func183,Tryz.ntmps183
  go_wp2_with fail
  go_ret2
  exact ⟨rfl,rfl⟩
set_option maxHeartbeats 3200000 in
theorem group2_any (k:Nat) (hk:k≤29) (w:World):Calls Tryz.prog 183 #[.int .i64 (k:Int),.int .i64 2,.int .i64 1] w fun e w'=>e=.returned (.tuple #[.int .i64 ((distOf k).1:Int),.int .i64 ((distOf k).2:Int)])∧w=w':=by
 rcases le29 hk with rfl | rfl | rfl | rfl | rfl | rfl | rfl | rfl | rfl | rfl | rfl | rfl | rfl | rfl | rfl | rfl | rfl | rfl | rfl | rfl | rfl | rfl | rfl | rfl | rfl | rfl | rfl | rfl | rfl | rfl
 all_goals
  go_enter Tryz.func183,Tryz.ntmps183
  go_wp2_with fail
  go_ret2
  exact ⟨rfl,rfl⟩
theorem lengthOf_any (k:Nat) (hk:k≤28) (w:World):Calls Tryz.prog 170 #[.int .i64 (k:Int)] w fun e w'=>e=.returned (.tuple #[.int .i64 ((lenOf k).1:Int),.int .i64 ((lenOf k).2:Int)])∧w=w':=by
 by_cases h:k=28
 ·subst h
  go_enter Tryz.func170,Tryz.ntmps170
  go_wp2_with fail
  go_ret2
  exact ⟨rfl,rfl⟩
 ·have d:((k:Int) == 28)=false:=beq_eq_false_iff_ne.2 (by omega)
  have HG:=Lib.hid (group4_any k (by omega) w)
  generalize lenOf k=r at *
  clear h hk
  go_enter Tryz.func170,Tryz.ntmps170
  go_wp2_with (go_at_call 183;(with_reducible refine HG.out.mono ?_);go_must (rintro e w1 ⟨rfl,rfl⟩))
  go_ret2
  exact ⟨rfl,rfl⟩
theorem distanceOf_any (k:Nat) (hk:k≤29) (w:World):Calls Tryz.prog 171 #[.int .i64 (k:Int)] w fun e w'=>e=.returned (.tuple #[.int .i64 ((distOf k).1:Int),.int .i64 ((distOf k).2:Int)])∧w=w':=by
 have HG:=Lib.hid (group2_any k (by omega) w)
 generalize distOf k=r at *
 clear hk
 go_enter Tryz.func171,Tryz.ntmps171
 go_wp2_with (go_at_call 183;(with_reducible refine HG.out.mono ?_);go_must (rintro e w1 ⟨rfl,rfl⟩))
 go_ret2
 exact ⟨rfl,rfl⟩
end Go.Proofs.YtebbdifhiihfkaaGreatDoor

/- flate: symbols of lengths and of distances. -/
namespace Go.Proofs.YtebbdifhiihfkaaGreatDoor
set_option linter.all false
open Go.RowKit
/-- What Symbol answers. -/
def symV (x:Int):Int × Int × Int:=if x < 3∨258 < x then (-1,0,0) else (257+(lenS x.toNat:Int),((lenOf (lenS x.toNat)).2:Int),x - ((lenOf (lenS x.toNat)).1:Int))
def dstV (x:Int):Int × Int × Int:=if x < 1∨32768 < x then (-1,0,0) else ((distS x.toNat:Int),((distOf (distS x.toNat)).2:Int),x - ((distOf (distS x.toNat)).1:Int))
theorem lenOf_le {k:Nat} (h:k≤28):(lenOf k).1≤258∧(lenOf k).2≤5:=by
 rcases le28 h with rfl | rfl | rfl | rfl | rfl | rfl | rfl | rfl | rfl | rfl | rfl | rfl | rfl | rfl | rfl | rfl | rfl | rfl | rfl | rfl | rfl | rfl | rfl | rfl | rfl | rfl | rfl | rfl | rfl <;> decide
theorem distOf_le {k:Nat} (h:k≤29):(distOf k).1≤24577∧(distOf k).2≤13:=by
 rcases le29 h with rfl | rfl | rfl | rfl | rfl | rfl | rfl | rfl | rfl | rfl | rfl | rfl | rfl | rfl | rfl | rfl | rfl | rfl | rfl | rfl | rfl | rfl | rfl | rfl | rfl | rfl | rfl | rfl | rfl | rfl <;> decide
set_option maxHeartbeats 3200000 in
theorem symbol_any (x:Int) (w:World):Calls Tryz.prog 150 #[.int .i64 x] w fun e w'=>e=.returned (.tuple #[.int .i64 (symV x).1,.int .i64 (symV x).2.1,.int .i64 (symV x).2.2])∧w=w':=by
 by_cases h1:x < 3
 ·have HV:Hid (symV x=(-1,0,0)):=(show _=_ from if_pos (.inl h1))
  go_enter Tryz.func150,Tryz.ntmps150
  go_wp2_with fail
  go_ret3
  exact ⟨by rw [HV.out];rfl,rfl⟩
 ·by_cases h2:258 < x
  ·have HV:Hid (symV x=(-1,0,0)):=(show _=_ from if_pos (.inr h2))
   go_enter Tryz.func150,Tryz.ntmps150
   go_wp2_with fail
   go_ret3
   exact ⟨by rw [HV.out];rfl,rfl⟩
  ·obtain ⟨y,rfl⟩:=Int.eq_ofNat_of_zero_le (show 0≤x by omega)
   have HV:Hid (symV (y:Int)=(257+(lenS y:Int),((lenOf (lenS y)).2:Int),(y:Int) - ((lenOf (lenS y)).1:Int))):=(show _=_ by unfold symV;rw [if_neg (by omega)];rfl)
   have HS:=Lib.hid (lenS_spec (x:=y) (by omega))
   go_enter Tryz.func150,Tryz.ntmps150
   go_wp2_with fail
   go_loopw [5] (fun vi wr=>∃ k:Nat,k≤28∧vi=.int .i64 k∧Hid (∀ j,k < j→j≤28→y < (lenOf j).1)∧wr=w) (fun vi _=>(intOf vi).toNat)
   case atStart=>exact ⟨28,Nat.le_refl _,rfl,(show ∀ j,_ from fun j a b=>by omega),rfl⟩
   case round =>
    obtain ⟨k,hk,rfl,HG,rfl⟩:=hrel
    have HL:=Lib.hid (lengthOf_any k hk wr)
    have hb:=lenOf_le hk
    by_cases hf:(lenOf k).1≤y
    ·have HK:Hid (k=lenS y):=(show _=_ from scan_uniq len_mono ⟨hk,hf,HG.out⟩ HS.out)
     have hfi:((lenOf k).1:Int)≤(y:Int):=by omega
     rw [← HK.out] at HV
     generalize lenOf k=r at *
     go_wp2_with (go_at_call 170;(with_reducible refine HL.out.mono ?_);go_must (rintro e w1 ⟨rfl,rfl⟩))
     go_ret3
     exact ⟨by rw [HV.out];rfl,rfl⟩
    ·have hfi:¬ ((lenOf k).1:Int)≤(y:Int):=by omega
     have h0:0 < k:=by
      rcases Nat.eq_zero_or_pos k with e | e
      ·subst e;exact absurd (show (lenOf 0).1≤y from by have:(lenOf 0).1=3:=rfl;omega) hf
      ·exact e
     have hs1:(k:Int) - 1=((k - 1:Nat):Int):=by omega
     have HG1:Hid (∀ j,k - 1 < j→j≤28→y < (lenOf j).1):=(show ∀ j,_ from fun j a b=>by
      by_cases e:j=k
      ·subst e;omega
      ·exact HG.out j (by omega) b)
     generalize lenOf k=r at *
     go_wp2_with (go_at_call 170;(with_reducible refine HL.out.mono ?_);go_must (rintro e w1 ⟨rfl,rfl⟩))
     go_roundw
     case rel=>exact ⟨k - 1,by omega,by rw [← hs1],HG1,trivial⟩
     case measure=>simp [intOf];omega
set_option maxHeartbeats 3200000 in
theorem distance_any (x:Int) (w:World):Calls Tryz.prog 151 #[.int .i64 x] w fun e w'=>e=.returned (.tuple #[.int .i64 (dstV x).1,.int .i64 (dstV x).2.1,.int .i64 (dstV x).2.2])∧w=w':=by
 by_cases h1:x < 1
 ·have HV:Hid (dstV x=(-1,0,0)):=(show _=_ from if_pos (.inl h1))
  go_enter Tryz.func151,Tryz.ntmps151
  go_wp2_with fail
  go_ret3
  exact ⟨by rw [HV.out];rfl,rfl⟩
 ·by_cases h2:32768 < x
  ·have HV:Hid (dstV x=(-1,0,0)):=(show _=_ from if_pos (.inr h2))
   go_enter Tryz.func151,Tryz.ntmps151
   go_wp2_with fail
   go_ret3
   exact ⟨by rw [HV.out];rfl,rfl⟩
  ·obtain ⟨y,rfl⟩:=Int.eq_ofNat_of_zero_le (show 0≤x by omega)
   have HV:Hid (dstV (y:Int)=((distS y:Int),((distOf (distS y)).2:Int),(y:Int) - ((distOf (distS y)).1:Int))):=(show _=_ by unfold dstV;rw [if_neg (by omega)];rfl)
   have HS:=Lib.hid (distS_spec (x:=y) (by omega))
   go_enter Tryz.func151,Tryz.ntmps151
   go_wp2_with fail
   go_loopw [5] (fun vi wr=>∃ k:Nat,k≤29∧vi=.int .i64 k∧Hid (∀ j,k < j→j≤29→y < (distOf j).1)∧wr=w) (fun vi _=>(intOf vi).toNat)
   case atStart=>exact ⟨29,Nat.le_refl _,rfl,(show ∀ j,_ from fun j a b=>by omega),rfl⟩
   case round =>
    obtain ⟨k,hk,rfl,HG,rfl⟩:=hrel
    have HL:=Lib.hid (distanceOf_any k hk wr)
    have hb:=distOf_le hk
    by_cases hf:(distOf k).1≤y
    ·have HK:Hid (k=distS y):=(show _=_ from scan_uniq dist_mono ⟨hk,hf,HG.out⟩ HS.out)
     have hfi:((distOf k).1:Int)≤(y:Int):=by omega
     rw [← HK.out] at HV
     generalize distOf k=r at *
     go_wp2_with (go_at_call 171;(with_reducible refine HL.out.mono ?_);go_must (rintro e w1 ⟨rfl,rfl⟩))
     go_ret3
     exact ⟨by rw [HV.out];rfl,rfl⟩
    ·have hfi:¬ ((distOf k).1:Int)≤(y:Int):=by omega
     have h0:0 < k:=by
      rcases Nat.eq_zero_or_pos k with e | e
      ·subst e;exact absurd (show (distOf 0).1≤y from by have:(distOf 0).1=1:=rfl;omega) hf
      ·exact e
     have hs1:(k:Int) - 1=((k - 1:Nat):Int):=by omega
     have HG1:Hid (∀ j,k - 1 < j→j≤29→y < (distOf j).1):=(show ∀ j,_ from fun j a b=>by
      by_cases e:j=k
      ·subst e;omega
      ·exact HG.out j (by omega) b)
     generalize distOf k=r at *
     go_wp2_with (go_at_call 171;(with_reducible refine HL.out.mono ?_);go_must (rintro e w1 ⟨rfl,rfl⟩))
     go_roundw
     case rel=>exact ⟨k - 1,by omega,by rw [← hs1],HG1,trivial⟩
     case measure=>simp [intOf];omega
end Go.Proofs.YtebbdifhiihfkaaGreatDoor

