/- XSymR XSym5 -/
import Derived.Test.YteoolehdomjkkaaGreatMe06
namespace Go.Proofs.YteoolehdomjkkaaGreat
set_option linter.all false
theorem scan_at {f:Nat→Nat × Nat} {x k s n:Nat} (hm:∀ i j,i < j→j≤n→(f i).1 < (f j).1) (h1:k≤n∧(f k).1≤x∧∀ j,k < j→j≤n→x < (f j).1) (hs:s≤n) (h2:(f s).1≤x) (h3:s < n→x < (f (s+1)).1):k=s:=by
 refine scan_uniq hm h1 ⟨hs,h2,fun j hj hn=>?_⟩
 have h4:=h3 (by omega)
 by_cases e:j=s+1
 ·rw [e];exact h4
 ·have:=hm (s+1) j (by omega) hn
  omega
theorem lenS_low {y:Nat} (h:3≤y) (h2:y < 11):lenS y=y - 3∧lenOf (y - 3)=(y,0):=by
 have e1:lenOf (y - 3)=(y,0):=by
  unfold lenOf grp
  rw [if_neg (by omega),if_pos (by omega),show 3+(y - 3)=y by omega]
 refine ⟨scan_at len_mono (lenS_spec h) (by omega) (by rw [e1];exact Nat.le_refl _) (fun _=>?_),e1⟩
 by_cases e:y=10
 ·subst e;decide
 ·unfold lenOf grp
  rw [if_neg (by omega),if_pos (by omega)]
  show y < 3+(y - 3+1)
  omega
theorem lenOf_at0:∀ k,k < 6→∀ q,q < 8→k=0∨q < 4∨((lenOf (4 * k+q)).1=3+q * 2 ^ k∧(lenOf (4 * k+q)).2=k∧(lenOf (4 * k+q+1)).1+(if 4 * k+q=27 then 1 else 0)=3+(q+1) * 2 ^ k):=by decide
theorem lenOf_at (k:Nat) (hk:k < 6) (q:Nat) (hq:q < 8) (h1:1≤k) (h4:4≤q):lenOf (4 * k+q)=(3+q * 2 ^ k,k)∧(lenOf (4 * k+q+1)).1+(if 4 * k+q=27 then 1 else 0)=3+(q+1) * 2 ^ k:=by
 rcases lenOf_at0 k hk q hq with h | h | ⟨a,b,c⟩
 ·omega
 ·omega
 ·exact ⟨Prod.ext a b,c⟩
theorem lenS_form {n k:Nat} (h1:8≤n) (h2:n < 255) (hk:1≤k) (hk1:n / 2 ^ (k+2)≤1) (hk2:k=1∨1 < n / 2 ^ (k+1)):k < 6∧4≤n / 2 ^ k∧n / 2 ^ k < 8∧lenS (n+3)=4 * k+n / 2 ^ k∧lenOf (4 * k+n / 2 ^ k)=(3+n / 2 ^ k * 2 ^ k,k):=by
 have hk6:k < 6:=by
  refine Nat.lt_of_not_le fun h=>?_
  rcases hk2 with e | e
  ·omega
  ·have h3:2 ^ 7≤2 ^ (k+1):=Nat.pow_le_pow_right (by decide) (by omega)
   have h4:n / 2 ^ (k+1)≤n / 2 ^ 7:=Nat.div_le_div_left h3 (by decide)
   have h5:n / 2 ^ 7≤1:=by show n / 128≤1;omega
   omega
 have hp:0 < 2 ^ k:=Nat.two_pow_pos k
 have e2:n / 2 ^ (k+2)=n / 2 ^ k / 4:=by rw [Nat.pow_add,← Nat.div_div_eq_div_mul]
 have e1:n / 2 ^ (k+1)=n / 2 ^ k / 2:=by rw [Nat.pow_add,← Nat.div_div_eq_div_mul]
 rw [e2] at hk1
 rw [e1] at hk2
 have q1:4≤n / 2 ^ k:=by
  rcases hk2 with e | e
  ·subst e;show 4≤n / 2;omega
  ·omega
 have q2:n / 2 ^ k < 8:=by omega
 have hd:=Nat.div_add_mod n (2 ^ k)
 have hm:=Nat.mod_lt n hp
 obtain ⟨f1,f2⟩:=lenOf_at k hk6 (n / 2 ^ k) q2 hk q1
 generalize n / 2 ^ k=q at *
 refine ⟨hk6,q1,q2,scan_at len_mono (lenS_spec (by omega)) (by omega) ?_ (fun h=>?_),f1⟩
 ·rw [f1]
  show 3+q * 2 ^ k≤n+3
  rw [Nat.mul_comm] at hd
  omega
 ·by_cases e27:4 * k+q=27
  ·have e28:(lenOf (4 * k+q+1)).1=258:=by rw [e27];rfl
   rw [e28]
   omega
  ·rw [if_neg e27,Nat.add_mul,Nat.one_mul] at f2
   rw [Nat.mul_comm] at hd
   generalize (lenOf (4 * k+q+1)).1=z at *
   generalize n % 2 ^ k=r at *
   generalize q * 2 ^ k=u at *
   generalize 2 ^ k=t at *
   omega
theorem distS_low {y:Nat} (h:1≤y) (h2:y < 5):distS y=y - 1∧distOf (y - 1)=(y,0):=by
 rcases (show y=1∨y=2∨y=3∨y=4 by omega) with rfl | rfl | rfl | rfl <;> decide
theorem distOf_at0:∀ k,k < 14→∀ q,q < 4→k=0∨q < 2∨((distOf (2 * k+q)).1=1+q * 2 ^ k∧(distOf (2 * k+q)).2=k∧(distOf (2 * k+q+1)).1=1+(q+1) * 2 ^ k):=by decide
theorem distOf_at (k:Nat) (hk:k < 14) (q:Nat) (hq:q < 4) (h1:1≤k) (h4:2≤q):distOf (2 * k+q)=(1+q * 2 ^ k,k)∧(distOf (2 * k+q+1)).1=1+(q+1) * 2 ^ k:=by
 rcases distOf_at0 k hk q hq with h | h | ⟨a,b,c⟩
 ·omega
 ·omega
 ·exact ⟨Prod.ext a b,c⟩
theorem distS_form {n k:Nat} (h1:4≤n) (h2:n < 32768) (hk:1≤k) (hk1:n / 2 ^ (k+1)≤1) (hk2:k=1∨1 < n / 2 ^ k):k < 14∧2≤n / 2 ^ k∧n / 2 ^ k < 4∧distS (n+1)=2 * k+n / 2 ^ k∧distOf (2 * k+n / 2 ^ k)=(1+n / 2 ^ k * 2 ^ k,k):=by
 have hk6:k < 14:=by
  refine Nat.lt_of_not_le fun h=>?_
  rcases hk2 with e | e
  ·omega
  ·have h3:2 ^ 14≤2 ^ k:=Nat.pow_le_pow_right (by decide) (by omega)
   have h4:n / 2 ^ k≤n / 2 ^ 14:=Nat.div_le_div_left h3 (by decide)
   have h5:n / 2 ^ 14≤1:=by show n / 16384≤1;omega
   omega
 have hp:0 < 2 ^ k:=Nat.two_pow_pos k
 have e1:n / 2 ^ (k+1)=n / 2 ^ k / 2:=by rw [Nat.pow_add,← Nat.div_div_eq_div_mul]
 rw [e1] at hk1
 have q1:2≤n / 2 ^ k:=by
  rcases hk2 with e | e
  ·subst e;show 2≤n / 2;omega
  ·omega
 have q2:n / 2 ^ k < 4:=by omega
 have hd:=Nat.div_add_mod n (2 ^ k)
 have hm:=Nat.mod_lt n hp
 obtain ⟨f1,f2⟩:=distOf_at k hk6 (n / 2 ^ k) q2 hk q1
 generalize n / 2 ^ k=q at *
 refine ⟨hk6,q1,q2,scan_at dist_mono (distS_spec (by omega)) (by omega) ?_ (fun h=>?_),f1⟩
 ·rw [f1]
  show 1+q * 2 ^ k≤n+1
  rw [Nat.mul_comm] at hd
  omega
 ·rw [Nat.add_mul] at f2
  rw [Nat.mul_comm] at hd
  generalize q * 2 ^ k=u at *
  generalize 2 ^ k=t at *
  generalize (distOf (2 * k+q+1)).1=z at *
  generalize n % t=r at *
  omega
/-- What a symbol says, as the document reckons it. -/
theorem symV_low {y:Nat} (h:3≤y) (h2:y < 11):symV (y:Int)=(((254+y:Nat):Int),0,0):=by
 obtain ⟨e1,e2⟩:=lenS_low h h2
 unfold symV
 rw [if_neg (by omega),show ((y:Int)).toNat=y from rfl,e1,e2]
 show ((257:Int)+((y - 3:Nat):Int),((0:Nat):Int),(y:Int) - (y:Int))=_
 rw [Int.sub_self,show (257:Int)+((y - 3:Nat):Int)=((254+y:Nat):Int) by omega]
 rfl
theorem symV_top:symV 258=(285,0,0):=by decide
theorem symV_form {n k:Nat} (h1:8≤n) (h2:n < 255) (hk:1≤k) (hk1:n / 2 ^ (k+2)≤1) (hk2:k=1∨1 < n / 2 ^ (k+1)):symV ((n+3:Nat):Int)=(((257+4 * k+n / 2 ^ k:Nat):Int),(k:Int),((n % 2 ^ k:Nat):Int)):=by
 obtain ⟨g1,g2,g3,g4,g5⟩:=lenS_form h1 h2 hk hk1 hk2
 have hd:=Nat.div_add_mod n (2 ^ k)
 rw [Nat.mul_comm] at hd
 unfold symV
 rw [if_neg (by omega),show (((n+3:Nat):Int)).toNat=n+3 from rfl,g4,g5]
 show ((257:Int)+((4 * k+n / 2 ^ k:Nat):Int),((k:Nat):Int),((n+3:Nat):Int) - ((3+n / 2 ^ k * 2 ^ k:Nat):Int))=_
 rw [show (257:Int)+((4 * k+n / 2 ^ k:Nat):Int)=((257+4 * k+n / 2 ^ k:Nat):Int) by omega]
 generalize n / 2 ^ k * 2 ^ k=u at *
 rw [show ((n+3:Nat):Int) - ((3+u:Nat):Int)=((n % 2 ^ k:Nat):Int) by omega]
theorem dstV_low {y:Nat} (h:1≤y) (h2:y < 5):dstV (y:Int)=(((y - 1:Nat):Int),0,0):=by
 obtain ⟨e1,e2⟩:=distS_low h h2
 unfold dstV
 rw [if_neg (by omega),show ((y:Int)).toNat=y from rfl,e1,e2]
 show (((y - 1:Nat):Int),((0:Nat):Int),(y:Int) - (y:Int))=_
 rw [Int.sub_self]
 rfl
theorem dstV_form {n k:Nat} (h1:4≤n) (h2:n < 32768) (hk:1≤k) (hk1:n / 2 ^ (k+1)≤1) (hk2:k=1∨1 < n / 2 ^ k):dstV ((n+1:Nat):Int)=(((2 * k+n / 2 ^ k:Nat):Int),(k:Int),((n % 2 ^ k:Nat):Int)):=by
 obtain ⟨g1,g2,g3,g4,g5⟩:=distS_form h1 h2 hk hk1 hk2
 have hd:=Nat.div_add_mod n (2 ^ k)
 rw [Nat.mul_comm] at hd
 unfold dstV
 rw [if_neg (by omega),show (((n+1:Nat):Int)).toNat=n+1 from rfl,g4,g5]
 show (((2 * k+n / 2 ^ k:Nat):Int),((k:Nat):Int),((n+1:Nat):Int) - ((1+n / 2 ^ k * 2 ^ k:Nat):Int))=_
 generalize n / 2 ^ k * 2 ^ k=u at *
 rw [show ((n+1:Nat):Int) - ((1+u:Nat):Int)=((n % 2 ^ k:Nat):Int) by omega]
end Go.Proofs.YteoolehdomjkkaaGreat

/- flate: the document's symbols. -/
namespace Go.Proofs.YteoolehdomjkkaaGreat
set_option linter.all false
open Go.RowKit
theorem mask_mod (n k:Nat) (h:n < 65536) (hk:k < 16):bits .and .i64 (n:Int) (((2 ^ k:Nat):Int) - 1)=((n % 2 ^ k:Nat):Int):=by
 have h1:0 < 2 ^ k:=Nat.two_pow_pos k
 have h2:2 ^ k≤2 ^ 15:=Nat.pow_le_pow_right (by decide) (by omega)
 rw [show (((2 ^ k:Nat):Int) - 1)=((2 ^ k - 1:Nat):Int) by omega,i64_and_nat _ _ (by omega) (by omega),Nat.and_two_pow_sub_one_eq_mod]
set_option maxRecDepth 100000 in
set_option maxHeartbeats 3200000 in
theorem symbol5_any (x:Int) (w:World):Calls Tryz.prog 27 #[.int .i64 x] w fun e w'=>e=.returned (.tuple #[.int .i64 (symV x).1,.int .i64 (symV x).2.1,.int .i64 (symV x).2.2])∧w=w':=by
 by_cases h1:x < 3
 ·have HV:Hid (symV x=(-1,0,0)):=(show _=_ from if_pos (.inl h1))
  go_enter Tryz.func27,Tryz.ntmps27
  go_wp2_with fail
  go_ret3
  exact ⟨by rw [HV.out];rfl,rfl⟩
 ·by_cases h2:258 < x
  ·have HV:Hid (symV x=(-1,0,0)):=(show _=_ from if_pos (.inr h2))
   go_enter Tryz.func27,Tryz.ntmps27
   go_wp2_with fail
   go_ret3
   exact ⟨by rw [HV.out];rfl,rfl⟩
  ·obtain ⟨y,rfl⟩:=Int.eq_ofNat_of_zero_le (show 0≤x by omega)
   by_cases h258:y=258
   ·subst h258
    have HV:=Lib.hid symV_top
    go_enter Tryz.func27,Tryz.ntmps27
    go_wp2_with fail
    go_ret3
    refine ⟨?_,rfl⟩
    have e:=HV.out
    show Ending.returned _=Ending.returned (.tuple #[.int .i64 (symV 258).1,.int .i64 (symV 258).2.1,.int .i64 (symV 258).2.2])
    rw [e]
    rfl
   ·have d258:((y:Int) == 258)=false:=beq_eq_false_iff_ne.2 (by omega)
    by_cases h11:y < 11
    ·have h11i:(y:Int) < 11:=by omega
     have HV:=Lib.hid (symV_low (y:=y) (by omega) h11)
     go_enter Tryz.func27,Tryz.ntmps27
     go_wp2_with fail
     go_ret3
     exact ⟨by rw [HV.out];simp,rfl⟩
    ·have h11i:¬ (y:Int) < 11:=by omega
     obtain ⟨n,rfl⟩:∃ n,y=n+3:=⟨y - 3,by omega⟩
     have hn3:((n+3:Nat):Int) - 3=(n:Int):=by omega
     have HV:Hid (∀ k,1≤k→n / 2 ^ (k+2)≤1→(k=1∨1 < n / 2 ^ (k+1))→symV ((n+3:Nat):Int)=(((257+4 * k+n / 2 ^ k:Nat):Int),(k:Int),((n % 2 ^ k:Nat):Int))∧k < 6) :=
      (show ∀ k,_ from fun k g1 g2 g3=>⟨symV_form (by omega) (by omega) g1 g2 g3,(lenS_form (by omega) (by omega) g1 g2 g3).1⟩)
     have hn8:8≤n∧n < 255:=by omega
     go_enter Tryz.func27,Tryz.ntmps27
     go_wp2_with fail
     go_loopw [6] (fun vi wr=>∃ k:Nat,1≤k∧k < 8∧vi=.int .i64 k∧Hid (k=1∨1 < n / 2 ^ (k+1))∧wr=w) (fun vi _=>8 - (intOf vi).toNat)
     case atStart=>exact ⟨1,Nat.le_refl _,by omega,rfl,(show _∨_ from .inl rfl),rfl⟩
     case round =>
      obtain ⟨k,hk1,hk8,rfl,HG,rfl⟩:=hrel
      have hd2:(k:Int)+2=((k+2:Nat):Int):=by omega
      have hqI:(n:Int) / 2 ^ (k+2)=((n / 2 ^ (k+2):Nat):Int):=by rw [show ((2:Int) ^ (k+2))=((2 ^ (k+2):Nat):Int) by push_cast;rfl,← Int.natCast_ediv]
      by_cases ht:1 < n / 2 ^ (k+2)
      ·have hk7:k+1 < 8:=by
        refine Nat.lt_of_not_le fun hh=>?_
        obtain rfl:k=7:=by omega
        have:n / 2 ^ (7+2)≤0:=by show n / 512≤0;omega
        omega
       have HG2:Hid (k+1=1∨1 < n / 2 ^ (k+1+1)):=(show _∨_ from .inr ht)
       obtain ⟨d,hdd⟩:∃ d,k+2=d:=⟨_,rfl⟩
       rw [hdd] at hd2 hqI ht
       have hti:((n / 2 ^ d:Nat):Int) > 1:=by omega
       have hd64:d < 64:=by omega
       generalize n / 2 ^ d=q at *
       clear hdd
       go_wp2_with fail
       go_roundw
       case rel=>exact ⟨k+1,by omega,hk7,by go_num,HG2,trivial⟩
       case measure=>simp [intOf];omega
      ·obtain ⟨e1,e2⟩:=HV.out k hk1 (by omega) HG.out
       rw [show ((n+3:Nat):Int)=(n:Int)+3 by push_cast;rfl] at e1
       have HE:=Lib.hid e1
       have hqI2:(n:Int) / 2 ^ k=((n / 2 ^ k:Nat):Int):=by rw [show ((2:Int) ^ k)=((2 ^ k:Nat):Int) by push_cast;rfl,← Int.natCast_ediv]
       have hmm:=mask_mod n k (by omega) (by omega)
       have hM:(2:Int) ^ k=((2 ^ k:Nat):Int):=by push_cast;rfl
       have hM2:2 ^ k≤2 ^ 6:=Nat.pow_le_pow_right (by decide) (by omega)
       have hMp:0 < 2 ^ k:=Nat.two_pow_pos k
       have hq9:n / 2 ^ k≤n:=Nat.div_le_self _ _
       generalize hdd:k+2=d at *
       have hti:¬ ((n / 2 ^ d:Nat):Int) > 1:=by omega
       have hd64:d < 64:=by omega
       generalize n / 2 ^ d=q at *
       generalize n / 2 ^ k=r at *
       generalize n % 2 ^ k=t at *
       generalize hMM:2 ^ k=M at *
       rw [hM] at hqI2
       clear hdd ht e1 hMM
       go_wp2_with fail
       go_ret3
       exact ⟨by rw [HE.out];simp,rfl⟩
set_option maxRecDepth 100000 in
set_option maxHeartbeats 3200000 in
theorem distance5_any (x:Int) (w:World):Calls Tryz.prog 29 #[.int .i64 x] w fun e w'=>e=.returned (.tuple #[.int .i64 (dstV x).1,.int .i64 (dstV x).2.1,.int .i64 (dstV x).2.2])∧w=w':=by
 by_cases h1:x < 1
 ·have HV:Hid (dstV x=(-1,0,0)):=(show _=_ from if_pos (.inl h1))
  go_enter Tryz.func29,Tryz.ntmps29
  go_wp2_with fail
  go_ret3
  exact ⟨by rw [HV.out];rfl,rfl⟩
 ·by_cases h2:32768 < x
  ·have HV:Hid (dstV x=(-1,0,0)):=(show _=_ from if_pos (.inr h2))
   go_enter Tryz.func29,Tryz.ntmps29
   go_wp2_with fail
   go_ret3
   exact ⟨by rw [HV.out];rfl,rfl⟩
  ·obtain ⟨n,hn⟩:=Int.eq_ofNat_of_zero_le (show 0≤x - 1 by omega)
   obtain rfl:x=((n+1:Nat):Int):=by omega
   have hn3:((n+1:Nat):Int) - 1=(n:Int):=by omega
   by_cases h4:n < 4
   ·have h4i:(n:Int) < 4:=by omega
    have hv0:=dstV_low (y:=n+1) (by omega) (by omega)
    rw [show ((n+1:Nat):Int)=(n:Int)+1 by push_cast;rfl] at hv0
    have HV:=Lib.hid hv0
    clear hv0
    go_enter Tryz.func29,Tryz.ntmps29
    go_wp2_with fail
    go_ret3
    exact ⟨by rw [HV.out];simp,rfl⟩
   ·have h4i:¬ (n:Int) < 4:=by omega
    have HV:Hid (∀ k,1≤k→n / 2 ^ (k+1)≤1→(k=1∨1 < n / 2 ^ k)→dstV ((n+1:Nat):Int)=(((2 * k+n / 2 ^ k:Nat):Int),(k:Int),((n % 2 ^ k:Nat):Int))∧k < 14) :=
     (show ∀ k,_ from fun k g1 g2 g3=>⟨dstV_form (by omega) (by omega) g1 g2 g3,(distS_form (by omega) (by omega) g1 g2 g3).1⟩)
    have hn8:4≤n∧n < 32768:=by omega
    go_enter Tryz.func29,Tryz.ntmps29
    go_wp2_with fail
    go_loopw [6] (fun vi wr=>∃ k:Nat,1≤k∧k < 16∧vi=.int .i64 k∧Hid (k=1∨1 < n / 2 ^ k)∧wr=w) (fun vi _=>16 - (intOf vi).toNat)
    case atStart=>exact ⟨1,Nat.le_refl _,by omega,rfl,(show _∨_ from .inl rfl),rfl⟩
    case round =>
     obtain ⟨k,hk1,hk8,rfl,HG,rfl⟩:=hrel
     have hd2:(k:Int)+1=((k+1:Nat):Int):=by omega
     have hqI:(n:Int) / 2 ^ (k+1)=((n / 2 ^ (k+1):Nat):Int):=by rw [show ((2:Int) ^ (k+1))=((2 ^ (k+1):Nat):Int) by push_cast;rfl,← Int.natCast_ediv]
     by_cases ht:1 < n / 2 ^ (k+1)
     ·have hk7:k+1 < 16:=by
       refine Nat.lt_of_not_le fun hh=>?_
       obtain rfl:k=15:=by omega
       have:n / 2 ^ (15+1)≤0:=by show n / 65536≤0;omega
       omega
      have HG2:Hid (k+1=1∨1 < n / 2 ^ (k+1)):=(show _∨_ from .inr ht)
      have HKD:Hid (∀ d,k+1=d→(d=1∨1 < n / 2 ^ d)):=(show ∀ d,_ from fun d hd=>by rw [← hd];exact HG2.out)
      obtain ⟨d,hdd⟩:∃ d,k+1=d:=⟨_,rfl⟩
      have HG3:Hid (∀ d',d'=d→(d'=1∨1 < n / 2 ^ d')):=(show ∀ d',_ from fun d' e=>HKD.out d' (hdd.trans e.symm))
      rw [hdd] at hd2 hqI ht hk7
      have hti:((n / 2 ^ d:Nat):Int) > 1:=by omega
      have hdk:k < d:=by omega
      have hd64:d < 64:=by omega
      have hd1:1≤d:=by omega
      generalize n / 2 ^ d=q at *
      clear HG2 HKD hdd
      go_wp2_with fail
      go_roundw
      case rel=>exact ⟨d,hd1,hk7,rfl,(show _∨_ from HG3.out d rfl),trivial⟩
      case measure=>simp [intOf];omega
     ·obtain ⟨e1,e2⟩:=HV.out k hk1 (by omega) HG.out
      rw [show ((n+1:Nat):Int)=(n:Int)+1 by push_cast;rfl] at e1
      have HE:=Lib.hid e1
      have hqI2:(n:Int) / 2 ^ k=((n / 2 ^ k:Nat):Int):=by rw [show ((2:Int) ^ k)=((2 ^ k:Nat):Int) by push_cast;rfl,← Int.natCast_ediv]
      have hmm:=mask_mod n k (by omega) (by omega)
      have hM:(2:Int) ^ k=((2 ^ k:Nat):Int):=by push_cast;rfl
      have hM2:2 ^ k≤2 ^ 14:=Nat.pow_le_pow_right (by decide) (by omega)
      have hMp:0 < 2 ^ k:=Nat.two_pow_pos k
      have hq9:n / 2 ^ k≤n:=Nat.div_le_self _ _
      obtain ⟨d,hdd⟩:∃ d,k+1=d:=⟨_,rfl⟩
      rw [hdd] at hd2 hqI ht
      have hti:¬ ((n / 2 ^ d:Nat):Int) > 1:=by omega
      have hd64:d < 64:=by omega
      generalize n / 2 ^ d=q at *
      generalize n / 2 ^ k=r at *
      generalize n % 2 ^ k=t at *
      generalize hMM:2 ^ k=M at *
      rw [hM] at hqI2
      clear hdd ht e1 hMM
      go_wp2_with fail
      go_ret3
      exact ⟨by rw [HE.out];simp,rfl⟩
end Go.Proofs.YteoolehdomjkkaaGreat

