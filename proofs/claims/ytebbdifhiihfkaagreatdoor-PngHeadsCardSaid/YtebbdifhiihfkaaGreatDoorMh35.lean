/- XRdR -/
import Derived.Test.YtebbdifhiihfkaaGreatDoorMh34
import Derived.Test.YtebbdifhiihfkaaGreatDoorMh23
namespace Go.Proofs.YtebbdifhiihfkaaGreatDoor
set_option linter.all false
def hdN (bs:List UInt8) (s:RS):Nat:=257+(getP bs s 5).1
def hdA (bs:List UInt8) (s:RS):RS:=if 286 < hdN bs s then (getP bs s 5).2.fail 4 else (getP bs s 5).2
def hdM (bs:List UInt8) (s:RS):Nat:=1+(getP bs (hdA bs s) 5).1
def hdB (bs:List UInt8) (s:RS):RS:=if 30 < hdM bs s then (getP bs (hdA bs s) 5).2.fail 4 else (getP bs (hdA bs s) 5).2
def hdQ (bs:List UInt8) (s:RS):Nat:=4+(getP bs (hdB bs s) 4).1
def lenRd (bs:List UInt8):List Nat→List Int→RS→List Int × RS
 | [],l,s=>(l,s)
 | k :: ks,l,s=>lenRd bs ks (l.set k ((getP bs s 3).1:Int)) (getP bs s 3).2
def hdL (bs:List UInt8) (s:RS):List Int × RS:=lenRd bs (ordL.take (hdQ bs s)) (List.replicate 19 0) (getP bs (hdB bs s) 4).2
/-- A list read by a decoder, or by none. -/
def listD (bs:List UInt8) (D:Option (List Int)) (all:Nat) (s:RS):List Int × RS:=match D with
 | some ls=>listF bs ls all (all+1) [] s
 | none=>([],s)
def ownLs (bs:List UInt8) (s:RS):List Int × RS:=listD bs (decD (hdL bs s).1 (hdL bs s).2) (hdN bs s+hdM bs s) (decP (hdL bs s).1 false (hdL bs s).2)
def noneP (ls:List Int):Bool:=cPos ls == 0
def own1 (all:List Int) (s:RS):RS:=if all.getD 256 0=0 then s.fail 4 else s
def own2 (all:List Int) (n:Nat) (s:RS):RS:=decP (all.take n) false (own1 all s)
def ownDD (all:List Int) (n:Nat) (s:RS):Option (List Int):=if noneP (all.drop n)=true then none else decD (all.drop n) (own2 all n s)
def own3 (all:List Int) (n:Nat) (s:RS):RS:=if noneP (all.drop n)=true then own2 all n s else decP (all.drop n) true (own2 all n s)
def ownT (bs:List UInt8) (most:Int) (all:List Int) (n f:Nat) (s:RS):RS :=
 if s.e=0 then (if (own3 all n s).e=0 then toksF bs most (all.take n) (ownDD all n s) f (own3 all n s) else own3 all n s) else s
/-- A block of its own codes. -/
def rownP (bs:List UInt8) (most:Int) (f:Nat) (s:RS):RS:=ownT bs most (ownLs bs s).1 (hdN bs s) f (ownLs bs s).2
/-- A block of the fixed codes. -/
def rfixP (bs:List UInt8) (most:Int) (f:Nat) (s:RS):RS:=toksF bs most fixL (some fixD) f s
theorem decP_out (ls:List Int) (a:Bool) (s:RS):(decP ls a s).out=s.out:=by
 unfold decP
 split
 ·split
  ·split
   ·exact fail_out s 4
   ·rfl
  ·exact fail_out s 4
 ·rfl
theorem decP_p (ls:List Int) (a:Bool) (s:RS):(decP ls a s).p=s.p:=by
 unfold decP
 split
 ·split
  ·split
   ·exact fail_p s 4
   ·rfl
  ·exact fail_p s 4
 ·rfl
theorem fail_e {s:RS} {e:Int} (he:¬ e=0):¬ (s.fail e).e=0:=by
 unfold RS.fail
 split
 ·exact he
 ·assumption
theorem decD_none {ls:List Int} {a:Bool} {s:RS} (h:decD ls s=none):¬ (decP ls a s).e=0:=by
 unfold decD at h
 unfold decP
 split at h
 ·cases h
 ·rename_i h2
  split
  ·rename_i he
   rw [if_neg (fun hn=>h2 ⟨he,hn⟩)]
   exact fail_e (by decide)
  ·assumption
theorem decP_zero {ls:List Int} {a:Bool} {s:RS} (h:(decP ls a s).e=0):s.e=0∧decP ls a s=s∧decD ls s=some ls:=by
 unfold decP at h ⊢
 unfold decD
 by_cases he:s.e=0
 ·rw [if_pos he] at h ⊢
  by_cases hn:nwE ls=0
  ·rw [if_pos hn] at h ⊢
   by_cases hb:decBad ls a
   ·rw [if_pos hb] at h
    exact absurd h (fail_e (by decide))
   ·rw [if_neg hb]
    exact ⟨he,rfl,if_pos ⟨he,hn⟩⟩
  ·rw [if_neg hn] at h
   exact absurd h (fail_e (by decide))
 ·rw [if_neg he] at h
  exact absurd h he
theorem own1_zero {all:List Int} {s:RS} (h:(own1 all s).e=0):s.e=0∧own1 all s=s:=by
 unfold own1 at h ⊢
 split at h
 ·exact absurd h (fail_e (by decide))
 ·rename_i h2
  rw [if_neg h2]
  exact ⟨h,rfl⟩
theorem own3_zero {all:List Int} {n:Nat} {s:RS} (h:(own3 all n s).e=0):own3 all n s=s∧decD (all.take n) (own1 all s)=some (all.take n):=by
 have key:(own2 all n s).e=0∧own3 all n s=own2 all n s:=by
  unfold own3 at h ⊢
  split at h
  ·rename_i h2;rw [if_pos h2];exact ⟨h,rfl⟩
  ·rename_i h2;rw [if_neg h2];obtain ⟨h1,h3,-⟩:=decP_zero h;exact ⟨h1,h3⟩
 rw [key.2]
 obtain ⟨h1,h2,h3⟩:=decP_zero key.1
 refine ⟨?_,h3⟩
 unfold own2
 rw [h2]
 exact (own1_zero h1).2
theorem lenRd_out (bs:List UInt8):∀ (ks:List Nat) (l:List Int) (s:RS),(lenRd bs ks l s).2.out=s.out
 | [],l,s=>rfl
 | k :: ks,l,s=>by rw [lenRd,lenRd_out bs ks,getP_out]
theorem repP_out (l:List Int) (x:Int) (n all:Nat) (s:RS):(repP l x n all s).2.out=s.out:=by
 have:(rep0 l n all s).out=s.out:=by
  unfold rep0
  split
  ·exact fail_out s 4
  ·rfl
 unfold repP
 split <;> exact this
theorem listF_out (bs:List UInt8) (ls:List Int) (all:Nat):∀ (f:Nat) (l:List Int) (s:RS),(listF bs ls all f l s).2.out=s.out
 | 0,l,s=>rfl
 | f+1,l,s=>by
  rw [listF]
  split
  ·split
   ·split
    ·rw [listF_out bs ls all f,nextP_out]
    ·split
     ·split
      ·show (RS.fail _ 4).out=_
       rw [fail_out,nextP_out]
      ·rw [listF_out bs ls all f,repP_out,getP_out,nextP_out]
     ·split
      ·rw [listF_out bs ls all f,repP_out,getP_out,nextP_out]
      ·rw [listF_out bs ls all f,repP_out,getP_out,nextP_out]
   ·exact nextP_out bs ls s
  ·rfl
theorem listD_out (bs:List UInt8) (D:Option (List Int)) (all:Nat) (s:RS):(listD bs D all s).2.out=s.out:=by
 cases D with
 | none=>rfl
 | some ls=>exact listF_out bs ls all _ _ s
theorem hdA_out (bs:List UInt8) (s:RS):(hdA bs s).out=s.out:=by
 unfold hdA
 split
 ·rw [fail_out,getP_out]
 ·rw [getP_out]
theorem hdB_out (bs:List UInt8) (s:RS):(hdB bs s).out=s.out:=by
 unfold hdB
 split
 ·rw [fail_out,getP_out,hdA_out]
 ·rw [getP_out,hdA_out]
theorem ownLs_out (bs:List UInt8) (s:RS):(ownLs bs s).2.out=s.out:=by
 unfold ownLs hdL
 rw [listD_out,decP_out,lenRd_out,getP_out,hdB_out]
/-- A list read without an error is whole. -/
theorem listF_full (bs:List UInt8) (ls:List Int) (all:Nat):∀ (f:Nat) (l:List Int) (s:RS),l.length≤all→all+1≤l.length+f→(listF bs ls all f l s).2.e=0→(listF bs ls all f l s).1.length=all
 | 0,l,s,hl,hf,h=>by omega
 | f+1,l,s,hl,hf,h=>by
  rw [listF] at h ⊢
  by_cases h1:l.length < all∧s.e=0
  ·rw [if_pos h1] at h ⊢
   by_cases h2:(nextP bs ls s).2.e=0
   ·rw [if_pos h2] at h ⊢
    have rp:∀ (x:Int) (k:Nat) (t:RS),3≤k→(listF bs ls all f (repP l x k all t).1 (repP l x k all t).2).2.e=0→(listF bs ls all f (repP l x k all t).1 (repP l x k all t).2).1.length=all:=fun x k t hk h=>by
     have h4:=repP_len l x k all t hl
     by_cases he:(repP l x k all t).2.e=0
     ·exact listF_full bs ls all f _ _ h4.1 (by rw [h4.2 he];omega) h
     ·rw [listF_stop (fun hh=>he hh.2)] at h
      exact absurd h he
    by_cases h3:(nextP bs ls s).1 < 16
    ·rw [if_pos h3] at h ⊢
     exact listF_full bs ls all f _ _ (by simp;omega) (by simp;omega) h
    ·rw [if_neg h3] at h ⊢
     by_cases h4:(nextP bs ls s).1=16
     ·rw [if_pos h4] at h ⊢
      by_cases h5:l.length=0
      ·rw [if_pos h5] at h
       exact absurd h (fail_e (by decide))
      ·rw [if_neg h5] at h ⊢
       exact rp _ _ _ (by omega) h
     ·rw [if_neg h4] at h ⊢
      by_cases h5:(nextP bs ls s).1=17
      ·rw [if_pos h5] at h ⊢
       exact rp _ _ _ (by omega) h
      ·rw [if_neg h5] at h ⊢
       exact rp _ _ _ (by omega) h
   ·rw [if_neg h2] at h
    exact absurd h h2
  ·rw [if_neg h1] at h ⊢
   have h':s.e=0:=h
   show l.length=all
   have:¬ l.length < all:=fun hh=>h1 ⟨hh,h'⟩
   omega
theorem ownLs_full (bs:List UInt8) (s:RS) (h:(ownLs bs s).2.e=0):(ownLs bs s).1.length=hdN bs s+hdM bs s:=by
 unfold ownLs at h ⊢
 cases hD:decD (hdL bs s).1 (hdL bs s).2 with
 | none =>
  rw [hD] at h
  exact absurd h (decD_none hD)
 | some ls =>
  rw [hD] at h
  exact listF_full bs ls _ _ [] _ (Nat.zero_le _) (by simp) h
end Go.Proofs.YtebbdifhiihfkaaGreatDoor

