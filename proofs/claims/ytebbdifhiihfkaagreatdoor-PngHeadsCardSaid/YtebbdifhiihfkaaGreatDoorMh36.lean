/- XRdS -/
import Derived.Test.YtebbdifhiihfkaaGreatDoorMh35
import Derived.Test.YtebbdifhiihfkaaGreatDoorMh24
namespace Go.Proofs.YtebbdifhiihfkaaGreatDoor
set_option linter.all false
theorem nextP_m (bs:List UInt8) (ls:List Int) (s:RS):s.p≤(nextP bs ls s).2.p:=by
 unfold nextP
 split
 ·have key:∀ f t v P,P≤(nx ls bs f t v P).2.2:=fun f=>by
   induction f with
   | zero=>intro t v P;exact Nat.le_refl _
   | succ f ih =>
    intro t v P
    rw [nx]
    split
    ·exact Nat.le_refl _
    ·split
     ·exact Nat.le_succ P
     ·have:=ih (t+1) (v * 2+bitAt bs P) (P+1)
      omega
  exact key 15 1 0 s.p
 ·exact Nat.le_refl _
theorem copyP_m (bs:List UInt8) (most:Int) (s:RS) (q:Nat) (dl:Option (List Int)):s.p≤(copyP bs most s q dl).p:=by
 have h1:=getP_p bs s (lenOf (q - 257)).2
 unfold copyP
 split
 ·rw [fail_p];exact Nat.le_refl _
 ·split
  ·refine Nat.le_trans h1 ?_
   cases dl with
   | none =>
    show _≤(RS.fail _ 1).p
    rw [fail_p]
    exact Nat.le_refl _
   | some ds =>
    rw [cpB]
    have h1:=nextP_m bs ds (getP bs s (lenOf (q - 257)).2).2
    split
    ·rw [fail_p];exact h1
    ·rw [copiesP_p]
     exact Nat.le_trans h1 (getP_p bs _ _)
  ·exact h1
theorem toksF_m (bs:List UInt8) (most:Int) (ll:List Int) (dl:Option (List Int)):∀ (f:Nat) (s:RS),s.p≤(toksF bs most ll dl f s).p
 | 0,s=>Nat.le_refl _
 | f+1,s=>by
  have h1:=nextP_m bs ll s
  rw [toksF]
  split
  ·split
   ·split
    ·exact h1
    ·split
     ·refine Nat.le_trans h1 (Nat.le_trans ?_ (toksF_m bs most ll dl f _))
      rw [givesP_p]
      exact Nat.le_refl _
     ·exact Nat.le_trans h1 (Nat.le_trans (copyP_m bs most _ _ dl) (toksF_m bs most ll dl f _))
   ·exact h1
  ·exact Nat.le_refl _
theorem plnF_m (bs:List UInt8) (most:Int):∀ (k:Nat) (s:RS),s.p≤(plnF bs most k s).p
 | 0,s=>Nat.le_refl _
 | k+1,s=>by
  have h1:=getP_p bs s 8
  rw [plnF]
  split
  ·split
   ·refine Nat.le_trans h1 (Nat.le_trans ?_ (plnF_m bs most k _))
    rw [givesP_p]
    exact Nat.le_refl _
   ·exact h1
  ·exact Nat.le_refl _
theorem plainP_m (bs:List UInt8) (most:Int) (s:RS):s.p≤(plainP bs most s).p:=by
 have h0:s.p≤(pl0 s).p:=by show s.p≤8 * ((s.p+7) / 8);omega
 have h1:(pl0 s).p≤(pl2 bs s).p:=Nat.le_trans (getP_p bs (pl0 s) 16) (getP_p bs _ 16)
 have h2:(pl3 bs s).p=(pl2 bs s).p:=by
  unfold pl3
  split
  ·exact fail_p _ _
  ·rfl
 unfold plainP
 refine Nat.le_trans (Nat.le_trans h0 h1) ?_
 rw [← h2]
 exact plnF_m bs most _ _
theorem lenRd_m (bs:List UInt8):∀ (ks:List Nat) (l:List Int) (s:RS),s.p≤(lenRd bs ks l s).2.p
 | [],l,s=>Nat.le_refl _
 | k :: ks,l,s=>Nat.le_trans (getP_p bs s 3) (lenRd_m bs ks _ _)
theorem repP_p (l:List Int) (x:Int) (n all:Nat) (s:RS):(repP l x n all s).2.p=s.p:=by
 have:(rep0 l n all s).p=s.p:=by
  unfold rep0
  split
  ·exact fail_p s 4
  ·rfl
 unfold repP
 split <;> exact this
theorem listF_m (bs:List UInt8) (ls:List Int) (all:Nat):∀ (f:Nat) (l:List Int) (s:RS),s.p≤(listF bs ls all f l s).2.p
 | 0,l,s=>Nat.le_refl _
 | f+1,l,s=>by
  have h1:=nextP_m bs ls s
  have rp:∀ (x:Int) (k m:Nat),s.p≤(listF bs ls all f (repP l x k all (getP bs (nextP bs ls s).2 m).2).1 (repP l x k all (getP bs (nextP bs ls s).2 m).2).2).2.p:=fun x k m=>by
   refine Nat.le_trans (Nat.le_trans h1 ?_) (listF_m bs ls all f _ _)
   rw [repP_p]
   exact getP_p bs _ m
  rw [listF]
  split
  ·split
   ·split
    ·exact Nat.le_trans h1 (listF_m bs ls all f _ _)
    ·split
     ·split
      ·show _≤(RS.fail _ 4).p
       rw [fail_p];exact h1
      ·exact rp _ _ _
     ·split
      ·exact rp _ _ _
      ·exact rp _ _ _
   ·exact h1
  ·exact Nat.le_refl _
theorem ownLs_m (bs:List UInt8) (s:RS):s.p≤(ownLs bs s).2.p:=by
 have hA:s.p≤(hdA bs s).p:=by
  unfold hdA
  split
  ·rw [fail_p];exact getP_p bs s 5
  ·exact getP_p bs s 5
 have hB:(hdA bs s).p≤(hdB bs s).p:=by
  unfold hdB
  split
  ·rw [fail_p];exact getP_p bs _ 5
  ·exact getP_p bs _ 5
 have hL:(hdB bs s).p≤(hdL bs s).2.p:=Nat.le_trans (getP_p bs _ 4) (lenRd_m bs _ _ _)
 refine Nat.le_trans hA (Nat.le_trans hB (Nat.le_trans hL ?_))
 unfold ownLs
 cases decD (hdL bs s).1 (hdL bs s).2 with
 | none =>
  show _≤(decP _ _ _).p
  rw [decP_p]
  exact Nat.le_refl _
 | some ls =>
  refine Nat.le_trans ?_ (listF_m bs ls _ _ [] _)
  rw [decP_p]
  exact Nat.le_refl _
theorem own3_p (all:List Int) (n:Nat) (s:RS):(own3 all n s).p=s.p:=by
 have h1:(own1 all s).p=s.p:=by
  unfold own1
  split
  ·exact fail_p s 4
  ·rfl
 have h2:(own2 all n s).p=s.p:=by unfold own2;rw [decP_p,h1]
 unfold own3
 split
 ·exact h2
 ·rw [decP_p,h2]
theorem rownP_m (bs:List UInt8) (most:Int) (f:Nat) (s:RS):s.p≤(rownP bs most f s).p:=by
 refine Nat.le_trans (ownLs_m bs s) ?_
 unfold rownP ownT
 split
 ·split
  ·refine Nat.le_trans ?_ (toksF_m bs most _ _ f _)
   rw [own3_p]
   exact Nat.le_refl _
  ·rw [own3_p]
   exact Nat.le_refl _
 ·exact Nat.le_refl _
theorem toksF_le {bs:List UInt8} {most:Int} {ll:List Int} {dl:Option (List Int)}:∀ (f:Nat) {s:RS},(s.out.length:Int)≤most→((toksF bs most ll dl f s).out.length:Int)≤most
 | 0,s,h=>h
 | f+1,s,h=>by
  have h1:(((nextP bs ll s).2.out.length:Nat):Int)≤most:=by rw [nextP_out];exact h
  rw [toksF]
  split
  ·split
   ·split
    ·exact h1
    ·split
     ·exact toksF_le f (givesP_le h1)
     ·exact toksF_le f (copyP_le h1)
   ·exact h1
  ·exact h
theorem rownP_le {bs:List UInt8} {most:Int} {f:Nat} {s:RS} (h:(s.out.length:Int)≤most):((rownP bs most f s).out.length:Int)≤most:=by
 have h1:(((ownLs bs s).2.out.length:Nat):Int)≤most:=by rw [ownLs_out];exact h
 have ho1:∀ all t,(own1 all t).out=t.out:=fun all t=>by
  unfold own1
  split
  ·exact fail_out t 4
  ·rfl
 have ho2:∀ all n t,(own2 all n t).out=t.out:=fun all n t=>by unfold own2;rw [decP_out,ho1]
 have ho3:∀ all n t,(own3 all n t).out=t.out:=fun all n t=>by
  unfold own3
  split
  ·exact ho2 _ _ _
  ·rw [decP_out,ho2]
 unfold rownP ownT
 split
 ·split
  ·exact toksF_le f (by rw [ho3];exact h1)
  ·rw [ho3];exact h1
 ·exact h1
/-- A block's first bits. -/
def blk0 (bs:List UInt8) (s:RS):Nat:=(getP bs s 1).1
def blk1 (bs:List UInt8) (s:RS):Nat:=(getP bs (getP bs s 1).2 2).1
def blk2 (bs:List UInt8) (s:RS):RS:=(getP bs (getP bs s 1).2 2).2
def kindP (bs:List UInt8) (most:Int) (f k:Nat) (s:RS):RS:=if k=0 then plainP bs most s else if k=1 then rfixP bs most f s else if k=2 then rownP bs most f s else s.fail 4
def blkP (bs:List UInt8) (most:Int) (f:Nat) (s:RS):RS:=kindP bs most f (blk1 bs s) (blk2 bs s)
/-- Blocks up to the last one. -/
def infF (bs:List UInt8) (most:Int) (f:Nat):Nat→RS→RS
 | 0,s=>s
 | k+1,s=>if s.e=0 then (if blk0 bs s=0 then infF bs most f k (blkP bs most f s) else blkP bs most f s) else s
def infS (bs:List UInt8) (most:Int):RS:=infF bs most (8 * bs.length+1) (8 * bs.length+1) ⟨0,[],0⟩
def inflP (bs:List UInt8) (most:Int):List UInt8 × Nat × Int :=
 if most < 0∨40000 < most then ([],0,1) else if (infS bs most).e=0 then ((infS bs most).out,((infS bs most).p+7) / 8,0) else ([],0,(infS bs most).e)
theorem infF_err {bs:List UInt8} {most:Int} {f k:Nat} {s:RS} (h:¬ s.e=0):infF bs most f k s=s:=by
 cases k with
 | zero=>rfl
 | succ k=>exact if_neg h
theorem blk2_out (bs:List UInt8) (s:RS):(blk2 bs s).out=s.out:=by unfold blk2;rw [getP_out,getP_out]
theorem kindP_le {bs:List UInt8} {most:Int} {f k:Nat} {s:RS} (h:(s.out.length:Int)≤most):((kindP bs most f k s).out.length:Int)≤most:=by
 unfold kindP
 split
 ·exact plainP_le h
 ·split
  ·exact toksF_le f h
  ·split
   ·exact rownP_le h
   ·rw [fail_out];exact h
theorem kindP_m (bs:List UInt8) (most:Int) (f k:Nat) (s:RS):s.p≤(kindP bs most f k s).p:=by
 unfold kindP
 split
 ·exact plainP_m bs most s
 ·split
  ·exact toksF_m bs most _ _ f s
  ·split
   ·exact rownP_m bs most f s
   ·rw [fail_p];exact Nat.le_refl _
/-- No error of getting bits goes away. -/
theorem getP_e0 {bs:List UInt8} {s:RS} {m:Nat} (h:(getP bs s m).2.e=0):s.e=0∧(getP bs s m).2.p=s.p+m:=by
 unfold getP at h ⊢
 by_cases he:s.e=0
 ·rw [if_pos he] at h ⊢
  by_cases h2:s.p+m≤8 * bs.length
  ·rw [if_pos h2];exact ⟨he,rfl⟩
  ·rw [if_neg h2] at h
   exact absurd h (show ¬ (2:Int)=0 by decide)
 ·rw [if_neg he] at h
  exact absurd h he
theorem getP_v0 {bs:List UInt8} {s:RS} {m:Nat} (h:¬ (getP bs s m).1=0):(getP bs s m).2.e=0:=by
 unfold getP at h ⊢
 by_cases he:s.e=0
 ·rw [if_pos he] at h ⊢
  by_cases h2:s.p+m≤8 * bs.length
  ·rw [if_pos h2]
  ·rw [if_neg h2] at h
   exact absurd rfl h
 ·rw [if_neg he] at h
  exact absurd rfl h
/-- An error does not go away. -/
theorem fail_e0 {s:RS} {e:Int} (h:(s.fail e).e=0):s.e=0:=by
 unfold RS.fail at h
 split at h
 ·assumption
 ·assumption
theorem plainP_err {bs:List UInt8} {most:Int} {s:RS} (h:¬ s.e=0):¬ (plainP bs most s).e=0:=by
 have h0:¬ (pl0 s).e=0:=h
 have h1:¬ (pl2 bs s).e=0:=fun hh=>h0 (getP_e0 (getP_e0 hh).1).1
 have h3:¬ (pl3 bs s).e=0:=by
  unfold pl3
  split
  ·exact fun hh=>h1 (fail_e0 hh)
  ·exact h1
 unfold plainP
 rw [plnF_err h3]
 exact h3
theorem decP_e0 {ls:List Int} {a:Bool} {s:RS} (h:(decP ls a s).e=0):s.e=0:=(decP_zero h).1
theorem lenRd_e0 (bs:List UInt8):∀ (ks:List Nat) (l:List Int) (s:RS),(lenRd bs ks l s).2.e=0→s.e=0
 | [],l,s,h=>h
 | k :: ks,l,s,h=>(getP_e0 (lenRd_e0 bs ks _ _ h)).1
theorem listD_e0 {bs:List UInt8} {D:Option (List Int)} {all:Nat} {s:RS} (h:(listD bs D all s).2.e=0):s.e=0:=by
 cases D with
 | none=>exact h
 | some ls =>
  by_cases he:s.e=0
  ·exact he
  ·have:listD bs (some ls) all s=([],s):=listF_stop (fun hh=>he hh.2)
   rw [this] at h
   exact h
theorem rownP_err {bs:List UInt8} {most:Int} {f:Nat} {s:RS} (h:¬ s.e=0):¬ (rownP bs most f s).e=0:=by
 have h1:¬ (ownLs bs s).2.e=0:=fun hh=>by
  have h2:=lenRd_e0 bs _ _ _ (decP_e0 (listD_e0 hh))
  have h3:=(getP_e0 h2).1
  have h4:(hdA bs s).e=0:=by
   unfold hdB at h3
   split at h3
   ·exact (getP_e0 (fail_e0 h3)).1
   ·exact (getP_e0 h3).1
  unfold hdA at h4
  split at h4
  ·exact h (getP_e0 (fail_e0 h4)).1
  ·exact h (getP_e0 h4).1
 unfold rownP ownT
 rw [if_neg h1]
 exact h1
theorem kindP_err {bs:List UInt8} {most:Int} {f k:Nat} {s:RS} (h:¬ s.e=0):¬ (kindP bs most f k s).e=0:=by
 unfold kindP
 split
 ·exact plainP_err h
 ·split
  ·unfold rfixP;rw [toksF_err h];exact h
  ·split
   ·exact rownP_err h
   ·exact fun hh=>h (fail_e0 hh)
/-- A block that is read whole takes bits. -/
theorem blkP_p {bs:List UInt8} {most:Int} {f:Nat} {s:RS} (h:(blkP bs most f s).e=0):s.p+3≤(blkP bs most f s).p:=by
 have h1:(blk2 bs s).e=0:=Decidable.byContradiction fun hh=>kindP_err hh h
 obtain ⟨h2,h3⟩:=getP_e0 h1
 obtain ⟨h4,h5⟩:=getP_e0 h2
 have h6:=kindP_m bs most f (blk1 bs s) (blk2 bs s)
 have h7:(blk2 bs s).p=s.p+1+2:=by unfold blk2;rw [h3,h5]
 unfold blkP
 omega
theorem fixL_dec (s:RS):decP fixL false s=s:=by
 by_cases he:s.e=0
 ·unfold decP
  rw [if_pos he,if_pos (show nwE fixL=0 by decide +kernel),if_neg (show ¬ decBad fixL false from fun h=>absurd h.1 (show ¬ krV fixL < 32768 by decide +kernel))]
 ·exact if_neg he
theorem fixD_dec (s:RS):decP fixD false s=s:=by
 by_cases he:s.e=0
 ·unfold decP
  rw [if_pos he,if_pos (show nwE fixD=0 by decide +kernel),if_neg (show ¬ decBad fixD false from fun h=>absurd h.1 (show ¬ krV fixD < 32768 by decide +kernel))]
 ·exact if_neg he
end Go.Proofs.YtebbdifhiihfkaaGreatDoor

