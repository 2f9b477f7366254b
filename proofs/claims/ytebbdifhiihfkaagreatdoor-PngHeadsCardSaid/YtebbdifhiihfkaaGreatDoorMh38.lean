/- XRx XZb XUnp -/
import Derived.Test.YtebbdifhiihfkaaGreatDoorMh36
import Derived.Test.YtebbdifhiihfkaaGreatDoorMh33
import Derived.Test.YtebbdifhiihfkaaGreatDoorMh37
import Derived.Test.YtebbdifhiihfkaaGreatDoorMh29
namespace Go.Proofs.YtebbdifhiihfkaaGreatDoor
set_option linter.all false
section
variable {bs more : List UInt8} {most most' : Int}
theorem bitAt_app {p:Nat} (h:p < 8 * bs.length):bitAt (bs ++ more) p=bitAt bs p:=by
 unfold bitAt
 rw [List.getD_eq_getElem?_getD,List.getD_eq_getElem?_getD,List.getElem?_append_left (by omega)]
theorem getV_app {p:Nat}:∀ m,p+m≤8 * bs.length→getV (bs ++ more) p m=getV bs p m
 | 0,_=>rfl
 | m+1,h=>by rw [getV,getV,getV_app m (by omega),bitAt_app (by omega)]
theorem getP_ext {s:RS} {m:Nat} (h:(getP bs s m).2.e=0):getP (bs ++ more) s m=getP bs s m:=by
 unfold getP at h ⊢
 by_cases he:s.e=0
 ·rw [if_pos he] at h ⊢
  rw [if_pos he]
  by_cases h2:s.p+m≤8 * bs.length
  ·rw [if_pos h2,if_pos (by rw [List.length_append];omega),getV_app m h2]
  ·rw [if_neg h2] at h
   exact absurd h (show ¬ (2:Int)=0 by decide)
 ·rw [if_neg he,if_neg he]
theorem nx_ext (ls:List Int):∀ f t v P,(nx ls bs f t v P).2.1=0→nx ls (bs ++ more) f t v P=nx ls bs f t v P
 | 0,t,v,P,h=>rfl
 | f+1,t,v,P,h=>by
  rw [nx] at h ⊢
  rw [nx]
  by_cases h1:8 * bs.length≤P
  ·rw [if_pos h1] at h
   exact absurd h (show ¬ (2:Int)=0 by decide)
  ·rw [if_neg h1] at h ⊢
   rw [if_neg (by rw [List.length_append];omega),bitAt_app (by omega)]
   cases hh:hitN ls t (v * 2+bitAt bs P) with
   | none =>
    rw [hh] at h
    exact nx_ext ls f (t+1) _ (P+1) h
   | some p=>rfl
theorem nextP_ext {s:RS} {ls:List Int} (h:(nextP bs ls s).2.e=0):nextP (bs ++ more) ls s=nextP bs ls s:=by
 unfold nextP at h ⊢
 by_cases he:s.e=0
 ·rw [if_pos he] at h
  rw [if_pos he,if_pos he,nx_ext ls 15 1 0 s.p h]
 ·rw [if_neg he,if_neg he]
theorem nextP_e0 {s:RS} {ls:List Int} (h:(nextP bs ls s).2.e=0):s.e=0:=by
 unfold nextP at h
 by_cases he:s.e=0
 ·exact he
 ·rw [if_neg he] at h
  exact h
theorem nextP_lt {s:RS} {ls:List Int} (h:(nextP bs ls s).2.e=0):s.p < (nextP bs ls s).2.p:=nextP_p (nextP_e0 h) h
theorem nextP_fit {s:RS} {ls:List Int} (h:(nextP bs ls s).2.e=0):s.p < 8 * bs.length:=by
 have he:=nextP_e0 h
 unfold nextP at h
 rw [if_pos he] at h
 refine Decidable.byContradiction fun hn=>?_
 have h2:(nx ls bs 15 1 0 s.p).2.1=2:=by
  rw [nx,if_pos (by omega)]
 have h3:(nx ls bs 15 1 0 s.p).2.1=0:=h
 omega
theorem givesP_e0 {s:RS} {x:UInt8} (h:(givesP most s x).e=0):s.e=0∧¬ most≤(s.out.length:Int):=by
 unfold givesP at h
 split at h
 ·exact absurd h (fail_e (by decide))
 ·rename_i hh
  exact ⟨h,hh⟩
theorem givesP_ext (hm:most≤most') {s:RS} {x:UInt8} (h:(givesP most s x).e=0):givesP most' s x=givesP most s x:=by
 have:=(givesP_e0 h).2
 unfold givesP
 rw [if_neg this,if_neg (by omega)]
theorem cpyF_e0 {dist k:Nat} {s:RS} (h:(cpyF most dist k s).e=0):s.e=0:=Decidable.byContradiction fun hn=>by
 rw [cpyF_err hn] at h
 exact hn h
theorem cpyF_ext (hm:most≤most') {dist:Nat}:∀ (k:Nat) (s:RS),(cpyF most dist k s).e=0→cpyF most' dist k s=cpyF most dist k s
 | 0,s,h=>rfl
 | k+1,s,h=>by
  have he:=cpyF_e0 h
  rw [cpyF,if_pos he] at h
  rw [cpyF,cpyF,if_pos he,if_pos he,givesP_ext hm (cpyF_e0 h)]
  exact cpyF_ext hm k _ h
theorem copiesP_ext (hm:most≤most') {s:RS} {len dist:Nat} (h:(copiesP most s len dist).e=0):copiesP most' s len dist=copiesP most s len dist:=cpyF_ext hm _ _ h
theorem copiesP_e0 {s:RS} {len dist:Nat} (h:(copiesP most s len dist).e=0):s.e=0:=by
 have:=cpyF_e0 h
 split at this
 ·exact fail_e0 this
 ·exact this
theorem cpB_ext (hm:most≤most') {s:RS} {len:Nat} {dl:Option (List Int)} (h:(cpB bs most s len dl).e=0):cpB (bs ++ more) most' s len dl=cpB bs most s len dl:=by
 cases dl with
 | none=>rfl
 | some ds =>
  rw [cpB] at h
  have hn:(nextP bs ds s).2.e=0:=by
   split at h
   ·rename_i hh;exact hh.1
   ·exact (getP_e0 (copiesP_e0 h)).1
  rw [cpB,cpB,nextP_ext hn]
  by_cases h1:(nextP bs ds s).2.e=0∧30≤(nextP bs ds s).1
  ·rw [if_pos h1,if_pos h1]
  ·rw [if_neg h1] at h
   rw [if_neg h1,if_neg h1,getP_ext (copiesP_e0 h)]
   exact copiesP_ext hm h
theorem copyP_ext (hm:most≤most') {s:RS} {q:Nat} {dl:Option (List Int)} (h:(copyP bs most s q dl).e=0):copyP (bs ++ more) most' s q dl=copyP bs most s q dl:=by
 unfold copyP at h ⊢
 by_cases h1:286≤q
 ·rw [if_pos h1,if_pos h1]
 ·rw [if_neg h1] at h ⊢
  rw [if_neg h1]
  by_cases h2:(getP bs s (lenOf (q - 257)).2).2.e=0
  ·rw [if_pos h2] at h ⊢
   rw [getP_ext h2,if_pos h2]
   exact cpB_ext hm h
  ·rw [if_neg h2] at h
   exact absurd h h2
/-- How far a reader comes: within the bytes. -/
theorem nextP_fit2 {s:RS} {ls:List Int} (h:s.p≤8 * bs.length):(nextP bs ls s).2.p≤8 * bs.length:=by
 unfold nextP
 split
 ·exact (nx_le ls bs 15 1 0 s.p h).1
 ·exact h
theorem copyP_fit {s:RS} {q:Nat} {dl:Option (List Int)} (h:s.p≤8 * bs.length):(copyP bs most s q dl).p≤8 * bs.length:=by
 have h1:(getP bs s (lenOf (q - 257)).2).2.p≤8 * bs.length:=getP_fit h
 unfold copyP
 split
 ·rw [fail_p];exact h
 ·split
  ·cases dl with
   | none =>
    show (RS.fail _ 1).p≤_
    rw [fail_p];exact h1
   | some ds =>
    rw [cpB]
    split
    ·rw [fail_p];exact nextP_fit2 h1
    ·rw [copiesP_p];exact getP_fit (nextP_fit2 h1)
  ·exact h1
theorem toksF_fit {ll:List Int} {dl:Option (List Int)}:∀ (f:Nat) {s:RS},s.p≤8 * bs.length→(toksF bs most ll dl f s).p≤8 * bs.length
 | 0,s,h=>h
 | f+1,s,h=>by
  have h1:(nextP bs ll s).2.p≤8 * bs.length:=nextP_fit2 h
  rw [toksF]
  split
  ·split
   ·split
    ·exact h1
    ·split
     ·exact toksF_fit f (by rw [givesP_p];exact h1)
     ·exact toksF_fit f (copyP_fit h1)
   ·exact h1
  ·exact h
theorem plnF_fit:∀ (k:Nat) {s:RS},s.p≤8 * bs.length→(plnF bs most k s).p≤8 * bs.length
 | 0,s,h=>h
 | k+1,s,h=>by
  rw [plnF]
  split
  ·split
   ·exact plnF_fit k (by rw [givesP_p];exact getP_fit h)
   ·exact getP_fit h
  ·exact h
theorem plainP_fit {s:RS} (h:s.p≤8 * bs.length):(plainP bs most s).p≤8 * bs.length:=by
 have h0:(pl0 s).p≤8 * bs.length:=by show 8 * ((s.p+7) / 8)≤_;omega
 have h1:(pl2 bs s).p≤8 * bs.length:=getP_fit (getP_fit h0)
 have h2:(pl3 bs s).p=(pl2 bs s).p:=by
  unfold pl3
  split
  ·exact fail_p _ _
  ·rfl
 exact plnF_fit _ (by rw [h2];exact h1)
theorem lenRd_fit:∀ (ks:List Nat) (l:List Int) {s:RS},s.p≤8 * bs.length→(lenRd bs ks l s).2.p≤8 * bs.length
 | [],l,s,h=>h
 | k :: ks,l,s,h=>lenRd_fit ks _ (getP_fit h)
theorem listF_fit {ls:List Int} {all:Nat}:∀ (f:Nat) (l:List Int) {s:RS},s.p≤8 * bs.length→(listF bs ls all f l s).2.p≤8 * bs.length
 | 0,l,s,h=>h
 | f+1,l,s,h=>by
  have h1:(nextP bs ls s).2.p≤8 * bs.length:=nextP_fit2 h
  have rp:∀ (x:Int) (k m:Nat),(listF bs ls all f (repP l x k all (getP bs (nextP bs ls s).2 m).2).1 (repP l x k all (getP bs (nextP bs ls s).2 m).2).2).2.p≤8 * bs.length:=fun x k m=>listF_fit f _ (by rw [repP_p];exact getP_fit h1)
  rw [listF]
  split
  ·split
   ·split
    ·exact listF_fit f _ h1
    ·split
     ·split
      ·show (RS.fail _ 4).p≤_
       rw [fail_p];exact h1
      ·exact rp _ _ _
     ·split
      ·exact rp _ _ _
      ·exact rp _ _ _
   ·exact h1
  ·exact h
theorem ownLs_fit {s:RS} (h:s.p≤8 * bs.length):(ownLs bs s).2.p≤8 * bs.length:=by
 have hA:(hdA bs s).p≤8 * bs.length:=by
  unfold hdA
  split
  ·rw [fail_p];exact getP_fit h
  ·exact getP_fit h
 have hB:(hdB bs s).p≤8 * bs.length:=by
  unfold hdB
  split
  ·rw [fail_p];exact getP_fit hA
  ·exact getP_fit hA
 have hL:(hdL bs s).2.p≤8 * bs.length:=lenRd_fit _ _ (getP_fit hB)
 unfold ownLs
 cases decD (hdL bs s).1 (hdL bs s).2 with
 | none =>
  show (decP _ _ _).p≤_
  rw [decP_p];exact hL
 | some ls=>exact listF_fit _ [] (by rw [decP_p];exact hL)
theorem rownP_fit {f:Nat} {s:RS} (h:s.p≤8 * bs.length):(rownP bs most f s).p≤8 * bs.length:=by
 have h1:=ownLs_fit h
 unfold rownP ownT
 split
 ·split
  ·exact toksF_fit f (by rw [own3_p];exact h1)
  ·rw [own3_p];exact h1
 ·exact h1
theorem kindP_fit {f k:Nat} {s:RS} (h:s.p≤8 * bs.length):(kindP bs most f k s).p≤8 * bs.length:=by
 unfold kindP
 split
 ·exact plainP_fit h
 ·split
  ·exact toksF_fit f h
  ·split
   ·exact rownP_fit h
   ·rw [fail_p];exact h
theorem blkP_fit {f:Nat} {s:RS} (h:s.p≤8 * bs.length):(blkP bs most f s).p≤8 * bs.length:=kindP_fit (getP_fit (getP_fit h))
theorem infF_fit {f:Nat}:∀ (k:Nat) {s:RS},s.p≤8 * bs.length→(infF bs most f k s).p≤8 * bs.length
 | 0,s,h=>h
 | k+1,s,h=>by
  rw [infF]
  split
  ·split
   ·exact infF_fit k (blkP_fit h)
   ·exact blkP_fit h
  ·exact h
theorem infS_fit:(infS bs most).p≤8 * bs.length:=infF_fit _ (Nat.zero_le _)
theorem toksF_e0 {ll:List Int} {dl:Option (List Int)} {f:Nat} {s:RS} (h:(toksF bs most ll dl f s).e=0):s.e=0:=Decidable.byContradiction fun hn=>by
 rw [toksF_err hn] at h
 exact hn h
theorem toksF_ext (hm:most≤most') {ll:List Int} {dl:Option (List Int)}:∀ (f f':Nat) (s:RS),f≤f'→8 * bs.length+1≤s.p+f→s.p≤8 * bs.length→(toksF bs most ll dl f s).e=0→toksF (bs ++ more) most' ll dl f' s=toksF bs most ll dl f s
 | 0,f',s,hf,hp,hfit,h=>by omega
 | f+1,f',s,hf,hp,hfit,h=>by
  obtain ⟨f',rfl⟩:∃ g,f'=g+1:=⟨f' - 1,by omega⟩
  have he:=toksF_e0 h
  rw [toksF,if_pos he] at h
  have hn:(nextP bs ll s).2.e=0:=Decidable.byContradiction fun hn=>by
   rw [if_neg hn] at h
   exact hn h
  have hlt:=nextP_lt hn
  rw [toksF,toksF,if_pos he,if_pos he,nextP_ext hn]
  rw [if_pos hn] at h
  rw [if_pos hn,if_pos hn]
  by_cases h1:(nextP bs ll s).1=256
  ·rw [if_pos h1,if_pos h1]
  ·rw [if_neg h1] at h
   rw [if_neg h1,if_neg h1]
   have hnf:(nextP bs ll s).2.p≤8 * bs.length:=nextP_fit2 hfit
   have hgo:∀ u:RS,s.p < u.p→u.p≤8 * bs.length→(toksF bs most ll dl f u).e=0→toksF (bs ++ more) most' ll dl f' u=toksF bs most ll dl f u:=fun u hu hz hh=>toksF_ext hm f f' u (by omega) (by omega) hz hh
   by_cases h2:(nextP bs ll s).1 < 256
   ·rw [if_pos h2] at h
    rw [if_pos h2,if_pos h2,givesP_ext hm (toksF_e0 h)]
    exact hgo _ (by rw [givesP_p];exact hlt) (by rw [givesP_p];exact hnf) h
   ·rw [if_neg h2] at h
    rw [if_neg h2,if_neg h2,copyP_ext hm (toksF_e0 h)]
    exact hgo _ (Nat.lt_of_lt_of_le hlt (copyP_m bs most _ _ dl)) (copyP_fit hnf) h
theorem plnF_e0 {k:Nat} {s:RS} (h:(plnF bs most k s).e=0):s.e=0:=Decidable.byContradiction fun hn=>by
 rw [plnF_err hn] at h
 exact hn h
theorem plnF_ext (hm:most≤most'):∀ (k:Nat) (s:RS),(plnF bs most k s).e=0→plnF (bs ++ more) most' k s=plnF bs most k s
 | 0,s,h=>rfl
 | k+1,s,h=>by
  have he:=plnF_e0 h
  rw [plnF,if_pos he] at h
  have hg:(getP bs s 8).2.e=0:=Decidable.byContradiction fun hn=>by
   rw [if_neg hn] at h
   exact hn h
  rw [if_pos hg] at h
  rw [plnF,plnF,if_pos he,if_pos he,getP_ext hg,if_pos hg,if_pos hg,givesP_ext hm (plnF_e0 h)]
  exact plnF_ext hm k _ h
theorem plainP_ext (hm:most≤most') {s:RS} (h:(plainP bs most s).e=0):plainP (bs ++ more) most' s=plainP bs most s:=by
 unfold plainP at h
 have h3:=plnF_e0 h
 have h2:(pl2 bs s).e=0:=by
  unfold pl3 at h3
  split at h3
  ·exact fail_e0 h3
  ·exact h3
 have h1:=(getP_e0 h2).1
 have e1:getP (bs ++ more) (pl0 s) 16=getP bs (pl0 s) 16:=getP_ext h1
 have e2:getP (bs ++ more) (getP bs (pl0 s) 16).2 16=getP bs (getP bs (pl0 s) 16).2 16:=getP_ext h2
 have e3:pl2 (bs ++ more) s=pl2 bs s:=by unfold pl2;rw [e1,e2]
 have e4:pl3 (bs ++ more) s=pl3 bs s:=by unfold pl3;rw [e3,e1,e2]
 unfold plainP
 rw [e4,e1]
 exact plnF_ext hm _ _ h
theorem lenRd_ext:∀ (ks:List Nat) (l:List Int) (s:RS),(lenRd bs ks l s).2.e=0→lenRd (bs ++ more) ks l s=lenRd bs ks l s
 | [],l,s,h=>rfl
 | k :: ks,l,s,h=>by
  rw [lenRd] at h
  rw [lenRd,lenRd,getP_ext (lenRd_e0 bs ks _ _ h)]
  exact lenRd_ext ks _ _ h
theorem repP_e0 {l:List Int} {x:Int} {n all:Nat} {s:RS} (h:(repP l x n all s).2.e=0):s.e=0:=by
 have key:(rep0 l n all s).e=0→s.e=0:=fun h=>by
  unfold rep0 at h
  split at h
  ·exact fail_e0 h
  ·exact h
 unfold repP at h
 split at h
 ·exact key h
 ·exact key h
theorem listF_e0 {ls:List Int} {all f:Nat} {l:List Int} {s:RS} (h:(listF bs ls all f l s).2.e=0):s.e=0:=Decidable.byContradiction fun hn=>by
 rw [listF_stop (fun hh=>hn hh.2)] at h
 exact hn h
theorem listF_ext {ls:List Int} {all:Nat}:∀ (f:Nat) (l:List Int) (s:RS),(listF bs ls all f l s).2.e=0→listF (bs ++ more) ls all f l s=listF bs ls all f l s
 | 0,l,s,h=>rfl
 | f+1,l,s,h=>by
  by_cases h1:l.length < all∧s.e=0
  ·rw [listF,if_pos h1] at h
   have hn:(nextP bs ls s).2.e=0:=Decidable.byContradiction fun hn=>by
    rw [if_neg hn] at h
    exact hn h
   rw [if_pos hn] at h
   rw [listF,listF,if_pos h1,if_pos h1,nextP_ext hn,if_pos hn,if_pos hn]
   have rp:∀ (x:Int) (k m:Nat),(listF bs ls all f (repP l x (k+(getP bs (nextP bs ls s).2 m).1) all (getP bs (nextP bs ls s).2 m).2).1 (repP l x (k+(getP bs (nextP bs ls s).2 m).1) all (getP bs (nextP bs ls s).2 m).2).2).2.e=0→listF (bs ++ more) ls all f (repP l x (k+(getP (bs ++ more) (nextP bs ls s).2 m).1) all (getP (bs ++ more) (nextP bs ls s).2 m).2).1 (repP l x (k+(getP (bs ++ more) (nextP bs ls s).2 m).1) all (getP (bs ++ more) (nextP bs ls s).2 m).2).2=listF bs ls all f (repP l x (k+(getP bs (nextP bs ls s).2 m).1) all (getP bs (nextP bs ls s).2 m).2).1 (repP l x (k+(getP bs (nextP bs ls s).2 m).1) all (getP bs (nextP bs ls s).2 m).2).2:=fun x k m hh=>by
    rw [getP_ext (repP_e0 (listF_e0 hh))]
    exact listF_ext f _ _ hh
   by_cases h2:(nextP bs ls s).1 < 16
   ·rw [if_pos h2] at h
    rw [if_pos h2,if_pos h2]
    exact listF_ext f _ _ h
   ·rw [if_neg h2] at h
    rw [if_neg h2,if_neg h2]
    by_cases h3:(nextP bs ls s).1=16
    ·rw [if_pos h3] at h
     rw [if_pos h3,if_pos h3]
     by_cases h4:l.length=0
     ·rw [if_pos h4,if_pos h4]
     ·rw [if_neg h4] at h
      rw [if_neg h4,if_neg h4]
      exact rp _ 3 2 h
    ·rw [if_neg h3] at h
     rw [if_neg h3,if_neg h3]
     by_cases h4:(nextP bs ls s).1=17
     ·rw [if_pos h4] at h
      rw [if_pos h4,if_pos h4]
      exact rp _ 3 3 h
     ·rw [if_neg h4] at h
      rw [if_neg h4,if_neg h4]
      exact rp _ 11 7 h
  ·rw [listF_stop h1,listF_stop h1]
theorem ownLs_ext {s:RS} (h:(ownLs bs s).2.e=0):hdN (bs ++ more) s=hdN bs s∧ownLs (bs ++ more) s=ownLs bs s:=by
 have h1:=decP_e0 (listD_e0 h)
 have h2:=lenRd_e0 bs _ _ _ h1
 have h3:=(getP_e0 h2).1
 have h4:(getP bs (hdA bs s) 5).2.e=0:=by
  unfold hdB at h3
  split at h3
  ·exact fail_e0 h3
  ·exact h3
 have h5:=(getP_e0 h4).1
 have h6:(getP bs s 5).2.e=0:=by
  unfold hdA at h5
  split at h5
  ·exact fail_e0 h5
  ·exact h5
 have eN:hdN (bs ++ more) s=hdN bs s:=by unfold hdN;rw [getP_ext h6]
 have eA:hdA (bs ++ more) s=hdA bs s:=by unfold hdA;rw [eN,getP_ext h6]
 have eM:hdM (bs ++ more) s=hdM bs s:=by unfold hdM;rw [eA,getP_ext h4]
 have eB:hdB (bs ++ more) s=hdB bs s:=by unfold hdB;rw [eM,eA,getP_ext h4]
 have eQ:hdQ (bs ++ more) s=hdQ bs s:=by unfold hdQ;rw [eB,getP_ext h2]
 have eL:hdL (bs ++ more) s=hdL bs s:=by
  unfold hdL
  rw [eQ,eB,getP_ext h2]
  exact lenRd_ext _ _ _ h1
 refine ⟨eN,?_⟩
 unfold ownLs at h ⊢
 rw [eL,eN,eM]
 cases hD:decD (hdL bs s).1 (hdL bs s).2 with
 | none=>rfl
 | some ls =>
  rw [hD] at h
  exact listF_ext _ _ _ h
theorem rownP_ext (hm:most≤most') {f f':Nat} {s:RS} (hf:f≤f') (hfu:8 * bs.length+1≤f) (h:(rownP bs most f s).e=0):rownP (bs ++ more) most' f' s=rownP bs most f s:=by
 unfold rownP ownT at h
 have h1:(ownLs bs s).2.e=0:=Decidable.byContradiction fun hn=>by
  rw [if_neg hn] at h
  exact hn h
 rw [if_pos h1] at h
 have h2:(own3 (ownLs bs s).1 (hdN bs s) (ownLs bs s).2).e=0:=Decidable.byContradiction fun hn=>by
  rw [if_neg hn] at h
  exact hn h
 rw [if_pos h2] at h
 obtain ⟨e1,e2⟩:=ownLs_ext (more:=more) h1
 unfold rownP ownT
 rw [e1,e2,if_pos h1,if_pos h1,if_pos h2,if_pos h2]
 have hfit:(own3 (ownLs bs s).1 (hdN bs s) (ownLs bs s).2).p≤8 * bs.length:=by
  refine Decidable.byContradiction fun hn=>?_
  cases f with
  | zero=>omega
  | succ f =>
   rw [toksF,if_pos h2] at h
   have:(nextP bs ((ownLs bs s).1.take (hdN bs s)) (own3 (ownLs bs s).1 (hdN bs s) (ownLs bs s).2)).2.e=0:=Decidable.byContradiction fun hn=>by
    rw [if_neg hn] at h
    exact hn h
   have:=nextP_fit this
   omega
 exact toksF_ext hm f f' _ hf (by omega) hfit h
theorem kindP_ext (hm:most≤most') {f f' k:Nat} {s:RS} (hf:f≤f') (hfu:8 * bs.length+1≤f) (hfit:s.p≤8 * bs.length) (h:(kindP bs most f k s).e=0):kindP (bs ++ more) most' f' k s=kindP bs most f k s:=by
 unfold kindP at h ⊢
 split
 ·rename_i e
  rw [if_pos e] at h
  exact plainP_ext hm h
 ·rename_i e
  rw [if_neg e] at h
  split
  ·rename_i e2
   rw [if_pos e2] at h
   exact toksF_ext hm f f' s hf (by omega) hfit h
  ·rename_i e2
   rw [if_neg e2] at h
   split
   ·rename_i e3
    rw [if_pos e3] at h
    exact rownP_ext hm hf hfu h
   ·rfl
theorem blk2_e0 {f:Nat} {s:RS} (h:(blkP bs most f s).e=0):(blk2 bs s).e=0:=Decidable.byContradiction fun hh=>kindP_err hh h
theorem blkP_ext (hm:most≤most') {f f':Nat} {s:RS} (hf:f≤f') (hfu:8 * bs.length+1≤f) (h:(blkP bs most f s).e=0):blk0 (bs ++ more) s=blk0 bs s∧blkP (bs ++ more) most' f' s=blkP bs most f s:=by
 have h1:=blk2_e0 h
 have h2:=(getP_e0 h1).1
 have e1:=getP_ext (more:=more) h2
 have e2:=getP_ext (more:=more) h1
 have hfit:(blk2 bs s).p≤8 * bs.length:=by
  have h3:=(getP_e0 h2).1
  have h4:(getP bs s 1).2.p≤8 * bs.length:=by
   unfold getP at h2 ⊢
   rw [if_pos h3] at h2 ⊢
   split at h2
   ·rename_i hh;rw [if_pos hh];exact hh
   ·exact absurd h2 (show ¬ (2:Int)=0 by decide)
  exact getP_fit h4
 refine ⟨by unfold blk0;rw [e1],?_⟩
 unfold blkP
 rw [show blk1 (bs ++ more) s=blk1 bs s by unfold blk1;rw [e1,e2],show blk2 (bs ++ more) s=blk2 bs s by unfold blk2;rw [e1,e2]]
 exact kindP_ext hm hf hfu hfit h
theorem infF_ext (hm:most≤most') {f f':Nat} (hf:f≤f') (hfu:8 * bs.length+1≤f):∀ (k k':Nat) (s:RS),k≤k'→8 * bs.length+1≤s.p+k→s.p≤8 * bs.length→(infF bs most f k s).e=0→infF (bs ++ more) most' f' k' s=infF bs most f k s
 | 0,k',s,hk,hp,hfit,h=>by omega
 | k+1,k',s,hk,hp,hfit,h=>by
  obtain ⟨k',rfl⟩:∃ g,k'=g+1:=⟨k' - 1,by omega⟩
  have he:s.e=0:=Decidable.byContradiction fun hn=>by
   rw [infF_err hn] at h
   exact hn h
  rw [infF,if_pos he] at h
  have hb:(blkP bs most f s).e=0:=by
   split at h
   ·exact Decidable.byContradiction fun hn=>by
     rw [infF_err hn] at h
     exact hn h
   ·exact h
  obtain ⟨e1,e2⟩:=blkP_ext (more:=more) hm hf hfu hb
  have hp3:=blkP_p hb
  rw [infF,infF,if_pos he,if_pos he,e1,e2]
  split
  ·rename_i h0
   rw [if_pos h0] at h
   exact infF_ext hm hf hfu k k' _ (by omega) (by omega) (blkP_fit hfit) h
  ·rfl
/-- More bytes behind and more room change nothing. -/
theorem infS_ext (hm:most≤most') (h:(infS bs most).e=0):infS (bs ++ more) most'=infS bs most:=by
 unfold infS at h ⊢
 exact infF_ext hm (by rw [List.length_append];omega) (Nat.le_refl _) _ _ _ (by rw [List.length_append];omega) (by show 8 * bs.length+1≤0+_;omega) (Nat.zero_le _) h
/-- What is read lies within. -/
theorem infF_le {f:Nat}:∀ (k:Nat) (s:RS),(s.out.length:Int)≤most→((infF bs most f k s).out.length:Int)≤most
 | 0,s,h=>h
 | k+1,s,h=>by
  have hb:((blkP bs most f s).out.length:Int)≤most:=kindP_le (by rw [blk2_out];exact h)
  rw [infF]
  split
  ·split
   ·exact infF_le k _ hb
   ·exact hb
  ·exact h
theorem infS_le (h0:0≤most):((infS bs most).out.length:Int)≤most:=infF_le _ _ (by show (((0:Nat)):Int)≤most;exact h0)
end
end Go.Proofs.YtebbdifhiihfkaaGreatDoor

/- flate: what Inflate says of what Deflate gives, plainly. -/
namespace Go.Proofs.YtebbdifhiihfkaaGreatDoor
set_option linter.all false
theorem inflP_ok {bs:List UInt8} {most:Int} (h1:0≤most) (h2:most≤40000) (h:(infS bs most).e=0):inflP bs most=((infS bs most).out,((infS bs most).p+7) / 8,0):=by
 unfold inflP
 rw [if_neg (by omega),if_pos h]
theorem inflP_zero {bs:List UInt8} {most:Int} (h:(inflP bs most).2.2=0):0≤most∧most≤40000∧(infS bs most).e=0:=by
 unfold inflP at h
 split at h
 ·exact absurd (show (1:Int)=0 from h) (by decide)
 ·split at h
  ·rename_i h1 h2
   exact ⟨by omega,by omega,h2⟩
  ·rename_i h2
   exact absurd h h2
/-- What is read lies within, and a block at least is read. -/
theorem inflP_rng {bs:List UInt8} {most:Int} (h:(inflP bs most).2.2=0):1≤(inflP bs most).2.1∧(inflP bs most).2.1≤bs.length∧(((inflP bs most).1.length:Nat):Int)≤most:=by
 obtain ⟨h1,h2,h3⟩:=inflP_zero h
 rw [inflP_ok h1 h2 h3]
 have hf:(infS bs most).p≤8 * bs.length:=infS_fit
 refine ⟨?_,?_,infS_le h1⟩
 ·show 1≤((infS bs most).p+7) / 8
  have key:∀ k f (s:RS),s.e=0→(infF bs most f (k+1) s).e=0→s.p+3≤(infF bs most f (k+1) s).p:=fun k f=>by
   induction k with
   | zero =>
    intro s he hh
    rw [infF,if_pos he] at hh ⊢
    split at hh
    ·rename_i h0
     rw [if_pos h0]
     exact blkP_p hh
    ·rename_i h0
     rw [if_neg h0]
     exact blkP_p hh
   | succ k ih =>
    intro s he hh
    rw [infF,if_pos he] at hh ⊢
    split at hh
    ·rename_i h0
     rw [if_pos h0]
     have hb:(blkP bs most f s).e=0:=Decidable.byContradiction fun hn=>by
      rw [infF_err hn] at hh
      exact hn hh
     have:=ih _ hb hh
     have:=blkP_p hb
     omega
    ·rename_i h0
     rw [if_neg h0]
     exact blkP_p hh
  have:=key (8 * bs.length) (8 * bs.length+1) ⟨0,[],0⟩ rfl h3
  have h5:0+3≤(infS bs most).p:=this
  omega
 ·show ((infS bs most).p+7) / 8≤bs.length
  omega
end Go.Proofs.YtebbdifhiihfkaaGreatDoor

/- zlib: a frame read, plainly. -/
namespace Go.Proofs.YtebbdifhiihfkaaGreatDoor
set_option linter.all false
/-- May two bytes not begin a frame? -/
def hdBad (n:Nat):Prop:=¬ n / 256 % 16=8∨7 < n / 4096∨¬ n % 31=0∨¬ n / 32 % 2=0
instance (n:Nat):Decidable (hdBad n):=by unfold hdBad;infer_instance
def hdV (bs:List UInt8):Nat:=beV (bs.take 2)
def sumV (bs:List UInt8) (u:Nat):Nat:=beV ((bs.drop (2+u)).take 4)
def unpkP (bs:List UInt8) (most:Int):List UInt8 × Nat × Int :=
 if bs.length < 2 then ([],0,2) else if hdBad (hdV bs) then ([],0,4) else
 if (inflP (bs.drop 2) most).2.2=0 then
  (if bs.length < 2+(inflP (bs.drop 2) most).2.1+4 then ([],0,2) else if sumV bs (inflP (bs.drop 2) most).2.1=adler (inflP (bs.drop 2) most).1 then ((inflP (bs.drop 2) most).1,2+(inflP (bs.drop 2) most).2.1+4,0) else ([],0,5))
 else ([],0,(inflP (bs.drop 2) most).2.2)
def wholP (bs:List UInt8) (most:Int):List UInt8 × Int :=
 if (unpkP bs most).2.2=0 then (if (unpkP bs most).2.1 < bs.length then ([],3) else ((unpkP bs most).1,0)) else ([],(unpkP bs most).2.2)
theorem beV_two {bs:List UInt8} (h:2≤bs.length):hdV bs < 65536:=by
 have:=beV_lt bs 2 h
 exact this
theorem sumV_lt {bs:List UInt8} {u:Nat} (h:2+u+4≤bs.length):sumV bs u < 4294967296:=by
 have:=beV_lt (bs.drop (2+u)) 4 (by rw [List.length_drop];omega)
 exact this
/-- The sum's bytes are read back. -/
theorem beV_beB {x:Nat} (h:x < 4294967296):beV (beB x 4)=x:=by
 have e:beB x 4=[UInt8.ofNat (x / 16777216),UInt8.ofNat (x / 65536),UInt8.ofNat (x / 256),UInt8.ofNat x]:=by
  unfold beB leB
  simp [List.range,List.range.loop]
 rw [e]
 have key:∀ y,(UInt8.ofNat y).toNat=y % 256:=fun y=>by simp
 show (((0 * 256+(UInt8.ofNat (x / 16777216)).toNat) * 256+(UInt8.ofNat (x / 65536)).toNat) * 256+(UInt8.ofNat (x / 256)).toNat) * 256+(UInt8.ofNat x).toNat=x
 rw [key,key,key,key]
 omega
theorem packL_len (bz S:List UInt8):(packL bz S).length=2+bz.length+S.length:=by
 unfold packL
 rw [List.length_append,List.length_append]
 rfl
theorem packL_hd (bz S more:List UInt8):hdV (packL bz S ++ more)=30876:=rfl
theorem packL_drop (bz S more:List UInt8):(packL bz S ++ more).drop 2=bz ++ (S ++ more):=by
 unfold packL
 rw [List.append_assoc,List.append_assoc]
 rfl
theorem packL_sum {bz S more:List UInt8} {x:Nat} (hx:x < 4294967296) (hS:S=beB x 4):sumV (packL bz S ++ more) bz.length=x:=by
 unfold sumV
 have e:(packL bz S ++ more).drop (2+bz.length)=S ++ more:=by
  unfold packL
  rw [List.append_assoc]
  have:([120,156] ++ bz:List UInt8).length=2+bz.length:=by rw [List.length_append];rfl
  rw [← this,List.drop_left']
  rfl
 rw [e,List.take_left' (by rw [hS,beB_len]),hS,beV_beB hx]
/-- What is packed comes out; more behind it changes nothing. -/
theorem unpk_back {b bz S more:List UInt8} {most:Int} (hb:b.length≤40000) (hw:WB bz (deflB b (findP b))) (hS:S=beB (adler b) 4) (hi:inflP (bz ++ (S ++ more)) most=(b,bz.length,0)):unpkP (packL bz S ++ more) most=(b,(packL bz S).length,0):=by
 have hl:(packL bz S ++ more).length=2+bz.length+4+more.length:=by rw [List.length_append,packL_len,hS,beB_len]
 unfold unpkP
 rw [if_neg (by omega),packL_hd,if_neg (by decide),packL_drop,hi]
 show (if (0:Int)=0 then (if (packL bz S ++ more).length < 2+bz.length+4 then _ else if sumV (packL bz S ++ more) bz.length=adler b then _ else _) else _)=_
 rw [if_pos rfl,if_neg (by omega),packL_sum (adler_lt b) hS,if_pos rfl,packL_len,hS,beB_len]
theorem infl_more {bz b more:List UInt8} {most:Int} (hb:b.length≤40000) (hm:(b.length:Int)≤most) (hm2:most≤40000) (hw:WB bz (deflB b (findP b))):inflP (bz ++ more) most=(b,bz.length,0):=by
 have h1:=z_back (most:=(b.length:Int)) hb (Int.le_refl _) hw
 have h2:=infS_ext (more:=more) (most':=most) hm (by rw [h1])
 have h3:(infS (bz ++ more) most).e=0:=by rw [h2,h1]
 rw [inflP_ok (by omega) hm2 h3,h2,h1,hw.1]
theorem whol_back {b bz S:List UInt8} {most:Int} (hb:b.length≤40000) (hm:(b.length:Int)≤most) (hm2:most≤40000) (hw:WB bz (deflB b (findP b))) (hS:S=beB (adler b) 4):wholP (packL bz S) most=(b,0):=by
 have h1:=unpk_back (more:=[]) hb hw hS (infl_more (more:=S ++ []) hb hm hm2 hw)
 rw [List.append_nil] at h1
 unfold wholP
 rw [h1]
 show (if (0:Int)=0 then (if (packL bz S).length < (packL bz S).length then _ else _) else _)=_
 rw [if_pos rfl,if_neg (Nat.lt_irrefl _)]
end Go.Proofs.YtebbdifhiihfkaaGreatDoor

