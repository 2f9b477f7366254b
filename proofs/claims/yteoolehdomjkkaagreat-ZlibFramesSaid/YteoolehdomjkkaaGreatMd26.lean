/- Merged: RdP, NewG, NextG, Rd1, Rd2. -/
import Derived.Test.YteoolehdomjkkaaGreatMd24
import Derived.Test.YteoolehdomjkkaaGreatMd01
import Derived.Test.YteoolehdomjkkaaGreatMd11
import Derived.Test.YteoolehdomjkkaaGreatMd12
/- flate: what a reader of blocks does, plainly. -/
namespace Go.Proofs.YteoolehdomjkkaaGreat
set_option linter.all false
/-- How far it has come, what came out, its error. -/
structure RS where
 p:Nat
 out:List UInt8
 e:Int
def RS.fail (s:RS) (e:Int):RS:=if s.e=0 then ⟨s.p,s.out,e⟩ else s
def getP (bs:List UInt8) (s:RS) (m:Nat):Nat × RS:=if s.e=0 then (if s.p+m≤8 * bs.length then (getV bs s.p m,⟨s.p+m,s.out,0⟩) else (0,⟨s.p,s.out,2⟩)) else (0,s)
def nextP (bs:List UInt8) (ls:List Int) (s:RS):Int × RS:=if s.e=0 then ((nx ls bs 15 1 0 s.p).1,⟨(nx ls bs 15 1 0 s.p).2.2,s.out,(nx ls bs 15 1 0 s.p).2.1⟩) else (0,s)
def givesP (most:Int) (s:RS) (x:UInt8):RS:=if most≤(s.out.length:Int) then s.fail 10 else ⟨s.p,s.out ++ [x],s.e⟩
def plnF (bs:List UInt8) (most:Int):Nat→RS→RS
 | 0,s=>s
 | k+1,s=>if s.e=0 then (if (getP bs s 8).2.e=0 then plnF bs most k (givesP most (getP bs s 8).2 (UInt8.ofNat (getP bs s 8).1)) else (getP bs s 8).2) else s
def cpyF (most:Int) (dist:Nat):Nat→RS→RS
 | 0,s=>s
 | k+1,s=>if s.e=0 then cpyF most dist k (givesP most s (s.out.getD (s.out.length - dist) 0)) else s
def copiesP (most:Int) (s:RS) (len dist:Nat):RS:=cpyF most dist len (if s.out.length < dist then s.fail 1 else s)
/-- A stored block. -/
def pl0 (s:RS):RS:=⟨8 * ((s.p+7) / 8),s.out,s.e⟩
def pl2 (bs:List UInt8) (s:RS):RS:=(getP bs (getP bs (pl0 s) 16).2 16).2
def pl3 (bs:List UInt8) (s:RS):RS:=if (pl2 bs s).e=0∧¬ (getP bs (pl0 s) 16).1+(getP bs (getP bs (pl0 s) 16).2 16).1=65535 then (pl2 bs s).fail 4 else pl2 bs s
def plainP (bs:List UInt8) (most:Int) (s:RS):RS:=plnF bs most (getP bs (pl0 s) 16).1 (pl3 bs s)
theorem plnF_err {bs:List UInt8} {most:Int} {k:Nat} {s:RS} (h:¬ s.e=0):plnF bs most k s=s:=by
 cases k with
 | zero=>rfl
 | succ k=>exact if_neg h
theorem cpyF_err {most:Int} {dist k:Nat} {s:RS} (h:¬ s.e=0):cpyF most dist k s=s:=by
 cases k with
 | zero=>rfl
 | succ k=>exact if_neg h
theorem getP_lt (bs:List UInt8) (s:RS) {m:Nat} (hm:m≤24):(getP bs s m).1 < 2 ^ m:=by
 unfold getP
 split
 ·split
  ·exact getV_lt bs s.p m
  ·exact Nat.two_pow_pos m
 ·exact Nat.two_pow_pos m
theorem nx_val (ls:List Int) (bs:List UInt8):∀ f t v P,∃ p:Nat,(nx ls bs f t v P).1=(p:Int)∧(p=0∨p < ls.length)∧(¬ (nx ls bs f t v P).2.1=0→p=0)
 | 0,t,v,P=>⟨0,rfl,.inl rfl,fun _=>rfl⟩
 | f+1,t,v,P=>by
  rw [nx]
  split
  ·exact ⟨0,rfl,.inl rfl,fun _=>rfl⟩
  ·split
   ·rename_i p hp
    refine ⟨p,rfl,.inr ?_,fun h=>absurd rfl h⟩
    have:=List.mem_of_find?_eq_some hp
    exact List.mem_range.1 this
   ·exact nx_val ls bs f (t+1) (v * 2+bitAt bs P) (P+1)
theorem nextP_val (bs:List UInt8) (ls:List Int) (s:RS):∃ p:Nat,(nextP bs ls s).1=(p:Int)∧(p=0∨p < ls.length)∧(¬ (nextP bs ls s).2.e=0→p=0):=by
 unfold nextP
 split
 ·exact nx_val ls bs 15 1 0 s.p
 ·exact ⟨0,rfl,.inl rfl,fun _=>rfl⟩
/-- What stands behind a length: a distance, what came out copied. -/
def cpB (bs:List UInt8) (most:Int) (s:RS) (len:Nat):Option (List Int)→RS
 | none=>s.fail 1
 | some ds =>
  if (nextP bs ds s).2.e=0∧30≤(nextP bs ds s).1 then (nextP bs ds s).2.fail 4
  else copiesP most (getP bs (nextP bs ds s).2 (distOf (nextP bs ds s).1.toNat).2).2 len ((distOf (nextP bs ds s).1.toNat).1+(getP bs (nextP bs ds s).2 (distOf (nextP bs ds s).1.toNat).2).1)
/-- What stands behind a length's symbol. -/
def copyP (bs:List UInt8) (most:Int) (s:RS) (q:Nat) (dl:Option (List Int)):RS :=
 if 286≤q then s.fail 4
 else if (getP bs s (lenOf (q - 257)).2).2.e=0 then cpB bs most (getP bs s (lenOf (q - 257)).2).2 ((lenOf (q - 257)).1+(getP bs s (lenOf (q - 257)).2).1) dl
 else (getP bs s (lenOf (q - 257)).2).2
theorem fail_out (s:RS) (e:Int):(s.fail e).out=s.out:=by unfold RS.fail;split <;> rfl
theorem getP_out (bs:List UInt8) (s:RS) (m:Nat):(getP bs s m).2.out=s.out:=by
 unfold getP
 split
 ·split <;> rfl
 ·rfl
theorem nextP_out (bs:List UInt8) (ls:List Int) (s:RS):(nextP bs ls s).2.out=s.out:=by
 unfold nextP
 split <;> rfl
theorem givesP_le {most:Int} {s:RS} {x:UInt8} (h:(s.out.length:Int)≤most):((givesP most s x).out.length:Int)≤most:=by
 unfold givesP
 split
 ·rw [fail_out];exact h
 ·rw [List.length_append]
  show ((s.out.length+1:Nat):Int)≤most
  omega
theorem cpyF_le {most:Int} {dist:Nat}:∀ (k:Nat) {s:RS},(s.out.length:Int)≤most→((cpyF most dist k s).out.length:Int)≤most
 | 0,s,h=>h
 | k+1,s,h=>by
  unfold cpyF
  split
  ·exact cpyF_le k (givesP_le h)
  ·exact h
theorem plnF_le {bs:List UInt8} {most:Int}:∀ (k:Nat) {s:RS},(s.out.length:Int)≤most→((plnF bs most k s).out.length:Int)≤most
 | 0,s,h=>h
 | k+1,s,h=>by
  unfold plnF
  split
  ·split
   ·exact plnF_le k (givesP_le (by rw [getP_out];exact h))
   ·rw [getP_out];exact h
  ·exact h
theorem copiesP_le {most:Int} {s:RS} {len dist:Nat} (h:(s.out.length:Int)≤most):((copiesP most s len dist).out.length:Int)≤most:=by
 unfold copiesP
 refine cpyF_le len ?_
 split
 ·rw [fail_out];exact h
 ·exact h
theorem cpB_le {bs:List UInt8} {most:Int} {s:RS} {len:Nat} {dl:Option (List Int)} (h:(s.out.length:Int)≤most):((cpB bs most s len dl).out.length:Int)≤most:=by
 cases dl with
 | none =>
  show ((s.fail 1).out.length:Int)≤most
  rw [fail_out];exact h
 | some ds =>
  rw [cpB]
  split
  ·rw [fail_out,nextP_out];exact h
  ·exact copiesP_le (by rw [getP_out,nextP_out];exact h)
theorem copyP_le {bs:List UInt8} {most:Int} {s:RS} {q:Nat} {dl:Option (List Int)} (h:(s.out.length:Int)≤most):((copyP bs most s q dl).out.length:Int)≤most:=by
 unfold copyP
 split
 ·rw [fail_out];exact h
 ·split
  ·exact cpB_le (by rw [getP_out];exact h)
  ·rw [getP_out];exact h
theorem plainP_le {bs:List UInt8} {most:Int} {s:RS} (h:(s.out.length:Int)≤most):((plainP bs most s).out.length:Int)≤most:=by
 have e2:(pl2 bs s).out=s.out:=by unfold pl2;rw [getP_out,getP_out];rfl
 refine plnF_le _ ?_
 unfold pl3
 split
 ·rw [fail_out,e2];exact h
 ·rw [e2];exact h
/-- Tokens up to the end. -/
def toksF (bs:List UInt8) (most:Int) (ll:List Int) (dl:Option (List Int)):Nat→RS→RS
 | 0,s=>s
 | f+1,s =>
  if s.e=0 then
   if (nextP bs ll s).2.e=0 then
    if (nextP bs ll s).1=256 then (nextP bs ll s).2
    else if (nextP bs ll s).1 < 256 then toksF bs most ll dl f (givesP most (nextP bs ll s).2 (UInt8.ofNat (nextP bs ll s).1.toNat))
    else toksF bs most ll dl f (copyP bs most (nextP bs ll s).2 (nextP bs ll s).1.toNat dl)
   else (nextP bs ll s).2
  else s
theorem toksF_err {bs:List UInt8} {most:Int} {ll:List Int} {dl:Option (List Int)} {f:Nat} {s:RS} (h:¬ s.e=0):toksF bs most ll dl f s=s:=by
 cases f with
 | zero=>rfl
 | succ f=>exact if_neg h
/-- A code is good. -/
def OkL (ls:List Int):Prop:=badL ls=false∧krN ls≤32768∧ls.length≤300
theorem fail_p (s:RS) (e:Int):(s.fail e).p=s.p:=by unfold RS.fail;split <;> rfl
theorem getP_p (bs:List UInt8) (s:RS) (m:Nat):s.p≤(getP bs s m).2.p:=by
 unfold getP
 split
 ·split
  ·exact Nat.le_add_right _ _
  ·exact Nat.le_refl _
 ·exact Nat.le_refl _
theorem givesP_p (most:Int) (s:RS) (x:UInt8):(givesP most s x).p=s.p:=by
 unfold givesP
 split
 ·exact fail_p s 10
 ·rfl
theorem cpyF_p (most:Int) (dist:Nat):∀ (k:Nat) (s:RS),(cpyF most dist k s).p=s.p
 | 0,s=>rfl
 | k+1,s=>by
  unfold cpyF
  split
  ·rw [cpyF_p,givesP_p]
  ·rfl
theorem copiesP_p (most:Int) (s:RS) (len dist:Nat):(copiesP most s len dist).p=s.p:=by
 unfold copiesP
 rw [cpyF_p]
 split
 ·exact fail_p s 1
 ·rfl
theorem nx_step (ls:List Int) (bs:List UInt8):∀ f t v P,(nx ls bs f t v P).2.1=0→P < (nx ls bs f t v P).2.2
 | 0,t,v,P,h=>absurd (show (4:Int)=0 from h) (by decide)
 | f+1,t,v,P,h=>by
  rw [nx] at h ⊢
  split at h
  ·exact absurd (show (2:Int)=0 from h) (by decide)
  ·rename_i h2
   rw [if_neg h2]
   split at h
   ·exact Nat.lt_succ_self P
   ·have:=nx_step ls bs f (t+1) (v * 2+bitAt bs P) (P+1) h
    omega
theorem nextP_p {bs:List UInt8} {ls:List Int} {s:RS} (h:s.e=0) (h2:(nextP bs ls s).2.e=0):s.p < (nextP bs ls s).2.p:=by
 unfold nextP at h2 ⊢
 rw [if_pos h] at h2 ⊢
 exact nx_step ls bs 15 1 0 s.p h2
theorem nextP_pp (bs:List UInt8) (ls:List Int) (s:RS) (hs:s.p≤8 * bs.length):s.p≤(nextP bs ls s).2.p:=by
 unfold nextP
 split
 ·have key:∀ f t v P,P≤(nx ls bs f t v P).2.2:=fun f=>by
   induction f with
   | zero=>intro t v P;exact Nat.le_refl _
   | succ f ih =>
    intro t v P
    rw [nx]
    split
    ·exact Nat.le_refl _
    ·split
     ·exact Nat.le_succ P
     ·have:=ih (t+1) (v * 2+bitAt bs P) (P+1)
      omega
  exact key 15 1 0 s.p
 ·exact Nat.le_refl _
theorem getP_fit {bs:List UInt8} {s:RS} {m:Nat} (h:s.p≤8 * bs.length):(getP bs s m).2.p≤8 * bs.length:=by
 unfold getP
 split
 ·split
  ·rename_i h2;exact h2
  ·exact h
 ·exact h
theorem cpB_p {bs:List UInt8} {most:Int} {s:RS} {len:Nat} {dl:Option (List Int)} (h:s.p≤8 * bs.length):s.p≤(cpB bs most s len dl).p:=by
 cases dl with
 | none =>
  show s.p≤(s.fail 1).p
  rw [fail_p]
  exact Nat.le_refl _
 | some ds =>
  rw [cpB]
  have h1:=nextP_pp bs ds s h
  split
  ·rw [fail_p];exact h1
  ·rw [copiesP_p]
   exact Nat.le_trans h1 (getP_p bs _ _)
theorem copyP_p {bs:List UInt8} {most:Int} {s:RS} {q:Nat} {dl:Option (List Int)} (h:s.p≤8 * bs.length):s.p≤(copyP bs most s q dl).p:=by
 have h1:=getP_p bs s (lenOf (q - 257)).2
 unfold copyP
 split
 ·rw [fail_p];exact Nat.le_refl _
 ·split
  ·exact Nat.le_trans h1 (cpB_p (getP_fit h))
  ·exact h1
end Go.Proofs.YteoolehdomjkkaaGreat

/- Decoders: made, and new. -/
namespace Go.Proofs.YteoolehdomjkkaaGreat
set_option linter.all false
open Go.RowKit
/-- A decoder of one's own, from block lo on. -/
def DecG (w:World) (lo g:Nat) (ls:List Int):Prop:=∃ A c,Arr w g (decL ls 16 (.slice A (allP ls 15).length c))∧ownI w (g+1) (.slice A (allP ls 15).length c) (allP ls 15)∧lo≤g
theorem DecG.later {w w':World} {lo g:Nat} {ls:List Int} (h:DecG w lo g ls) (hb:Below w.heap.size w w'):DecG w' lo g ls:=by
 obtain ⟨A,c,h1,h2,h3⟩:=h
 exact ⟨A,c,h1.later hb,ownI.later h2 hb,h3⟩
def NewG (w:World) (ls:List Int) (e:Ending) (w':World):Prop :=
 ∃ v,e=.returned (.tuple #[v,.int .i64 (nwE ls)])∧(nwE ls=0→∃ g,v=.pointer (some ⟨g,0,none⟩)∧DecG w' w.heap.size g ls)∧(nwE ls ≠ 0→v=.pointer none)∧Below w.heap.size w w'
set_option maxRecDepth 100000 in
set_option maxHeartbeats 3200000 in
theorem new_gen (B n c:Nat) (A:Option Addr) (ls:List Int) (w:World) (h:RdI w B A n ls) (hB1:B≤w.heap.size) (hn:n≤1099511627776) :
  Calls Tryz.prog 178 #[.slice A n c] w fun e w'=>NewG w ls e w':=by
 have HC:=Lib.hid (codes_any B n c A ls w h hB1 hn)
 by_cases hE:cdE ls=0
 ·obtain ⟨g1,g2,g3⟩:=cdE_zero hE
  have HL:=Lib.hid h.len
  have hn3:n≤300:=by have:=h.len;omega
  have HBAD:=Lib.hid g1
  have HNW:Hid (nwE ls=if (allP ls 15).length=0 then 4 else 0):=(show _=_ by unfold nwE;rw [if_pos hE])
  have HBG:=Lib.hid (fun (w':World) (hb:Below w.heap.size w w')=>begins_any B n c A ls w' (h.blw (hb.mono hB1)) (Nat.le_trans hB1 hb.size) hn3 g1 g2)
  have H:=Lib.hid h
  rw [hE] at HC
  clear h hE g1 g2 g3
  go_enter Tryz.func178,Tryz.ntmps178
  go_wp2_with (first
   | (go_at_call 106;(with_reducible refine HC.out.mono ?_);go_must (rintro e w1 ⟨A1,n1,c1,rfl,-,-,hb1⟩;have HB1:=Lib.hid hb1;have hz1:=hb1.size;clear hb1))
   | (go_at_call 153;(with_reducible refine (HBG.out _ (HB1.out.alloc hz1 _)).mono ?_);go_must (rintro e w2 ⟨rfl,hb2⟩;have hz2:=hb2.size;simp only [World.size_alloc] at hz2;have HA0:=Lib.hid (show Arr w2 w1.heap.size decZ from Arr.later (Arr.new w1 decZ 226) hb2);have HB2:=Lib.hid ((HB1.out.alloc hz1 (.cells decZ.toArray 226)).trans (hb2.mono (by simp;omega)));clear hb2))
   | (refine wpList_storePart rfl 185 (.tmp 28) (.tmp 25) rfl w1.heap.size 0 decZ (cU (nextL ls 16)) (decM ls) rfl rfl HA0.out (Tryz.size_u16.trans (by simp [cU,nextL])) (by rw [nextL_len];decide) (cU_one _) (splice0 _ _ _ (by simp [cU,nextL])) ?_;have HA1:=Lib.hid (HA0.out.row (decM ls));have HB3:=Lib.hid (below_setRow HB2.out (g:=w1.heap.size) hz1 (decM ls).toArray))
   | (refine wpList_storePart rfl 186 (.tmp 30) (.tmp 26) rfl w1.heap.size 16 (decM ls) (cI (cntZ ls)) (decL ls 1 (.slice none 0 0)) rfl rfl HA1.out (Tryz.size_i16.trans (by simp [cI,cntZ,cntL])) (by rw [cntZ_len,decM_len];decide) (cI_one _) (by unfold decL;rw [frL_one];exact splice1 _ _ _ _ 16 (by rw [nextL_len]) (by simp [cI,cntZ,cntL])) ?_;have HA2:=Lib.hid (HA1.out.row (decL ls 1 (.slice none 0 0)));have HB4:=Lib.hid (below_setRow HB3.out (g:=w1.heap.size) hz1 (decL ls 1 (.slice none 0 0)).toArray)))
  clear HA0 HA1 HB1 HB2 HB3 HC HBG
  generalize hg:w1.heap.size=g at *
  generalize (w2.setRow g (decM ls).toArray).setRow g (decL ls 1 (.slice none 0 0)).toArray=wa at *
  have hsa:=HA2.out.lt
  go_loopw [7] (fun vi wr=>∃ l:Nat,1≤l∧l≤16∧vi=.int .i64 l∧∃ A c,Hid (Arr wr g (decL ls l (.slice A (allP ls (l - 1)).length c)))∧Hid (ownI wr (g+1) (.slice A (allP ls (l - 1)).length c) (allP ls (l - 1)))∧Hid (Below w.heap.size w wr))
   (fun vi _=>17 - (intOf vi).toNat)
  case atStart=>exact ⟨1,by omega,by omega,rfl,none,0,HA2,ownI.nil_ _ _,HB4⟩
  case round =>
   clear HA2 HB4
   obtain ⟨l,hl1,hl2,rfl,Ap,cp,HA,HO,HB⟩:=hrel
   by_cases hlt:l≤15
   ·have hlI:(l:Int)≤15:=by omega
    have hlI2:(l:Int) < 16:=by omega
    have c3:=HA.out.cell (decL_3 ls l _)
    have c2:=HA.out.cell ((decL_2' ls l _ (t:=l) (by omega)).trans (frL_zero ls (Nat.le_refl l) (by omega)))
    have f2:=HA.out.frozen (32+l)
    have hap:=allP_le ls (l - 1)
    have hap2:(allP ls (l - 1)).length≤4500:=Nat.le_trans hap (by have:=HL.out;rw [this];exact Nat.le_trans (Nat.mul_le_mul (show l - 1≤15 by omega) hn3) (by decide))
    clear hap
    have HAS:=Lib.hid (show Arr (wr.setCell ⟨g,32+l,none⟩ (.int .i64 ((allP ls (l - 1)).length:Int))).drew g (decL ls (l+1) (.slice Ap (allP ls (l - 1)).length cp)) from by
     rw [← decL_from ls _ hl1 (by omega)]
     exact (HA.out.set (32+l) _).drew)
    have HOS:=Lib.hid (ownI.drew (ownI.far HO.out (ownI.ne HO.out (show g < g+1 by omega)) (32+l) (.int .i64 ((allP ls (l - 1)).length:Int))))
    have HBS:=Lib.hid (Below.drew (HB.out.setCell (p:=⟨g,32+l,none⟩) (by show w.heap.size≤g;omega) (.int .i64 ((allP ls (l - 1)).length:Int))))
    clear HA HO HB
    go_wp2_with fail
    go_region_law (fail)
    go_simp
    go_wp2_with fail
    have HEND:Hid (allP ls (l - 1) ++ plc ls l n=allP ls (l+1 - 1)):=(show _=_ by
     obtain ⟨q,rfl⟩:∃ q,l=q+1:=⟨l - 1,by omega⟩
     rw [Nat.add_sub_cancel,Nat.add_sub_cancel,allP,HL.out])
    have HST:Hid (allP ls (l - 1)=allP ls (l - 1) ++ plc ls l 0):=(show _=_ by simp [plc])
    generalize hU:allP ls (l - 1)=U at *
    go_loopw [47] (fun vi wr=>∃ k:Nat,k≤n∧vi=.int .i64 k∧∃ A c,Hid (Arr wr g (decL ls (l+1) (.slice A (U ++ plc ls l k).length c)))∧Hid (ownI wr (g+1) (.slice A (U ++ plc ls l k).length c) (U ++ plc ls l k))∧Hid (Below w.heap.size w wr))
     (fun vi _=>n - (intOf vi).toNat)
    case atStart=>exact ⟨0,Nat.zero_le _,rfl,Ap,cp,by rw [← HST.out];exact HAS,by rw [← HST.out];exact HOS,HBS⟩
    case round =>
     clear HAS HOS HBS HST c3 c2 f2
     obtain ⟨k,hk,rfl,Aq,cq,HA,HO,HB⟩:=hrel
     by_cases hlt2:k < n
     ·obtain ⟨b,o,x,rfl,hb,HX,e1⟩:=(H.out.blw (HB.out.mono hB1)).one hlt2
      have hpl:(U ++ plc ls l k).length≤4800:=by
       rw [List.length_append,plc_len]
       have:=cnt_take ls k l
       have h2:=cnt_le ls l
       have h3:=HL.out
       omega
      by_cases hxl:x=(l:Int)
      ·subst hxl
       have HSP:Hid (U ++ plc ls l (k+1)=U ++ plc ls l k ++ [(k:Int)]):=(show _=_ by rw [plc,if_pos HX.out,List.append_assoc])
       have hsg:=HA.out.lt
       have c3:=HA.out.cell (decL_3 ls (l+1) _)
       have dxl:((l:Int) == (l:Int))=true:=by simp
       generalize hLK:U ++ plc ls l k=LK at *
       clear hLK
       go_wp2_with (at_builtin;go_must (refine wpList_appendI rfl (.tmp 59) (.tmp 61) rfl (g+1) _ LK rfl (ownI.alloc HO.out _) (wr.heap.size+1) 1 1 (some ⟨wr.heap.size,0,none⟩) [(k:Int)] rfl (rd_oneI wr (k:Int)) (by omega) (by simp;omega) ?_;intro v1 w3 hown hgb hbl hat;obtain ⟨A3,c3,rfl,hr3,-,-⟩:=hown.form;rw [show (LK ++ [(k:Int)]).length=LK.length+1 by simp] at hown ⊢;have HA3:=Lib.hid ((HA.out.alloc (.cells #[.int .i64 (k:Int)] 3)).blw hbl (Nat.lt_succ_self g));have HO3:=Lib.hid hown;have HB3:=Lib.hid ((HB.out.alloc (by omega) (.cells #[.int .i64 (k:Int)] 3)).trans (hbl.mono (by omega)));have c48:=HA3.out.cell (decL_3 ls (l+1) _);have f48:=HA3.out.frozen 48;clear hown hgb hbl hat hr3 HA HO HB))
       have HA4:=Lib.hid (HA3.out.set 48 (.slice A3 (LK.length+1) c3))
       rw [decL_place] at HA4
       have HO4:=Lib.hid (ownI.far HO3.out (ownI.ne HO3.out (show g < g+1 by omega)) 48 (.slice A3 (LK.length+1) c3))
       have HB4:=Lib.hid (HB3.out.setCell (p:=⟨g,48,none⟩) (by show w.heap.size≤g;omega) (.slice A3 (LK.length+1) c3))
       have HLE:Hid (LK.length+1=(U ++ plc ls l (k+1)).length):=(show _=_ by rw [HSP.out];simp)
       rw [← HSP.out,HLE.out] at HO4
       rw [HLE.out] at HA4 HB4
       go_roundw
       case rel=>exact ⟨k+1,by omega,by go_num,A3,c3,by rw [HLE.out];exact HA4,by rw [HLE.out];exact HO4,by rw [HLE.out];exact HB4⟩
       case measure=>simp [intOf];omega
      ·have HSP:Hid (plc ls l (k+1)=plc ls l k):=(show _=_ by rw [plc,if_neg (by rw [HX.out];simp;exact hxl)])
       have dxl:(x == (l:Int))=false:=beq_eq_false_iff_ne.2 hxl
       go_wp2_with fail
       go_roundw
       case rel=>exact ⟨k+1,by omega,by go_num,Aq,cq,by rw [HSP.out];exact HA,by rw [HSP.out];exact HO,HB⟩
       case measure=>simp [intOf];omega
     ·obtain rfl:k=n:=by omega
      rw [HEND.out] at HA HO
      go_wp2_with fail
      go_roundw
      case rel=>exact ⟨l+1,by omega,by omega,by go_num,Aq,cq,HA,HO,HB⟩
      case measure=>simp [intOf];omega
   ·obtain rfl:l=16:=by omega
    have c3:=HA.out.cell (decL_3 ls 16 _)
    have HD:Hid (DecG wr w.heap.size g ls):=(show DecG _ _ _ _ from ⟨Ap,cp,HA.out,HO.out,by omega⟩)
    have hap:(allP ls (16 - 1)).length≤4500:=Nat.le_trans (allP_le ls 15) (by have:=HL.out;omega)
    by_cases hz:(allP ls 15).length=0
    ·have HE:Hid (nwE ls=4):=(show _=_ by rw [HNW.out,if_pos hz])
     rw [show 16 - 1=15 from rfl,hz] at c3
     clear HA HO HNW hap hz
     go_wp2_with fail
     go_ret2
     exact ⟨_,ret_tup2 rfl (by rw [HE.out];rfl),fun h=>absurd (HE.out.symm.trans h) (by decide),fun _=>rfl,HB.out⟩
    ·have HE:Hid (nwE ls=0):=(show _=_ by rw [HNW.out,if_neg hz])
     rw [show 16 - 1=15 from rfl] at c3 hap
     clear HA HO HNW
     generalize (allP ls 15).length=m at *
     have dm:((m:Int) == 0)=false:=beq_eq_false_iff_ne.2 (by omega)
     go_wp2_with fail
     go_ret2
     exact ⟨_,ret_tup2 rfl (by rw [HE.out];rfl),fun _=>⟨g,rfl,HD.out⟩,fun h=>absurd HE.out h,HB.out⟩
 ·have HE:Hid (nwE ls=cdE ls∧cdE ls ≠ 0):=(show _∧_ by unfold nwE;rw [if_neg hE];exact ⟨rfl,hE⟩)
  have de:(cdE ls != 0)=true:=by simp [bne];exact hE
  clear h hE
  generalize cdE ls=E at *
  go_enter Tryz.func178,Tryz.ntmps178
  go_wp2_with (go_at_call 106;(with_reducible refine HC.out.mono ?_);go_must (rintro e w1 ⟨A1,n1,c1,rfl,-,-,hb1⟩))
  go_ret2
  exact ⟨_,ret_tup2 rfl (by rw [HE.out.1];rfl),fun h=>absurd (HE.out.1.symm.trans h) HE.out.2,fun _=>rfl,hb1⟩
end Go.Proofs.YteoolehdomjkkaaGreat

/- Decoders: the next place, the decoder being newer than the bits' reader. -/
namespace Go.Proofs.YteoolehdomjkkaaGreat
set_option linter.all false
open Go.RowKit
set_option maxRecDepth 100000 in
set_option maxHeartbeats 3200000 in
theorem next_gen (B n c gd gr P:Nat) (A:Option Addr) (ls:List Int) (bs:List UInt8) (w:World) (lo:Nat) (hd:DecG w lo gd ls) (hlo:gr < lo) (hr:Arr w gr (rdr A n c P)) (hb:RdB w B A n bs) (hg:B≤gr) (hP:P≤8 * n) (hn:n≤1099511627776)
  (hbad:badL ls=false) (hkr:krN ls≤32768) (hl3:ls.length≤300) :
  Calls Tryz.prog 189 #[.pointer (some ⟨gd,0,none⟩),.pointer (some ⟨gr,0,none⟩)] w fun e w'=>NextPost ls bs A n c P gr w e w':=by
 obtain ⟨Ad,cd,hd1,hd2,hd3⟩:=hd
 have HBAD:=Lib.hid hbad
 have HKR:=Lib.hid hkr
 have HL3:=Lib.hid hl3
 have HD:=Lib.hid hd1
 have HDR:=Lib.hid hd2
 have HR:=Lib.hid hr
 have HRB:=Lib.hid hb
 have hgs:=hr.lt
 have HBL:=Lib.hid hb.len
 clear hbad hkr hd1 hd2 hr hb hl3
 go_enter Tryz.func189,Tryz.ntmps189
 go_wp2_with fail
 go_loopw [7,6] (fun vt vv wr=>∃ t v Q:Nat,1≤t∧t≤16∧vt=.int .i64 t∧vv=.int .u32 v∧Hid (v < 2 ^ (t - 1))∧Hid (Q≤8 * n)∧Hid (Arr wr gr (rdr A n c Q))∧Hid (w.grownBy wr (some gr))∧Hid (nx ls bs (16 - t) t v Q=nx ls bs 15 1 0 P))
  (fun vt _ _=>17 - (intOf vt).toNat)
 case atStart=>exact ⟨1,0,P,by omega,by omega,rfl,rfl,(show 0 < 2 ^ (1 - 1) by decide),hP,HR,gb_refl _ _,(show _=_ from rfl)⟩
 case round =>
  clear HR
  obtain ⟨t,v,Q,ht1,ht2,rfl,rfl,HV,HQ,HA,HG,HN⟩:=hrel
  have hQ:=HQ.out
  by_cases hlt:t≤15
  ·have htI:(t:Int)≤15:=by omega
   have htI2:(t:Int) < 16:=by omega
   have HN1:Hid (nx ls bs (15 - t+1) t v Q=nx ls bs 15 1 0 P):=(show _=_ by
    have:=HN.out
    rwa [show 16 - t=15 - t+1 by omega] at this)
   by_cases hfit:8 * n < Q+1
   ·have HC:=Lib.hid (get1_short HA.out hn hQ hfit)
    have HE:Hid ((0,2,Q)=nx ls bs 15 1 0 P):=(show _=_ by rw [← HN1.out,nx_short (by rw [HBL.out];omega)])
    go_wp2_with (go_at_call 143;(with_reducible refine HC.out.mono ?_);go_must (rintro e w5 ⟨rfl,hb5⟩))
    go_ret2
    exact nextPost HE.out rfl (HA.out.gbN hb5) (gb_trans HG.out (gb_none hb5 gr))
   ·have HC:=Lib.hid (get1_any HA.out (HRB.out.blw (below_gb HG.out (by omega) hg)) hg hn (by omega))
    have hbt:=bitAt_lt bs Q
    obtain ⟨V,hV⟩:∃ V,v * 2+bitAt bs Q=V:=⟨_,rfl⟩
    obtain ⟨p1,p2,p3⟩:=pow_step HV.out ht1 hlt hbt hV
    have HP1:=Lib.hid p1
    have hor:=or_code v (bitAt bs Q) p3 hbt
    rw [hV] at hor
    have HVV:=Lib.hid hV
    have hns:¬ 8 * bs.length≤Q:=by rw [HBL.out];omega
    have HNS:=Lib.hid hns
    have hfs:=fst_small ls HBAD.out HKR.out t hlt
    have HBB:=Lib.hid (fun (h:Hit ls t V V)=>h)
    clear p1 hV hns
    generalize hbq:bitAt bs Q=bq at *
    have ed:=decL_0 ls 16 (.slice Ad (allP ls 15).length cd) (t:=t) (by omega)
    have ec:=decL_1 ls 16 (.slice Ad (allP ls 15).length cd) (t:=t) (by omega)
    have ef:=(decL_2' ls 16 (.slice Ad (allP ls 15).length cd) (t:=t) (by omega)).trans (frL_get ls (l:=16) ht1 (by omega) (by omega))
    have ep:=decL_3 ls 16 (.slice Ad (allP ls 15).length cd)
    have HED:=Lib.hid (fun (wx:World) (k:w.grownBy wx (some gr))=>HD.out.gro k (by omega))
    by_cases h1:V < fst ls t
    ·have HH:Hid (hitN ls t (v * 2+bq)=none):=(show _=_ by rw [HVV.out];exact hit_none (fun p h=>by have:=hit_bound ht1 h;omega))
     have HN2:Hid (nx ls bs (16 - (t+1)) (t+1) V (Q+1)=nx ls bs 15 1 0 P):=(show _=_ by
      rw [← HN1.out,nx_on HNS.out (by rw [hbq];exact HH.out),hbq,HVV.out,show 16 - (t+1)=15 - t by omega])
     generalize fst ls t=F at *
     generalize cz ls t=Z at *
     have dge:decide ((V:Int) - (F:Int) ≥ 0)=false:=decide_eq_false (by omega)
     clear HN HN1 HH hbq HV
     go_wp2_with (go_at_call 143;(with_reducible refine HC.out.mono ?_);go_must (rintro e w5 ⟨rfl,hA5,hG5⟩;have HA5:=Lib.hid hA5;have HG5:=Lib.hid (gb_trans HG.out hG5);have c0:=(HED.out w5 HG5.out).cell ed;have c1:=(HED.out w5 HG5.out).cell ec;clear hA5 hG5))
     go_roundw
     case rel=>exact ⟨t+1,V,Q+1,by omega,by omega,by go_num,rfl,HP1,(show Q+1≤8 * n by omega),HA5,HG5,HN2⟩
     case measure=>simp [intOf];omega
    ·obtain ⟨j,hj⟩:∃ j,V=fst ls t+j:=⟨V - fst ls t,by omega⟩
     have hvf:(V:Int) - (fst ls t:Int)=(j:Int):=by omega
     by_cases h2:j < cz ls t
     ·obtain ⟨p,hhit,hpl,hpp⟩:=hit_at ht1 (show fst ls t≤V by omega) (show V < fst ls t+cz ls t by omega)
      have hpx:=allP_get ht1 hpl 15 hlt
      rw [show V - fst ls t=j by omega] at hpx
      have hpm:=(List.getElem?_eq_some_iff.1 hpx).1
      have HPX:=Lib.hid hpx
      have HN2:Hid (((p:Int),0,Q+1)=nx ls bs 15 1 0 P):=(show _=_ by
       rw [← HN1.out,nx_hit HNS.out (by rw [hbq,HVV.out];exact hit_some hhit)])
      have hal:=allP_le ls 15
      have hal2:(allP ls 15).length≤4500:=by have:=HL3.out;omega
      generalize fst ls t=F at *
      generalize cz ls t=Z at *
      generalize (allP ls (t - 1)).length=fr at *
      have dge:decide ((j:Int) ≥ 0)=true:=decide_eq_true (by omega)
      have djz:decide ((j:Int) < (Z:Int))=true:=decide_eq_true (by omega)
      clear HN HN1 hbq HV hhit hpl hpx hal hj h1
      go_wp2_with (go_at_call 143;(with_reducible refine HC.out.mono ?_);go_must (rintro e w5 ⟨rfl,hA5,hG5⟩;have HA5:=Lib.hid hA5;have HG5:=Lib.hid (gb_trans HG.out hG5);have c0:=(HED.out w5 HG5.out).cell ed;have c1:=(HED.out w5 HG5.out).cell ec;have c2:=(HED.out w5 HG5.out).cell ef;have c3:=(HED.out w5 HG5.out).cell ep;obtain ⟨b7,o7,x7,rfl,hb7,HX7,e7⟩:=(ownI.rd (World.ownsRow.kept HDR.out HG5.out (.inr (ownI.ne HDR.out (by omega))))).one hpm;obtain rfl:x7=(p:Int):=Option.some.inj (HX7.out.symm.trans HPX.out);clear hA5 hG5))
      go_quiet (fail)
      go_wp2_with fail
      go_ret2
      exact nextPost HN2.out rfl (HA5.out.drewN _) (gb_drewN HG5.out _)
     ·have HH:Hid (hitN ls t (v * 2+bq)=none):=(show _=_ by rw [HVV.out];exact hit_none (fun p h=>by have:=hit_bound ht1 h;omega))
      have HN2:Hid (nx ls bs (16 - (t+1)) (t+1) V (Q+1)=nx ls bs 15 1 0 P):=(show _=_ by
       rw [← HN1.out,nx_on HNS.out (by rw [hbq];exact HH.out),hbq,HVV.out,show 16 - (t+1)=15 - t by omega])
      generalize fst ls t=F at *
      generalize cz ls t=Z at *
      have dge:decide ((j:Int) ≥ 0)=true:=decide_eq_true (by omega)
      have djz:decide ((j:Int) < (Z:Int))=false:=decide_eq_false (by omega)
      clear HN HN1 HH hbq HV hj h1
      go_wp2_with (go_at_call 143;(with_reducible refine HC.out.mono ?_);go_must (rintro e w5 ⟨rfl,hA5,hG5⟩;have HA5:=Lib.hid hA5;have HG5:=Lib.hid (gb_trans HG.out hG5);have c0:=(HED.out w5 HG5.out).cell ed;have c1:=(HED.out w5 HG5.out).cell ec;clear hA5 hG5))
      go_roundw
      case rel=>exact ⟨t+1,V,Q+1,by omega,by omega,by go_num,rfl,HP1,(show Q+1≤8 * n by omega),HA5,HG5,HN2⟩
      case measure=>simp [intOf];omega
  ·obtain rfl:t=16:=by omega
   have HE:Hid ((0,4,Q)=nx ls bs 15 1 0 P):=(show _=_ by rw [← HN.out];rfl)
   go_wp2_with fail
   go_ret2
   exact nextPost HE.out rfl HA.out HG.out
end Go.Proofs.YteoolehdomjkkaaGreat

/- flate: the reader of blocks, whatever comes: errors, bits, codes, bytes given out. -/
namespace Go.Proofs.YteoolehdomjkkaaGreat
set_option linter.all false
open Go.RowKit
def FS (w:World) (r g:Nat) (A:Option Addr) (n c:Nat) (bs:List UInt8) (most:Int) (vo:Value) (s:RS):Prop:=FR w r g A n c s.p bs vo s.out most s.e
/-- A decoder that is newer than the reader, and beside its row. -/
structure DK (w:World) (r g:Nat) (vo:Value) (gd:Nat) (ls:List Int):Prop where
 dec:DecG w gd gd ls
 hr:r < gd
 hg:g < gd
 ne:vo.ownBlock ≠ some gd
 row:∃ A c,Arr w gd (decL ls 16 (.slice A (allP ls 15).length c))∧ownI w (gd+1) (.slice A (allP ls 15).length c) (allP ls 15)∧Dis vo (.slice A (allP ls 15).length c)
section
variable {w w' : World} {r g gd : Nat} {vo vo' : Value} {ls : List Int}
theorem ownI.rfr {v:Value} {l:List Int} {base:Nat} (h:ownI w base v l) (hf:RFr w w' r g vo vo') (hr:r < base) (hg:g < base) (hd:Dis vo v):ownI w' base v l:=by
 have hb:∀ k,v.ownBlock=some k→w'.heap[k]?=w.heap[k]?:=fun k hk=>by
  have:=World.ownsRow.lt h k hk
  exact hf.block k this.2 (by omega) (by omega) (fun e=>hd k e hk)
 refine ⟨h.1,?_⟩
 rcases h.2 with hn | ⟨q,cap,cur,rfl,hbg,hq,rest⟩
 ·exact .inl hn
 ·exact .inr ⟨q,cap,cur,rfl,hbg,(hb q rfl).trans hq,rest⟩
theorem Dis.rfr2 {v:Value} (h:∀ k,v.ownBlock=some k→k < w.heap.size) (hf:RFr w w' r g vo vo') (hd:Dis vo v):Dis vo' v:=by
 intro k hk hv
 rcases hf.own with e | ⟨j,hj,e⟩
 ·exact hd k (e.symm.trans hk) hv
 ·rw [e] at hk
  injection hk with hk
  have:=h k hv
  omega
theorem DK.fr (h:DK w r g vo gd ls) (hf:RFr w w' r g vo vo'):DK w' r g vo' gd ls:=by
 obtain ⟨A,c,h1,h2,h3⟩:=h.row
 have hlt:=h1.lt
 have hr:=h.hr
 have hg:=h.hg
 have hA:Arr w' gd (decL ls 16 (.slice A (allP ls 15).length c)):=by
  obtain ⟨t,ht⟩:=h1
  exact ⟨t,(hf.block gd hlt (by omega) (by omega) h.ne).trans ht⟩
 have hO:=ownI.rfr h2 hf (by omega) (by omega) h3
 have hD:=Dis.rfr2 (fun k hk=>(World.ownsRow.lt h2 k hk).2) hf h3
 refine ⟨⟨A,c,hA,hO,Nat.le_refl _⟩,hr,hg,fun e=>?_,A,c,hA,hO,hD⟩
 rcases hf.own with e2 | ⟨j,hj,e2⟩
 ·exact h.ne (e2.symm.trans e)
 ·rw [e2] at e
  injection e with e
  omega
theorem DK.new {lo:Nat} (h:DecG w lo gd ls) (hr:r < lo) (hg:g < lo) (hv:∀ k,vo.ownBlock=some k→k < lo):DK w r g vo gd ls:=by
 obtain ⟨A,c,h1,h2,h3⟩:=h
 refine ⟨⟨A,c,h1,h2,Nat.le_refl _⟩,by omega,by omega,fun e=>?_,A,c,h1,h2,fun k hk hk2=>?_⟩
 ·have:=hv gd e
  omega
 ·have h4:=hv k hk
  have h5:=(World.ownsRow.lt h2 k hk2).1
  omega
end
theorem FR.sete {w:World} {r g:Nat} {A:Option Addr} {n c P:Nat} {bs:List UInt8} {vo:Value} {out:List UInt8} {most e:Int} (h:FR w r g A n c P bs vo out most e) (E:Int):FR (w.setCell ⟨r,3,none⟩ (.int .i64 E)) r g A n c P bs vo out most E:=by
 have hgr:=h.gr
 exact ⟨h.arr.set 3 (.int .i64 E),h.rd.far (p:=⟨r,3,none⟩) (by show r ≠ g;omega) _,h.rb.blw ((Below.refl g w).setCell (p:=⟨r,3,none⟩) (by show g≤r;omega) _),ownB.far h.own (g:=r) (ownB_ne h.own (Nat.lt_succ_self r)) 3 _,hgr,h.fit,h.big⟩
theorem nx_le (ls:List Int) (bs:List UInt8):∀ f t v P,P≤8 * bs.length→(nx ls bs f t v P).2.2≤8 * bs.length∧P≤(nx ls bs f t v P).2.2
 | 0,t,v,P,h=>⟨h,Nat.le_refl _⟩
 | f+1,t,v,P,h=>by
  rw [nx]
  split
  ·exact ⟨h,Nat.le_refl _⟩
  ·rename_i h2
   split
   ·exact ⟨by show P+1≤_;omega,by show P≤P+1;omega⟩
   ·have:=nx_le ls bs f (t+1) (v * 2+bitAt bs P) (P+1) (by omega)
    exact ⟨this.1,by omega⟩
section
variable (r g n c : Nat) (A : Option Addr) (bs : List UInt8) (most : Int) (vo : Value) (s : RS) (w : World)
set_option maxRecDepth 100000 in
theorem rfail_any (E:Int) (h:FS w r g A n c bs most vo s) :
  Calls Tryz.prog 100 #[.pointer (some ⟨r,0,none⟩),.int .i64 E] w fun e w'=>e=.returned (.tuple #[])∧FS w' r g A n c bs most vo (s.fail E)∧RFr w w' r g vo vo:=by
 obtain ⟨P,out,ee⟩:=s
 have h:FR w r g A n c P bs vo out most ee:=h
 have H:=Lib.hid h
 have c3:=h.arr.cell (k:=3) rfl
 have f3:=h.arr.frozen 3
 by_cases he:ee=0
 ·subst he
  have HS:=Lib.hid (h.sete E)
  have HF:=Lib.hid ((RFr.refl w r g vo).set1 3 (.int .i64 E))
  clear h
  go_enter Tryz.func100,Tryz.ntmps100
  go_wp2_with fail
  (try simp only [Exit.inBlock,Exit.then])
  first | (refine bodyPost_ret (results_none rfl _ _ _) rfl ?_) | (refine bodyPost_end (results_none rfl _ _ _) rfl ?_)
  exact ⟨rfl,HS.out,HF.out⟩
 ·have d1:(ee == 0)=false:=beq_eq_false_iff_ne.2 he
  have hs:RS.fail ⟨P,out,ee⟩ E=⟨P,out,ee⟩:=if_neg he
  rw [hs]
  clear h
  go_enter Tryz.func100,Tryz.ntmps100
  go_wp2_with fail
  (try simp only [Exit.inBlock,Exit.then])
  first | (refine bodyPost_ret (results_none rfl _ _ _) rfl ?_) | (refine bodyPost_end (results_none rfl _ _ _) rfl ?_)
  exact ⟨rfl,H.out,RFr.refl _ _ _ _⟩
set_option maxRecDepth 100000 in
set_option maxHeartbeats 1600000 in
theorem rget_any (m:Nat) (M:Int) (hM:M=(m:Int)) (h:FS w r g A n c bs most vo s) (hm:m≤24) :
  Calls Tryz.prog 96 #[.pointer (some ⟨r,0,none⟩),.int .i64 M] w fun e w'=>e=.returned (.int .i64 ((getP bs s m).1:Int))∧FS w' r g A n c bs most vo (getP bs s m).2∧RFr w w' r g vo vo:=by
 obtain ⟨P,out,ee⟩:=s
 have h:FR w r g A n c P bs vo out most ee:=h
 have hbl:=h.rb.len
 by_cases he:ee=0
 ·subst he
  by_cases hf:P+m≤8 * n
  ·have e1:getP bs ⟨P,out,0⟩ m=(getV bs P m,⟨P+m,out,0⟩):=by
    show (if (0:Int)=0 then (if P+m≤8 * bs.length then _ else _) else _)=_
    rw [if_pos rfl,if_pos (by rw [hbl];exact hf)]
   rw [e1]
   exact rget_ok r g n c P m A bs vo out most M hM w h hm hf
  ·have e1:getP bs ⟨P,out,0⟩ m=(0,⟨P,out,2⟩):=by
    show (if (0:Int)=0 then (if P+m≤8 * bs.length then _ else _) else _)=_
    rw [if_pos rfl,if_neg (by rw [hbl];exact hf)]
   rw [e1]
   subst hM
   have HG:=Lib.hid (get_short g n c P m A w h.rd (by have:=h.big;omega) h.fit hm (by omega))
   have H:=Lib.hid h
   have HFL:=Lib.hid (fun w' (h:FS w' r g A n c bs most vo ⟨P,out,0⟩)=>rfail_any r g n c A bs most vo ⟨P,out,0⟩ w' 2 h)
   have c0:=h.arr.cell (k:=0) rfl
   have c3:=h.arr.cell (k:=3) rfl
   clear h e1
   go_enter Tryz.func96,Tryz.ntmps96
   go_wp2_with (first
    | (go_at_call 143;(with_reducible refine HG.out.mono ?_);go_must (rintro e w1 ⟨rfl,hg1⟩;have hg2:=gb_none hg1 g;have HF1:=Lib.hid (show FS w1 r g A n c bs most vo ⟨P,out,0⟩ from H.out.moved (H.out.rd.gbN hg1) hg2 H.out.fit);have HF2:=Lib.hid (HFL.out w1 HF1.out);have HR1:=Lib.hid (RFr.ofG hg2 r vo);clear hg1 hg2))
    | (go_at_call 100;(with_reducible refine HF2.out.mono ?_);go_must (rintro e w2 ⟨rfl,hf2,hr2⟩;have HF3:=Lib.hid hf2;have HR2:=Lib.hid (HR1.out.trans hr2);clear hf2 hr2)))
   go_ret
   exact ⟨rfl,HF3.out,HR2.out⟩
 ·have d1:(ee != 0)=true:=by rw [bne_iff_ne];exact he
  have d2:(ee == 0)=false:=beq_eq_false_iff_ne.2 he
  have e1:getP bs ⟨P,out,ee⟩ m=(0,⟨P,out,ee⟩):=if_neg he
  rw [e1]
  have H:=Lib.hid h
  have c3:=h.arr.cell (k:=3) rfl
  clear h e1
  go_enter Tryz.func96,Tryz.ntmps96
  go_wp2_with fail
  go_ret
  exact ⟨rfl,H.out,RFr.refl _ _ _ _⟩
end
end Go.Proofs.YteoolehdomjkkaaGreat

/- flate: the reader of blocks, whatever comes: codes, bytes given out. -/
namespace Go.Proofs.YteoolehdomjkkaaGreat
set_option linter.all false
open Go.RowKit
section
variable (r g n c : Nat) (A : Option Addr) (bs : List UInt8) (most : Int) (vo : Value) (s : RS) (w : World)
set_option maxRecDepth 100000 in
set_option maxHeartbeats 1600000 in
theorem rnext_any (gd:Nat) (ls:List Int) (h:FS w r g A n c bs most vo s) (hd:DK w r g vo gd ls) (hbad:badL ls=false) (hkr:krN ls≤32768) (hl3:ls.length≤300) :
  Calls Tryz.prog 176 #[.pointer (some ⟨r,0,none⟩),.pointer (some ⟨gd,0,none⟩)] w fun e w'=>e=.returned (.int .i64 (nextP bs ls s).1)∧FS w' r g A n c bs most vo (nextP bs ls s).2∧RFr w w' r g vo vo:=by
 obtain ⟨P,out,ee⟩:=s
 have h:FR w r g A n c P bs vo out most ee:=h
 have hbl:=h.rb.len
 have H:=Lib.hid h
 have c0:=h.arr.cell (k:=0) rfl
 have c3:=h.arr.cell (k:=3) rfl
 by_cases he:ee=0
 ·subst he
  have HN:=Lib.hid (next_gen g n c gd g P A ls bs w gd hd.dec hd.hg h.rd h.rb (Nat.le_refl _) h.fit (by have:=h.big;omega) hbad hkr hl3)
  have e1:nextP bs ls ⟨P,out,0⟩=((nx ls bs 15 1 0 P).1,⟨(nx ls bs 15 1 0 P).2.2,out,(nx ls bs 15 1 0 P).2.1⟩):=if_pos rfl
  have hle:=(nx_le ls bs 15 1 0 P (by rw [hbl];exact h.fit)).1
  rw [hbl] at hle
  rw [e1]
  unfold NextPost at HN
  generalize (nx ls bs 15 1 0 P).1=v at *
  generalize (nx ls bs 15 1 0 P).2.2=Q at *
  generalize (nx ls bs 15 1 0 P).2.1=E at *
  clear h e1 hd
  by_cases hE:E=0
  ·subst hE
   go_enter Tryz.func176,Tryz.ntmps176
   go_wp2_with (go_at_call 189;(with_reducible refine HN.out.mono ?_);go_must (rintro e w1 ⟨rfl,ha1,hg1⟩;have HF1:=Lib.hid (H.out.moved ha1 hg1 hle);have HR1:=Lib.hid (RFr.ofG hg1 r vo);clear ha1 hg1))
   go_ret
   exact ⟨rfl,HF1.out,HR1.out⟩
  ·have d1:(E != 0)=true:=by rw [bne_iff_ne];exact hE
   have d2:(E == 0)=false:=beq_eq_false_iff_ne.2 hE
   have HFL:=Lib.hid (fun w' (h:FS w' r g A n c bs most vo ⟨Q,out,0⟩)=>rfail_any r g n c A bs most vo ⟨Q,out,0⟩ w' E h)
   go_enter Tryz.func176,Tryz.ntmps176
   go_wp2_with (first
    | (go_at_call 189;(with_reducible refine HN.out.mono ?_);go_must (rintro e w1 ⟨rfl,ha1,hg1⟩;have HF1:=Lib.hid (show FS w1 r g A n c bs most vo ⟨Q,out,0⟩ from H.out.moved ha1 hg1 hle);have HF2:=Lib.hid (HFL.out w1 HF1.out);have HR1:=Lib.hid (RFr.ofG hg1 r vo);clear ha1 hg1))
    | (go_at_call 100;(with_reducible refine HF2.out.mono ?_);go_must (rintro e w2 ⟨rfl,hf2,hr2⟩;have HF3:=Lib.hid hf2;have HR2:=Lib.hid (HR1.out.trans hr2);clear hf2 hr2)))
   go_ret
   exact ⟨rfl,HF3.out,HR2.out⟩
 ·have d1:(ee != 0)=true:=by rw [bne_iff_ne];exact he
  have d2:(ee == 0)=false:=beq_eq_false_iff_ne.2 he
  have e1:nextP bs ls ⟨P,out,ee⟩=(0,⟨P,out,ee⟩):=if_neg he
  rw [e1]
  clear h e1 hd
  go_enter Tryz.func176,Tryz.ntmps176
  go_wp2_with fail
  go_ret
  exact ⟨rfl,H.out,RFr.refl _ _ _ _⟩
set_option maxRecDepth 100000 in
set_option maxHeartbeats 1600000 in
theorem rgives_any (x:UInt8) (h:FS w r g A n c bs most vo s) (hm:most≤1000000) :
  Calls Tryz.prog 145 #[.pointer (some ⟨r,0,none⟩),.int .u8 (x.toNat:Int)] w fun e w'=>e=.returned (.tuple #[])∧∃ vo',FS w' r g A n c bs most vo' (givesP most s x)∧RFr w w' r g vo vo':=by
 obtain ⟨P,out,ee⟩:=s
 have h:FR w r g A n c P bs vo out most ee:=h
 obtain ⟨Ap,cp,rfl,-,-,-⟩:=h.own.form
 have H:=Lib.hid h
 have HD:=Lib.hid (fun q=>h.drewN q)
 have c1:=h.arr.cell (k:=1) rfl
 have c2:=h.arr.cell (k:=2) rfl
 have hrw:=h.arr.lt
 by_cases hlt:most≤(out.length:Int)
 ·have e1:givesP most ⟨P,out,ee⟩ x=RS.fail ⟨P,out,ee⟩ 10:=if_pos hlt
  have HFL:=Lib.hid (fun w' (h:FS w' r g A n c bs most (.slice Ap out.length cp) ⟨P,out,ee⟩)=>rfail_any r g n c A bs most (.slice Ap out.length cp) ⟨P,out,ee⟩ w' 10 h)
  rw [e1]
  clear h e1
  go_enter Tryz.func145,Tryz.ntmps145
  go_wp2_with fail
  go_quiet (fail)
  have HF2:=Lib.hid (HFL.out _ (HD.out nq))
  go_wp2_with (go_at_call 100;(with_reducible refine HF2.out.mono ?_);go_must (rintro e w2 ⟨rfl,hf2,hr2⟩;have HF3:=Lib.hid hf2;have HR2:=Lib.hid (RFr.drew0 hr2);clear hf2 hr2))
  (try simp only [Exit.inBlock,Exit.then])
  first | (refine bodyPost_ret (results_none rfl _ _ _) rfl ?_) | (refine bodyPost_end (results_none rfl _ _ _) rfl ?_)
  exact ⟨rfl,_,HF3.out,HR2.out⟩
 ·have e1:givesP most ⟨P,out,ee⟩ x=⟨P,out ++ [x],ee⟩:=if_neg hlt
  rw [e1]
  have hlt1:decide ((out.length:Int) ≥ most)=false:=decide_eq_false (by omega)
  have HLN:Hid ((out ++ [x]).length=out.length+1):=(show _=_ by simp)
  clear h e1
  go_enter Tryz.func145,Tryz.ntmps145
  go_wp2_with fail
  go_quiet (fail)
  go_wp2_with (at_builtin;go_must (refine wpList_appendB rfl (.tmp 20) (.tmp 22) rfl (r+1) _ out rfl (ownB.alloc (HD.out nq).own _) ((w.drewN nq).heap.size+1) 1 1 (some ⟨(w.drewN nq).heap.size,0,none⟩) [x] rfl (rd_one (w.drewN nq) (x.toNat:Int) x rfl) (by omega) (by rw [World.size_alloc];show r+1≤w.heap.size+1;omega) ?_;intro v1 w3 hown hgb hbl hat;obtain ⟨A3,c3,rfl,hr3,-,-⟩:=hown.form;clear hr3;have HF3:=Lib.hid (show RFr w w3 r g (.slice Ap out.length cp) (.slice A3 (out ++ [x]).length c3) from RFr.drew0 (RFr.grown (r:=r) (g:=g) _ hgb hat));rw [show (out ++ [x]).length=out.length+1 by simp] at hown HF3 ⊢;have HA3:=Lib.hid (((HD.out nq).arr.alloc (.cells #[Value.int .u8 (x.toNat:Int)] 5)).blw hbl (Nat.lt_succ_self r));have HG3:=Lib.hid (((HD.out nq).rd.alloc (.cells #[Value.int .u8 (x.toNat:Int)] 5)).blw hbl (by have:=H.out.gr;omega));have HB3:=Lib.hid (RdB.blw (Rd.alloc (HD.out nq).rb (by show g≤w.heap.size;have:=H.out.gr;omega) (.cells #[Value.int .u8 (x.toNat:Int)] 5)) (hbl.mono (by have:=H.out.gr;omega)));have HO3:=Lib.hid hown;have c31:=HA3.out.cell (k:=1) rfl;have f31:=HA3.out.frozen 1;clear hown hbl hat hgb))
  (try simp only [Exit.inBlock,Exit.then])
  first | (refine bodyPost_ret (results_none rfl _ _ _) rfl ?_) | (refine bodyPost_end (results_none rfl _ _ _) rfl ?_)
  refine ⟨rfl,_,⟨HA3.out.set 1 _,HG3.out.far (p:=⟨r,1,none⟩) (by show r ≠ g;have:=H.out.gr;omega) _,HB3.out.blw ((Below.refl g w3).setCell (p:=⟨r,1,none⟩) (by show g≤r;have:=H.out.gr;omega) _),ownB.far HO3.out (g:=r) (ownB_ne HO3.out (Nat.lt_succ_self r)) 1 _,H.out.gr,H.out.fit,H.out.big⟩,HF3.out.set1 1 _⟩
end
end Go.Proofs.YteoolehdomjkkaaGreat
