/- XRdP XRd1 XRd2 XRd3 XRd4 -/
import Derived.Test.YtebbdifhiihfkaaGreatDoorMh26
import Derived.Test.YtebbdifhiihfkaaGreatDoorMh01
import Derived.Test.YtebbdifhiihfkaaGreatDoorMh32
import Derived.StillTailTactics
namespace Go.Proofs.YtebbdifhiihfkaaGreatDoor
set_option linter.all false
/-- How far it has come, what came out, its error. -/
structure RS where
 p:Nat
 out:List UInt8
 e:Int
def RS.fail (s:RS) (e:Int):RS:=if s.e=0 then ⟨s.p,s.out,e⟩ else s
def getP (bs:List UInt8) (s:RS) (m:Nat):Nat × RS:=if s.e=0 then (if s.p+m≤8 * bs.length then (getV bs s.p m,⟨s.p+m,s.out,0⟩) else (0,⟨s.p,s.out,2⟩)) else (0,s)
def nextP (bs:List UInt8) (ls:List Int) (s:RS):Int × RS:=if s.e=0 then ((nx ls bs 15 1 0 s.p).1,⟨(nx ls bs 15 1 0 s.p).2.2,s.out,(nx ls bs 15 1 0 s.p).2.1⟩) else (0,s)
def givesP (most:Int) (s:RS) (x:UInt8):RS:=if most≤(s.out.length:Int) then s.fail 10 else ⟨s.p,s.out ++ [x],s.e⟩
def plnF (bs:List UInt8) (most:Int):Nat→RS→RS
 | 0,s=>s
 | k+1,s=>if s.e=0 then (if (getP bs s 8).2.e=0 then plnF bs most k (givesP most (getP bs s 8).2 (UInt8.ofNat (getP bs s 8).1)) else (getP bs s 8).2) else s
def cpyF (most:Int) (dist:Nat):Nat→RS→RS
 | 0,s=>s
 | k+1,s=>if s.e=0 then cpyF most dist k (givesP most s (s.out.getD (s.out.length - dist) 0)) else s
def copiesP (most:Int) (s:RS) (len dist:Nat):RS:=cpyF most dist len (if s.out.length < dist then s.fail 1 else s)
/-- A stored block. -/
def pl0 (s:RS):RS:=⟨8 * ((s.p+7) / 8),s.out,s.e⟩
def pl2 (bs:List UInt8) (s:RS):RS:=(getP bs (getP bs (pl0 s) 16).2 16).2
def pl3 (bs:List UInt8) (s:RS):RS:=if (pl2 bs s).e=0∧¬ (getP bs (pl0 s) 16).1+(getP bs (getP bs (pl0 s) 16).2 16).1=65535 then (pl2 bs s).fail 4 else pl2 bs s
def plainP (bs:List UInt8) (most:Int) (s:RS):RS:=plnF bs most (getP bs (pl0 s) 16).1 (pl3 bs s)
theorem plnF_err {bs:List UInt8} {most:Int} {k:Nat} {s:RS} (h:¬ s.e=0):plnF bs most k s=s:=by
 cases k with
 | zero=>rfl
 | succ k=>exact if_neg h
theorem cpyF_err {most:Int} {dist k:Nat} {s:RS} (h:¬ s.e=0):cpyF most dist k s=s:=by
 cases k with
 | zero=>rfl
 | succ k=>exact if_neg h
theorem getP_lt (bs:List UInt8) (s:RS) {m:Nat} (hm:m≤24):(getP bs s m).1 < 2 ^ m:=by
 unfold getP
 split
 ·split
  ·exact getV_lt bs s.p m
  ·exact Nat.two_pow_pos m
 ·exact Nat.two_pow_pos m
theorem nx_val (ls:List Int) (bs:List UInt8):∀ f t v P,∃ p:Nat,(nx ls bs f t v P).1=(p:Int)∧(p=0∨p < ls.length)∧(¬ (nx ls bs f t v P).2.1=0→p=0)
 | 0,t,v,P=>⟨0,rfl,.inl rfl,fun _=>rfl⟩
 | f+1,t,v,P=>by
  rw [nx]
  split
  ·exact ⟨0,rfl,.inl rfl,fun _=>rfl⟩
  ·split
   ·rename_i p hp
    refine ⟨p,rfl,.inr ?_,fun h=>absurd rfl h⟩
    have:=List.mem_of_find?_eq_some hp
    exact List.mem_range.1 this
   ·exact nx_val ls bs f (t+1) (v * 2+bitAt bs P) (P+1)
theorem nextP_val (bs:List UInt8) (ls:List Int) (s:RS):∃ p:Nat,(nextP bs ls s).1=(p:Int)∧(p=0∨p < ls.length)∧(¬ (nextP bs ls s).2.e=0→p=0):=by
 unfold nextP
 split
 ·exact nx_val ls bs 15 1 0 s.p
 ·exact ⟨0,rfl,.inl rfl,fun _=>rfl⟩
/-- What stands behind a length: a distance, what came out copied. -/
def cpB (bs:List UInt8) (most:Int) (s:RS) (len:Nat):Option (List Int)→RS
 | none=>s.fail 1
 | some ds =>
  if (nextP bs ds s).2.e=0∧30≤(nextP bs ds s).1 then (nextP bs ds s).2.fail 4
  else copiesP most (getP bs (nextP bs ds s).2 (distOf (nextP bs ds s).1.toNat).2).2 len ((distOf (nextP bs ds s).1.toNat).1+(getP bs (nextP bs ds s).2 (distOf (nextP bs ds s).1.toNat).2).1)
/-- What stands behind a length's symbol. -/
def copyP (bs:List UInt8) (most:Int) (s:RS) (q:Nat) (dl:Option (List Int)):RS :=
 if 286≤q then s.fail 4
 else if (getP bs s (lenOf (q - 257)).2).2.e=0 then cpB bs most (getP bs s (lenOf (q - 257)).2).2 ((lenOf (q - 257)).1+(getP bs s (lenOf (q - 257)).2).1) dl
 else (getP bs s (lenOf (q - 257)).2).2
theorem fail_out (s:RS) (e:Int):(s.fail e).out=s.out:=by unfold RS.fail;split <;> rfl
theorem getP_out (bs:List UInt8) (s:RS) (m:Nat):(getP bs s m).2.out=s.out:=by
 unfold getP
 split
 ·split <;> rfl
 ·rfl
theorem nextP_out (bs:List UInt8) (ls:List Int) (s:RS):(nextP bs ls s).2.out=s.out:=by
 unfold nextP
 split <;> rfl
theorem givesP_le {most:Int} {s:RS} {x:UInt8} (h:(s.out.length:Int)≤most):((givesP most s x).out.length:Int)≤most:=by
 unfold givesP
 split
 ·rw [fail_out];exact h
 ·rw [List.length_append]
  show ((s.out.length+1:Nat):Int)≤most
  omega
theorem cpyF_le {most:Int} {dist:Nat}:∀ (k:Nat) {s:RS},(s.out.length:Int)≤most→((cpyF most dist k s).out.length:Int)≤most
 | 0,s,h=>h
 | k+1,s,h=>by
  unfold cpyF
  split
  ·exact cpyF_le k (givesP_le h)
  ·exact h
theorem plnF_le {bs:List UInt8} {most:Int}:∀ (k:Nat) {s:RS},(s.out.length:Int)≤most→((plnF bs most k s).out.length:Int)≤most
 | 0,s,h=>h
 | k+1,s,h=>by
  unfold plnF
  split
  ·split
   ·exact plnF_le k (givesP_le (by rw [getP_out];exact h))
   ·rw [getP_out];exact h
  ·exact h
theorem copiesP_le {most:Int} {s:RS} {len dist:Nat} (h:(s.out.length:Int)≤most):((copiesP most s len dist).out.length:Int)≤most:=by
 unfold copiesP
 refine cpyF_le len ?_
 split
 ·rw [fail_out];exact h
 ·exact h
theorem cpB_le {bs:List UInt8} {most:Int} {s:RS} {len:Nat} {dl:Option (List Int)} (h:(s.out.length:Int)≤most):((cpB bs most s len dl).out.length:Int)≤most:=by
 cases dl with
 | none =>
  show ((s.fail 1).out.length:Int)≤most
  rw [fail_out];exact h
 | some ds =>
  rw [cpB]
  split
  ·rw [fail_out,nextP_out];exact h
  ·exact copiesP_le (by rw [getP_out,nextP_out];exact h)
theorem copyP_le {bs:List UInt8} {most:Int} {s:RS} {q:Nat} {dl:Option (List Int)} (h:(s.out.length:Int)≤most):((copyP bs most s q dl).out.length:Int)≤most:=by
 unfold copyP
 split
 ·rw [fail_out];exact h
 ·split
  ·exact cpB_le (by rw [getP_out];exact h)
  ·rw [getP_out];exact h
theorem plainP_le {bs:List UInt8} {most:Int} {s:RS} (h:(s.out.length:Int)≤most):((plainP bs most s).out.length:Int)≤most:=by
 have e2:(pl2 bs s).out=s.out:=by unfold pl2;rw [getP_out,getP_out];rfl
 refine plnF_le _ ?_
 unfold pl3
 split
 ·rw [fail_out,e2];exact h
 ·rw [e2];exact h
/-- Tokens up to the end. -/
def toksF (bs:List UInt8) (most:Int) (ll:List Int) (dl:Option (List Int)):Nat→RS→RS
 | 0,s=>s
 | f+1,s =>
  if s.e=0 then
   if (nextP bs ll s).2.e=0 then
    if (nextP bs ll s).1=256 then (nextP bs ll s).2
    else if (nextP bs ll s).1 < 256 then toksF bs most ll dl f (givesP most (nextP bs ll s).2 (UInt8.ofNat (nextP bs ll s).1.toNat))
    else toksF bs most ll dl f (copyP bs most (nextP bs ll s).2 (nextP bs ll s).1.toNat dl)
   else (nextP bs ll s).2
  else s
theorem toksF_err {bs:List UInt8} {most:Int} {ll:List Int} {dl:Option (List Int)} {f:Nat} {s:RS} (h:¬ s.e=0):toksF bs most ll dl f s=s:=by
 cases f with
 | zero=>rfl
 | succ f=>exact if_neg h
/-- A code is good. -/
def OkL (ls:List Int):Prop:=badL ls=false∧krN ls≤32768∧ls.length≤300
theorem fail_p (s:RS) (e:Int):(s.fail e).p=s.p:=by unfold RS.fail;split <;> rfl
theorem getP_p (bs:List UInt8) (s:RS) (m:Nat):s.p≤(getP bs s m).2.p:=by
 unfold getP
 split
 ·split
  ·exact Nat.le_add_right _ _
  ·exact Nat.le_refl _
 ·exact Nat.le_refl _
theorem givesP_p (most:Int) (s:RS) (x:UInt8):(givesP most s x).p=s.p:=by
 unfold givesP
 split
 ·exact fail_p s 10
 ·rfl
theorem cpyF_p (most:Int) (dist:Nat):∀ (k:Nat) (s:RS),(cpyF most dist k s).p=s.p
 | 0,s=>rfl
 | k+1,s=>by
  unfold cpyF
  split
  ·rw [cpyF_p,givesP_p]
  ·rfl
theorem copiesP_p (most:Int) (s:RS) (len dist:Nat):(copiesP most s len dist).p=s.p:=by
 unfold copiesP
 rw [cpyF_p]
 split
 ·exact fail_p s 1
 ·rfl
theorem nx_step (ls:List Int) (bs:List UInt8):∀ f t v P,(nx ls bs f t v P).2.1=0→P < (nx ls bs f t v P).2.2
 | 0,t,v,P,h=>absurd (show (4:Int)=0 from h) (by decide)
 | f+1,t,v,P,h=>by
  rw [nx] at h ⊢
  split at h
  ·exact absurd (show (2:Int)=0 from h) (by decide)
  ·rename_i h2
   rw [if_neg h2]
   split at h
   ·exact Nat.lt_succ_self P
   ·have:=nx_step ls bs f (t+1) (v * 2+bitAt bs P) (P+1) h
    omega
theorem nextP_p {bs:List UInt8} {ls:List Int} {s:RS} (h:s.e=0) (h2:(nextP bs ls s).2.e=0):s.p < (nextP bs ls s).2.p:=by
 unfold nextP at h2 ⊢
 rw [if_pos h] at h2 ⊢
 exact nx_step ls bs 15 1 0 s.p h2
theorem nextP_pp (bs:List UInt8) (ls:List Int) (s:RS) (hs:s.p≤8 * bs.length):s.p≤(nextP bs ls s).2.p:=by
 unfold nextP
 split
 ·have key:∀ f t v P,P≤(nx ls bs f t v P).2.2:=fun f=>by
   induction f with
   | zero=>intro t v P;exact Nat.le_refl _
   | succ f ih =>
    intro t v P
    rw [nx]
    split
    ·exact Nat.le_refl _
    ·split
     ·exact Nat.le_succ P
     ·have:=ih (t+1) (v * 2+bitAt bs P) (P+1)
      omega
  exact key 15 1 0 s.p
 ·exact Nat.le_refl _
theorem getP_fit {bs:List UInt8} {s:RS} {m:Nat} (h:s.p≤8 * bs.length):(getP bs s m).2.p≤8 * bs.length:=by
 unfold getP
 split
 ·split
  ·rename_i h2;exact h2
  ·exact h
 ·exact h
theorem cpB_p {bs:List UInt8} {most:Int} {s:RS} {len:Nat} {dl:Option (List Int)} (h:s.p≤8 * bs.length):s.p≤(cpB bs most s len dl).p:=by
 cases dl with
 | none =>
  show s.p≤(s.fail 1).p
  rw [fail_p]
  exact Nat.le_refl _
 | some ds =>
  rw [cpB]
  have h1:=nextP_pp bs ds s h
  split
  ·rw [fail_p];exact h1
  ·rw [copiesP_p]
   exact Nat.le_trans h1 (getP_p bs _ _)
theorem copyP_p {bs:List UInt8} {most:Int} {s:RS} {q:Nat} {dl:Option (List Int)} (h:s.p≤8 * bs.length):s.p≤(copyP bs most s q dl).p:=by
 have h1:=getP_p bs s (lenOf (q - 257)).2
 unfold copyP
 split
 ·rw [fail_p];exact Nat.le_refl _
 ·split
  ·exact Nat.le_trans h1 (cpB_p (getP_fit h))
  ·exact h1
end Go.Proofs.YtebbdifhiihfkaaGreatDoor

/- flate: the reader of blocks, whatever comes: errors, bits, codes, bytes given out. -/
namespace Go.Proofs.YtebbdifhiihfkaaGreatDoor
set_option linter.all false
open Go.RowKit
def FS (w:World) (r g:Nat) (A:Option Addr) (n c:Nat) (bs:List UInt8) (most:Int) (vo:Value) (s:RS):Prop:=FR w r g A n c s.p bs vo s.out most s.e
/-- A decoder that is newer than the reader, and beside its row. -/
structure DK (w:World) (r g:Nat) (vo:Value) (gd:Nat) (ls:List Int):Prop where
 dec:DecG w gd gd ls
 hr:r < gd
 hg:g < gd
 ne:vo.ownBlock ≠ some gd
 row:∃ A c,Arr w gd (decL ls 16 (.slice A (allP ls 15).length c))∧ownI w (gd+1) (.slice A (allP ls 15).length c) (allP ls 15)∧Dis vo (.slice A (allP ls 15).length c)
section
variable {w w' : World} {r g gd : Nat} {vo vo' : Value} {ls : List Int}
theorem ownI.rfr {v:Value} {l:List Int} {base:Nat} (h:ownI w base v l) (hf:RFr w w' r g vo vo') (hr:r < base) (hg:g < base) (hd:Dis vo v):ownI w' base v l:=by
 have hb:∀ k,v.ownBlock=some k→w'.heap[k]?=w.heap[k]?:=fun k hk=>by
  have:=World.ownsRow.lt h k hk
  exact hf.block k this.2 (by omega) (by omega) (fun e=>hd k e hk)
 refine ⟨h.1,?_⟩
 rcases h.2 with hn | ⟨q,cap,cur,rfl,hbg,hq,rest⟩
 ·exact .inl hn
 ·exact .inr ⟨q,cap,cur,rfl,hbg,(hb q rfl).trans hq,rest⟩
theorem Dis.rfr2 {v:Value} (h:∀ k,v.ownBlock=some k→k < w.heap.size) (hf:RFr w w' r g vo vo') (hd:Dis vo v):Dis vo' v:=by
 intro k hk hv
 rcases hf.own with e | ⟨j,hj,e⟩
 ·exact hd k (e.symm.trans hk) hv
 ·rw [e] at hk
  injection hk with hk
  have:=h k hv
  omega
theorem DK.fr (h:DK w r g vo gd ls) (hf:RFr w w' r g vo vo'):DK w' r g vo' gd ls:=by
 obtain ⟨A,c,h1,h2,h3⟩:=h.row
 have hlt:=h1.lt
 have hr:=h.hr
 have hg:=h.hg
 have hA:Arr w' gd (decL ls 16 (.slice A (allP ls 15).length c)):=by
  obtain ⟨t,ht⟩:=h1
  exact ⟨t,(hf.block gd hlt (by omega) (by omega) h.ne).trans ht⟩
 have hO:=ownI.rfr h2 hf (by omega) (by omega) h3
 have hD:=Dis.rfr2 (fun k hk=>(World.ownsRow.lt h2 k hk).2) hf h3
 refine ⟨⟨A,c,hA,hO,Nat.le_refl _⟩,hr,hg,fun e=>?_,A,c,hA,hO,hD⟩
 rcases hf.own with e2 | ⟨j,hj,e2⟩
 ·exact h.ne (e2.symm.trans e)
 ·rw [e2] at e
  injection e with e
  omega
theorem DK.new {lo:Nat} (h:DecG w lo gd ls) (hr:r < lo) (hg:g < lo) (hv:∀ k,vo.ownBlock=some k→k < lo):DK w r g vo gd ls:=by
 obtain ⟨A,c,h1,h2,h3⟩:=h
 refine ⟨⟨A,c,h1,h2,Nat.le_refl _⟩,by omega,by omega,fun e=>?_,A,c,h1,h2,fun k hk hk2=>?_⟩
 ·have:=hv gd e
  omega
 ·have h4:=hv k hk
  have h5:=(World.ownsRow.lt h2 k hk2).1
  omega
end
theorem FR.sete {w:World} {r g:Nat} {A:Option Addr} {n c P:Nat} {bs:List UInt8} {vo:Value} {out:List UInt8} {most e:Int} (h:FR w r g A n c P bs vo out most e) (E:Int):FR (w.setCell ⟨r,3,none⟩ (.int .i64 E)) r g A n c P bs vo out most E:=by
 have hgr:=h.gr
 exact ⟨h.arr.set 3 (.int .i64 E),h.rd.far (p:=⟨r,3,none⟩) (by show r ≠ g;omega) _,h.rb.blw ((Below.refl g w).setCell (p:=⟨r,3,none⟩) (by show g≤r;omega) _),ownB.far h.own (g:=r) (ownB_ne h.own (Nat.lt_succ_self r)) 3 _,hgr,h.fit,h.big⟩
theorem nx_le (ls:List Int) (bs:List UInt8):∀ f t v P,P≤8 * bs.length→(nx ls bs f t v P).2.2≤8 * bs.length∧P≤(nx ls bs f t v P).2.2
 | 0,t,v,P,h=>⟨h,Nat.le_refl _⟩
 | f+1,t,v,P,h=>by
  rw [nx]
  split
  ·exact ⟨h,Nat.le_refl _⟩
  ·rename_i h2
   split
   ·exact ⟨by show P+1≤_;omega,by show P≤P+1;omega⟩
   ·have:=nx_le ls bs f (t+1) (v * 2+bitAt bs P) (P+1) (by omega)
    exact ⟨this.1,by omega⟩
section
variable (r g n c : Nat) (A : Option Addr) (bs : List UInt8) (most : Int) (vo : Value) (s : RS) (w : World)
set_option maxRecDepth 100000 in
theorem rfail_any (E:Int) (h:FS w r g A n c bs most vo s) :
  Calls Tryz.prog 105 #[.pointer (some ⟨r,0,none⟩),.int .i64 E] w fun e w'=>e=.returned (.tuple #[])∧FS w' r g A n c bs most vo (s.fail E)∧RFr w w' r g vo vo:=by
 obtain ⟨P,out,ee⟩:=s
 have h:FR w r g A n c P bs vo out most ee:=h
 have H:=Lib.hid h
 have c3:=h.arr.cell (k:=3) rfl
 have f3:=h.arr.frozen 3
 by_cases he:ee=0
 ·subst he
  have HS:=Lib.hid (h.sete E)
  have HF:=Lib.hid ((RFr.refl w r g vo).set1 3 (.int .i64 E))
  clear h
  go_enter Tryz.func105,Tryz.ntmps105
  go_wp2_with fail
  (try simp only [Exit.inBlock,Exit.then])
  first | (refine bodyPost_ret (results_none rfl _ _ _) rfl ?_) | (refine bodyPost_end (results_none rfl _ _ _) rfl ?_)
  exact ⟨rfl,HS.out,HF.out⟩
 ·have d1:(ee == 0)=false:=beq_eq_false_iff_ne.2 he
  have hs:RS.fail ⟨P,out,ee⟩ E=⟨P,out,ee⟩:=if_neg he
  rw [hs]
  clear h
  go_enter Tryz.func105,Tryz.ntmps105
  go_wp2_with fail
  (try simp only [Exit.inBlock,Exit.then])
  first | (refine bodyPost_ret (results_none rfl _ _ _) rfl ?_) | (refine bodyPost_end (results_none rfl _ _ _) rfl ?_)
  exact ⟨rfl,H.out,RFr.refl _ _ _ _⟩
set_option maxRecDepth 100000 in
set_option maxHeartbeats 1600000 in
theorem rget_any (m:Nat) (M:Int) (hM:M=(m:Int)) (h:FS w r g A n c bs most vo s) (hm:m≤24) :
  Calls Tryz.prog 101 #[.pointer (some ⟨r,0,none⟩),.int .i64 M] w fun e w'=>e=.returned (.int .i64 ((getP bs s m).1:Int))∧FS w' r g A n c bs most vo (getP bs s m).2∧RFr w w' r g vo vo:=by
 obtain ⟨P,out,ee⟩:=s
 have h:FR w r g A n c P bs vo out most ee:=h
 have hbl:=h.rb.len
 by_cases he:ee=0
 ·subst he
  by_cases hf:P+m≤8 * n
  ·have e1:getP bs ⟨P,out,0⟩ m=(getV bs P m,⟨P+m,out,0⟩):=by
    show (if (0:Int)=0 then (if P+m≤8 * bs.length then _ else _) else _)=_
    rw [if_pos rfl,if_pos (by rw [hbl];exact hf)]
   rw [e1]
   exact rget_ok r g n c P m A bs vo out most M hM w h hm hf
  ·have e1:getP bs ⟨P,out,0⟩ m=(0,⟨P,out,2⟩):=by
    show (if (0:Int)=0 then (if P+m≤8 * bs.length then _ else _) else _)=_
    rw [if_pos rfl,if_neg (by rw [hbl];exact hf)]
   rw [e1]
   subst hM
   have HG:=Lib.hid (get_short g n c P m A w h.rd (by have:=h.big;omega) h.fit hm (by omega))
   have H:=Lib.hid h
   have HFL:=Lib.hid (fun w' (h:FS w' r g A n c bs most vo ⟨P,out,0⟩)=>rfail_any r g n c A bs most vo ⟨P,out,0⟩ w' 2 h)
   have c0:=h.arr.cell (k:=0) rfl
   have c3:=h.arr.cell (k:=3) rfl
   clear h e1
   go_enter Tryz.func101,Tryz.ntmps101
   go_wp2_with (first
    | (go_at_call 126;(with_reducible refine HG.out.mono ?_);go_must (rintro e w1 ⟨rfl,hg1⟩;have hg2:=gb_none hg1 g;have HF1:=Lib.hid (show FS w1 r g A n c bs most vo ⟨P,out,0⟩ from H.out.moved (H.out.rd.gbN hg1) hg2 H.out.fit);have HF2:=Lib.hid (HFL.out w1 HF1.out);have HR1:=Lib.hid (RFr.ofG hg2 r vo);clear hg1 hg2))
    | (go_at_call 105;(with_reducible refine HF2.out.mono ?_);go_must (rintro e w2 ⟨rfl,hf2,hr2⟩;have HF3:=Lib.hid hf2;have HR2:=Lib.hid (HR1.out.trans hr2);clear hf2 hr2)))
   go_ret
   exact ⟨rfl,HF3.out,HR2.out⟩
 ·have d1:(ee != 0)=true:=by rw [bne_iff_ne];exact he
  have d2:(ee == 0)=false:=beq_eq_false_iff_ne.2 he
  have e1:getP bs ⟨P,out,ee⟩ m=(0,⟨P,out,ee⟩):=if_neg he
  rw [e1]
  have H:=Lib.hid h
  have c3:=h.arr.cell (k:=3) rfl
  clear h e1
  go_enter Tryz.func101,Tryz.ntmps101
  go_wp2_with fail
  go_ret
  exact ⟨rfl,H.out,RFr.refl _ _ _ _⟩
end
end Go.Proofs.YtebbdifhiihfkaaGreatDoor

/- flate: the reader of blocks, whatever comes: codes, bytes given out. -/
namespace Go.Proofs.YtebbdifhiihfkaaGreatDoor
set_option linter.all false
open Go.RowKit
section
variable (r g n c : Nat) (A : Option Addr) (bs : List UInt8) (most : Int) (vo : Value) (s : RS) (w : World)
set_option maxRecDepth 100000 in
set_option maxHeartbeats 1600000 in
theorem rnext_any (gd:Nat) (ls:List Int) (h:FS w r g A n c bs most vo s) (hd:DK w r g vo gd ls) (hbad:badL ls=false) (hkr:krN ls≤32768) (hl3:ls.length≤300) :
  Calls Tryz.prog 158 #[.pointer (some ⟨r,0,none⟩),.pointer (some ⟨gd,0,none⟩)] w fun e w'=>e=.returned (.int .i64 (nextP bs ls s).1)∧FS w' r g A n c bs most vo (nextP bs ls s).2∧RFr w w' r g vo vo:=by
 obtain ⟨P,out,ee⟩:=s
 have h:FR w r g A n c P bs vo out most ee:=h
 have hbl:=h.rb.len
 have H:=Lib.hid h
 have c0:=h.arr.cell (k:=0) rfl
 have c3:=h.arr.cell (k:=3) rfl
 by_cases he:ee=0
 ·subst he
  have HN:=Lib.hid (next_gen g n c gd g P A ls bs w gd hd.dec hd.hg h.rd h.rb (Nat.le_refl _) h.fit (by have:=h.big;omega) hbad hkr hl3)
  have e1:nextP bs ls ⟨P,out,0⟩=((nx ls bs 15 1 0 P).1,⟨(nx ls bs 15 1 0 P).2.2,out,(nx ls bs 15 1 0 P).2.1⟩):=if_pos rfl
  have hle:=(nx_le ls bs 15 1 0 P (by rw [hbl];exact h.fit)).1
  rw [hbl] at hle
  rw [e1]
  unfold NextPost at HN
  generalize (nx ls bs 15 1 0 P).1=v at *
  generalize (nx ls bs 15 1 0 P).2.2=Q at *
  generalize (nx ls bs 15 1 0 P).2.1=E at *
  clear h e1 hd
  by_cases hE:E=0
  ·subst hE
   go_enter Tryz.func158,Tryz.ntmps158
   go_wp2_with (go_at_call 179;(with_reducible refine HN.out.mono ?_);go_must (rintro e w1 ⟨rfl,ha1,hg1⟩;have HF1:=Lib.hid (H.out.moved ha1 hg1 hle);have HR1:=Lib.hid (RFr.ofG hg1 r vo);clear ha1 hg1))
   go_ret
   exact ⟨rfl,HF1.out,HR1.out⟩
  ·have d1:(E != 0)=true:=by rw [bne_iff_ne];exact hE
   have d2:(E == 0)=false:=beq_eq_false_iff_ne.2 hE
   have HFL:=Lib.hid (fun w' (h:FS w' r g A n c bs most vo ⟨Q,out,0⟩)=>rfail_any r g n c A bs most vo ⟨Q,out,0⟩ w' E h)
   go_enter Tryz.func158,Tryz.ntmps158
   go_wp2_with (first
    | (go_at_call 179;(with_reducible refine HN.out.mono ?_);go_must (rintro e w1 ⟨rfl,ha1,hg1⟩;have HF1:=Lib.hid (show FS w1 r g A n c bs most vo ⟨Q,out,0⟩ from H.out.moved ha1 hg1 hle);have HF2:=Lib.hid (HFL.out w1 HF1.out);have HR1:=Lib.hid (RFr.ofG hg1 r vo);clear ha1 hg1))
    | (go_at_call 105;(with_reducible refine HF2.out.mono ?_);go_must (rintro e w2 ⟨rfl,hf2,hr2⟩;have HF3:=Lib.hid hf2;have HR2:=Lib.hid (HR1.out.trans hr2);clear hf2 hr2)))
   go_ret
   exact ⟨rfl,HF3.out,HR2.out⟩
 ·have d1:(ee != 0)=true:=by rw [bne_iff_ne];exact he
  have d2:(ee == 0)=false:=beq_eq_false_iff_ne.2 he
  have e1:nextP bs ls ⟨P,out,ee⟩=(0,⟨P,out,ee⟩):=if_neg he
  rw [e1]
  clear h e1 hd
  go_enter Tryz.func158,Tryz.ntmps158
  go_wp2_with fail
  go_ret
  exact ⟨rfl,H.out,RFr.refl _ _ _ _⟩
set_option maxRecDepth 100000 in
set_option maxHeartbeats 1600000 in
theorem rgives_any (x:UInt8) (h:FS w r g A n c bs most vo s) (hm:most≤1000000) :
  Calls Tryz.prog 128 #[.pointer (some ⟨r,0,none⟩),.int .u8 (x.toNat:Int)] w fun e w'=>e=.returned (.tuple #[])∧∃ vo',FS w' r g A n c bs most vo' (givesP most s x)∧RFr w w' r g vo vo':=by
 obtain ⟨P,out,ee⟩:=s
 have h:FR w r g A n c P bs vo out most ee:=h
 obtain ⟨Ap,cp,rfl,-,-,-⟩:=h.own.form
 have H:=Lib.hid h
 have HD:=Lib.hid (fun q=>h.drewN q)
 have c1:=h.arr.cell (k:=1) rfl
 have c2:=h.arr.cell (k:=2) rfl
 have hrw:=h.arr.lt
 by_cases hlt:most≤(out.length:Int)
 ·have e1:givesP most ⟨P,out,ee⟩ x=RS.fail ⟨P,out,ee⟩ 10:=if_pos hlt
  have HFL:=Lib.hid (fun w' (h:FS w' r g A n c bs most (.slice Ap out.length cp) ⟨P,out,ee⟩)=>rfail_any r g n c A bs most (.slice Ap out.length cp) ⟨P,out,ee⟩ w' 10 h)
  rw [e1]
  clear h e1
  go_enter Tryz.func128,Tryz.ntmps128
  go_wp2_with fail
  go_quiet (fail)
  have HF2:=Lib.hid (HFL.out _ (HD.out nq))
  go_wp2_with (go_at_call 105;(with_reducible refine HF2.out.mono ?_);go_must (rintro e w2 ⟨rfl,hf2,hr2⟩;have HF3:=Lib.hid hf2;have HR2:=Lib.hid (RFr.drew0 hr2);clear hf2 hr2))
  (try simp only [Exit.inBlock,Exit.then])
  first | (refine bodyPost_ret (results_none rfl _ _ _) rfl ?_) | (refine bodyPost_end (results_none rfl _ _ _) rfl ?_)
  exact ⟨rfl,_,HF3.out,HR2.out⟩
 ·have e1:givesP most ⟨P,out,ee⟩ x=⟨P,out ++ [x],ee⟩:=if_neg hlt
  rw [e1]
  have hlt1:decide ((out.length:Int) ≥ most)=false:=decide_eq_false (by omega)
  have HLN:Hid ((out ++ [x]).length=out.length+1):=(show _=_ by simp)
  clear h e1
  go_enter Tryz.func128,Tryz.ntmps128
  go_wp2_with fail
  go_quiet (fail)
  go_wp2_with (at_builtin;go_must (refine wpList_appendB rfl (.tmp 20) (.tmp 22) rfl (r+1) _ out rfl (ownB.alloc (HD.out nq).own _) ((w.drewN nq).heap.size+1) 1 1 (some ⟨(w.drewN nq).heap.size,0,none⟩) [x] rfl (rd_one (w.drewN nq) (x.toNat:Int) x rfl) (by omega) (by rw [World.size_alloc];show r+1≤w.heap.size+1;omega) ?_;intro v1 w3 hown hgb hbl hat;obtain ⟨A3,c3,rfl,hr3,-,-⟩:=hown.form;clear hr3;have HF3:=Lib.hid (show RFr w w3 r g (.slice Ap out.length cp) (.slice A3 (out ++ [x]).length c3) from RFr.drew0 (RFr.grown (r:=r) (g:=g) _ hgb hat));rw [show (out ++ [x]).length=out.length+1 by simp] at hown HF3 ⊢;have HA3:=Lib.hid (((HD.out nq).arr.alloc (.cells #[Value.int .u8 (x.toNat:Int)] 5)).blw hbl (Nat.lt_succ_self r));have HG3:=Lib.hid (((HD.out nq).rd.alloc (.cells #[Value.int .u8 (x.toNat:Int)] 5)).blw hbl (by have:=H.out.gr;omega));have HB3:=Lib.hid (RdB.blw (Rd.alloc (HD.out nq).rb (by show g≤w.heap.size;have:=H.out.gr;omega) (.cells #[Value.int .u8 (x.toNat:Int)] 5)) (hbl.mono (by have:=H.out.gr;omega)));have HO3:=Lib.hid hown;have c31:=HA3.out.cell (k:=1) rfl;have f31:=HA3.out.frozen 1;clear hown hbl hat hgb))
  (try simp only [Exit.inBlock,Exit.then])
  first | (refine bodyPost_ret (results_none rfl _ _ _) rfl ?_) | (refine bodyPost_end (results_none rfl _ _ _) rfl ?_)
  refine ⟨rfl,_,⟨HA3.out.set 1 _,HG3.out.far (p:=⟨r,1,none⟩) (by show r ≠ g;have:=H.out.gr;omega) _,HB3.out.blw ((Below.refl g w3).setCell (p:=⟨r,1,none⟩) (by show g≤r;have:=H.out.gr;omega) _),ownB.far HO3.out (g:=r) (ownB_ne HO3.out (Nat.lt_succ_self r)) 1 _,H.out.gr,H.out.fit,H.out.big⟩,HF3.out.set1 1 _⟩
end
end Go.Proofs.YtebbdifhiihfkaaGreatDoor

/- flate: the reader of blocks, whatever comes: a stored block; what came out, copied. -/
namespace Go.Proofs.YtebbdifhiihfkaaGreatDoor
set_option linter.all false
open Go.RowKit
section
variable (r g n c : Nat) (A : Option Addr) (bs : List UInt8) (most : Int) (vo : Value) (s : RS) (w : World)
set_option maxRecDepth 100000 in
set_option maxHeartbeats 3200000 in
theorem rplain_any (h:FS w r g A n c bs most vo s) (hm:most≤1000000) :
  Calls Tryz.prog 102 #[.pointer (some ⟨r,0,none⟩)] w fun e w'=>e=.returned (.tuple #[])∧∃ vo',FS w' r g A n c bs most vo' (plainP bs most s)∧RFr w w' r g vo vo':=by
 have H:=Lib.hid h
 have hfr:FR w r g A n c s.p bs vo s.out most s.e:=h
 have c0:=hfr.arr.cell (k:=0) rfl
 have HAL:=Lib.hid (alignR_any g n c s.p A w hfr.rd (by have:=hfr.fit;have:=hfr.big;omega))
 have HFA:Hid (∀ w1,Arr w1 g (rdr A n c (8 * ((s.p+7) / 8)))→w.grownBy w1 (some g)→FS w1 r g A n c bs most vo (pl0 s)):=(show ∀ w1,_ from fun w1 ha hg=>hfr.moved ha hg (by show 8 * ((s.p+7) / 8)≤8 * n;have:=hfr.fit;omega))
 have HG1:=Lib.hid (fun w1 (h:FS w1 r g A n c bs most vo (pl0 s))=>rget_any r g n c A bs most vo (pl0 s) w1 16 16 rfl h (by omega))
 have HG2:=Lib.hid (fun w1 (h:FS w1 r g A n c bs most vo (getP bs (pl0 s) 16).2)=>rget_any r g n c A bs most vo (getP bs (pl0 s) 16).2 w1 16 16 rfl h (by omega))
 have l1:=getP_lt bs (pl0 s) (m:=16) (by omega)
 have l2:=getP_lt bs (getP bs (pl0 s) 16).2 (m:=16) (by omega)
 have HP3:Hid (pl3 bs s=if (pl2 bs s).e=0∧¬ (getP bs (pl0 s) 16).1+(getP bs (getP bs (pl0 s) 16).2 16).1=65535 then (pl2 bs s).fail 4 else pl2 bs s):=(show _=_ from rfl)
 have HPP:Hid (plainP bs most s=plnF bs most (getP bs (pl0 s) 16).1 (pl3 bs s)):=(show _=_ from rfl)
 have e2:(getP bs (getP bs (pl0 s) 16).2 16).2=pl2 bs s:=rfl
 rw [e2] at HG2
 generalize pl2 bs s=s2 at *
 generalize pl3 bs s=s3 at *
 generalize (getP bs (getP bs (pl0 s) 16).2 16).1=M at *
 generalize (getP bs (pl0 s) 16).2=s1 at *
 generalize (getP bs (pl0 s) 16).1=N at *
 generalize pl0 s=s0 at *
 generalize plainP bs most s=R at *
 clear h hfr e2
 have l1:N < 65536:=l1
 have l2:M < 65536:=l2
 have HFL:=Lib.hid (fun w' (h:FS w' r g A n c bs most vo s2)=>rfail_any r g n c A bs most vo s2 w' 4 h)
 have HS:Hid (∀ w2,FS w2 r g A n c bs most vo s2→w2.cell? ⟨r,3,none⟩=some (.int .i64 s2.e)):=(show ∀ w2,_ from fun w2 h=>FR.arr h |>.cell (k:=3) rfl)
 have HLOOP:Hid (plnF bs most (N - 0) s3=R):=(show _=_ by rw [HPP.out];rfl)
 go_enter Tryz.func102,Tryz.ntmps102
 by_cases he2:s2.e=0
 ·have d2:(s2.e == 0)=true:=by rw [he2];rfl
  by_cases hnm:N+M=65535
  ·have hnmi:(N:Int)+(M:Int)=65535:=by omega
   rw [if_neg (fun h=>h.2 hnm)] at HP3
   rw [HP3.out] at HLOOP
   go_wp2_with (first
   | (go_at_call 127;(with_reducible refine HAL.out.mono ?_);go_must (rintro e w1 ⟨rfl,ha1,hg1⟩;have HF1:=Lib.hid (HFA.out w1 ha1 hg1);have HG11:=Lib.hid (HG1.out w1 HF1.out);have HR1:=Lib.hid (RFr.ofG hg1 r vo);clear ha1 hg1))
   | (go_at_call 101;(with_reducible refine HG11.out.mono ?_);go_must (rintro e w2 ⟨rfl,hf2,hr2⟩;have HG22:=Lib.hid (HG2.out w2 hf2);have HR2:=Lib.hid (HR1.out.trans hr2);clear hf2 hr2 HG11))
   | (go_at_call 101;(with_reducible refine HG22.out.mono ?_);go_must (rintro e w3 ⟨rfl,hf3,hr3⟩;have e33:=HS.out w3 hf3;have HF3:=Lib.hid hf3;have HR3:=Lib.hid (HR2.out.trans hr3);have HFL3:=Lib.hid (HFL.out w3 hf3);clear hf3 hr3 HG22)))
   go_loopw [4] (fun vi wr=>∃ (i:Nat) (cur:RS) (vq:Value),i≤N∧vi=.int .i64 i∧Hid (FS wr r g A n c bs most vq cur)∧Hid (RFr w wr r g vo vq)∧Hid (plnF bs most (N - i) cur=R)) (fun vi _=>N - (intOf vi).toNat)
   case atStart=>exact ⟨0,_,vo,Nat.zero_le _,rfl,HF3,HR3,HLOOP⟩
   case round =>
    clear HAL HFA HG1 HG2 HFL HS HLOOP HF3 HR3
    obtain ⟨i,cur,vq,hi,rfl,HF,HR,HL⟩:=hrel
    have e3:=(FR.arr HF.out).cell (k:=3) rfl
    by_cases hlt:i < N
    ·have hlti:(i:Int) < (N:Int):=by omega
     by_cases he:cur.e=0
     ·have d1:(cur.e == 0)=true:=by rw [he];rfl
      have HGT:=Lib.hid (rget_any r g n c A bs most vq cur wr 8 8 rfl HF.out (by omega))
      have hv:=getP_lt bs cur (m:=8) (by omega)
      have HSTEP:Hid (plnF bs most (N - i) cur=if (getP bs cur 8).2.e=0 then plnF bs most (N - (i+1)) (givesP most (getP bs cur 8).2 (UInt8.ofNat (getP bs cur 8).1)) else (getP bs cur 8).2):=(show _=_ by rw [show N - i=(N - (i+1))+1 by omega];exact if_pos he)
      obtain ⟨x,hx⟩:∃ x:UInt8,(getP bs cur 8).1=x.toNat:=⟨UInt8.ofNat (getP bs cur 8).1,by rw [UInt8.toNat_ofNat'];exact (Nat.mod_eq_of_lt (by omega)).symm⟩
      rw [hx] at HGT
      have hxo:UInt8.ofNat (getP bs cur 8).1=x:=by rw [hx];simp
      rw [hxo,HL.out] at HSTEP
      have x8:=x.toNat_lt
      clear hx hxo hv
      generalize (getP bs cur 8).2=t1 at *
      by_cases ht:t1.e=0
      ·have d2:(t1.e == 0)=true:=by rw [ht];rfl
       rw [if_pos ht] at HSTEP
       have HGV:=Lib.hid (fun w5 (h:FS w5 r g A n c bs most vq t1)=>rgives_any r g n c A bs most vq t1 w5 x h hm)
       go_wp2_with (first
        | (go_at_call 101;(with_reducible refine HGT.out.mono ?_);go_must (rintro e w5 ⟨rfl,hf5,hr5⟩;have e53:=(FR.arr hf5).cell (k:=3) rfl;have HGV5:=Lib.hid (HGV.out w5 hf5);have HR5:=Lib.hid (HR.out.trans hr5);clear hf5 hr5))
        | (go_at_call 128;(with_reducible refine HGV5.out.mono ?_);go_must (rintro e w6 ⟨rfl,v6,hf6,hr6⟩;have HF6:=Lib.hid hf6;have HR6:=Lib.hid (HR5.out.trans hr6);clear hf6 hr6)))
       go_roundw
       case rel=>exact ⟨i+1,_,v6,by omega,by go_num,HF6,HR6,HSTEP.out.symm⟩
       case measure=>simp [intOf];omega
      ·have d2:(t1.e == 0)=false:=beq_eq_false_iff_ne.2 ht
       rw [if_neg ht] at HSTEP
       have HE:Hid (plnF bs most (N - (i+1)) t1=R):=(show _=_ by rw [plnF_err ht,HSTEP.out])
       go_wp2_with (go_at_call 101;(with_reducible refine HGT.out.mono ?_);go_must (rintro e w5 ⟨rfl,hf5,hr5⟩;have e53:=(FR.arr hf5).cell (k:=3) rfl;have HF5:=Lib.hid hf5;have HR5:=Lib.hid (HR.out.trans hr5);clear hf5 hr5))
       go_roundw
       case rel=>exact ⟨i+1,t1,vq,by omega,by go_num,HF5,HR5,HE⟩
       case measure=>simp [intOf];omega
     ·have d1:(cur.e == 0)=false:=beq_eq_false_iff_ne.2 he
      have HE:Hid (cur=R):=(show _=_ by rw [← HL.out,plnF_err he])
      go_wp2_with fail
      (try simp only [Exit.inBlock,Exit.then])
      first | (refine bodyPost_ret (results_none rfl _ _ _) rfl ?_) | (refine bodyPost_end (results_none rfl _ _ _) rfl ?_)
      exact ⟨rfl,vq,by rw [← HE.out];exact HF.out,HR.out⟩
    ·obtain rfl:i=N:=by omega
     have hlti:¬ (i:Int) < (i:Int):=by omega
     have HE:Hid (cur=R):=(show _=_ by rw [← HL.out,Nat.sub_self];rfl)
     go_wp2_with fail
     (try simp only [Exit.inBlock,Exit.then])
     first | (refine bodyPost_ret (results_none rfl _ _ _) rfl ?_) | (refine bodyPost_end (results_none rfl _ _ _) rfl ?_)
     exact ⟨rfl,vq,by rw [← HE.out];exact HF.out,HR.out⟩
  ·have d3:((N:Int)+(M:Int) != 65535)=true:=by rw [bne_iff_ne];omega
   rw [if_pos ⟨he2,hnm⟩] at HP3
   rw [HP3.out] at HLOOP
   go_wp2_with (first
   | (go_at_call 127;(with_reducible refine HAL.out.mono ?_);go_must (rintro e w1 ⟨rfl,ha1,hg1⟩;have HF1:=Lib.hid (HFA.out w1 ha1 hg1);have HG11:=Lib.hid (HG1.out w1 HF1.out);have HR1:=Lib.hid (RFr.ofG hg1 r vo);clear ha1 hg1))
   | (go_at_call 101;(with_reducible refine HG11.out.mono ?_);go_must (rintro e w2 ⟨rfl,hf2,hr2⟩;have HG22:=Lib.hid (HG2.out w2 hf2);have HR2:=Lib.hid (HR1.out.trans hr2);clear hf2 hr2 HG11))
   | (go_at_call 101;(with_reducible refine HG22.out.mono ?_);go_must (rintro e w3 ⟨rfl,hf3,hr3⟩;have e33:=HS.out w3 hf3;have HF3:=Lib.hid hf3;have HR3:=Lib.hid (HR2.out.trans hr3);have HFL3:=Lib.hid (HFL.out w3 hf3);clear hf3 hr3 HG22))
   | (go_at_call 105;(with_reducible refine HFL3.out.mono ?_);go_must (rintro e w4 ⟨rfl,hf4,hr4⟩;have HF4:=Lib.hid hf4;have HR4:=Lib.hid (HR3.out.trans hr4);clear hf4 hr4)))
   go_loopw [4] (fun vi wr=>∃ (i:Nat) (cur:RS) (vq:Value),i≤N∧vi=.int .i64 i∧Hid (FS wr r g A n c bs most vq cur)∧Hid (RFr w wr r g vo vq)∧Hid (plnF bs most (N - i) cur=R)) (fun vi _=>N - (intOf vi).toNat)
   case atStart=>exact ⟨0,_,vo,Nat.zero_le _,rfl,HF4,HR4,HLOOP⟩
   case round =>
    clear HAL HFA HG1 HG2 HFL HS HLOOP HF4 HR4
    obtain ⟨i,cur,vq,hi,rfl,HF,HR,HL⟩:=hrel
    have e3:=(FR.arr HF.out).cell (k:=3) rfl
    by_cases hlt:i < N
    ·have hlti:(i:Int) < (N:Int):=by omega
     by_cases he:cur.e=0
     ·have d1:(cur.e == 0)=true:=by rw [he];rfl
      have HGT:=Lib.hid (rget_any r g n c A bs most vq cur wr 8 8 rfl HF.out (by omega))
      have hv:=getP_lt bs cur (m:=8) (by omega)
      have HSTEP:Hid (plnF bs most (N - i) cur=if (getP bs cur 8).2.e=0 then plnF bs most (N - (i+1)) (givesP most (getP bs cur 8).2 (UInt8.ofNat (getP bs cur 8).1)) else (getP bs cur 8).2):=(show _=_ by rw [show N - i=(N - (i+1))+1 by omega];exact if_pos he)
      obtain ⟨x,hx⟩:∃ x:UInt8,(getP bs cur 8).1=x.toNat:=⟨UInt8.ofNat (getP bs cur 8).1,by rw [UInt8.toNat_ofNat'];exact (Nat.mod_eq_of_lt (by omega)).symm⟩
      rw [hx] at HGT
      have hxo:UInt8.ofNat (getP bs cur 8).1=x:=by rw [hx];simp
      rw [hxo,HL.out] at HSTEP
      have x8:=x.toNat_lt
      clear hx hxo hv
      generalize (getP bs cur 8).2=t1 at *
      by_cases ht:t1.e=0
      ·have d2:(t1.e == 0)=true:=by rw [ht];rfl
       rw [if_pos ht] at HSTEP
       have HGV:=Lib.hid (fun w5 (h:FS w5 r g A n c bs most vq t1)=>rgives_any r g n c A bs most vq t1 w5 x h hm)
       go_wp2_with (first
        | (go_at_call 101;(with_reducible refine HGT.out.mono ?_);go_must (rintro e w5 ⟨rfl,hf5,hr5⟩;have e53:=(FR.arr hf5).cell (k:=3) rfl;have HGV5:=Lib.hid (HGV.out w5 hf5);have HR5:=Lib.hid (HR.out.trans hr5);clear hf5 hr5))
        | (go_at_call 128;(with_reducible refine HGV5.out.mono ?_);go_must (rintro e w6 ⟨rfl,v6,hf6,hr6⟩;have HF6:=Lib.hid hf6;have HR6:=Lib.hid (HR5.out.trans hr6);clear hf6 hr6)))
       go_roundw
       case rel=>exact ⟨i+1,_,v6,by omega,by go_num,HF6,HR6,HSTEP.out.symm⟩
       case measure=>simp [intOf];omega
      ·have d2:(t1.e == 0)=false:=beq_eq_false_iff_ne.2 ht
       rw [if_neg ht] at HSTEP
       have HE:Hid (plnF bs most (N - (i+1)) t1=R):=(show _=_ by rw [plnF_err ht,HSTEP.out])
       go_wp2_with (go_at_call 101;(with_reducible refine HGT.out.mono ?_);go_must (rintro e w5 ⟨rfl,hf5,hr5⟩;have e53:=(FR.arr hf5).cell (k:=3) rfl;have HF5:=Lib.hid hf5;have HR5:=Lib.hid (HR.out.trans hr5);clear hf5 hr5))
       go_roundw
       case rel=>exact ⟨i+1,t1,vq,by omega,by go_num,HF5,HR5,HE⟩
       case measure=>simp [intOf];omega
     ·have d1:(cur.e == 0)=false:=beq_eq_false_iff_ne.2 he
      have HE:Hid (cur=R):=(show _=_ by rw [← HL.out,plnF_err he])
      go_wp2_with fail
      (try simp only [Exit.inBlock,Exit.then])
      first | (refine bodyPost_ret (results_none rfl _ _ _) rfl ?_) | (refine bodyPost_end (results_none rfl _ _ _) rfl ?_)
      exact ⟨rfl,vq,by rw [← HE.out];exact HF.out,HR.out⟩
    ·obtain rfl:i=N:=by omega
     have hlti:¬ (i:Int) < (i:Int):=by omega
     have HE:Hid (cur=R):=(show _=_ by rw [← HL.out,Nat.sub_self];rfl)
     go_wp2_with fail
     (try simp only [Exit.inBlock,Exit.then])
     first | (refine bodyPost_ret (results_none rfl _ _ _) rfl ?_) | (refine bodyPost_end (results_none rfl _ _ _) rfl ?_)
     exact ⟨rfl,vq,by rw [← HE.out];exact HF.out,HR.out⟩
 ·have d2:(s2.e == 0)=false:=beq_eq_false_iff_ne.2 he2
  rw [if_neg (fun h=>he2 h.1)] at HP3
  rw [HP3.out] at HLOOP
  go_wp2_with (first
   | (go_at_call 127;(with_reducible refine HAL.out.mono ?_);go_must (rintro e w1 ⟨rfl,ha1,hg1⟩;have HF1:=Lib.hid (HFA.out w1 ha1 hg1);have HG11:=Lib.hid (HG1.out w1 HF1.out);have HR1:=Lib.hid (RFr.ofG hg1 r vo);clear ha1 hg1))
   | (go_at_call 101;(with_reducible refine HG11.out.mono ?_);go_must (rintro e w2 ⟨rfl,hf2,hr2⟩;have HG22:=Lib.hid (HG2.out w2 hf2);have HR2:=Lib.hid (HR1.out.trans hr2);clear hf2 hr2 HG11))
   | (go_at_call 101;(with_reducible refine HG22.out.mono ?_);go_must (rintro e w3 ⟨rfl,hf3,hr3⟩;have e33:=HS.out w3 hf3;have HF3:=Lib.hid hf3;have HR3:=Lib.hid (HR2.out.trans hr3);have HFL3:=Lib.hid (HFL.out w3 hf3);clear hf3 hr3 HG22)))
  go_loopw [4] (fun vi wr=>∃ (i:Nat) (cur:RS) (vq:Value),i≤N∧vi=.int .i64 i∧Hid (FS wr r g A n c bs most vq cur)∧Hid (RFr w wr r g vo vq)∧Hid (plnF bs most (N - i) cur=R)) (fun vi _=>N - (intOf vi).toNat)
  case atStart=>exact ⟨0,_,vo,Nat.zero_le _,rfl,HF3,HR3,HLOOP⟩
  case round =>
   clear HAL HFA HG1 HG2 HFL HS HLOOP HF3 HR3
   obtain ⟨i,cur,vq,hi,rfl,HF,HR,HL⟩:=hrel
   have e3:=(FR.arr HF.out).cell (k:=3) rfl
   by_cases hlt:i < N
   ·have hlti:(i:Int) < (N:Int):=by omega
    by_cases he:cur.e=0
    ·have d1:(cur.e == 0)=true:=by rw [he];rfl
     have HGT:=Lib.hid (rget_any r g n c A bs most vq cur wr 8 8 rfl HF.out (by omega))
     have hv:=getP_lt bs cur (m:=8) (by omega)
     have HSTEP:Hid (plnF bs most (N - i) cur=if (getP bs cur 8).2.e=0 then plnF bs most (N - (i+1)) (givesP most (getP bs cur 8).2 (UInt8.ofNat (getP bs cur 8).1)) else (getP bs cur 8).2):=(show _=_ by rw [show N - i=(N - (i+1))+1 by omega];exact if_pos he)
     obtain ⟨x,hx⟩:∃ x:UInt8,(getP bs cur 8).1=x.toNat:=⟨UInt8.ofNat (getP bs cur 8).1,by rw [UInt8.toNat_ofNat'];exact (Nat.mod_eq_of_lt (by omega)).symm⟩
     rw [hx] at HGT
     have hxo:UInt8.ofNat (getP bs cur 8).1=x:=by rw [hx];simp
     rw [hxo,HL.out] at HSTEP
     have x8:=x.toNat_lt
     clear hx hxo hv
     generalize (getP bs cur 8).2=t1 at *
     by_cases ht:t1.e=0
     ·have d2:(t1.e == 0)=true:=by rw [ht];rfl
      rw [if_pos ht] at HSTEP
      have HGV:=Lib.hid (fun w5 (h:FS w5 r g A n c bs most vq t1)=>rgives_any r g n c A bs most vq t1 w5 x h hm)
      go_wp2_with (first
       | (go_at_call 101;(with_reducible refine HGT.out.mono ?_);go_must (rintro e w5 ⟨rfl,hf5,hr5⟩;have e53:=(FR.arr hf5).cell (k:=3) rfl;have HGV5:=Lib.hid (HGV.out w5 hf5);have HR5:=Lib.hid (HR.out.trans hr5);clear hf5 hr5))
       | (go_at_call 128;(with_reducible refine HGV5.out.mono ?_);go_must (rintro e w6 ⟨rfl,v6,hf6,hr6⟩;have HF6:=Lib.hid hf6;have HR6:=Lib.hid (HR5.out.trans hr6);clear hf6 hr6)))
      go_roundw
      case rel=>exact ⟨i+1,_,v6,by omega,by go_num,HF6,HR6,HSTEP.out.symm⟩
      case measure=>simp [intOf];omega
     ·have d2:(t1.e == 0)=false:=beq_eq_false_iff_ne.2 ht
      rw [if_neg ht] at HSTEP
      have HE:Hid (plnF bs most (N - (i+1)) t1=R):=(show _=_ by rw [plnF_err ht,HSTEP.out])
      go_wp2_with (go_at_call 101;(with_reducible refine HGT.out.mono ?_);go_must (rintro e w5 ⟨rfl,hf5,hr5⟩;have e53:=(FR.arr hf5).cell (k:=3) rfl;have HF5:=Lib.hid hf5;have HR5:=Lib.hid (HR.out.trans hr5);clear hf5 hr5))
      go_roundw
      case rel=>exact ⟨i+1,t1,vq,by omega,by go_num,HF5,HR5,HE⟩
      case measure=>simp [intOf];omega
    ·have d1:(cur.e == 0)=false:=beq_eq_false_iff_ne.2 he
     have HE:Hid (cur=R):=(show _=_ by rw [← HL.out,plnF_err he])
     go_wp2_with fail
     (try simp only [Exit.inBlock,Exit.then])
     first | (refine bodyPost_ret (results_none rfl _ _ _) rfl ?_) | (refine bodyPost_end (results_none rfl _ _ _) rfl ?_)
     exact ⟨rfl,vq,by rw [← HE.out];exact HF.out,HR.out⟩
   ·obtain rfl:i=N:=by omega
    have hlti:¬ (i:Int) < (i:Int):=by omega
    have HE:Hid (cur=R):=(show _=_ by rw [← HL.out,Nat.sub_self];rfl)
    go_wp2_with fail
    (try simp only [Exit.inBlock,Exit.then])
    first | (refine bodyPost_ret (results_none rfl _ _ _) rfl ?_) | (refine bodyPost_end (results_none rfl _ _ _) rfl ?_)
    exact ⟨rfl,vq,by rw [← HE.out];exact HF.out,HR.out⟩
end
end Go.Proofs.YtebbdifhiihfkaaGreatDoor

/- flate: the reader of blocks, whatever comes: what came out, copied. -/
namespace Go.Proofs.YtebbdifhiihfkaaGreatDoor
set_option linter.all false
open Go.RowKit
section
variable (r g n c : Nat) (A : Option Addr) (bs : List UInt8) (most : Int) (vo : Value) (s : RS) (w : World)
set_option maxRecDepth 100000 in
set_option maxHeartbeats 3200000 in
theorem rcopies_any (N dist:Nat) (h:FS w r g A n c bs most vo s) (hm:most≤1000000) (hd:1≤dist) (hd2:dist≤1000000) (hN:N≤1000000) (ho:s.out.length≤2000000) :
  Calls Tryz.prog 180 #[.pointer (some ⟨r,0,none⟩),.int .i64 (N:Int),.int .i64 (dist:Int)] w fun e w'=>e=.returned (.tuple #[])∧∃ vo',FS w' r g A n c bs most vo' (copiesP most s N dist)∧RFr w w' r g vo vo':=by
 have H:=Lib.hid h
 have hfr:FR w r g A n c s.p bs vo s.out most s.e:=h
 obtain ⟨Ap,cp,rfl,-,-,-⟩:=hfr.own.form
 have c1:=hfr.arr.cell (k:=1) rfl
 have c3:=hfr.arr.cell (k:=3) rfl
 have HFL:=Lib.hid (rfail_any r g n c A bs most (.slice Ap s.out.length cp) s w 1 h)
 obtain ⟨s1,hs1⟩:∃ s1,(if s.out.length < dist then s.fail 1 else s)=s1:=⟨_,rfl⟩
 have HINV:Hid (s1.e=0→dist≤s1.out.length):=(show _→_ from fun h0=>by
  rw [← hs1] at h0 ⊢
  split at h0
  ·rename_i hlt
   unfold RS.fail at h0
   split at h0
   ·exact absurd (show (1:Int)=0 from h0) (by decide)
   ·rename_i he
    exact absurd h0 he
  ·rename_i hlt
   rw [if_neg hlt]
   omega)
 have HR:Hid (cpyF most dist (N - 0) s1=copiesP most s N dist):=(show _=_ by unfold copiesP;rw [hs1];rfl)
 have HLE:Hid (s1.out.length≤2000000):=(show _≤_ by
  rw [← hs1]
  split
  ·unfold RS.fail;split <;> exact ho
  ·exact ho)
 generalize copiesP most s N dist=R at *
 clear h hfr
 go_enter Tryz.func180,Tryz.ntmps180
 by_cases he:s.e=0
 ·have d1:(s.e == 0)=true:=by rw [he];rfl
  by_cases hlt:s.out.length < dist
  ·have hlti:(s.out.length:Int) < (dist:Int):=by omega
   rw [if_pos hlt] at hs1
   subst hs1
   go_wp2_with (go_at_call 105;(with_reducible refine HFL.out.mono ?_);go_must (rintro e w4 ⟨rfl,hf4,hr4⟩;have HF4:=Lib.hid hf4;have HR4:=Lib.hid hr4;clear hf4 hr4))
   go_loopw [6] (fun vi wr=>∃ (i:Nat) (cur:RS) (vq:Value),i≤N∧vi=.int .i64 i∧Hid (FS wr r g A n c bs most vq cur)∧Hid (RFr w wr r g (.slice Ap s.out.length cp) vq)∧Hid (cpyF most dist (N - i) cur=R)∧Hid (cur.e=0→dist≤cur.out.length)∧Hid (cur.out.length≤2000000+i)) (fun vi _=>N - (intOf vi).toNat)
   case atStart=>exact ⟨0,_,_,Nat.zero_le _,rfl,HF4,HR4,HR,HINV,HLE⟩
   case round =>
    clear HR HINV HLE HFL HF4 HR4
    obtain ⟨i,cur,vq,hi,rfl,HF,HR,HL,HINV,HLE⟩:=hrel
    have e3:=(FR.arr HF.out).cell (k:=3) rfl
    by_cases hlt:i < N
    ·have hlti:(i:Int) < (N:Int):=by omega
     by_cases he:cur.e=0
     ·have d1:(cur.e == 0)=true:=by rw [he];rfl
      have hdl:=HINV.out he
      have hle:=HLE.out
      obtain ⟨Aq,cq,rfl,-,-,-⟩:=(FR.own HF.out).form
      obtain ⟨-,gq,rfl,-,hgq⟩:=ownB.pos (FR.own HF.out) (show 0 < cur.out.length by omega)
      have e1:=(FR.arr HF.out).cell (k:=1) rfl
      obtain ⟨D,hD⟩:∃ D,cur.out.length - dist=D:=⟨_,rfl⟩
      have hDl:D < cur.out.length:=by omega
      have ed:=ownB.cell (FR.own HF.out) rfl hDl
      have HSTEP:Hid (cpyF most dist (N - i) cur=cpyF most dist (N - (i+1)) (givesP most cur cur.out[D])):=(show _=_ by
       rw [show N - i=(N - (i+1))+1 by omega]
       have:cur.out.getD (cur.out.length - dist) 0=cur.out[D]:=by rw [hD,List.getD_eq_getElem?_getD,List.getElem?_eq_getElem hDl];rfl
       rw [← this]
       exact if_pos he)
      have HGV:=Lib.hid (rgives_any r g n c A bs most _ cur wr.drew cur.out[D] (show FS wr.drew r g A n c bs most _ cur from FR.drewN HF.out 1) hm)
      have HI2:Hid ((givesP most cur cur.out[D]).e=0→dist≤(givesP most cur cur.out[D]).out.length):=(show _→_ from fun h0=>by
       unfold givesP at h0 ⊢
       split at h0
       ·unfold RS.fail at h0
        rw [if_pos he] at h0
        exact absurd (show (10:Int)=0 from h0) (by decide)
       ·rename_i hh
        rw [if_neg hh,List.length_append]
        omega)
      have HL2:Hid ((givesP most cur cur.out[D]).out.length≤2000000+(i+1)):=(show _≤_ by
       unfold givesP
       split
       ·unfold RS.fail;split <;> exact Nat.le_succ_of_le hle
       ·rw [List.length_append];show _+1≤_;omega)
      rw [HL.out] at HSTEP
      generalize givesP most cur cur.out[D]=nxt at *
      generalize cur.out[D]=x at *
      obtain ⟨L,hL⟩:∃ L,cur.out.length=L:=⟨_,rfl⟩
      rw [hL] at e1 hDl hle hdl hD HGV HR
      have hDi:(L:Int) - (dist:Int)=(D:Int):=by omega
      have w1:IntKind.i64.wrap (D:Int)=(D:Int):=wrap_i64_lt D (by omega)
      have x8:=x.toNat_lt
      have hDi2:(D:Int) < (L:Int):=by omega
      clear hD hL HINV HLE
      go_wp2_with fail
      go_still_tail 14,(by kernel_rfl)
      go_wp2_with (go_at_call 128;(with_reducible refine HGV.out.mono ?_);go_must (rintro e w6 ⟨rfl,v6,hf6,hr6⟩;have HF6:=Lib.hid hf6;have HR6:=Lib.hid (HR.out.trans (RFr.drew0 (q:=1) hr6));clear hf6 hr6))
      go_roundw
      case rel=>exact ⟨i+1,nxt,v6,by omega,by go_num,HF6,HR6,HSTEP.out.symm,HI2,HL2⟩
      case measure=>simp [intOf];omega
     ·have d1:(cur.e == 0)=false:=beq_eq_false_iff_ne.2 he
      have HE:Hid (cur=R):=(show _=_ by rw [← HL.out,cpyF_err he])
      go_wp2_with fail
      (try simp only [Exit.inBlock,Exit.then])
      first | (refine bodyPost_ret (results_none rfl _ _ _) rfl ?_) | (refine bodyPost_end (results_none rfl _ _ _) rfl ?_)
      exact ⟨rfl,vq,by rw [← HE.out];exact HF.out,HR.out⟩
    ·obtain rfl:i=N:=by omega
     have hlti:¬ (i:Int) < (i:Int):=by omega
     have HE:Hid (cur=R):=(show _=_ by rw [← HL.out,Nat.sub_self];rfl)
     go_wp2_with fail
     (try simp only [Exit.inBlock,Exit.then])
     first | (refine bodyPost_ret (results_none rfl _ _ _) rfl ?_) | (refine bodyPost_end (results_none rfl _ _ _) rfl ?_)
     exact ⟨rfl,vq,by rw [← HE.out];exact HF.out,HR.out⟩
  ·have hlti:¬ (s.out.length:Int) < (dist:Int):=by omega
   rw [if_neg hlt] at hs1
   subst hs1
   have HR0:=Lib.hid (RFr.refl w r g (.slice Ap s.out.length cp))
   go_wp2_with fail
   go_loopw [6] (fun vi wr=>∃ (i:Nat) (cur:RS) (vq:Value),i≤N∧vi=.int .i64 i∧Hid (FS wr r g A n c bs most vq cur)∧Hid (RFr w wr r g (.slice Ap s.out.length cp) vq)∧Hid (cpyF most dist (N - i) cur=R)∧Hid (cur.e=0→dist≤cur.out.length)∧Hid (cur.out.length≤2000000+i)) (fun vi _=>N - (intOf vi).toNat)
   case atStart=>exact ⟨0,_,_,Nat.zero_le _,rfl,H,HR0,HR,HINV,HLE⟩
   case round =>
    clear HR HINV HLE HFL H HR0
    obtain ⟨i,cur,vq,hi,rfl,HF,HR,HL,HINV,HLE⟩:=hrel
    have e3:=(FR.arr HF.out).cell (k:=3) rfl
    by_cases hlt:i < N
    ·have hlti:(i:Int) < (N:Int):=by omega
     by_cases he:cur.e=0
     ·have d1:(cur.e == 0)=true:=by rw [he];rfl
      have hdl:=HINV.out he
      have hle:=HLE.out
      obtain ⟨Aq,cq,rfl,-,-,-⟩:=(FR.own HF.out).form
      obtain ⟨-,gq,rfl,-,hgq⟩:=ownB.pos (FR.own HF.out) (show 0 < cur.out.length by omega)
      have e1:=(FR.arr HF.out).cell (k:=1) rfl
      obtain ⟨D,hD⟩:∃ D,cur.out.length - dist=D:=⟨_,rfl⟩
      have hDl:D < cur.out.length:=by omega
      have ed:=ownB.cell (FR.own HF.out) rfl hDl
      have HSTEP:Hid (cpyF most dist (N - i) cur=cpyF most dist (N - (i+1)) (givesP most cur cur.out[D])):=(show _=_ by
       rw [show N - i=(N - (i+1))+1 by omega]
       have:cur.out.getD (cur.out.length - dist) 0=cur.out[D]:=by rw [hD,List.getD_eq_getElem?_getD,List.getElem?_eq_getElem hDl];rfl
       rw [← this]
       exact if_pos he)
      have HGV:=Lib.hid (rgives_any r g n c A bs most _ cur wr.drew cur.out[D] (show FS wr.drew r g A n c bs most _ cur from FR.drewN HF.out 1) hm)
      have HI2:Hid ((givesP most cur cur.out[D]).e=0→dist≤(givesP most cur cur.out[D]).out.length):=(show _→_ from fun h0=>by
       unfold givesP at h0 ⊢
       split at h0
       ·unfold RS.fail at h0
        rw [if_pos he] at h0
        exact absurd (show (10:Int)=0 from h0) (by decide)
       ·rename_i hh
        rw [if_neg hh,List.length_append]
        omega)
      have HL2:Hid ((givesP most cur cur.out[D]).out.length≤2000000+(i+1)):=(show _≤_ by
       unfold givesP
       split
       ·unfold RS.fail;split <;> exact Nat.le_succ_of_le hle
       ·rw [List.length_append];show _+1≤_;omega)
      rw [HL.out] at HSTEP
      generalize givesP most cur cur.out[D]=nxt at *
      generalize cur.out[D]=x at *
      obtain ⟨L,hL⟩:∃ L,cur.out.length=L:=⟨_,rfl⟩
      rw [hL] at e1 hDl hle hdl hD HGV HR
      have hDi:(L:Int) - (dist:Int)=(D:Int):=by omega
      have w1:IntKind.i64.wrap (D:Int)=(D:Int):=wrap_i64_lt D (by omega)
      have x8:=x.toNat_lt
      have hDi2:(D:Int) < (L:Int):=by omega
      clear hD hL HINV HLE
      go_wp2_with fail
      go_still_tail 14,(by kernel_rfl)
      go_wp2_with (go_at_call 128;(with_reducible refine HGV.out.mono ?_);go_must (rintro e w6 ⟨rfl,v6,hf6,hr6⟩;have HF6:=Lib.hid hf6;have HR6:=Lib.hid (HR.out.trans (RFr.drew0 (q:=1) hr6));clear hf6 hr6))
      go_roundw
      case rel=>exact ⟨i+1,nxt,v6,by omega,by go_num,HF6,HR6,HSTEP.out.symm,HI2,HL2⟩
      case measure=>simp [intOf];omega
     ·have d1:(cur.e == 0)=false:=beq_eq_false_iff_ne.2 he
      have HE:Hid (cur=R):=(show _=_ by rw [← HL.out,cpyF_err he])
      go_wp2_with fail
      (try simp only [Exit.inBlock,Exit.then])
      first | (refine bodyPost_ret (results_none rfl _ _ _) rfl ?_) | (refine bodyPost_end (results_none rfl _ _ _) rfl ?_)
      exact ⟨rfl,vq,by rw [← HE.out];exact HF.out,HR.out⟩
    ·obtain rfl:i=N:=by omega
     have hlti:¬ (i:Int) < (i:Int):=by omega
     have HE:Hid (cur=R):=(show _=_ by rw [← HL.out,Nat.sub_self];rfl)
     go_wp2_with fail
     (try simp only [Exit.inBlock,Exit.then])
     first | (refine bodyPost_ret (results_none rfl _ _ _) rfl ?_) | (refine bodyPost_end (results_none rfl _ _ _) rfl ?_)
     exact ⟨rfl,vq,by rw [← HE.out];exact HF.out,HR.out⟩
 ·have d1:(s.e == 0)=false:=beq_eq_false_iff_ne.2 he
  have hs2:s1=s:=by
   rw [← hs1]
   split
   ·exact if_neg he
   ·rfl
  subst hs2
  have HR0:=Lib.hid (RFr.refl w r g (.slice Ap s1.out.length cp))
  go_wp2_with fail
  go_loopw [6] (fun vi wr=>∃ (i:Nat) (cur:RS) (vq:Value),i≤N∧vi=.int .i64 i∧Hid (FS wr r g A n c bs most vq cur)∧Hid (RFr w wr r g (.slice Ap s1.out.length cp) vq)∧Hid (cpyF most dist (N - i) cur=R)∧Hid (cur.e=0→dist≤cur.out.length)∧Hid (cur.out.length≤2000000+i)) (fun vi _=>N - (intOf vi).toNat)
  case atStart=>exact ⟨0,_,_,Nat.zero_le _,rfl,H,HR0,HR,HINV,HLE⟩
  case round =>
   clear HR HINV HLE HFL H HR0
   obtain ⟨i,cur,vq,hi,rfl,HF,HR,HL,HINV,HLE⟩:=hrel
   have e3:=(FR.arr HF.out).cell (k:=3) rfl
   by_cases hlt:i < N
   ·have hlti:(i:Int) < (N:Int):=by omega
    by_cases he:cur.e=0
    ·have d1:(cur.e == 0)=true:=by rw [he];rfl
     have hdl:=HINV.out he
     have hle:=HLE.out
     obtain ⟨Aq,cq,rfl,-,-,-⟩:=(FR.own HF.out).form
     obtain ⟨-,gq,rfl,-,hgq⟩:=ownB.pos (FR.own HF.out) (show 0 < cur.out.length by omega)
     have e1:=(FR.arr HF.out).cell (k:=1) rfl
     obtain ⟨D,hD⟩:∃ D,cur.out.length - dist=D:=⟨_,rfl⟩
     have hDl:D < cur.out.length:=by omega
     have ed:=ownB.cell (FR.own HF.out) rfl hDl
     have HSTEP:Hid (cpyF most dist (N - i) cur=cpyF most dist (N - (i+1)) (givesP most cur cur.out[D])):=(show _=_ by
      rw [show N - i=(N - (i+1))+1 by omega]
      have:cur.out.getD (cur.out.length - dist) 0=cur.out[D]:=by rw [hD,List.getD_eq_getElem?_getD,List.getElem?_eq_getElem hDl];rfl
      rw [← this]
      exact if_pos he)
     have HGV:=Lib.hid (rgives_any r g n c A bs most _ cur wr.drew cur.out[D] (show FS wr.drew r g A n c bs most _ cur from FR.drewN HF.out 1) hm)
     have HI2:Hid ((givesP most cur cur.out[D]).e=0→dist≤(givesP most cur cur.out[D]).out.length):=(show _→_ from fun h0=>by
      unfold givesP at h0 ⊢
      split at h0
      ·unfold RS.fail at h0
       rw [if_pos he] at h0
       exact absurd (show (10:Int)=0 from h0) (by decide)
      ·rename_i hh
       rw [if_neg hh,List.length_append]
       omega)
     have HL2:Hid ((givesP most cur cur.out[D]).out.length≤2000000+(i+1)):=(show _≤_ by
      unfold givesP
      split
      ·unfold RS.fail;split <;> exact Nat.le_succ_of_le hle
      ·rw [List.length_append];show _+1≤_;omega)
     rw [HL.out] at HSTEP
     generalize givesP most cur cur.out[D]=nxt at *
     generalize cur.out[D]=x at *
     obtain ⟨L,hL⟩:∃ L,cur.out.length=L:=⟨_,rfl⟩
     rw [hL] at e1 hDl hle hdl hD HGV HR
     have hDi:(L:Int) - (dist:Int)=(D:Int):=by omega
     have w1:IntKind.i64.wrap (D:Int)=(D:Int):=wrap_i64_lt D (by omega)
     have x8:=x.toNat_lt
     have hDi2:(D:Int) < (L:Int):=by omega
     clear hD hL HINV HLE
     go_wp2_with fail
     go_still_tail 14,(by kernel_rfl)
     go_wp2_with (go_at_call 128;(with_reducible refine HGV.out.mono ?_);go_must (rintro e w6 ⟨rfl,v6,hf6,hr6⟩;have HF6:=Lib.hid hf6;have HR6:=Lib.hid (HR.out.trans (RFr.drew0 (q:=1) hr6));clear hf6 hr6))
     go_roundw
     case rel=>exact ⟨i+1,nxt,v6,by omega,by go_num,HF6,HR6,HSTEP.out.symm,HI2,HL2⟩
     case measure=>simp [intOf];omega
    ·have d1:(cur.e == 0)=false:=beq_eq_false_iff_ne.2 he
     have HE:Hid (cur=R):=(show _=_ by rw [← HL.out,cpyF_err he])
     go_wp2_with fail
     (try simp only [Exit.inBlock,Exit.then])
     first | (refine bodyPost_ret (results_none rfl _ _ _) rfl ?_) | (refine bodyPost_end (results_none rfl _ _ _) rfl ?_)
     exact ⟨rfl,vq,by rw [← HE.out];exact HF.out,HR.out⟩
   ·obtain rfl:i=N:=by omega
    have hlti:¬ (i:Int) < (i:Int):=by omega
    have HE:Hid (cur=R):=(show _=_ by rw [← HL.out,Nat.sub_self];rfl)
    go_wp2_with fail
    (try simp only [Exit.inBlock,Exit.then])
    first | (refine bodyPost_ret (results_none rfl _ _ _) rfl ?_) | (refine bodyPost_end (results_none rfl _ _ _) rfl ?_)
    exact ⟨rfl,vq,by rw [← HE.out];exact HF.out,HR.out⟩
end
end Go.Proofs.YtebbdifhiihfkaaGreatDoor

