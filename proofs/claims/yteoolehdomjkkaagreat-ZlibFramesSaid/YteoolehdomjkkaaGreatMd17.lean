/- Merged: LzP, LzR, MatR, Mat5, RowJ. -/
import Derived.Test.YteoolehdomjkkaaGreatMd16
import Derived.Test.YteoolehdomjkkaaGreatMd01
/- lz: pieces that come again, plainly. -/
namespace Go.Proofs.YteoolehdomjkkaaGreat
set_option linter.all false
theorem getD_at {bs:List UInt8} {k:Nat} {x:UInt8} (h:bs[k]?=some x):bs.getD k 0=x:=by rw [List.getD_eq_getElem?_getD,h];rfl
abbrev Tri:=UInt8 × UInt8 × UInt8
def tri (b:List UInt8) (i:Nat):Tri:=(b.getD i 0,b.getD (i+1) 0,b.getD (i+2) 0)
/-- The last place of three bytes among the first i, and 1; 0: there is none. -/
def lastP (b:List UInt8):Nat→Tri→Nat
 | 0,_=>0
 | i+1,t=>if i+3≤b.length∧tri b i=t then i+1 else lastP b i t
/-- Of a place the one ahead with the same bytes, and 1. -/
def prevP (b:List UInt8) (j:Nat):Nat:=if b.length < j+3 then 0 else lastP b j (tri b j)
def prevL (b:List UInt8) (i:Nat):List Int:=(List.range i).map fun j=>((prevP b j:Nat):Int)
/-- How many bytes from two places on are the same. -/
def comF (b:List UInt8) (i k:Nat):Nat→Nat→Nat
 | 0,n=>n
 | f+1,n=>if k+n < b.length∧b.getD (i+n) 0=b.getD (k+n) 0 then comF b i k f (n+1) else n
def comP (b:List UInt8) (i k:Nat):Nat:=comF b i k 258 0
def matF (b:List UInt8) (at_:Nat):Nat→Nat→Nat→Nat→Nat × Nat
 | 0,_,best,dist=>(best,dist)
 | f+1,p,best,dist =>
  if p=0∨32768 < at_ - (p - 1) then (best,dist)
  else if best < comP b (p - 1) at_ then matF b at_ f (prevP b (p - 1)) (comP b (p - 1) at_) (at_ - (p - 1))
  else matF b at_ f (prevP b (p - 1)) best dist
/-- The match at a place. -/
def matP (b:List UInt8) (at_:Nat):Nat × Nat:=if b.length < at_+3 then (0,0) else matF b at_ 64 (lastP b at_ (tri b at_)) 0 0
/-- The token at a place. -/
def tokAt (b:List UInt8) (at_:Nat):Tok:=if (matP b at_).1=0 then (0,0,(b.getD at_ 0).toNat) else ((matP b at_).1,(matP b at_).2,0)
def stepAt (b:List UInt8) (at_:Nat):Nat:=if (matP b at_).1=0 then 1 else (matP b at_).1
def findF (b:List UInt8):Nat→Nat→List Tok
 | 0,_=>[]
 | f+1,at_=>if at_ < b.length then tokAt b at_ :: findF b f (at_+stepAt b at_) else []
/-- Bytes as tokens. -/
def findP (b:List UInt8):List Tok:=findF b b.length 0
theorem prevL_snoc (b:List UInt8) (i:Nat):prevL b (i+1)=prevL b i ++ [((prevP b i:Nat):Int)]:=by unfold prevL;rw [List.range_succ,List.map_append];rfl
theorem prevL_len (b:List UInt8) (i:Nat):(prevL b i).length=i:=by simp [prevL]
theorem prevL_get (b:List UInt8) {i j:Nat} (h:j < i):(prevL b i)[j]?=some ((prevP b j:Nat):Int):=by
 unfold prevL
 rw [List.getElem?_map,List.getElem?_range h]
 rfl
theorem lastP_le (b:List UInt8) (t:Tri):∀ i,lastP b i t≤i∧(lastP b i t=0∨(lastP b i t - 1+3≤b.length∧tri b (lastP b i t - 1)=t))
 | 0=>⟨Nat.le_refl _,.inl rfl⟩
 | i+1=>by
  unfold lastP
  split
  ·rename_i h
   exact ⟨Nat.le_refl _,.inr ⟨h.1,h.2⟩⟩
  ·have:=lastP_le b t i
   exact ⟨by omega,this.2⟩
theorem prevP_le (b:List UInt8) (j:Nat):prevP b j≤j∧(prevP b j=0∨(prevP b j - 1+3≤b.length∧tri b (prevP b j - 1)=tri b j)):=by
 unfold prevP
 split
 ·exact ⟨Nat.zero_le _,.inl rfl⟩
 ·exact lastP_le b (tri b j) j
theorem comF_le (b:List UInt8) (i k:Nat):∀ f n,comF b i k f n≤n+f∧(k+n≤b.length→k+comF b i k f n≤b.length)∧n≤comF b i k f n
 | 0,n=>⟨Nat.le_refl _,fun h=>h,Nat.le_refl _⟩
 | f+1,n=>by
  unfold comF
  split
  ·rename_i h
   have:=comF_le b i k f (n+1)
   exact ⟨by omega,fun _=>this.2.1 (by omega),by omega⟩
  ·exact ⟨by omega,fun h=>h,Nat.le_refl _⟩
theorem comF_on {b:List UInt8} {i k f n:Nat} (h1:k+n < b.length) (h2:b.getD (i+n) 0=b.getD (k+n) 0):comF b i k (f+1) n=comF b i k f (n+1):=if_pos ⟨h1,h2⟩
theorem comP_three {b:List UInt8} {i k:Nat} (h:k+3≤b.length) (ht:tri b i=tri b k):3≤comP b i k:=by
 have e0:b.getD i 0=b.getD k 0:=congrArg (·.1) ht
 have e1:b.getD (i+1) 0=b.getD (k+1) 0:=congrArg (·.2.1) ht
 have e2:b.getD (i+2) 0=b.getD (k+2) 0:=congrArg (·.2.2) ht
 unfold comP
 rw [show (258:Nat)=257+1 from rfl,comF_on (by omega) (by simpa using e0),show (257:Nat)=256+1 from rfl,comF_on (by omega) (by simpa using e1),show (256:Nat)=255+1 from rfl,comF_on (by omega) (by simpa using e2)]
 have:=(comF_le b i k 255 (0+1+1+1)).2.2
 omega
theorem comP_le (b:List UInt8) (i k:Nat) (h:k≤b.length):comP b i k≤258∧k+comP b i k≤b.length:=by
 have:=comF_le b i k 258 0
 unfold comP
 exact ⟨by omega,this.2.1 (by omega)⟩
/-- A place that a chain names. -/
def Cand (b:List UInt8) (at_ p:Nat):Prop:=p=0∨(p≤at_∧tri b (p - 1)=tri b at_)
theorem Cand.next {b:List UInt8} {at_ p:Nat} (h:Cand b at_ p) (hp:¬ p=0):Cand b at_ (prevP b (p - 1)):=by
 obtain ⟨h1,h2⟩:p≤at_∧tri b (p - 1)=tri b at_:=by rcases h with h | h;exact absurd h hp;exact h
 have h3:=prevP_le b (p - 1)
 rcases h3.2 with e | ⟨_,e⟩
 ·exact .inl e
 ·exact .inr ⟨by omega,e.trans h2⟩
theorem matF_ok {b:List UInt8} {at_:Nat} (ha:at_+3≤b.length):∀ f p best dist,Cand b at_ p→(best=0∨(3≤best∧best≤258∧at_+best≤b.length∧1≤dist∧dist≤32768∧dist≤at_)) →
  ((matF b at_ f p best dist).1=0∨(3≤(matF b at_ f p best dist).1∧(matF b at_ f p best dist).1≤258∧at_+(matF b at_ f p best dist).1≤b.length∧1≤(matF b at_ f p best dist).2∧(matF b at_ f p best dist).2≤32768∧(matF b at_ f p best dist).2≤at_))
 | 0,p,best,dist,_,h=>h
 | f+1,p,best,dist,hc,h=>by
  unfold matF
  split
  ·exact h
  ·rename_i hp
   have hp0:¬ p=0:=fun e=>hp (.inl e)
   have hd:at_ - (p - 1)≤32768:=by omega
   obtain ⟨h1,h2⟩:p≤at_∧tri b (p - 1)=tri b at_:=by rcases hc with h | h;exact absurd h hp0;exact h
   split
   ·have h3:=comP_three ha h2
    have h4:=comP_le b (p - 1) at_ (by omega)
    exact matF_ok ha f _ _ _ (hc.next hp0) (.inr ⟨h3,h4.1,h4.2,by omega,hd,by omega⟩)
   ·exact matF_ok ha f _ _ _ (hc.next hp0) h
theorem cand_first (b:List UInt8) (at_:Nat):Cand b at_ (lastP b at_ (tri b at_)):=by
 have:=lastP_le b (tri b at_) at_
 rcases this.2 with e | ⟨_,e⟩
 ·exact .inl e
 ·exact .inr ⟨this.1,e⟩
theorem matP_ok (b:List UInt8) (at_:Nat):(matP b at_).1=0∨(3≤(matP b at_).1∧(matP b at_).1≤258∧at_+(matP b at_).1≤b.length∧1≤(matP b at_).2∧(matP b at_).2≤32768∧(matP b at_).2≤at_):=by
 unfold matP
 split
 ·exact .inl rfl
 ·exact matF_ok (by omega) _ _ _ _ (cand_first b at_) (.inl rfl)
theorem stepAt_ok {b:List UInt8} {at_:Nat} (h:at_ < b.length):1≤stepAt b at_∧at_+stepAt b at_≤b.length∧stepAt b at_=max (tokAt b at_).1 1∧TokOK (tokAt b at_):=by
 unfold stepAt tokAt
 rcases matP_ok b at_ with e | ⟨h1,h2,h3,h4,h5,h6⟩
 ·rw [if_pos e,if_pos e]
  exact ⟨Nat.le_refl _,h,rfl,.inl ⟨rfl,(b.getD at_ 0).toNat_lt⟩⟩
 ·rw [if_neg (by omega),if_neg (by omega)]
  exact ⟨by omega,h3,by show (matP b at_).1=max (matP b at_).1 1;omega,.inr ⟨h1,h2,h4,h5⟩⟩
theorem findF_ok (b:List UInt8):∀ f at_,(∀ t ∈ findF b f at_,TokOK t)∧(at_≤b.length→tokSize (findF b f at_)≤b.length - at_)
 | 0,at_=>⟨fun t ht=>absurd ht (List.not_mem_nil),fun _=>Nat.zero_le _⟩
 | f+1,at_=>by
  unfold findF
  split
  ·rename_i h
   obtain ⟨h1,h2,h3,h4⟩:=stepAt_ok h
   obtain ⟨i1,i2⟩:=findF_ok b f (at_+stepAt b at_)
   refine ⟨fun t ht=>?_,fun _=>?_⟩
   ·rw [List.mem_cons] at ht
    rcases ht with rfl | ht
    ·exact h4
    ·exact i1 t ht
   ·have:=i2 h2
    unfold tokSize at this ⊢
    rw [List.map_cons,List.sum_cons,← h3]
    omega
  ·exact ⟨fun t ht=>absurd ht (by simp),fun _=>by simp [tokSize]⟩
theorem findP_ok (b:List UInt8):(∀ t ∈ findP b,TokOK t)∧tokSize (findP b)≤b.length:=⟨(findF_ok b b.length 0).1,(findF_ok b b.length 0).2 (Nat.zero_le _)⟩
end Go.Proofs.YteoolehdomjkkaaGreat

/- lz: the document's match, plainly. -/
namespace Go.Proofs.YteoolehdomjkkaaGreat
set_option linter.all false
/-- The document's match: from a place down. -/
def mrF (b:List UInt8) (at_:Nat):Nat→Nat→Nat→Nat→Nat × Nat
  | 0,_,best,dist=>(best,dist)
  | i+1,seen,best,dist =>
    if at_ - i≤32768∧seen < 64 then
      (if at_+3≤b.length∧tri b i=tri b at_ then
        (if best < comP b i at_ then mrF b at_ i (seen+1) (comP b i at_) (at_ - i) else mrF b at_ i (seen+1) best dist)
       else mrF b at_ i seen best dist)
    else (best,dist)
theorem mrF_eq {b:List UInt8} {at_:Nat} (ha:at_+3≤b.length):∀ i seen best dist,i≤at_→seen≤64→mrF b at_ i seen best dist=matF b at_ (64 - seen) (lastP b i (tri b at_)) best dist
  | 0,seen,best,dist,_,_=>by
    rw [mrF,lastP]
    cases 64 - seen with
    | zero=>rfl
    | succ f=>rw [matF,if_pos (.inl rfl)]
  | i+1,seen,best,dist,hi,hs=>by
    rw [mrF]
    by_cases h1:at_ - i≤32768∧seen < 64
    · rw [if_pos h1]
      by_cases h2:tri b i=tri b at_
      · rw [if_pos ⟨ha,h2⟩]
        have e1:lastP b (i+1) (tri b at_)=i+1:=if_pos ⟨by omega,h2⟩
        have e2:prevP b i=lastP b i (tri b at_):=by unfold prevP;rw [if_neg (by omega),h2]
        have e3:¬ (i+1=0∨32768 < at_ - (i+1 - 1)):=by omega
        by_cases h3:best < comP b i at_
        · rw [if_pos h3,e1,show 64 - seen=(64 - (seen+1))+1 by omega,matF,if_neg e3,show i+1 - 1=i from rfl,e2,if_pos h3]
          exact mrF_eq ha i _ _ _ (by omega) (by omega)
        · rw [if_neg h3,e1,show 64 - seen=(64 - (seen+1))+1 by omega,matF,if_neg e3,show i+1 - 1=i from rfl,e2,if_neg h3]
          exact mrF_eq ha i _ _ _ (by omega) (by omega)
      · rw [if_neg (fun h=>h2 h.2)]
        have e1:lastP b (i+1) (tri b at_)=lastP b i (tri b at_):=if_neg (fun h=>h2 h.2)
        rw [e1]
        exact mrF_eq ha i _ _ _ (by omega) hs
    · rw [if_neg h1]
      have hp:=(lastP_le b (tri b at_) (i+1)).1
      cases hf:64 - seen with
      | zero=>rfl
      | succ f =>
        rw [matF]
        by_cases h3:lastP b (i+1) (tri b at_)=0
        · rw [if_pos (.inl h3)]
        · rw [if_pos (.inr (by omega))]
theorem mrF_short {b:List UInt8} {at_:Nat} (ha:¬ at_+3≤b.length):∀ i seen best dist,mrF b at_ i seen best dist=(best,dist)
  | 0,seen,best,dist=>by rw [mrF]
  | i+1,seen,best,dist=>by
    rw [mrF]
    split
    · rw [if_neg (fun h=>ha h.1)]
      exact mrF_short ha i _ _ _
    · rfl
theorem mrF_mat (b:List UInt8) (at_:Nat):mrF b at_ at_ 0 0 0=matP b at_:=by
  unfold matP
  by_cases ha:at_+3≤b.length
  · rw [if_neg (by omega),mrF_eq ha _ _ _ _ (Nat.le_refl _) (by omega)]
  · rw [if_pos (by omega),mrF_short ha]
theorem mrF_stop {b:List UInt8} {at_ i seen best dist:Nat} (h:¬ (at_ - i≤32768∧seen < 64)):mrF b at_ (i+1) seen best dist=(best,dist):=by rw [mrF,if_neg h]
theorem mrF_skip {b:List UInt8} {at_ i seen best dist:Nat} (h:at_ - i≤32768∧seen < 64) (h2:¬ (at_+3≤b.length∧tri b i=tri b at_)):mrF b at_ (i+1) seen best dist=mrF b at_ i seen best dist:=by rw [mrF,if_pos h,if_neg h2]
theorem mrF_more {b:List UInt8} {at_ i seen best dist:Nat} (h:at_ - i≤32768∧seen < 64) (h2:at_+3≤b.length∧tri b i=tri b at_) (h3:best < comP b i at_):mrF b at_ (i+1) seen best dist=mrF b at_ i (seen+1) (comP b i at_) (at_ - i):=by rw [mrF,if_pos h,if_pos h2,if_pos h3]
theorem mrF_less {b:List UInt8} {at_ i seen best dist:Nat} (h:at_ - i≤32768∧seen < 64) (h2:at_+3≤b.length∧tri b i=tri b at_) (h3:¬ best < comP b i at_):mrF b at_ (i+1) seen best dist=mrF b at_ i (seen+1) best dist:=by rw [mrF,if_pos h,if_pos h2,if_neg h3]
/-- Three bytes held against three. -/
theorem tri_iff (b:List UInt8) (i k:Nat):tri b i=tri b k ↔ (b.getD i 0=b.getD k 0∧b.getD (i+1) 0=b.getD (k+1) 0∧b.getD (i+2) 0=b.getD (k+2) 0):=by
  unfold tri
  constructor
  · intro h
    injection h with h1 h2
    injection h2 with h2 h3
    exact ⟨h1,h2,h3⟩
  · rintro ⟨h1,h2,h3⟩
    rw [h1,h2,h3]
theorem com_three {b:List UInt8} {i k:Nat} (h:k+3≤b.length) (ht:tri b i=tri b k):comP b i k=comF b i k 255 3:=by
  obtain ⟨e0,e1,e2⟩:=(tri_iff b i k).1 ht
  unfold comP
  rw [show (258:Nat)=257+1 from rfl,comF_on (by omega) (by simpa using e0),show (257:Nat)=256+1 from rfl,comF_on (by omega) (by simpa using e1),show (256:Nat)=255+1 from rfl,comF_on (by omega) (by simpa using e2)]
end Go.Proofs.YteoolehdomjkkaaGreat

/- lz: the document's three bytes. -/
namespace Go.Proofs.YteoolehdomjkkaaGreat
set_option linter.all false
open Go.RowKit
set_option maxRecDepth 100000 in
set_option maxHeartbeats 6400000 in
theorem three_any (B n c i k:Nat) (A:Option Addr) (bs:List UInt8) (w:World) (h:RdB w B A n bs) (hik:i≤k) (hkn:k≤n) (hn:n≤40000) :
  Calls Tryz.prog 162 #[.slice A n c,.int .i64 (i:Int),.int .i64 (k:Int)] w fun e w'=>e=.returned (.bool (decide (k+3≤bs.length∧tri bs i=tri bs k)))∧∃ q,w'=w.drewN q:=by
 have HR:=Lib.hid h
 have hl:=h.len
 clear h
 have hs3:IntKind.i64.wrap ((k:Int)+3)=(k:Int)+3:=by have:=wrap_i64_lt (k+3) (by omega);simpa using this
 by_cases h3:k+3≤n
 ·have h3i:(k:Int)+3≤(n:Int):=by omega
  have HT:=Lib.hid (tri_iff bs i k)
  obtain ⟨b,o,x0,e0,hb,HX0,cx0⟩:=HR.out.byte (k:=i) (by omega)
  subst e0
  obtain ⟨b1,o1,y0,e1,hb1,HY0,cy0⟩:=HR.out.byte (k:=k) (by omega)
  injection e1 with e1;injection e1 with e1 e2;subst e1 e2
  obtain ⟨b2,o2,x1,e1,hb2,HX1,cx1⟩:=HR.out.byte (k:=i+1) (by omega)
  injection e1 with e1;injection e1 with e1 e2;subst e1 e2
  obtain ⟨b3,o3,y1,e1,hb3,HY1,cy1⟩:=HR.out.byte (k:=k+1) (by omega)
  injection e1 with e1;injection e1 with e1 e2;subst e1 e2
  obtain ⟨b4,o4,x2,e1,hb4,HX2,cx2⟩:=HR.out.byte (k:=i+2) (by omega)
  injection e1 with e1;injection e1 with e1 e2;subst e1 e2
  obtain ⟨b5,o5,y2,e1,hb5,HY2,cy2⟩:=HR.out.byte (k:=k+2) (by omega)
  injection e1 with e1;injection e1 with e1 e2;subst e1 e2
  rw [getD_at HX0.out,getD_at HY0.out,getD_at HX1.out,getD_at HY1.out,getD_at HX2.out,getD_at HY2.out] at HT
  have wi1:IntKind.i64.wrap ((i:Int)+1)=((i+1:Nat):Int):=by have:=wrap_i64_lt (i+1) (by omega);simpa using this
  have wk1:IntKind.i64.wrap ((k:Int)+1)=((k+1:Nat):Int):=by have:=wrap_i64_lt (k+1) (by omega);simpa using this
  have wi2:IntKind.i64.wrap ((i:Int)+2)=((i+2:Nat):Int):=by have:=wrap_i64_lt (i+2) (by omega);simpa using this
  have wk2:IntKind.i64.wrap ((k:Int)+2)=((k+2:Nat):Int):=by have:=wrap_i64_lt (k+2) (by omega);simpa using this
  have gi1:(i:Int)+1=((i+1:Nat):Int):=by omega
  have gk1:(k:Int)+1=((k+1:Nat):Int):=by omega
  have gi2:(i:Int)+2=((i+2:Nat):Int):=by omega
  have gk2:(k:Int)+2=((k+2:Nat):Int):=by omega
  have li0:i < n:=by omega
  have lk0:k < n:=by omega
  have li1:i+1 < n:=by omega
  have lk1:k+1 < n:=by omega
  have li2:i+2 < n:=by omega
  have lk2:k+2 < n:=by omega
  have mi0:(i:Int) < (n:Int):=by omega
  have mk0:(k:Int) < (n:Int):=by omega
  have mi1:((i+1:Nat):Int) < (n:Int):=by omega
  have mk1:((k+1:Nat):Int) < (n:Int):=by omega
  have mi2:((i+2:Nat):Int) < (n:Int):=by omega
  have mk2:((k+2:Nat):Int) < (n:Int):=by omega
  have HL3:Hid (k+3≤bs.length):=(show _≤_ from by omega)
  clear HX0 HY0 HX1 HY1 HX2 HY2
  generalize i+1=i1 at *
  generalize i+2=i2 at *
  generalize k+1=k1 at *
  generalize k+2=k2 at *
  have hxy:∀ (x y:UInt8),x=y→((x.toNat:Int) == (y.toNat:Int))=true:=fun x y e=>by rw [e];exact beq_self_eq_true _
  have hxn:∀ (x y:UInt8),¬ x=y→((x.toNat:Int) == (y.toNat:Int))=false:=fun x y e=>beq_eq_false_iff_ne.2 (fun e2=>e (UInt8.toNat_inj.1 (by omega)))
  have HXY:=Lib.hid hxy
  have HXN:=Lib.hid hxn
  clear hxy hxn hik
  have hfin:∀ P:Prop,[Decidable P]→P→(.bool true:Value)=.bool (decide P):=fun P _ h=>by rw [decide_eq_true h]
  have hfin0:∀ P:Prop,[Decidable P]→¬ P→(.bool false:Value)=.bool (decide P):=fun P _ h=>by rw [decide_eq_false h]
  have HF:=Lib.hid hfin
  have HF0:=Lib.hid hfin0
  clear hfin hfin0
  by_cases q0:x0=y0
  ·have d0:=HXY.out x0 y0 q0
   by_cases q1:x1=y1
   ·have d1:=HXY.out x1 y1 q1
    by_cases q2:x2=y2
    ·have d2:=HXY.out x2 y2 q2
     have HFF:Hid ((.bool true:Value)=.bool (decide (k+3≤bs.length∧tri bs i=tri bs k))):=HF.out _ ⟨HL3.out,HT.out.2 ⟨q0,q1,q2⟩⟩
     clear q0 q1 q2
     go_enter Tryz.func162,Tryz.ntmps162
     go_wp2_with fail
     go_quiet (fail)
     go_wp2_with fail
     go_ret
     exact ⟨congrArg Ending.returned HFF.out,_,rfl⟩
    ·have d2:=HXN.out x2 y2 q2
     have HFF:Hid ((.bool false:Value)=.bool (decide (k+3≤bs.length∧tri bs i=tri bs k))):=HF0.out _ (fun e=>q2 (HT.out.1 e.2).2.2)
     clear q0 q1 q2
     go_enter Tryz.func162,Tryz.ntmps162
     go_wp2_with fail
     go_quiet (fail)
     go_wp2_with fail
     go_ret
     exact ⟨congrArg Ending.returned HFF.out,_,rfl⟩
   ·have d1:=HXN.out x1 y1 q1
    have HFF:Hid ((.bool false:Value)=.bool (decide (k+3≤bs.length∧tri bs i=tri bs k))):=HF0.out _ (fun e=>q1 (HT.out.1 e.2).2.1)
    clear q0 q1
    go_enter Tryz.func162,Tryz.ntmps162
    go_wp2_with fail
    go_quiet (fail)
    go_wp2_with fail
    go_ret
    exact ⟨congrArg Ending.returned HFF.out,_,rfl⟩
  ·have d0:=HXN.out x0 y0 q0
   have HFF:Hid ((.bool false:Value)=.bool (decide (k+3≤bs.length∧tri bs i=tri bs k))):=HF0.out _ (fun e=>q0 (HT.out.1 e.2).1)
   clear q0
   go_enter Tryz.func162,Tryz.ntmps162
   go_wp2_with fail
   go_quiet (fail)
   go_wp2_with fail
   go_ret
   exact ⟨congrArg Ending.returned HFF.out,_,rfl⟩
 ·have d3:decide ((k:Int)+3≤(n:Int))=false:=decide_eq_false (by omega)
  have h3i:(n:Int) < (k:Int)+3:=by omega
  have HFF:Hid ((.bool false:Value)=.bool (decide (k+3≤bs.length∧tri bs i=tri bs k))):=(show _=_ by rw [decide_eq_false (fun e=>by omega)])
  go_enter Tryz.func162,Tryz.ntmps162
  go_wp2_with fail
  go_quiet (fail)
  go_wp2_with fail
  go_ret
  exact ⟨congrArg Ending.returned HFF.out,_,rfl⟩
end Go.Proofs.YteoolehdomjkkaaGreat

/- lz: the document's match. -/
namespace Go.Proofs.YteoolehdomjkkaaGreat
set_option linter.all false
open Go.RowKit
set_option maxRecDepth 100000 in
set_option maxHeartbeats 12800000 in
theorem match5_any (B n c a:Nat) (A:Option Addr) (bs:List UInt8) (w:World) (h:RdB w B A n bs) (ha:a < n) (hn:n≤40000) :
  Calls Tryz.prog 115 #[.slice A n c,.int .i64 (a:Int)] w fun e w'=>e=.returned (.tuple #[.int .i64 (((matP bs a).1:Nat):Int),.int .i64 (((matP bs a).2:Nat):Int)])∧∃ q,w'=w.drewN q:=by
 have HR:=Lib.hid h
 have hl:=h.len
 have HM0:=Lib.hid (mrF_mat bs a)
 clear h
 go_enter Tryz.func115,Tryz.ntmps115
 go_wp2_with fail
 go_loopw [6,7,8,9] (fun vb vd vs vi wr=>∃ i1 seen best dist:Nat,i1≤a∧seen≤64∧best≤258∧dist≤40000∧vb=.int .i64 best∧vd=.int .i64 dist∧vi=.int .i64 ((i1:Int) - 1)∧vs=.int .i64 seen∧Hid (mrF bs a i1 seen best dist=matP bs a)∧Hid (∃ q,wr=w.drewN q)) (fun _ _ _ vi _=>(intOf vi+1).toNat)
 case atStart=>exact ⟨a,0,0,0,Nat.le_refl _,by omega,by omega,by omega,rfl,rfl,rfl,rfl,HM0,(show ∃ q,_ from ⟨0,rfl⟩)⟩
 case round =>
  clear HM0
  obtain ⟨i1,seen,best,dist,hi1,hseen,hbest9,hdist9,rfl,rfl,rfl,rfl,HM,HW⟩:=hrel
  rcases Nat.eq_zero_or_pos i1 with rfl | hpos
  ·have h0:¬ (0:Int)≤((0:Nat):Int) - 1:=by omega
   have HE:Hid ((best,dist)=matP bs a):=(show _=_ by rw [← HM.out,mrF])
   go_wp2_with fail
   go_ret2
   exact ⟨by rw [← HE.out];rfl,HW.out⟩
  ·obtain ⟨i,rfl⟩:∃ i,i1=i+1:=⟨i1 - 1,by omega⟩
   have hii:((i+1:Nat):Int) - 1=(i:Int):=by omega
   rw [hii]
   by_cases hst:a - i≤32768∧seen < 64
   ·obtain ⟨hs1,hs2⟩:=hst
    have hs1i:(a:Int) - (i:Int)≤32768:=by omega
    have hs2i:(seen:Int) < 64:=by omega
    have HRr:Hid (RdB wr B A n bs):=(show RdB _ _ _ _ _ by obtain ⟨q,rfl⟩:=HW.out;exact Rd.drewN HR.out q)
    have HT:=Lib.hid (three_any B n c i a A bs wr HRr.out (by omega) (by omega) hn)
    have him:(i:Int) - 1=(i:Int) - 1:=rfl
    by_cases h3:a+3≤bs.length∧tri bs i=tri bs a
    ·rw [decide_eq_true h3] at HT
     have HMORE:Hid (best < comP bs i a→mrF bs a (i+1) seen best dist=mrF bs a i (seen+1) (comP bs i a) (a - i)):=(show _→_ from fun h=>mrF_more ⟨hs1,hs2⟩ h3 h)
     have HLESS:Hid (¬ best < comP bs i a→mrF bs a (i+1) seen best dist=mrF bs a i (seen+1) best dist):=(show _→_ from fun h=>mrF_less ⟨hs1,hs2⟩ h3 h)
     have HC3:Hid (comF bs i a (258 - 3) 3=comP bs i a):=(show _=_ from (com_three h3.1 h3.2).symm)
     have ha3:a+3≤n:=by rw [← hl];exact h3.1
     clear h3
     obtain ⟨wo,rfl⟩:∃ wo:World,wo=wr:=⟨_,rfl⟩
     go_upto_region 7 with (go_at_call 162;(with_reducible refine HT.out.mono ?_);go_must (rintro e w1 ⟨rfl,hw1⟩;have HW1:Hid (∃ q,w1=w.drewN q):=(show ∃ q,_ by obtain ⟨q1,rfl⟩:=hw1;obtain ⟨q,rfl⟩:=HW.out;exact ⟨q+q1,by rw [World.drewN_drewN]⟩);clear hw1))
     clear HT HW HRr
     go_wp2_with fail
     go_loopw [10] (fun vm wx=>∃ m:Nat,3≤m∧m≤258∧vm=.int .i64 m∧Hid (comF bs i a (258 - m) m=comP bs i a)∧Hid (∃ q,wx=w.drewN q)) (fun vm _=>258 - (intOf vm).toNat)
     case atStart=>exact ⟨3,by omega,by omega,rfl,HC3,HW1⟩
     case round =>
      clear HC3 HW1
      obtain ⟨m,hm3,hm,rfl,HC,HWx⟩:=hrel
      have HRx:Hid (RdB wr B A n bs):=(show RdB _ _ _ _ _ by obtain ⟨q,rfl⟩:=HWx.out;exact Rd.drewN HR.out q)
      have HWN:∀ nq,Hid (∃ q,wr.drewN nq=w.drewN q):=fun nq=>(show ∃ q,_ by obtain ⟨q,rfl⟩:=HWx.out;exact ⟨q+nq,by rw [World.drewN_drewN]⟩)
      have HWNH:=Lib.hid HWN
      clear HWN
      have HS:Hid (m < 258→comF bs i a (258 - m) m=if a+m < bs.length∧bs.getD (i+m) 0=bs.getD (a+m) 0 then comF bs i a (258 - (m+1)) (m+1) else m):=(show _→_ from fun h=>by rw [show 258 - m=(258 - (m+1))+1 by omega];rfl)
      have hw1:IntKind.i64.wrap ((a:Int)+(m:Int))=((a+m:Nat):Int):=by have:=wrap_i64_lt (a+m) (by omega);simpa using this
      have hw2:IntKind.i64.wrap ((i:Int)+(m:Int))=((i+m:Nat):Int):=by have:=wrap_i64_lt (i+m) (by omega);simpa using this
      by_cases h1:m < 258
      ·have h1i:(m:Int) < 258:=by omega
       by_cases h2:a+m < n
       ·have h2i:(a:Int)+(m:Int) < (n:Int):=by omega
        have h3i:(i:Int)+(m:Int) < (n:Int):=by omega
        obtain ⟨b,o,x,e0,hb,HX,e1⟩:=HRx.out.byte (k:=i+m) (by omega)
        subst e0
        obtain ⟨b2,o2,y,hA2,hb2,HY,e2⟩:=HRx.out.byte (k:=a+m) h2
        injection hA2 with hA2
        injection hA2 with hA2 hA3
        subst hA2 hA3
        have HS2:=Lib.hid (HS.out h1)
        rw [getD_at HX.out,getD_at HY.out] at HS2
        have x8:=x.toNat_lt
        have y8:=y.toNat_lt
        have hb3:a+m < bs.length:=by omega
        obtain ⟨p,hp⟩:∃ p,i+m=p:=⟨_,rfl⟩
        obtain ⟨r,hr⟩:∃ r,a+m=r:=⟨_,rfl⟩
        have hp2:(i:Int)+(m:Int)=(p:Int):=by omega
        have hr2:(a:Int)+(m:Int)=(r:Int):=by omega
        have hp3:(p:Int) < (n:Int):=by omega
        have hr3:(r:Int) < (n:Int):=by omega
        have hpn:p < n:=by omega
        have hrn:r < n:=by omega
        rw [hp] at e1 hw2
        rw [hr] at e2 hw1
        by_cases hxy:x=y
        ·have d1:((x.toNat:Int) == (y.toNat:Int))=true:=by rw [hxy];exact beq_self_eq_true _
         rw [if_pos ⟨hb3,hxy⟩,HC.out] at HS2
         clear HX HY HS hp hr hxy
         go_wp2_with fail
         go_quiet (fail)
         go_wp2_with fail
         go_roundw
         case rel=>exact ⟨m+1,by omega,by omega,by go_num,HS2.out.symm,HWNH.out _⟩
         case measure=>simp [intOf] <;> omega
        ·have d1:((x.toNat:Int) == (y.toNat:Int))=false:=beq_eq_false_iff_ne.2 (fun e=>hxy (UInt8.toNat_inj.1 (by omega)))
         rw [if_neg (fun e=>hxy e.2),HC.out] at HS2
         have hmC:=HS2.out
         clear HX HY HS hp hr hxy HC
         go_wp2_with fail
         go_quiet (fail)
         have HWX:=HWNH.out nq
         subst hmC
         have hcm:=comP_le bs i a (by omega)
         generalize comP bs i a=C at *
         by_cases hbest:best < C
         ·have hbi:(C:Int) > (best:Int):=by omega
          have HN2:=Lib.hid (HMORE.out hbest)
          rw [HM.out] at HN2
          have hai2:(a:Int) - (i:Int)=((a - i:Nat):Int):=by omega
          clear HMORE HLESS hbest
          go_wp2_with fail
          go_roundw
          case rel=>exact ⟨i,seen+1,C,a - i,by omega,by omega,by omega,by omega,(by go_num),(by rw [← hai2]),(by go_num),(by go_num),HN2.out.symm,HWX⟩
          case measure=>simp [intOf] <;> omega
         ·have hbi:¬ (C:Int) > (best:Int):=by omega
          have HN2:=Lib.hid (HLESS.out hbest)
          rw [HM.out] at HN2
          clear HMORE HLESS hbest
          go_wp2_with fail
          go_roundw
          case rel=>exact ⟨i,seen+1,best,dist,by omega,by omega,by omega,by omega,rfl,rfl,(by go_num),by go_num,HN2.out.symm,HWX⟩
          case measure=>simp [intOf] <;> omega
       ·have h2i:¬ (a:Int)+(m:Int) < (n:Int):=by omega
        have HS2:=Lib.hid (HS.out h1)
        rw [if_neg (fun e=>h2 (hl ▸ e.1)),HC.out] at HS2
        obtain ⟨r,hr⟩:∃ r,a+m=r:=⟨_,rfl⟩
        have hr2:(a:Int)+(m:Int)=(r:Int):=by omega
        have hr3:¬ (r:Int) < (n:Int):=by omega
        have hrn:¬ r < n:=by omega
        have hrn2:n≤r:=by omega
        have hr4:decide ((r:Int) < (n:Int))=false:=decide_eq_false hr3
        rw [hr] at hw1
        clear hw2
        have hmC:=HS2.out
        clear HS HC
        go_wp2_with fail
        go_quiet (fail)
        have HWX:=HWNH.out nq
        subst hmC
        have hcm:=comP_le bs i a (by omega)
        generalize comP bs i a=C at *
        by_cases hbest:best < C
        ·have hbi:(C:Int) > (best:Int):=by omega
         have HN2:=Lib.hid (HMORE.out hbest)
         rw [HM.out] at HN2
         have hai2:(a:Int) - (i:Int)=((a - i:Nat):Int):=by omega
         clear HMORE HLESS hbest
         go_wp2_with fail
         go_roundw
         case rel=>exact ⟨i,seen+1,C,a - i,by omega,by omega,by omega,by omega,(by go_num),(by rw [← hai2]),(by go_num),(by go_num),HN2.out.symm,HWX⟩
         case measure=>simp [intOf] <;> omega
        ·have hbi:¬ (C:Int) > (best:Int):=by omega
         have HN2:=Lib.hid (HLESS.out hbest)
         rw [HM.out] at HN2
         clear HMORE HLESS hbest
         go_wp2_with fail
         go_roundw
         case rel=>exact ⟨i,seen+1,best,dist,by omega,by omega,by omega,by omega,rfl,rfl,(by go_num),by go_num,HN2.out.symm,HWX⟩
         case measure=>simp [intOf] <;> omega
      ·obtain rfl:m=258:=by omega
       have h1i:¬ (258:Int) < 258:=by omega
       have HS2:comP bs i a=258:=(show _=_ by rw [← HC.out];rfl)
       rw [HS2] at HMORE HLESS
       clear HS HC HS2
       go_wp2_with fail
       go_quiet (fail)
       have HWX:=HWNH.out nq
       by_cases hbest:best < 258
       ·have hbi:(258:Int) > (best:Int):=by omega
        have HN2:=Lib.hid (HMORE.out hbest)
        rw [HM.out] at HN2
        have hai2:(a:Int) - (i:Int)=((a - i:Nat):Int):=by omega
        clear HMORE HLESS hbest
        go_wp2_with fail
        go_roundw
        case rel=>exact ⟨i,seen+1,258,a - i,by omega,by omega,by omega,by omega,(by go_num),(by rw [← hai2]),(by go_num),(by go_num),HN2.out.symm,HWX⟩
        case measure=>simp [intOf] <;> omega
       ·have hbi:¬ (258:Int) > (best:Int):=by omega
        have HN2:=Lib.hid (HLESS.out hbest)
        rw [HM.out] at HN2
        clear HMORE HLESS hbest
        go_wp2_with fail
        go_roundw
        case rel=>exact ⟨i,seen+1,best,dist,by omega,by omega,by omega,by omega,rfl,rfl,(by go_num),by go_num,HN2.out.symm,HWX⟩
        case measure=>simp [intOf] <;> omega
    ·rw [decide_eq_false h3] at HT
     have HN2:Hid (mrF bs a i seen best dist=matP bs a):=(show _=_ by rw [← HM.out,mrF_skip ⟨hs1,hs2⟩ h3])
     clear h3
     go_wp2_with (go_at_call 162;(with_reducible refine HT.out.mono ?_);go_must (rintro e w1 ⟨rfl,hw1⟩;have HW1:Hid (∃ q,w1=w.drewN q):=(show ∃ q,_ by obtain ⟨q1,rfl⟩:=hw1;obtain ⟨q,rfl⟩:=HW.out;exact ⟨q+q1,by rw [World.drewN_drewN]⟩);clear hw1))
     go_roundw
     case rel=>exact ⟨i,seen,best,dist,by omega,hseen,hbest9,hdist9,rfl,rfl,by go_num,rfl,HN2,HW1⟩
     case measure=>simp [intOf] <;> omega
   ·have HE:Hid ((best,dist)=matP bs a):=(show _=_ by rw [← HM.out,mrF_stop hst])
    by_cases hs1:a - i≤32768
    ·have hs1i:(a:Int) - (i:Int)≤32768:=by omega
     have hs2i:¬ (seen:Int) < 64:=by omega
     go_wp2_with fail
     go_ret2
     exact ⟨by rw [← HE.out];rfl,HW.out⟩
    ·have hs1i:¬ (a:Int) - (i:Int)≤32768:=by omega
     go_wp2_with fail
     go_ret2
     exact ⟨by rw [← HE.out];rfl,HW.out⟩
end Go.Proofs.YteoolehdomjkkaaGreat

/- Rows of aquref5.Token: 3 cells an element. -/
namespace Go.Proofs.YteoolehdomjkkaaGreat
set_option linter.all false
open Go.RowKit
def eJ (x:(Nat × Nat × Nat)):List Value:=[Value.int .i64 (x.1:Int),Value.int .i64 (x.2.1:Int),Value.int .i64 (x.2.2:Int)]
theorem eJ_len (x:(Nat × Nat × Nat)):(eJ x).length=3:=rfl
/-- The cells of a list. -/
def cJ (l:List (Nat × Nat × Nat)):List Value:=l.flatMap eJ
theorem cJ_length:∀ l:List (Nat × Nat × Nat),(cJ l).length=l.length * 3
 | []=>rfl
 | x :: l=>by
  have:=cJ_length l
  unfold cJ at this ⊢
  rw [List.flatMap_cons,List.length_append,this,eJ_len,List.length_cons]
  omega
theorem cJ_append (a b:List (Nat × Nat × Nat)):cJ (a ++ b)=cJ a ++ cJ b:=by simp [cJ]
theorem cJ_single (x:(Nat × Nat × Nat)):cJ [x]=eJ x:=by simp [cJ]
theorem cJ_get:∀ (l:List (Nat × Nat × Nat)) (k j:Nat) (hk:k < l.length),j < 3→(cJ l)[k * 3+j]?=(eJ l[k])[j]?
 | x :: l,0,j,_,hj=>by
  unfold cJ
  rw [List.flatMap_cons,List.getElem?_append_left (by rw [eJ_len];omega)]
  simp
 | x :: l,i+1,j,hi,hj=>by
  have:=cJ_get l i j (by simpa using hi) hj
  unfold cJ at this ⊢
  rw [List.flatMap_cons,List.getElem?_append_right (by rw [eJ_len];omega),eJ_len,List.getElem_cons_succ,← this]
  congr 1
  omega
theorem cJ_one (l:List (Nat × Nat × Nat)):∀ u ∈ cJ l,u.oneCell'=true:=by
 intro u hu
 simp only [cJ,List.mem_flatMap] at hu
 obtain ⟨x,_,hx⟩:=hu
 simp only [eJ,List.mem_cons,List.not_mem_nil,or_false] at hx
 rcases hx with rfl | rfl | rfl <;> rfl
theorem cJ_set (l:List (Nat × Nat × Nat)) (k:Nat) (x:(Nat × Nat × Nat)) (hk:k < l.length):cJ (l.set k x)=(((cJ l).set (k * 3) (Value.int .i64 (x.1:Int))).set (k * 3+1) (Value.int .i64 (x.2.1:Int))).set (k * 3+2) (Value.int .i64 (x.2.2:Int)):=by
 have e1:l=l.take k ++ l[k] :: l.drop (k+1):=by rw [← List.drop_eq_getElem_cons hk,List.take_append_drop]
 have e2:l.set k x=l.take k ++ x :: l.drop (k+1):=by rw [List.set_eq_take_append_cons_drop,if_pos hk]
 rw [e2]
 have hl:(cJ (l.take k)).length=k * 3:=by rw [cJ_length,List.length_take,Nat.min_eq_left (by omega)]
 have e3:cJ l=cJ (l.take k) ++ (eJ l[k] ++ cJ (l.drop (k+1))):=by
  conv=>lhs;rw [e1]
  rw [cJ_append]
  simp only [cJ,List.flatMap_cons]
 have e4:cJ (l.take k ++ x :: l.drop (k+1))=cJ (l.take k) ++ (eJ x ++ cJ (l.drop (k+1))):=by
  rw [cJ_append]
  simp only [cJ,List.flatMap_cons]
 rw [e3,e4]
 generalize cJ (l.take k)=P at *
 rw [← hl]
 simp [eJ,List.set_append]
theorem Tryz.info_J:(Tryz.prog.info? 143).map (fun i=>(i.zero,i.size,i.bytes))=some (some (.agg #[.int .i64 0,.int .i64 0,.int .i64 0]),3,24):=by kernel_rfl
def ownJ (w:World) (base:Nat) (v:Value) (l:List (Nat × Nat × Nat)):Prop:=w.ownsRow base 143 3 v l.length (cJ l)
def RdJ (w:World) (B:Nat) (A:Option Addr) (n:Nat) (l:List (Nat × Nat × Nat)):Prop:=Rd w B 3 A n (cJ l)
theorem RdJ.len {w:World} {B n:Nat} {A:Option Addr} {l:List (Nat × Nat × Nat)} (h:RdJ w B A n l):l.length=n:=by
 have:=h.1;rw [cJ_length] at this;omega
theorem RdJ.one {w:World} {B n:Nat} {A:Option Addr} {l:List (Nat × Nat × Nat)} (h:RdJ w B A n l) {k:Nat} (hk:k < n) :
  ∃ b o x,A=some ⟨b,o,none⟩∧b < B∧Hid (l[k]?=some x)∧w.cell? ⟨b,o+k * 3,none⟩=some (Value.int .i64 (x.1:Int))∧w.cell? ⟨b,o+k * 3+1,none⟩=some (Value.int .i64 (x.2.1:Int))∧w.cell? ⟨b,o+k * 3+2,none⟩=some (Value.int .i64 (x.2.2:Int)):=by
 obtain ⟨b,o,e,hb,hc⟩:=h.2 (by omega)
 have hl:=h.len
 have hk':k < l.length:=by omega
 refine ⟨b,o,l[k],e,hb,List.getElem?_eq_getElem hk',?_,?_,?_⟩
 ·exact hc (k * 3) _ ((cJ_get l k 0 hk' (by omega)).trans rfl)
 ·exact hc (k * 3+1) _ ((cJ_get l k 1 hk' (by omega)).trans rfl)
 ·exact hc (k * 3+2) _ ((cJ_get l k 2 hk' (by omega)).trans rfl)
theorem RdJ.blw {w w':World} {B n:Nat} {A:Option Addr} {l:List (Nat × Nat × Nat)} (h:RdJ w B A n l) (hb:Below B w w'):RdJ w' B A n l:=Rd.below h hb
theorem RdJ.more {w:World} {B B' n:Nat} {A:Option Addr} {l:List (Nat × Nat × Nat)} (h:RdJ w B A n l) (hB:B≤B'):RdJ w B' A n l:=Rd.more h hB
theorem RdJ.here {w:World} {B n:Nat} {A:Option Addr} {l:List (Nat × Nat × Nat)} (h:RdJ w B A n l):RdJ w w.heap.size A n l :=
 ⟨h.1,fun hn=>by
  obtain ⟨b,o,e,hb,hc⟩:=h.2 hn
  have hl:=h.1
  exact ⟨b,o,e,block_lt_of_cell (a:=⟨b,o+0,none⟩) (hc 0 (cJ l)[0] (List.getElem?_eq_getElem (by omega))),hc⟩⟩
theorem RdJ.later {w w':World} {n:Nat} {A:Option Addr} {l:List (Nat × Nat × Nat)} (h:RdJ w w.heap.size A n l) (hb:Below w.heap.size w w'):RdJ w' w'.heap.size A n l:=RdJ.here (RdJ.blw h hb)
theorem RdJ.alloc {w:World} {B n:Nat} {A:Option Addr} {l:List (Nat × Nat × Nat)} (h:RdJ w B A n l) (hB:B≤w.heap.size) (o:Obj):RdJ (w.alloc o) B A n l:=Rd.alloc h hB o
theorem RdJ.nil_ {w:World} {B:Nat} {A:Option Addr}:RdJ w B A 0 []:=⟨by simp [cJ],fun h=>absurd h (by omega)⟩
theorem RdJ.cut {w:World} {B n:Nat} {A:Option Addr} {l:List (Nat × Nat × Nat)} (h:RdJ w B A n l) {k m:Nat} (hk:k+m≤n) {A':Option Addr} (hA:0 < m→A'=A.map (·.add (k * 3))) :
  RdJ w B A' m ((l.drop k).take m):=by
 have:=Rd.cut h hk (A':=A') hA
 unfold RdJ
 have e1:∀ (q:Nat) (l:List (Nat × Nat × Nat)),cJ (l.take q)=(cJ l).take (q * 3):=fun q l=>by
  rcases Nat.lt_or_ge q l.length with hq | hq
  ·conv=>rhs;rw [← List.take_append_drop q l,cJ_append]
   rw [List.take_left' (by rw [cJ_length,List.length_take,Nat.min_eq_left (by omega)])]
  ·rw [List.take_of_length_le hq,List.take_of_length_le (by rw [cJ_length];exact Nat.mul_le_mul_right _ hq)]
 have e2:∀ (q:Nat) (l:List (Nat × Nat × Nat)),cJ (l.drop q)=(cJ l).drop (q * 3):=fun q l=>by
  rcases Nat.lt_or_ge q l.length with hq | hq
  ·conv=>rhs;rw [← List.take_append_drop q l,cJ_append]
   rw [List.drop_left' (by rw [cJ_length,List.length_take,Nat.min_eq_left (by omega)])]
  ·rw [List.drop_eq_nil_of_le hq,List.drop_eq_nil_of_le (by rw [cJ_length];exact Nat.mul_le_mul_right _ hq)]
   rfl
 rw [e1,e2]
 exact this
theorem ownJ.nil_ (w:World) (base:Nat):ownJ w base (.slice none 0 0) []:=World.ownsRow_nil _ _ _ _
theorem ownJ.mono {w:World} {base base':Nat} {v:Value} {l:List (Nat × Nat × Nat)} (h:ownJ w base v l) (hb:base'≤base):ownJ w base' v l:=by
 refine ⟨h.1,?_⟩
 rcases h.2 with hn | ⟨g,cap,cur,rfl,hbg,rest⟩
 ·exact .inl hn
 ·exact .inr ⟨g,cap,cur,rfl,by omega,rest⟩
theorem ownJ.later {w w':World} {base:Nat} {v:Value} {l:List (Nat × Nat × Nat)} (h:ownJ w base v l) (hb:Below w.heap.size w w'):ownJ w' base v l :=
 Below.ownsRow h hb (fun g hg=>(World.ownsRow.lt h g hg).2)
theorem ownJ.alloc {w:World} {base:Nat} {v:Value} {l:List (Nat × Nat × Nat)} (h:ownJ w base v l) (o:Obj):ownJ (w.alloc o) base v l:=World.ownsRow.alloc h o
theorem ownJ.drew {w:World} {base:Nat} {v:Value} {l:List (Nat × Nat × Nat)} (h:ownJ w base v l):ownJ w.drew base v l:=h
theorem ownJ.drewN {w:World} {base:Nat} {v:Value} {l:List (Nat × Nat × Nat)} (h:ownJ w base v l) (n:Nat):ownJ (w.drewN n) base v l:=h
theorem ownJ.form {w:World} {base:Nat} {v:Value} {l:List (Nat × Nat × Nat)} (h:ownJ w base v l) :
  ∃ A c,v=.slice A l.length c∧RdJ w w.heap.size A l.length l∧l.length≤c∧c≤maxLen:=by
 rcases h.2 with ⟨rfl,h0⟩ | ⟨g,cap,cur,rfl,_,_,h1,h2,_⟩
 ·have:l=[]:=List.eq_nil_of_length_eq_zero h0
  subst this
  exact ⟨none,0,rfl,Rd.none_,by simp,by simp⟩
 ·exact ⟨_,_,rfl,Rd.of_own h,h1,h2⟩
theorem ownJ.kept {w w':World} {base:Nat} {v:Value} {l:List (Nat × Nat × Nat)} {row:Option Nat} (h:ownJ w base v l) (hg:w.grownBy w' row) (hne:v.ownBlock=none∨v.ownBlock ≠ row):ownJ w' base v l :=
 World.ownsRow.kept h hg hne
theorem ownJ.far {w:World} {base g:Nat} {v:Value} {l:List (Nat × Nat × Nat)} (h:ownJ w base v l) (hg:v.ownBlock ≠ some g) (o:Nat) (u:Value) :
  ownJ (w.setCell ⟨g,o,none⟩ u) base v l:=by
 refine ⟨h.1,?_⟩
 rcases h.2 with hn | ⟨g',cap,cur,rfl,hb,hgg,rest⟩
 ·exact .inl hn
 ·refine .inr ⟨g',cap,cur,rfl,hb,?_,rest⟩
  rw [Below.heap_setCell _ _ _ _ (by intro e;apply hg;simp [Value.ownBlock];exact e)]
  exact hgg
theorem ownJ.ne {w:World} {base g:Nat} {v:Value} {l:List (Nat × Nat × Nat)} (h:ownJ w base v l) (hg:g < base):v.ownBlock ≠ some g:=by
 intro e
 have:=(World.ownsRow.lt h g e).1
 omega
theorem ownJ.pos {w:World} {base n c:Nat} {A:Option Addr} {l:List (Nat × Nat × Nat)} (h:ownJ w base (.slice A n c) l) (hn:0 < n):n=l.length∧∃ g,A=some ⟨g,0,none⟩∧base≤g∧g < w.heap.size:=by
 rcases h.2 with ⟨h',_⟩ | ⟨g,cap,cur,h',hb,hg,_⟩
 ·injection h' with _ h2;omega
 ·injection h' with h1 h2
  exact ⟨h2,g,h1,hb,(World.ownsRow.lt h g (by rw [h1];rfl)).2⟩
theorem ownJ.cell {w:World} {base g n c:Nat} {l:List (Nat × Nat × Nat)} (h:ownJ w base (.slice (some ⟨g,0,none⟩) n c) l) (hn:n=l.length) {k:Nat} (hk:k < l.length) :
  w.cell? ⟨g,k * 3,none⟩=some ((fun x:(Nat × Nat × Nat)=>Value.int .i64 (x.1:Int)) l[k])∧w.cell? ⟨g,k * 3+1,none⟩=some ((fun x:(Nat × Nat × Nat)=>Value.int .i64 (x.2.1:Int)) l[k])∧w.cell? ⟨g,k * 3+2,none⟩=some ((fun x:(Nat × Nat × Nat)=>Value.int .i64 (x.2.2:Int)) l[k]):=by
 subst hn
 refine ⟨?_,?_,?_⟩
 ·exact (World.ownsRow.cellAt h (k * 3) (by have:=hk;omega)).trans ((cJ_get l k 0 hk (by omega)).trans rfl)
 ·exact (World.ownsRow.cellAt h (k * 3+1) (by have:=hk;omega)).trans ((cJ_get l k 1 hk (by omega)).trans rfl)
 ·exact (World.ownsRow.cellAt h (k * 3+2) (by have:=hk;omega)).trans ((cJ_get l k 2 hk (by omega)).trans rfl)
theorem ownJ.frozen {w:World} {base g n c:Nat} {l:List (Nat × Nat × Nat)} (h:ownJ w base (.slice (some ⟨g,0,none⟩) n c) l) (hn:n=l.length) (k:Nat) :
  w.frozen? ⟨g,k,none⟩=false:=by
 subst hn
 exact World.ownsRow.frozenAt h k
theorem ownJ.store {w:World} {base g n c:Nat} {l:List (Nat × Nat × Nat)} (h:ownJ w base (.slice (some ⟨g,0,none⟩) n c) l) (hn:n=l.length) (k:Nat) (x:(Nat × Nat × Nat)) (hk:k < l.length) :
  ownJ (((w.setCell ⟨g,k * 3,none⟩ (Value.int .i64 (x.1:Int))).setCell ⟨g,k * 3+1,none⟩ (Value.int .i64 (x.2.1:Int))).setCell ⟨g,k * 3+2,none⟩ (Value.int .i64 (x.2.2:Int))) base (.slice (some ⟨g,0,none⟩) n c) (l.set k x):=by
 subst hn
 have h0:w.ownsRow base 143 3 (.slice (some ⟨g,0,none⟩) l.length c) l.length (cJ l):=h
 have h1:=(World.ownsRow.stored h0 (k * 3) (Value.int .i64 (x.1:Int))).1
 have h2:=(World.ownsRow.stored h1 (k * 3+1) (Value.int .i64 (x.2.1:Int))).1
 have h3:=(World.ownsRow.stored h2 (k * 3+2) (Value.int .i64 (x.2.2:Int))).1
 unfold ownJ
 rw [List.length_set,cJ_set l k x hk]
 exact h3
theorem ownJ.rd {w:World} {base n c:Nat} {A:Option Addr} {l:List (Nat × Nat × Nat)} (h:ownJ w base (.slice A n c) l):RdJ w w.heap.size A n l:=by
 obtain ⟨A4,c4,e5,hd4,_,_⟩:=h.form
 injection e5 with e1 e2 e3
 rw [e1,e2]
 exact hd4
/-- One element that lies in a block, whole. -/
theorem rd_oneJ (w:World) (x:(Nat × Nat × Nat)) (t:TypeId) (fr:Nat × Nat):RdJ (w.alloc (.cells (eJ x).toArray t fr)) (w.heap.size+1) (some ⟨w.heap.size,0,none⟩) 1 [x]:=by
 refine ⟨by rw [cJ_length];rfl,fun _=>⟨_,_,rfl,by omega,fun j u hu=>?_⟩⟩
 rw [Nat.zero_add]
 have:=cell_of_row (w.alloc (.cells (eJ x).toArray t fr)) w.heap.size j (eJ x).toArray t fr (heap_alloc_new w _)
 rw [this]
 rw [cJ_single] at hu
 simpa using hu
set_option maxRecDepth 100000 in
theorem run_appendJ (w:World) (base:Nat) (t2:TypeId) (v:Value) (l:List (Nat × Nat × Nat)) (hown:ownJ w base v l) (B m c:Nat) (A:Option Addr) (news:List (Nat × Nat × Nat)) (hr:RdJ w B A m news)
  (hb:l.length+m≤1099511627776) (hbase:base≤w.heap.size) :
  ∃ v' w',(Builtin.append_ #[87,87] t2 #[v,.slice A m c]).run Tryz.prog w=.ok v' w'∧ownJ w' base v' (l ++ news)∧w.grownBy w' v.ownBlock ∧
   (v'.ownBlock=v.ownBlock∨v'.ownBlock=some w.heap.size)∧(v'=.slice none 0 0 ↔ v=.slice none 0 0∧m=0):=by
 obtain ⟨i0,hi,hz0,hz1,hz2⟩:=info_parts Tryz.info_J
 have hl:=hr.len
 subst hl
 unfold ownJ
 rw [List.length_append,cJ_append]
 rcases A with _ | ad
 ·have hn:news=[]:=by
   rcases Nat.eq_zero_or_pos news.length with h0 | h0
   ·exact List.eq_nil_of_length_eq_zero h0
   ·obtain ⟨b,o,h,_⟩:=hr.2 h0
    cases h
  subst hn
  refine ⟨v,w,?_,by simpa [cJ,ownJ] using hown,World.grownBy.refl w _,.inl rfl,by simp⟩
  rcases hown.2 with ⟨rfl,h0⟩ | ⟨g,cap,cur,rfl,_,_,hnc,_⟩
  ·simp [Builtin.append_,run_underlying Tryz.underlying87,sizeOf,typeInfo,hi,Builtin.lenOf,Builtin.firstCells]
  ·simp [Builtin.append_,run_underlying Tryz.underlying87,sizeOf,typeInfo,hi,Builtin.lenOf,Builtin.firstCells,hnc,storeCells]
 ·have hcells:∀ j u,(cJ news)[j]?=some u→w.cell? (ad.add j)=some u:=by
   intro j u hu
   rcases Nat.eq_zero_or_pos news.length with h0 | h0
   ·have hn:news=[]:=List.eq_nil_of_length_eq_zero h0
    subst hn
    simp [cJ] at hu
   ·obtain ⟨b,o,h,_,hc⟩:=hr.2 h0
    injection h with h
    subst h
    rw [add_none]
    exact hc j u hu
  obtain ⟨v',w',hrun,h2,h3,h4,h5⟩:=run_append_own_at (P:=Tryz.prog) w base 87 t2 143 i0 _ 3 24 Tryz.underlying87 hi hz0 hz1 hz2 rfl (by omega) v l.length (cJ l) hown ad news.length c (cJ news) (by rw [cJ_length]) hcells (cJ_one _) (by unfold maxLen;omega) (by omega) hbase
  exact ⟨v',w',hrun,h2,h3,h5,h4⟩
/-- append(v, x...): v the call's own, x whatever. -/
theorem wpList_appendJ {w:World} {ops:Array Oper} {rest:List Oper} {o:Oper} {a:Act} {Q:Exit→Act→World→Prop} (hgd:o.guard=none) (s x:Operand)
  (ho:o.op=.call { callee:=.builtin .append,args:=#[s,x],argTypes:=#[87,87] })
  (base:Nat) (v:Value) (l:List (Nat × Nat × Nat)) (hs:a.eval s=v) (hown:ownJ w base v l) (B m c:Nat) (A:Option Addr) (news:List (Nat × Nat × Nat)) (hx:a.eval x=.slice A m c) (hr:RdJ w B A m news)
  (hb:l.length+m≤1099511627776) (hbase:base≤w.heap.size)
  (h:∀ v' w',ownJ w' base v' (l ++ news)→w.grownBy w' v.ownBlock→Below base w w'→(v'.ownBlock=v.ownBlock∨v'.ownBlock=some w.heap.size)→wpList Tryz.prog ops Q rest (a.put o.dst v') w') :
  wpList Tryz.prog ops Q (o :: rest) a w:=by
 refine wpList_plain hgd fun K hK=>?_
 obtain ⟨v',w',hrun,h2,h3,h4,_⟩:=run_appendJ w base o.type v l hown B m c A news hr hb hbase
 unfold Oper.wp execOp
 simp only [ho,resolve,invoke,builtin,Sem.run_bind,Sem.run_pure,Result.andThen_ok,List.map_toArray,List.map_cons,List.map_nil,hs,hx,hrun]
 exact hK _ _ (h v' w' h2 h3 ((Below.refl _ _).grown h3 hbase (fun k hk=>(World.ownsRow.lt hown k hk).1)) h4)
end Go.Proofs.YteoolehdomjkkaaGreat
