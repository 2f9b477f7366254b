/- XLzP -/
import Derived.Test.YtebbdifhiihfkaaGreatDoorMh24
namespace Go.Proofs.YtebbdifhiihfkaaGreatDoor
set_option linter.all false
theorem getD_at {bs:List UInt8} {k:Nat} {x:UInt8} (h:bs[k]?=some x):bs.getD k 0=x:=by rw [List.getD_eq_getElem?_getD,h];rfl
abbrev Tri:=UInt8 × UInt8 × UInt8
def tri (b:List UInt8) (i:Nat):Tri:=(b.getD i 0,b.getD (i+1) 0,b.getD (i+2) 0)
/-- The last place of three bytes among the first i, and 1; 0: there is none. -/
def lastP (b:List UInt8):Nat→Tri→Nat
 | 0,_=>0
 | i+1,t=>if i+3≤b.length∧tri b i=t then i+1 else lastP b i t
/-- Of a place the one ahead with the same bytes, and 1. -/
def prevP (b:List UInt8) (j:Nat):Nat:=if b.length < j+3 then 0 else lastP b j (tri b j)
def prevL (b:List UInt8) (i:Nat):List Int:=(List.range i).map fun j=>((prevP b j:Nat):Int)
/-- How many bytes from two places on are the same. -/
def comF (b:List UInt8) (i k:Nat):Nat→Nat→Nat
 | 0,n=>n
 | f+1,n=>if k+n < b.length∧b.getD (i+n) 0=b.getD (k+n) 0 then comF b i k f (n+1) else n
def comP (b:List UInt8) (i k:Nat):Nat:=comF b i k 258 0
def matF (b:List UInt8) (at_:Nat):Nat→Nat→Nat→Nat→Nat × Nat
 | 0,_,best,dist=>(best,dist)
 | f+1,p,best,dist =>
  if p=0∨32768 < at_ - (p - 1) then (best,dist)
  else if best < comP b (p - 1) at_ then matF b at_ f (prevP b (p - 1)) (comP b (p - 1) at_) (at_ - (p - 1))
  else matF b at_ f (prevP b (p - 1)) best dist
/-- The match at a place. -/
def matP (b:List UInt8) (at_:Nat):Nat × Nat:=if b.length < at_+3 then (0,0) else matF b at_ 64 (lastP b at_ (tri b at_)) 0 0
/-- The token at a place. -/
def tokAt (b:List UInt8) (at_:Nat):Tok:=if (matP b at_).1=0 then (0,0,(b.getD at_ 0).toNat) else ((matP b at_).1,(matP b at_).2,0)
def stepAt (b:List UInt8) (at_:Nat):Nat:=if (matP b at_).1=0 then 1 else (matP b at_).1
def findF (b:List UInt8):Nat→Nat→List Tok
 | 0,_=>[]
 | f+1,at_=>if at_ < b.length then tokAt b at_ :: findF b f (at_+stepAt b at_) else []
/-- Bytes as tokens. -/
def findP (b:List UInt8):List Tok:=findF b b.length 0
theorem prevL_snoc (b:List UInt8) (i:Nat):prevL b (i+1)=prevL b i ++ [((prevP b i:Nat):Int)]:=by unfold prevL;rw [List.range_succ,List.map_append];rfl
theorem prevL_len (b:List UInt8) (i:Nat):(prevL b i).length=i:=by simp [prevL]
theorem prevL_get (b:List UInt8) {i j:Nat} (h:j < i):(prevL b i)[j]?=some ((prevP b j:Nat):Int):=by
 unfold prevL
 rw [List.getElem?_map,List.getElem?_range h]
 rfl
theorem lastP_le (b:List UInt8) (t:Tri):∀ i,lastP b i t≤i∧(lastP b i t=0∨(lastP b i t - 1+3≤b.length∧tri b (lastP b i t - 1)=t))
 | 0=>⟨Nat.le_refl _,.inl rfl⟩
 | i+1=>by
  unfold lastP
  split
  ·rename_i h
   exact ⟨Nat.le_refl _,.inr ⟨h.1,h.2⟩⟩
  ·have:=lastP_le b t i
   exact ⟨by omega,this.2⟩
theorem prevP_le (b:List UInt8) (j:Nat):prevP b j≤j∧(prevP b j=0∨(prevP b j - 1+3≤b.length∧tri b (prevP b j - 1)=tri b j)):=by
 unfold prevP
 split
 ·exact ⟨Nat.zero_le _,.inl rfl⟩
 ·exact lastP_le b (tri b j) j
theorem comF_le (b:List UInt8) (i k:Nat):∀ f n,comF b i k f n≤n+f∧(k+n≤b.length→k+comF b i k f n≤b.length)∧n≤comF b i k f n
 | 0,n=>⟨Nat.le_refl _,fun h=>h,Nat.le_refl _⟩
 | f+1,n=>by
  unfold comF
  split
  ·rename_i h
   have:=comF_le b i k f (n+1)
   exact ⟨by omega,fun _=>this.2.1 (by omega),by omega⟩
  ·exact ⟨by omega,fun h=>h,Nat.le_refl _⟩
theorem comF_on {b:List UInt8} {i k f n:Nat} (h1:k+n < b.length) (h2:b.getD (i+n) 0=b.getD (k+n) 0):comF b i k (f+1) n=comF b i k f (n+1):=if_pos ⟨h1,h2⟩
theorem comP_three {b:List UInt8} {i k:Nat} (h:k+3≤b.length) (ht:tri b i=tri b k):3≤comP b i k:=by
 have e0:b.getD i 0=b.getD k 0:=congrArg (·.1) ht
 have e1:b.getD (i+1) 0=b.getD (k+1) 0:=congrArg (·.2.1) ht
 have e2:b.getD (i+2) 0=b.getD (k+2) 0:=congrArg (·.2.2) ht
 unfold comP
 rw [show (258:Nat)=257+1 from rfl,comF_on (by omega) (by simpa using e0),show (257:Nat)=256+1 from rfl,comF_on (by omega) (by simpa using e1),show (256:Nat)=255+1 from rfl,comF_on (by omega) (by simpa using e2)]
 have:=(comF_le b i k 255 (0+1+1+1)).2.2
 omega
theorem comP_le (b:List UInt8) (i k:Nat) (h:k≤b.length):comP b i k≤258∧k+comP b i k≤b.length:=by
 have:=comF_le b i k 258 0
 unfold comP
 exact ⟨by omega,this.2.1 (by omega)⟩
/-- A place that a chain names. -/
def Cand (b:List UInt8) (at_ p:Nat):Prop:=p=0∨(p≤at_∧tri b (p - 1)=tri b at_)
theorem Cand.next {b:List UInt8} {at_ p:Nat} (h:Cand b at_ p) (hp:¬ p=0):Cand b at_ (prevP b (p - 1)):=by
 obtain ⟨h1,h2⟩:p≤at_∧tri b (p - 1)=tri b at_:=by rcases h with h | h;exact absurd h hp;exact h
 have h3:=prevP_le b (p - 1)
 rcases h3.2 with e | ⟨_,e⟩
 ·exact .inl e
 ·exact .inr ⟨by omega,e.trans h2⟩
theorem matF_ok {b:List UInt8} {at_:Nat} (ha:at_+3≤b.length):∀ f p best dist,Cand b at_ p→(best=0∨(3≤best∧best≤258∧at_+best≤b.length∧1≤dist∧dist≤32768∧dist≤at_)) →
  ((matF b at_ f p best dist).1=0∨(3≤(matF b at_ f p best dist).1∧(matF b at_ f p best dist).1≤258∧at_+(matF b at_ f p best dist).1≤b.length∧1≤(matF b at_ f p best dist).2∧(matF b at_ f p best dist).2≤32768∧(matF b at_ f p best dist).2≤at_))
 | 0,p,best,dist,_,h=>h
 | f+1,p,best,dist,hc,h=>by
  unfold matF
  split
  ·exact h
  ·rename_i hp
   have hp0:¬ p=0:=fun e=>hp (.inl e)
   have hd:at_ - (p - 1)≤32768:=by omega
   obtain ⟨h1,h2⟩:p≤at_∧tri b (p - 1)=tri b at_:=by rcases hc with h | h;exact absurd h hp0;exact h
   split
   ·have h3:=comP_three ha h2
    have h4:=comP_le b (p - 1) at_ (by omega)
    exact matF_ok ha f _ _ _ (hc.next hp0) (.inr ⟨h3,h4.1,h4.2,by omega,hd,by omega⟩)
   ·exact matF_ok ha f _ _ _ (hc.next hp0) h
theorem cand_first (b:List UInt8) (at_:Nat):Cand b at_ (lastP b at_ (tri b at_)):=by
 have:=lastP_le b (tri b at_) at_
 rcases this.2 with e | ⟨_,e⟩
 ·exact .inl e
 ·exact .inr ⟨this.1,e⟩
theorem matP_ok (b:List UInt8) (at_:Nat):(matP b at_).1=0∨(3≤(matP b at_).1∧(matP b at_).1≤258∧at_+(matP b at_).1≤b.length∧1≤(matP b at_).2∧(matP b at_).2≤32768∧(matP b at_).2≤at_):=by
 unfold matP
 split
 ·exact .inl rfl
 ·exact matF_ok (by omega) _ _ _ _ (cand_first b at_) (.inl rfl)
theorem stepAt_ok {b:List UInt8} {at_:Nat} (h:at_ < b.length):1≤stepAt b at_∧at_+stepAt b at_≤b.length∧stepAt b at_=max (tokAt b at_).1 1∧TokOK (tokAt b at_):=by
 unfold stepAt tokAt
 rcases matP_ok b at_ with e | ⟨h1,h2,h3,h4,h5,h6⟩
 ·rw [if_pos e,if_pos e]
  exact ⟨Nat.le_refl _,h,rfl,.inl ⟨rfl,(b.getD at_ 0).toNat_lt⟩⟩
 ·rw [if_neg (by omega),if_neg (by omega)]
  exact ⟨by omega,h3,by show (matP b at_).1=max (matP b at_).1 1;omega,.inr ⟨h1,h2,h4,h5⟩⟩
theorem findF_ok (b:List UInt8):∀ f at_,(∀ t ∈ findF b f at_,TokOK t)∧(at_≤b.length→tokSize (findF b f at_)≤b.length - at_)
 | 0,at_=>⟨fun t ht=>absurd ht (List.not_mem_nil),fun _=>Nat.zero_le _⟩
 | f+1,at_=>by
  unfold findF
  split
  ·rename_i h
   obtain ⟨h1,h2,h3,h4⟩:=stepAt_ok h
   obtain ⟨i1,i2⟩:=findF_ok b f (at_+stepAt b at_)
   refine ⟨fun t ht=>?_,fun _=>?_⟩
   ·rw [List.mem_cons] at ht
    rcases ht with rfl | ht
    ·exact h4
    ·exact i1 t ht
   ·have:=i2 h2
    unfold tokSize at this ⊢
    rw [List.map_cons,List.sum_cons,← h3]
    omega
  ·exact ⟨fun t ht=>absurd ht (by simp),fun _=>by simp [tokSize]⟩
theorem findP_ok (b:List UInt8):(∀ t ∈ findP b,TokOK t)∧tokSize (findP b)≤b.length:=⟨(findF_ok b b.length 0).1,(findF_ok b b.length 0).2 (Nat.zero_le _)⟩
end Go.Proofs.YtebbdifhiihfkaaGreatDoor

