/- XRb1 XRb2 XRb3 XRb4 XRb5 -/
import Derived.Test.YtebbdifhiihfkaaGreatDoorMh36
import Derived.Test.YtebbdifhiihfkaaGreatDoorMh25
import Derived.Test.YtebbdifhiihfkaaGreatDoorMh28
namespace Go.Proofs.YtebbdifhiihfkaaGreatDoor
set_option linter.all false
/-- Bits stand in bytes from place p on. -/
def Bits (bs:List UInt8) (p:Nat) (X:List Nat):Prop:=p+X.length≤8 * bs.length∧∀ j,j < X.length→bitAt bs (p+j)=X.getD j 0
theorem WB.bits {bs:List UInt8} {L:List Nat} (h:WB bs L):Bits bs 0 L:=⟨by have:=h.1;omega,fun j hj=>by rw [Nat.zero_add];exact h.2 j⟩
theorem Bits.left {bs:List UInt8} {p:Nat} {X Y:List Nat} (h:Bits bs p (X ++ Y)):Bits bs p X:=by
 obtain ⟨h1,h2⟩:=h
 rw [List.length_append] at h1 h2
 refine ⟨by omega,fun j hj=>?_⟩
 rw [h2 j (by omega),List.getD_eq_getElem?_getD,List.getD_eq_getElem?_getD,List.getElem?_append_left hj]
theorem Bits.right {bs:List UInt8} {p:Nat} {X Y:List Nat} (h:Bits bs p (X ++ Y)):Bits bs (p+X.length) Y:=by
 obtain ⟨h1,h2⟩:=h
 rw [List.length_append] at h1 h2
 refine ⟨by omega,fun j hj=>?_⟩
 rw [Nat.add_assoc,h2 (X.length+j) (by omega),List.getD_eq_getElem?_getD,List.getD_eq_getElem?_getD,List.getElem?_append_right (by omega),Nat.add_sub_cancel_left]
theorem getV_bits {bs:List UInt8} {p v:Nat}:∀ m,(∀ j,j < m→bitAt bs (p+j)=v / 2 ^ j % 2)→getV bs p m=v % 2 ^ m
 | 0,_=>by rw [Nat.pow_zero,Nat.mod_one];rfl
 | m+1,h=>by
  rw [getV,getV_bits m (fun j hj=>h j (by omega)),h m (by omega),Nat.pow_succ,Nat.mod_mul,Nat.mul_comm]
theorem getP_bits {bs:List UInt8} {v m:Nat} {s:RS} (h:Bits bs s.p (lsb v m)) (hv:v < 2 ^ m) (he:s.e=0):getP bs s m=(v,⟨s.p+m,s.out,0⟩):=by
 obtain ⟨h1,h2⟩:=h
 rw [lsb_len] at h1 h2
 unfold getP
 rw [if_pos he,if_pos h1,getV_bits m (fun j hj=>by rw [h2 j hj,List.getD_eq_getElem?_getD,lsb_get v m j hj];rfl),Nat.mod_eq_of_lt hv]
theorem nextP_bits {bs:List UInt8} {ls:List Int} {p t:Nat} {s:RS} (hok:CodesOK ls) (hp:ls[p]?=some (t:Int)) (h0:0 < t) (h:Bits bs s.p (codeB ls p)) (he:s.e=0):nextP bs ls s=((p:Int),⟨s.p+(codeB ls p).length,s.out,0⟩):=by
 obtain ⟨-,hbad,hk⟩:=hok
 have hg:=good_at hbad hp
 have ht:t≤15:=by omega
 have hc:=codeAt_pos hp h0
 have hl:(codeB ls p).length=t:=by unfold codeB;rw [hc,msb_len];simp
 have hh:Hit ls t (fst ls t+cnt (ls.take p) t) p:=⟨hp,rfl⟩
 have hlt:fst ls t+cnt (ls.take p) t < 2 ^ t:=Nat.lt_of_lt_of_le (hit_bound h0 hh).2 (fst_pow ls hbad hk t ht)
 have hn:nx ls bs 15 1 0 s.p=((p:Int),0,s.p+t):=nx_code h0 ht hlt hh (by have:=h.1;rw [hl] at this;exact this) (fun j hj=>by
  rw [h.2 j (by rw [hl];exact hj),List.getD_eq_getElem?_getD]
  unfold codeB
  rw [hc,msb_get _ _ _ _ (by simpa using hj)]
  rfl)
 unfold nextP
 rw [if_pos he,hn,hl]
theorem head_bits {bs:List UInt8} {kind:Nat} {s:RS} (h:Bits bs s.p (headL kind)) (hk:kind < 4) (he:s.e=0):blk0 bs s=1∧blk1 bs s=kind∧blk2 bs s=⟨s.p+3,s.out,0⟩:=by
 have e:headL kind=lsb 1 1 ++ lsb kind 2:=rfl
 rw [e] at h
 have h1:=getP_bits h.left (by decide) he
 have h2:=getP_bits (s:=⟨s.p+1,s.out,0⟩) (by have:=h.right;rw [lsb_len] at this;exact this) (show kind < 2 ^ 2 from hk) rfl
 unfold blk0 blk1 blk2
 rw [h1]
 exact ⟨rfl,by rw [h2],by rw [h2]⟩
/-- The bytes of a copy. -/
theorem cpyF_ok {most:Int} {b:List UInt8} {dist:Nat} (hd:1≤dist):∀ (k a:Nat) (s:RS),s.e=0→s.out=b.take a→a+k≤b.length→dist≤a→((b.length:Nat):Int)≤most→(∀ j,a≤j→j < a+k→b.getD j 0=b.getD (j - dist) 0)→cpyF most dist k s=⟨s.p,b.take (a+k),0⟩
 | 0,a,s,he,ho,hk,hda,hm,hc=>by
  rw [cpyF,Nat.add_zero,← ho,← he]
 | k+1,a,s,he,ho,hk,hda,hm,hc=>by
  have hl:s.out.length=a:=by rw [ho,List.length_take];omega
  have hx:s.out.getD (s.out.length - dist) 0=b.getD a 0:=by
   rw [hl,ho,hc a (Nat.le_refl _) (by omega),List.getD_eq_getElem?_getD,List.getElem?_take_of_lt (by omega),← List.getD_eq_getElem?_getD]
  have hg:givesP most s (s.out.getD (s.out.length - dist) 0)=⟨s.p,b.take (a+1),0⟩:=by
   unfold givesP
   rw [if_neg (by rw [hl];omega),hx,ho,he,List.take_succ_eq_append_getElem (show a < b.length by omega),List.getD_eq_getElem?_getD,List.getElem?_eq_getElem (show a < b.length by omega)]
   rfl
  rw [cpyF,if_pos he,hg,cpyF_ok hd k (a+1) _ rfl rfl (by omega) (by omega) hm (fun j h1 h2=>hc j (by omega) (by omega)),show a+1+k=a+(k+1) by omega]
/-- A code for each of a token's symbols. -/
def TokC (ll dd:List Int) (t:Tok):Prop:=(∃ k:Nat,ll[symT t]?=some (k:Int)∧0 < k)∧∀ p ∈ dstT t,∃ k:Nat,dd[p]?=some (k:Int)∧0 < k
theorem tok_back {bs b:List UInt8} {most:Int} {ll dd:List Int} {a:Nat} {s:RS} (hl:CodesOK ll) (hd:CodesOK dd) (f:Nat) (hc:TokC ll dd (tokAt b a)) (ha:a < b.length) (hm:((b.length:Nat):Int)≤most) (he:s.e=0) (ho:s.out=b.take a)
  (hcp:(matP b a).1=0∨∀ j,a≤j→j < a+(matP b a).1→b.getD j 0=b.getD (j - (matP b a).2) 0) (h:Bits bs s.p (tokB ll dd (tokAt b a))) :
  toksF bs most ll (some dd) (f+1) s=toksF bs most ll (some dd) f ⟨s.p+(tokB ll dd (tokAt b a)).length,b.take (a+stepAt b a),0⟩:=by
 have hlo:s.out.length=a:=by rw [ho,List.length_take];omega
 rw [toksF,if_pos he]
 rcases matP_ok b a with e | ⟨h1,h2,h3,h4,h5,h6⟩
 ·have et:tokAt b a=(0,0,(b.getD a 0).toNat):=if_pos e
  have es:stepAt b a=1:=if_pos e
  rw [et] at h hc ⊢
  rw [es]
  obtain ⟨⟨k,hk,hk0⟩,-⟩:=hc
  replace hk:ll[(b.getD a 0).toNat]?=some (k:Int):=hk
  replace h:Bits bs s.p (codeB ll (b.getD a 0).toNat):=h
  have hx:=(b.getD a 0).toNat_lt
  have hn:=nextP_bits hl hk hk0 h he
  rw [hn]
  show (if (0:Int)=0 then _ else _)=_
  rw [if_pos rfl,if_neg (show ¬ (((b.getD a 0).toNat:Nat):Int)=256 by omega),if_pos (show (((b.getD a 0).toNat:Nat):Int) < 256 by omega)]
  congr 1
  unfold givesP
  rw [if_neg (by show ¬ most≤(s.out.length:Int);rw [hlo];omega)]
  show RS.mk _ (s.out ++ [UInt8.ofNat (((b.getD a 0).toNat:Nat):Int).toNat]) 0=_
  rw [Int.toNat_natCast,UInt8.ofNat_toNat,ho,List.take_succ_eq_append_getElem ha,List.getD_eq_getElem?_getD,List.getElem?_eq_getElem ha]
  rfl
 ·have e0:¬ (matP b a).1=0:=by omega
  have et:tokAt b a=((matP b a).1,(matP b a).2,0):=if_neg e0
  have es:stepAt b a=(matP b a).1:=if_neg e0
  have hcp2:∀ j,a≤j→j < a+(matP b a).1→b.getD j 0=b.getD (j - (matP b a).2) 0:=by rcases hcp with e | h;exact absurd e e0;exact h
  rw [et] at h hc ⊢
  rw [es]
  generalize (matP b a).1=len at *
  generalize (matP b a).2=dist at *
  obtain ⟨⟨k,hk,hk0⟩,hcd⟩:=hc
  have hs1:symT (len,dist,0)=257+lenS len:=if_neg e0
  have hs2:dstT (len,dist,0)=[distS dist]:=if_neg e0
  rw [hs1] at hk
  obtain ⟨kd,hkd,hkd0⟩:=hcd (distS dist) (by rw [hs2];exact List.mem_singleton_self _)
  have hl8:=lenS_spec h1
  have hd8:=distS_spec h4
  have hb:tokB ll dd (len,dist,0)=codeB ll (257+lenS len) ++ lsb (len - (lenOf (lenS len)).1) (lenOf (lenS len)).2 ++ codeB dd (distS dist) ++ lsb (dist - (distOf (distS dist)).1) (distOf (distS dist)).2:=if_neg e0
  rw [hb] at h ⊢
  have hb1:=h.left.left.left
  have hb2:=h.left.left.right
  have hb3:=h.left.right
  have hb4:=h.right
  rw [List.length_append,lsb_len] at hb3
  rw [List.length_append,List.length_append,lsb_len] at hb4
  have hn:=nextP_bits hl hk hk0 hb1 he
  rw [hn]
  show (if (0:Int)=0 then _ else _)=_
  rw [if_pos rfl,if_neg (show ¬ (((257+lenS len:Nat)):Int)=256 by omega),if_neg (show ¬ (((257+lenS len:Nat)):Int) < 256 by omega)]
  congr 1
  show copyP bs most ⟨s.p+(codeB ll (257+lenS len)).length,s.out,0⟩ (((257+lenS len:Nat):Int)).toNat (some dd)=_
  rw [Int.toNat_natCast]
  unfold copyP
  have hg1:=getP_bits (s:=⟨s.p+(codeB ll (257+lenS len)).length,s.out,0⟩) hb2 (lenS_fit h1 h2) rfl
  rw [if_neg (by omega),Nat.add_sub_cancel_left,hg1]
  show (if (0:Int)=0 then _ else _)=_
  rw [if_pos rfl,cpB]
  have hn2:=nextP_bits (s:=⟨s.p+(codeB ll (257+lenS len)).length+(lenOf (lenS len)).2,s.out,0⟩) hd hkd hkd0 (by rw [← Nat.add_assoc] at hb3;exact hb3) rfl
  rw [hn2]
  show (if (0:Int)=0∧(30:Int)≤((distS dist:Nat):Int) then _ else _)=_
  rw [if_neg (by omega)]
  show copiesP most (getP bs ⟨s.p+(codeB ll (257+lenS len)).length+(lenOf (lenS len)).2+(codeB dd (distS dist)).length,s.out,0⟩ (distOf (((distS dist:Nat):Int)).toNat).2).2 _ ((distOf (((distS dist:Nat):Int)).toNat).1+(getP bs ⟨s.p+(codeB ll (257+lenS len)).length+(lenOf (lenS len)).2+(codeB dd (distS dist)).length,s.out,0⟩ (distOf (((distS dist:Nat):Int)).toNat).2).1)=_
  rw [Int.toNat_natCast]
  have hg2:=getP_bits (s:=⟨s.p+(codeB ll (257+lenS len)).length+(lenOf (lenS len)).2+(codeB dd (distS dist)).length,s.out,0⟩) (by rw [← Nat.add_assoc,← Nat.add_assoc] at hb4;exact hb4) (distS_fit h4 h5) rfl
  rw [hg2]
  show copiesP most ⟨s.p+(codeB ll (257+lenS len)).length+(lenOf (lenS len)).2+(codeB dd (distS dist)).length+(distOf (distS dist)).2,s.out,0⟩ ((lenOf (lenS len)).1+(len - (lenOf (lenS len)).1)) ((distOf (distS dist)).1+(dist - (distOf (distS dist)).1))=_
  rw [show (lenOf (lenS len)).1+(len - (lenOf (lenS len)).1)=len by omega,show (distOf (distS dist)).1+(dist - (distOf (distS dist)).1)=dist by omega]
  unfold copiesP
  rw [if_neg (by show ¬ s.out.length < dist;omega),cpyF_ok h4 len a ⟨s.p+(codeB ll (257+lenS len)).length+(lenOf (lenS len)).2+(codeB dd (distS dist)).length+(distOf (distS dist)).2,s.out,0⟩ rfl ho h3 h6 hm hcp2]
  rw [List.length_append,List.length_append,List.length_append,lsb_len,lsb_len]
  congr 1
  show s.p+(codeB ll (257+lenS len)).length+(lenOf (lenS len)).2+(codeB dd (distS dist)).length+(distOf (distS dist)).2=_
  omega
/-- The end. -/
theorem end_back {bs:List UInt8} {most:Int} {ll:List Int} {D:Option (List Int)} {s:RS} {k:Nat} (hl:CodesOK ll) (f:Nat) (hk:ll[256]?=some (k:Int)) (hk0:0 < k) (he:s.e=0) (h:Bits bs s.p (codeB ll 256)) :
  toksF bs most ll D (f+1) s=⟨s.p+(codeB ll 256).length,s.out,0⟩:=by
 rw [toksF,if_pos he,nextP_bits hl hk hk0 h he]
 show (if (0:Int)=0 then _ else _)=_
 rw [if_pos rfl,if_pos (show ((256:Nat):Int)=256 from rfl)]
theorem comF_eq (b:List UInt8) (i k:Nat):∀ f n j,n≤j→j < comF b i k f n→b.getD (i+j) 0=b.getD (k+j) 0
 | 0,n,j,h1,h2=>by
  rw [comF] at h2
  omega
 | f+1,n,j,h1,h2=>by
  rw [comF] at h2
  split at h2
  ·rename_i hh
   by_cases e:j=n
   ·subst e;exact hh.2
   ·exact comF_eq b i k f (n+1) j (by omega) h2
  ·omega
theorem matF_copy (b:List UInt8) (a:Nat):∀ (f p best dist:Nat),p≤a→(∀ j,a≤j→j < a+best→b.getD j 0=b.getD (j - dist) 0)→∀ j,a≤j→j < a+(matF b a f p best dist).1→b.getD j 0=b.getD (j - (matF b a f p best dist).2) 0
 | 0,p,best,dist,hp,h=>h
 | f+1,p,best,dist,hp,h=>by
  rw [matF]
  split
  ·exact h
  ·rename_i hh
   have hp0:¬ p=0:=fun e=>hh (.inl e)
   have hq:prevP b (p - 1)≤a:=by have:=(prevP_le b (p - 1)).1;omega
   split
   ·refine matF_copy b a f _ _ _ hq (fun j h1 h2=>?_)
    have h3:=comF_eq b (p - 1) a 258 0 (j - a) (Nat.zero_le _) (by show j - a < comP b (p - 1) a;omega)
    rw [show a+(j - a)=j by omega] at h3
    rw [← h3]
    congr 1
    omega
   ·exact matF_copy b a f _ _ _ hq h
theorem matP_copy (b:List UInt8) (a:Nat):(matP b a).1=0∨∀ j,a≤j→j < a+(matP b a).1→b.getD j 0=b.getD (j - (matP b a).2) 0:=by
 unfold matP
 split
 ·exact .inl rfl
 ·exact .inr (matF_copy b a 64 _ 0 0 (lastP_le b (tri b a) a).1 (fun j h1 h2=>by omega))
theorem tokB_pos {ll dd:List Int} {t:Tok} (hl:CodesOK ll) (hc:TokC ll dd t):1≤(tokB ll dd t).length:=by
 obtain ⟨⟨k,hk,hk0⟩,-⟩:=hc
 unfold tokB
 unfold symT at hk
 split
 ·rename_i e
  rw [if_pos e] at hk
  rw [codeB_at hk hk0,msb_len]
  exact hk0
 ·rename_i e
  rw [if_neg e] at hk
  rw [List.length_append,List.length_append,List.length_append,codeB_at hk hk0,msb_len]
  omega
/-- All tokens and the end. -/
theorem toks_back {bs b:List UInt8} {most:Int} {ll dd:List Int} (hl:CodesOK ll) (hd:CodesOK dd) (hm:((b.length:Nat):Int)≤most) (h256:∃ k:Nat,ll[256]?=some (k:Int)∧0 < k):∀ (fb a f:Nat) (s:RS),a≤b.length→b.length≤a+fb→s.e=0→s.out=b.take a→(∀ t ∈ findF b fb a,TokC ll dd t)→Bits bs s.p (toksB ll dd (findF b fb a))→(toksB ll dd (findF b fb a)).length≤f →
  toksF bs most ll (some dd) f s=⟨s.p+(toksB ll dd (findF b fb a)).length,b,0⟩
 | fb,a,f,s,ha,hfb,he,ho,hc,h,hf=>by
  obtain ⟨k,hk,hk0⟩:=h256
  by_cases hlt:a < b.length
  ·obtain ⟨fb,rfl⟩:∃ g,fb=g+1:=⟨fb - 1,by omega⟩
   have e:findF b (fb+1) a=tokAt b a :: findF b fb (a+stepAt b a):=if_pos hlt
   have et:toksB ll dd (findF b (fb+1) a)=tokB ll dd (tokAt b a) ++ toksB ll dd (findF b fb (a+stepAt b a)):=by
    rw [e]
    unfold toksB
    rw [List.flatMap_cons,List.append_assoc]
   rw [e] at hc
   rw [et] at h hf ⊢
   rw [List.length_append] at hf ⊢
   have hst:=stepAt_ok hlt
   have hc0:=hc (tokAt b a) (List.mem_cons_self ..)
   have hp:=tokB_pos hl hc0
   obtain ⟨f,rfl⟩:∃ g,f=g+1:=⟨f - 1,by omega⟩
   rw [tok_back hl hd f hc0 hlt hm he ho (matP_copy b a) h.left]
   have:=toks_back hl hd hm ⟨k,hk,hk0⟩ fb (a+stepAt b a) f ⟨s.p+(tokB ll dd (tokAt b a)).length,b.take (a+stepAt b a),0⟩ hst.2.1 (by omega) rfl rfl (fun t ht=>hc t (List.mem_cons_of_mem _ ht)) h.right (by omega)
   rw [this]
   congr 1
   show s.p+(tokB ll dd (tokAt b a)).length+_=_
   omega
  ·obtain rfl:a=b.length:=by omega
   have e:findF b fb b.length=[]:=by
    cases fb with
    | zero=>rfl
    | succ fb=>exact if_neg hlt
   rw [e] at h hf ⊢
   have et:toksB ll dd []=codeB ll 256:=rfl
   rw [et] at h hf ⊢
   have hp:1≤(codeB ll 256).length:=by rw [codeB_at hk hk0,msb_len];exact hk0
   obtain ⟨f,rfl⟩:∃ g,f=g+1:=⟨f - 1,by omega⟩
   rw [end_back hl f hk hk0 he h,ho,List.take_length]
end Go.Proofs.YtebbdifhiihfkaaGreatDoor

/- flate: what is written is read back, plainly: a stored block, a block of the fixed codes. -/
namespace Go.Proofs.YtebbdifhiihfkaaGreatDoor
set_option linter.all false
theorem plnF_back {bs:List UInt8} {most:Int}:∀ (l:List UInt8) (s:RS),s.e=0→((s.out.length+l.length:Nat):Int)≤most→Bits bs s.p (bytesB l)→plnF bs most l.length s=⟨s.p+8 * l.length,s.out ++ l,0⟩
 | [],s,he,hm,h=>by
  rw [List.length_nil,plnF,List.append_nil,Nat.mul_zero,Nat.add_zero,← he]
 | x :: r,s,he,hm,h=>by
  have e:bytesB (x :: r)=lsb x.toNat 8 ++ bytesB r:=by unfold bytesB;rw [List.flatMap_cons]
  rw [e] at h
  rw [List.length_cons] at hm ⊢
  have hg:=getP_bits h.left x.toNat_lt he
  have h2:=h.right
  rw [lsb_len] at h2
  have hgv:givesP most ⟨s.p+8,s.out,0⟩ (UInt8.ofNat x.toNat)=⟨s.p+8,s.out ++ [x],0⟩:=by
   unfold givesP
   rw [if_neg (by show ¬ most≤(s.out.length:Int);omega),UInt8.ofNat_toNat]
  rw [plnF,if_pos he,hg]
  show (if (0:Int)=0 then _ else _)=_
  rw [if_pos rfl]
  show plnF bs most r.length (givesP most ⟨s.p+8,s.out,0⟩ (UInt8.ofNat x.toNat))=_
  rw [hgv,plnF_back r ⟨s.p+8,s.out ++ [x],0⟩ rfl (by show (((s.out ++ [x]).length+r.length:Nat):Int)≤most;rw [List.length_append];show ((s.out.length+1+r.length:Nat):Int)≤most;omega) h2]
  show RS.mk (s.p+8+8 * r.length) (s.out ++ [x] ++ r) 0=_
  rw [List.append_assoc]
  congr 1
  omega
theorem plain_back {bs l:List UInt8} {most:Int} {s:RS} (he:s.e=0) (hl:l.length≤65535) (hm:((s.out.length+l.length:Nat):Int)≤most) (h:Bits bs (8 * ((s.p+7) / 8)) (lsb l.length 16 ++ lsb (65535 - l.length) 16 ++ bytesB l)) :
  plainP bs most s=⟨8 * ((s.p+7) / 8)+32+8 * l.length,s.out ++ l,0⟩:=by
 have h1:=getP_bits (s:=pl0 s) h.left.left (show l.length < 2 ^ 16 by omega) he
 have hb2:=h.left.right
 rw [lsb_len] at hb2
 have h2:=getP_bits (s:=⟨8 * ((s.p+7) / 8)+16,s.out,0⟩) hb2 (show 65535 - l.length < 2 ^ 16 by omega) rfl
 have hb3:=h.right
 rw [List.length_append,lsb_len,lsb_len] at hb3
 have e2:getP bs (getP bs (pl0 s) 16).2 16=(65535 - l.length,⟨8 * ((s.p+7) / 8)+16+16,s.out,0⟩):=by rw [h1];exact h2
 have e3:pl3 bs s=⟨8 * ((s.p+7) / 8)+16+16,s.out,0⟩:=by
  unfold pl3
  rw [if_neg (fun hh=>hh.2 (by rw [e2,h1];show l.length+(65535 - l.length)=65535;omega))]
  unfold pl2
  rw [e2]
 unfold plainP
 rw [e3,h1]
 exact plnF_back l ⟨8 * ((s.p+7) / 8)+16+16,s.out,0⟩ rfl hm hb3
theorem stored_back {bz b:List UInt8} {most:Int} (hb:b.length≤40000) (hm:((b.length:Nat):Int)≤most) (hw:WB bz (plainL b)) (f:Nat) :
  blk0 bz ⟨0,[],0⟩=1∧blkP bz most f ⟨0,[],0⟩=⟨(plainL b).length,b,0⟩:=by
 have h:=hw.bits
 have hh:Bits bz 0 (headL 0):=by
  have:Bits bz 0 (alignL (headL 0)):=by unfold plainL at h;exact h.left.left.left
  unfold alignL at this
  exact this.left
 obtain ⟨h0,h1,h2⟩:=head_bits (s:=⟨0,[],0⟩) hh (by decide) rfl
 refine ⟨h0,?_⟩
 have hr:Bits bz 8 (lsb b.length 16 ++ lsb (65535 - b.length) 16 ++ bytesB b):=by
  unfold plainL at h
  rw [List.append_assoc,List.append_assoc] at h
  have:=h.right
  rw [alignL_len,headL_len] at this
  rw [List.append_assoc]
  exact this
 unfold blkP
 rw [h1,h2]
 show plainP bz most ⟨3,[],0⟩=_
 rw [plain_back (s:=⟨3,[],0⟩) rfl (by omega) (by show ((0+b.length:Nat):Int)≤most;omega) hr,plainL_len]
 show RS.mk (8+32+8 * b.length) ([] ++ b) 0=_
 rw [List.nil_append]
theorem fixO_pos (p:Nat):∃ k:Nat,fixO p=(k:Int)∧0 < k:=by
 unfold fixO
 split
 ·exact ⟨8,rfl,by omega⟩
 ·split
  ·exact ⟨9,rfl,by omega⟩
  ·split
   ·exact ⟨7,rfl,by omega⟩
   ·exact ⟨8,rfl,by omega⟩
theorem fix_tokC {t:Tok} (h:TokOK t):TokC fixL fixD t:=by
 obtain ⟨h1,h2⟩:=fix_in h
 rw [fixL_len] at h1
 refine ⟨?_,fun p hp=>?_⟩
 ·obtain ⟨k,hk,hk0⟩:=fixO_pos (symT t)
  exact ⟨k,by rw [fixL_get h1,hk],hk0⟩
 ·have:=h2 p hp
  rw [fixD_len] at this
  exact ⟨5,by unfold fixD;rw [List.getElem?_replicate,if_pos (by omega)];rfl,by omega⟩
theorem fixed_back {bz b:List UInt8} {most:Int} (hm:((b.length:Nat):Int)≤most) (hw:WB bz (fixB (findP b))) {f:Nat} (hf:8 * bz.length+1≤f) :
  blk0 bz ⟨0,[],0⟩=1∧blkP bz most f ⟨0,[],0⟩=⟨(fixB (findP b)).length,b,0⟩:=by
 have h:=hw.bits
 unfold fixB at h
 obtain ⟨h0,h1,h2⟩:=head_bits (s:=⟨0,[],0⟩) h.left (by decide) rfl
 refine ⟨h0,?_⟩
 unfold blkP
 rw [h1,h2]
 have hr:=h.right
 rw [headL_len] at hr
 show toksF bz most fixL (some fixD) f ⟨3,[],0⟩=_
 have hl9:=hr.1
 rw [toks_back (b:=b) fixL_ok fixD_ok hm ⟨7,by rw [fixL_get (by omega)];rfl,by omega⟩ b.length 0 f ⟨3,[],0⟩ (Nat.zero_le _) (by omega) rfl rfl (fun t ht=>fix_tokC ((findP_ok b).1 t ht)) hr (by show (toksB fixL fixD (findP b)).length≤f;omega)]
 unfold fixB
 rw [List.length_append,headL_len]
 rfl
end Go.Proofs.YtebbdifhiihfkaaGreatDoor

/- flate: lists of lengths written are read back, plainly. -/
namespace Go.Proofs.YtebbdifhiihfkaaGreatDoor
set_option linter.all false
/-- What signs stand for. -/
def expS (l:List Int) (s:Sgn):List Int:=if s.1 < 16 then l ++ [(s.1:Int)] else if s.1=16 then l ++ List.replicate (3+s.2.1) (l.getD (l.length - 1) 0) else if s.1=17 then l ++ List.replicate (3+s.2.1) 0 else l ++ List.replicate (11+s.2.1) 0
def SgnF (s:Sgn):Prop:=(s.1 < 16∧s.2.1=0∧s.2.2=0)∨(s.1=16∧s.2.1 < 4∧s.2.2=2)∨(s.1=17∧s.2.1 < 8∧s.2.2=3)∨(s.1=18∧s.2.1 < 128∧s.2.2=7)
def Exp:List Int→List Sgn→List Int→Prop
 | pre,[],res=>pre=res
 | pre,s :: r,res=>SgnF s∧(s.1=16→pre ≠ [])∧Exp (expS pre s) r res
theorem Exp.app:∀ {s:List Sgn} {a b c:List Int} {t:List Sgn},Exp a s b→Exp b t c→Exp a (s ++ t) c
 | [],a,b,c,t,h1,h2=>by
  have:a=b:=h1
  subst this
  exact h2
 | x :: s,a,b,c,t,h1,h2=>⟨h1.1,h1.2.1,Exp.app h1.2.2 h2⟩
theorem expS_len (l:List Int) (s:Sgn):l.length < (expS l s).length:=by
 unfold expS
 split
 ·simp
 ·split
  ·simp
   omega
  ·split
   ·simp
    omega
   ·simp
    omega
theorem Exp.le:∀ {s:List Sgn} {a b:List Int},Exp a s b→a.length≤b.length
 | [],a,b,h=>by
  have:a=b:=h
  subst this
  exact Nat.le_refl _
 | x :: s,a,b,h=>Nat.le_trans (Nat.le_of_lt (expS_len a x)) (Exp.le h.2.2)
theorem repl_app (l:List Int) (x:Int) (i j:Nat):l ++ List.replicate i x ++ List.replicate j x=l ++ List.replicate (i+j) x:=by
 rw [List.append_assoc,List.replicate_append_replicate]
theorem exp_lits (x:Nat) (hx:x < 16):∀ (n:Nat) (pre:List Int),Exp pre (List.replicate n (x,0,0)) (pre ++ List.replicate n (x:Int))
 | 0,pre=>by
  show pre=pre ++ []
  rw [List.append_nil]
 | n+1,pre=>by
  rw [List.replicate_succ]
  refine ⟨.inl ⟨hx,rfl,rfl⟩,fun e=>absurd (show x=16 from e) (by omega),?_⟩
  have e:expS pre (x,0,0)=pre ++ [(x:Int)]:=if_pos hx
  rw [e]
  have:=exp_lits x hx n (pre ++ [(x:Int)])
  rwa [List.append_assoc,show [(x:Int)] ++ List.replicate n (x:Int)=List.replicate (n+1) (x:Int) by rw [List.replicate_succ];rfl] at this
theorem exp_zTail {n:Nat} (hn:¬ 11≤n) (pre:List Int):Exp pre (zTail n) (pre ++ List.replicate n 0):=by
 unfold zTail
 split
 ·refine ⟨.inr (.inr (.inl ⟨rfl,by show n - 3 < 8;omega,rfl⟩)),fun e=>absurd (show (17:Nat)=16 from e) (by decide),?_⟩
  show pre ++ List.replicate (3+(n - 3)) 0=pre ++ List.replicate n 0
  rw [show 3+(n - 3)=n by omega]
 ·exact exp_lits 0 (by omega) n pre
theorem exp_zerosF:∀ (f n:Nat) (pre:List Int),n≤f→Exp pre (zerosF f n) (pre ++ List.replicate n 0)
 | 0,n,pre,h=>exp_zTail (by omega) pre
 | f+1,n,pre,h=>by
  by_cases e:11≤n
  ·rw [zerosF_big e]
   refine ⟨.inr (.inr (.inr ⟨rfl,by show min n 138 - 11 < 128;omega,rfl⟩)),fun e=>absurd (show (18:Nat)=16 from e) (by decide),?_⟩
   have e1:expS pre (18,min n 138 - 11,7)=pre ++ List.replicate (min n 138) 0:=by
    show pre ++ List.replicate (11+(min n 138 - 11)) 0=_
    rw [show 11+(min n 138 - 11)=min n 138 by omega]
   rw [e1]
   have:=exp_zerosF f (n - min n 138) (pre ++ List.replicate (min n 138) 0) (by omega)
   rwa [repl_app,show min n 138+(n - min n 138)=n by omega] at this
  ·rw [zerosF_small e];exact exp_zTail e pre
theorem getD_last (pre:List Int) (x:Int) (i:Nat):(pre ++ [x] ++ List.replicate i x).getD ((pre ++ [x] ++ List.replicate i x).length - 1) 0=x:=by
 rw [List.getD_eq_getElem?_getD]
 cases i with
 | zero=>simp
 | succ i =>
  rw [List.getElem?_append_right (by simp),List.getElem?_replicate,if_pos (by simp;omega)]
  rfl
theorem exp_othersF (x:Nat) (hx:x < 16):∀ (f n i:Nat) (pre:List Int),n≤f→Exp (pre ++ [(x:Int)] ++ List.replicate i (x:Int)) (othersF x f n) (pre ++ [(x:Int)] ++ List.replicate (i+n) (x:Int))
 | 0,n,i,pre,h=>by
  obtain rfl:n=0:=by omega
  rfl
 | f+1,n,i,pre,h=>by
  by_cases e:3≤n
  ·rw [othersF_big e]
   refine ⟨.inr (.inl ⟨rfl,by show min n 6 - 3 < 4;omega,rfl⟩),fun _ h0=>by simp at h0,?_⟩
   have e1:expS (pre ++ [(x:Int)] ++ List.replicate i (x:Int)) (16,min n 6 - 3,2)=pre ++ [(x:Int)] ++ List.replicate (i+min n 6) (x:Int):=by
    show pre ++ [(x:Int)] ++ List.replicate i (x:Int) ++ List.replicate (3+(min n 6 - 3)) ((pre ++ [(x:Int)] ++ List.replicate i (x:Int)).getD ((pre ++ [(x:Int)] ++ List.replicate i (x:Int)).length - 1) 0)=_
    rw [getD_last,repl_app,show 3+(min n 6 - 3)=min n 6 by omega]
   rw [e1]
   have:=exp_othersF x hx f (n - min n 6) (i+min n 6) pre (by omega)
   rwa [show i+min n 6+(n - min n 6)=i+n by omega] at this
  ·rw [othersF_small e]
   have:=exp_lits x hx n (pre ++ [(x:Int)] ++ List.replicate i (x:Int))
   rwa [repl_app] at this
theorem same_take (x:Int):∀ l:List Int,l.take (same x l)=List.replicate (same x l) x
 | []=>rfl
 | y :: r=>by
  unfold same
  split
  ·rename_i e
   rw [List.take_succ_cons,same_take x r,e,List.replicate_succ]
  ·rfl
theorem exp_runs:∀ (f:Nat) (l pre:List Int),l.length≤f→(∀ y ∈ l,0≤y∧y≤15)→Exp pre (runsF f l) (pre ++ l)
 | 0,l,pre,h,_=>by
  obtain rfl:l=[]:=List.eq_nil_of_length_eq_zero (by omega)
  show pre=pre ++ []
  rw [List.append_nil]
 | f+1,[],pre,_,_=>by
  show pre=pre ++ []
  rw [List.append_nil]
 | f+1,x :: r,pre,h,hr=>by
  have hx:=hr x (List.mem_cons_self ..)
  have e:pre ++ x :: r=pre ++ [x] ++ List.replicate (same x r) x ++ r.drop (same x r):=by
   rw [← same_take,List.append_assoc,List.take_append_drop,List.append_assoc]
   rfl
  rw [runsF,e]
  refine Exp.app ?_ (exp_runs f (r.drop (same x r)) _ (by rw [List.length_drop];rw [List.length_cons] at h;omega) (fun y hy=>hr y (List.mem_cons_of_mem _ (List.mem_of_mem_drop hy))))
  split
  ·rename_i h0
   have:=exp_zerosF (same x r+1) (same x r+1) pre (Nat.le_refl _)
   rw [h0,List.append_assoc,show [(0:Int)] ++ List.replicate (same 0 r) 0=List.replicate (same 0 r+1) 0 by rw [List.replicate_succ];rfl]
   rw [h0] at this
   exact this
  ·unfold othersP
   have hxn:((x.toNat:Nat):Int)=x:=by omega
   refine ⟨.inl ⟨by show x.toNat < 16;omega,rfl,rfl⟩,fun e=>absurd (show x.toNat=16 from e) (by omega),?_⟩
   have e1:expS pre (x.toNat,0,0)=pre ++ [((x.toNat:Nat):Int)] ++ List.replicate 0 ((x.toNat:Nat):Int):=by
    rw [List.replicate_zero,List.append_nil]
    exact if_pos (by show x.toNat < 16;omega)
   rw [e1]
   have:=exp_othersF x.toNat (by omega) (same x r+1 - 1) (same x r+1 - 1) 0 pre (Nat.le_refl _)
   rw [hxn] at this ⊢
   rwa [Nat.zero_add,Nat.add_sub_cancel] at this
/-- Signs of one kind alone. -/
theorem exp_const {v:Nat} (hv:v < 16):∀ {s:List Sgn} {a b:List Int},Exp a s b→(∀ x ∈ s,x.1=v)→b=a ++ List.replicate s.length (v:Int)
 | [],a,b,h,_=>by
  have:a=b:=h
  rw [← this]
  exact (List.append_nil a).symm
 | x :: s,a,b,h,hs=>by
  have hx:=hs x (List.mem_cons_self ..)
  have:=exp_const hv h.2.2 (fun y hy=>hs y (List.mem_cons_of_mem _ hy))
  have e:expS a x=a ++ [(v:Int)]:=by unfold expS;rw [if_pos (by omega),hx]
  rw [this,e,List.append_assoc,List.length_cons,List.replicate_succ]
  rfl
theorem exp_zero:∀ {s:List Sgn} {a b:List Int},Exp a s b→(∀ x ∈ s,17≤x.1)→∀ y ∈ b,y ∈ a∨y=0
 | [],a,b,h,_=>fun y hy=>by
  have:a=b:=h
  rw [this]
  exact .inl hy
 | x :: s,a,b,h,hs=>fun y hy=>by
  have hx:=hs x (List.mem_cons_self ..)
  rcases exp_zero h.2.2 (fun z hz=>hs z (List.mem_cons_of_mem _ hz)) y hy with h1 | h1
  ·unfold expS at h1
   rw [if_neg (by omega),if_neg (by omega)] at h1
   split at h1
   ·rw [List.mem_append,List.mem_replicate] at h1
    rcases h1 with h1 | h1
    ·exact .inl h1
    ·exact .inr h1.2
   ·rw [List.mem_append,List.mem_replicate] at h1
    rcases h1 with h1 | h1
    ·exact .inl h1
    ·exact .inr h1.2
  ·exact .inr h1
theorem same_repl (x:Int):∀ n,same x (List.replicate n x)=n
 | 0=>rfl
 | n+1=>by rw [List.replicate_succ];show (if x=x then same x (List.replicate n x)+1 else 0)=n+1;rw [if_pos rfl,same_repl x n]
/-- Two unlike signs at least. -/
theorem two_signs {l:List Int} (hl:20≤l.length) (hr:∀ y ∈ l,0≤y∧y≤15) (hp:∃ y ∈ l,0 < y):∃ s ∈ runsP l,∃ t ∈ runsP l,s.1 ≠ t.1:=by
 have he:=exp_runs l.length l [] (Nat.le_refl _) hr
 rw [List.nil_append] at he
 cases hs:runsP l with
 | nil =>
  unfold runsP at hs
  rw [hs] at he
  have:([]:List Int)=l:=he
  rw [← this] at hl
  simp at hl
 | cons s r =>
  refine Decidable.byContradiction fun hn=>?_
  have hall:∀ x ∈ runsP l,x.1=s.1:=fun x hx=>Decidable.byContradiction fun hne=>hn ⟨x,by rw [← hs];exact hx,s,List.mem_cons_self ..,hne⟩
  have hf:SgnF s∧(s.1=16→([]:List Int) ≠ []):=by
   unfold runsP at hs
   rw [hs] at he
   exact ⟨he.1,he.2.1⟩
  by_cases h16:s.1 < 16
  ·have h1:=exp_const h16 he hall
   rw [List.nil_append] at h1
   generalize (runsF l.length l).length=k at h1
   have hk:k=l.length:=by rw [h1,List.length_replicate]
   subst hk
   obtain ⟨m,hm⟩:∃ m,l.length=m+1:=⟨l.length - 1,by omega⟩
   have h2:runsP l=(if (s.1:Int)=0 then zerosP (m+1) else othersP ((s.1:Int)).toNat (m+1)) ++ runsF m ((List.replicate m (s.1:Int)).drop m):=by
    unfold runsP
    rw [hm] at h1 ⊢
    rw [h1,List.replicate_succ,runsF,same_repl]
   by_cases h0:(s.1:Int)=0
   ·rw [if_pos h0] at h2
    have h3:zerosP (m+1)=(18,min (m+1) 138 - 11,7) :: zerosF m (m+1 - min (m+1) 138):=by unfold zerosP;exact zerosF_big (by omega)
    have:=hall (18,min (m+1) 138 - 11,7) (by rw [h2,h3];simp)
    have h4:(18:Nat)=s.1:=this
    omega
   ·rw [if_neg h0] at h2
    obtain ⟨q,hq⟩:∃ q,m=q+1:=⟨m - 1,by omega⟩
    have h3:othersP ((s.1:Int)).toNat (m+1)=(((s.1:Int)).toNat,0,0) :: (16,min m 6 - 3,2) :: othersF ((s.1:Int)).toNat q (m - min m 6):=by
     unfold othersP
     rw [Nat.add_sub_cancel,hq,othersF_big (by omega)]
    have:=hall (16,min m 6 - 3,2) (by rw [h2,h3];simp)
    have h4:(16:Nat)=s.1:=this
    omega
  ·by_cases h17:s.1=16
   ·exact hf.2 h17 rfl
   ·obtain ⟨y,hy,hy0⟩:=hp
    rcases exp_zero he (fun x hx=>by rw [hall x hx];omega) y hy with h1 | h1
    ·cases h1
    ·omega
theorem sgn_back {bs:List UInt8} {cl:List Int} {all:Nat} {l:List Int} {s:RS} {sg:Sgn} (hok:CodesOK cl) (f:Nat) (hc:∃ k:Nat,cl[sg.1]?=some (k:Int)∧0 < k) (hf:SgnF sg) (h16:sg.1=16→l ≠ []) (hl:(expS l sg).length≤all) (he:s.e=0) (h:Bits bs s.p (sgnB cl sg)) :
  listF bs cl all (f+1) l s=listF bs cl all f (expS l sg) ⟨s.p+(sgnB cl sg).length,s.out,0⟩:=by
 obtain ⟨k,hk,hk0⟩:=hc
 have hlt:=expS_len l sg
 have hrep:∀ (x:Int) (n:Nat) (t:RS),t.e=0→l.length+n≤all→repP l x n all t=(l ++ List.replicate n x,t):=fun x n t ht hn=>by
  have r0:rep0 l n all t=t:=if_neg (fun hh=>by have:=hh.2;omega)
  unfold repP
  rw [r0,if_pos ht]
 have hn:=nextP_bits hok hk hk0 h.left he
 have hbr:=h.right
 have hsl:(sgnB cl sg).length=(codeB cl sg.1).length+sg.2.2:=by unfold sgnB;rw [List.length_append,lsb_len]
 rw [hsl]
 rw [listF,if_pos ⟨by omega,he⟩,hn]
 show (if (0:Int)=0 then _ else _)=_
 rw [if_pos rfl]
 rcases hf with ⟨h1,h2,h3⟩ | ⟨h1,h2,h3⟩ | ⟨h1,h2,h3⟩ | ⟨h1,h2,h3⟩
 ·have e1:expS l sg=l ++ [(sg.1:Int)]:=if_pos h1
  rw [if_pos (show ((sg.1:Nat):Int) < 16 by omega),e1,h3]
  rfl
 ·have e1:expS l sg=l ++ List.replicate (3+sg.2.1) (l.getD (l.length - 1) 0):=by unfold expS;rw [if_neg (by omega),if_pos h1]
  have hlen:l.length+(3+sg.2.1)≤all:=by rw [e1,List.length_append,List.length_replicate] at hl;exact hl
  have hl0:¬ l.length=0:=fun hh=>h16 h1 (List.eq_nil_of_length_eq_zero hh)
  rw [if_neg (show ¬ ((sg.1:Nat):Int) < 16 by omega),if_pos (show ((sg.1:Nat):Int)=16 by omega),if_neg hl0,e1]
  have hg:=getP_bits (s:=⟨s.p+(codeB cl sg.1).length,s.out,0⟩) hbr (by rw [h3];exact h2) rfl
  rw [h3] at hg ⊢
  rw [hg,hrep _ _ _ rfl hlen]
  rfl
 ·have e1:expS l sg=l ++ List.replicate (3+sg.2.1) 0:=by unfold expS;rw [if_neg (by omega),if_neg (by omega),if_pos h1]
  have hlen:l.length+(3+sg.2.1)≤all:=by rw [e1,List.length_append,List.length_replicate] at hl;exact hl
  rw [if_neg (show ¬ ((sg.1:Nat):Int) < 16 by omega),if_neg (show ¬ ((sg.1:Nat):Int)=16 by omega),if_pos (show ((sg.1:Nat):Int)=17 by omega),e1]
  have hg:=getP_bits (s:=⟨s.p+(codeB cl sg.1).length,s.out,0⟩) hbr (by rw [h3];exact h2) rfl
  rw [h3] at hg ⊢
  rw [hg,hrep _ _ _ rfl hlen]
  rfl
 ·have e1:expS l sg=l ++ List.replicate (11+sg.2.1) 0:=by unfold expS;rw [if_neg (by omega),if_neg (by omega),if_neg (by omega)]
  have hlen:l.length+(11+sg.2.1)≤all:=by rw [e1,List.length_append,List.length_replicate] at hl;exact hl
  rw [if_neg (show ¬ ((sg.1:Nat):Int) < 16 by omega),if_neg (show ¬ ((sg.1:Nat):Int)=16 by omega),if_neg (show ¬ ((sg.1:Nat):Int)=17 by omega),e1]
  have hg:=getP_bits (s:=⟨s.p+(codeB cl sg.1).length,s.out,0⟩) hbr (by rw [h3];exact h2) rfl
  rw [h3] at hg ⊢
  rw [hg,hrep _ _ _ rfl hlen]
  rfl
theorem signs_back {bs:List UInt8} {cl:List Int} {res:List Int} (hok:CodesOK cl):∀ (sgs:List Sgn) (l:List Int) (s:RS) (f:Nat),sgs.length+1≤f→Exp l sgs res→(∀ x ∈ sgs,∃ k:Nat,cl[x.1]?=some (k:Int)∧0 < k)→s.e=0→Bits bs s.p (sgs.flatMap (sgnB cl)) →
  listF bs cl res.length f l s=(res,⟨s.p+(sgs.flatMap (sgnB cl)).length,s.out,0⟩)
 | [],l,s,f,hf,h,hc,he,hb=>by
  have:l=res:=h
  subst this
  rw [listF_stop (fun hh=>by have:=hh.1;omega)]
  show _=(l,RS.mk (s.p+0) s.out 0)
  rw [Nat.add_zero,← he]
 | x :: r,l,s,f,hf,h,hc,he,hb=>by
  obtain ⟨f,rfl⟩:∃ g,f=g+1:=⟨f - 1,by simp at hf;omega⟩
  rw [List.flatMap_cons] at hb ⊢
  rw [sgn_back hok f (hc x (List.mem_cons_self ..)) h.1 h.2.1 (Exp.le h.2.2) he hb.left]
  rw [signs_back hok r (expS l x) ⟨s.p+(sgnB cl x).length,s.out,0⟩ f (by simp at hf;omega) h.2.2 (fun y hy=>hc y (List.mem_cons_of_mem _ hy)) rfl hb.right,List.length_append]
  show (res,RS.mk (s.p+(sgnB cl x).length+_) s.out 0)=_
  rw [Nat.add_assoc]
/-- The lengths of lengths. -/
theorem ords_back {bs:List UInt8} {cl:List Int} (hr:∀ k,0≤cl.getD k 0∧cl.getD k 0≤7):∀ (ks:List Nat) (l:List Int) (s:RS),s.e=0→Bits bs s.p (ks.flatMap fun k=>lsb (cl.getD k 0).toNat 3) →
  lenRd bs ks l s=(ks.foldl (fun l k=>l.set k (cl.getD k 0)) l,⟨s.p+(ks.flatMap fun k=>lsb (cl.getD k 0).toNat 3).length,s.out,0⟩)
 | [],l,s,he,h=>by
  show (l,s)=(l,RS.mk (s.p+0) s.out 0)
  rw [Nat.add_zero,← he]
 | k :: r,l,s,he,h=>by
  rw [List.flatMap_cons] at h ⊢
  have hk:=hr k
  have hg:=getP_bits h.left (show (cl.getD k 0).toNat < 2 ^ 3 by omega) he
  have h2:=h.right
  rw [lsb_len] at h2
  rw [lenRd,hg,ords_back hr r _ ⟨s.p+3,s.out,0⟩ rfl h2,List.length_append,lsb_len,List.foldl_cons]
  show (r.foldl _ (l.set k (((cl.getD k 0).toNat:Nat):Int)),RS.mk (s.p+3+_) s.out 0)=_
  rw [show (((cl.getD k 0).toNat:Nat):Int)=cl.getD k 0 by omega,Nat.add_assoc]
theorem setF_get (cl:List Int):∀ (ks:List Nat) (l:List Int) (j:Nat),j < l.length→(ks.foldl (fun l k=>l.set k (cl.getD k 0)) l)[j]?=some (if j ∈ ks then cl.getD j 0 else l.getD j 0)
 | [],l,j,h=>by
  rw [if_neg (by simp),List.foldl_nil,List.getD_eq_getElem?_getD,List.getElem?_eq_getElem h]
  rfl
 | k :: r,l,j,h=>by
  rw [List.foldl_cons,setF_get cl r (l.set k (cl.getD k 0)) j (by rw [List.length_set];exact h)]
  by_cases h1:j ∈ r
  ·rw [if_pos h1,if_pos (List.mem_cons_of_mem _ h1)]
  ·rw [if_neg h1]
   by_cases h2:j=k
   ·subst h2
    rw [if_pos (List.mem_cons_self ..),List.getD_eq_getElem?_getD,List.getElem?_set,if_pos rfl,if_pos h]
    rfl
   ·rw [if_neg (by rw [List.mem_cons];exact fun hh=>hh.elim h2 h1),List.getD_eq_getElem?_getD,List.getElem?_set,if_neg (fun e=>h2 e.symm),← List.getD_eq_getElem?_getD]
theorem setF_len (cl:List Int):∀ (ks:List Nat) (l:List Int),(ks.foldl (fun l k=>l.set k (cl.getD k 0)) l).length=l.length
 | [],l=>rfl
 | k :: r,l=>by rw [List.foldl_cons,setF_len cl r,List.length_set]
theorem hcK_zero (cl:List Int):∀ n m,hcK cl n≤m→m < n→cl.getD (ordL.getD m 0) 0=0
 | 0,m,h,h2=>by omega
 | n+1,m,h,h2=>by
  unfold hcK at h
  split at h
  ·rename_i hh
   by_cases e:m=n
   ·subst e;exact hh.2
   ·exact hcK_zero cl n m h (by omega)
  ·omega
theorem ordL_all:∀ j,j < 19→∃ m,m < 19∧ordL.getD m 0=j:=by decide
/-- The lengths of lengths that are read are those that were written. -/
theorem setF_all {cl:List Int} (hl:cl.length=19):(ordL.take (hcK cl 19)).foldl (fun l k=>l.set k (cl.getD k 0)) (List.replicate 19 0)=cl:=by
 refine List.ext_getElem? fun j=>?_
 by_cases hj:j < 19
 ·rw [setF_get cl _ _ j (by rw [List.length_replicate];exact hj)]
  have hcj:cl[j]?=some (cl.getD j 0):=by rw [List.getD_eq_getElem?_getD,List.getElem?_eq_getElem (by omega)];rfl
  rw [hcj]
  congr 1
  split
  ·rfl
  ·rename_i hn
   obtain ⟨m,hm,rfl⟩:=ordL_all j hj
   have:¬ m < hcK cl 19:=fun hh=>hn (by
    rw [List.mem_take_iff_getElem]
    refine ⟨m,by show m < min (hcK cl 19) 19;omega,?_⟩
    rw [List.getD_eq_getElem?_getD,List.getElem?_eq_getElem (show m < ordL.length from hm)]
    rfl)
   rw [hcK_zero cl 19 m (by omega) hm,List.getD_eq_getElem?_getD,List.getElem?_replicate,if_pos hj]
   rfl
 ·rw [List.getElem?_eq_none (by rw [setF_len,List.length_replicate];omega),List.getElem?_eq_none (by omega)]
end Go.Proofs.YtebbdifhiihfkaaGreatDoor

/- flate: what is written is read back, plainly: a block of its own codes; all that Deflate gives. -/
namespace Go.Proofs.YtebbdifhiihfkaaGreatDoor
set_option linter.all false
theorem posn_app (a b:List Int):posn (a ++ b)=posn a+posn b:=by unfold posn;rw [List.filter_append,List.length_append]
theorem posn_one {ws:List Int} {x:Int} (h:x ∈ ws) (h0:0 < x):1≤posn ws:=by
 unfold posn
 exact List.length_pos_of_mem (List.mem_filter.2 ⟨h,by simpa using h0⟩)
theorem posn_two {ws:List Int} {i j:Nat} {x y:Int} (hi:ws[i]?=some x) (hj:ws[j]?=some y) (hx:0 < x) (hy:0 < y) (hij:i ≠ j):2≤posn ws:=by
 have key:∀ {i j:Nat} {x y:Int},ws[i]?=some x→ws[j]?=some y→0 < x→0 < y→i < j→2≤posn ws:=fun {i j x y} hi hj hx hy h=>by
  have h1:posn ws=posn (ws.take j)+posn (ws.drop j):=by rw [← posn_app,List.take_append_drop]
  have h2:1≤posn (ws.take j):=posn_one (x:=x) (List.mem_iff_getElem?.2 ⟨i,by rw [List.getElem?_take,if_pos h];exact hi⟩) hx
  have h3:1≤posn (ws.drop j):=posn_one (x:=y) (List.mem_iff_getElem?.2 ⟨0,by rw [List.getElem?_drop];exact hj⟩) hy
  omega
 rcases Nat.lt_or_gt_of_ne hij with h | h
 ·exact key hi hj hx hy h
 ·exact key hj hi hy hx h
theorem lens_full {ws:List Int} {m:Nat} (hm:1≤m) (hm2:m≤15) (hq:ws.length≤2 ^ m) (h2:2≤posn ws):krN (lensOf ws m)=32768:=by
 rw [lens_kraft hm hm2 (by rw [leaves_length];exact Nat.le_trans (List.length_filter_le _ _) hq),leaves_length,if_neg (by omega),if_neg (by omega)]
theorem cutK_zeroR (ls:List Int) (least:Nat):∀ k j,cutK ls least k≤j→j < k→ls.getD j 0=0
 | 0,j,h,h2=>by omega
 | k+1,j,h,h2=>by
  unfold cutK at h
  split at h
  ·rename_i hh
   by_cases e:j=k
   ·subst e;exact hh.2
   ·exact cutK_zeroR ls least k j h (by omega)
  ·omega
theorem cut_rest {ls:List Int} {least:Nat}:∀ x ∈ ls.drop (cutK ls least ls.length),x=0:=by
 intro x hx
 obtain ⟨i,hi⟩:=List.getElem?_of_mem hx
 rw [List.getElem?_drop] at hi
 have hlt:=(List.getElem?_eq_some_iff.1 hi).1
 have:=cutK_zeroR ls least ls.length _ (Nat.le_add_right _ i) hlt
 rw [List.getD_eq_getElem?_getD,hi] at this
 exact this
theorem sum_zero {α:Type} (f:α→Nat):∀ l:List α,(∀ x ∈ l,f x=0)→(l.map f).sum=0
 | [],_=>rfl
 | x :: r,h=>by rw [List.map_cons,List.sum_cons,h x (List.mem_cons_self ..),sum_zero f r (fun y hy=>h y (List.mem_cons_of_mem _ hy))]
theorem cut_krN (ls:List Int) (least:Nat):krN (cutL ls least)=krN ls:=by
 have e:krN ls=krN (ls.take (cutK ls least ls.length))+krN (ls.drop (cutK ls least ls.length)):=by
  unfold krN
  rw [← List.sum_append,← List.map_append,List.take_append_drop]
 have h0:krN (ls.drop (cutK ls least ls.length))=0:=sum_zero _ _ (fun x hx=>by rw [cut_rest x hx];rfl)
 rw [h0] at e
 exact e.symm
theorem cut_cPos (ls:List Int) (least:Nat):cPos (cutL ls least)=cPos ls:=by
 have e:cPos ls=cPos (ls.take (cutK ls least ls.length))+cPos (ls.drop (cutK ls least ls.length)):=by
  unfold cPos
  rw [← List.countP_append,List.take_append_drop]
 have h0:cPos (ls.drop (cutK ls least ls.length))=0:=List.countP_eq_zero.2 (fun x hx=>by rw [cut_rest x hx];decide)
 rw [h0] at e
 exact e.symm
theorem cut_cOne (ls:List Int) (least:Nat):cOne (cutL ls least)=cOne ls:=by
 have e:cOne ls=cOne (ls.take (cutK ls least ls.length))+cOne (ls.drop (cutK ls least ls.length)):=by
  unfold cOne
  rw [← List.countP_append,List.take_append_drop]
 have h0:cOne (ls.drop (cutK ls least ls.length))=0:=List.countP_eq_zero.2 (fun x hx=>by rw [cut_rest x hx];decide)
 rw [h0] at e
 exact e.symm
theorem lens_map (ws:List Int) (m:Nat):lensOf ws m=(List.range ws.length).map fun i=>(lnat ws m i:Int):=by
 refine List.ext_getElem? fun i=>?_
 by_cases h:i < ws.length
 ·rw [lensOf_get ws m h,List.getElem?_map,List.getElem?_range h];rfl
 ·rw [List.getElem?_eq_none (by rw [lensOf_len];omega),List.getElem?_eq_none (by simp;omega)]
theorem ws_map (ws:List Int):ws=(List.range ws.length).map fun i=>wOf ws i:=by
 refine List.ext_getElem? fun i=>?_
 by_cases h:i < ws.length
 ·rw [List.getElem?_map,List.getElem?_range h,List.getElem?_eq_getElem h]
  show _=some (wOf ws i)
  rw [wOf_get (List.getElem?_eq_getElem h)]
 ·rw [List.getElem?_eq_none (by omega),List.getElem?_eq_none (by simp;omega)]
theorem lens_cPos {ws:List Int} {m:Nat} (hm:1≤m) (hq:ws.length≤2 ^ m):cPos (lensOf ws m)=posn ws:=by
 have hq2:(leaves ws).length≤2 ^ m:=by rw [leaves_length];exact Nat.le_trans (List.length_filter_le _ _) hq
 have e1:posn ws=(List.range ws.length).countP fun i=>decide (0 < wOf ws i):=by
  unfold posn
  rw [← List.countP_eq_length_filter]
  have:=congrArg (List.countP fun x:Int=>decide (0 < x)) (ws_map ws)
  rw [this,List.countP_map]
  rfl
 rw [e1,lens_map]
 unfold cPos
 rw [List.countP_map]
 refine List.countP_congr fun i hi=>?_
 rw [List.mem_range] at hi
 show decide (0 < (lnat ws m i:Int))=true ↔ decide (0 < wOf ws i)=true
 rw [decide_eq_true_iff,decide_eq_true_iff]
 refine ⟨fun h=>Decidable.byContradiction fun hn=>?_,fun h=>?_⟩
 ·rw [lnat_zero hn] at h
  omega
 ·have:=lnat_pos hm hq2 hi h
  omega
theorem lens_one {ws:List Int} {m:Nat} (h1:posn ws=1):cOne (lensOf ws m)=1:=by
 have hl1:(leaves ws).length=1:=by rw [leaves_length];exact h1
 have e1:posn ws=(List.range ws.length).countP fun i=>decide (0 < wOf ws i):=by
  unfold posn
  rw [← List.countP_eq_length_filter]
  have:=congrArg (List.countP fun x:Int=>decide (0 < x)) (ws_map ws)
  rw [this,List.countP_map]
  rfl
 rw [← h1,e1,lens_map]
 unfold cOne
 rw [List.countP_map]
 refine List.countP_congr fun i hi=>?_
 rw [List.mem_range] at hi
 show decide ((lnat ws m i:Int)=1)=true ↔ decide (0 < wOf ws i)=true
 rw [decide_eq_true_iff,decide_eq_true_iff]
 refine ⟨fun h=>Decidable.byContradiction fun hn=>?_,fun h=>?_⟩
 ·rw [lnat_zero hn] at h
  omega
 ·rw [lnat_one hl1 h hi]
  rfl
theorem nwE_zero {ls:List Int} (hok:CodesOK ls) {k:Nat} {x:Int} (hx:ls[k]?=some x) (h0:0 < x):nwE ls=0:=by
 unfold nwE
 rw [if_pos hok.cd.1,if_neg (allP_some hok.2.1 hx h0)]
theorem krV_ok {ls:List Int} (hok:CodesOK ls):krV ls=(krN ls:Int):=by
 unfold krV
 rw [if_neg]
 rintro (h | h)
 ·have:=hok.1;omega
 ·rw [hok.2.1] at h;cases h
theorem dec_full {ls:List Int} (hok:CodesOK ls) {k:Nat} {x:Int} (hx:ls[k]?=some x) (h0:0 < x) (hk:krN ls=32768) (a:Bool) {s:RS} (he:s.e=0):decP ls a s=s∧decD ls s=some ls:=by
 have hn:=nwE_zero hok hx h0
 refine ⟨?_,if_pos ⟨he,hn⟩⟩
 unfold decP
 rw [if_pos he,if_pos hn,if_neg]
 intro h
 have:=h.1
 rw [krV_ok hok,hk] at this
 omega
theorem dec_alone {ls:List Int} (hok:CodesOK ls) {k:Nat} {x:Int} (hx:ls[k]?=some x) (h0:0 < x) (h1:cPos ls=1) (h2:cOne ls=1) {s:RS} (he:s.e=0):decP ls true s=s∧decD ls s=some ls:=by
 have hn:=nwE_zero hok hx h0
 refine ⟨?_,if_pos ⟨he,hn⟩⟩
 unfold decP
 rw [if_pos he,if_pos hn,if_neg (fun h=>h.2 ⟨rfl,h1,h2⟩)]
theorem cPos_pos {ls:List Int} {k:Nat} {x:Int} (hx:ls[k]?=some x) (h0:0 < x):1≤cPos ls:=by
 unfold cPos
 exact List.countP_pos_iff.2 ⟨x,List.mem_iff_getElem?.2 ⟨k,hx⟩,by simpa using h0⟩
theorem pos_cPos {ls:List Int} (h:1≤cPos ls):∃ (k:Nat) (x:Int),ls[k]?=some x∧0 < x:=by
 unfold cPos at h
 obtain ⟨x,hx,h0⟩:=List.countP_pos_iff.1 h
 obtain ⟨k,hk⟩:=List.getElem?_of_mem hx
 exact ⟨k,x,hk,by simpa using h0⟩
/-- The weights of the end. -/
theorem weigh_256 (ts:List Tok):∃ x,(weighL ts)[256]?=some x∧0 < x:=by
 have hl:256 < (weighL ts).length:=by rw [weighL_len];omega
 refine ⟨_,List.getElem?_eq_getElem hl,?_⟩
 have h1:=bumps_get ((List.replicate 286 (0:Int)).set 256 1) (ts.map symT) 256 (by rw [List.length_set,List.length_replicate];omega)
 have h2:(weighL ts).getD 256 0=(weighL ts)[256]:=by rw [List.getD_eq_getElem?_getD,List.getElem?_eq_getElem hl];rfl
 have h3:(((List.replicate 286 (0:Int)).set 256 1)).getD 256 0=1:=by decide +kernel
 unfold weighL at h2 ⊢
 rw [h1,h3] at h2
 omega
theorem weigh_sym {ts:List Tok} {t:Tok} (h:∀ t ∈ ts,TokOK t) (ht:t ∈ ts):∃ x,(weighL ts)[symT t]?=some x∧0 < x :=
 bumps_pos (xs:=(List.replicate 286 (0:Int)).set 256 1) (ps:=ts.map symT) (p:=symT t) (fun x hx=>(w286_rng x hx).1) (List.mem_map.2 ⟨t,ht,rfl⟩) (by rw [List.length_set,List.length_replicate];exact symT_lt (h t ht))
theorem weigh_dst {ts:List Tok} {t:Tok} (h:∀ t ∈ ts,TokOK t) (ht:t ∈ ts) {p:Nat} (hp:p ∈ dstT t):∃ x,(weighD ts)[p]?=some x∧0 < x :=
 bumps_pos (xs:=List.replicate 30 (0:Int)) (ps:=ts.flatMap dstT) (p:=p) (fun x hx=>(w30_rng x hx).1) (List.mem_flatMap.2 ⟨t,ht,hp⟩) (by rw [List.length_replicate];exact dstT_lt (h t ht) p hp)
theorem lens_nat {ws:List Int} {m p:Nat} (hm:1≤m) (hq:ws.length≤2 ^ m) {x:Int} (hx:ws[p]?=some x) (h0:0 < x):∃ k:Nat,(lensOf ws m)[p]?=some (k:Int)∧0 < k:=by
 have hp:=(List.getElem?_eq_some_iff.1 hx).1
 exact ⟨_,lensOf_get ws m hp,lnat_pos hm (by rw [leaves_length];exact Nat.le_trans (List.length_filter_le _ _) hq) hp (by rw [wOf_get hx];exact h0)⟩
theorem cut_get {ls:List Int} {least p:Nat} {k:Nat} (h:ls[p]?=some (k:Int)) (h0:0 < k):(cutL ls least)[p]?=some (k:Int):=by
 unfold cutL
 rw [List.getElem?_take,if_pos (cutK_pos h (by omega) ls.length (List.getElem?_eq_some_iff.1 h).1)]
 exact h
theorem dynL_at {ts:List Tok} {p:Nat} {x:Int} (hx:(weighL ts)[p]?=some x) (h0:0 < x):∃ k:Nat,(dynL ts)[p]?=some (k:Int)∧0 < k:=by
 obtain ⟨k,hk,hk0⟩:=lens_nat (m:=15) (by omega) (by rw [weighL_len];decide) hx h0
 exact ⟨k,cut_get hk hk0,hk0⟩
theorem dynL_full {ts:List Tok} (h:∀ t ∈ ts,TokOK t) (hne:ts ≠ []):krN (dynL ts)=32768:=by
 unfold dynL
 rw [cut_krN]
 obtain ⟨t,ht⟩:=List.exists_mem_of_ne_nil ts hne
 obtain ⟨x,hx,hx0⟩:=weigh_256 ts
 obtain ⟨y,hy,hy0⟩:=weigh_sym h ht
 refine lens_full (by omega) (by omega) (by rw [weighL_len];decide) (posn_two hx hy hx0 hy0 ?_)
 have hk:=h t ht
 unfold symT
 split
 ·rcases hk with ⟨_,hk⟩ | ⟨hk,_⟩
  ·omega
  ·omega
 ·omega
/-- The lengths of distances are whole, or one alone. -/
theorem dynD_dec (ts:List Tok) {s:RS} (he:s.e=0):decP (dynD ts) true s=s∧decD (dynD ts) s=some (dynD ts)∧noneP (dynD ts)=false:=by
 have hnone:∀ {k:Nat} {x:Int},(dynD ts)[k]?=some x→0 < x→noneP (dynD ts)=false:=fun {k x} hx h0=>by
  have:=cPos_pos hx h0
  unfold noneP
  exact beq_eq_false_iff_ne.2 (by omega)
 by_cases hc:(lensOf (weighD ts) 15).getD 0 0=0∧cutK (lensOf (weighD ts) 15) 1 30=1
 ·have e:dynD ts=[1]:=if_pos hc
  have hok:=dynD_ok ts
  rw [e] at hnone hok ⊢
  have:=dec_alone hok (k:=0) (x:=1) rfl (by decide) (by decide) (by decide) he
  exact ⟨this.1,this.2,hnone (k:=0) (x:=1) rfl (by decide)⟩
 ·have e:dynD ts=cutL (lensOf (weighD ts) 15) 1:=if_neg hc
  have hok:=dynD_ok ts
  rw [e] at hnone hok ⊢
  have hcp:cPos (cutL (lensOf (weighD ts) 15) 1)=posn (weighD ts):=by rw [cut_cPos,lens_cPos (by omega) (by rw [weighD_len];decide)]
  by_cases h0:posn (weighD ts)=0
  ·exfalso
   apply hc
   have hz:∀ x ∈ lensOf (weighD ts) 15,x=0:=fun x hx=>Decidable.byContradiction fun hn=>by
    have h1:cPos (lensOf (weighD ts) 15)=0:=by rw [lens_cPos (by omega) (by rw [weighD_len];decide),h0]
    obtain ⟨k,hk⟩:=List.getElem?_of_mem hx
    have hxr:=(lensOf_le (ws:=weighD ts) (m:=15) (by omega) (by rw [weighD_len];decide) x hx).1
    have:=cPos_pos hk (by omega)
    omega
   have hd:∀ k,(lensOf (weighD ts) 15).getD k 0=0:=fun k=>by
    rw [List.getD_eq_getElem?_getD]
    cases hk:(lensOf (weighD ts) 15)[k]? with
    | none=>rfl
    | some x=>exact hz x (List.mem_iff_getElem?.2 ⟨k,hk⟩)
   refine ⟨hd 0,?_⟩
   have:∀ k,1≤k→cutK (lensOf (weighD ts) 15) 1 k=1:=fun k hk=>by
    induction k with
    | zero=>omega
    | succ k ih =>
     unfold cutK
     by_cases h1:k=0
     ·subst h1;rfl
     ·rw [if_pos ⟨by omega,hd k⟩]
      exact ih (by omega)
   exact this 30 (by omega)
  ·obtain ⟨k,x,hx,hx0⟩:=pos_cPos (ls:=cutL (lensOf (weighD ts) 15) 1) (by omega)
   have hn:=hnone hx hx0
   by_cases h1:posn (weighD ts)=1
   ·have:=dec_alone hok hx hx0 (by omega) (by rw [cut_cOne,lens_one h1]) he
    exact ⟨this.1,this.2,hn⟩
   ·have:=dec_full hok hx hx0 (by rw [cut_krN];exact lens_full (by omega) (by omega) (by rw [weighD_len];decide) (by omega)) true he
    exact ⟨this.1,this.2,hn⟩
theorem dynD_at {ts:List Tok} {p:Nat} {x:Int} (hx:(weighD ts)[p]?=some x) (h0:0 < x):∃ k:Nat,(dynD ts)[p]?=some (k:Int)∧0 < k:=by
 obtain ⟨k,hk,hk0⟩:=lens_nat (m:=15) (by omega) (by rw [weighD_len];decide) hx h0
 have hp:p < 30:=by have:=(List.getElem?_eq_some_iff.1 hx).1;rw [weighD_len] at this;exact this
 have e:dynD ts=cutL (lensOf (weighD ts) 15) 1:=by
  refine if_neg fun hh=>?_
  have hc:=cutK_pos (least:=1) hk (show ¬ (k:Int)=0 by omega) 30 hp
  obtain rfl:p=0:=by omega
  have:=hh.1
  rw [List.getD_eq_getElem?_getD,hk] at this
  have h2:(k:Int)=0:=this
  omega
 rw [e]
 exact ⟨k,cut_get hk hk0,hk0⟩
theorem dyn_tokC {ts:List Tok} (h:∀ t ∈ ts,TokOK t):∀ t ∈ ts,TokC (dynL ts) (dynD ts) t:=by
 intro t ht
 refine ⟨?_,fun p hp=>?_⟩
 ·obtain ⟨x,hx,hx0⟩:=weigh_sym h ht
  exact dynL_at hx hx0
 ·obtain ⟨x,hx,hx0⟩:=weigh_dst h ht hp
  exact dynD_at hx hx0
end Go.Proofs.YtebbdifhiihfkaaGreatDoor

/- flate: what is written is read back, plainly: all that Deflate gives. -/
namespace Go.Proofs.YtebbdifhiihfkaaGreatDoor
set_option linter.all false
theorem wgt_at {ss:List Sgn} (h:∀ s ∈ ss,SgnOK s) {s:Sgn} (hs:s ∈ ss):∃ x,(wgtC ss)[s.1]?=some x∧0 < x :=
 bumps_pos (xs:=List.replicate 19 (0:Int)) (ps:=ss.map (fun y:Sgn=>y.1)) (p:=s.1) (fun x hx=>by rw [List.mem_replicate] at hx;omega) (List.mem_map.2 ⟨s,hs,rfl⟩) (by rw [List.length_replicate];exact (h s hs).1)
theorem lensC_at {ss:List Sgn} (h:∀ s ∈ ss,SgnOK s) {s:Sgn} (hs:s ∈ ss):∃ k:Nat,(lensC ss)[s.1]?=some (k:Int)∧0 < k:=by
 obtain ⟨x,hx,hx0⟩:=wgt_at h hs
 exact lens_nat (m:=7) (by omega) (by rw [wgtC_len];decide) hx hx0
theorem lensC_full {ss:List Sgn} (h:∀ s ∈ ss,SgnOK s) (h2:∃ s ∈ ss,∃ t ∈ ss,s.1 ≠ t.1):krN (lensC ss)=32768:=by
 obtain ⟨s,hs,t,ht,hne⟩:=h2
 obtain ⟨x,hx,hx0⟩:=wgt_at h hs
 obtain ⟨y,hy,hy0⟩:=wgt_at h ht
 exact lens_full (by omega) (by omega) (by rw [wgtC_len];decide) (posn_two hx hy hx0 hy0 hne)
/-- Lists of lengths, read. -/
theorem lists_back {bs:List UInt8} {ll dd:List Int} {s:RS} (hl:CodesOK ll) (hd:CodesOK dd) (hl1:257≤ll.length∧ll.length≤286) (hd1:1≤dd.length∧dd.length≤30) (hp:∃ y ∈ ll,0 < y) (he:s.e=0) (h:Bits bs s.p (listsB ll dd)) :
  hdN bs s=ll.length∧hdM bs s=dd.length∧ownLs bs s=(ll ++ dd,⟨s.p+(listsB ll dd).length,s.out,0⟩):=by
 have hrr:∀ y ∈ ll ++ dd,0≤y∧y≤15:=fun y hy=>by
  rw [List.mem_append] at hy
  rcases hy with hy | hy
  ·exact hl.rng y hy
  ·exact hd.rng y hy
 have hlen:(ll ++ dd).length=ll.length+dd.length:=List.length_append
 have hok:∀ x ∈ runsP (ll ++ dd),SgnOK x:=runsF_ok _ _ hrr
 have hexp:=exp_runs (ll ++ dd).length (ll ++ dd) [] (Nat.le_refl _) hrr
 rw [List.nil_append] at hexp
 have h2s:=two_signs (l:=ll ++ dd) (by omega) hrr (by obtain ⟨y,hy,hy0⟩:=hp;exact ⟨y,List.mem_append_left _ hy,hy0⟩)
 have hcf:=lensC_full hok h2s
 have hca:∀ x ∈ runsP (ll ++ dd),∃ k:Nat,(lensC (runsP (ll ++ dd)))[x.1]?=some (k:Int)∧0 < k:=fun x hx=>lensC_at hok hx
 have hco:=lensC_ok (runsP (ll ++ dd))
 have hcl:=lensC_len (runsP (ll ++ dd))
 have hcr:∀ k,0≤(lensC (runsP (ll ++ dd))).getD k 0∧(lensC (runsP (ll ++ dd))).getD k 0≤7:=fun k=>by
  rw [List.getD_eq_getElem?_getD]
  cases hk:(lensC (runsP (ll ++ dd)))[k]? with
  | none=>exact ⟨Int.le_refl _,by decide⟩
  | some x=>exact lensC_rng _ x (List.mem_iff_getElem?.2 ⟨k,hk⟩)
 have hrl:(runsP (ll ++ dd)).length≤(ll ++ dd).length:=runsF_len _ _
 have hL:listsB ll dd=lsb (ll.length - 257) 5 ++ lsb (dd.length - 1) 5 ++ lsb (hcK (lensC (runsP (ll ++ dd))) 19 - 4) 4 ++ ordB (lensC (runsP (ll ++ dd))) (hcK (lensC (runsP (ll ++ dd))) 19) ++ (runsP (ll ++ dd)).flatMap (sgnB (lensC (runsP (ll ++ dd)))):=rfl
 have hq1:=hcK_ge (lensC (runsP (ll ++ dd))) 19 (by omega)
 have hq2:=hcK_le (lensC (runsP (ll ++ dd))) 19
 obtain ⟨sx,hsx,-⟩:=h2s
 obtain ⟨kx,hkx,hkx0⟩:=hca sx hsx
 have hexp2:Exp [] (runsP (ll ++ dd)) (ll ++ dd):=hexp
 rw [hL] at h ⊢
 clear hL hok hexp hsx
 have hsf:=setF_all hcl
 unfold ordB at h ⊢
 generalize hcK (lensC (runsP (ll ++ dd))) 19=q at *
 generalize lensC (runsP (ll ++ dd))=cl at *
 generalize runsP (ll ++ dd)=sgs at *
 have b1:=h.left.left.left.left
 have b2:=h.left.left.left.right
 have b3:=h.left.left.right
 have b4:=h.left.right
 have b5:=h.right
 rw [lsb_len] at b2
 rw [List.length_append,lsb_len,lsb_len] at b3
 rw [List.length_append,List.length_append,lsb_len,lsb_len,lsb_len] at b4
 rw [List.length_append,List.length_append,List.length_append,lsb_len,lsb_len,lsb_len] at b5
 have g1:=getP_bits b1 (show ll.length - 257 < 2 ^ 5 by omega) he
 have hN:hdN bs s=ll.length:=by unfold hdN;rw [g1];show 257+(ll.length - 257)=_;omega
 have hA:hdA bs s=⟨s.p+5,s.out,0⟩:=by unfold hdA;rw [hN,if_neg (by omega),g1]
 have g2:=getP_bits (s:=⟨s.p+5,s.out,0⟩) b2 (show dd.length - 1 < 2 ^ 5 by omega) rfl
 have hM:hdM bs s=dd.length:=by unfold hdM;rw [hA,g2];show 1+(dd.length - 1)=_;omega
 have hB:hdB bs s=⟨s.p+(5+5),s.out,0⟩:=by unfold hdB;rw [hM,if_neg (by omega),hA,g2]
 have g3:=getP_bits (s:=⟨s.p+(5+5),s.out,0⟩) b3 (show q - 4 < 2 ^ 4 by omega) rfl
 have hQ:hdQ bs s=q:=by unfold hdQ;rw [hB,g3];show 4+(q - 4)=_;omega
 have g4:=ords_back hcr (ordL.take q) (List.replicate 19 0) ⟨s.p+(5+5+4),s.out,0⟩ rfl b4
 have hD:hdL bs s=(cl,⟨s.p+(5+5+4)+((ordL.take q).flatMap fun k=>lsb (cl.getD k 0).toNat 3).length,s.out,0⟩):=by
  unfold hdL
  rw [hQ,hB,g3]
  show lenRd bs (ordL.take q) (List.replicate 19 0) ⟨s.p+(5+5+4),s.out,0⟩=_
  rw [g4,hsf]
 obtain ⟨d1,d2⟩:=dec_full hco hkx (show (0:Int) < (kx:Int) by omega) hcf false (s:=⟨s.p+(5+5+4)+((ordL.take q).flatMap fun k=>lsb (cl.getD k 0).toNat 3).length,s.out,0⟩) rfl
 refine ⟨hN,hM,?_⟩
 unfold ownLs
 rw [hD,hN,hM]
 show listD bs (decD cl _) _ (decP cl false _)=_
 rw [d1,d2,← hlen]
 have g5:=signs_back hco sgs [] ⟨s.p+(5+5+4)+((ordL.take q).flatMap fun k=>lsb (cl.getD k 0).toNat 3).length,s.out,0⟩ ((ll ++ dd).length+1) (by omega) hexp2 hca rfl (by rw [Nat.add_assoc];exact b5)
 show listF bs cl (ll ++ dd).length ((ll ++ dd).length+1) [] _=_
 rw [g5,List.length_append,List.length_append,List.length_append,List.length_append,lsb_len,lsb_len,lsb_len]
 congr 2
 show s.p+(5+5+4)+_+_=_
 omega
theorem own_back {bz b:List UInt8} {most:Int} (hne:findP b ≠ []) (hm:((b.length:Nat):Int)≤most) (hw:WB bz (ownBits (findP b))) {f:Nat} (hf:8 * bz.length+1≤f) :
  blk0 bz ⟨0,[],0⟩=1∧blkP bz most f ⟨0,[],0⟩=⟨(ownBits (findP b)).length,b,0⟩:=by
 have h:=hw.bits
 unfold ownBits at h
 obtain ⟨h0,h1,h2⟩:=head_bits (s:=⟨0,[],0⟩) h.left.left (by decide) rfl
 refine ⟨h0,?_⟩
 unfold blkP
 rw [h1,h2]
 have hok:=(findP_ok b).1
 have hr:=h.left.right
 rw [headL_len] at hr
 have hr2:=h.right
 rw [List.length_append,headL_len] at hr2
 obtain ⟨x,hx,hx0⟩:=weigh_256 (findP b)
 obtain ⟨k2,hk2,hk20⟩:=dynL_at hx hx0
 have hyl:=List.mem_iff_getElem?.2 ⟨256,hk2⟩
 obtain ⟨e1,e2,e3⟩:=lists_back (s:=⟨3,[],0⟩) (dynL_ok (findP b)) (dynD_ok (findP b)) (dynL_rng _) (dynD_rng _) ⟨_,hyl,by omega⟩ rfl hr
 have hlr:=dynL_rng (findP b)
 show rownP bz most f ⟨3,[],0⟩=_
 unfold rownP
 rw [e1,e3]
 have hO:ownBits (findP b)=headL 2 ++ listsB (dynL (findP b)) (dynD (findP b)) ++ toksB (dynL (findP b)) (dynD (findP b)) (findP b):=rfl
 have hfull:=dynL_full hok hne
 have hLo:=dynL_ok (findP b)
 have hDo:=dynD_ok (findP b)
 have hdd:=fun {s:RS} (he:s.e=0)=>dynD_dec (findP b) he
 have htc:=dyn_tokC hok
 rw [hO]
 generalize dynL (findP b)=ll at *
 generalize dynD (findP b)=dd at *
 have g256:(ll ++ dd).getD 256 0=(k2:Int):=by rw [List.getD_eq_getElem?_getD,List.getElem?_append_left (by omega),hk2];rfl
 have o1:own1 (ll ++ dd) ⟨3+(listsB ll dd).length,[],0⟩=⟨3+(listsB ll dd).length,[],0⟩:=by unfold own1;rw [g256,if_neg (by omega)]
 have ht:(ll ++ dd).take ll.length=ll:=by rw [List.take_left'];rfl
 have hdp:(ll ++ dd).drop ll.length=dd:=by rw [List.drop_left'];rfl
 have o2:own2 (ll ++ dd) ll.length ⟨3+(listsB ll dd).length,[],0⟩=⟨3+(listsB ll dd).length,[],0⟩:=by
  unfold own2
  rw [o1,ht]
  exact (dec_full hLo hk2 (by omega) hfull false rfl).1
 obtain ⟨q1,q2,q3⟩:=hdd (s:=⟨3+(listsB ll dd).length,[],0⟩) rfl
 have o3:own3 (ll ++ dd) ll.length ⟨3+(listsB ll dd).length,[],0⟩=⟨3+(listsB ll dd).length,[],0⟩:=by
  unfold own3
  rw [hdp,q3,if_neg (by decide),o2]
  exact q1
 have o4:ownDD (ll ++ dd) ll.length ⟨3+(listsB ll dd).length,[],0⟩=some dd:=by
  unfold ownDD
  rw [hdp,q3,if_neg (by decide),o2]
  exact q2
 show ownT bz most (ll ++ dd) ll.length f ⟨3+(listsB ll dd).length,[],0⟩=_
 unfold ownT
 rw [if_pos rfl,o3,if_pos rfl,o4,ht]
 have hl9:=hr2.1
 rw [toks_back (b:=b) hLo hDo hm ⟨k2,hk2,hk20⟩ b.length 0 f ⟨3+(listsB ll dd).length,[],0⟩ (Nat.zero_le _) (by omega) rfl rfl htc (by rw [Nat.zero_add] at hr2;exact hr2) (by show (toksB ll dd (findP b)).length≤f;omega)]
 rw [List.length_append,List.length_append,headL_len]
 rfl
theorem ownBits_min (ts:List Tok):17≤(ownBits ts).length:=by
 unfold ownBits listsB
 rw [List.length_append,List.length_append,List.length_append,List.length_append,List.length_append,List.length_append,headL_len,lsb_len,lsb_len,lsb_len]
 omega
theorem fixB_nil10:(fixB []).length=10:=by decide +kernel
/-- What is compressed comes out as it was, and all of it is used. -/
theorem z_back {bz b:List UInt8} {most:Int} (hb:b.length≤40000) (hm:((b.length:Nat):Int)≤most) (hw:WB bz (deflB b (findP b))):infS bz most=⟨(deflB b (findP b)).length,b,0⟩:=by
 have key:blk0 bz ⟨0,[],0⟩=1∧blkP bz most (8 * bz.length+1) ⟨0,[],0⟩=⟨(deflB b (findP b)).length,b,0⟩:=by
  unfold deflB at hw ⊢
  by_cases h1:(ownBits (findP b)).length < (best1 b (findP b)).length
  ·rw [if_pos h1] at hw ⊢
   refine own_back (fun e=>?_) hm hw (Nat.le_refl _)
   rw [e] at h1
   have h2:=ownBits_min []
   have h3:(best1 b []).length≤10:=by
    unfold best1
    split
    ·rw [fixB_nil10];exact Nat.le_refl _
    ·rename_i hh
     rw [fixB_nil10] at hh
     omega
   omega
  ·rw [if_neg h1] at hw ⊢
   unfold best1 at hw ⊢
   by_cases h2:(fixB (findP b)).length < (plainL b).length
   ·rw [if_pos h2] at hw ⊢
    exact fixed_back hm hw (Nat.le_refl _)
   ·rw [if_neg h2] at hw ⊢
    exact stored_back hb hm hw _
 unfold infS
 show infF bz most (8 * bz.length+1) (8 * bz.length+1) ⟨0,[],0⟩=_
 rw [infF,if_pos (show (RS.mk 0 [] 0).e=0 from rfl),key.1,if_neg (by decide)]
 exact key.2
end Go.Proofs.YtebbdifhiihfkaaGreatDoor

