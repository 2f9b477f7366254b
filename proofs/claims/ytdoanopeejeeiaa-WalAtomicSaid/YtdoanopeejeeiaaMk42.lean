/- XWlm -/
import Derived.Test.YtdoanopeejeeiaaMk41
import Derived.Test.YtdoanopeejeeiaaMk20
namespace Go.Proofs.Ytdoanopeejeeiaa
set_option linter.all false
open Go.RowKit Go.Maps
theorem homeL_congr {f g:SF} {N home:Nat} (h:∀ j,home≤j→f j=g j):homeL f N home=homeL g N home:=by
 unfold homeL
 exact List.map_congr_left (fun i _=>h _ (Nat.le_add_right _ _))
theorem appl1_home (f:SF) {N home j:Nat} (b:Bs) (h:home≤j):appl1 home (homeL f N home) ((j:Int),b)=homeL (updF f j b) N home:=by
 apply List.ext_getElem?
 intro i
 by_cases hi:home+i < N
 ·rw [homeL_get _ hi]
  unfold appl1 updF
  rw [homeL_len]
  by_cases hj:j < N
  ·rw [if_pos (by dsimp only;omega)]
   have e:((j:Int) - (home:Int)).toNat=j - home:=by omega
   show (List.set _ ((j:Int) - (home:Int)).toNat b)[i]?=_
   rw [e]
   by_cases hij:j - home=i
   ·subst hij
    rw [List.getElem?_set_self (by rw [homeL_len];omega),if_pos (by omega)]
   ·rw [List.getElem?_set_ne hij,homeL_get _ hi,if_neg (by omega)]
  ·rw [if_neg (by dsimp only;omega),homeL_get _ hi,if_neg (by omega)]
 ·rw [List.getElem?_eq_none (by rw [appl1_len,homeL_len];omega),List.getElem?_eq_none (by rw [homeL_len];omega)]
theorem appl_home {N home:Nat}:∀ (ps:List (Nat × Bs)) (f:SF),(∀ x ∈ ps,home≤x.1)→appl home (homeL f N home) (ips ps)=homeL (layL f ps) N home
 | [],_,_=>rfl
 | x :: ps,f,h=>by
  show appl home (appl1 home (homeL f N home) ((x.1:Int),x.2)) (ips ps)=homeL (layL (updF f x.1 x.2) ps) N home
  rw [appl1_home f x.2 (h x List.mem_cons_self)]
  exact appl_home ps _ (fun y hy=>h y (List.mem_cons_of_mem _ hy))
theorem may_good {N ring:Nat} {ps:List (Int × Bs)} (h:mayV (2+ring) N ring ps=0) (h0:ps ≠ []) (hf:ps.length≤150) (hl:∀ x ∈ ps,x.2.length=256):∃ nps,ips nps=ps∧GoodP N ring nps:=by
 have hok:okAll (2+ring) N ps=true:=by
  unfold mayV at h
  by_cases c:okAll (2+ring) N ps=true
  ·exact c
  ·rw [if_neg c] at h;cases h
 have hnd:needN ps.length≤ring:=by
  unfold mayV at h
  rw [if_pos hok] at h
  by_cases c:ring < needN ps.length
  ·rw [if_pos c] at h;cases h
  ·omega
 have hk:∀ x ∈ ps,((2+ring:Nat):Int)≤x.1∧x.1 < (N:Int):=fun x hx=>by
  obtain ⟨i,hi⟩:=List.mem_iff_getElem?.1 hx
  have:=okAll_at hok hi
  unfold okAt at this
  rw [Bool.and_eq_true] at this
  exact of_decide_eq_true this.1
 refine ⟨ps.map fun x=>(x.1.toNat,x.2),?_,by simpa using h0,by rw [List.length_map];exact hf,by rw [List.length_map];exact hnd,fun x hx=>?_,?_⟩
 ·unfold ips
  rw [List.map_map]
  conv=>rhs;rw [← List.map_id ps]
  refine List.map_congr_left (fun x hx=>?_)
  have:=hk x hx
  show ((x.1.toNat:Int),x.2)=x
  rw [Int.toNat_of_nonneg (by omega)]
 ·obtain ⟨y,hy,rfl⟩:=List.mem_map.1 hx
  have:=hk y hy
  exact ⟨by show _≤y.1.toNat;omega,by show y.1.toNat < _;omega,hl y hy⟩
 ·rw [List.map_map]
  refine List.pairwise_iff_getElem.2 (fun i j hi hj hij e=>?_)
  rw [List.length_map] at hi hj
  rw [List.getElem_map,List.getElem_map] at e
  have e1:(ps[i]).1.toNat=(ps[j]).1.toNat:=e
  have k1:=hk _ (List.getElem_mem hi)
  have k2:=hk _ (List.getElem_mem hj)
  have e2:(ps[i]).1=(ps[j]).1:=by omega
  have:=okAll_at hok (List.getElem?_eq_getElem hj)
  unfold okAt at this
  rw [Bool.and_eq_true] at this
  have ha:=anyK_le (m:=j) (List.getElem?_eq_getElem hi) hij (p:=(ps[j]).1) (by rw [e2];exact beq_self_eq_true _)
  rw [ha] at this
  cases this.2
theorem putsV_data {at_:List Int} {cs:Bs}:∀ x ∈ putsV at_ cs,x.2.length=256:=fun x hx=>by
 obtain ⟨i,hi⟩:=List.mem_iff_getElem?.1 hx
 unfold putsV at hi
 rw [List.getElem?_mapIdx] at hi
 cases e:at_[i]? with
 | none=>rw [e] at hi;cases hi
 | some k =>
  rw [e] at hi
  injection hi with hi
  rw [← hi]
  exact fillB_len _
theorem may_three (home N ring:Nat) (ps:List (Int × Bs)):mayV home N ring ps=0∨mayV home N ring ps=1∧okAll home N ps=false∨mayV home N ring ps=9∧okAll home N ps=true∧ring < needN ps.length:=by
 unfold mayV
 cases h:okAll home N ps with
 | true =>
  rw [if_pos rfl]
  by_cases c:ring < needN ps.length
  ·rw [if_pos c];exact .inr (.inr ⟨rfl,rfl,c⟩)
  ·rw [if_neg c];exact .inl rfl
 | false=>exact .inr (.inl ⟨rfl,rfl⟩)
/-- Sets that came in. -/
def RdSets (w:World) (B:Nat) (A:Option Addr) (m:Nat) (zs:List (List Int × Bs)):Prop :=
 ∃ l:List ST,RdA w B A m l∧l.length=zs.length∧∀ (i:Nat) (ats:List Int) (cs:Bs),zs[i]?=some (ats,cs)→∃ (A1:Option Addr) (n1 c1:Nat) (A2:Option Addr) (n2 c2:Nat),l[i]?=some (((A1,n1,c1),(A2,n2,c2)):ST)∧RdI w B A1 n1 ats∧RdB w B A2 n2 cs∧∀ x ∈ ats,-9223372036854775808≤x∧x≤9223372036854775807
theorem RdSets.blw {w w':World} {B m:Nat} {A:Option Addr} {zs:List (List Int × Bs)} (h:RdSets w B A m zs) (hb:Below B w w'):RdSets w' B A m zs:=by
 obtain ⟨l,h1,h2,h3⟩:=h
 refine ⟨l,h1.blw hb,h2,fun i ats cs e=>?_⟩
 obtain ⟨A1,n1,c1,A2,n2,c2,e1,r1,r2,r3⟩:=h3 i ats cs e
 exact ⟨A1,n1,c1,A2,n2,c2,e1,RdI.blw r1 hb,RdB.blw r2 hb,r3⟩
theorem RdSets.get {w:World} {B m:Nat} {A:Option Addr} {zs:List (List Int × Bs)} (h:RdSets w B A m zs) {k:Nat} {ats:List Int} {cs:Bs} (e:zs[k]?=some (ats,cs)) :
  ∃ b o A1 n1 c1 A2 n2 c2,A=some ⟨b,o,none⟩∧b < B∧w.cell? ⟨b,o+k * 2,none⟩=some (.slice A1 n1 c1)∧w.cell? ⟨b,o+k * 2+1,none⟩=some (.slice A2 n2 c2)∧RdI w B A1 n1 ats∧RdB w B A2 n2 cs∧∀ x ∈ ats,-9223372036854775808≤x∧x≤9223372036854775807:=by
 obtain ⟨l,h1,h2,h3⟩:=h
 obtain ⟨A1,n1,c1,A2,n2,c2,e1,r1,r2,r3⟩:=h3 k ats cs e
 have hk:k < m:=by have:=(List.getElem?_eq_some_iff.1 e1).1;have:=h1.len;omega
 obtain ⟨b,o,x,hA,hb,hx,q1,q2⟩:=h1.one hk
 have hx2:=hx.out
 rw [e1] at hx2
 injection hx2 with hx2
 subst hx2
 exact ⟨b,o,A1,n1,c1,A2,n2,c2,hA,hb,q1,q2,r1,r2,r3⟩
theorem RdSets.len {w:World} {B m:Nat} {A:Option Addr} {zs:List (List Int × Bs)} (h:RdSets w B A m zs):zs.length=m:=by
 obtain ⟨l,h1,h2,-⟩:=h
 rw [← h2,h1.len]
end Go.Proofs.Ytdoanopeejeeiaa

