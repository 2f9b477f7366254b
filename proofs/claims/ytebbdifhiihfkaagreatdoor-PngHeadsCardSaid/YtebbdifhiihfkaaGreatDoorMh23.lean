/- XHuffQ XHuffR XHuffS XHuffT XFl13 -/
import Derived.Test.YtebbdifhiihfkaaGreatDoorMh14
import Derived.Test.YtebbdifhiihfkaaGreatDoorMh16
import Derived.Test.YtebbdifhiihfkaaGreatDoorMh21
import Derived.Test.YtebbdifhiihfkaaGreatDoorMh22
namespace Go.Proofs.YtebbdifhiihfkaaGreatDoor
set_option linter.all false
/-- How often each place stands among so many. -/
theorem bumps_get (xs:List Int) (ps:List Nat) (i:Nat) (hi:i < xs.length):(bumps xs ps).getD i 0=xs.getD i 0+(ps.count i:Int):=by
 induction ps generalizing xs with
 | nil=>simp [bumps]
 | cons p ps ih =>
  have e:bumps xs (p :: ps)=bumps (bump xs p) ps:=rfl
  rw [e,ih (bump xs p) (by rw [bump,List.length_set];exact hi),List.count_cons]
  unfold bump
  rw [List.getD_eq_getElem?_getD,List.getElem?_set]
  by_cases h:p=i
  ·subst h
   rw [if_pos rfl,if_pos hi]
   simp
   omega
  ·rw [if_neg h,List.getD_eq_getElem?_getD]
   have:(p == i)=false:=beq_eq_false_iff_ne.2 h
   simp [this]
/-- The packages' members. -/
def kids:List Mem→List Mem
 | []=>[]
 | .leaf _ _ :: r=>kids r
 | .node a b :: r=>a :: b :: kids r
/-- The items that stand alone. -/
def tops:List Mem→List Nat
 | []=>[]
 | .leaf _ p :: r=>p :: tops r
 | .node _ _ :: r=>tops r
theorem items_count (T:List Mem) (i:Nat):(T.flatMap Mem.items).count i=(tops T).count i+((kids T).flatMap Mem.items).count i:=by
 induction T with
 | nil=>rfl
 | cons x r ih =>
  rw [List.flatMap_cons,List.count_append,ih]
  cases x with
  | leaf w p=>simp [tops,kids,Mem.items,List.count_cons];omega
  | node a b=>simp [tops,kids,Mem.items,List.count_append];omega
def isLeaf:Mem→Bool
 | .leaf _ _=>true
 | .node _ _=>false
def Mem.pl:Mem→Nat
 | .leaf _ p=>p
 | .node _ _=>0
theorem tops_leaves {a:List Mem} (h:∀ x ∈ a,isLeaf x=true):tops a=a.map Mem.pl∧kids a=[]:=by
 induction a with
 | nil=>exact ⟨rfl,rfl⟩
 | cons x r ih =>
  obtain ⟨h1,h2⟩:=ih (fun y hy=>h y (by simp [hy]))
  cases x with
  | leaf w p=>simp [tops,kids,Mem.pl,h1,h2]
  | node a b=>have:=h (.node a b) (by simp);cases this
theorem tops_nodes {a:List Mem} (h:∀ x ∈ a,isLeaf x=false):tops a=[]:=by
 induction a with
 | nil=>rfl
 | cons x r ih =>
  have h1:=ih (fun y hy=>h y (by simp [hy]))
  cases x with
  | leaf w p=>have:=h (.leaf w p) (by simp);cases this
  | node a b=>simp [tops,h1]
theorem packs_nodes (l:List Mem):∀ x ∈ packs l,isLeaf x=false:=by
 intro x hx
 obtain ⟨a,b,rfl,_,_⟩:=packs_mem hx
 rfl
theorem kids_packs (l:List Mem) (q:Nat):kids ((packs l).take q)=l.take (2 * min q (packs l).length):=by
 fun_induction packs l generalizing q with
 | case1 a b r ih =>
  cases q with
  | zero=>simp [kids]
  | succ q =>
   rw [List.take_succ_cons,kids,ih q,List.length_cons,show min (q+1) ((packs r).length+1)=min q (packs r).length+1 by omega,show 2 * (min q (packs r).length+1)=2 * min q (packs r).length+1+1 by omega,List.take_succ_cons,List.take_succ_cons]
 | case2 l h=>simp [kids]
/-- The front of a merge. -/
theorem mrg_take (a b:List Mem) (hs:Srt Mem.w a) (ha:∀ x ∈ a,isLeaf x=true) (hb:∀ x ∈ b,isLeaf x=false) (t:Nat) (ht:t≤a.length+b.length) :
  ∃ p q,p+q=t∧p≤a.length∧q≤b.length∧tops ((mrgBy Mem.w a b).take t)=(a.take p).map Mem.pl∧kids ((mrgBy Mem.w a b).take t)=kids (b.take q)∧(∀ x ∈ a.drop p,∀ y ∈ b.take q,y.w < x.w):=by
 fun_induction mrgBy Mem.w a b generalizing t with
 | case1 b =>
  refine ⟨0,t,by omega,by simp,by simpa using ht,?_,rfl,fun x hx=>by simp at hx⟩
  rw [tops_nodes (fun x hx=>hb x (List.mem_of_mem_take hx))]
  rfl
 | case2 x r =>
  obtain ⟨h1,h2⟩:=tops_leaves (a:=(x :: r).take t) (fun y hy=>ha y (List.mem_of_mem_take hy))
  refine ⟨t,0,by omega,by simpa using ht,by simp,h1,?_,fun _ _ y hy=>by simp at hy⟩
  rw [h2]
  rfl
 | case3 x r y s hlt ih =>
  cases t with
  | zero=>exact ⟨0,0,rfl,by simp,by simp,rfl,rfl,fun _ _ y hy=>by simp at hy⟩
  | succ t =>
   obtain ⟨p,q,e1,e2,e3,e4,e5,e6⟩:=ih hs ha (fun z hz=>hb z (by simp [hz])) t (by simp at ht ⊢;omega)
   have hy:=hb y (by simp)
   refine ⟨p,q+1,by omega,e2,by simp;omega,?_,?_,?_⟩
   ·rw [List.take_succ_cons]
    cases y with
    | leaf=>cases hy
    | node=>exact e4
   ·rw [List.take_succ_cons,List.take_succ_cons]
    cases y with
    | leaf=>cases hy
    | node u v=>rw [kids,kids,e5]
   ·intro z hz v hv
    rw [List.take_succ_cons] at hv
    rcases List.mem_cons.1 hv with rfl | hv
    ·have hzm:=List.mem_of_mem_drop hz
     rcases List.mem_cons.1 hzm with rfl | hzm
     ·exact hlt
     ·have:=(List.pairwise_cons.1 hs).1 z hzm
      omega
    ·exact e6 z hz v hv
 | case4 x r y s hge ih =>
  cases t with
  | zero=>exact ⟨0,0,rfl,by simp,by simp,rfl,rfl,fun _ _ y hy=>by simp at hy⟩
  | succ t =>
   obtain ⟨p,q,e1,e2,e3,e4,e5,e6⟩:=ih (List.pairwise_cons.1 hs).2 (fun z hz=>ha z (by simp [hz])) hb t (by simp at ht ⊢;omega)
   have hx:=ha x (by simp)
   refine ⟨p+1,q,by omega,by simp;omega,e3,?_,?_,?_⟩
   ·rw [List.take_succ_cons,List.take_succ_cons]
    cases x with
    | leaf w p=>rw [tops,e4];rfl
    | node=>cases hx
   ·rw [List.take_succ_cons]
    cases x with
    | leaf w p=>rw [kids,e5]
    | node=>cases hx
   ·intro z hz v hv
    exact e6 z (by simpa using hz) v hv
/-- A tree is as heavy as its items. -/
def Fits (W:Nat→Int):Mem→Prop
 | .leaf x p=>x=W p∧0≤x
 | .node a b=>Fits W a∧Fits W b
theorem Fits.le {W:Nat→Int}:∀ {t:Mem},Fits W t→0≤t.w∧∀ p ∈ t.items,W p≤t.w
 | .leaf x p,h=>⟨h.2,fun q hq=>by
  have:q=p:=by simpa [Mem.items] using hq
  subst this
  show W q≤x
  rw [h.1]
  exact Int.le_refl _⟩
 | .node a b,h=>by
  obtain ⟨a0,a1⟩:=Fits.le h.1
  obtain ⟨b0,b1⟩:=Fits.le h.2
  refine ⟨by show 0≤a.w+b.w;omega,fun q hq=>?_⟩
  show W q≤a.w+b.w
  rcases List.mem_append.1 hq with hq | hq
  ·have:=a1 q hq;omega
  ·have:=b1 q hq;omega
theorem pm_fits {W:Nat→Int} {first:List Mem} (h:∀ t ∈ first,Fits W t) (k:Nat):∀ t ∈ pmL first k,Fits W t :=
 pm_all (P:=fun _ t=>Fits W t) (fun _ t ht=>h t ht) (fun _ _ _ ha hb=>⟨ha,hb⟩) k
end Go.Proofs.YtebbdifhiihfkaaGreatDoor

/- huff: the lengths of a code by packages, plainly: what they add up to. -/
namespace Go.Proofs.YtebbdifhiihfkaaGreatDoor
set_option linter.all false
theorem kids_mem {T:List Mem} {P:Nat} (h:P ∈ (kids T).flatMap Mem.items):∃ Y ∈ T,P ∈ Y.items:=by
 induction T with
 | nil=>simp [kids] at h
 | cons x r ih =>
  cases x with
  | leaf w p =>
   obtain ⟨Y,h1,h2⟩:=ih h
   exact ⟨Y,by simp [h1],h2⟩
  | node a b =>
   rw [kids,List.flatMap_cons,List.flatMap_cons] at h
   rcases List.mem_append.1 h with h | h
   ·exact ⟨.node a b,by simp,List.mem_append_left _ h⟩
   ·rcases List.mem_append.1 h with h | h
    ·exact ⟨.node a b,by simp,List.mem_append_right _ h⟩
    ·obtain ⟨Y,h1,h2⟩:=ih h
     exact ⟨Y,by simp [h1],h2⟩
/-- What the items are: leaves, rising, each place once, weights by places. -/
structure Firsts (W:Nat→Int) (first:List Mem):Prop where
 srt:Srt Mem.w first
 leaf:∀ x ∈ first,isLeaf x=true
 nodup:(first.map Mem.pl).Nodup
 fits:∀ x ∈ first,Fits W x
def cn (first:List Mem) (j t:Nat) (P:Nat):Nat:=(((pmL first j).take t).flatMap Mem.items).count P
theorem count_take {l:List Nat} (h:l.Nodup) (p i:Nat) (hi:i < l.length):(l.take p).count l[i]=if i < p then 1 else 0:=by
 by_cases hp:i < p
 ·rw [if_pos hp]
  have hn:(l.take p).Nodup:=h.sublist (List.take_sublist _ _)
  have hm:l[i] ∈ l.take p:=by
   rw [List.mem_take_iff_getElem]
   exact ⟨i,by omega,rfl⟩
  rw [List.Nodup.count hn,if_pos hm]
 ·rw [if_neg hp]
  rw [List.count_eq_zero]
  intro hm
  rw [List.mem_take_iff_getElem] at hm
  obtain ⟨k,hk,e⟩:=hm
  exact (List.pairwise_iff_getElem.1 h) k i (by omega) hi (by omega) e
section
variable {W : Nat → Int} {first : List Mem} (F : Firsts W first)
include F
theorem cn_zero (t i:Nat) (hi:i < first.length):cn first 0 t first[i].pl=if i < t then 1 else 0:=by
 unfold cn
 rw [items_count]
 obtain ⟨h1,h2⟩:=tops_leaves (a:=first.take t) (fun x hx=>F.leaf x (List.mem_of_mem_take hx))
 show (tops (first.take t)).count _+_=_
 rw [h1]
 show _+((kids (first.take t)).flatMap Mem.items).count _=_
 rw [h2]
 have:=count_take F.nodup t i (by simpa using hi)
 rw [List.getElem_map,← List.map_take] at this
 rw [this]
 simp
theorem cn_succ (j t:Nat) (ht:t≤(pmL first (j+1)).length):∃ p q,p+q=t∧p≤first.length∧2 * q≤(pmL first j).length ∧
  (∀ i (hi:i < first.length),cn first (j+1) t first[i].pl=(if i < p then 1 else 0)+cn first j (2 * q) first[i].pl)∧(∀ i (hi:i < first.length),p≤i→cn first j (2 * q) first[i].pl=0):=by
 have hlen:(pmL first (j+1)).length=first.length+(packs (pmL first j)).length:=by rw [pmL,mrgBy_len]
 obtain ⟨p,q,e1,e2,e3,e4,e5,e6⟩:=mrg_take first (packs (pmL first j)) F.srt F.leaf (packs_nodes _) t (by omega)
 have hq:2 * q≤(pmL first j).length:=by rw [packs_len] at e3;omega
 have hk:kids ((packs (pmL first j)).take q)=(pmL first j).take (2 * q):=by rw [kids_packs,Nat.min_eq_left e3]
 refine ⟨p,q,e1,e2,hq,fun i hi=>?_,fun i hi hp=>?_⟩
 ·unfold cn
  rw [items_count,pmL,e4,e5,hk]
  have:=count_take F.nodup p i (by simpa using hi)
  rw [List.getElem_map,← List.map_take] at this
  rw [this]
 ·unfold cn
  rw [← hk,List.count_eq_zero]
  intro hm
  obtain ⟨Y,h1,h2⟩:=kids_mem hm
  have hx:first[i] ∈ first.drop p:=by
   rw [List.mem_drop_iff_getElem]
   exact ⟨i - p,by omega,by congr 1;omega⟩
  have hlt:=e6 _ hx Y h1
  have hY:Fits W Y:=by
   obtain ⟨a,b,rfl,ha,hb⟩:=packs_mem (List.mem_of_mem_take h1)
   exact ⟨pm_fits F.fits j a ha,pm_fits F.fits j b hb⟩
  have hle:=hY.le.2 _ h2
  have hfi:=F.fits _ (List.getElem_mem hi)
  have hlf:=F.leaf _ (List.getElem_mem hi)
  cases hf:first[i] with
  | leaf x p =>
   rw [hf] at hlt hle hfi
   have:x < x:=by
    have h5:Y.w < x:=hlt
    have h6:W p≤Y.w:=hle
    have h7:x=W p:=hfi.1
    omega
   omega
  | node a b=>rw [hf] at hlf;cases hlf
theorem cn_le:∀ (j t:Nat),t≤(pmL first j).length→∀ i (hi:i < first.length),cn first j t first[i].pl≤j+1:=by
 intro j
 induction j with
 | zero=>intro t _ i hi;rw [cn_zero F t i hi];split <;> omega
 | succ j ih =>
  intro t ht i hi
  obtain ⟨p,q,_,_,hq,hc,_⟩:=cn_succ F j t ht
  rw [hc i hi]
  have:=ih (2 * q) hq i hi
  split <;> omega
theorem sum_if (n p K:Nat) (hp:p≤n):((List.range n).map fun i=>if i < p then K else 0).sum=p * K:=by
 clear F
 induction n with
 | zero =>
  obtain rfl:p=0:=by omega
  simp
 | succ n ih =>
  rw [List.range_succ,List.map_append,List.sum_append]
  simp only [List.map_cons,List.map_nil,List.sum_cons,List.sum_nil]
  by_cases h:p≤n
  ·rw [ih h,if_neg (by omega)];omega
  ·obtain rfl:p=n+1:=by omega
   rw [if_pos (by omega)]
   have e:((List.range n).map fun i=>if i < n+1 then K else 0)=(List.range n).map fun i=>if i < n then K else 0:=by
    apply List.map_congr_left
    intro i hi
    rw [List.mem_range] at hi
    rw [if_pos (by omega),if_pos hi]
   rw [e]
   have e2:∀ n:Nat,((List.range n).map fun i=>if i < n then K else 0).sum=n * K:=by
    intro n
    have:((List.range n).map fun i=>if i < n then K else 0)=List.replicate n K:=by
     apply List.ext_getElem?
     intro i
     by_cases h:i < n
     ·simp [h]
     ·simp [h]
    rw [this]
    simp
   rw [e2,Nat.add_mul]
   omega
theorem sum_add (n:Nat) (f g:Nat→Nat):((List.range n).map fun i=>f i+g i).sum=((List.range n).map f).sum+((List.range n).map g).sum:=by
 clear F
 induction n with
 | zero=>rfl
 | succ n ih=>simp only [List.range_succ,List.map_append,List.sum_append,ih,List.map_cons,List.map_nil,List.sum_cons,List.sum_nil];omega
/-- How much of all codes the lengths take. -/
theorem cn_kraft:∀ (j t:Nat),t≤(pmL first j).length→((List.range first.length).map fun i=>2 ^ (j+1) - 2 ^ (j+1 - cn first j t (first.getD i default).pl)).sum=t * 2 ^ j:=by
 intro j
 induction j with
 | zero =>
  intro t ht
  have e:((List.range first.length).map fun i=>2 ^ (0+1) - 2 ^ (0+1 - cn first 0 t (first.getD i default).pl))=(List.range first.length).map fun i=>if i < t then 1 else 0:=by
   apply List.map_congr_left
   intro i hi
   rw [List.mem_range] at hi
   rw [List.getD_eq_getElem?_getD,List.getElem?_eq_getElem hi,Option.getD_some,cn_zero F t i hi]
   split <;> rfl
  rw [e,sum_if F first.length t 1 ht,Nat.pow_zero]
 | succ j ih =>
  intro t ht
  obtain ⟨p,q,e1,e2,hq,hc,hz⟩:=cn_succ F j t ht
  have e:((List.range first.length).map fun i=>2 ^ (j+1+1) - 2 ^ (j+1+1 - cn first (j+1) t (first.getD i default).pl))=(List.range first.length).map fun i=>(if i < p then 2 ^ (j+1) else 0)+(2 ^ (j+1) - 2 ^ (j+1 - cn first j (2 * q) (first.getD i default).pl)):=by
   apply List.map_congr_left
   intro i hi
   rw [List.mem_range] at hi
   rw [List.getD_eq_getElem?_getD,List.getElem?_eq_getElem hi,Option.getD_some,hc i hi]
   have hle:=cn_le F j (2 * q) hq i hi
   by_cases hp:i < p
   ·rw [if_pos hp,if_pos hp]
    generalize cn first j (2 * q) first[i].pl=c at *
    rw [show j+1+1 - (1+c)=j+1 - c by omega,Nat.pow_succ 2 (j+1)]
    have:2 ^ (j+1 - c)≤2 ^ (j+1):=Nat.pow_le_pow_right (by decide) (by omega)
    omega
   ·rw [if_neg hp,if_neg hp,hz i hi (by omega)]
    simp
  rw [e,sum_add F,sum_if F _ _ _ e2,ih (2 * q) hq,Nat.pow_succ,← e1,Nat.add_mul]
  generalize 2 ^ j=u
  rw [Nat.mul_comm 2 q,Nat.mul_assoc q 2 u,Nat.mul_comm 2 u]
end
end Go.Proofs.YtebbdifhiihfkaaGreatDoor

/- huff: the lengths that weights have, plainly: place by place. -/
namespace Go.Proofs.YtebbdifhiihfkaaGreatDoor
set_option linter.all false
def wOf (ws:List Int) (p:Nat):Int:=ws.getD p 0
theorem wOf_get {ws:List Int} {i:Nat} {x:Int} (h:ws[i]?=some x):wOf ws i=x:=by
 unfold wOf
 rw [List.getD_eq_getElem?_getD,h]
 rfl
theorem leaves_pl_lt (ws:List Int):∀ p ∈ (leaves ws).map Mem.pl,p < ws.length:=by
 intro p hp
 rw [List.mem_map] at hp
 obtain ⟨t,ht,rfl⟩:=hp
 obtain ⟨q,hq,rfl,_⟩:=leaves_mem ht
 exact hq
theorem leaves_nodup (ws:List Int):((leaves ws).map Mem.pl).Nodup:=by
 induction ws using snoc_ind with
 | h0=>exact List.nodup_nil
 | h1 l x ih =>
  rw [leaves_snoc,List.map_append]
  split
  ·rw [List.nodup_append]
   refine ⟨ih,by simp,fun a ha b hb=>?_⟩
   have h1:=leaves_pl_lt l a ha
   have h2:b=l.length:=by simpa [Mem.pl] using hb
   omega
  ·simpa using ih
def firstOf (ws:List Int):List Mem:=stab Mem.w (leaves ws)
theorem firstOf_perm (ws:List Int):(leaves ws).Perm (firstOf ws):=by
 classical
 exact (stab_ss (wt:=Mem.w) (leaves ws)).2.perm
theorem firstOf_ok (ws:List Int):Firsts (wOf ws) (firstOf ws):=by
 refine ⟨(stab_ss _).1,fun x hx=>?_,?_,fun x hx=>?_⟩
 ·obtain ⟨p,_,rfl,_⟩:=leaves_mem (stab_mem.1 hx)
  rfl
 ·exact ((firstOf_perm ws).map Mem.pl).nodup_iff.1 (leaves_nodup ws)
 ·obtain ⟨p,hp,rfl,h0⟩:=leaves_mem (stab_mem.1 hx)
  refine ⟨?_,by omega⟩
  rw [wOf_get (List.getElem?_eq_getElem hp)]
theorem firstOf_len (ws:List Int):(firstOf ws).length=posn ws:=by
 unfold firstOf
 rw [(stab_ss (wt:=Mem.w) (leaves ws)).2.length,leaves_length]
theorem leaf_at {ws:List Int} {i:Nat} {x:Int} (h:ws[i]?=some x) (h0:0 < x):∃ s,∃ hs:s < (firstOf ws).length,(firstOf ws)[s]=.leaf x i:=by
 have hm:Mem.leaf x i ∈ leaves ws:=by
  unfold leaves
  rw [List.mem_filterMap]
  refine ⟨(x,i),?_,by rw [if_pos h0]⟩
  rw [List.mem_zipIdx_iff_getElem?]
  exact h
 have:=stab_mem (wt:=Mem.w) |>.2 hm
 obtain ⟨s,hs,e⟩:=List.getElem_of_mem this
 exact ⟨s,hs,e⟩
/-- The length of a place, as a number. -/
def lnat (ws:List Int) (m i:Nat):Nat :=
 if (leaves ws).length=1 then ((leaves ws).flatMap Mem.items).count i else cn (firstOf ws) (m - 1) (2 * (leaves ws).length - 2) i
theorem lensOf_get (ws:List Int) (m:Nat) {i:Nat} (hi:i < ws.length):(lensOf ws m)[i]?=some (lnat ws m i:Int):=by
 have hz:(List.replicate ws.length (0:Int)).getD i 0=0:=by
  rw [List.getD_eq_getElem?_getD,List.getElem?_replicate]
  split <;> rfl
 have key:∀ ps:List Nat,(bumps (List.replicate ws.length 0) ps)[i]?=some ((ps.count i:Nat):Int):=fun ps=>by
  have h1:=bumps_get (List.replicate ws.length 0) ps i (by simpa using hi)
  rw [hz,Int.zero_add] at h1
  have h2:i < (bumps (List.replicate ws.length 0) ps).length:=by rw [bumps_len];simpa using hi
  rw [List.getD_eq_getElem?_getD,List.getElem?_eq_getElem h2,Option.getD_some] at h1
  rw [List.getElem?_eq_getElem h2,h1]
 unfold lensOf lnat
 split
 ·exact key _
 ·exact key _
theorem items_pos {ws:List Int} {t:Mem} (h:t ∈ leaves ws):∀ p ∈ t.items,0 < wOf ws p:=by
 obtain ⟨q,hq,rfl,h0⟩:=leaves_mem h
 intro p hp
 have:p=q:=by simpa [Mem.items] using hp
 subst this
 rw [wOf_get (List.getElem?_eq_getElem hq)]
 exact h0
theorem lnat_zero {ws:List Int} {m i:Nat} (h:¬ 0 < wOf ws i):lnat ws m i=0:=by
 unfold lnat
 split
 ·rw [List.count_eq_zero]
  intro hm
  rw [List.mem_flatMap] at hm
  obtain ⟨t,ht,hp⟩:=hm
  exact h (items_pos ht i hp)
 ·unfold cn
  rw [List.count_eq_zero]
  intro hm
  rw [List.mem_flatMap] at hm
  obtain ⟨t,ht,hp⟩:=hm
  have hall:=pm_all (first:=firstOf ws) (P:=fun _ t=>∀ p ∈ t.items,0 < wOf ws p) (fun _ t ht=>items_pos (stab_mem.1 ht)) (fun _ a b ha hb p hp=>(List.mem_append.1 hp).elim (ha p) (hb p)) (m - 1) t (List.mem_of_mem_take ht)
  exact h (hall i hp)
theorem sum_perm {l l':List Nat} (h:l.Perm l'):l.sum=l'.sum:=h.sum_nat
theorem sum_leaves (ws:List Int) (h:Nat→Nat):((List.range ws.length).map fun i=>if 0 < wOf ws i then h i else 0).sum=((leaves ws).map fun x=>h x.pl).sum:=by
 induction ws using snoc_ind with
 | h0=>rfl
 | h1 l x ih =>
  have e1:∀ i,i < l.length→wOf (l ++ [x]) i=wOf l i:=fun i hi=>by
   unfold wOf
   rw [List.getD_eq_getElem?_getD,List.getElem?_append_left hi,← List.getD_eq_getElem?_getD]
  have e2:wOf (l ++ [x]) l.length=x:=wOf_get (by simp)
  rw [leaves_snoc,List.map_append,List.sum_append,← ih,List.length_append,List.length_singleton,List.range_succ,List.map_append,List.sum_append]
  congr 1
  ·apply congrArg
   apply List.map_congr_left
   intro i hi
   rw [List.mem_range] at hi
   rw [e1 i hi]
  ·simp only [List.map_cons,List.map_nil,List.sum_cons,List.sum_nil,Nat.add_zero]
   rw [e2]
   split <;> simp [Mem.pl]
theorem sum_range (l:List Mem) (h:Nat→Nat):(l.map fun x=>h x.pl).sum=((List.range l.length).map fun s=>h (l.getD s default).pl).sum:=by
 congr 1
 apply List.ext_getElem?
 intro i
 by_cases hi:i < l.length
 ·simp [hi]
 ·simp [hi]
end Go.Proofs.YtebbdifhiihfkaaGreatDoor

/- huff: the lengths that weights have fill their code just. -/
namespace Go.Proofs.YtebbdifhiihfkaaGreatDoor
set_option linter.all false
theorem lnat_one {ws:List Int} {m i:Nat} (h:(leaves ws).length=1) (h0:0 < wOf ws i) (hi:i < ws.length):lnat ws m i=1:=by
 unfold lnat
 rw [if_pos h]
 obtain ⟨s,hs,e⟩:=leaf_at (List.getElem?_eq_getElem hi) (by rwa [wOf_get (List.getElem?_eq_getElem hi)] at h0)
 have hm:Mem.leaf ws[i] i ∈ leaves ws:=stab_mem.1 (e ▸ List.getElem_mem hs)
 obtain ⟨t,ht⟩:=List.length_eq_one_iff.1 h
 rw [ht] at hm ⊢
 have:Mem.leaf ws[i] i=t:=by simpa using hm
 rw [← this]
 simp [Mem.items]
theorem lnat_at {ws:List Int} {m i s:Nat} (hs:s < (firstOf ws).length) {x:Int} (e:(firstOf ws)[s]=.leaf x i) (h:¬ (leaves ws).length=1):lnat ws m i=cn (firstOf ws) (m - 1) (2 * (leaves ws).length - 2) (firstOf ws)[s].pl:=by
 unfold lnat
 rw [if_neg h,e]
 rfl
theorem lnat_le {ws:List Int} {m:Nat} (hm:1≤m) (hq:(leaves ws).length≤2 ^ m) {i:Nat} (hi:i < ws.length):lnat ws m i≤m:=by
 by_cases h0:0 < wOf ws i
 ·by_cases h1:(leaves ws).length=1
  ·rw [lnat_one h1 h0 hi];exact hm
  ·obtain ⟨s,hs,e⟩:=leaf_at (List.getElem?_eq_getElem hi) (by rwa [wOf_get (List.getElem?_eq_getElem hi)] at h0)
   rw [lnat_at hs e h1]
   have hen:=pm_enough (firstOf ws) (m - 1) (by rw [firstOf_len,← leaves_length,show m - 1+1=m by omega];exact hq)
   rw [firstOf_len,← leaves_length] at hen
   have:=cn_le (firstOf_ok ws) (m - 1) _ hen s hs
   omega
 ·rw [lnat_zero h0];omega
theorem le_sum_mem {l:List Nat} {x:Nat} (h:x ∈ l):x≤l.sum:=by
 induction l with
 | nil=>cases h
 | cons y r ih =>
  rw [List.sum_cons]
  rcases List.mem_cons.1 h with rfl | h
  ·omega
  ·have:=ih h;omega
/-- The sum over the items of what their lengths take, and what follows. -/
theorem sum_pos {n:Nat} {f:Nat→Nat} {K:Nat} (h:((List.range n).map f).sum≤K) {s:Nat} (hs:s < n):f s≤K:=by
 have:f s≤((List.range n).map f).sum:=by
  have hm:f s ∈ (List.range n).map f:=List.mem_map_of_mem (List.mem_range.2 hs)
  exact le_sum_mem hm
 omega
theorem sum_sub (n M:Nat) (f:Nat→Nat) (h:∀ i,i < n→f i≤M):((List.range n).map fun i=>M - f i).sum+((List.range n).map f).sum=n * M:=by
 induction n with
 | zero=>simp
 | succ n ih =>
  have:=ih (fun i hi=>h i (by omega))
  have h2:=h n (by omega)
  simp only [List.range_succ,List.map_append,List.sum_append,List.map_cons,List.map_nil,List.sum_cons,List.sum_nil,Nat.add_mul]
  omega
theorem first_kraft {ws:List Int} {m:Nat} (hm:1≤m) (hq:(leaves ws).length≤2 ^ m) (h2:2≤(leaves ws).length) :
  ((List.range (firstOf ws).length).map fun s=>2 ^ (m - lnat ws m ((firstOf ws).getD s default).pl)).sum=2 ^ m∧∀ s,s < (firstOf ws).length→lnat ws m ((firstOf ws).getD s default).pl≤m:=by
 have hen:=pm_enough (firstOf ws) (m - 1) (by rw [firstOf_len,← leaves_length,show m - 1+1=m by omega];exact hq)
 rw [firstOf_len,← leaves_length] at hen
 have hk:=cn_kraft (firstOf_ok ws) (m - 1) _ hen
 rw [show m - 1+1=m by omega] at hk
 have hle:∀ s,s < (firstOf ws).length→cn (firstOf ws) (m - 1) (2 * (leaves ws).length - 2) ((firstOf ws).getD s default).pl≤m:=fun s hs=>by
  rw [List.getD_eq_getElem?_getD,List.getElem?_eq_getElem hs,Option.getD_some]
  have:=cn_le (firstOf_ok ws) (m - 1) _ hen s hs
  omega
 have he:∀ i,lnat ws m i=cn (firstOf ws) (m - 1) (2 * (leaves ws).length - 2) i:=fun i=>by unfold lnat;rw [if_neg (by omega)]
 refine ⟨?_,fun s hs=>by rw [he];exact hle s hs⟩
 have hs:=sum_sub (firstOf ws).length (2 ^ m) (fun s=>2 ^ (m - cn (firstOf ws) (m - 1) (2 * (leaves ws).length - 2) ((firstOf ws).getD s default).pl)) (fun s hs=>Nat.pow_le_pow_right (by decide) (Nat.sub_le _ _))
 rw [hk] at hs
 have e1:(List.range (firstOf ws).length).map (fun s=>2 ^ (m - lnat ws m ((firstOf ws).getD s default).pl))=(List.range (firstOf ws).length).map (fun s=>2 ^ (m - cn (firstOf ws) (m - 1) (2 * (leaves ws).length - 2) ((firstOf ws).getD s default).pl)):=by
  apply List.map_congr_left
  intro s _
  rw [he]
 rw [e1]
 rw [firstOf_len,← leaves_length] at hs ⊢
 generalize ((List.range (leaves ws).length).map (fun s=>2 ^ (m - cn (firstOf ws) (m - 1) (2 * (leaves ws).length - 2) ((firstOf ws).getD s default).pl))).sum=S at *
 obtain ⟨j,rfl⟩:∃ j,m=j+1:=⟨m - 1,by omega⟩
 rw [show j+1 - 1=j by omega,Nat.pow_succ] at *
 generalize (leaves ws).length=N at *
 generalize 2 ^ j=u at *
 have e2:(2 * N - 2) * u+u * 2=N * (u * 2):=by
  obtain ⟨M,rfl⟩:∃ M,N=M+1:=⟨N - 1,by omega⟩
  rw [show 2 * (M+1) - 2=2 * M by omega,Nat.add_mul,Nat.one_mul,Nat.mul_assoc,Nat.mul_left_comm 2 M u,Nat.mul_comm 2 u]
 omega
theorem lnat_pos {ws:List Int} {m:Nat} (hm:1≤m) (hq:(leaves ws).length≤2 ^ m) {i:Nat} (hi:i < ws.length) (h0:0 < wOf ws i):0 < lnat ws m i:=by
 by_cases h1:(leaves ws).length=1
 ·rw [lnat_one h1 h0 hi];omega
 ·obtain ⟨s,hs,e⟩:=leaf_at (List.getElem?_eq_getElem hi) (by rwa [wOf_get (List.getElem?_eq_getElem hi)] at h0)
  have h2:2≤(leaves ws).length:=by
   rw [firstOf_len,← leaves_length] at hs
   omega
  obtain ⟨hk,hle⟩:=first_kraft hm hq h2
  apply Classical.byContradiction
  intro hz
  have hz:lnat ws m i=0:=by omega
  -- another item
  obtain ⟨r,hr,hrs⟩:∃ r,r < (firstOf ws).length∧r ≠ s:=by
   have hl:2≤(firstOf ws).length:=by rw [firstOf_len,← leaves_length];exact h2
   by_cases hs0:s=0
   ·exact ⟨1,by omega,by omega⟩
   ·exact ⟨0,by omega,by omega⟩
  have hpl:((firstOf ws).getD s default).pl=i:=by
   rw [List.getD_eq_getElem?_getD,List.getElem?_eq_getElem hs,Option.getD_some,e]
   rfl
  have hsum:∀ (n:Nat) (f:Nat→Nat),s < n→r < n→f s+f r≤((List.range n).map f).sum:=by
   intro n f
   induction n with
   | zero=>intro h;omega
   | succ n ih =>
    intro h1 h2
    simp only [List.range_succ,List.map_append,List.sum_append,List.map_cons,List.map_nil,List.sum_cons,List.sum_nil]
    by_cases hsn:s=n
    ·subst hsn
     have:=sum_pos (f:=f) (Nat.le_refl ((List.range s).map f).sum) (s:=r) (by omega)
     omega
    ·by_cases hrn:r=n
     ·subst hrn
      have:=sum_pos (f:=f) (Nat.le_refl ((List.range r).map f).sum) (s:=s) (by omega)
      omega
     ·have:=ih (by omega) (by omega)
      omega
  have h3:=hsum (firstOf ws).length (fun s=>2 ^ (m - lnat ws m ((firstOf ws).getD s default).pl)) hs hr
  rw [hk] at h3
  rw [hpl,hz,Nat.sub_zero] at h3
  have:=Nat.two_pow_pos (m - lnat ws m ((firstOf ws).getD r default).pl)
  omega
theorem krN_range (ls:List Int):krN ls=((List.range ls.length).map fun i=>if 0 < ls.getD i 0 then 2 ^ (15 - (ls.getD i 0).toNat) else 0).sum:=by
 unfold krN
 congr 1
 apply List.ext_getElem?
 intro i
 by_cases hi:i < ls.length
 ·simp [hi]
 ·simp [hi]
theorem lensOf_len (ws:List Int) (m:Nat):(lensOf ws m).length=ws.length:=by
 unfold lensOf
 split <;> simp [bumps_len]
theorem lensOf_getD (ws:List Int) (m:Nat) {i:Nat} (hi:i < ws.length):(lensOf ws m).getD i 0=(lnat ws m i:Int):=by
 rw [List.getD_eq_getElem?_getD,lensOf_get ws m hi]
 rfl
theorem lens_bad {ws:List Int} {m:Nat} (hm:1≤m) (hm2:m≤15) (hq:(leaves ws).length≤2 ^ m):badL (lensOf ws m)=false:=by
 unfold badL
 rw [List.any_eq_false]
 intro x hx
 obtain ⟨i,hi,e⟩:=List.getElem_of_mem hx
 rw [lensOf_len] at hi
 have h1:=lensOf_get ws m hi
 rw [List.getElem?_eq_getElem (by rw [lensOf_len];exact hi),e] at h1
 injection h1 with h1
 have:=lnat_le (m:=m) hm hq hi
 simp only [Bool.or_eq_true,decide_eq_true_eq]
 omega
theorem lens_kraft {ws:List Int} {m:Nat} (hm:1≤m) (hm2:m≤15) (hq:(leaves ws).length≤2 ^ m) :
  krN (lensOf ws m)=if (leaves ws).length=0 then 0 else if (leaves ws).length=1 then 16384 else 32768:=by
 have e1:krN (lensOf ws m)=((List.range ws.length).map fun i=>if 0 < wOf ws i then 2 ^ (15 - lnat ws m i) else 0).sum:=by
  rw [krN_range,lensOf_len]
  congr 1
  apply List.map_congr_left
  intro i hi
  rw [List.mem_range] at hi
  rw [lensOf_getD ws m hi]
  by_cases h0:0 < wOf ws i
  ·have:=lnat_pos hm hq hi h0
   rw [if_pos (by omega),if_pos h0]
   simp
  ·rw [lnat_zero h0,if_neg (by omega),if_neg h0]
 rw [e1,sum_leaves ws (fun i=>2 ^ (15 - lnat ws m i))]
 rw [sum_perm ((firstOf_perm ws).map _),sum_range (firstOf ws) (fun i=>2 ^ (15 - lnat ws m i))]
 have hl:(firstOf ws).length=(leaves ws).length:=by rw [firstOf_len,leaves_length]
 by_cases h0:(leaves ws).length=0
 ·rw [hl,h0,if_pos rfl]
  rfl
 rw [if_neg h0]
 by_cases h1:(leaves ws).length=1
 ·rw [if_pos h1,hl,h1]
  obtain ⟨t,ht⟩:=List.length_eq_one_iff.1 (hl.trans h1)
  have hp:lnat ws m t.pl=1:=by
   have hm2:t ∈ leaves ws:=stab_mem.1 (show t ∈ firstOf ws by rw [ht];simp)
   obtain ⟨p,hp,rfl,h3⟩:=leaves_mem hm2
   exact lnat_one h1 (show 0 < wOf ws p by rw [wOf_get (List.getElem?_eq_getElem hp)];exact h3) hp
  show (2 ^ (15 - lnat ws m ((firstOf ws).getD 0 default).pl))+0=_
  rw [ht]
  show (2 ^ (15 - lnat ws m t.pl))+0=_
  rw [hp]
  rfl
 ·rw [if_neg h1]
  obtain ⟨hk,hle⟩:=first_kraft hm hq (by omega)
  have e2:((List.range (firstOf ws).length).map fun s=>2 ^ (15 - lnat ws m ((firstOf ws).getD s default).pl))=((List.range (firstOf ws).length).map fun s=>2 ^ (m - lnat ws m ((firstOf ws).getD s default).pl)).map (2 ^ (15 - m) * ·):=by
   rw [List.map_map]
   apply List.map_congr_left
   intro s hs
   rw [List.mem_range] at hs
   have:=hle s hs
   show _=2 ^ (15 - m) * 2 ^ _
   rw [← Nat.pow_add]
   congr 1
   omega
  have e3:∀ (l:List Nat) (c:Nat),(l.map (c * ·)).sum=c * l.sum:=fun l c=>by
   induction l with
   | nil=>rfl
   | cons x r ih=>rw [List.map_cons,List.sum_cons,ih,List.sum_cons,Nat.mul_add]
  rw [e2,e3,hk,← Nat.pow_add,show 15 - m+m=15 by omega]
end Go.Proofs.YtebbdifhiihfkaaGreatDoor

/- flate: the lists of lengths in bits, plainly. -/
namespace Go.Proofs.YtebbdifhiihfkaaGreatDoor
set_option linter.all false
open Go.RowKit
/-- A sign of a list of lengths. -/
def SgnOK (s:Sgn):Prop:=s.1 < 19∧s.2.1 < 2 ^ s.2.2∧s.2.2≤7
theorem zTail_ok {n:Nat} (h:¬ 11≤n):∀ s ∈ zTail n,SgnOK s:=by
 intro s hs
 unfold zTail at hs
 split at hs
 ·rw [List.mem_singleton] at hs
  subst hs
  exact ⟨by show 17 < 19;omega,by show n - 3 < 8;omega,by show 3≤7;omega⟩
 ·rw [List.mem_replicate] at hs
  rw [hs.2]
  exact ⟨by decide,by decide,by decide⟩
theorem zerosF_ok:∀ f n:Nat,n≤f→∀ s ∈ zerosF f n,SgnOK s
 | 0,n,h=>zTail_ok (by omega)
 | f+1,n,h=>by
  by_cases e:11≤n
  ·rw [zerosF_big e]
   intro s hs
   rw [List.mem_cons] at hs
   rcases hs with rfl | hs
   ·exact ⟨by show 18 < 19;omega,by show min n 138 - 11 < 128;omega,by show 7≤7;omega⟩
   ·exact zerosF_ok f _ (by omega) s hs
  ·rw [zerosF_small e];exact zTail_ok e
theorem othersF_ok {x:Nat} (hx:x < 19):∀ f n:Nat,∀ s ∈ othersF x f n,SgnOK s
 | 0,n=>fun s hs=>by
  rw [othersF,List.mem_replicate] at hs
  rw [hs.2]
  exact ⟨hx,by show 0 < 2 ^ 0;decide,by show 0≤7;decide⟩
 | f+1,n=>by
  by_cases e:3≤n
  ·rw [othersF_big e]
   intro s hs
   rw [List.mem_cons] at hs
   rcases hs with rfl | hs
   ·exact ⟨by show 16 < 19;omega,by show min n 6 - 3 < 4;omega,by show 2≤7;omega⟩
   ·exact othersF_ok hx f _ s hs
  ·rw [othersF_small e]
   intro s hs
   rw [List.mem_replicate] at hs
   rw [hs.2]
   exact ⟨hx,by show 0 < 2 ^ 0;decide,by show 0≤7;decide⟩
theorem runsF_ok:∀ (f:Nat) (l:List Int),(∀ x ∈ l,0≤x∧x≤15)→∀ s ∈ runsF f l,SgnOK s
 | 0,l,_=>by intro s hs;simp [runsF] at hs
 | f+1,[],_=>by intro s hs;simp [runsF] at hs
 | f+1,x :: r,h=>by
  intro s hs
  rw [runsF,List.mem_append] at hs
  rcases hs with hs | hs
  ·split at hs
   ·exact zerosF_ok _ _ (Nat.le_refl _) s hs
   ·have:=h x (by simp)
    unfold othersP at hs
    rw [List.mem_cons] at hs
    rcases hs with rfl | hs
    ·exact ⟨by show x.toNat < 19;omega,by show 0 < 2 ^ 0;decide,by show 0≤7;decide⟩
    ·exact othersF_ok (by omega) _ _ s hs
  ·exact runsF_ok f _ (fun y hy=>h y (by simp [List.mem_of_mem_drop hy])) s hs
theorem runsF_len:∀ (f:Nat) (l:List Int),(runsF f l).length≤l.length
 | 0,l=>by simp [runsF]
 | f+1,[]=>by simp [runsF]
 | f+1,x :: r=>by
  rw [runsF,List.length_append]
  have h1:=runsF_len f (r.drop (same x r))
  have h2:=same_le x r
  rw [List.length_drop] at h1
  rw [List.length_cons]
  split
  ·have:=zerosP_len (same x r+1);omega
  ·have:=othersP_len x.toNat (same x r+1) (by omega);omega
theorem lensOf_le {ws:List Int} {m:Nat} (hm:1≤m) (hq:ws.length≤2 ^ m):∀ x ∈ lensOf ws m,0≤x∧x≤(m:Int):=by
 intro x hx
 obtain ⟨i,hi,rfl⟩:=List.getElem_of_mem hx
 have hi2:i < ws.length:=by rw [lensOf_len] at hi;exact hi
 have h1:=lensOf_get ws m hi2
 rw [List.getElem?_eq_getElem hi] at h1
 injection h1 with h1
 rw [h1]
 have:=lnat_le (ws:=ws) hm (by rw [leaves_length];exact Nat.le_trans (List.length_filter_le _ _) hq) hi2
 omega
theorem lens_ok {ws:List Int} {m:Nat} (hm:1≤m) (hm2:m≤15) (hq:ws.length≤2 ^ m) (hl:ws.length≤300):CodesOK (lensOf ws m):=by
 have hq2:(leaves ws).length≤2 ^ m:=by rw [leaves_length];exact Nat.le_trans (List.length_filter_le _ _) hq
 refine ⟨by rw [lensOf_len];exact hl,lens_bad hm hm2 hq2,?_⟩
 rw [lens_kraft hm hm2 hq2]
 split
 ·omega
 ·split <;> omega
theorem krN_take_le (ls:List Int) (k:Nat):krN (ls.take k)≤krN ls:=by
 have e:krN ls=krN (ls.take k)+krN (ls.drop k):=by
  unfold krN
  rw [← List.sum_append,← List.map_append,List.take_append_drop]
 omega
theorem CodesOK.cut {ls:List Int} (h:CodesOK ls) (least:Nat):CodesOK (cutL ls least):=by
 unfold cutL
 refine ⟨by rw [List.length_take];have:=h.1;omega,?_,Nat.le_trans (krN_take_le _ _) h.2.2⟩
 have:=h.2.1
 unfold badL at this ⊢
 rw [List.any_eq_false] at this ⊢
 intro x hx
 exact this x (List.mem_of_mem_take hx)
theorem CodesOK.one:CodesOK [1]:=⟨by decide,by decide,by decide⟩
theorem CodesOK.rng {ls:List Int} (h:CodesOK ls):∀ x ∈ ls,0≤x∧x≤15:=by
 intro x hx
 obtain ⟨i,hi⟩:=List.getElem?_of_mem hx
 exact good_at h.2.1 hi
theorem dynL_ok (ts:List Tok):CodesOK (dynL ts):=(lens_ok (by omega) (by omega) (by rw [weighL_len];decide) (by rw [weighL_len];omega)).cut _
theorem dynD_ok (ts:List Tok):CodesOK (dynD ts):=by
 unfold dynD
 split
 ·exact CodesOK.one
 ·exact (lens_ok (by omega) (by omega) (by rw [weighD_len];decide) (by rw [weighD_len];omega)).cut _
theorem dynD_rng (ts:List Tok):1≤(dynD ts).length∧(dynD ts).length≤30:=by
 unfold dynD
 split
 ·exact ⟨Nat.le_refl _,by decide⟩
 ·rw [cutL_len,lensOf_len,weighD_len]
  exact ⟨cutK_ge _ _ _ (by omega),cutK_le _ _ _⟩
/-- In which order the lengths of lengths stand. -/
def ordL:List Nat:=[16,17,18,0,8,7,9,6,10,5,11,4,12,3,13,2,14,1,15]
def hcK (cl:List Int):Nat→Nat
 | 0=>0
 | k+1=>if 4 < k+1∧cl.getD (ordL.getD k 0) 0=0 then hcK cl k else k+1
theorem hcK_le (cl:List Int):∀ k,hcK cl k≤k
 | 0=>Nat.le_refl _
 | k+1=>by
  have:=hcK_le cl k
  unfold hcK
  split <;> omega
theorem hcK_ge (cl:List Int):∀ k,4≤k→4≤hcK cl k
 | 0,h=>h
 | k+1,h=>by
  unfold hcK
  split
  ·exact hcK_ge cl k (by omega)
  ·exact h
def wgtC (ss:List Sgn):List Int:=bumps (List.replicate 19 0) (ss.map (·.1))
def lensC (ss:List Sgn):List Int:=lensOf (wgtC ss) 7
theorem wgtC_len (ss:List Sgn):(wgtC ss).length=19:=by unfold wgtC;rw [bumps_len,List.length_replicate]
theorem wgtC_rng (ss:List Sgn):∀ x ∈ wgtC ss,0≤x∧x≤1+ss.length:=by
 intro x hx
 have h0:∀ x ∈ (List.replicate 19 (0:Int)),0≤x∧x≤1:=by
  intro x hx
  rw [List.mem_replicate] at hx
  omega
 have:=bumps_rng h0 (by omega) x hx
 rwa [List.length_map] at this
theorem lensC_len (ss:List Sgn):(lensC ss).length=19:=by unfold lensC;rw [lensOf_len,wgtC_len]
theorem lensC_ok (ss:List Sgn):CodesOK (lensC ss):=lens_ok (by omega) (by omega) (by rw [wgtC_len];decide) (by rw [wgtC_len];omega)
theorem lensC_rng (ss:List Sgn):∀ x ∈ lensC ss,0≤x∧x≤7:=lensOf_le (by omega) (by rw [wgtC_len];decide)
def ordB (cl:List Int) (n:Nat):List Nat:=(ordL.take n).flatMap fun k=>lsb (cl.getD k 0).toNat 3
def sgnB (cl:List Int) (s:Sgn):List Nat:=codeB cl s.1 ++ lsb s.2.1 s.2.2
/-- The bits of the lists of lengths. -/
def listsB (ll dd:List Int):List Nat :=
 lsb (ll.length - 257) 5 ++ lsb (dd.length - 1) 5 ++ lsb (hcK (lensC (runsP (ll ++ dd))) 19 - 4) 4 ++ ordB (lensC (runsP (ll ++ dd))) (hcK (lensC (runsP (ll ++ dd))) 19) ++ (runsP (ll ++ dd)).flatMap (sgnB (lensC (runsP (ll ++ dd))))
theorem ordB_len (cl:List Int) (n:Nat):(ordB cl n).length≤3 * n:=by
 unfold ordB
 have:∀ l:List Nat,(l.flatMap fun k=>lsb (cl.getD k 0).toNat 3).length=3 * l.length:=by
  intro l
  induction l with
  | nil=>rfl
  | cons x r ih=>rw [List.flatMap_cons,List.length_append,ih,lsb_len,List.length_cons];omega
 rw [this,List.length_take]
 omega
theorem ownG.wr {w w':World} {g:Nat} {pv pv' v:Value} {l:List Sgn} (h:ownG w (g+1) v l) (hf:WrFr w w' g pv pv') (hd:Dis pv v):ownG w' (g+1) v l:=by
 have hb:∀ k,v.ownBlock=some k→w'.heap[k]?=w.heap[k]?:=fun k hk=>hf.block k (World.ownsRow.lt h k hk).2 (by have:=(World.ownsRow.lt h k hk).1;omega) (fun e=>hd k e hk)
 refine ⟨h.1,?_⟩
 rcases h.2 with hn | ⟨g,cap,cur,rfl,hbg,hg,rest⟩
 ·exact .inl hn
 ·exact .inr ⟨g,cap,cur,rfl,hbg,(hb g rfl).trans hg,rest⟩
theorem order_any (w:World):Calls Tryz.prog 131 #[] w fun e w'=>e=.returned (.slice (some ⟨w.heap.size,0,none⟩) 19 19)∧ownI w' w.heap.size (.slice (some ⟨w.heap.size,0,none⟩) 19 19) (ordL.map fun (x:Nat)=>(x:Int))∧Below w.heap.size w w':=by
 have HO:=Lib.hid (own_litI w [16,17,18,0,8,7,9,6,10,5,11,4,12,3,13,2,14,1,15] (by decide))
 go_enter Tryz.func131,Tryz.ntmps131
 go_wp2_with fail
 go_ret
 exact ⟨rfl,HO.out,(Below.refl _ _).alloc (Nat.le_refl _) _⟩
end Go.Proofs.YtebbdifhiihfkaaGreatDoor

