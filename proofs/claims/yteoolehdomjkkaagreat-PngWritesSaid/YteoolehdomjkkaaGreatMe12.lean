/- XHuffP -/
import Derived.Test.YteoolehdomjkkaaGreatMe10
namespace Go.Proofs.YteoolehdomjkkaaGreat
set_option linter.all false
theorem leaves_mem {ws:List Int} {t:Mem} (h:t ∈ leaves ws):∃ (p:Nat) (hp:p < ws.length),t=.leaf ws[p] p∧0 < ws[p]:=by
 unfold leaves at h
 rw [List.mem_filterMap] at h
 obtain ⟨⟨x,k⟩,hx,he⟩:=h
 obtain ⟨hk,hx'⟩:=List.mem_zipIdx' hx
 simp only at he
 rw [hx'] at he
 split at he
 ·rename_i h0
  injection he with he
  exact ⟨k,hk,he.symm,h0⟩
 ·cases he
theorem packs_len (l:List Mem):(packs l).length=l.length / 2:=by
 fun_induction packs l with
 | case1 a b r ih=>simp [ih];omega
 | case2 l h =>
  match l,h with
  | [],_=>rfl
  | [x],_=>simp
  | a :: b :: r,h=>exact absurd rfl (h a b r)
theorem packs_mem {l:List Mem} {t:Mem} (h:t ∈ packs l):∃ a b,t=.node a b∧a ∈ l∧b ∈ l:=by
 fun_induction packs l with
 | case1 a b r ih =>
  rcases List.mem_cons.1 h with rfl | h
  ·exact ⟨a,b,rfl,by simp,by simp⟩
  ·obtain ⟨x,y,e,hx,hy⟩:=ih h
   exact ⟨x,y,e,by simp [hx],by simp [hy]⟩
 | case2=>cases h
theorem pmL_len (first:List Mem) (k:Nat):(pmL first (k+1)).length=first.length+(pmL first k).length / 2:=by
 rw [pmL,mrgBy_len,packs_len]
theorem pm_long (first:List Mem):∀ k,2 * first.length * 2 ^ k < (pmL first k).length * 2 ^ k+first.length+2 ^ k:=by
 intro k
 induction k with
 | zero=>simp [pmL];omega
 | succ k ih =>
  rw [pmL_len,Nat.pow_succ]
  generalize (pmL first k).length=L at *
  generalize first.length=n at *
  have hp:0 < 2 ^ k:=Nat.two_pow_pos k
  generalize 2 ^ k=q at *
  have h1:L≤2 * (L / 2)+1:=by omega
  have h2:L * q≤(2 * (L / 2)+1) * q:=Nat.mul_le_mul_right _ h1
  generalize L / 2=d at *
  have e1:(2 * d+1) * q=2 * (d * q)+q:=by rw [Nat.add_mul,Nat.one_mul,Nat.mul_assoc]
  have e2:(n+d) * (q * 2)=2 * (n * q)+2 * (d * q):=by rw [← Nat.mul_assoc,Nat.add_mul,Nat.mul_comm _ 2,Nat.mul_add]
  have e3:2 * n * (q * 2)=4 * (n * q):=by rw [← Nat.mul_assoc,Nat.mul_assoc 2 n q,Nat.mul_comm _ 2,← Nat.mul_assoc]
  have e4:2 * n * q=2 * (n * q):=Nat.mul_assoc _ _ _
  rw [e1] at h2
  rw [e4] at ih
  rw [e2,e3]
  omega
theorem pm_enough (first:List Mem) (k:Nat) (h:first.length≤2 ^ (k+1)):2 * first.length - 2≤(pmL first k).length:=by
 have:=pm_long first k
 rw [Nat.pow_succ] at h
 generalize (pmL first k).length=L at *
 generalize first.length=n at *
 have hp:0 < 2 ^ k:=Nat.two_pow_pos k
 generalize 2 ^ k=q at *
 apply Classical.byContradiction
 intro hc
 have h1:L+3≤2 * n:=by omega
 have h2:(L+3) * q≤2 * n * q:=Nat.mul_le_mul_right _ h1
 rw [Nat.add_mul] at h2
 omega
theorem pm_all {P:Nat→Mem→Prop} {first:List Mem} (h0:∀ k,∀ t ∈ first,P k t) (h1:∀ k a b,P k a→P k b→P (k+1) (.node a b)):∀ k,∀ t ∈ pmL first k,P k t:=by
 intro k
 induction k with
 | zero=>exact h0 0
 | succ k ih =>
  intro t ht
  rw [pmL,mrgBy_mem] at ht
  rcases ht with ht | ht
  ·exact h0 _ t ht
  ·obtain ⟨a,b,rfl,ha,hb⟩:=packs_mem ht
   exact h1 k a b (ih a ha) (ih b hb)
theorem pm_weight {first:List Mem} (h:∀ t ∈ first,0≤t.w∧t.w≤1073741824) (k:Nat):∀ t ∈ pmL first k,0≤t.w∧t.w≤1073741824 * 2 ^ k:=by
 refine pm_all (P:=fun k t=>0≤t.w∧t.w≤1073741824 * 2 ^ k) (fun k t ht=>?_) (fun k a b ha hb=>?_) k
 ·have:=h t ht
  have hp:(1:Int)≤2 ^ k:=by
   have:(0:Int) < 2 ^ k:=Int.pow_pos (by decide)
   omega
  omega
 ·simp only [Mem.w,Int.pow_succ] at *
  omega
theorem pm_weight15 {first:List Mem} (h:∀ t ∈ first,0≤t.w∧t.w≤1073741824) {k:Nat} (hk:k≤15):∀ t ∈ pmL first k,0≤t.w∧t.w≤1125899906842624:=fun t ht=>by
 have h1:=pm_weight h k t ht
 have h2:(2:Int) ^ k≤2 ^ 15:=by
  have:=Nat.pow_le_pow_right (show 1≤2 by decide) hk
  exact_mod_cast this
 omega
theorem pm_places {first:List Mem} {n:Nat} (h:∀ t ∈ first,∀ p ∈ t.items,p < n) (k:Nat):∀ t ∈ pmL first k,∀ p ∈ t.items,p < n:=by
 refine pm_all (P:=fun _ t=>∀ p ∈ t.items,p < n) (fun k t ht=>h t ht) (fun k a b ha hb p hp=>?_) k
 rcases List.mem_append.1 hp with hp | hp
 ·exact ha p hp
 ·exact hb p hp
theorem pm_sizes {first:List Mem} (h:∀ t ∈ first,t.items.length≤1) (k:Nat):∀ t ∈ pmL first k,t.items.length≤2 ^ k:=by
 refine pm_all (P:=fun k t=>t.items.length≤2 ^ k) (fun k t ht=>?_) (fun k a b ha hb=>?_) k
 ·have:=h t ht
  have:=Nat.two_pow_pos k
  omega
 ·show (a.items ++ b.items).length≤_
  rw [List.length_append,Nat.pow_succ]
  omega
theorem flat_len {l:List Mem} {M:Nat} (h:∀ t ∈ l,t.items.length≤M):(l.flatMap Mem.items).length≤l.length * M:=by
 induction l with
 | nil=>simp
 | cons x r ih =>
  rw [List.flatMap_cons,List.length_append,List.length_cons,Nat.add_mul,Nat.one_mul]
  have:=h x (by simp)
  have:=ih (fun t ht=>h t (by simp [ht]))
  omega
theorem stab_mem {α:Type} {wt:α→Int} {l:List α} {x:α}:x ∈ stab wt l ↔ x ∈ l:=(stab_ss l).2.mem x
theorem wrongH_false {ws:List Int} {most:Int} (h:wrongH ws most=false):1≤ws.length∧ws.length≤300∧1≤most∧most≤15∧(∀ x ∈ ws,0≤x∧x≤1073741824)∧(leaves ws).length≤2 ^ most.toNat:=by
 unfold wrongH at h
 simp only [Bool.or_eq_false_iff,decide_eq_false_iff_not] at h
 obtain ⟨⟨⟨⟨⟨h1,h2⟩,h3⟩,h4⟩,h5⟩,h6⟩:=h
 refine ⟨by omega,by omega,by omega,by omega,?_,by rw [leaves_length];omega⟩
 intro x hx
 unfold badW at h5
 rw [List.any_eq_false] at h5
 have:=h5 x hx
 simp only [Bool.or_eq_true,decide_eq_true_eq] at this
 omega
theorem leaves_w {ws:List Int} (h:∀ x ∈ ws,0≤x∧x≤1073741824):∀ t ∈ leaves ws,0≤t.w∧t.w≤1073741824:=fun t ht=>by
 obtain ⟨p,hp,rfl,_⟩:=leaves_mem ht
 exact h _ (List.getElem_mem hp)
theorem leaves_p {ws:List Int}:∀ t ∈ leaves ws,∀ p ∈ t.items,p < ws.length:=fun t ht p hp=>by
 obtain ⟨q,hq,rfl,_⟩:=leaves_mem ht
 have:p=q:=by simpa [Mem.items] using hp
 omega
theorem leaves_s {ws:List Int}:∀ t ∈ leaves ws,t.items.length≤1:=fun t ht=>by
 obtain ⟨q,hq,rfl,_⟩:=leaves_mem ht
 simp [Mem.items]
end Go.Proofs.YteoolehdomjkkaaGreat

