/- XInv XInvA XInvG -/
import Derived.Test.YtdoanopeejeeiaaMk01
namespace Go.Proofs.Ytdoanopeejeeiaa
set_option linter.all false
open Go.RowKit
/-- The binding edges of each operation point backwards. -/
def backB (md:Region.Mode) (ops:Array Oper):Bool:=(List.range ops.size).all fun i=>match ops[i]? with
 | some o=>o.after.all fun e=>!Region.binds md e || decide (e.on < i)
 | none=>true
theorem ready_spec {md:Region.Mode} {ops:Array Oper} {listed:Array Bool} {i:Nat} (h:i ∈ Region.ready md ops listed) :
  ∃ o,ops[i]?=some o∧listed.getD i true=false∧∀ e ∈ o.after,Region.binds md e=true→listed.getD e.on false=true:=by
 unfold Region.ready at h
 rw [List.mem_filter] at h
 obtain ⟨h1,h2⟩:=h
 simp only [Bool.and_eq_true,Bool.not_eq_true'] at h2
 obtain ⟨h2,h3⟩:=h2
 cases ho:ops[i]? with
 | none=>rw [ho] at h3;cases h3
 | some o =>
  rw [ho] at h3
  refine ⟨o,rfl,h2,fun e he hb=>?_⟩
  simp only [Option.map_some,Option.getD_some] at h3
  rw [Array.all_eq_true_iff_forall_mem] at h3
  have:=h3 e he
  rw [hb] at this
  simpa using this
theorem ready_nil {md:Region.Mode} {ops:Array Oper} {listed:Array Bool} (hs:listed.size=ops.size) (hb:backB md ops=true) (h:Region.ready md ops listed=[]) :
  ∀ j,j < ops.size→listed.getD j false=true:=by
 intro j
 induction j using Nat.strongRecOn with
 | ind j ih =>
  intro hj
  cases hl:listed.getD j false with
  | true=>rfl
  | false =>
   exfalso
   have:j ∈ Region.ready md ops listed:=by
    unfold Region.ready
    rw [List.mem_filter]
    refine ⟨List.mem_range.2 hj,?_⟩
    have ho:ops[j]?=some ops[j]:=Array.getElem?_eq_getElem hj
    rw [ho]
    simp only [Bool.and_eq_true,Bool.not_eq_true',Option.map_some,Option.getD_some]
    constructor
    ·have hjl:j < listed.size:=by omega
     rw [Array.getD_eq_getD_getElem?,Array.getElem?_eq_getElem hjl] at hl ⊢
     exact hl
    ·rw [Array.all_eq_true_iff_forall_mem]
     intro e he
     cases hbe:Region.binds md e with
     | false=>rfl
     | true =>
      have h1:=hb
      unfold backB at h1
      rw [List.all_eq_true] at h1
      have h2:=h1 j (List.mem_range.2 hj)
      rw [ho] at h2
      simp only at h2
      rw [Array.all_eq_true_iff_forall_mem] at h2
      have h3:=h2 e he
      rw [hbe] at h3
      have hlt:e.on < j:=by simpa using h3
      rw [ih e.on hlt (by omega)]
      rfl
   rw [h] at this
   cases this
theorem countP_set {l:Array Bool} {i:Nat} (hi:i < l.size) (h:l.getD i true=false):(l.setIfInBounds i true).toList.count false+1=l.toList.count false:=by
 obtain ⟨l⟩:=l
 have hi':i < l.length:=by simpa using hi
 have hx:l[i]=false:=by
  rw [Array.getD_eq_getD_getElem?] at h
  simpa [hi'] using h
 simp only [List.setIfInBounds_toArray]
 have e1:l=l.take i ++ l[i] :: l.drop (i+1):=by rw [← List.drop_eq_getElem_cons hi',List.take_append_drop]
 have e2:l.set i true=l.take i ++ true :: l.drop (i+1):=by rw [List.set_eq_take_append_cons_drop,if_pos hi']
 rw [e2]
 conv=>rhs;rw [e1]
 rw [List.count_append,List.count_append,hx,List.count_cons_self,List.count_cons_of_ne (by decide)]
 omega
theorem getD_set {l:Array Bool} {i:Nat} (hi:i < l.size):(fun j=>(l.setIfInBounds i true).getD j false)=fun j=>if j=i then true else l.getD j false:=by
 funext j
 rw [Array.getD_eq_getD_getElem?,Array.getD_eq_getD_getElem?,Array.getElem?_setIfInBounds]
 by_cases h:j=i
 ·subst h;rw [if_pos rfl,if_pos rfl,if_pos hi];rfl
 ·rw [if_neg h,if_neg (fun e=>h e.symm)]
/-- By an invariant. -/
theorem wpAny_inv {P:Program} {md:Region.Mode} {ops:Array Oper} {Q:Exit→Act→World→Prop} (hb:backB md ops=true) (I:(Nat→Bool)→Act→World→Prop)
  (hstep:∀ f a w i o,ops[i]?=some o→f i=false→(∀ e ∈ o.after,Region.binds md e=true→f e.on=true)→I f a w→wpOp P ops Q i (fun a' w'=>I (fun j=>if j=i then true else f j) a' w') a w)
  (hend:∀ f a w,(∀ j,j < ops.size→f j=true)→I f a w→Q .normal a w) :
  ∀ (fuel:Nat) (listed:Array Bool) (a:Act) (w:World),listed.size=ops.size→listed.toList.count false≤fuel→I (fun j=>listed.getD j false) a w→wpAny P md ops Q fuel listed a w:=by
 intro fuel
 induction fuel with
 | zero =>
  intro listed a w hs hc hI
  have hr:Region.ready md ops listed=[]:=by
   cases hr:Region.ready md ops listed with
   | nil=>rfl
   | cons i r =>
    exfalso
    obtain ⟨o,ho,hl,-⟩:=ready_spec (md:=md) (ops:=ops) (listed:=listed) (i:=i) (by rw [hr];simp)
    have hi:i < listed.size:=by rw [hs];exact (Array.getElem?_eq_some_iff.1 ho).1
    have:=countP_set hi hl
    omega
  exact ⟨hr,hend _ a w (ready_nil hs hb hr) hI⟩
 | succ fuel ih =>
  intro listed a w hs hc hI
  refine ⟨fun hr=>hend _ a w (ready_nil hs hb hr) hI,fun i hi=>?_⟩
  obtain ⟨o,ho,hl,he⟩:=ready_spec hi
  have hi':i < listed.size:=by rw [hs];exact (Array.getElem?_eq_some_iff.1 ho).1
  have hl':listed.getD i false=false:=by
   rw [Array.getD_eq_getD_getElem?,Array.getElem?_eq_getElem hi'] at hl ⊢
   exact hl
  refine wpOp_mono (fun a' w' h=>ih _ a' w' (by rw [Array.size_setIfInBounds];exact hs) (by have:=countP_set hi' hl;omega) ?_) (hstep _ a w i o ho hl' he hI)
  rw [getD_set hi']
  exact h
theorem wp_region_inv {P:Program} {ops:Array Oper} {Q:Exit→Act→World→Prop} {id:Nat} {a:Act} {w:World} (hm:P.follows .mixedOrders=true) (hb:backB .any ops=true)
  (I:(Nat→Bool)→Act→World→Prop) (h0:I (fun _=>false) a w.drew)
  (hstep:∀ f a w i o,ops[i]?=some o→f i=false→(∀ e ∈ o.after,Region.binds .any e=true→f e.on=true)→I f a w→wpOp P ops Q i (fun a' w'=>I (fun j=>if j=i then true else f j) a' w') a w)
  (hend:∀ f a w,(∀ j,j < ops.size→f j=true)→I f a w→Q .normal a w):(Code.region id ops true).wp P Q a w:=by
 refine wp_region_any hm (wpAny_inv hb I hstep hend ops.size (Array.replicate ops.size false) a _ (by simp) (by simp) ?_)
 have e:(fun j=>(Array.replicate ops.size false).getD j false)=fun _=>false:=by
  funext j
  rw [Array.getD_eq_getD_getElem?,Array.getElem?_replicate]
  split <;> rfl
 rw [e]
 exact h0
/-- Operation i waits for operation d. -/
def needsB (ops:Array Oper) (i d:Nat):Bool:=match ops[i]? with
 | some o=>o.after.any fun e=>Region.binds .any e && (e.on == d)
 | none=>false
theorem wp_region_inv2 {P:Program} {ops:Array Oper} {Q:Exit→Act→World→Prop} {id:Nat} {a:Act} {w:World} (hm:P.follows .mixedOrders=true) (hb:backB .any ops=true)
  (I:(Nat→Bool)→Act→World→Prop) (h0:I (fun _=>false) a w.drew)
  (hstep:∀ f a w i,i < ops.size→f i=false→(∀ d,needsB ops i d=true→f d=true)→I f a w→wpOp P ops Q i (fun a' w'=>I (fun j=>if j=i then true else f j) a' w') a w)
  (hend:∀ f a w,(∀ j,j < ops.size→f j=true)→I f a w→Q .normal a w):(Code.region id ops true).wp P Q a w :=
 wp_region_inv hm hb I h0 (fun f a w i o ho hf he hI=>hstep f a w i (Array.getElem?_eq_some_iff.1 ho).1 hf (fun d hd=>by
  unfold needsB at hd
  rw [ho] at hd
  simp only at hd
  rw [Array.any_eq_true'] at hd
  obtain ⟨e,he1,he2⟩:=hd
  simp only [Bool.and_eq_true,beq_iff_eq] at he2
  have:=he e he1 he2.1
  rwa [he2.2] at this) hI) hend
/-- An operation without a guard. -/
theorem wpOp_plain {P:Program} {ops:Array Oper} {Q:Exit→Act→World→Prop} {i:Nat} {K:Act→World→Prop} {a:Act} {w:World} {o:Oper} (ho:ops[i]?=some o) (hg:o.guard=none) (h:o.wp P a w K Q):wpOp P ops Q i K a w:=by
 unfold wpOp
 rw [ho]
 have hw:Region.wanted o (yielded ops a.tmps)=true:=by simp [Region.wanted,hg]
 simp only
 rw [if_pos hw]
 exact .inl h
theorem wpOp_plainK {P:Program} {ops:Array Oper} {Q:Exit→Act→World→Prop} {i:Nat} {K0:Act→World→Prop} {a:Act} {w:World} {o:Oper} (ho:ops[i]?=some o) (hg:o.guard=none)
  (h:∀ K:Act→World→Prop,Hid (∀ a w,K0 a w→K a w)→o.wp P a w K Q):wpOp P ops Q i K0 a w:=wpOp_plain ho hg (h K0 (fun _ _ h=>h))
end Go.Proofs.Ytdoanopeejeeiaa

/- A region that draws its order and appends: one append. -/
namespace Go.Proofs.Ytdoanopeejeeiaa
set_option linter.all false
open Go.RowKit
end Go.Proofs.Ytdoanopeejeeiaa

/- Regions that draw their order: an operation with a guard; the values that have come up as one function. -/
namespace Go.Proofs.Ytdoanopeejeeiaa
set_option linter.all false
open Go.RowKit
/-- An operation whose guard is met (or that has none). -/
theorem wpOp_wantK {P:Program} {ops:Array Oper} {Q:Exit→Act→World→Prop} {i:Nat} {K0:Act→World→Prop} {a:Act} {w:World} {o:Oper} (ho:ops[i]?=some o) (hw:Region.wanted o (yielded ops a.tmps)=true)
  (h:∀ K:Act→World→Prop,Hid (∀ a w,K0 a w→K a w)→o.wp P a w K Q):wpOp P ops Q i K0 a w:=by
 unfold wpOp
 rw [ho]
 simp only
 rw [if_pos hw]
 exact .inl (h K0 (fun _ _ h=>h))
end Go.Proofs.Ytdoanopeejeeiaa

