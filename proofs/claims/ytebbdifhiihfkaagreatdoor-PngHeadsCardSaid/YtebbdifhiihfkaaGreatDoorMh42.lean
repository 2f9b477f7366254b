/- XInv XPd2 XInvA XInvG -/
import Derived.Test.YtebbdifhiihfkaaGreatDoorMh01
import Derived.Test.YtebbdifhiihfkaaGreatDoorMh41
import Derived.Test.YtebbdifhiihfkaaGreatDoorMh09
import Derived.Test.YtebbdifhiihfkaaGreatDoorMh10
namespace Go.Proofs.YtebbdifhiihfkaaGreatDoor
set_option linter.all false
open Go.RowKit
/-- The binding edges of each operation point backwards. -/
def backB (md:Region.Mode) (ops:Array Oper):Bool:=(List.range ops.size).all fun i=>match ops[i]? with
 | some o=>o.after.all fun e=>!Region.binds md e || decide (e.on < i)
 | none=>true
theorem ready_spec {md:Region.Mode} {ops:Array Oper} {listed:Array Bool} {i:Nat} (h:i ∈ Region.ready md ops listed) :
  ∃ o,ops[i]?=some o∧listed.getD i true=false∧∀ e ∈ o.after,Region.binds md e=true→listed.getD e.on false=true:=by
 unfold Region.ready at h
 rw [List.mem_filter] at h
 obtain ⟨h1,h2⟩:=h
 simp only [Bool.and_eq_true,Bool.not_eq_true'] at h2
 obtain ⟨h2,h3⟩:=h2
 cases ho:ops[i]? with
 | none=>rw [ho] at h3;cases h3
 | some o =>
  rw [ho] at h3
  refine ⟨o,rfl,h2,fun e he hb=>?_⟩
  simp only [Option.map_some,Option.getD_some] at h3
  rw [Array.all_eq_true_iff_forall_mem] at h3
  have:=h3 e he
  rw [hb] at this
  simpa using this
theorem ready_nil {md:Region.Mode} {ops:Array Oper} {listed:Array Bool} (hs:listed.size=ops.size) (hb:backB md ops=true) (h:Region.ready md ops listed=[]) :
  ∀ j,j < ops.size→listed.getD j false=true:=by
 intro j
 induction j using Nat.strongRecOn with
 | ind j ih =>
  intro hj
  cases hl:listed.getD j false with
  | true=>rfl
  | false =>
   exfalso
   have:j ∈ Region.ready md ops listed:=by
    unfold Region.ready
    rw [List.mem_filter]
    refine ⟨List.mem_range.2 hj,?_⟩
    have ho:ops[j]?=some ops[j]:=Array.getElem?_eq_getElem hj
    rw [ho]
    simp only [Bool.and_eq_true,Bool.not_eq_true',Option.map_some,Option.getD_some]
    constructor
    ·have hjl:j < listed.size:=by omega
     rw [Array.getD_eq_getD_getElem?,Array.getElem?_eq_getElem hjl] at hl ⊢
     exact hl
    ·rw [Array.all_eq_true_iff_forall_mem]
     intro e he
     cases hbe:Region.binds md e with
     | false=>rfl
     | true =>
      have h1:=hb
      unfold backB at h1
      rw [List.all_eq_true] at h1
      have h2:=h1 j (List.mem_range.2 hj)
      rw [ho] at h2
      simp only at h2
      rw [Array.all_eq_true_iff_forall_mem] at h2
      have h3:=h2 e he
      rw [hbe] at h3
      have hlt:e.on < j:=by simpa using h3
      rw [ih e.on hlt (by omega)]
      rfl
   rw [h] at this
   cases this
theorem countP_set {l:Array Bool} {i:Nat} (hi:i < l.size) (h:l.getD i true=false):(l.setIfInBounds i true).toList.count false+1=l.toList.count false:=by
 obtain ⟨l⟩:=l
 have hi':i < l.length:=by simpa using hi
 have hx:l[i]=false:=by
  rw [Array.getD_eq_getD_getElem?] at h
  simpa [hi'] using h
 simp only [List.setIfInBounds_toArray]
 have e1:l=l.take i ++ l[i] :: l.drop (i+1):=by rw [← List.drop_eq_getElem_cons hi',List.take_append_drop]
 have e2:l.set i true=l.take i ++ true :: l.drop (i+1):=by rw [List.set_eq_take_append_cons_drop,if_pos hi']
 rw [e2]
 conv=>rhs;rw [e1]
 rw [List.count_append,List.count_append,hx,List.count_cons_self,List.count_cons_of_ne (by decide)]
 omega
theorem getD_set {l:Array Bool} {i:Nat} (hi:i < l.size):(fun j=>(l.setIfInBounds i true).getD j false)=fun j=>if j=i then true else l.getD j false:=by
 funext j
 rw [Array.getD_eq_getD_getElem?,Array.getD_eq_getD_getElem?,Array.getElem?_setIfInBounds]
 by_cases h:j=i
 ·subst h;rw [if_pos rfl,if_pos rfl,if_pos hi];rfl
 ·rw [if_neg h,if_neg (fun e=>h e.symm)]
/-- By an invariant. -/
theorem wpAny_inv {P:Program} {md:Region.Mode} {ops:Array Oper} {Q:Exit→Act→World→Prop} (hb:backB md ops=true) (I:(Nat→Bool)→Act→World→Prop)
  (hstep:∀ f a w i o,ops[i]?=some o→f i=false→(∀ e ∈ o.after,Region.binds md e=true→f e.on=true)→I f a w→wpOp P ops Q i (fun a' w'=>I (fun j=>if j=i then true else f j) a' w') a w)
  (hend:∀ f a w,(∀ j,j < ops.size→f j=true)→I f a w→Q .normal a w) :
  ∀ (fuel:Nat) (listed:Array Bool) (a:Act) (w:World),listed.size=ops.size→listed.toList.count false≤fuel→I (fun j=>listed.getD j false) a w→wpAny P md ops Q fuel listed a w:=by
 intro fuel
 induction fuel with
 | zero =>
  intro listed a w hs hc hI
  have hr:Region.ready md ops listed=[]:=by
   cases hr:Region.ready md ops listed with
   | nil=>rfl
   | cons i r =>
    exfalso
    obtain ⟨o,ho,hl,-⟩:=ready_spec (md:=md) (ops:=ops) (listed:=listed) (i:=i) (by rw [hr];simp)
    have hi:i < listed.size:=by rw [hs];exact (Array.getElem?_eq_some_iff.1 ho).1
    have:=countP_set hi hl
    omega
  exact ⟨hr,hend _ a w (ready_nil hs hb hr) hI⟩
 | succ fuel ih =>
  intro listed a w hs hc hI
  refine ⟨fun hr=>hend _ a w (ready_nil hs hb hr) hI,fun i hi=>?_⟩
  obtain ⟨o,ho,hl,he⟩:=ready_spec hi
  have hi':i < listed.size:=by rw [hs];exact (Array.getElem?_eq_some_iff.1 ho).1
  have hl':listed.getD i false=false:=by
   rw [Array.getD_eq_getD_getElem?,Array.getElem?_eq_getElem hi'] at hl ⊢
   exact hl
  refine wpOp_mono (fun a' w' h=>ih _ a' w' (by rw [Array.size_setIfInBounds];exact hs) (by have:=countP_set hi' hl;omega) ?_) (hstep _ a w i o ho hl' he hI)
  rw [getD_set hi']
  exact h
theorem wp_region_inv {P:Program} {ops:Array Oper} {Q:Exit→Act→World→Prop} {id:Nat} {a:Act} {w:World} (hm:P.follows .mixedOrders=true) (hb:backB .any ops=true)
  (I:(Nat→Bool)→Act→World→Prop) (h0:I (fun _=>false) a w.drew)
  (hstep:∀ f a w i o,ops[i]?=some o→f i=false→(∀ e ∈ o.after,Region.binds .any e=true→f e.on=true)→I f a w→wpOp P ops Q i (fun a' w'=>I (fun j=>if j=i then true else f j) a' w') a w)
  (hend:∀ f a w,(∀ j,j < ops.size→f j=true)→I f a w→Q .normal a w):(Code.region id ops true).wp P Q a w:=by
 refine wp_region_any hm (wpAny_inv hb I hstep hend ops.size (Array.replicate ops.size false) a _ (by simp) (by simp) ?_)
 have e:(fun j=>(Array.replicate ops.size false).getD j false)=fun _=>false:=by
  funext j
  rw [Array.getD_eq_getD_getElem?,Array.getElem?_replicate]
  split <;> rfl
 rw [e]
 exact h0
/-- Operation i waits for operation d. -/
def needsB (ops:Array Oper) (i d:Nat):Bool:=match ops[i]? with
 | some o=>o.after.any fun e=>Region.binds .any e && (e.on == d)
 | none=>false
theorem wp_region_inv2 {P:Program} {ops:Array Oper} {Q:Exit→Act→World→Prop} {id:Nat} {a:Act} {w:World} (hm:P.follows .mixedOrders=true) (hb:backB .any ops=true)
  (I:(Nat→Bool)→Act→World→Prop) (h0:I (fun _=>false) a w.drew)
  (hstep:∀ f a w i,i < ops.size→f i=false→(∀ d,needsB ops i d=true→f d=true)→I f a w→wpOp P ops Q i (fun a' w'=>I (fun j=>if j=i then true else f j) a' w') a w)
  (hend:∀ f a w,(∀ j,j < ops.size→f j=true)→I f a w→Q .normal a w):(Code.region id ops true).wp P Q a w :=
 wp_region_inv hm hb I h0 (fun f a w i o ho hf he hI=>hstep f a w i (Array.getElem?_eq_some_iff.1 ho).1 hf (fun d hd=>by
  unfold needsB at hd
  rw [ho] at hd
  simp only at hd
  rw [Array.any_eq_true'] at hd
  obtain ⟨e,he1,he2⟩:=hd
  simp only [Bool.and_eq_true,beq_iff_eq] at he2
  have:=he e he1 he2.1
  rwa [he2.2] at this) hI) hend
/-- An operation without a guard. -/
theorem wpOp_plain {P:Program} {ops:Array Oper} {Q:Exit→Act→World→Prop} {i:Nat} {K:Act→World→Prop} {a:Act} {w:World} {o:Oper} (ho:ops[i]?=some o) (hg:o.guard=none) (h:o.wp P a w K Q):wpOp P ops Q i K a w:=by
 unfold wpOp
 rw [ho]
 have hw:Region.wanted o (yielded ops a.tmps)=true:=by simp [Region.wanted,hg]
 simp only
 rw [if_pos hw]
 exact .inl h
theorem wpOp_plainK {P:Program} {ops:Array Oper} {Q:Exit→Act→World→Prop} {i:Nat} {K0:Act→World→Prop} {a:Act} {w:World} {o:Oper} (ho:ops[i]?=some o) (hg:o.guard=none)
  (h:∀ K:Act→World→Prop,Hid (∀ a w,K0 a w→K a w)→o.wp P a w K Q):wpOp P ops Q i K0 a w:=wpOp_plain ho hg (h K0 (fun _ _ h=>h))
end Go.Proofs.YtebbdifhiihfkaaGreatDoor

/- png: the parts of a picture that is not laced. -/
namespace Go.Proofs.YtebbdifhiihfkaaGreatDoor
set_option linter.all false
open Go.RowKit
def UnU (s:Sh) (out:List UInt8) (E:Int) (b:Nat) (w:World) (e:Ending) (w':World):Prop :=
 ∃ v,e=.returned (.tuple #[.agg #[.int .i64 s.w,.int .i64 s.h,.int .i64 s.c,.int .i64 s.d,v],.int .i64 E])∧ownB w' b v out∧Below b w w'
def unT (W H C D:Nat) (R:Option (List UInt8 × List UInt8)):Sh × List UInt8 × Int:=match R with
 | none=>(⟨0,0,0,0⟩,[],4)
 | some p=>(⟨W,H,C,D⟩,p.1,0)
theorem unPost_u {W H C D b:Nat} {R:Option (List UInt8 × List UInt8)} {w w':World} {e:Ending} (h:UnPost W H C D R b w e w'):UnU (unT W H C D R).1 (unT W H C D R).2.1 (unT W H C D R).2.2 b w e w':=by
 cases R with
 | none =>
  obtain ⟨h1,h2⟩:=h
  exact ⟨.slice none 0 0,h1,ownB.nil_ _ _,h2⟩
 | some p =>
  obtain ⟨v,h1,h2,h3⟩:=h
  exact ⟨v,h1,h2,h3⟩
set_option maxRecDepth 100000 in
theorem parts0_any (W H C D:Int) (w:World):Calls Tryz.prog 29 #[.agg #[.int .i64 W,.int .i64 H,.int .i64 C,.int .i64 D],.bool false] w fun e w'=>∃ g,e=.returned (.slice (some ⟨g,0,none⟩) 1 1)∧RdV w' w'.heap.size (some ⟨g,0,none⟩) 1 [⟨W,H,C,D⟩]∧Below w.heap.size w w':=by
 have HL:Hid (RdV ((w.alloc (.cells #[.int .i64 W,.int .i64 H,.int .i64 C,.int .i64 D] 37)).alloc (.cells #[.int .i64 W,.int .i64 H,.int .i64 C,.int .i64 D] 37)) ((w.alloc (.cells #[.int .i64 W,.int .i64 H,.int .i64 C,.int .i64 D] 37)).alloc (.cells #[.int .i64 W,.int .i64 H,.int .i64 C,.int .i64 D] 37)).heap.size (some ⟨w.heap.size+1,0,none⟩) 1 [⟨W,H,C,D⟩]):=(show RdV _ _ _ _ _ by
  have:=rd_oneV (w.alloc (.cells #[.int .i64 W,.int .i64 H,.int .i64 C,.int .i64 D] 37)) ⟨W,H,C,D⟩ 37 (0,0)
  rw [World.size_alloc] at this
  exact RdV.here this)
 have HB:=Lib.hid (((Below.refl w.heap.size w).alloc (Nat.le_refl _) (.cells #[.int .i64 W,.int .i64 H,.int .i64 C,.int .i64 D] 37)).alloc (by rw [World.size_alloc];omega) (.cells #[.int .i64 W,.int .i64 H,.int .i64 C,.int .i64 D] 37))
 go_enter Tryz.func29,Tryz.ntmps29
 go_wp2_with fail
 go_ret
 exact ⟨_,rfl,HL.out,HB.out⟩
/-- The region that makes a picture without pixels. -/
def putInv (mk:(Nat→Value)→Act) (W H C D sz z:Nat) (w0:World) (f:Nat→Bool) (a:Act) (w:World):Prop :=
 ∃ (G M:Nat) (v:Nat→Value),a=mk v∧(f 0=true→v 14=.agg #[.int .i64 (W:Int),.int .i64 (H:Int),.int .i64 (C:Int),.int .i64 (D:Int)])∧(f 1=true→v 15=.agg #[.int .i64 (W:Int),.int .i64 (H:Int),.int .i64 (C:Int),.int .i64 (D:Int)])∧(f 2=true→v 16=.int .i64 (sz:Int))∧(f 3=true→v 17=.slice (some ⟨M,0,none⟩) sz sz∧ownB w z (.slice (some ⟨M,0,none⟩) sz sz) (List.replicate sz 0))∧(f 4=true→v 18=.agg #[.int .i64 (W:Int),.int .i64 (H:Int),.int .i64 (C:Int),.int .i64 (D:Int),.slice (some ⟨M,0,none⟩) sz sz])∧(f 5=true→v 8=.pointer (some ⟨G,0,none⟩)∧z≤G∧G < w.heap.size∧(f 6=false→Arr w G [.int .i64 0,.int .i64 0,.int .i64 0,.int .i64 0,.slice none 0 0]))∧(f 6=true→Arr w G [.int .i64 (W:Int),.int .i64 (H:Int),.int .i64 (C:Int),.int .i64 (D:Int),.slice (some ⟨M,0,none⟩) sz sz])∧(f 4=true→f 3=true)∧(f 6=true→f 4=true∧f 5=true)∧(f 3=true→f 5=true→G ≠ M)∧(Below z w0 w)
/-- The region that reads the rows of a part. -/
def putInv2 (mk:(Nat→Value)→Act) (A:Option Addr) (m c N W H C D:Nat) (sW sH sC sD E:Int) (out:List UInt8) (z:Nat) (w0:World) (f:Nat→Bool) (a:Act) (w:World):Prop :=
 ∃ (G:Nat) (A4:Option Addr) (n4 c4:Nat) (v:Nat→Value),a=mk v∧(f 0=true→v 29=.slice A m c)∧(f 1=true→v 30=.int .i64 (N:Int))∧(f 2=true→v 31=.slice A N c)∧(f 3=true→v 32=.agg #[.int .i64 (W:Int),.int .i64 (H:Int),.int .i64 (C:Int),.int .i64 (D:Int)])∧(f 4=true→v 33=.tuple #[.agg #[.int .i64 sW,.int .i64 sH,.int .i64 sC,.int .i64 sD,.slice A4 n4 c4],.int .i64 E]∧ownB w z (.slice A4 n4 c4) out)∧(f 5=true→v 28=.tuple #[.agg #[.int .i64 sW,.int .i64 sH,.int .i64 sC,.int .i64 sD,.slice A4 n4 c4],.int .i64 E])∧(f 6=true→v 34=.agg #[.int .i64 sW,.int .i64 sH,.int .i64 sC,.int .i64 sD,.slice A4 n4 c4])∧(f 7=true→v 35=.int .i64 E)∧(f 8=true→v 12=.pointer (some ⟨G,0,none⟩)∧z≤G∧G < w.heap.size∧(f 9=false→Arr w G [.int .i64 0,.int .i64 0,.int .i64 0,.int .i64 0,.slice none 0 0]))∧(f 9=true→Arr w G [.int .i64 sW,.int .i64 sH,.int .i64 sC,.int .i64 sD,.slice A4 n4 c4])∧(f 10=true→v 13=.int .i64 E)∧(f 5=true→f 4=true)∧(f 6=true→f 5=true)∧(f 7=true→f 5=true)∧(f 9=true→f 6=true∧f 8=true)∧(f 4=true→f 8=true→(Value.slice A4 n4 c4).ownBlock ≠ some G)∧(Below z w0 w)
theorem cellZ {z b i:Nat} {w0 w:World} {v:Value} (hb:Below z w0 w) (hz:b < z) (h:w0.cell? ⟨b,i,none⟩=some v):w.cell? ⟨b,i,none⟩=some v:=bsame hb hz h
set_option maxRecDepth 100000 in
set_option maxHeartbeats 6400000 in
theorem put1_any (W H C D K n m c B cl:Nat) (A Al:Option Addr) (rs out:List UInt8) (s':Sh) (E:Int) (w:World) (hs:PS W H C D K) (hz:H * (W * K)≤16384) (hn:W * K=n) (h:RdB w B A m rs) (hB:B≤w.heap.size) (hm:H * (n+1)≤m) (hcap:m≤c) (hmb:m≤1000000)
  (hl:RdV w B Al 1 [⟨W,H,C,D⟩]) (hR:unT W H C D (unF K n (rs.take (H * (n+1))) H)=(s',out,E)) :
  Calls Tryz.prog 33 #[.agg #[.int .i64 (W:Int),.int .i64 (H:Int),.int .i64 (C:Int),.int .i64 (D:Int)],.slice Al 1 cl,.slice A m c] w fun e w'=>UnU s' out E w.heap.size w e w':=by
 obtain ⟨sW,sH,sC,sD⟩:=s'
 obtain ⟨N,hN⟩:∃ N,H * (n+1)=N:=⟨_,rfl⟩
 have hsz:=hs.size.1
 have HUF:=Lib.hid (fun w2 c2 (h2:RdB w2 B A N (rs.take N)) (hB2:B≤w2.heap.size) (hc2:N≤c2)=>(unfiltered_any W H C D K n N c2 B A (rs.take N) w2 hs hn h2 hB2 hN.symm hc2 (by omega)).mono (fun e w' hh=>unPost_u hh))
 rw [hN] at hR hm
 rw [hR] at HUF
 dsimp only at HUF
 have HAL:=Lib.hid (fun w=>all_any W H C D K w hs hz)
 rw [hn,hN] at HAL
 have HSZ:=Lib.hid (fun w=>size_any ⟨W,H,C,D⟩ w)
 rw [hsz] at HSZ
 dsimp only [Sh.v] at HSZ
 rw [hn] at hz HSZ
 obtain ⟨sz,hszq⟩:∃ sz,H * n=sz:=⟨_,rfl⟩
 rw [hszq] at hz HSZ
 have kmk:=fun w=>run_makeB w sz (by omega)
 have hE:E=0∨E=4:=by
  unfold unT at hR
  split at hR <;> (injection hR with _ hR;injection hR with _ hR;omega)
 have HS4:Hid (E=4→sW=0∧sH=0∧sC=0∧sD=0∧out=[]):=(show _→_ from fun he=>by
  unfold unT at hR
  split at hR
  ·injection hR with h1 h2
   injection h2 with h2 h3
   injection h1 with h4 h5 h6 h7
   exact ⟨h4.symm,h5.symm,h6.symm,h7.symm,h2.symm⟩
  ·injection hR with h1 h2
   injection h2 with h2 h3
   omega)
 obtain ⟨bl,ol,x,rfl,hbl,HX,e0,e1,e2,e3⟩:=hl.one (k:=0) (by decide)
 have hx:x=⟨W,H,C,D⟩:=by have:=HX.out;injection this with this;exact this.symm
 subst hx
 simp only [Nat.zero_mul,Nat.add_zero] at e0 e1 e2 e3
 obtain ⟨wa,hwa⟩:∃ w1,(w.alloc (.cells #[.int .i64 (W:Int),.int .i64 (H:Int),.int .i64 (C:Int),.int .i64 (D:Int)] 37)).alloc (.cells #[.int .i64 0,.int .i64 0,.int .i64 0,.int .i64 0,.slice none 0 0] 39)=w1:=⟨_,rfl⟩
 obtain ⟨bx,hbk⟩:∃ b,w.heap.size=b:=⟨_,rfl⟩
 have HA1:Hid (Arr wa bx [.int .i64 (W:Int),.int .i64 (H:Int),.int .i64 (C:Int),.int .i64 (D:Int)]):=(show Arr _ _ _ by rw [← hwa,← hbk];exact (Arr.new w [.int .i64 (W:Int),.int .i64 (H:Int),.int .i64 (C:Int),.int .i64 (D:Int)] _).alloc _)
 have HZ1:Hid (Arr wa (bx+1) [.int .i64 0,.int .i64 0,.int .i64 0,.int .i64 0,.slice none 0 0]):=(show Arr _ _ _ by
  rw [← hwa,← hbk]
  have:=Arr.new (w.alloc (.cells #[.int .i64 (W:Int),.int .i64 (H:Int),.int .i64 (C:Int),.int .i64 (D:Int)] 37)) [.int .i64 0,.int .i64 0,.int .i64 0,.int .i64 0,.slice none 0 0] 39
  rw [World.size_alloc] at this
  exact this)
 have HR1:Hid (RdB wa B A m rs):=(show RdB _ _ _ _ _ by rw [← hwa];exact Rd.alloc (Rd.alloc h hB _) (by rw [World.size_alloc];omega) _)
 have HB1:Hid (Below bx w wa):=(show Below _ _ _ by rw [← hwa,← hbk];exact ((Below.refl w.heap.size w).alloc (Nat.le_refl _) _).alloc (by rw [World.size_alloc];omega) _)
 have hz1:bx+2≤wa.heap.size:=by rw [← hwa,World.size_alloc,World.size_alloc,hbk];exact Nat.le_refl _
 have a0:=HA1.out.cell (k:=0) rfl
 have a1:=HA1.out.cell (k:=1) rfl
 have a2:=HA1.out.cell (k:=2) rfl
 have a3:=HA1.out.cell (k:=3) rfl
 rw [hbk] at hB ⊢
 have HE0:=Lib.hid (bsame HB1.out (show bl < bx by omega) e0)
 have HE1:=Lib.hid (bsame HB1.out (show bl < bx by omega) e1)
 have HE2:=Lib.hid (bsame HB1.out (show bl < bx by omega) e2)
 have HE3:=Lib.hid (bsame HB1.out (show bl < bx by omega) e3)
 clear hR hN hsz hn hs h hl HX e0 e1 e2 e3 hszq
 go_enter Tryz.func33,Tryz.ntmps33
 go_upto_region 1 with fail
 clear hwa
 have KMK:=Lib.hid kmk
 have HSB:Hid (sz≤140737488355328):=(show _≤_ by omega)
 have HC:Hid (bx < wa.heap.size∧wa.cell? ⟨bx,0,none⟩=some (.int .i64 (W:Int))∧wa.cell? ⟨bx,1,none⟩=some (.int .i64 (H:Int))∧wa.cell? ⟨bx,2,none⟩=some (.int .i64 (C:Int))∧wa.cell? ⟨bx,3,none⟩=some (.int .i64 (D:Int))):=(show _∧_ from ⟨by omega,a0,a1,a2,a3⟩)
 have HZ0:Hid (wa.heap.size≤wa.heap.size):=Nat.le_refl _
 clear kmk a0 a1 a2 a3
 go_cut [8] (fun v8 wx=>∃ G M,v8=.pointer (some ⟨G,0,none⟩)∧wa.heap.size≤G∧ownB wx wa.heap.size (.slice (some ⟨M,0,none⟩) sz sz) (List.replicate sz 0)∧Arr wx G [.int .i64 (W:Int),.int .i64 (H:Int),.int .i64 (C:Int),.int .i64 (D:Int),.slice (some ⟨M,0,none⟩) sz sz]∧G ≠ M∧Below wa.heap.size wa wx)
 case first =>
  refine wp_region_inv2 (by kernel_rfl) (by kernel_rfl) (putInv (fun v=>⟨#[.agg #[.int .i64 (W:Int),.int .i64 (H:Int),.int .i64 (C:Int),.int .i64 (D:Int)],.slice (some ⟨bl,ol,none⟩) 1 cl,.slice A m c,.pointer (some ⟨bx,0,none⟩),undef,undef,.pointer (some ⟨bx+1,0,none⟩),.int .i64 0,v 8,undef,undef,undef,undef,undef,v 14,v 15,v 16,v 17,v 18,undef,undef,undef,undef,undef,undef,undef,undef,undef,undef,undef,undef,undef,undef,undef,undef,undef,undef,undef,undef,undef,undef,undef,undef,undef,undef,undef,undef,undef,undef,undef,undef,undef,undef,undef],[]⟩) W H C D sz wa.heap.size wa) ?_ ?_ ?_
  ·exact ⟨0,0,fun _=>undef,rfl,(fun h=>by cases h),(fun h=>by cases h),(fun h=>by cases h),(fun h=>by cases h),(fun h=>by cases h),(fun h=>by cases h),(fun h=>by cases h),(fun h=>by cases h),(fun h=>by cases h),(fun h=>by cases h),(Below.refl _ _).drew⟩
  ·intro f a w i hi0 hf he hI
   have hi:i < 7:=hi0
   clear hi0
   obtain ⟨G,M,v,rfl,p0,p1,p2,p3,p4,p5,p6,d4,d6,q,hB⟩:=hI
   replace p0:=Lib.hid p0
   replace p1:=Lib.hid p1
   replace p2:=Lib.hid p2
   replace p3:=Lib.hid p3
   replace p4:=Lib.hid p4
   replace p5:=Lib.hid p5
   replace p6:=Lib.hid p6
   replace d4:=Lib.hid d4
   replace d6:=Lib.hid d6
   replace q:=Lib.hid q
   replace hB:=Lib.hid hB
   have hi':i=0∨i=1∨i=2∨i=3∨i=4∨i=5∨i=6:=by omega
   clear hi
   rcases hi' with rfl | rfl | rfl | rfl | rfl | rfl | rfl
   ·have cc0:=cellZ hB.out HC.out.1 HC.out.2.1
    have cc1:=cellZ hB.out HC.out.1 HC.out.2.2.1
    have cc2:=cellZ hB.out HC.out.1 HC.out.2.2.2.1
    have cc3:=cellZ hB.out HC.out.1 HC.out.2.2.2.2
    clear he
    refine wpOp_plainK rfl rfl (fun K HK=>?_)
    dsimp only
    go_simp
    exact HK.out _ _ ⟨G,M,(fun k=>if k=14 then .agg #[.int .i64 (W:Int),.int .i64 (H:Int),.int .i64 (C:Int),.int .i64 (D:Int)] else v k),rfl,fun _=>rfl,p1.out,p2.out,p3.out,p4.out,p5.out,p6.out,d4.out,d6.out,q.out,hB.out⟩
   ·have cc0:=cellZ hB.out HC.out.1 HC.out.2.1
    have cc1:=cellZ hB.out HC.out.1 HC.out.2.2.1
    have cc2:=cellZ hB.out HC.out.1 HC.out.2.2.2.1
    have cc3:=cellZ hB.out HC.out.1 HC.out.2.2.2.2
    clear he
    refine wpOp_plainK rfl rfl (fun K HK=>?_)
    dsimp only
    go_simp
    exact HK.out _ _ ⟨G,M,(fun k=>if k=15 then .agg #[.int .i64 (W:Int),.int .i64 (H:Int),.int .i64 (C:Int),.int .i64 (D:Int)] else v k),rfl,p0.out,fun _=>rfl,p2.out,p3.out,p4.out,p5.out,p6.out,d4.out,d6.out,q.out,hB.out⟩
   ·have hzw:wa.heap.size≤w.heap.size:=Nat.le_trans HZ0.out hB.out.size
    have f1:f 1=true:=he 1 (by kernel_rfl)
    have r1:=p1.out f1
    clear he
    refine wpOp_plainK rfl rfl (fun K HK=>?_)
    dsimp only
    rw [r1]
    clear r1
    go_simp
    go_at_call 42
    (with_reducible refine (HSZ.out _).mono ?_)
    rintro e w' ⟨rfl,hb⟩
    go_simp
    exact HK.out _ _ ⟨G,M,(fun k=>if k=16 then .int .i64 (sz:Int) else (fun k=>if k=15 then .agg #[.int .i64 (W:Int),.int .i64 (H:Int),.int .i64 (C:Int),.int .i64 (D:Int)] else v k) k),rfl,p0.out,fun _=>rfl,fun _=>rfl,fun h=>⟨(p3.out h).1,ownB.later (p3.out h).2 hb⟩,p4.out,fun h=>⟨(p5.out h).1,(p5.out h).2.1,Nat.lt_of_lt_of_le (p5.out h).2.2.1 hb.size,fun h6=>Arr.later ((p5.out h).2.2.2 h6) hb⟩,fun h=>Arr.later (p6.out h) hb,d4.out,d6.out,q.out,hB.out.trans (Below.mono hb hzw)⟩
   ·have hzw:wa.heap.size≤w.heap.size:=Nat.le_trans HZ0.out hB.out.size
    have f2:f 2=true:=he 2 (by kernel_rfl)
    have r2:=p2.out f2
    have km:=KMK.out w
    clear he
    refine wpOp_plainK rfl rfl (fun K HK=>?_)
    dsimp only
    rw [r2]
    clear r2
    go_simp
    have hb:Below w.heap.size w (w.alloc (zeroObj sz)):=(Below.refl w.heap.size w).alloc (Nat.le_refl _) _
    exact HK.out _ _ ⟨G,w.heap.size,(fun k=>if k=17 then .slice (some ⟨w.heap.size,0,none⟩) sz sz else (fun k=>if k=16 then .int .i64 (sz:Int) else v k) k),rfl,p0.out,p1.out,fun _=>rfl,fun _=>⟨rfl,(own_zero w sz HSB.out).mono hzw⟩,fun h=>Bool.noConfusion (show true=false from (d4.out h).symm.trans hf),fun h=>⟨(p5.out h).1,(p5.out h).2.1,Nat.lt_of_lt_of_le (p5.out h).2.2.1 hb.size,fun h6=>Arr.later ((p5.out h).2.2.2 h6) hb⟩,fun h=>Bool.noConfusion (show true=false from (d4.out (d6.out h).1).symm.trans hf),fun _=>rfl,d6.out,fun _ h5=>Nat.ne_of_lt (p5.out h5).2.2.1,hB.out.trans (Below.mono hb hzw)⟩
   ·have f0:f 0=true:=he 0 (by kernel_rfl)
    have f3:f 3=true:=he 3 (by kernel_rfl)
    have r0:=p0.out f0
    have r3:=(p3.out f3).1
    clear he
    refine wpOp_plainK rfl rfl (fun K HK=>?_)
    dsimp only
    rw [r0,r3]
    clear r0 r3
    go_simp
    exact HK.out _ _ ⟨G,M,(fun k=>if k=18 then .agg #[.int .i64 (W:Int),.int .i64 (H:Int),.int .i64 (C:Int),.int .i64 (D:Int),.slice (some ⟨M,0,none⟩) sz sz] else (fun k=>if k=17 then .slice (some ⟨M,0,none⟩) sz sz else (fun k=>if k=14 then .agg #[.int .i64 (W:Int),.int .i64 (H:Int),.int .i64 (C:Int),.int .i64 (D:Int)] else v k) k) k),rfl,fun _=>rfl,p1.out,p2.out,fun _=>⟨rfl,(p3.out f3).2⟩,fun _=>rfl,p5.out,p6.out,fun _=>f3,fun h=>⟨rfl,(d6.out h).2⟩,q.out,hB.out⟩
   ·have hzw:wa.heap.size≤w.heap.size:=Nat.le_trans HZ0.out hB.out.size
    clear he
    refine wpOp_plainK rfl rfl (fun K HK=>?_)
    dsimp only
    go_simp
    have hb:Below w.heap.size w (w.alloc (.cells #[.int .i64 0,.int .i64 0,.int .i64 0,.int .i64 0,.slice none 0 0] 39)):=(Below.refl w.heap.size w).alloc (Nat.le_refl _) _
    exact HK.out _ _ ⟨w.heap.size,M,(fun k=>if k=8 then .pointer (some ⟨w.heap.size,0,none⟩) else v k),rfl,p0.out,p1.out,p2.out,fun h=>⟨(p3.out h).1,ownB.later (p3.out h).2 hb⟩,p4.out,fun _=>⟨rfl,hzw,(by rw [World.size_alloc];exact Nat.lt_succ_self _),fun _=>Arr.new w [.int .i64 0,.int .i64 0,.int .i64 0,.int .i64 0,.slice none 0 0] _⟩,fun h=>Bool.noConfusion (show true=false from (d6.out h).2.symm.trans hf),d4.out,fun h=>⟨(d6.out h).1,rfl⟩,fun h3 _=>fun e=>Nat.lt_irrefl _ (by have h1:=(World.ownsRow.lt (p3.out h3).2 M rfl).2;rw [← e] at h1;exact h1),hB.out.trans (Below.mono hb hzw)⟩
   ·have f4:f 4=true:=he 4 (by kernel_rfl)
    have f5:f 5=true:=he 5 (by kernel_rfl)
    have f3:=d4.out f4
    have r4:=p4.out f4
    obtain ⟨r5,hG1,hG2,hA⟩:=p5.out f5
    replace hA:=hA hf
    have s0:=hA.cell (k:=0) rfl
    have s1:=hA.cell (k:=1) rfl
    have s2:=hA.cell (k:=2) rfl
    have s3:=hA.cell (k:=3) rfl
    have s4:=hA.cell (k:=4) rfl
    have z0:=hA.frozen 0
    have z1:=hA.frozen 1
    have z2:=hA.frozen 2
    have z3:=hA.frozen 3
    have z4:=hA.frozen 4
    have hne:(Value.slice (some ⟨M,0,none⟩) sz sz).ownBlock ≠ some G:=fun e=>q.out f3 f5 (by injection e with e;exact e.symm)
    have hown:ownB (((((w.setCell ⟨G,0,none⟩ (.int .i64 (W:Int))).setCell ⟨G,1,none⟩ (.int .i64 (H:Int))).setCell ⟨G,2,none⟩ (.int .i64 (C:Int))).setCell ⟨G,3,none⟩ (.int .i64 (D:Int))).setCell ⟨G,4,none⟩ (.slice (some ⟨M,0,none⟩) sz sz)) wa.heap.size (.slice (some ⟨M,0,none⟩) sz sz) (List.replicate sz 0):=(((((p3.out f3).2.far hne 0 _).far hne 1 _).far hne 2 _).far hne 3 _).far hne 4 _
    have harr:Arr (((((w.setCell ⟨G,0,none⟩ (.int .i64 (W:Int))).setCell ⟨G,1,none⟩ (.int .i64 (H:Int))).setCell ⟨G,2,none⟩ (.int .i64 (C:Int))).setCell ⟨G,3,none⟩ (.int .i64 (D:Int))).setCell ⟨G,4,none⟩ (.slice (some ⟨M,0,none⟩) sz sz)) G [.int .i64 (W:Int),.int .i64 (H:Int),.int .i64 (C:Int),.int .i64 (D:Int),.slice (some ⟨M,0,none⟩) sz sz]:=((((hA.set 0 _).set 1 _).set 2 _).set 3 _).set 4 _
    have hbw:Below wa.heap.size wa (((((w.setCell ⟨G,0,none⟩ (.int .i64 (W:Int))).setCell ⟨G,1,none⟩ (.int .i64 (H:Int))).setCell ⟨G,2,none⟩ (.int .i64 (C:Int))).setCell ⟨G,3,none⟩ (.int .i64 (D:Int))).setCell ⟨G,4,none⟩ (.slice (some ⟨M,0,none⟩) sz sz)):=((((hB.out.setCell (p:=⟨G,0,none⟩) hG1 _).setCell (p:=⟨G,1,none⟩) hG1 _).setCell (p:=⟨G,2,none⟩) hG1 _).setCell (p:=⟨G,3,none⟩) hG1 _).setCell (p:=⟨G,4,none⟩) hG1 _
    clear he
    refine wpOp_plainK rfl rfl (fun K HK=>?_)
    dsimp only
    rw [r4,r5]
    clear r4 r5
    go_simp
    exact HK.out _ _ ⟨G,M,(fun k=>if k=18 then .agg #[.int .i64 (W:Int),.int .i64 (H:Int),.int .i64 (C:Int),.int .i64 (D:Int),.slice (some ⟨M,0,none⟩) sz sz] else (fun k=>if k=8 then .pointer (some ⟨G,0,none⟩) else v k) k),rfl,p0.out,p1.out,p2.out,fun h=>⟨(p3.out h).1,hown⟩,fun _=>rfl,fun _=>⟨rfl,hG1,(by simpa using hG2),fun h=>Bool.noConfusion (show true=false from h)⟩,fun _=>harr,d4.out,fun _=>⟨f4,f5⟩,q.out,hbw⟩
  ·intro f a w hall hI
   obtain ⟨G,M,v,rfl,p0,p1,p2,p3,p4,p5,p6,d4,d6,q,hB⟩:=hI
   have g3:=hall 3 (by decide)
   have g5:=hall 5 (by decide)
   have g6:=hall 6 (by decide)
   have FIN:Hid (v 8=.pointer (some ⟨G,0,none⟩)∧wa.heap.size≤G∧ownB w wa.heap.size (.slice (some ⟨M,0,none⟩) sz sz) (List.replicate sz 0)∧Arr w G [.int .i64 (W:Int),.int .i64 (H:Int),.int .i64 (C:Int),.int .i64 (D:Int),.slice (some ⟨M,0,none⟩) sz sz]∧G ≠ M∧Below wa.heap.size wa w):=(show _∧_ from ⟨(p5 g5).1,(p5 g5).2.1,(p3 g3).2,p6 g6,q g3 g5,hB⟩)
   clear p0 p1 p2 p3 p4 p5 p6 d4 d6 q hB hall g3 g5 g6
   go_wp2_with fail
   go_meet
   case rel=>exact ⟨G,M,FIN.out⟩
 case rest =>
 clear HC KMK HSB HZ0
 obtain ⟨G0,M,rfl,hG,hoM,hAG,hGM,hBc⟩:=hcut
 have hzc:=hBc.size
 have HZc:=Lib.hid (HZ1.out.blw hBc (show bx+1 < wa.heap.size by omega))
 have HRc:=Lib.hid (RdB.blw HR1.out (hBc.mono (by omega)))
 have HBc:=Lib.hid (HB1.out.trans (hBc.mono (by omega)))
 have e0:=bsame hBc (show bl < wa.heap.size by omega) HE0.out
 have e1:=bsame hBc (show bl < wa.heap.size by omega) HE1.out
 have e2:=bsame hBc (show bl < wa.heap.size by omega) HE2.out
 have e3:=bsame hBc (show bl < wa.heap.size by omega) HE3.out
 obtain ⟨wq,hwq⟩:∃ wq,wc.alloc (.cells #[.int .i64 (W:Int),.int .i64 (H:Int),.int .i64 (C:Int),.int .i64 (D:Int)] 37)=wq:=⟨_,rfl⟩
 obtain ⟨bq,hbq⟩:∃ bq,wc.heap.size=bq:=⟨_,rfl⟩
 have HAQ:Hid (Arr wq bq [.int .i64 (W:Int),.int .i64 (H:Int),.int .i64 (C:Int),.int .i64 (D:Int)]):=(show Arr _ _ _ by rw [← hwq,← hbq];exact Arr.new wc [.int .i64 (W:Int),.int .i64 (H:Int),.int .i64 (C:Int),.int .i64 (D:Int)] _)
 have HWQ:Hid (Below wc.heap.size wc wq):=(show Below _ _ _ by rw [← hwq];exact (Below.refl wc.heap.size wc).alloc (Nat.le_refl _) _)
 have hzq:bq+1≤wq.heap.size:=by rw [← hwq,World.size_alloc,hbq];exact Nat.le_refl _
 have hbq2:wa.heap.size≤bq:=by omega
 have hbq3:wc.heap.size≤bq:=Nat.le_of_eq hbq
 have q0:=HAQ.out.cell (k:=0) rfl
 have q1:=HAQ.out.cell (k:=1) rfl
 have q2:=HAQ.out.cell (k:=2) rfl
 have q3:=HAQ.out.cell (k:=3) rfl
 clear hG hoM hAG hGM hBc HA1 HZ1 HR1 HB1 HE0 HE1 HE2 HE3 hzc
 go_wp2_with fail
 refine wp_loop_rounds 1 ?_
 rw [rounds_succ]
 go_upto_region 6 with (go_at_call 30;(with_reducible refine (HAL.out _).mono ?_);go_must (rintro e w5 ⟨rfl,hb5⟩;have HA5:=Lib.hid (HAQ.out.later hb5);have hz5:=hb5.size;have HZ5:=Lib.hid ((HZc.out.later HWQ.out).later hb5);have HR5:=Lib.hid (RdB.blw (RdB.blw HRc.out (HWQ.out.mono (by omega))) (hb5.mono (by omega)));have HB5:=Lib.hid ((HBc.out.trans (HWQ.out.mono (by omega))).trans (hb5.mono (by omega)));clear hb5 q0 q1 q2 q3 e0 e1 e2 e3))
 clear hwq HAQ HWQ HZc HRc HBc
 have HQ5:Hid (bq < w5.heap.size∧w5.cell? ⟨bq,0,none⟩=some (.int .i64 (W:Int))∧w5.cell? ⟨bq,1,none⟩=some (.int .i64 (H:Int))∧w5.cell? ⟨bq,2,none⟩=some (.int .i64 (C:Int))∧w5.cell? ⟨bq,3,none⟩=some (.int .i64 (D:Int))):=(show _∧_ from ⟨by omega,HA5.out.cell (k:=0) rfl,HA5.out.cell (k:=1) rfl,HA5.out.cell (k:=2) rfl,HA5.out.cell (k:=3) rfl⟩)
 have HB5z:Hid (B≤w5.heap.size):=(show _≤_ by omega)
 have hmN:Hid (N≤m):=hm
 have hcN:Hid (N≤c):=(show _≤_ by omega)
 have HNC:Hid ((N:Int)≤(c:Int)∧N≤c):=(show _∧_ from ⟨by omega,by omega⟩)
 have hbx5:bx+2≤w5.heap.size:=by omega
 go_cut [12,13] (fun v12 v13 wx=>∃ G A4 n4 c4,v12=.pointer (some ⟨G,0,none⟩)∧v13=.int .i64 E∧w5.heap.size≤G∧ownB wx w5.heap.size (.slice A4 n4 c4) out∧Arr wx G [.int .i64 sW,.int .i64 sH,.int .i64 sC,.int .i64 sD,.slice A4 n4 c4]∧(Value.slice A4 n4 c4).ownBlock ≠ some G∧Below w5.heap.size w5 wx)
 case first =>
  refine wp_region_inv2 (by kernel_rfl) (by kernel_rfl) (putInv2 (fun v=>⟨#[.agg #[.int .i64 (W:Int),.int .i64 (H:Int),.int .i64 (C:Int),.int .i64 (D:Int)],.slice (some ⟨bl,ol,none⟩) 1 cl,.slice A m c,.pointer (some ⟨bx,0,none⟩),undef,undef,.pointer (some ⟨bx+1,0,none⟩),.int .i64 0,.pointer (some ⟨G0,0,none⟩),.int .i64 0,.pointer (some ⟨bq,0,none⟩),.int .i64 (N:Int),v 12,v 13,u14,u15,u16,u17,u18,.slice (some ⟨bl,ol,none⟩) 1 cl,.int .i64 1,.int .i64 0,.bool true,.int .i64 0,.pointer (some ⟨bl,ol,none⟩),.agg #[.int .i64 (W:Int),.int .i64 (H:Int),.int .i64 (C:Int),.int .i64 (D:Int)],.agg #[.int .i64 (W:Int),.int .i64 (H:Int),.int .i64 (C:Int),.int .i64 (D:Int)],.int .i64 (N:Int),v 28,v 29,v 30,v 31,v 32,v 33,v 34,v 35,u36,u37,u38,u39,u40,u41,u42,u43,u44,u45,u46,u47,u48,u49,u50,u51,u52,u53],[]⟩) A m c N W H C D sW sH sC sD E out w5.heap.size w5) ?_ ?_ ?_
  ·exact ⟨0,none,0,0,(fun k=>match k with | 12=>undef | 13=>undef | 28=>u28 | 29=>u29 | 30=>u30 | 31=>u31 | 32=>u32 | 33=>u33 | 34=>u34 | 35=>u35 | _=>undef),rfl,(fun h=>by cases h),(fun h=>by cases h),(fun h=>by cases h),(fun h=>by cases h),(fun h=>by cases h),(fun h=>by cases h),(fun h=>by cases h),(fun h=>by cases h),(fun h=>by cases h),(fun h=>by cases h),(fun h=>by cases h),(fun h=>by cases h),(fun h=>by cases h),(fun h=>by cases h),(fun h=>by cases h),(fun h=>by cases h),(Below.refl _ _).drew⟩
  ·intro f a w i hi0 hf he hI
   have hi:i < 11:=hi0
   clear hi0
   obtain ⟨G,A4,n4,c4,v,rfl,p0,p1,p2,p3,p4,p5,p6,p7,p8,p9,p10,d5,d6,d7,d9,q,hB⟩:=hI
   replace p0:=Lib.hid p0
   replace p1:=Lib.hid p1
   replace p2:=Lib.hid p2
   replace p3:=Lib.hid p3
   replace p4:=Lib.hid p4
   replace p5:=Lib.hid p5
   replace p6:=Lib.hid p6
   replace p7:=Lib.hid p7
   replace p8:=Lib.hid p8
   replace p9:=Lib.hid p9
   replace p10:=Lib.hid p10
   replace d5:=Lib.hid d5
   replace d6:=Lib.hid d6
   replace d7:=Lib.hid d7
   replace d9:=Lib.hid d9
   replace q:=Lib.hid q
   replace hB:=Lib.hid hB
   have hi':i=0∨i=1∨i=2∨i=3∨i=4∨i=5∨i=6∨i=7∨i=8∨i=9∨i=10:=by omega
   clear hi
   rcases hi' with rfl | rfl | rfl | rfl | rfl | rfl | rfl | rfl | rfl | rfl | rfl
   ·clear he
    refine wpOp_plainK rfl rfl (fun K HK=>?_)
    dsimp only
    go_simp
    exact HK.out _ _ ⟨G,A4,n4,c4,(fun k=>if k=29 then .slice A m c else v k),rfl,fun _=>rfl,p1.out,p2.out,p3.out,p4.out,p5.out,p6.out,p7.out,p8.out,p9.out,p10.out,d5.out,d6.out,d7.out,d9.out,q.out,hB.out⟩
   ·clear he
    refine wpOp_plainK rfl rfl (fun K HK=>?_)
    dsimp only
    go_simp
    exact HK.out _ _ ⟨G,A4,n4,c4,(fun k=>if k=30 then .int .i64 (N:Int) else v k),rfl,p0.out,fun _=>rfl,p2.out,p3.out,p4.out,p5.out,p6.out,p7.out,p8.out,p9.out,p10.out,d5.out,d6.out,d7.out,d9.out,q.out,hB.out⟩
   ·have r0:=p0.out (he 0 (by kernel_rfl))
    have r1:=p1.out (he 1 (by kernel_rfl))
    have k1:=HNC.out.1
    have k2:=HNC.out.2
    clear he
    refine wpOp_plainK rfl rfl (fun K HK=>?_)
    dsimp only
    rw [r0,r1]
    clear r0 r1
    go_simp
    exact HK.out _ _ ⟨G,A4,n4,c4,(fun k=>if k=31 then .slice A N c else (fun k=>if k=30 then .int .i64 (N:Int) else (fun k=>if k=29 then .slice A m c else v k) k) k),rfl,fun _=>rfl,fun _=>rfl,fun _=>rfl,p3.out,p4.out,p5.out,p6.out,p7.out,p8.out,p9.out,p10.out,d5.out,d6.out,d7.out,d9.out,q.out,hB.out⟩
   ·have cc0:=cellZ hB.out HQ5.out.1 HQ5.out.2.1
    have cc1:=cellZ hB.out HQ5.out.1 HQ5.out.2.2.1
    have cc2:=cellZ hB.out HQ5.out.1 HQ5.out.2.2.2.1
    have cc3:=cellZ hB.out HQ5.out.1 HQ5.out.2.2.2.2
    clear he
    refine wpOp_plainK rfl rfl (fun K HK=>?_)
    dsimp only
    go_simp
    exact HK.out _ _ ⟨G,A4,n4,c4,(fun k=>if k=32 then .agg #[.int .i64 (W:Int),.int .i64 (H:Int),.int .i64 (C:Int),.int .i64 (D:Int)] else v k),rfl,p0.out,p1.out,p2.out,fun _=>rfl,p4.out,p5.out,p6.out,p7.out,p8.out,p9.out,p10.out,d5.out,d6.out,d7.out,d9.out,q.out,hB.out⟩
   ·have hzw:w5.heap.size≤w.heap.size:=hB.out.size
    have r2:=p2.out (he 2 (by kernel_rfl))
    have r3:=p3.out (he 3 (by kernel_rfl))
    have hcall:=HUF.out w c (RdB.pre (RdB.blw HR5.out (hB.out.mono HB5z.out)) hmN.out) (Nat.le_trans HB5z.out hzw) hcN.out
    clear he
    refine wpOp_plainK rfl rfl (fun K HK=>?_)
    dsimp only
    rw [r2,r3]
    clear r2 r3
    go_simp
    go_at_call 59
    (with_reducible refine hcall.mono ?_)
    rintro e w' ⟨v1,rfl,ho,hb⟩
    obtain ⟨A4,c4,rfl,-,-,-⟩:=ho.form
    go_simp
    exact HK.out _ _ ⟨G,A4,out.length,c4,(fun k=>if k=33 then .tuple #[.agg #[.int .i64 sW,.int .i64 sH,.int .i64 sC,.int .i64 sD,.slice A4 out.length c4],.int .i64 E] else (fun k=>if k=32 then .agg #[.int .i64 (W:Int),.int .i64 (H:Int),.int .i64 (C:Int),.int .i64 (D:Int)] else (fun k=>if k=31 then .slice A N c else v k) k) k),rfl,p0.out,p1.out,fun _=>rfl,fun _=>rfl,fun _=>⟨rfl,ho.mono hzw⟩,fun h=>Bool.noConfusion (show true=false from (d5.out h).symm.trans hf),fun h=>Bool.noConfusion (show true=false from (d5.out (d6.out h)).symm.trans hf),p7.out,fun h=>⟨(p8.out h).1,(p8.out h).2.1,Nat.lt_of_lt_of_le (p8.out h).2.2.1 hb.size,fun h6=>Arr.later ((p8.out h).2.2.2 h6) hb⟩,fun h=>Bool.noConfusion (show true=false from (d5.out (d6.out (d9.out h).1)).symm.trans hf),p10.out,fun h=>Bool.noConfusion (show true=false from (d5.out h).symm.trans hf),d6.out,d7.out,d9.out,fun _ h8=>fun e=>by have h1:=(World.ownsRow.lt ho G e).1;have h2:=(p8.out h8).2.2.1;omega,hB.out.trans (Below.mono hb hzw)⟩
   ·have f4:f 4=true:=he 4 (by kernel_rfl)
    have r4:=(p4.out f4).1
    clear he
    refine wpOp_plainK rfl rfl (fun K HK=>?_)
    dsimp only
    rw [r4]
    clear r4
    go_simp
    exact HK.out _ _ ⟨G,A4,n4,c4,(fun k=>if k=28 then .tuple #[.agg #[.int .i64 sW,.int .i64 sH,.int .i64 sC,.int .i64 sD,.slice A4 n4 c4],.int .i64 E] else (fun k=>if k=33 then .tuple #[.agg #[.int .i64 sW,.int .i64 sH,.int .i64 sC,.int .i64 sD,.slice A4 n4 c4],.int .i64 E] else v k) k),rfl,p0.out,p1.out,p2.out,p3.out,fun _=>⟨rfl,(p4.out f4).2⟩,fun _=>rfl,p6.out,p7.out,p8.out,p9.out,p10.out,fun _=>f4,fun h=>rfl,fun h=>rfl,d9.out,q.out,hB.out⟩
   ·have f5:f 5=true:=he 5 (by kernel_rfl)
    have r5:=p5.out f5
    clear he
    refine wpOp_plainK rfl rfl (fun K HK=>?_)
    dsimp only
    rw [r5]
    clear r5
    go_simp
    exact HK.out _ _ ⟨G,A4,n4,c4,(fun k=>if k=34 then .agg #[.int .i64 sW,.int .i64 sH,.int .i64 sC,.int .i64 sD,.slice A4 n4 c4] else (fun k=>if k=28 then .tuple #[.agg #[.int .i64 sW,.int .i64 sH,.int .i64 sC,.int .i64 sD,.slice A4 n4 c4],.int .i64 E] else v k) k),rfl,p0.out,p1.out,p2.out,p3.out,p4.out,fun _=>rfl,fun _=>rfl,p7.out,p8.out,p9.out,p10.out,d5.out,fun _=>f5,d7.out,fun h=>⟨rfl,(d9.out h).2⟩,q.out,hB.out⟩
   ·have f5:f 5=true:=he 5 (by kernel_rfl)
    have r5:=p5.out f5
    clear he
    refine wpOp_plainK rfl rfl (fun K HK=>?_)
    dsimp only
    rw [r5]
    clear r5
    go_simp
    exact HK.out _ _ ⟨G,A4,n4,c4,(fun k=>if k=35 then .int .i64 E else (fun k=>if k=28 then .tuple #[.agg #[.int .i64 sW,.int .i64 sH,.int .i64 sC,.int .i64 sD,.slice A4 n4 c4],.int .i64 E] else v k) k),rfl,p0.out,p1.out,p2.out,p3.out,p4.out,fun _=>rfl,p6.out,fun _=>rfl,p8.out,p9.out,p10.out,d5.out,d6.out,fun _=>f5,d9.out,q.out,hB.out⟩
   ·have hzw:w5.heap.size≤w.heap.size:=hB.out.size
    clear he
    refine wpOp_plainK rfl rfl (fun K HK=>?_)
    dsimp only
    go_simp
    have hb:Below w.heap.size w (w.alloc (.cells #[.int .i64 0,.int .i64 0,.int .i64 0,.int .i64 0,.slice none 0 0] 39)):=(Below.refl w.heap.size w).alloc (Nat.le_refl _) _
    exact HK.out _ _ ⟨w.heap.size,A4,n4,c4,(fun k=>if k=12 then .pointer (some ⟨w.heap.size,0,none⟩) else v k),rfl,p0.out,p1.out,p2.out,p3.out,fun h=>⟨(p4.out h).1,ownB.later (p4.out h).2 hb⟩,p5.out,p6.out,p7.out,fun _=>⟨rfl,hzw,(by rw [World.size_alloc];exact Nat.lt_succ_self _),fun _=>Arr.new w [.int .i64 0,.int .i64 0,.int .i64 0,.int .i64 0,.slice none 0 0] _⟩,fun h=>Bool.noConfusion (show true=false from (d9.out h).2.symm.trans hf),p10.out,d5.out,d6.out,d7.out,fun h=>⟨(d9.out h).1,rfl⟩,fun h4 _=>fun e=>Nat.lt_irrefl _ (World.ownsRow.lt (p4.out h4).2 _ e).2,hB.out.trans (Below.mono hb hzw)⟩
   ·have f6:f 6=true:=he 6 (by kernel_rfl)
    have f8:f 8=true:=he 8 (by kernel_rfl)
    have f4:=d5.out (d6.out f6)
    have r6:=p6.out f6
    obtain ⟨r8,hG1,hG2,hA⟩:=p8.out f8
    replace hA:=hA hf
    have s0:=hA.cell (k:=0) rfl
    have s1:=hA.cell (k:=1) rfl
    have s2:=hA.cell (k:=2) rfl
    have s3:=hA.cell (k:=3) rfl
    have s4:=hA.cell (k:=4) rfl
    have z0:=hA.frozen 0
    have z1:=hA.frozen 1
    have z2:=hA.frozen 2
    have z3:=hA.frozen 3
    have z4:=hA.frozen 4
    have hne:(Value.slice A4 n4 c4).ownBlock ≠ some G:=q.out f4 f8
    have hown:ownB (((((w.setCell ⟨G,0,none⟩ (.int .i64 sW)).setCell ⟨G,1,none⟩ (.int .i64 sH)).setCell ⟨G,2,none⟩ (.int .i64 sC)).setCell ⟨G,3,none⟩ (.int .i64 sD)).setCell ⟨G,4,none⟩ (.slice A4 n4 c4)) w5.heap.size (.slice A4 n4 c4) out:=(((((p4.out f4).2.far hne 0 _).far hne 1 _).far hne 2 _).far hne 3 _).far hne 4 _
    have harr:Arr (((((w.setCell ⟨G,0,none⟩ (.int .i64 sW)).setCell ⟨G,1,none⟩ (.int .i64 sH)).setCell ⟨G,2,none⟩ (.int .i64 sC)).setCell ⟨G,3,none⟩ (.int .i64 sD)).setCell ⟨G,4,none⟩ (.slice A4 n4 c4)) G [.int .i64 sW,.int .i64 sH,.int .i64 sC,.int .i64 sD,.slice A4 n4 c4]:=((((hA.set 0 _).set 1 _).set 2 _).set 3 _).set 4 _
    have hbw:Below w5.heap.size w5 (((((w.setCell ⟨G,0,none⟩ (.int .i64 sW)).setCell ⟨G,1,none⟩ (.int .i64 sH)).setCell ⟨G,2,none⟩ (.int .i64 sC)).setCell ⟨G,3,none⟩ (.int .i64 sD)).setCell ⟨G,4,none⟩ (.slice A4 n4 c4)):=((((hB.out.setCell (p:=⟨G,0,none⟩) hG1 _).setCell (p:=⟨G,1,none⟩) hG1 _).setCell (p:=⟨G,2,none⟩) hG1 _).setCell (p:=⟨G,3,none⟩) hG1 _).setCell (p:=⟨G,4,none⟩) hG1 _
    clear he
    refine wpOp_plainK rfl rfl (fun K HK=>?_)
    dsimp only
    rw [r6,r8]
    clear r6 r8
    go_simp
    exact HK.out _ _ ⟨G,A4,n4,c4,(fun k=>if k=34 then .agg #[.int .i64 sW,.int .i64 sH,.int .i64 sC,.int .i64 sD,.slice A4 n4 c4] else (fun k=>if k=12 then .pointer (some ⟨G,0,none⟩) else v k) k),rfl,p0.out,p1.out,p2.out,p3.out,fun h=>⟨(p4.out h).1,hown⟩,p5.out,fun _=>rfl,p7.out,fun _=>⟨rfl,hG1,(by simpa using hG2),fun h=>Bool.noConfusion (show true=false from h)⟩,fun _=>harr,p10.out,d5.out,d6.out,d7.out,fun _=>⟨f6,f8⟩,q.out,hbw⟩
   ·have r7:=p7.out (he 7 (by kernel_rfl))
    clear he
    refine wpOp_plainK rfl rfl (fun K HK=>?_)
    dsimp only
    rw [r7]
    clear r7
    go_simp
    exact HK.out _ _ ⟨G,A4,n4,c4,(fun k=>if k=13 then .int .i64 E else (fun k=>if k=35 then .int .i64 E else v k) k),rfl,p0.out,p1.out,p2.out,p3.out,p4.out,p5.out,p6.out,fun _=>rfl,p8.out,p9.out,fun _=>rfl,d5.out,d6.out,d7.out,d9.out,q.out,hB.out⟩
  ·intro f a w hall hI
   obtain ⟨G,A4,n4,c4,v,rfl,p0,p1,p2,p3,p4,p5,p6,p7,p8,p9,p10,d5,d6,d7,d9,q,hB⟩:=hI
   have g9:=hall 9 (by decide)
   have g8:=hall 8 (by decide)
   have g4:=hall 4 (by decide)
   have g10:=hall 10 (by decide)
   have FIN:Hid (v 12=.pointer (some ⟨G,0,none⟩)∧v 13=.int .i64 E∧w5.heap.size≤G∧ownB w w5.heap.size (.slice A4 n4 c4) out∧Arr w G [.int .i64 sW,.int .i64 sH,.int .i64 sC,.int .i64 sD,.slice A4 n4 c4]∧(Value.slice A4 n4 c4).ownBlock ≠ some G∧Below w5.heap.size w5 w):=(show _∧_ from ⟨(p8 g8).1,p10 g10,(p8 g8).2.1,(p4 g4).2,p9 g9,q g4 g8,hB⟩)
   clear p0 p1 p2 p3 p4 p5 p6 p7 p8 p9 p10 d5 d6 d7 d9 q hB hall g4 g8 g9 g10
   go_wp2_with fail
   go_meet
   case rel=>exact ⟨G,A4,n4,c4,FIN.out⟩
 case rest =>
 clear HQ5 HB5z hmN hcN HNC HUF HA5 HR5
 obtain ⟨G,A4,n4,c4,rfl,rfl,hG,ho4,hA4,hne4,hb4⟩:=hcut
 have HZ6:=Lib.hid (HZ5.out.blw hb4 (show bx+1 < w5.heap.size by omega))
 have HB6:=Lib.hid (HB5.out.trans (hb4.mono (by omega)))
 have s0:=hA4.cell (k:=0) rfl
 have s1:=hA4.cell (k:=1) rfl
 have s2:=hA4.cell (k:=2) rfl
 have s3:=hA4.cell (k:=3) rfl
 have s4:=hA4.cell (k:=4) rfl
 have z0:=HZ6.out.cell (k:=0) rfl
 have z1:=HZ6.out.cell (k:=1) rfl
 have z2:=HZ6.out.cell (k:=2) rfl
 have z3:=HZ6.out.cell (k:=3) rfl
 have z4:=HZ6.out.cell (k:=4) rfl
 have f0:=HZ6.out.frozen 0
 have f1:=HZ6.out.frozen 1
 have f2:=HZ6.out.frozen 2
 have f3:=HZ6.out.frozen 3
 have f4:=HZ6.out.frozen 4
 have hgn:¬ G=bx+1:=by omega
 have hgn2:¬ bx+1=G:=by omega
 have HO4:=Lib.hid ho4
 have hno:(Value.slice A4 n4 c4).ownBlock ≠ some (bx+1):=ownB_ne ho4 (by omega)
 have HNO:=Lib.hid hno
 clear hA4 ho4 hb4 hne4 hno
 rcases hE with hE0 | hE4
 ·have HEE:=Lib.hid hE0
  have hEt:(E != 0)=false:=by rw [hE0];rfl
  clear hE0
  go_wp2_with fail
  refine bodyPost_ret (v:=.tuple #[.agg #[.int .i64 sW,.int .i64 sH,.int .i64 sC,.int .i64 sD,.slice A4 n4 c4],.int .i64 0]) ?_ rfl ?_
  ·unfold results
   go_simp
  ·rw [HEE.out]
   exact ⟨_,rfl,(((((HO4.out.far HNO.out 0 _).far HNO.out 1 _).far HNO.out 2 _).far HNO.out 3 _).far HNO.out 4 _).mono (by omega),((((HB6.out.setCell (p:=⟨bx+1,0,none⟩) (Nat.le_succ _) _).setCell (p:=⟨bx+1,1,none⟩) (Nat.le_succ _) _).setCell (p:=⟨bx+1,2,none⟩) (Nat.le_succ _) _).setCell (p:=⟨bx+1,3,none⟩) (Nat.le_succ _) _).setCell (p:=⟨bx+1,4,none⟩) (Nat.le_succ _) _⟩
 ·have HEE:=Lib.hid hE4
  have hEt:(E != 0)=true:=by rw [hE4];rfl
  have HSS:=HS4.out hE4
  have HSH:=Lib.hid HSS
  clear hE4 HSS
  go_wp2_with fail
  refine bodyPost_ret (v:=.tuple #[.agg #[.int .i64 0,.int .i64 0,.int .i64 0,.int .i64 0,.slice none 0 0],.int .i64 E]) ?_ rfl ?_
  ·unfold results
   go_simp
  ·obtain ⟨rfl,rfl,rfl,rfl,rfl⟩:=HSH.out
   exact ⟨_,rfl,ownB.nil_ _ _,((((HB6.out.setCell (p:=⟨bx+1,0,none⟩) (Nat.le_succ _) _).setCell (p:=⟨bx+1,1,none⟩) (Nat.le_succ _) _).setCell (p:=⟨bx+1,2,none⟩) (Nat.le_succ _) _).setCell (p:=⟨bx+1,3,none⟩) (Nat.le_succ _) _).setCell (p:=⟨bx+1,4,none⟩) (Nat.le_succ _) _⟩
end Go.Proofs.YtebbdifhiihfkaaGreatDoor

/- A region that draws its order and appends: one append. -/
namespace Go.Proofs.YtebbdifhiihfkaaGreatDoor
set_option linter.all false
open Go.RowKit
theorem wpOp_appendA {w:World} {ops:Array Oper} {i:Nat} {o:Oper} {a:Act} {K:Act→World→Prop} {Q:Exit→Act→World→Prop} (hi:ops[i]?=some o) (hgd:o.guard=none) (s x:Operand)
  (ho:o.op=.call { callee:=.builtin .append,args:=#[s,x],argTypes:=#[22,22] })
  (base:Nat) (v:Value) (bs:List UInt8) (hs:a.eval s=v) (hown:ownB w base v bs) (B m c:Nat) (A:Option Addr) (news:List UInt8) (hx:a.eval x=.slice A m c) (hr:RdB w B A m news)
  (hb:bs.length+m≤140737488355328) (hbase:base≤w.heap.size)
  (h:∀ v' w',ownB w' base v' (bs ++ news)→w.grownBy w' v.ownBlock→Below base w w'→(v'.ownBlock=v.ownBlock∨v'.ownBlock=some w.heap.size)→K (a.put o.dst v') w') :
  wpOp Tryz.prog ops Q i K a w:=wpOp_plain hi hgd (by
 have h1:=step_appendB (E:=False) (Q:=Q) (ops:=ops) hgd s x ho base v bs hs hown B m c A news hx hr hb hbase (fun v' w' a b c d=>h v' w' a b c d)
 have hw:Region.wanted o (yielded ops a.tmps)=true:=by simp [Region.wanted,hgd]
 rwa [if_pos hw] at h1)
end Go.Proofs.YtebbdifhiihfkaaGreatDoor

/- Regions that draw their order: an operation with a guard; the values that have come up as one function. -/
namespace Go.Proofs.YtebbdifhiihfkaaGreatDoor
set_option linter.all false
open Go.RowKit
/-- An operation whose guard is met (or that has none). -/
theorem wpOp_wantK {P:Program} {ops:Array Oper} {Q:Exit→Act→World→Prop} {i:Nat} {K0:Act→World→Prop} {a:Act} {w:World} {o:Oper} (ho:ops[i]?=some o) (hw:Region.wanted o (yielded ops a.tmps)=true)
  (h:∀ K:Act→World→Prop,Hid (∀ a w,K0 a w→K a w)→o.wp P a w K Q):wpOp P ops Q i K0 a w:=by
 unfold wpOp
 rw [ho]
 simp only
 rw [if_pos hw]
 exact .inl (h K0 (fun _ _ h=>h))
theorem okU {f:Nat→Bool} {v val:Nat→Value} (h:∀ j,f j=true→v j=val j) (i:Nat):∀ j,(fun j=>if j=i then true else f j) j=true→(fun j=>if j=i then val i else v j) j=val j:=by
 intro j hj
 by_cases e:j=i
 ·subst e;simp
 ·simp only [if_neg e] at hj ⊢
  exact h j hj
theorem okD {f:Nat→Bool} {v val:Nat→Value} (h:∀ j,f j=true→v j=val j) (d:Nat):∀ j,f j=true→(fun j=>if j=d then val d else v j) j=val j:=by
 intro j hj
 by_cases e:j=d
 ·subst e;simp
 ·simp only [if_neg e]
  exact h j hj
end Go.Proofs.YtebbdifhiihfkaaGreatDoor

