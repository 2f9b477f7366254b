/- The statement WalAtomic: for every input the Go function aqulaw15.WalAtomic returns true and leaves what was there as it was. -/
import Derived.Test.YtdoanopeejeeiaaMk43
import Derived.Test.YtdoanopeejeeiaaMk46
import Derived.Test.YtdoanopeejeeiaaMk49
import Derived.Test.YtdoanopeejeeiaaMk12
namespace Go.Proofs.Ytdoanopeejeeiaa.lawWalAtomic
set_option linter.all false
open Go.ChangeShapes Go.WideShapes Go.ChangeAt Go.RowKit Go.Proofs.Ytdoanopeejeeiaa
open Go.ChangeMaps (open_string shut_string)
set_option maxRecDepth 100000 in
theorem lifted (os:Os) (started:os.Started) (H:Type) (enc:TypeId × Value→H) :
  ReturnsInHanded {} Try.checked os 5 .any (Rows.walAtomicSpec.pre6 enc Try.prog Try.f5 Rows.walAtomicRow.domain false) (Rows.walAtomicSpec.post enc Try.prog Try.f5 false true false false):=by
 refine returnsInHanded_of_change (C:=Try.checked) own started (by kernel_rfl) Try.func5
  (ChangeSpec.witness6 (enc:=enc) (C:=Try.checked) false ⟨#[],#[.int .i64 0,.int .i64 0,.slice none 0 0,.agg #[.slice none 0 0,.slice none 0 0],.int .i64 0,.slice none 0 0,.slice none 0 0,.slice none 0 0],[]⟩ 8 (by kernel_rfl) (by kernel_rfl) (by kernel_rfl) (by kernel_rfl)) ?_
 intro W base args ds gs before hval0 hW hcnd _
 have hval:∀ (j:Nat) t v,Try.f5.params[j]?=some t→args[j]?=some v→Value.okWide Try.prog W .any base t v:=hval0
 have hW':=hW
 obtain ⟨p,q,hA0,hV,rfl,hfz,hnd⟩:=hW
 have hA:DataW.TrodAll enc Try.prog W 0 (fun _=>true) true Try.f5.params.toList args.toList ds p:=hA0
 rw [Try.params5] at hA hval
 obtain ⟨v0,vs0,d0,ds0,p0,q0,hargs,rfl,rfl,h0,tr0⟩:=trodAll_cons hA
 obtain ⟨v1,vs1,d1,ds1,p1,q1,rfl,rfl,rfl,h1,tr1⟩:=trodAll_cons tr0
 obtain ⟨v2,vs2,d2,ds2,p2,q2,rfl,rfl,rfl,h2,tr2⟩:=trodAll_cons tr1
 obtain ⟨v3,vs3,d3,ds3,p3,q3,rfl,rfl,rfl,h3,tr3⟩:=trodAll_cons tr2
 obtain ⟨v4,vs4,d4,ds4,p4,q4,rfl,rfl,rfl,h4,tr4⟩:=trodAll_cons tr3
 obtain ⟨v5,vs5,d5,ds5,p5,q5,rfl,rfl,rfl,h5,tr5⟩:=trodAll_cons tr4
 obtain ⟨v6,vs6,d6,ds6,p6,q6,rfl,rfl,rfl,h6,tr6⟩:=trodAll_cons tr5
 obtain ⟨v7,vs7,d7,ds7,p7,q7,rfl,rfl,rfl,h7,tr7⟩:=trodAll_cons tr6
 obtain ⟨rfl,rfl,rfl⟩:=trodAll_nil tr7
 obtain rfl:args=#[v0,v1,v2,v3,v4,v5,v6,v7]:=by cases args;simp_all
 obtain ⟨rfl,rfl⟩:=trodVars_none hV
 obtain ⟨x0,rfl,rfl,rfl,f0⟩:=open_int Try.underlying3 (hval 0 3 v0 rfl rfl) h0
 have b0:=bounds_i64 f0
 obtain ⟨x1,rfl,rfl,rfl,f1⟩:=open_int Try.underlying3 (hval 1 3 v1 rfl rfl) h1
 have b1:=bounds_i64 f1
 obtain ⟨a2,n2,c2,rfl⟩:=okWide_slice Try.underlying22 (hval 2 22 v2 rfl rfl)
 have k2:=h2
 have lt2:∀ x ∈ p2,x.block < W.heap.size:=by obtain ⟨m,hm⟩:=k2;exact DataW.trod_lt m _ _ _ hm
 obtain ⟨z2,r2,l2,m2⟩:=open_sets k2
 have k3:=h3
 have lt3:∀ x ∈ p3,x.block < W.heap.size:=by obtain ⟨m,hm⟩:=k3;exact DataW.trod_lt m _ _ _ hm
 obtain ⟨a3,n3,c3,e3,m3,g3,z3,y3,rfl,r3,t3,w3⟩:=open_set (hval 3 38 v3 rfl rfl) k3
 obtain ⟨x4,rfl,rfl,rfl,f4⟩:=open_int Try.underlying3 (hval 4 3 v4 rfl rfl) h4
 have b4:=bounds_i64 f4
 obtain ⟨a5,n5,c5,rfl⟩:=okWide_slice Try.underlying36 (hval 5 36 v5 rfl rfl)
 have k5:=h5
 have lt5:∀ x ∈ p5,x.block < W.heap.size:=by obtain ⟨m,hm⟩:=k5;exact DataW.trod_lt m _ _ _ hm
 obtain ⟨z5,r5,l5,m5⟩:=open_bytes k5
 obtain ⟨a6,n6,c6,rfl⟩:=okWide_slice Try.underlying35 (hval 6 35 v6 rfl rfl)
 have k6:=h6
 have lt6:∀ x ∈ p6,x.block < W.heap.size:=by obtain ⟨m,hm⟩:=k6;exact DataW.trod_lt m _ _ _ hm
 obtain ⟨z6,r6,l6,m6,w6⟩:=open_intw k6
 obtain ⟨a7,n7,c7,rfl⟩:=okWide_slice Try.underlying33 (hval 7 33 v7 rfl rfl)
 have k7:=h7
 have lt7:∀ x ∈ p7,x.block < W.heap.size:=by obtain ⟨m,hm⟩:=k7;exact DataW.trod_lt m _ _ _ hm
 obtain ⟨z7,r7,l7,m7⟩:=open_rowsB k7
 clear hA0 hval0
 refine (walAtomic_walk x0 x1 a2 n2 c2 z2 a3 e3 n3 c3 m3 g3 z3 y3 x4 a5 n5 c5 z5 a6 n6 c6 z6 a7 n7 c7 z7 W r2 r3 t3 w3 r5 r6 w6 r7).mono fun e W' ⟨he,bel⟩=>?_
 subst he
 exact ⟨_,rfl,_,_,_,[],_,[],hW',trodAll_mk1 (shut_bool Try.underlying4 _),(trodAll_cons_mk (shut_int Try.underlying3 f0) (trodAll_cons_mk (shut_int Try.underlying3 f1) (trodAll_cons_mk (Below.trod laidOut (by kernel_rfl) (of_decide_eq_true (by kernel_rfl)) k2 bel lt2) (trodAll_cons_mk (Below.trod laidOut (by kernel_rfl) (of_decide_eq_true (by kernel_rfl)) k3 bel lt3) (trodAll_cons_mk (shut_int Try.underlying3 f4) (trodAll_cons_mk (Below.trod laidOut (by kernel_rfl) (of_decide_eq_true (by kernel_rfl)) k5 bel lt5) (trodAll_cons_mk (Below.trod laidOut (by kernel_rfl) (of_decide_eq_true (by kernel_rfl)) k6 bel lt6) (trodAll_cons_mk (Below.trod laidOut (by kernel_rfl) (of_decide_eq_true (by kernel_rfl)) k7 bel lt7) trodAll_mk0)))))))),rfl,bel.frame _,fun h=>by cases h⟩
theorem over:Rows.walAtomicRow.holds Try.pinned (OpenSpec.ofChange Rows.walAtomicSpec) :=
 OpenClaim.holds_of_wide 5 Try.f5 rfl rfl rfl rfl rfl rfl rfl ⟨rfl,rfl,rfl,rfl,rfl⟩ rfl rfl rfl rfl rfl (by kernel_rfl) Try.func5 (by kernel_rfl)
  (of_decide_eq_true (by kernel_rfl)) (by unfold Func.isWrapper;first | (rw [if_pos (by decide +kernel)];kernel_rfl) | (rw [if_neg (by decide +kernel)];exact ⟨rfl,rfl⟩))
  (fun os started H enc _=>lifted os started H enc)
theorem proved:Rows.WalAtomicSaid:=over
#print axioms proved
end Go.Proofs.Ytdoanopeejeeiaa.lawWalAtomic
