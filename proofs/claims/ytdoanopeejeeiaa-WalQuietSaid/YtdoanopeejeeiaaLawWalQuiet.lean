/- The statement WalQuiet: for every input the Go function aqulaw15.WalQuiet returns true and leaves what was there as it was. -/
import Derived.Test.YtdoanopeejeeiaaMj43
import Derived.Test.YtdoanopeejeeiaaMj49
import Derived.Test.YtdoanopeejeeiaaMj12
namespace Go.Proofs.Ytdoanopeejeeiaa.lawWalQuiet
set_option linter.all false
open Go.ChangeShapes Go.WideShapes Go.ChangeAt Go.RowKit Go.Proofs.Ytdoanopeejeeiaa
open Go.ChangeMaps (open_string shut_string)
set_option maxRecDepth 100000 in
theorem lifted (os:Os) (started:os.Started) (H:Type) (enc:TypeId × Value→H) :
  ReturnsInHanded {} Try.checked os 4 .any (Rows.walQuietSpec.pre6 enc Try.prog Try.f4 Rows.walQuietRow.domain false) (Rows.walQuietSpec.post enc Try.prog Try.f4 false true false false):=by
 refine returnsInHanded_of_change (C:=Try.checked) own started (by kernel_rfl) Try.func4
  (ChangeSpec.witness6 (enc:=enc) (C:=Try.checked) false ⟨#[],#[.int .i64 0,.int .i64 0,.slice none 0 0,.int .i64 0,.slice none 0 0],[]⟩ 8 (by kernel_rfl) (by kernel_rfl) (by kernel_rfl) (by kernel_rfl)) ?_
 intro W base args ds gs before hval0 hW hcnd _
 have hval:∀ (j:Nat) t v,Try.f4.params[j]?=some t→args[j]?=some v→Value.okWide Try.prog W .any base t v:=hval0
 have hW':=hW
 obtain ⟨p,q,hA0,hV,rfl,hfz,hnd⟩:=hW
 have hA:DataW.TrodAll enc Try.prog W 0 (fun _=>true) true Try.f4.params.toList args.toList ds p:=hA0
 rw [Try.params4] at hA hval
 obtain ⟨v0,vs0,d0,ds0,p0,q0,hargs,rfl,rfl,h0,tr0⟩:=trodAll_cons hA
 obtain ⟨v1,vs1,d1,ds1,p1,q1,rfl,rfl,rfl,h1,tr1⟩:=trodAll_cons tr0
 obtain ⟨v2,vs2,d2,ds2,p2,q2,rfl,rfl,rfl,h2,tr2⟩:=trodAll_cons tr1
 obtain ⟨v3,vs3,d3,ds3,p3,q3,rfl,rfl,rfl,h3,tr3⟩:=trodAll_cons tr2
 obtain ⟨v4,vs4,d4,ds4,p4,q4,rfl,rfl,rfl,h4,tr4⟩:=trodAll_cons tr3
 obtain ⟨rfl,rfl,rfl⟩:=trodAll_nil tr4
 obtain rfl:args=#[v0,v1,v2,v3,v4]:=by cases args;simp_all
 obtain ⟨rfl,rfl⟩:=trodVars_none hV
 obtain ⟨x0,rfl,rfl,rfl,f0⟩:=open_int Try.underlying3 (hval 0 3 v0 rfl rfl) h0
 have b0:=bounds_i64 f0
 obtain ⟨x1,rfl,rfl,rfl,f1⟩:=open_int Try.underlying3 (hval 1 3 v1 rfl rfl) h1
 have b1:=bounds_i64 f1
 obtain ⟨a2,n2,c2,rfl⟩:=okWide_slice Try.underlying22 (hval 2 22 v2 rfl rfl)
 have k2:=h2
 have lt2:∀ x ∈ p2,x.block < W.heap.size:=by obtain ⟨m,hm⟩:=k2;exact DataW.trod_lt m _ _ _ hm
 obtain ⟨z2,r2,l2,m2⟩:=open_sets k2
 obtain ⟨x3,rfl,rfl,rfl,f3⟩:=open_int Try.underlying3 (hval 3 3 v3 rfl rfl) h3
 have b3:=bounds_i64 f3
 obtain ⟨a4,n4,c4,rfl⟩:=okWide_slice Try.underlying36 (hval 4 36 v4 rfl rfl)
 have k4:=h4
 have lt4:∀ x ∈ p4,x.block < W.heap.size:=by obtain ⟨m,hm⟩:=k4;exact DataW.trod_lt m _ _ _ hm
 obtain ⟨z4,r4,l4,m4⟩:=open_bytes k4
 clear hA0 hval0
 refine (walQuiet_walk x0 x1 a2 n2 c2 z2 x3 a4 n4 c4 z4 W r2 r4 b3.2).mono fun e W' ⟨he,bel⟩=>?_
 subst he
 exact ⟨_,rfl,_,_,_,[],_,[],hW',trodAll_mk1 (shut_bool Try.underlying4 _),(trodAll_cons_mk (shut_int Try.underlying3 f0) (trodAll_cons_mk (shut_int Try.underlying3 f1) (trodAll_cons_mk (Below.trod laidOut (by kernel_rfl) (of_decide_eq_true (by kernel_rfl)) k2 bel lt2) (trodAll_cons_mk (shut_int Try.underlying3 f3) (trodAll_cons_mk (Below.trod laidOut (by kernel_rfl) (of_decide_eq_true (by kernel_rfl)) k4 bel lt4) trodAll_mk0))))),rfl,bel.frame _,fun h=>by cases h⟩
theorem over:Rows.walQuietRow.holds Try.pinned (OpenSpec.ofChange Rows.walQuietSpec) :=
 OpenClaim.holds_of_wide 4 Try.f4 rfl rfl rfl rfl rfl rfl rfl ⟨rfl,rfl,rfl,rfl,rfl⟩ rfl rfl rfl rfl rfl (by kernel_rfl) Try.func4 (by kernel_rfl)
  (of_decide_eq_true (by kernel_rfl)) (by unfold Func.isWrapper;first | (rw [if_pos (by decide +kernel)];kernel_rfl) | (rw [if_neg (by decide +kernel)];exact ⟨rfl,rfl⟩))
  (fun os started H enc _=>lifted os started H enc)
theorem proved:Rows.WalQuietSaid:=over
#print axioms proved
end Go.Proofs.Ytdoanopeejeeiaa.lawWalQuiet
