/- The statement PngHeads: for every input the Go function aqulaw13.PngHeads returns true and leaves what was there as it was. -/
import Derived.Test.YtebbdifhiihfkaaGreatDoorMh09
import Derived.Test.YtebbdifhiihfkaaGreatDoorMh49
import Derived.Test.YtebbdifhiihfkaaGreatDoorCards
import Derived.Test.YtebbdifhiihfkaaGreatDoorTie
import Derived.LaidMore
import Derived.LaidLaws
import Derived.LaidHandle
import Derived.SevenTiedAt
namespace Go.Proofs.YtebbdifhiihfkaaGreatDoor.lawPngHeads
set_option linter.all false
open Go.ChangeShapes Go.WideShapes Go.ChangeAt Go.RowKit Go.Proofs.YtebbdifhiihfkaaGreatDoor
open Go.ChangeMaps (open_string shut_string)
def laidX:List (String × DataW Unit):=[("bytes.ErrTooLarge",Rows.laid_bytes_ErrTooLarge)]
theorem door_met (os:Os) (args:Array Value):laidMetH Tryz.prog laidX ((World.doorLaid Tryz.prog 400 os).forCall (fun _ _=>0) ⟨#[],args,[]⟩).memory :=
 laidMetH_of_parts (laidMet_of_run' 8 (by kernel_rfl) (by kernel_rfl)) (by kernel_rfl)
set_option maxRecDepth 100000 in
theorem lifted (os:Os) (started:os.Started) (H:Type) (enc:TypeId × Value→H) :
  ReturnsInHanded {} Tryz.checked os 6 .any (fun w args=>(Rows.pngHeadsSpec.pre enc Tryz.prog Tryz.f6 [] false w args∧laidMetH Tryz.prog laidX w)∧sizedMet enc Tryz.prog Tryz.f6 (OpenSpec.ofChange Rows.pngHeadsSpec) false w args) (Rows.pngHeadsSpec.post enc Tryz.prog Tryz.f6 false true false false):=by
 refine returnsInHanded_of_change_and (C:=Tryz.checked) (X:=fun w _=>laidMetH Tryz.prog laidX w) (fun _ _ _ hh h=>h.of_heap hh) own started (by kernel_rfl) Tryz.func6
  (ChangeSpec.witness_shaped (enc:=enc) (C:=Tryz.checked) (os:=os) (X:=fun w _=>laidMetH Tryz.prog laidX w) false (World.doorLaid Tryz.prog 400 os) #[.agg #[.int .i64 0,.int .i64 0,.int .i64 0,.int .i64 0,.slice none 0 0],.int .i64 0] 8 rfl (World.shaped_of_RefB (by kernel_rfl) (by kernel_rfl)) (by kernel_rfl) (by kernel_rfl) (by kernel_rfl) (door_met os _)) ?_
 intro W base args ds gs before hval0 hW _ _ _ _
 have hval:∀ (j:Nat) t v,Tryz.f6.params[j]?=some t→args[j]?=some v→Value.okWide Tryz.prog W .any base t v:=hval0
 have hW':=hW
 obtain ⟨p,q,hA0,hV,rfl,hfz,hnd⟩:=hW
 have hA:DataW.TrodAll enc Tryz.prog W 0 (fun _=>true) true Tryz.f6.params.toList args.toList ds p:=hA0
 rw [Tryz.params6] at hA hval
 obtain ⟨v0,vs0,d0,ds0,p0,q0,hargs,rfl,rfl,h0,tr0⟩:=trodAll_cons hA
 obtain ⟨v1,vs1,d1,ds1,p1,q1,rfl,rfl,rfl,h1,tr1⟩:=trodAll_cons tr0
 obtain ⟨rfl,rfl,rfl⟩:=trodAll_nil tr1
 obtain rfl:args=#[v0,v1]:=by cases args;simp_all
 obtain ⟨rfl,rfl⟩:=trodVars_none hV
 have k0:=h0
 have lt0:∀ x ∈ p0,x.block < W.heap.size:=by obtain ⟨m,hm⟩:=k0;exact DataW.trod_lt m _ _ _ hm
 obtain ⟨s0,a0,n0,c0,z0,rfl,r0,l0,m0⟩:=open_raster (hval 0 39 v0 rfl rfl) k0
 obtain ⟨x1,rfl,rfl,rfl,f1⟩:=open_int Tryz.underlying3 (hval 1 3 v1 rfl rfl) h1
 have b1:=bounds_i64 f1
 clear hA0 hval0
 refine (pngHeads_walk s0 a0 n0 c0 z0 x1 W r0 l0).mono fun e W' ⟨he,bel⟩=>?_
 subst he
 exact ⟨_,rfl,_,_,_,[],_,[],hW',trodAll_mk1 (shut_bool Tryz.underlying4 _),(trodAll_cons_mk (Below.trod laidOut (by kernel_rfl) (of_decide_eq_true (by kernel_rfl)) k0 bel lt0) (trodAll_cons_mk (shut_int Tryz.underlying3 f1) trodAll_mk0)),rfl,bel.frame _,fun h=>by cases h⟩
theorem over:Rows.pngHeadsRow.holds Tryz.pinned (OpenSpec.ofChange Rows.pngHeadsSpec) :=
 OpenClaim.holds_of_wide 6 Tryz.f6 rfl rfl rfl rfl rfl rfl rfl ⟨rfl,rfl,rfl,rfl,rfl⟩ rfl rfl rfl rfl rfl (by kernel_rfl) Tryz.func6 (by kernel_rfl)
  (of_decide_eq_true (by kernel_rfl)) (by unfold Func.isWrapper;first | (rw [if_pos (by decide +kernel)];kernel_rfl) | (rw [if_neg (by decide +kernel)];exact ⟨rfl,rfl⟩))
  (fun os started H enc _=>lifted os started H enc)
theorem card:Rows.PngHeadsCardSaid :=
 Claim7.holds_tied_plain_at .later [] [.sentinel] true (true,"14fa010a5b9b5df0bf82c23dc4a93122f40ec1867a009b432f0b738ea14cb647") false
  over (fun _ h=>by cases h) (by kernel_rfl) (fun _ h=>by cases h) pngHeads_row_tie rfl ⟨rfl,rfl⟩ (by kernel_rfl) rfl
  (fun f fn hf hfn=>by
   obtain rfl:f=6:=Option.some.inj ((show Tryz.prog.funcNamed "aquatint/aqulaw13.PngHeads"=some 6 by kernel_rfl).symm.trans hf) |>.symm
   obtain rfl:fn=Tryz.f6:=(Option.some.inj (Tryz.func6.symm.trans hfn)).symm
   exact ⟨by kernel_rfl,fun j t ht=>by
    rw [Tryz.params6] at ht
    have hm:t ∈ [39,3]:=by simpa using Array.mem_of_getElem? ht
    have hall:([39,3].all fun u=>!Tryz.prog.wantsStandIn u)=true:=by kernel_rfl
    exact (show Tryz.prog.wantsStandIn t=false by simpa using List.all_eq_true.1 hall t hm)⟩)
  (by kernel_rfl)
theorem proved:Rows.PngHeadsCardSaid:=card
#print axioms proved
end Go.Proofs.YtebbdifhiihfkaaGreatDoor.lawPngHeads
