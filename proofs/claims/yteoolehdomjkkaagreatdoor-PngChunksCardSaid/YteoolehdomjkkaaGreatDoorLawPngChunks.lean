/- The statement PngChunks: for every input the Go function aqulaw13.PngChunks returns true and leaves what was there as it was. -/
import Derived.Test.YteoolehdomjkkaaGreatDoorMf09
import Derived.Test.YteoolehdomjkkaaGreatDoorMf49
import Derived.Test.YteoolehdomjkkaaGreatDoorCards
import Derived.Test.YteoolehdomjkkaaGreatDoorTie
import Derived.LaidMore
import Derived.LaidLaws
import Derived.LaidHandle
import Derived.SevenTiedAt
namespace Go.Proofs.YteoolehdomjkkaaGreatDoor.lawPngChunks
set_option linter.all false
open Go.ChangeShapes Go.WideShapes Go.ChangeAt Go.RowKit Go.Proofs.YteoolehdomjkkaaGreatDoor
open Go.ChangeMaps (open_string shut_string)
def laidX:List (String × DataW Unit):=[("bytes.ErrTooLarge",Rows.laid_bytes_ErrTooLarge)]
theorem door_met (os:Os) (args:Array Value):laidMetH Tryz.prog laidX ((World.doorLaid Tryz.prog 400 os).forCall (fun _ _=>0) ⟨#[],args,[]⟩).memory :=
 laidMetH_of_parts (laidMet_of_run' 8 (by kernel_rfl) (by kernel_rfl)) (by kernel_rfl)
set_option maxRecDepth 100000 in
theorem lifted (os:Os) (started:os.Started) (H:Type) (enc:TypeId × Value→H) :
  ReturnsInHanded {} Tryz.checked os 4 .any (fun w args=>(Rows.pngChunksSpec.pre enc Tryz.prog Tryz.f4 [] false w args∧laidMetH Tryz.prog laidX w)∧sizedMet enc Tryz.prog Tryz.f4 (OpenSpec.ofChange Rows.pngChunksSpec) false w args) (Rows.pngChunksSpec.post enc Tryz.prog Tryz.f4 false true false false):=by
 refine returnsInHanded_of_change_and (C:=Tryz.checked) (X:=fun w _=>laidMetH Tryz.prog laidX w) (fun _ _ _ hh h=>h.of_heap hh) own started (by kernel_rfl) Tryz.func4
  (ChangeSpec.witness_shaped (enc:=enc) (C:=Tryz.checked) (os:=os) (X:=fun w _=>laidMetH Tryz.prog laidX w) false (World.doorLaid Tryz.prog 400 os) #[.agg #[.int .i64 0,.int .i64 0,.int .i64 0,.int .i64 0,.slice none 0 0],.slice none 0 0,.int .u8 0] 8 rfl (World.shaped_of_RefB (by kernel_rfl) (by kernel_rfl)) (by kernel_rfl) (by kernel_rfl) (by kernel_rfl) (door_met os _)) ?_
 intro W base args ds gs before hval0 hW _ _ _ _
 have hval:∀ (j:Nat) t v,Tryz.f4.params[j]?=some t→args[j]?=some v→Value.okWide Tryz.prog W .any base t v:=hval0
 have hW':=hW
 obtain ⟨p,q,hA0,hV,rfl,hfz,hnd⟩:=hW
 have hA:DataW.TrodAll enc Tryz.prog W 0 (fun _=>true) true Tryz.f4.params.toList args.toList ds p:=hA0
 rw [Tryz.params4] at hA hval
 obtain ⟨v0,vs0,d0,ds0,p0,q0,hargs,rfl,rfl,h0,tr0⟩:=trodAll_cons hA
 obtain ⟨v1,vs1,d1,ds1,p1,q1,rfl,rfl,rfl,h1,tr1⟩:=trodAll_cons tr0
 obtain ⟨v2,vs2,d2,ds2,p2,q2,rfl,rfl,rfl,h2,tr2⟩:=trodAll_cons tr1
 obtain ⟨rfl,rfl,rfl⟩:=trodAll_nil tr2
 obtain rfl:args=#[v0,v1,v2]:=by cases args;simp_all
 obtain ⟨rfl,rfl⟩:=trodVars_none hV
 have k0:=h0
 have lt0:∀ x ∈ p0,x.block < W.heap.size:=by obtain ⟨m,hm⟩:=k0;exact DataW.trod_lt m _ _ _ hm
 obtain ⟨s0,a0,n0,c0,z0,rfl,r0,l0,m0⟩:=open_raster (hval 0 39 v0 rfl rfl) k0
 obtain ⟨a1,n1,c1,rfl⟩:=okWide_slice Tryz.underlying22 (hval 1 22 v1 rfl rfl)
 have k1:=h1
 have lt1:∀ x ∈ p1,x.block < W.heap.size:=by obtain ⟨m,hm⟩:=k1;exact DataW.trod_lt m _ _ _ hm
 obtain ⟨z1,r1,l1,m1⟩:=open_bytes k1
 obtain ⟨x2,rfl,rfl,rfl,f2⟩:=open_int Tryz.underlying5 (hval 2 5 v2 rfl rfl) h2
 have b2:=bounds_u8 f2
 obtain ⟨u2,rfl⟩:∃ u:UInt8,x2=(u.toNat:Int):=⟨UInt8.ofNat x2.toNat,(u8_back x2 f2).symm⟩
 clear hA0 hval0
 refine (pngChunks_walk s0 a0 n0 c0 z0 a1 n1 c1 z1 u2 W r0 l0 r1).mono fun e W' ⟨he,bel⟩=>?_
 subst he
 exact ⟨_,rfl,_,_,_,[],_,[],hW',trodAll_mk1 (shut_bool Tryz.underlying4 _),(trodAll_cons_mk (Below.trod laidOut (by kernel_rfl) (of_decide_eq_true (by kernel_rfl)) k0 bel lt0) (trodAll_cons_mk (Below.trod laidOut (by kernel_rfl) (of_decide_eq_true (by kernel_rfl)) k1 bel lt1) (trodAll_cons_mk (shut_int Tryz.underlying5 f2) trodAll_mk0))),rfl,bel.frame _,fun h=>by cases h⟩
theorem over:Rows.pngChunksRow.holds Tryz.pinned (OpenSpec.ofChange Rows.pngChunksSpec) :=
 OpenClaim.holds_of_wide 4 Tryz.f4 rfl rfl rfl rfl rfl rfl rfl ⟨rfl,rfl,rfl,rfl,rfl⟩ rfl rfl rfl rfl rfl (by kernel_rfl) Tryz.func4 (by kernel_rfl)
  (of_decide_eq_true (by kernel_rfl)) (by unfold Func.isWrapper;first | (rw [if_pos (by decide +kernel)];kernel_rfl) | (rw [if_neg (by decide +kernel)];exact ⟨rfl,rfl⟩))
  (fun os started H enc _=>lifted os started H enc)
theorem card:Rows.PngChunksCardSaid :=
 Claim7.holds_tied_plain_at .later [] [.sentinel] true (true,"14fa010a5b9b5df0bf82c23dc4a93122f40ec1867a009b432f0b738ea14cb647") false
  over (fun _ h=>by cases h) (by kernel_rfl) (fun _ h=>by cases h) pngChunks_row_tie rfl ⟨rfl,rfl⟩ (by kernel_rfl) rfl
  (fun f fn hf hfn=>by
   obtain rfl:f=4:=Option.some.inj ((show Tryz.prog.funcNamed "aquatint/aqulaw13.PngChunks"=some 4 by kernel_rfl).symm.trans hf) |>.symm
   obtain rfl:fn=Tryz.f4:=(Option.some.inj (Tryz.func4.symm.trans hfn)).symm
   exact ⟨by kernel_rfl,fun j t ht=>by
    rw [Tryz.params4] at ht
    have hm:t ∈ [39,22,5]:=by simpa using Array.mem_of_getElem? ht
    have hall:([39,22,5].all fun u=>!Tryz.prog.wantsStandIn u)=true:=by kernel_rfl
    exact (show Tryz.prog.wantsStandIn t=false by simpa using List.all_eq_true.1 hall t hm)⟩)
  (by kernel_rfl)
theorem proved:Rows.PngChunksCardSaid:=card
#print axioms proved
end Go.Proofs.YteoolehdomjkkaaGreatDoor.lawPngChunks
