/- XFrame XOpenR -/
import Derived.Test.YteoolehdomjkkaaGreatMe01
import Derived.Test.YteoolehdomjkkaaGreatMe03
import Derived.ProofKit
import Derived.OpenShut
import Derived.ShutString
import Derived.ChangeOld
namespace Go.Proofs.YteoolehdomjkkaaGreat
set_option linter.all false
open Go.ChangeShapes Go.WideShapes Go.ChangeAt Go.RowKit
open Go.ChangeMaps (open_string shut_string)
theorem own:ownKnob Tryz.prog.godebug=none:=by kernel_rfl
theorem laidOut:laidOutB Tryz.prog=true:=by kernel_rfl
theorem u8_back (z:Int) (h:(Lit.int .u8 z).wf=true):((UInt8.ofNat z.toNat).toNat:Int)=z:=by
 have b:=bounds_u8 h
 rw [UInt8.toNat_ofNat']
 omega
theorem open_bytes {H:Type} {enc:TypeId × Value→H} {W:World} {sp:Nat→Bool} {held:Bool} {a:Option Addr} {n c:Nat} {d:DataW H} {p:List MemPlace}
  (h:DataW.Trod enc Tryz.prog W 0 sp held 24 (.slice a n c) d p):∃ bs,RdB W W.heap.size a n bs∧n≤c∧c≤maxLen:=by
 obtain ⟨fuel,hf⟩:=h
 rcases open_ints Tryz.underlying24 Tryz.underlying5 (by kernel_rfl) hf with ⟨hcs,_⟩ | ⟨x,l,cc,zs,hcs,_,hl,hm,hz,_,hcell,hwz⟩
 ·simp [Value.cells] at hcs
  obtain ⟨rfl,rfl,rfl⟩:=hcs
  exact ⟨[],Rd.none_,by omega,by simp⟩
 ·simp [Value.cells] at hcs
  obtain ⟨rfl,rfl,rfl⟩:=hcs
  have hzn:n≤zs.length:=by rw [hz];split <;> omega
  refine ⟨(zs.take n).map fun z=>UInt8.ofNat z.toNat,⟨by simp [cb];omega,fun hn=>?_⟩,hl,hm⟩
  have h0:=hcell 0 (by omega)
  obtain ⟨b,o,spot⟩:=x
  have hspot:spot=none:=by simpa [Addr.add] using World.cell?_spot h0
  subst hspot
  refine ⟨b,o,rfl,?_,fun j u hu=>?_⟩
  ·have:=block_lt_of_cell h0
   simpa [add_none] using this
  ·have hj:j < n:=by
    have:=(List.getElem?_eq_some_iff.1 hu).1
    simp [cb] at this
    omega
   have hc:=hcell j (by omega)
   rw [add_none] at hc
   rw [hc]
   have hw:=hwz (zs[j]'(by omega)) (List.getElem_mem _)
   simp [cb,List.getElem?_take,hj,List.getElem?_eq_getElem (show j < zs.length by omega)] at hu
   rw [← hu]
   have:=u8_back _ hw
   rw [UInt8.toNat_ofNat'] at this
   simp [List.getD,List.getElem?_eq_getElem (show j < zs.length by omega)]
   simpa using this.symm
end Go.Proofs.YteoolehdomjkkaaGreat

/- Arguments opened: shapes and pictures. -/
namespace Go.Proofs.YteoolehdomjkkaaGreat
set_option linter.all false
open Go.ChangeShapes Go.WideShapes Go.ChangeAt Go.RowKit
theorem one_int:Tryz.prog.cellsOf 3=1:=by kernel_rfl
theorem one_bytes:Tryz.prog.cellsOf 24=1:=by kernel_rfl
theorem four_shape:Tryz.prog.cellsOf 23=4:=by kernel_rfl
theorem five_raster:Tryz.prog.cellsOf 26=5:=by kernel_rfl
theorem int_at {H:Type} {enc:TypeId × Value→H} {W:World} {sp:Nat→Bool} {held:Bool} {fuel i:Nat} {v:Value} {xs:List (DataW H × List MemPlace)} (hi:i < xs.length)
  (h:DataW.trod enc Tryz.prog W 0 sp held fuel 3 [v]=xs[i]?):∃ n,v=.int .i64 n:=by
 rw [List.getElem?_eq_getElem hi] at h
 obtain ⟨n,e,_,_⟩:=DataW.trod_int Tryz.underlying3 h
 injection e with e
 exact ⟨n,e⟩
theorem shape_cells {H:Type} {enc:TypeId × Value→H} {W:World} {sp:Nat→Bool} {held:Bool} {fuel:Nat} {c0 c1 c2 c3:Value} {x:DataW H × List MemPlace}
  (h:DataW.trod enc Tryz.prog W 0 sp held fuel 23 [c0,c1,c2,c3]=some x):∃ s:Sh,[c0,c1,c2,c3]=[.int .i64 s.w,.int .i64 s.h,.int .i64 s.c,.int .i64 s.d]:=by
 obtain ⟨xs,n,rfl,hx,hcl,hlen,hg⟩:=DataW.trod_struct Tryz.underlying23 h
 have h0:=hg 0 _ rfl
 have h1:=hg 1 _ rfl
 have h2:=hg 2 _ rfl
 have h3:=hg 3 _ rfl
 have hl:xs.length=4:=hlen
 simp only [List.getElem_toArray,List.getElem_cons_zero,List.getElem_cons_succ,one_int,List.drop_succ_cons,List.drop_zero,List.take_succ_cons,List.take_zero] at h0 h1 h2 h3
 obtain ⟨n0,rfl⟩:=int_at (by omega) h0
 obtain ⟨n1,rfl⟩:=int_at (by omega) h1
 obtain ⟨n2,rfl⟩:=int_at (by omega) h2
 obtain ⟨n3,rfl⟩:=int_at (by omega) h3
 exact ⟨⟨n0,n1,n2,n3⟩,rfl⟩
set_option maxRecDepth 100000 in
theorem open_raster {H:Type} {enc:TypeId × Value→H} {W:World} {r:Reach} {b0:Nat} {sp:Nat→Bool} {held:Bool} {v:Value} {d:DataW H} {p:List MemPlace}
  (hv:Value.okWide Tryz.prog W r b0 26 v) (h:DataW.Trod enc Tryz.prog W 0 sp held 26 v d p) :
  ∃ (s:Sh) (A:Option Addr) (n c:Nat) (bs:List UInt8),v=s.r A n c∧RdB W W.heap.size A n bs∧n≤c∧c≤maxLen:=by
 obtain ⟨cs,rfl,hsz⟩:=okWide_struct Tryz.underlying26 hv
 rw [five_raster] at hsz
 obtain ⟨l⟩:=cs
 match l,hsz with
 | [c0,c1,c2,c3,c4],_ =>
  obtain ⟨fuel,hf⟩:=h
  obtain ⟨xs,n,rfl,hx,hcl,hlen,hg⟩:=DataW.trod_struct Tryz.underlying26 hf
  have h0:=hg 0 _ rfl
  have h1:=hg 1 _ rfl
  have hl:xs.length=2:=hlen
  simp only [List.getElem_toArray,List.getElem_cons_zero,List.getElem_cons_succ,Value.cells,four_shape,one_bytes,List.drop_succ_cons,List.drop_zero,List.take_succ_cons,List.take_zero] at h0 h1
  rw [List.getElem?_eq_getElem (by omega)] at h0 h1
  obtain ⟨s,e⟩:=shape_cells h0
  have hs:∃ A n c,c4=.slice A n c:=by
   rcases open_ints Tryz.underlying24 Tryz.underlying5 (by kernel_rfl) h1 with ⟨hcs,_⟩ | ⟨x,l,cc,zs,hcs,_⟩
   ·injection hcs with hcs;exact ⟨_,_,_,hcs⟩
   ·injection hcs with hcs;exact ⟨_,_,_,hcs⟩
  obtain ⟨A,m,c,rfl⟩:=hs
  obtain ⟨bs,hr,hc,hm⟩:=open_bytes ⟨_,h1⟩
  injection e with e0 e
  injection e with e1 e
  injection e with e2 e
  injection e with e3 e
  exact ⟨s,A,m,c,bs,by rw [e0,e1,e2,e3];rfl,hr,hc,hm⟩
end Go.Proofs.YteoolehdomjkkaaGreat

