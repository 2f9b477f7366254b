/- XIn1 XIn2 XIn3 XIn4 -/
import Derived.Test.YtebbdifhiihfkaaGreatDoorMh19
namespace Go.Proofs.YtebbdifhiihfkaaGreatDoor
set_option linter.all false
open Go.RowKit
/-- A reader of blocks: how far it has come, what came out, its error. -/
structure FR (w:World) (r g:Nat) (A:Option Addr) (n c P:Nat) (bs:List UInt8) (vo:Value) (out:List UInt8) (most e:Int):Prop where
 arr:Arr w r [.pointer (some ⟨g,0,none⟩),vo,.int .i64 most,.int .i64 e]
 rd:Arr w g (rdr A n c P)
 rb:RdB w g A n bs
 own:ownB w (r+1) vo out
 gr:g < r
 fit:P≤8 * n
 big:n≤1000000
/-- What a reader changes: two blocks, its row, new blocks. -/
structure RFr (w w':World) (r g:Nat) (pv pv':Value):Prop where
 os:w'.os=w.os
 tape:w'.tape=w.tape
 output:w'.output=w.output
 size:w.heap.size≤w'.heap.size
 block:∀ k,k < w.heap.size→k ≠ r→k ≠ g→pv.ownBlock ≠ some k→w'.heap[k]?=w.heap[k]?
 own:pv'.ownBlock=pv.ownBlock∨∃ k,w.heap.size≤k∧pv'.ownBlock=some k
section
variable {w w' w'' : World} {r g : Nat} {pv pv' pv'' : Value}
theorem RFr.refl (w:World) (r g:Nat) (pv:Value):RFr w w r g pv pv:=⟨rfl,rfl,rfl,Nat.le_refl _,fun _ _ _ _ _=>rfl,.inl rfl⟩
theorem RFr.trans (h:RFr w w' r g pv pv') (k:RFr w' w'' r g pv' pv''):RFr w w'' r g pv pv'':=by
 refine ⟨k.os.trans h.os,k.tape.trans h.tape,k.output.trans h.output,Nat.le_trans h.size k.size,fun i hi hr hg hp=>?_,?_⟩
 ·refine (k.block i (Nat.lt_of_lt_of_le hi h.size) hr hg ?_).trans (h.block i hi hr hg hp)
  rcases h.own with e | ⟨j,hj,e⟩
  ·rw [e];exact hp
  ·rw [e];intro e2;injection e2 with e2;omega
 ·rcases k.own with e | ⟨j,hj,e⟩
  ·rcases h.own with e2 | ⟨j,hj,e2⟩
   ·exact .inl (e.trans e2)
   ·exact .inr ⟨j,hj,e.trans e2⟩
  ·exact .inr ⟨j,Nat.le_trans h.size hj,e⟩
theorem RFr.ofG (h:w.grownBy w' (some g)) (r:Nat) (pv:Value):RFr w w' r g pv pv :=
 ⟨h.os,h.tape,h.output,h.size,fun k hk _ hg _=>h.block k hk (fun e=>by injection e with e;exact hg e),.inl rfl⟩
theorem RFr.ofB (h:Below w.heap.size w w') (r g:Nat) (pv:Value):RFr w w' r g pv pv:=⟨h.os,h.tape,h.output,h.size,fun k hk _ _ _=>h.block k hk,.inl rfl⟩
theorem RFr.drewN (h:RFr w w' r g pv pv') (q:Nat):RFr w (w'.drewN q) r g pv pv':=⟨h.os,h.tape,h.output,h.size,h.block,h.own⟩
theorem RFr.below {B:Nat} (h:RFr w w' r g pv pv') (hB:B≤w.heap.size) (hr:B≤r) (hg:B≤g) (hp:∀ k,pv.ownBlock=some k→B≤k):Below B w w' :=
 ⟨h.os,h.tape,h.output,h.size,fun k hk=>h.block k (by omega) (by omega) (by omega) (fun e=>by have:=hp k e;omega)⟩
end
theorem FR.drewN {w:World} {r g:Nat} {A:Option Addr} {n c P:Nat} {bs:List UInt8} {vo:Value} {out:List UInt8} {most e:Int} (h:FR w r g A n c P bs vo out most e) (q:Nat):FR (w.drewN q) r g A n c P bs vo out most e :=
 ⟨h.arr.drewN q,h.rd.drewN q,h.rb.blw ((bdrewN (Below.refl g w) q)),h.own.drewN q,h.gr,h.fit,h.big⟩
/-- The bits' reader has moved. -/
theorem FR.moved {w w':World} {r g:Nat} {A:Option Addr} {n c P P':Nat} {bs:List UInt8} {vo:Value} {out:List UInt8} {most e:Int} (h:FR w r g A n c P bs vo out most e) (hA:Arr w' g (rdr A n c P')) (hg:w.grownBy w' (some g)) (hf:P'≤8 * n):FR w' r g A n c P' bs vo out most e:=by
 have hgr:=h.gr
 refine ⟨h.arr.gro hg (by omega),hA,h.rb.blw (below_gb hg (Nat.le_of_lt h.rd.lt) (Nat.le_refl _)),World.ownsRow.kept h.own hg ?_,hgr,hf,h.big⟩
 cases e:vo.ownBlock with
 | none=>exact .inl rfl
 | some k=>exact .inr (fun e2=>by injection e2 with e2;have:=(World.ownsRow.lt h.own k e).1;omega)
set_option maxHeartbeats 1600000 in
theorem rget_ok (r g n c P m:Nat) (A:Option Addr) (bs:List UInt8) (vo:Value) (out:List UInt8) (most:Int) (M:Int) (hM:M=(m:Int)) (w:World) (h:FR w r g A n c P bs vo out most 0) (hm:m≤24) (hfit:P+m≤8 * n) :
  Calls Tryz.prog 101 #[.pointer (some ⟨r,0,none⟩),.int .i64 M] w fun e w'=>e=.returned (.int .i64 ((getV bs P m:Nat):Int))∧FR w' r g A n c (P+m) bs vo out most 0∧RFr w w' r g vo vo:=by
 subst hM
 have H:=Lib.hid h
 have HG:=Lib.hid (get_any g g n c P m A bs w h.rd h.rb (Nat.le_refl _) (by have:=h.big;omega) h.fit hm hfit)
 have c0:=h.arr.cell (k:=0) rfl
 have c3:=h.arr.cell (k:=3) rfl
 have hv:=getV_lt bs P m
 have hv2:getV bs P m < 16777216:=Nat.lt_of_lt_of_le hv (Nat.pow_le_pow_right (by decide) hm)
 clear h hv
 generalize getV bs P m=v at *
 go_enter Tryz.func101,Tryz.ntmps101
 go_wp2_with (go_at_call 126;(with_reducible refine HG.out.mono ?_);go_must (rintro e w1 ⟨rfl,ha1,hg1⟩;have HA1:=Lib.hid ha1;have HG1:=Lib.hid hg1;clear ha1 hg1))
 go_ret
 exact ⟨rfl,H.out.moved HA1.out HG1.out hfit,RFr.ofG HG1.out r vo⟩
theorem alignR_any (g n c P:Nat) (A:Option Addr) (w:World) (h:Arr w g (rdr A n c P)) (hP:P≤8000000) :
  Calls Tryz.prog 127 #[.pointer (some ⟨g,0,none⟩)] w fun e w'=>e=.returned (.tuple #[])∧Arr w' g (rdr A n c (8 * ((P+7) / 8)))∧w.grownBy w' (some g):=by
 have c1:=h.cell (k:=1) rfl
 have f1:=h.frozen 1
 obtain ⟨Q,hQ⟩:∃ Q,(P+7) / 8=Q:=⟨_,rfl⟩
 rw [hQ]
 have e1:((P:Int)+7).tdiv 8=(Q:Int):=by rw [show (P:Int)+7=((P+7:Nat):Int) by omega,← hQ];rfl
 have e4:((P:Int)+7) / 8=(Q:Int):=by omega
 have e2:(Q:Int) * 8=((8 * Q:Nat):Int):=by omega
 have HA:=Lib.hid (h.set 1 (.int .i64 ((8 * Q:Nat):Int)))
 have HG:=Lib.hid (gb_set (o:=1) (gb_refl w (some g)) (.int .i64 ((8 * Q:Nat):Int)))
 have e3:wrap64 ((Q:Int) * 8)=(Q:Int) * 8:=wrap64_id _ (by omega) (by omega)
 have hq8:8 * Q≤8000008:=by omega
 clear h
 go_enter Tryz.func127,Tryz.ntmps127
 go_wp2_with fail
 (try simp only [Exit.inBlock,Exit.then])
 first | (refine bodyPost_ret (results_none rfl _ _ _) rfl ?_) | (refine bodyPost_end (results_none rfl _ _ _) rfl ?_)
 exact ⟨rfl,HA.out,HG.out⟩
end Go.Proofs.YtebbdifhiihfkaaGreatDoor

/- flate: a reader of blocks: a byte given out, a stored block. -/
namespace Go.Proofs.YtebbdifhiihfkaaGreatDoor
set_option linter.all false
open Go.RowKit
theorem RFr.set1 {w w':World} {r g:Nat} {pv pv':Value} (h:RFr w w' r g pv pv') (i:Nat) (v:Value):RFr w (w'.setCell ⟨r,i,none⟩ v) r g pv pv' :=
 ⟨h.os,h.tape,h.output,by simp;exact h.size,fun k hk hr hg hp=>(Below.heap_setCell _ _ _ _ (fun e=>hr e)).trans (h.block k hk hr hg hp),h.own⟩
theorem RFr.grown {w w':World} {r g:Nat} {pv pv2:Value} (o:Obj) (h:(w.alloc o).grownBy w' pv.ownBlock) (hat:pv2.ownBlock=pv.ownBlock∨pv2.ownBlock=some (w.alloc o).heap.size):RFr w w' r g pv pv2:=by
 refine ⟨h.os,h.tape,h.output,Nat.le_trans (by simp) h.size,fun k hk _ _ hp=>?_,?_⟩
 ·exact (h.block k (by simp;omega) (fun e=>hp e.symm)).trans (heap_alloc_old w o hk)
 ·rcases hat with e | e
  ·exact .inl e
  ·exact .inr ⟨_,by simp,e⟩
theorem RFr.drew0 {w w':World} {r g q:Nat} {pv pv':Value} (h:RFr (w.drewN q) w' r g pv pv'):RFr w w' r g pv pv':=⟨h.os,h.tape,h.output,h.size,h.block,h.own⟩
end Go.Proofs.YtebbdifhiihfkaaGreatDoor

/- flate: a reader of blocks: a stored block. -/
namespace Go.Proofs.YtebbdifhiihfkaaGreatDoor
set_option linter.all false
open Go.RowKit
theorem take_snoc1 {α:Type} {l:List α} {k:Nat} {x:α} (h:l[k]?=some x):l.take (k+1)=l.take k ++ [x]:=by
 obtain ⟨hk,hx⟩:=List.getElem?_eq_some_iff.1 h
 rw [List.take_succ_eq_append_getElem hk,hx]
end Go.Proofs.YtebbdifhiihfkaaGreatDoor

/- flate: Inflate, of blocks that are read to their ends. -/
namespace Go.Proofs.YtebbdifhiihfkaaGreatDoor
set_option linter.all false
open Go.RowKit
def posOf (w:World) (g:Nat):Nat:=match w.cell? ⟨g,1,none⟩ with
 | some (.int _ P)=>P.toNat
 | _=>0
theorem posOf_eq {w:World} {g n c P:Nat} {A:Option Addr} (h:Arr w g (rdr A n c P)):posOf w g=P:=by
 unfold posOf
 rw [h.cell (k:=1) rfl]
 rfl
theorem FR.fr {w w':World} {r g:Nat} {A:Option Addr} {n c P:Nat} {bs:List UInt8} {vo vo':Value} {out:List UInt8} {most e:Int} {B:Nat} (h:FR w r g A n c P bs vo out most e) (hf:RFr w w' r g vo vo') (hB:B≤g):Below B w w':=by
 have h1:=h.gr
 have h2:=h.rd.lt
 exact hf.below (by omega) (by omega) hB (fun k hk=>by have:=(World.ownsRow.lt h.own k hk).1;omega)
end Go.Proofs.YtebbdifhiihfkaaGreatDoor

