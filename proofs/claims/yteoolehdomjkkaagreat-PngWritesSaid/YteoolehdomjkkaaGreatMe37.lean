/- XPng4 -/
import Derived.Test.YteoolehdomjkkaaGreatMe03
import Derived.Test.YteoolehdomjkkaaGreatMe16
namespace Go.Proofs.YteoolehdomjkkaaGreat
set_option linter.all false
open Go.RowKit
theorem results_tmp4 {fn:Func} {t u v x:Tmp} (h:fn.results=#[.tmp t,.tmp u,.tmp v,.tmp x]) (tmps:Array Value) (P:Program) (w:World) :
  (results fn tmps).run P w=.ok (.tuple #[tmps.getD t undef,tmps.getD u undef,tmps.getD v undef,tmps.getD x undef]) w:=by
 simp [results,h]
/-- Where a pass begins, how far its pixels stand apart. -/
def gT (k:Nat):(Nat × Nat) × Nat × Nat:=match k with
 | 1=>((0,0),8,8)
 | 2=>((4,0),8,8)
 | 3=>((0,4),4,8)
 | 4=>((2,0),4,4)
 | 5=>((0,2),2,4)
 | 6=>((1,0),2,2)
 | _=>((0,1),1,2)
set_option maxRecDepth 100000 in
theorem grid_1 (w:World):Calls Tryz.prog 51 #[.int .i64 1] w fun e w'=>e=.returned (.tuple #[.int .i64 0,.int .i64 0,.int .i64 8,.int .i64 8])∧Below w.heap.size w w':=by
 have hidx:∀ w,(Instr.index 108 (.agg #[.int .i64 0,.int .i64 0,.int .i64 8,.int .i64 8,.int .i64 4,.int .i64 0,.int .i64 8,.int .i64 8,.int .i64 0,.int .i64 4,.int .i64 4,.int .i64 8,.int .i64 2,.int .i64 0,.int .i64 4,.int .i64 4,.int .i64 0,.int .i64 2,.int .i64 2,.int .i64 4,.int .i64 1,.int .i64 0,.int .i64 2,.int .i64 2,.int .i64 0,.int .i64 1,.int .i64 1,.int .i64 2]) (.int .i64 0)).run Tryz.prog w=.ok (.agg #[.int .i64 0,.int .i64 0,.int .i64 8,.int .i64 8]) w:=fun w=>by kernel_rfl
 go_enter Tryz.func51,Tryz.ntmps51
 go_wp2_with fail
 go_quiet (fail)
 go_wp2_with fail
 (try simp only [Exit.inBlock,Exit.then])
 refine bodyPost_ret (results_tmp4 rfl _ _ _) rfl ⟨rfl,bdrewN ((Below.refl w.heap.size w).alloc (Nat.le_refl _) _) _⟩
set_option maxRecDepth 100000 in
theorem grid_2 (w:World):Calls Tryz.prog 51 #[.int .i64 2] w fun e w'=>e=.returned (.tuple #[.int .i64 4,.int .i64 0,.int .i64 8,.int .i64 8])∧Below w.heap.size w w':=by
 have hidx:∀ w,(Instr.index 108 (.agg #[.int .i64 0,.int .i64 0,.int .i64 8,.int .i64 8,.int .i64 4,.int .i64 0,.int .i64 8,.int .i64 8,.int .i64 0,.int .i64 4,.int .i64 4,.int .i64 8,.int .i64 2,.int .i64 0,.int .i64 4,.int .i64 4,.int .i64 0,.int .i64 2,.int .i64 2,.int .i64 4,.int .i64 1,.int .i64 0,.int .i64 2,.int .i64 2,.int .i64 0,.int .i64 1,.int .i64 1,.int .i64 2]) (.int .i64 1)).run Tryz.prog w=.ok (.agg #[.int .i64 4,.int .i64 0,.int .i64 8,.int .i64 8]) w:=fun w=>by kernel_rfl
 go_enter Tryz.func51,Tryz.ntmps51
 go_wp2_with fail
 go_quiet (fail)
 go_wp2_with fail
 (try simp only [Exit.inBlock,Exit.then])
 refine bodyPost_ret (results_tmp4 rfl _ _ _) rfl ⟨rfl,bdrewN ((Below.refl w.heap.size w).alloc (Nat.le_refl _) _) _⟩
set_option maxRecDepth 100000 in
theorem grid_3 (w:World):Calls Tryz.prog 51 #[.int .i64 3] w fun e w'=>e=.returned (.tuple #[.int .i64 0,.int .i64 4,.int .i64 4,.int .i64 8])∧Below w.heap.size w w':=by
 have hidx:∀ w,(Instr.index 108 (.agg #[.int .i64 0,.int .i64 0,.int .i64 8,.int .i64 8,.int .i64 4,.int .i64 0,.int .i64 8,.int .i64 8,.int .i64 0,.int .i64 4,.int .i64 4,.int .i64 8,.int .i64 2,.int .i64 0,.int .i64 4,.int .i64 4,.int .i64 0,.int .i64 2,.int .i64 2,.int .i64 4,.int .i64 1,.int .i64 0,.int .i64 2,.int .i64 2,.int .i64 0,.int .i64 1,.int .i64 1,.int .i64 2]) (.int .i64 2)).run Tryz.prog w=.ok (.agg #[.int .i64 0,.int .i64 4,.int .i64 4,.int .i64 8]) w:=fun w=>by kernel_rfl
 go_enter Tryz.func51,Tryz.ntmps51
 go_wp2_with fail
 go_quiet (fail)
 go_wp2_with fail
 (try simp only [Exit.inBlock,Exit.then])
 refine bodyPost_ret (results_tmp4 rfl _ _ _) rfl ⟨rfl,bdrewN ((Below.refl w.heap.size w).alloc (Nat.le_refl _) _) _⟩
set_option maxRecDepth 100000 in
theorem grid_4 (w:World):Calls Tryz.prog 51 #[.int .i64 4] w fun e w'=>e=.returned (.tuple #[.int .i64 2,.int .i64 0,.int .i64 4,.int .i64 4])∧Below w.heap.size w w':=by
 have hidx:∀ w,(Instr.index 108 (.agg #[.int .i64 0,.int .i64 0,.int .i64 8,.int .i64 8,.int .i64 4,.int .i64 0,.int .i64 8,.int .i64 8,.int .i64 0,.int .i64 4,.int .i64 4,.int .i64 8,.int .i64 2,.int .i64 0,.int .i64 4,.int .i64 4,.int .i64 0,.int .i64 2,.int .i64 2,.int .i64 4,.int .i64 1,.int .i64 0,.int .i64 2,.int .i64 2,.int .i64 0,.int .i64 1,.int .i64 1,.int .i64 2]) (.int .i64 3)).run Tryz.prog w=.ok (.agg #[.int .i64 2,.int .i64 0,.int .i64 4,.int .i64 4]) w:=fun w=>by kernel_rfl
 go_enter Tryz.func51,Tryz.ntmps51
 go_wp2_with fail
 go_quiet (fail)
 go_wp2_with fail
 (try simp only [Exit.inBlock,Exit.then])
 refine bodyPost_ret (results_tmp4 rfl _ _ _) rfl ⟨rfl,bdrewN ((Below.refl w.heap.size w).alloc (Nat.le_refl _) _) _⟩
set_option maxRecDepth 100000 in
theorem grid_5 (w:World):Calls Tryz.prog 51 #[.int .i64 5] w fun e w'=>e=.returned (.tuple #[.int .i64 0,.int .i64 2,.int .i64 2,.int .i64 4])∧Below w.heap.size w w':=by
 have hidx:∀ w,(Instr.index 108 (.agg #[.int .i64 0,.int .i64 0,.int .i64 8,.int .i64 8,.int .i64 4,.int .i64 0,.int .i64 8,.int .i64 8,.int .i64 0,.int .i64 4,.int .i64 4,.int .i64 8,.int .i64 2,.int .i64 0,.int .i64 4,.int .i64 4,.int .i64 0,.int .i64 2,.int .i64 2,.int .i64 4,.int .i64 1,.int .i64 0,.int .i64 2,.int .i64 2,.int .i64 0,.int .i64 1,.int .i64 1,.int .i64 2]) (.int .i64 4)).run Tryz.prog w=.ok (.agg #[.int .i64 0,.int .i64 2,.int .i64 2,.int .i64 4]) w:=fun w=>by kernel_rfl
 go_enter Tryz.func51,Tryz.ntmps51
 go_wp2_with fail
 go_quiet (fail)
 go_wp2_with fail
 (try simp only [Exit.inBlock,Exit.then])
 refine bodyPost_ret (results_tmp4 rfl _ _ _) rfl ⟨rfl,bdrewN ((Below.refl w.heap.size w).alloc (Nat.le_refl _) _) _⟩
set_option maxRecDepth 100000 in
theorem grid_6 (w:World):Calls Tryz.prog 51 #[.int .i64 6] w fun e w'=>e=.returned (.tuple #[.int .i64 1,.int .i64 0,.int .i64 2,.int .i64 2])∧Below w.heap.size w w':=by
 have hidx:∀ w,(Instr.index 108 (.agg #[.int .i64 0,.int .i64 0,.int .i64 8,.int .i64 8,.int .i64 4,.int .i64 0,.int .i64 8,.int .i64 8,.int .i64 0,.int .i64 4,.int .i64 4,.int .i64 8,.int .i64 2,.int .i64 0,.int .i64 4,.int .i64 4,.int .i64 0,.int .i64 2,.int .i64 2,.int .i64 4,.int .i64 1,.int .i64 0,.int .i64 2,.int .i64 2,.int .i64 0,.int .i64 1,.int .i64 1,.int .i64 2]) (.int .i64 5)).run Tryz.prog w=.ok (.agg #[.int .i64 1,.int .i64 0,.int .i64 2,.int .i64 2]) w:=fun w=>by kernel_rfl
 go_enter Tryz.func51,Tryz.ntmps51
 go_wp2_with fail
 go_quiet (fail)
 go_wp2_with fail
 (try simp only [Exit.inBlock,Exit.then])
 refine bodyPost_ret (results_tmp4 rfl _ _ _) rfl ⟨rfl,bdrewN ((Below.refl w.heap.size w).alloc (Nat.le_refl _) _) _⟩
set_option maxRecDepth 100000 in
theorem grid_7 (w:World):Calls Tryz.prog 51 #[.int .i64 7] w fun e w'=>e=.returned (.tuple #[.int .i64 0,.int .i64 1,.int .i64 1,.int .i64 2])∧Below w.heap.size w w':=by
 have hidx:∀ w,(Instr.index 108 (.agg #[.int .i64 0,.int .i64 0,.int .i64 8,.int .i64 8,.int .i64 4,.int .i64 0,.int .i64 8,.int .i64 8,.int .i64 0,.int .i64 4,.int .i64 4,.int .i64 8,.int .i64 2,.int .i64 0,.int .i64 4,.int .i64 4,.int .i64 0,.int .i64 2,.int .i64 2,.int .i64 4,.int .i64 1,.int .i64 0,.int .i64 2,.int .i64 2,.int .i64 0,.int .i64 1,.int .i64 1,.int .i64 2]) (.int .i64 6)).run Tryz.prog w=.ok (.agg #[.int .i64 0,.int .i64 1,.int .i64 1,.int .i64 2]) w:=fun w=>by kernel_rfl
 go_enter Tryz.func51,Tryz.ntmps51
 go_wp2_with fail
 go_quiet (fail)
 go_wp2_with fail
 (try simp only [Exit.inBlock,Exit.then])
 refine bodyPost_ret (results_tmp4 rfl _ _ _) rfl ⟨rfl,bdrewN ((Below.refl w.heap.size w).alloc (Nat.le_refl _) _) _⟩
theorem grid_any (k:Nat) (h1:1≤k) (h7:k≤7) (w:World):Calls Tryz.prog 51 #[.int .i64 (k:Int)] w fun e w'=>e=.returned (.tuple #[.int .i64 ((gT k).1.1:Int),.int .i64 ((gT k).1.2:Int),.int .i64 ((gT k).2.1:Int),.int .i64 ((gT k).2.2:Int)])∧Below w.heap.size w w':=by
 rcases (show k=1∨k=2∨k=3∨k=4∨k=5∨k=6∨k=7 by omega) with rfl | rfl | rfl | rfl | rfl | rfl | rfl
 ·exact grid_1 w
 ·exact grid_2 w
 ·exact grid_3 w
 ·exact grid_4 w
 ·exact grid_5 w
 ·exact grid_6 w
 ·exact grid_7 w
theorem gT_ok (k:Nat):(gT k).1.1≤4∧(gT k).1.2≤4∧(gT k).1.1≤(gT k).2.1∧(gT k).1.2≤(gT k).2.2∧1≤(gT k).2.1∧(gT k).2.1≤8∧1≤(gT k).2.2∧(gT k).2.2≤8:=by
 unfold gT
 split <;> decide
/-- How many pixels of n stand in a pass. -/
def cw (n x d:Nat):Nat:=(n - x+d - 1) / d
def passW (W H k:Nat):Nat:=if W≤(gT k).1.1∨H≤(gT k).1.2 then 0 else cw W (gT k).1.1 (gT k).2.1
def passH (W H k:Nat):Nat:=if W≤(gT k).1.1∨H≤(gT k).1.2 then 0 else cw H (gT k).1.2 (gT k).2.2
theorem cw_zero {n x d:Nat} (h:n≤x) (hd:1≤d):cw n x d=0:=by
 unfold cw
 rw [Nat.sub_eq_zero_of_le h]
 exact Nat.div_eq_of_lt (by omega)
theorem cw_pos {n x d:Nat} (h:x < n) (hd:1≤d):1≤cw n x d:=by
 unfold cw
 exact (Nat.le_div_iff_mul_le (by omega)).2 (by omega)
theorem pass_mul (W H k:Nat):passW W H k * passH W H k=cw W (gT k).1.1 (gT k).2.1 * cw H (gT k).1.2 (gT k).2.2:=by
 obtain ⟨_,_,_,_,h5,_,h7,_⟩:=gT_ok k
 unfold passW passH
 split
 ·rename_i h
  rcases h with h | h
  ·simp [cw_zero h h5]
  ·simp [cw_zero h h7]
 ·rfl
theorem pass_le (W H k:Nat) (hW:W≤256) (hH:H≤256):passW W H k≤256∧passH W H k≤256∧(passW W H k=0 ↔ passH W H k=0):=by
 obtain ⟨_,_,_,_,h5,_,h7,_⟩:=gT_ok k
 unfold passW passH
 split
 ·exact ⟨by omega,by omega,Iff.rfl⟩
 ·rename_i h
  have h1:=cw_pos (n:=W) (x:=(gT k).1.1) (d:=(gT k).2.1) (by omega) h5
  have h2:=cw_pos (n:=H) (x:=(gT k).1.2) (d:=(gT k).2.2) (by omega) h7
  have h3:cw W (gT k).1.1 (gT k).2.1≤W:=by
   unfold cw
   refine (Nat.div_le_iff_le_mul_add_pred (by omega)).2 ?_
   have:=Nat.le_mul_of_pos_left W h5
   omega
  have h4:cw H (gT k).1.2 (gT k).2.2≤H:=by
   unfold cw
   refine (Nat.div_le_iff_le_mul_add_pred (by omega)).2 ?_
   have:=Nat.le_mul_of_pos_left H h7
   omega
  exact ⟨by omega,by omega,by omega⟩
/-- The pixels of the first passes. -/
def passN (W H:Nat):Nat→Nat
 | 0=>0
 | k+1=>passN W H k+passW W H (k+1) * passH W H (k+1)
theorem passN_all (W H:Nat):passN W H 7=W * H:=by
 show 0+passW W H 1 * passH W H 1+passW W H 2 * passH W H 2+passW W H 3 * passH W H 3+passW W H 4 * passH W H 4+passW W H 5 * passH W H 5+passW W H 6 * passH W H 6+passW W H 7 * passH W H 7=_
 rw [pass_mul,pass_mul,pass_mul,pass_mul,pass_mul,pass_mul,pass_mul]
 show 0+cw W 0 8 * cw H 0 8+cw W 4 8 * cw H 0 8+cw W 0 4 * cw H 4 8+cw W 2 4 * cw H 0 4+cw W 0 2 * cw H 2 4+cw W 1 2 * cw H 0 2+cw W 0 1 * cw H 1 2=_
 have e:∀ n:Nat,cw n 0 8+cw n 4 8=cw n 0 4∧cw n 0 4+cw n 2 4=cw n 0 2∧cw n 0 2+cw n 1 2=n∧cw n 0 1=n:=fun n=>by
  unfold cw
  omega
 obtain ⟨w1,w2,w3,w4⟩:=e W
 obtain ⟨h1,h2,h3,_⟩:=e H
 rw [Nat.zero_add,← Nat.add_mul,w1,← Nat.mul_add,h1,← Nat.add_mul,w2,← Nat.mul_add,h2,← Nat.add_mul,w3,w4,← Nat.mul_add,h3]
end Go.Proofs.YteoolehdomjkkaaGreat

