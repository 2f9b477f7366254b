/- XFilt2 XFilt3 XFilt4 XFilt5 -/
import Derived.Test.YteoolehdomjkkaaGreatMe02
import Derived.StillTailTactics
namespace Go.Proofs.YteoolehdomjkkaaGreat
set_option linter.all false
open Go.RowKit
def doB (kind bpp:Int) (prev row:List UInt8):List UInt8:=(List.range row.length).map fun i=>row.getD i 0 - gB kind bpp i prev row
theorem doB_len (kind bpp:Int) (prev row:List UInt8):(doB kind bpp prev row).length=row.length:=by simp [doB]
theorem doB_at (kind bpp:Int) (prev row:List UInt8) {k:Nat} {x:UInt8} (h:row[k]?=some x):(doB kind bpp prev row)[k]?=some (x - gB kind bpp k prev row):=by
 obtain ⟨hk,rfl⟩:=List.getElem?_eq_some_iff.1 h
 simp [doB,hk,List.getD]
set_option maxRecDepth 100000 in
set_option maxHeartbeats 1600000 in
theorem do_ok (kind bpp:Int) (B n c B' n' c':Nat) (A A':Option Addr) (prev row:List UInt8) (w:World) (hp:RdB w B A n prev) (hr:RdB w B' A' n' row)
  (hB1:B≤w.heap.size) (hB2:B'≤w.heap.size) (hm:n'≤1000000) (h0:wrongV kind bpp n n'=0) (h1:1≤bpp∧bpp≤8) :
  Calls Tryz.prog 136 #[.int .i64 kind,.int .i64 bpp,.slice A n c,.slice A' n' c'] w fun e w' =>
   ∃ v,e=.returned (.tuple #[v,.int .i64 0])∧ownB w' w.heap.size v (doB kind bpp prev row)∧Below w.heap.size w w':=by
 obtain rfl:=hr.len
 have H0:=Lib.hid h0
 clear h0
 have HL:=Lib.hid (doB_len kind bpp prev row)
 go_enter Tryz.func136,Tryz.ntmps136
 go_wp2_with (first
  | (go_at_call 171;refine (fwrong_any _ _ _ _ _ _ _ _ _).mono ?_;rintro e w' ⟨rfl,rfl⟩;rw [H0.out])
  | (at_make;refine wpList_makeB rfl _ _ rfl row.length _ rfl rfl rfl (by omega) ?_))
 intro w1 hown hb hsz
 go_wp2
 go_loopw [27] (fun i wr=>∃ k:Nat,k≤row.length∧i=.int .i64 k∧ownB wr w.heap.size (.slice (some ⟨w.heap.size,0,none⟩) row.length row.length) (fillTo (doB kind bpp prev row) k)∧Below w.heap.size w wr)
  (fun i _=>row.length - (intOf i).toNat)
 case atStart=>exact ⟨0,Nat.zero_le _,rfl,by rw [fillTo_zero,HL.out];exact hown,hb⟩
 case round =>
  obtain ⟨k,hk,rfl,hown1,hbb⟩:=hrel
  have HF:Hid (row.length=(fillTo (doB kind bpp prev row) k).length):=by show _=_;rw [fillTo_len _ _ (by rw [HL.out];exact hk),HL.out]
  by_cases hlt:k < row.length
  ·have hp1:=hp.blw (hbb.mono hB1)
   have hr1:=hr.blw (hbb.mono hB2)
   obtain ⟨b,o,x,rfl,hbo,hx,cx⟩:=hr1.byte hlt
   obtain ⟨d0,_,cd⟩:=hown1.byte HF.out hlt
   have fd:=hown1.frozen HF.out k
   have Hs:Hid (ownB (wr.setCell ⟨w.heap.size,k,none⟩ (.int .u8 ((x - gB kind bpp k prev row).toNat:Int))) w.heap.size (.slice (some ⟨w.heap.size,0,none⟩) row.length row.length) (fillTo (doB kind bpp prev row) (k+1))):=by
    rw [fillTo_put _ k _ (doB_at kind bpp prev row hx.out)]
    exact hown1.store HF.out k _
   have hsub:=sub_u8 x (gB kind bpp k prev row)
   clear hx
   go_wp2_with (go_at_call 172;refine (guess_any _ _ _ _ _ _ _ _ _ _ _ prev row _ hp1 hr1 h1 (by omega)).mono ?_;rintro e w' ⟨rfl,rfl⟩)
   go_roundw
   case rel=>exact ⟨k+1,by omega,by go_num,Hs.out,hbb.setCell (Nat.le_refl _) _⟩
   case measure=>simp [intOf];omega
  ·have:k=row.length:=by omega
   subst this
   rw [show fillTo (doB kind bpp prev row) row.length=doB kind bpp prev row by have:=fillTo_end (doB kind bpp prev row);rwa [HL.out] at this] at hown1
   go_wp2
   go_ret2
   exact ⟨_,rfl,hown1,hbb⟩
theorem do_bad (kind bpp:Int) (n c n' c':Nat) (A A':Option Addr) (w:World) (E:Int) (h0:wrongV kind bpp n n'=E) (hE:(E != 0)=true) :
  Calls Tryz.prog 136 #[.int .i64 kind,.int .i64 bpp,.slice A n c,.slice A' n' c'] w fun e w'=>e=.returned (.tuple #[.slice none 0 0,.int .i64 E])∧w=w':=by
 have H0:=Lib.hid h0
 clear h0
 go_enter Tryz.func136,Tryz.ntmps136
 go_wp2_with (go_at_call 171;refine (fwrong_any _ _ _ _ _ _ _ _ _).mono ?_;rintro e w' ⟨rfl,rfl⟩;rw [H0.out])
 go_ret2
 exact ⟨rfl,rfl⟩
def doR (kind bpp:Int) (prev row:List UInt8):List UInt8 × Int:=if wrongV kind bpp prev.length row.length=0 then (doB kind bpp prev row,0) else ([],wrongV kind bpp prev.length row.length)
theorem wrong_bpp {kind bpp:Int} {n n':Nat} (h:wrongV kind bpp n n'=0):1≤bpp∧bpp≤8:=by
 unfold wrongV at h
 split at h
 ·omega
 ·omega
theorem do_any (kind bpp:Int) (B n c B' n' c':Nat) (A A':Option Addr) (prev row:List UInt8) (w:World) (hp:RdB w B A n prev) (hr:RdB w B' A' n' row)
  (hB1:B≤w.heap.size) (hB2:B'≤w.heap.size) (hm:n'≤1000000) :
  Calls Tryz.prog 136 #[.int .i64 kind,.int .i64 bpp,.slice A n c,.slice A' n' c'] w fun e w' =>
   ∃ v,e=.returned (.tuple #[v,.int .i64 (doR kind bpp prev row).2])∧ownB w' w.heap.size v (doR kind bpp prev row).1∧Below w.heap.size w w':=by
 unfold doR
 rw [hp.len,hr.len]
 by_cases h:wrongV kind bpp n n'=0
 ·rw [if_pos h]
  exact do_ok kind bpp B n c B' n' c' A A' prev row w hp hr hB1 hB2 hm h (wrong_bpp h)
 ·rw [if_neg h]
  refine (do_bad kind bpp n c n' c' A A' w _ rfl (by rw [bne_iff_ne];exact h)).mono ?_
  rintro e w' ⟨rfl,rfl⟩
  exact ⟨_,rfl,ownB.nil_ _ _,Below.refl _ _⟩
def wB (x:UInt8):Nat:=min x.toNat (256 - x.toNat)
def weight (l:List UInt8):Nat:=(l.map wB).sum
theorem wB_le (x:UInt8):wB x≤128:=by unfold wB;omega
theorem weight_le (l:List UInt8):weight l≤128 * l.length:=by
 induction l with
 | nil=>simp [weight]
 | cons x l ih=>have:=wB_le x;simp [weight] at *;omega
theorem weight_step (l:List UInt8) {k:Nat} {x:UInt8} (h:l[k]?=some x):weight (l.take (k+1))=weight (l.take k)+wB x:=by
 obtain ⟨hk,rfl⟩:=List.getElem?_eq_some_iff.1 h
 rw [List.take_succ_eq_append_getElem hk]
 simp only [weight,List.map_append,List.sum_append,List.map_cons,List.map_nil,List.sum_cons,List.sum_nil]
 omega
set_option maxRecDepth 100000 in
set_option maxHeartbeats 800000 in
theorem weight_any (B n c:Nat) (A:Option Addr) (bs:List UInt8) (w:World) (h:RdB w B A n bs) (hm:n≤1000000) :
  Calls Tryz.prog 137 #[.slice A n c] w fun e w'=>e=.returned (.int .i64 (weight bs))∧w=w':=by
 obtain rfl:=h.len
 go_enter Tryz.func137,Tryz.ntmps137
 go_wp2
 go_loop [3,8] (fun s i=>∃ k:Nat,k≤bs.length∧i=.int .i64 k∧s=.int .i64 (weight (bs.take k))) (fun _ i=>bs.length - (intOf i).toNat)
 case atStart=>exact ⟨0,Nat.zero_le _,rfl,rfl⟩
 case round =>
  obtain ⟨k,hk,rfl,rfl⟩:=hrel
  by_cases hlt:k < bs.length
  ·obtain ⟨b,o,x,rfl,_,hx,cx⟩:=h.byte hlt
   have x8:=x.toNat_lt
   have hw:=weight_le (bs.take k)
   have hl:(bs.take k).length≤1000000:=by simp;omega
   have HS:=Lib.hid (weight_step bs hx.out)
   clear hx
   go_wp2
   all_goals
    go_round
    case rel=>exact ⟨k+1,by omega,by go_num,by rw [HS.out];unfold wB;congr 1;omega⟩
    case measure=>simp [intOf];omega
  ·have:k=bs.length:=by omega
   subst this
   go_wp2
   go_ret
   exact ⟨fret_int (by simp),rfl⟩
end Go.Proofs.YteoolehdomjkkaaGreat

/- filt: the reference's row filters. -/
namespace Go.Proofs.YteoolehdomjkkaaGreat
set_option linter.all false
open Go.RowKit
theorem abs9_any (a:Int) (w:World) (h:-1000≤a∧a≤1000) :
  Calls Tryz.prog 194 #[.int .i64 a] w fun e w'=>e=.returned (.int .i64 (if a≤0 then -a else a))∧w'=w:=by
 obtain ⟨h1,h2⟩:=h
 go_enter Tryz.func194,Tryz.ntmps194
 go_wp2
 all_goals (go_ret;exact ⟨fret_int (by (try split) <;> (try split) <;> omega),rfl⟩)
theorem abs_dist (p a:Int):(if p - a≤0 then -(p - a) else p - a)=dist p a:=by unfold dist;split <;> split <;> omega
set_option maxRecDepth 100000 in
set_option maxHeartbeats 1600000 in
theorem paeth9_any (a b c:Int) (w:World) (h1:0≤a∧a≤255) (h2:0≤b∧b≤255) (h3:0≤c∧c≤255) :
  Calls Tryz.prog 188 #[.int .i64 a,.int .i64 b,.int .i64 c] w fun e w'=>e=.returned (.int .i64 (paeth a b c))∧w'=w:=by
 obtain ⟨a1,a2⟩:=h1
 obtain ⟨b1,b2⟩:=h2
 obtain ⟨c1,c2⟩:=h3
 go_enter Tryz.func188,Tryz.ntmps188
 go_wp2_with (go_at_call 194;refine (abs9_any _ _ (by omega)).mono ?_;rintro e w' ⟨rfl,rfl⟩;rw [abs_dist])
 all_goals (go_ret;exact ⟨fret_int (by unfold paeth;split <;> (try split) <;> (first | rfl | (exfalso;omega))),rfl⟩)
theorem mayF9_any (kind bpp:Int) (n c n' c':Nat) (A A':Option Addr) (w:World) :
  Calls Tryz.prog 140 #[.int .i64 kind,.int .i64 bpp,.slice A n c,.slice A' n' c'] w fun e w' =>
   e=.returned (.int .i64 (wrongV kind bpp n n'))∧w=w':=by
 by_cases h1:n=0
 ·subst h1
  go_enter Tryz.func140,Tryz.ntmps140
  go_wp2
  all_goals (go_ret;exact ⟨fret_int (by unfold wrongV;split <;> (try split) <;> (first | rfl | (exfalso;omega))),rfl⟩)
 ·have d1:decide (0 < n)=true:=by simp;omega
  by_cases h2:n=n'
  ·subst h2
   go_enter Tryz.func140,Tryz.ntmps140
   go_wp2
   all_goals (go_ret;exact ⟨fret_int (by unfold wrongV;split <;> (try split) <;> (first | rfl | (exfalso;omega))),rfl⟩)
  ·have d2:((n:Int) != n')=true:=by rw [bne_iff_ne];omega
   go_enter Tryz.func140,Tryz.ntmps140
   go_wp2
   all_goals (go_ret;exact ⟨fret_int (by unfold wrongV;split <;> (try split) <;> (first | rfl | (exfalso;omega))),rfl⟩)
theorem back9_any (B n c:Nat) (A:Option Addr) (bs:List UInt8) (i k:Int) (w:World) (h:RdB w B A n bs) (hi:0≤i∧i≤1000000) (hk:0≤k∧k≤8) (h0:n=0∨i < n) :
  Calls Tryz.prog 174 #[.slice A n c,.int .i64 i,.int .i64 k] w fun e w'=>e=.returned (.int .i64 (gAt bs (i - k)))∧w'=w:=by
 obtain rfl:=h.len
 obtain ⟨i1,i2⟩:=hi
 obtain ⟨k1,k2⟩:=hk
 by_cases h1:i - k < 0
 ·have d1:decide (i - k < 0)=true:=by simpa using h1
  rw [gAt_neg bs h1]
  go_enter Tryz.func174,Tryz.ntmps174
  go_wp2
  go_ret
  exact ⟨rfl,rfl⟩
 ·have d1:decide (i - k < 0)=false:=by simpa using h1
  by_cases h2:bs.length=0
  ·obtain ⟨j,hj⟩:=Int.eq_ofNat_of_zero_le (by omega:0≤i - k)
   rw [hj,gAt_past bs (by omega)]
   rw [hj] at d1
   have d2:((bs.length:Int) == 0)=true:=by rw [beq_iff_eq];omega
   have hj2:i - k=(j:Int):=hj
   go_enter Tryz.func174,Tryz.ntmps174
   go_wp2
   go_ret
   exact ⟨rfl,rfl⟩
  ·obtain ⟨j,hj⟩:=Int.eq_ofNat_of_zero_le (by omega:0≤i - k)
   have d2:((bs.length:Int) == 0)=false:=by rw [beq_eq_false_iff_ne];omega
   have hjl:j < bs.length:=by omega
   obtain ⟨b,o,x,rfl,_,hx,cx⟩:=h.byte hjl
   have x8:=x.toNat_lt
   rw [hj,gAt_some bs hx.out]
   obtain rfl:i=(j:Int)+k:=by omega
   have e1:(j:Int)+k - k=j:=by omega
   rw [e1] at d1
   clear hx hj
   go_enter Tryz.func174,Tryz.ntmps174
   go_wp2
   go_ret
   exact ⟨rfl,rfl⟩
set_option maxRecDepth 100000 in
set_option maxHeartbeats 1600000 in
theorem guess9_any (kind a b c:Int) (w:World) (h1:0≤a∧a≤255) (h2:0≤b∧b≤255) (h3:0≤c∧c≤255) :
  Calls Tryz.prog 173 #[.int .i64 kind,.int .i64 a,.int .i64 b,.int .i64 c] w fun e w'=>e=.returned (.int .i64 (gss kind a b c))∧w'=w:=by
 have H1:=h1
 have H2:=h2
 have H3:=h3
 obtain ⟨a1,a2⟩:=h1
 obtain ⟨b1,b2⟩:=h2
 obtain ⟨c1,c2⟩:=h3
 go_enter Tryz.func173,Tryz.ntmps173
 go_wp2_with (go_at_call 188;refine (paeth9_any _ _ _ _ H1 H2 H3).mono ?_;rintro e w' ⟨rfl,rfl⟩)
 all_goals
  go_ret
  refine ⟨fret_int ?_,rfl⟩
  simp only [beq_iff_eq,beq_eq_false_iff_ne,ne_eq] at *
  simp [gss, *]
 all_goals omega
end Go.Proofs.YteoolehdomjkkaaGreat

/- filt: the reference's Do, Undo and Weight. -/
namespace Go.Proofs.YteoolehdomjkkaaGreat
set_option linter.all false
open Go.RowKit
set_option maxRecDepth 100000 in
set_option maxHeartbeats 3200000 in
theorem do9_ok (kind bpp:Int) (B n c B' n' c':Nat) (A A':Option Addr) (prev row:List UInt8) (w:World) (hp:RdB w B A n prev) (hr:RdB w B' A' n' row)
  (hB1:B≤w.heap.size) (hB2:B'≤w.heap.size) (hm:n'≤1000000) (h0:wrongV kind bpp n n'=0) (h1:1≤bpp∧bpp≤8) (h2:n=0∨n=n') :
  Calls Tryz.prog 141 #[.int .i64 kind,.int .i64 bpp,.slice A n c,.slice A' n' c'] w fun e w' =>
   ∃ v,e=.returned (.tuple #[v,.int .i64 0])∧ownB w' w.heap.size v (doB kind bpp prev row)∧Below w.heap.size w w':=by
 obtain rfl:=hr.len
 have H0:=Lib.hid h0
 clear h0
 have HL:=Lib.hid (doB_len kind bpp prev row)
 go_enter Tryz.func141,Tryz.ntmps141
 go_wp2_with (first
  | (go_at_call 140;refine (mayF9_any _ _ _ _ _ _ _ _ _).mono ?_;rintro e w' ⟨rfl,rfl⟩;rw [H0.out])
  | (at_make;refine wpList_makeB rfl _ _ rfl row.length _ rfl rfl rfl (by omega) ?_))
 intro w1 hown hb hsz
 go_wp2
 go_loopw [12] (fun i wr=>∃ k:Nat,k≤row.length∧i=.int .i64 k∧ownB wr w.heap.size (.slice (some ⟨w.heap.size,0,none⟩) row.length row.length) (fillTo (doB kind bpp prev row) k)∧Below w.heap.size w wr)
  (fun i _=>row.length - (intOf i).toNat)
 case atStart=>exact ⟨0,Nat.zero_le _,rfl,by rw [fillTo_zero,HL.out];exact hown,hb⟩
 case round =>
  obtain ⟨k,hk,rfl,hown1,hbb⟩:=hrel
  have HF:Hid (row.length=(fillTo (doB kind bpp prev row) k).length):=by show _=_;rw [fillTo_len _ _ (by rw [HL.out];exact hk),HL.out]
  by_cases hlt:k < row.length
  ·have hp1:RdB wr.drew B A n prev:=(hp.blw (hbb.mono hB1)).drew
   have hr1:RdB wr.drew B' A' row.length row:=(hr.blw (hbb.mono hB2)).drew
   have c1:=back9_any _ _ c' _ row k bpp _ hr1 ⟨by omega,by omega⟩ ⟨by omega,by omega⟩ (.inr (by omega))
   have c2:=back9_any _ _ c _ prev k 0 _ hp1 ⟨by omega,by omega⟩ ⟨by omega,by omega⟩ (by omega)
   have c3:=back9_any _ _ c _ prev k bpp _ hp1 ⟨by omega,by omega⟩ ⟨by omega,by omega⟩ (by omega)
   rw [Int.sub_zero] at c2
   have c4:=guess9_any kind _ _ _ wr.drew (gAt_rng row (k - bpp)) (gAt_rng prev k) (gAt_rng prev (k - bpp))
   obtain ⟨b,o,x,rfl,hbo,hx,cx⟩:=hr1.byte hlt
   obtain ⟨d0,_,cd⟩:=hown1.byte HF.out hlt
   have fd:=hown1.frozen HF.out k
   have Hs:Hid (ownB (wr.setCell ⟨w.heap.size,k,none⟩ (.int .u8 (((x.toNat:Int) - gss kind (gAt row (k - bpp)) (gAt prev k) (gAt prev (k - bpp))) % 256))).drew w.heap.size (.slice (some ⟨w.heap.size,0,none⟩) row.length row.length) (fillTo (doB kind bpp prev row) (k+1))):=by
    rw [fillTo_put _ k _ (doB_at kind bpp prev row hx.out),← gB_val,sub_u8]
    exact (hown1.store HF.out k _).drew
   clear hx
   go_wp2
   refine wp_region_still_tail 22 (by kernel_rfl) (by kernel_rfl) ?_
   simp only [List.take_succ_cons,List.take_zero,List.drop_succ_cons,List.drop_zero]
   change wpStill _ _ wr.drew _ _ _
   iterate 22 (first | still_step | (refine wpStill_step (fun K hK=>?_);go_simp;with_reducible refine ⟨_,c1,hK _ ?_⟩;clear hK K) | (refine wpStill_step (fun K hK=>?_);go_simp;with_reducible refine ⟨_,c2,hK _ ?_⟩;clear hK K) | (refine wpStill_step (fun K hK=>?_);go_simp;with_reducible refine ⟨_,c3,hK _ ?_⟩;clear hK K) | (refine wpStill_step (fun K hK=>?_);go_simp;with_reducible refine ⟨_,c4,hK _ ?_⟩;clear hK K))
   refine wpStill_nil ?_
   go_wp2
   go_roundw
   case rel=>exact ⟨k+1,by omega,by go_num,Hs.out,(hbb.setCell (Nat.le_refl _) _).drew⟩
   case measure=>simp [intOf];omega
  ·have:k=row.length:=by omega
   subst this
   rw [show fillTo (doB kind bpp prev row) row.length=doB kind bpp prev row by have:=fillTo_end (doB kind bpp prev row);rwa [HL.out] at this] at hown1
   go_wp2
   go_ret2
   exact ⟨_,rfl,hown1,hbb⟩
theorem do9_bad (kind bpp:Int) (n c n' c':Nat) (A A':Option Addr) (w:World) (E:Int) (h0:wrongV kind bpp n n'=E) (hE:(E != 0)=true) :
  Calls Tryz.prog 141 #[.int .i64 kind,.int .i64 bpp,.slice A n c,.slice A' n' c'] w fun e w'=>e=.returned (.tuple #[.slice none 0 0,.int .i64 E])∧w=w':=by
 have H0:=Lib.hid h0
 clear h0
 go_enter Tryz.func141,Tryz.ntmps141
 go_wp2_with (go_at_call 140;refine (mayF9_any _ _ _ _ _ _ _ _ _).mono ?_;rintro e w' ⟨rfl,rfl⟩;rw [H0.out])
 go_ret2
 exact ⟨rfl,rfl⟩
theorem wrong_len {kind bpp:Int} {n n':Nat} (h:wrongV kind bpp n n'=0):n=0∨n=n':=by
 unfold wrongV at h
 split at h
 ·omega
 ·split at h <;> omega
theorem do9_any (kind bpp:Int) (B n c B' n' c':Nat) (A A':Option Addr) (prev row:List UInt8) (w:World) (hp:RdB w B A n prev) (hr:RdB w B' A' n' row)
  (hB1:B≤w.heap.size) (hB2:B'≤w.heap.size) (hm:n'≤1000000) :
  Calls Tryz.prog 141 #[.int .i64 kind,.int .i64 bpp,.slice A n c,.slice A' n' c'] w fun e w' =>
   ∃ v,e=.returned (.tuple #[v,.int .i64 (doR kind bpp prev row).2])∧ownB w' w.heap.size v (doR kind bpp prev row).1∧Below w.heap.size w w':=by
 unfold doR
 rw [hp.len,hr.len]
 by_cases h:wrongV kind bpp n n'=0
 ·rw [if_pos h]
  exact do9_ok kind bpp B n c B' n' c' A A' prev row w hp hr hB1 hB2 hm h (wrong_bpp h) (wrong_len h)
 ·rw [if_neg h]
  refine (do9_bad kind bpp n c n' c' A A' w _ rfl (by rw [bne_iff_ne];exact h)).mono ?_
  rintro e w' ⟨rfl,rfl⟩
  exact ⟨_,rfl,ownB.nil_ _ _,Below.refl _ _⟩
set_option maxRecDepth 100000 in
set_option maxHeartbeats 800000 in
theorem weight9_any (B n c:Nat) (A:Option Addr) (bs:List UInt8) (w:World) (h:RdB w B A n bs) (hm:n≤1000000) (hB:B≤w.heap.size) :
  Calls Tryz.prog 142 #[.slice A n c] w fun e w'=>e=.returned (.int .i64 (weight bs))∧Below w.heap.size w w':=by
 obtain rfl:=h.len
 go_enter Tryz.func142,Tryz.ntmps142
 go_wp2
 go_loopw [3,4] (fun s i wr=>∃ k:Nat,k≤bs.length∧i=.int .i64 k∧s=.int .i64 (weight (bs.take k))∧Below w.heap.size w wr) (fun _ i _=>bs.length - (intOf i).toNat)
 case atStart=>exact ⟨0,Nat.zero_le _,rfl,rfl,Below.refl _ _⟩
 case round =>
  obtain ⟨k,hk,rfl,rfl,hbb⟩:=hrel
  by_cases hlt:k < bs.length
  ·obtain ⟨b,o,x,rfl,_,hx,cx⟩:=(h.blw (hbb.mono hB)).byte hlt
   have x8:=x.toNat_lt
   have hw:=weight_le (bs.take k)
   have hl:(bs.take k).length≤1000000:=by simp;omega
   have HS:=Lib.hid (weight_step bs hx.out)
   clear hx
   go_wp2
   go_region
   go_wp2
   all_goals
    go_roundw
    case rel=>exact ⟨k+1,by omega,by go_num,by rw [HS.out];unfold wB;congr 1;omega,by first | exact hbb | exact hbb.drew⟩
    case measure=>simp [intOf];omega
  ·have:k=bs.length:=by omega
   subst this
   go_wp2
   go_ret
   exact ⟨fret_int (by simp),hbb⟩
end Go.Proofs.YteoolehdomjkkaaGreat

/- filt: the best filter. -/
namespace Go.Proofs.YteoolehdomjkkaaGreat
set_option linter.all false
open Go.RowKit
/-- The first of the kinds below k whose list weighs the least. -/
def bk (f:Nat→List UInt8):Nat→Nat
 | 0=>0
 | 1=>0
 | k+2=>if weight (f (k+1)) < weight (f (bk f (k+1))) then k+1 else bk f (k+1)
theorem bk_lt (f:Nat→List UInt8):∀ k,bk f (k+1)≤k
 | 0=>Nat.le_refl _
 | k+1=>by
  have:=bk_lt f k
  unfold bk
  split <;> omega
def bV (f:Nat→List UInt8) (k:Nat):List UInt8:=if k=0 then [] else f (bk f k)
theorem bV_succ (f:Nat→List UInt8) (k:Nat) (h:k ≠ 0):bk f (k+1)=(if weight (f k) < weight (bV f k) then k else bk f k)∧bV f (k+1)=if weight (f k) < weight (bV f k) then f k else bV f k:=by
 cases k with
 | zero=>exact absurd rfl h
 | succ k =>
  have e:bk f (k+1+1)=if weight (f (k+1)) < weight (f (bk f (k+1))) then k+1 else bk f (k+1):=rfl
  have e1:bV f (k+1)=f (bk f (k+1)):=if_neg (Nat.add_one_ne_zero _)
  have e2:bV f (k+1+1)=f (bk f (k+1+1)):=if_neg (Nat.add_one_ne_zero _)
  rw [e1,e2,e]
  split <;> exact ⟨rfl,rfl⟩
def dK (bpp:Int) (prev row:List UInt8) (k:Nat):List UInt8:=doB k bpp prev row
theorem wrong_kind (bpp:Int) (n n' k:Nat) (hk:k≤4):wrongV k bpp n n'=wrongV 0 bpp n n':=by
 unfold wrongV
 have e:((k:Int) < 0∨4 < (k:Int)∨bpp < 1∨8 < bpp) ↔ ((0:Int) < 0∨(4:Int) < 0∨bpp < 1∨8 < bpp):=by constructor <;> intro h <;> omega
 simp only [e]
theorem bV_len (bpp:Int) (prev row:List UInt8) (k:Nat):(bV (dK bpp prev row) k).length≤row.length:=by
 unfold bV
 split
 ·exact Nat.zero_le _
 ·show (doB _ _ _ _).length≤_;rw [doB_len];exact Nat.le_refl _
set_option maxRecDepth 100000 in
set_option maxHeartbeats 3200000 in
theorem best_ok (bpp:Int) (B n c B' n' c':Nat) (A A':Option Addr) (prev row:List UInt8) (w:World) (hp:RdB w B A n prev) (hr:RdB w B' A' n' row)
  (hB1:B≤w.heap.size) (hB2:B'≤w.heap.size) (hm:n'≤1000000) (h0:wrongV 0 bpp n n'=0) :
  Calls Tryz.prog 82 #[.int .i64 bpp,.slice A n c,.slice A' n' c'] w fun e w' =>
   ∃ v,e=.returned (.tuple #[.int .i64 (bk (dK bpp prev row) 5),v,.int .i64 0])∧ownB w' w.heap.size v (bV (dK bpp prev row) 5)∧Below w.heap.size w w':=by
 have hl:=hr.len
 have hpl:=hp.len
 have h1:=wrong_bpp h0
 have HN:=Lib.hid hl
 have HP:=Lib.hid hpl
 clear hl hpl
 have H0:=Lib.hid (fun k (hk:k≤4)=>(wrong_kind bpp n n' k hk).trans h0)
 clear h0
 go_enter Tryz.func82,Tryz.ntmps82
 go_wp2
 go_loopw [9,10,11] (fun kd bv i wr=>∃ k:Nat,k≤5∧i=.int .i64 k∧kd=.int .i64 (bk (dK bpp prev row) k)∧ownB wr w.heap.size bv (bV (dK bpp prev row) k)∧Below w.heap.size w wr)
  (fun _ _ i _=>5 - (intOf i).toNat)
 case atStart=>exact ⟨0,Nat.zero_le _,rfl,rfl,ownB.nil_ _ _,Below.refl _ _⟩
 case round =>
  obtain ⟨k,hk,rfl,rfl,hbv,hB⟩:=hrel
  by_cases hlt:k < 5
  ·have HD:=Lib.hid (show doR k bpp prev row=(dK bpp prev row k,0) by unfold doR;rw [HP.out,HN.out,if_pos (H0.out k (by omega))];rfl)
   have hDl:=Lib.hid (show (dK bpp prev row k).length=n' by rw [← HN.out];exact doB_len _ _ _ _)
   have hVl:=Lib.hid (bV_len bpp prev row k)
   obtain ⟨Ab,nb,cb,rfl,_,lb,_⟩:=hbv.slice
   have hnb:nb≤1000000:=by have:=hbv.rd.len;have:=hVl.out;have:=HN.out;omega
   have hw1:=weight_le (dK bpp prev row k)
   have hw2:=weight_le (bV (dK bpp prev row) k)
   have HS:=Lib.hid (bV_succ (dK bpp prev row) k)
   go_wp2_with (first
    | (go_at_call 136;go_must (refine (do_any k bpp _ _ _ _ _ _ _ _ prev row _ (hp.blw (hB.mono hB1)) (hr.blw (hB.mono hB2)) (Nat.le_trans hB1 hB.size) (Nat.le_trans hB2 hB.size) hm).mono ?_;rintro e w1 ⟨v1,rfl,hx,hb1⟩;rw [HD.out] at hx ⊢;dsimp only at hx ⊢;replace hx:=hx.mono hB.size;obtain ⟨Ax,nx,cx,rfl,_,lx,_⟩:=hx.slice;replace hbv:=hbv.later hb1;replace hB:=bstep hB hb1 (Nat.le_refl _);clear hb1;have hnx:nx≤1000000:=(by have h5:=hx.rd.len;have h6:=hDl.out;omega)))
    | (go_at_call 137;(with_reducible refine (weight_any _ _ _ _ (dK bpp prev row k) _ hx.rd hnx).mono ?_);rintro e w1 ⟨rfl,rfl⟩)
    | (go_at_call 137;(with_reducible refine (weight_any _ _ _ _ (bV (dK bpp prev row) k) _ hbv.rd hnb).mono ?_);rintro e w1 ⟨rfl,rfl⟩))
   all_goals
    (try simp only [beq_iff_eq,beq_eq_false_iff_ne,ne_eq] at *)
    go_roundw
    case rel =>
     refine ⟨k+1,by omega,by go_num,?_,?_,hB⟩
     ·by_cases hk0:k=0
      ·subst hk0;first | rfl | omega
      ·rw [(HS.out hk0).1]
       congr 1
       split <;> (first | rfl | omega)
     ·by_cases hk0:k=0
      ·subst hk0;first | exact hx | omega
      ·rw [(HS.out hk0).2]
       split <;> (first | assumption | omega)
    case measure=>simp [intOf];omega
  ·have:k=5:=by omega
   subst this
   go_wp2
   go_ret3
   exact ⟨_,rfl,hbv,hB⟩
set_option maxRecDepth 100000 in
set_option maxHeartbeats 3200000 in
theorem best9_ok (bpp:Int) (B n c B' n' c':Nat) (A A':Option Addr) (prev row:List UInt8) (w:World) (hp:RdB w B A n prev) (hr:RdB w B' A' n' row)
  (hB1:B≤w.heap.size) (hB2:B'≤w.heap.size) (hm:n'≤1000000) (h0:wrongV 0 bpp n n'=0) :
  Calls Tryz.prog 91 #[.int .i64 bpp,.slice A n c,.slice A' n' c'] w fun e w' =>
   ∃ v,e=.returned (.tuple #[.int .i64 (bk (dK bpp prev row) 5),v,.int .i64 0])∧ownB w' w.heap.size v (bV (dK bpp prev row) 5)∧Below w.heap.size w w':=by
 have hl:=hr.len
 have hpl:=hp.len
 have h1:=wrong_bpp h0
 have HN:=Lib.hid hl
 have HP:=Lib.hid hpl
 clear hl hpl
 have H0:=Lib.hid (fun k (hk:k≤4)=>(wrong_kind bpp n n' k hk).trans h0)
 have HZ:=Lib.hid h0
 clear h0
 go_enter Tryz.func91,Tryz.ntmps91
 go_wp2_with (go_at_call 140;refine (mayF9_any _ _ _ _ _ _ _ _ _).mono ?_;rintro e w' ⟨rfl,rfl⟩;rw [HZ.out])
 go_loopw [9,10,12] (fun kd bv i wr=>∃ k:Nat,k≤5∧i=.int .i64 k∧kd=.int .i64 (bk (dK bpp prev row) k)∧ownB wr w.heap.size bv (bV (dK bpp prev row) k)∧Below w.heap.size w wr)
  (fun _ _ i _=>5 - (intOf i).toNat)
 case atStart=>exact ⟨0,Nat.zero_le _,rfl,rfl,ownB.nil_ _ _,Below.refl _ _⟩
 case round =>
  obtain ⟨k,hk,rfl,rfl,hbv,hB⟩:=hrel
  by_cases hlt:k < 5
  ·have HD:=Lib.hid (show doR k bpp prev row=(dK bpp prev row k,0) by unfold doR;rw [HP.out,HN.out,if_pos (H0.out k (by omega))];rfl)
   have hDl:=Lib.hid (show (dK bpp prev row k).length=n' by rw [← HN.out];exact doB_len _ _ _ _)
   have hVl:=Lib.hid (bV_len bpp prev row k)
   obtain ⟨Ab,nb,cb,rfl,_,lb,_⟩:=hbv.slice
   have hnb:nb≤1000000:=by have:=hbv.rd.len;have:=hVl.out;have:=HN.out;omega
   have hw1:=weight_le (dK bpp prev row k)
   have hw2:=weight_le (bV (dK bpp prev row) k)
   have HS:=Lib.hid (bV_succ (dK bpp prev row) k)
   go_wp2_with (first
    | (go_at_call 141;go_must (refine (do9_any k bpp _ _ _ _ _ _ _ _ prev row _ (hp.blw (hB.mono hB1)) (hr.blw (hB.mono hB2)) (Nat.le_trans hB1 hB.size) (Nat.le_trans hB2 hB.size) hm).mono ?_;rintro e w1 ⟨v1,rfl,hx,hb1⟩;rw [HD.out] at hx ⊢;dsimp only at hx ⊢;replace hx:=hx.mono hB.size;obtain ⟨Ax,nx,cx,rfl,_,lx,_⟩:=hx.slice;replace hbv:=hbv.later hb1;replace hB:=bstep hB hb1 (Nat.le_refl _);clear hb1;have hnx:nx≤1000000:=(by have h5:=hx.rd.len;have h6:=hDl.out;omega)))
    | (go_at_call 142;(with_reducible refine (weight9_any _ _ _ _ (dK bpp prev row k) _ hx.rd hnx (Nat.le_refl _)).mono ?_);rintro e w1 ⟨rfl,hb1⟩;replace hx:=hx.later hb1;replace hbv:=hbv.later hb1;replace hB:=bstep hB hb1 (Nat.le_refl _);clear hb1)
    | (go_at_call 142;(with_reducible refine (weight9_any _ _ _ _ (bV (dK bpp prev row) k) _ hbv.rd hnb (Nat.le_refl _)).mono ?_);rintro e w1 ⟨rfl,hb1⟩;replace hx:=hx.later hb1;replace hbv:=hbv.later hb1;replace hB:=bstep hB hb1 (Nat.le_refl _);clear hb1))
   all_goals
    (try simp only [beq_iff_eq,beq_eq_false_iff_ne,ne_eq] at *)
    go_roundw
    case rel =>
     refine ⟨k+1,by omega,by go_num,?_,?_,hB⟩
     ·by_cases hk0:k=0
      ·subst hk0;first | rfl | omega
      ·rw [(HS.out hk0).1]
       congr 1
       split <;> (first | rfl | omega)
     ·by_cases hk0:k=0
      ·subst hk0;first | exact hx | omega
      ·rw [(HS.out hk0).2]
       split <;> (first | assumption | omega)
    case measure=>simp [intOf];omega
  ·have:k=5:=by omega
   subst this
   go_wp2
   go_ret3
   exact ⟨_,rfl,hbv,hB⟩
theorem best_bad (bpp:Int) (B n c B' n' c':Nat) (A A':Option Addr) (prev row:List UInt8) (w:World) (hp:RdB w B A n prev) (hr:RdB w B' A' n' row)
  (hB1:B≤w.heap.size) (hB2:B'≤w.heap.size) (hm:n'≤1000000) (E:Int) (h0:wrongV 0 bpp n n'=E) (hE:(E != 0)=true) :
  Calls Tryz.prog 82 #[.int .i64 bpp,.slice A n c,.slice A' n' c'] w fun e w'=>e=.returned (.tuple #[.int .i64 0,.slice none 0 0,.int .i64 E])∧w=w':=by
 have H0:=Lib.hid h0
 clear h0 hp hr
 go_enter Tryz.func82,Tryz.ntmps82
 go_wp2
 refine wp_loop_rounds 1 ?_
 rw [rounds_succ]
 go_wp2_with (go_at_call 136;go_must (refine (do_bad 0 bpp _ _ _ _ _ _ _ E H0.out hE).mono ?_;rintro e w1 ⟨rfl,rfl⟩))
 go_ret3
 exact ⟨rfl,rfl⟩
theorem best9_bad (bpp:Int) (n c n' c':Nat) (A A':Option Addr) (w:World)
  (E:Int) (h0:wrongV 0 bpp n n'=E) (hE:(E != 0)=true) :
  Calls Tryz.prog 91 #[.int .i64 bpp,.slice A n c,.slice A' n' c'] w fun e w'=>e=.returned (.tuple #[.int .i64 0,.slice none 0 0,.int .i64 E])∧w=w':=by
 have H0:=Lib.hid h0
 clear h0
 go_enter Tryz.func91,Tryz.ntmps91
 go_wp2_with (go_at_call 140;refine (mayF9_any _ _ _ _ _ _ _ _ _).mono ?_;rintro e w' ⟨rfl,rfl⟩;rw [H0.out])
 go_ret3
 exact ⟨rfl,rfl⟩
def bestR (bpp:Int) (prev row:List UInt8):Int × List UInt8 × Int :=
 if wrongV 0 bpp prev.length row.length=0 then ((bk (dK bpp prev row) 5:Nat),bV (dK bpp prev row) 5,0) else (0,[],wrongV 0 bpp prev.length row.length)
theorem best_any (bpp:Int) (B n c B' n' c':Nat) (A A':Option Addr) (prev row:List UInt8) (w:World) (hp:RdB w B A n prev) (hr:RdB w B' A' n' row)
  (hB1:B≤w.heap.size) (hB2:B'≤w.heap.size) (hm:n'≤1000000) :
  Calls Tryz.prog 82 #[.int .i64 bpp,.slice A n c,.slice A' n' c'] w fun e w' =>
   ∃ v,e=.returned (.tuple #[.int .i64 (bestR bpp prev row).1,v,.int .i64 (bestR bpp prev row).2.2])∧ownB w' w.heap.size v (bestR bpp prev row).2.1∧Below w.heap.size w w':=by
 unfold bestR
 rw [hp.len,hr.len]
 by_cases h:wrongV 0 bpp n n'=0
 ·rw [if_pos h]
  exact best_ok bpp B n c B' n' c' A A' prev row w hp hr hB1 hB2 hm h
 ·rw [if_neg h]
  refine (best_bad bpp B n c B' n' c' A A' prev row w hp hr hB1 hB2 hm _ rfl (by rw [bne_iff_ne];exact h)).mono ?_
  rintro e w' ⟨rfl,rfl⟩
  exact ⟨_,rfl,ownB.nil_ _ _,Below.refl _ _⟩
theorem best9_any (bpp:Int) (B n c B' n' c':Nat) (A A':Option Addr) (prev row:List UInt8) (w:World) (hp:RdB w B A n prev) (hr:RdB w B' A' n' row)
  (hB1:B≤w.heap.size) (hB2:B'≤w.heap.size) (hm:n'≤1000000) :
  Calls Tryz.prog 91 #[.int .i64 bpp,.slice A n c,.slice A' n' c'] w fun e w' =>
   ∃ v,e=.returned (.tuple #[.int .i64 (bestR bpp prev row).1,v,.int .i64 (bestR bpp prev row).2.2])∧ownB w' w.heap.size v (bestR bpp prev row).2.1∧Below w.heap.size w w':=by
 unfold bestR
 rw [hp.len,hr.len]
 by_cases h:wrongV 0 bpp n n'=0
 ·rw [if_pos h]
  exact best9_ok bpp B n c B' n' c' A A' prev row w hp hr hB1 hB2 hm h
 ·rw [if_neg h]
  refine (best9_bad bpp n c n' c' A A' w _ rfl (by rw [bne_iff_ne];exact h)).mono ?_
  rintro e w' ⟨rfl,rfl⟩
  exact ⟨_,rfl,ownB.nil_ _ _,Below.refl _ _⟩
end Go.Proofs.YteoolehdomjkkaaGreat

