/- XFilt2 XFilt3 XFilt4 XFilt5 -/
import Derived.Test.YtebbdifhiihfkaaGreatDoorMh02
import Derived.StillTailTactics
namespace Go.Proofs.YtebbdifhiihfkaaGreatDoor
set_option linter.all false
open Go.RowKit
def doB (kind bpp:Int) (prev row:List UInt8):List UInt8:=(List.range row.length).map fun i=>row.getD i 0 - gB kind bpp i prev row
theorem doB_len (kind bpp:Int) (prev row:List UInt8):(doB kind bpp prev row).length=row.length:=by simp [doB]
theorem doB_at (kind bpp:Int) (prev row:List UInt8) {k:Nat} {x:UInt8} (h:row[k]?=some x):(doB kind bpp prev row)[k]?=some (x - gB kind bpp k prev row):=by
 obtain ⟨hk,rfl⟩:=List.getElem?_eq_some_iff.1 h
 simp [doB,hk,List.getD]
set_option maxRecDepth 100000 in
set_option maxHeartbeats 1600000 in
theorem do_ok (kind bpp:Int) (B n c B' n' c':Nat) (A A':Option Addr) (prev row:List UInt8) (w:World) (hp:RdB w B A n prev) (hr:RdB w B' A' n' row)
  (hB1:B≤w.heap.size) (hB2:B'≤w.heap.size) (hm:n'≤1000000) (h0:wrongV kind bpp n n'=0) (h1:1≤bpp∧bpp≤8) :
  Calls Tryz.prog 95 #[.int .i64 kind,.int .i64 bpp,.slice A n c,.slice A' n' c'] w fun e w' =>
   ∃ v,e=.returned (.tuple #[v,.int .i64 0])∧ownB w' w.heap.size v (doB kind bpp prev row)∧Below w.heap.size w w':=by
 obtain rfl:=hr.len
 have H0:=Lib.hid h0
 clear h0
 have HL:=Lib.hid (doB_len kind bpp prev row)
 go_enter Tryz.func95,Tryz.ntmps95
 go_wp2_with (first
  | (go_at_call 107;refine (fwrong_any _ _ _ _ _ _ _ _ _).mono ?_;rintro e w' ⟨rfl,rfl⟩;rw [H0.out])
  | (at_make;refine wpList_makeB rfl _ _ rfl row.length _ rfl rfl rfl (by omega) ?_))
 intro w1 hown hb hsz
 go_wp2
 go_loopw [27] (fun i wr=>∃ k:Nat,k≤row.length∧i=.int .i64 k∧ownB wr w.heap.size (.slice (some ⟨w.heap.size,0,none⟩) row.length row.length) (fillTo (doB kind bpp prev row) k)∧Below w.heap.size w wr)
  (fun i _=>row.length - (intOf i).toNat)
 case atStart=>exact ⟨0,Nat.zero_le _,rfl,by rw [fillTo_zero,HL.out];exact hown,hb⟩
 case round =>
  obtain ⟨k,hk,rfl,hown1,hbb⟩:=hrel
  have HF:Hid (row.length=(fillTo (doB kind bpp prev row) k).length):=by show _=_;rw [fillTo_len _ _ (by rw [HL.out];exact hk),HL.out]
  by_cases hlt:k < row.length
  ·have hp1:=hp.blw (hbb.mono hB1)
   have hr1:=hr.blw (hbb.mono hB2)
   obtain ⟨b,o,x,rfl,hbo,hx,cx⟩:=hr1.byte hlt
   obtain ⟨d0,_,cd⟩:=hown1.byte HF.out hlt
   have fd:=hown1.frozen HF.out k
   have Hs:Hid (ownB (wr.setCell ⟨w.heap.size,k,none⟩ (.int .u8 ((x - gB kind bpp k prev row).toNat:Int))) w.heap.size (.slice (some ⟨w.heap.size,0,none⟩) row.length row.length) (fillTo (doB kind bpp prev row) (k+1))):=by
    rw [fillTo_put _ k _ (doB_at kind bpp prev row hx.out)]
    exact hown1.store HF.out k _
   have hsub:=sub_u8 x (gB kind bpp k prev row)
   clear hx
   go_wp2_with (go_at_call 108;refine (guess_any _ _ _ _ _ _ _ _ _ _ _ prev row _ hp1 hr1 h1 (by omega)).mono ?_;rintro e w' ⟨rfl,rfl⟩)
   go_roundw
   case rel=>exact ⟨k+1,by omega,by go_num,Hs.out,hbb.setCell (Nat.le_refl _) _⟩
   case measure=>simp [intOf];omega
  ·have:k=row.length:=by omega
   subst this
   rw [show fillTo (doB kind bpp prev row) row.length=doB kind bpp prev row by have:=fillTo_end (doB kind bpp prev row);rwa [HL.out] at this] at hown1
   go_wp2
   go_ret2
   exact ⟨_,rfl,hown1,hbb⟩
theorem do_bad (kind bpp:Int) (n c n' c':Nat) (A A':Option Addr) (w:World) (E:Int) (h0:wrongV kind bpp n n'=E) (hE:(E != 0)=true) :
  Calls Tryz.prog 95 #[.int .i64 kind,.int .i64 bpp,.slice A n c,.slice A' n' c'] w fun e w'=>e=.returned (.tuple #[.slice none 0 0,.int .i64 E])∧w=w':=by
 have H0:=Lib.hid h0
 clear h0
 go_enter Tryz.func95,Tryz.ntmps95
 go_wp2_with (go_at_call 107;refine (fwrong_any _ _ _ _ _ _ _ _ _).mono ?_;rintro e w' ⟨rfl,rfl⟩;rw [H0.out])
 go_ret2
 exact ⟨rfl,rfl⟩
theorem undo_bad (kind bpp:Int) (n c n' c':Nat) (A A':Option Addr) (w:World) (E:Int) (h0:wrongV kind bpp n n'=E) (hE:(E != 0)=true) :
  Calls Tryz.prog 87 #[.int .i64 kind,.int .i64 bpp,.slice A n c,.slice A' n' c'] w fun e w'=>e=.returned (.tuple #[.slice none 0 0,.int .i64 E])∧w=w':=by
 have H0:=Lib.hid h0
 clear h0
 go_enter Tryz.func87,Tryz.ntmps87
 go_wp2_with (go_at_call 107;refine (fwrong_any _ _ _ _ _ _ _ _ _).mono ?_;rintro e w' ⟨rfl,rfl⟩;rw [H0.out])
 go_ret2
 exact ⟨rfl,rfl⟩
/-- The first k bytes of the row that was filtered. -/
def undoTo (kind bpp:Int) (prev row:List UInt8):Nat→List UInt8
 | 0=>[]
 | k+1=>undoTo kind bpp prev row k ++ [row.getD k 0+gB kind bpp k prev (undoTo kind bpp prev row k)]
theorem undoTo_len (kind bpp:Int) (prev row:List UInt8) (k:Nat):(undoTo kind bpp prev row k).length=k:=by
 induction k with
 | zero=>rfl
 | succ k ih=>simp [undoTo,ih]
def undoB (kind bpp:Int) (prev row:List UInt8):List UInt8:=undoTo kind bpp prev row row.length
theorem gB_front (kind bpp:Int) (prev l m:List UInt8) (k:Nat) (hk:k=l.length) (hb:1≤bpp):gB kind bpp k prev (l ++ m)=gB kind bpp k prev l:=by
 have e:gAt (l ++ m) ((k:Int) - bpp)=gAt l ((k:Int) - bpp):=by
  unfold gAt
  by_cases h:0≤(k:Int) - bpp
  ·rw [if_pos h,if_pos h]
   simp only [List.getD]
   rw [List.getElem?_append_left (by omega)]
  ·rw [if_neg h,if_neg h]
 unfold gB
 rw [e]
/-- What lies in out after k rounds. -/
def undoF (kind bpp:Int) (prev row:List UInt8) (k:Nat):List UInt8:=undoTo kind bpp prev row k ++ List.replicate (row.length - k) 0
theorem undoF_len (kind bpp:Int) (prev row:List UInt8) (k:Nat) (h:k≤row.length):(undoF kind bpp prev row k).length=row.length:=by
 simp [undoF,undoTo_len];omega
theorem undoF_step (kind bpp:Int) (prev row:List UInt8) {k:Nat} {x:UInt8} (h:row[k]?=some x) (hb:1≤bpp) :
  undoF kind bpp prev row (k+1)=(undoF kind bpp prev row k).set k (x+gB kind bpp k prev (undoF kind bpp prev row k)):=by
 obtain ⟨hk,hx⟩:=List.getElem?_eq_some_iff.1 h
 have e:gB kind bpp k prev (undoF kind bpp prev row k)=gB kind bpp k prev (undoTo kind bpp prev row k):=gB_front kind bpp prev _ _ k (undoTo_len kind bpp prev row k).symm hb
 rw [e]
 unfold undoF
 have h1:row.length - k=(row.length - (k+1))+1:=by omega
 rw [h1,List.replicate_succ,List.set_append_right _ _ (by rw [undoTo_len];omega),undoTo_len,Nat.sub_self,List.set_cons_zero]
 simp only [undoTo,List.append_assoc]
 rw [show row.getD k 0=x by simp [List.getD,h]]
 rfl
set_option maxRecDepth 100000 in
set_option maxHeartbeats 1600000 in
theorem undo_ok (kind bpp:Int) (B n c B' n' c':Nat) (A A':Option Addr) (prev row:List UInt8) (w:World) (hp:RdB w B A n prev) (hr:RdB w B' A' n' row)
  (hB1:B≤w.heap.size) (hB2:B'≤w.heap.size) (hm:n'≤1000000) (h0:wrongV kind bpp n n'=0) (h1:1≤bpp∧bpp≤8) :
  Calls Tryz.prog 87 #[.int .i64 kind,.int .i64 bpp,.slice A n c,.slice A' n' c'] w fun e w' =>
   ∃ v,e=.returned (.tuple #[v,.int .i64 0])∧ownB w' w.heap.size v (undoB kind bpp prev row)∧Below w.heap.size w w':=by
 obtain rfl:=hr.len
 have H0:=Lib.hid h0
 clear h0
 go_enter Tryz.func87,Tryz.ntmps87
 go_wp2_with (first
  | (go_at_call 107;refine (fwrong_any _ _ _ _ _ _ _ _ _).mono ?_;rintro e w' ⟨rfl,rfl⟩;rw [H0.out])
  | (at_make;refine wpList_makeB rfl _ _ rfl row.length _ rfl rfl rfl (by omega) ?_))
 intro w1 hown hb hsz
 go_wp2
 go_loopw [27] (fun i wr=>∃ k:Nat,k≤row.length∧i=.int .i64 k∧ownB wr w.heap.size (.slice (some ⟨w.heap.size,0,none⟩) row.length row.length) (undoF kind bpp prev row k)∧Below w.heap.size w wr)
  (fun i _=>row.length - (intOf i).toNat)
 case atStart=>exact ⟨0,Nat.zero_le _,rfl,hown,hb⟩
 case round =>
  obtain ⟨k,hk,rfl,hown1,hbb⟩:=hrel
  have HF:Hid (row.length=(undoF kind bpp prev row k).length):=(undoF_len kind bpp prev row k hk).symm
  by_cases hlt:k < row.length
  ·have hp1:=hp.blw (hbb.mono hB1)
   have hr1:=hr.blw (hbb.mono hB2)
   have ho1:=hown1.rd
   obtain ⟨b,o,x,rfl,hbo,hx,cx⟩:=hr1.byte hlt
   obtain ⟨d0,_,cd⟩:=hown1.byte HF.out hlt
   have fd:=hown1.frozen HF.out k
   have Hs:Hid (ownB (wr.setCell ⟨w.heap.size,k,none⟩ (.int .u8 (((x.toNat:Int)+((gB kind bpp k prev (undoF kind bpp prev row k)).toNat:Int)) % 256))) w.heap.size (.slice (some ⟨w.heap.size,0,none⟩) row.length row.length) (undoF kind bpp prev row (k+1))):=by
    rw [undoF_step kind bpp prev row hx.out h1.1,add_u8]
    exact hown1.store HF.out k _
   clear hx
   go_wp2_with (go_at_call 108;refine (guess_any _ _ _ _ _ _ _ _ _ _ _ prev (undoF kind bpp prev row k) _ hp1 ho1 h1 (by omega)).mono ?_;rintro e w' ⟨rfl,rfl⟩)
   go_roundw
   case rel=>exact ⟨k+1,by omega,by go_num,Hs.out,hbb.setCell (Nat.le_refl _) _⟩
   case measure=>simp [intOf];omega
  ·have:k=row.length:=by omega
   subst this
   rw [show undoF kind bpp prev row row.length=undoB kind bpp prev row by simp [undoF,undoB]] at hown1
   go_wp2
   go_ret2
   exact ⟨_,rfl,hown1,hbb⟩
/-! Each call for every argument: the list and what is wrong. -/
def doR (kind bpp:Int) (prev row:List UInt8):List UInt8 × Int:=if wrongV kind bpp prev.length row.length=0 then (doB kind bpp prev row,0) else ([],wrongV kind bpp prev.length row.length)
def undoR (kind bpp:Int) (prev row:List UInt8):List UInt8 × Int:=if wrongV kind bpp prev.length row.length=0 then (undoB kind bpp prev row,0) else ([],wrongV kind bpp prev.length row.length)
theorem wrong_bpp {kind bpp:Int} {n n':Nat} (h:wrongV kind bpp n n'=0):1≤bpp∧bpp≤8:=by
 unfold wrongV at h
 split at h
 ·omega
 ·omega
theorem do_any (kind bpp:Int) (B n c B' n' c':Nat) (A A':Option Addr) (prev row:List UInt8) (w:World) (hp:RdB w B A n prev) (hr:RdB w B' A' n' row)
  (hB1:B≤w.heap.size) (hB2:B'≤w.heap.size) (hm:n'≤1000000) :
  Calls Tryz.prog 95 #[.int .i64 kind,.int .i64 bpp,.slice A n c,.slice A' n' c'] w fun e w' =>
   ∃ v,e=.returned (.tuple #[v,.int .i64 (doR kind bpp prev row).2])∧ownB w' w.heap.size v (doR kind bpp prev row).1∧Below w.heap.size w w':=by
 unfold doR
 rw [hp.len,hr.len]
 by_cases h:wrongV kind bpp n n'=0
 ·rw [if_pos h]
  exact do_ok kind bpp B n c B' n' c' A A' prev row w hp hr hB1 hB2 hm h (wrong_bpp h)
 ·rw [if_neg h]
  refine (do_bad kind bpp n c n' c' A A' w _ rfl (by rw [bne_iff_ne];exact h)).mono ?_
  rintro e w' ⟨rfl,rfl⟩
  exact ⟨_,rfl,ownB.nil_ _ _,Below.refl _ _⟩
theorem undo_any (kind bpp:Int) (B n c B' n' c':Nat) (A A':Option Addr) (prev row:List UInt8) (w:World) (hp:RdB w B A n prev) (hr:RdB w B' A' n' row)
  (hB1:B≤w.heap.size) (hB2:B'≤w.heap.size) (hm:n'≤1000000) :
  Calls Tryz.prog 87 #[.int .i64 kind,.int .i64 bpp,.slice A n c,.slice A' n' c'] w fun e w' =>
   ∃ v,e=.returned (.tuple #[v,.int .i64 (undoR kind bpp prev row).2])∧ownB w' w.heap.size v (undoR kind bpp prev row).1∧Below w.heap.size w w':=by
 unfold undoR
 rw [hp.len,hr.len]
 by_cases h:wrongV kind bpp n n'=0
 ·rw [if_pos h]
  exact undo_ok kind bpp B n c B' n' c' A A' prev row w hp hr hB1 hB2 hm h (wrong_bpp h)
 ·rw [if_neg h]
  refine (undo_bad kind bpp n c n' c' A A' w _ rfl (by rw [bne_iff_ne];exact h)).mono ?_
  rintro e w' ⟨rfl,rfl⟩
  exact ⟨_,rfl,ownB.nil_ _ _,Below.refl _ _⟩
/-! Weight. -/
def wB (x:UInt8):Nat:=min x.toNat (256 - x.toNat)
def weight (l:List UInt8):Nat:=(l.map wB).sum
theorem wB_le (x:UInt8):wB x≤128:=by unfold wB;omega
theorem weight_le (l:List UInt8):weight l≤128 * l.length:=by
 induction l with
 | nil=>simp [weight]
 | cons x l ih=>have:=wB_le x;simp [weight] at *;omega
theorem weight_step (l:List UInt8) {k:Nat} {x:UInt8} (h:l[k]?=some x):weight (l.take (k+1))=weight (l.take k)+wB x:=by
 obtain ⟨hk,rfl⟩:=List.getElem?_eq_some_iff.1 h
 rw [List.take_succ_eq_append_getElem hk]
 simp only [weight,List.map_append,List.sum_append,List.map_cons,List.map_nil,List.sum_cons,List.sum_nil]
 omega
set_option maxRecDepth 100000 in
set_option maxHeartbeats 800000 in
theorem weight_any (B n c:Nat) (A:Option Addr) (bs:List UInt8) (w:World) (h:RdB w B A n bs) (hm:n≤1000000) :
  Calls Tryz.prog 96 #[.slice A n c] w fun e w'=>e=.returned (.int .i64 (weight bs))∧w=w':=by
 obtain rfl:=h.len
 go_enter Tryz.func96,Tryz.ntmps96
 go_wp2
 go_loop [3,8] (fun s i=>∃ k:Nat,k≤bs.length∧i=.int .i64 k∧s=.int .i64 (weight (bs.take k))) (fun _ i=>bs.length - (intOf i).toNat)
 case atStart=>exact ⟨0,Nat.zero_le _,rfl,rfl⟩
 case round =>
  obtain ⟨k,hk,rfl,rfl⟩:=hrel
  by_cases hlt:k < bs.length
  ·obtain ⟨b,o,x,rfl,_,hx,cx⟩:=h.byte hlt
   have x8:=x.toNat_lt
   have hw:=weight_le (bs.take k)
   have hl:(bs.take k).length≤1000000:=by simp;omega
   have HS:=Lib.hid (weight_step bs hx.out)
   clear hx
   go_wp2
   all_goals
    go_round
    case rel=>exact ⟨k+1,by omega,by go_num,by rw [HS.out];unfold wB;congr 1;omega⟩
    case measure=>simp [intOf];omega
  ·have:k=bs.length:=by omega
   subst this
   go_wp2
   go_ret
   exact ⟨fret_int (by simp),rfl⟩
end Go.Proofs.YtebbdifhiihfkaaGreatDoor

/- filt: the reference's row filters. -/
namespace Go.Proofs.YtebbdifhiihfkaaGreatDoor
set_option linter.all false
open Go.RowKit
end Go.Proofs.YtebbdifhiihfkaaGreatDoor

/- filt: the reference's Do, Undo and Weight. -/
namespace Go.Proofs.YtebbdifhiihfkaaGreatDoor
set_option linter.all false
open Go.RowKit
end Go.Proofs.YtebbdifhiihfkaaGreatDoor

/- filt: the best filter. -/
namespace Go.Proofs.YtebbdifhiihfkaaGreatDoor
set_option linter.all false
open Go.RowKit
/-- The first of the kinds below k whose list weighs the least. -/
def bk (f:Nat→List UInt8):Nat→Nat
 | 0=>0
 | 1=>0
 | k+2=>if weight (f (k+1)) < weight (f (bk f (k+1))) then k+1 else bk f (k+1)
theorem bk_lt (f:Nat→List UInt8):∀ k,bk f (k+1)≤k
 | 0=>Nat.le_refl _
 | k+1=>by
  have:=bk_lt f k
  unfold bk
  split <;> omega
def bV (f:Nat→List UInt8) (k:Nat):List UInt8:=if k=0 then [] else f (bk f k)
theorem bV_succ (f:Nat→List UInt8) (k:Nat) (h:k ≠ 0):bk f (k+1)=(if weight (f k) < weight (bV f k) then k else bk f k)∧bV f (k+1)=if weight (f k) < weight (bV f k) then f k else bV f k:=by
 cases k with
 | zero=>exact absurd rfl h
 | succ k =>
  have e:bk f (k+1+1)=if weight (f (k+1)) < weight (f (bk f (k+1))) then k+1 else bk f (k+1):=rfl
  have e1:bV f (k+1)=f (bk f (k+1)):=if_neg (Nat.add_one_ne_zero _)
  have e2:bV f (k+1+1)=f (bk f (k+1+1)):=if_neg (Nat.add_one_ne_zero _)
  rw [e1,e2,e]
  split <;> exact ⟨rfl,rfl⟩
def dK (bpp:Int) (prev row:List UInt8) (k:Nat):List UInt8:=doB k bpp prev row
theorem wrong_kind (bpp:Int) (n n' k:Nat) (hk:k≤4):wrongV k bpp n n'=wrongV 0 bpp n n':=by
 unfold wrongV
 have e:((k:Int) < 0∨4 < (k:Int)∨bpp < 1∨8 < bpp) ↔ ((0:Int) < 0∨(4:Int) < 0∨bpp < 1∨8 < bpp):=by constructor <;> intro h <;> omega
 simp only [e]
theorem bV_len (bpp:Int) (prev row:List UInt8) (k:Nat):(bV (dK bpp prev row) k).length≤row.length:=by
 unfold bV
 split
 ·exact Nat.zero_le _
 ·show (doB _ _ _ _).length≤_;rw [doB_len];exact Nat.le_refl _
set_option maxRecDepth 100000 in
set_option maxHeartbeats 3200000 in
theorem best_ok (bpp:Int) (B n c B' n' c':Nat) (A A':Option Addr) (prev row:List UInt8) (w:World) (hp:RdB w B A n prev) (hr:RdB w B' A' n' row)
  (hB1:B≤w.heap.size) (hB2:B'≤w.heap.size) (hm:n'≤1000000) (h0:wrongV 0 bpp n n'=0) :
  Calls Tryz.prog 72 #[.int .i64 bpp,.slice A n c,.slice A' n' c'] w fun e w' =>
   ∃ v,e=.returned (.tuple #[.int .i64 (bk (dK bpp prev row) 5),v,.int .i64 0])∧ownB w' w.heap.size v (bV (dK bpp prev row) 5)∧Below w.heap.size w w':=by
 have hl:=hr.len
 have hpl:=hp.len
 have h1:=wrong_bpp h0
 have HN:=Lib.hid hl
 have HP:=Lib.hid hpl
 clear hl hpl
 have H0:=Lib.hid (fun k (hk:k≤4)=>(wrong_kind bpp n n' k hk).trans h0)
 clear h0
 go_enter Tryz.func72,Tryz.ntmps72
 go_wp2
 go_loopw [9,10,11] (fun kd bv i wr=>∃ k:Nat,k≤5∧i=.int .i64 k∧kd=.int .i64 (bk (dK bpp prev row) k)∧ownB wr w.heap.size bv (bV (dK bpp prev row) k)∧Below w.heap.size w wr)
  (fun _ _ i _=>5 - (intOf i).toNat)
 case atStart=>exact ⟨0,Nat.zero_le _,rfl,rfl,ownB.nil_ _ _,Below.refl _ _⟩
 case round =>
  obtain ⟨k,hk,rfl,rfl,hbv,hB⟩:=hrel
  by_cases hlt:k < 5
  ·have HD:=Lib.hid (show doR k bpp prev row=(dK bpp prev row k,0) by unfold doR;rw [HP.out,HN.out,if_pos (H0.out k (by omega))];rfl)
   have hDl:=Lib.hid (show (dK bpp prev row k).length=n' by rw [← HN.out];exact doB_len _ _ _ _)
   have hVl:=Lib.hid (bV_len bpp prev row k)
   obtain ⟨Ab,nb,cb,rfl,_,lb,_⟩:=hbv.slice
   have hnb:nb≤1000000:=by have:=hbv.rd.len;have:=hVl.out;have:=HN.out;omega
   have hw1:=weight_le (dK bpp prev row k)
   have hw2:=weight_le (bV (dK bpp prev row) k)
   have HS:=Lib.hid (bV_succ (dK bpp prev row) k)
   go_wp2_with (first
    | (go_at_call 95;go_must (refine (do_any k bpp _ _ _ _ _ _ _ _ prev row _ (hp.blw (hB.mono hB1)) (hr.blw (hB.mono hB2)) (Nat.le_trans hB1 hB.size) (Nat.le_trans hB2 hB.size) hm).mono ?_;rintro e w1 ⟨v1,rfl,hx,hb1⟩;rw [HD.out] at hx ⊢;dsimp only at hx ⊢;replace hx:=hx.mono hB.size;obtain ⟨Ax,nx,cx,rfl,_,lx,_⟩:=hx.slice;replace hbv:=hbv.later hb1;replace hB:=bstep hB hb1 (Nat.le_refl _);clear hb1;have hnx:nx≤1000000:=(by have h5:=hx.rd.len;have h6:=hDl.out;omega)))
    | (go_at_call 96;(with_reducible refine (weight_any _ _ _ _ (dK bpp prev row k) _ hx.rd hnx).mono ?_);rintro e w1 ⟨rfl,rfl⟩)
    | (go_at_call 96;(with_reducible refine (weight_any _ _ _ _ (bV (dK bpp prev row) k) _ hbv.rd hnb).mono ?_);rintro e w1 ⟨rfl,rfl⟩))
   all_goals
    (try simp only [beq_iff_eq,beq_eq_false_iff_ne,ne_eq] at *)
    go_roundw
    case rel =>
     refine ⟨k+1,by omega,by go_num,?_,?_,hB⟩
     ·by_cases hk0:k=0
      ·subst hk0;first | rfl | omega
      ·rw [(HS.out hk0).1]
       congr 1
       split <;> (first | rfl | omega)
     ·by_cases hk0:k=0
      ·subst hk0;first | exact hx | omega
      ·rw [(HS.out hk0).2]
       split <;> (first | assumption | omega)
    case measure=>simp [intOf];omega
  ·have:k=5:=by omega
   subst this
   go_wp2
   go_ret3
   exact ⟨_,rfl,hbv,hB⟩
theorem best_bad (bpp:Int) (B n c B' n' c':Nat) (A A':Option Addr) (prev row:List UInt8) (w:World) (hp:RdB w B A n prev) (hr:RdB w B' A' n' row)
  (hB1:B≤w.heap.size) (hB2:B'≤w.heap.size) (hm:n'≤1000000) (E:Int) (h0:wrongV 0 bpp n n'=E) (hE:(E != 0)=true) :
  Calls Tryz.prog 72 #[.int .i64 bpp,.slice A n c,.slice A' n' c'] w fun e w'=>e=.returned (.tuple #[.int .i64 0,.slice none 0 0,.int .i64 E])∧w=w':=by
 have H0:=Lib.hid h0
 clear h0 hp hr
 go_enter Tryz.func72,Tryz.ntmps72
 go_wp2
 refine wp_loop_rounds 1 ?_
 rw [rounds_succ]
 go_wp2_with (go_at_call 95;go_must (refine (do_bad 0 bpp _ _ _ _ _ _ _ E H0.out hE).mono ?_;rintro e w1 ⟨rfl,rfl⟩))
 go_ret3
 exact ⟨rfl,rfl⟩
def bestR (bpp:Int) (prev row:List UInt8):Int × List UInt8 × Int :=
 if wrongV 0 bpp prev.length row.length=0 then ((bk (dK bpp prev row) 5:Nat),bV (dK bpp prev row) 5,0) else (0,[],wrongV 0 bpp prev.length row.length)
theorem best_any (bpp:Int) (B n c B' n' c':Nat) (A A':Option Addr) (prev row:List UInt8) (w:World) (hp:RdB w B A n prev) (hr:RdB w B' A' n' row)
  (hB1:B≤w.heap.size) (hB2:B'≤w.heap.size) (hm:n'≤1000000) :
  Calls Tryz.prog 72 #[.int .i64 bpp,.slice A n c,.slice A' n' c'] w fun e w' =>
   ∃ v,e=.returned (.tuple #[.int .i64 (bestR bpp prev row).1,v,.int .i64 (bestR bpp prev row).2.2])∧ownB w' w.heap.size v (bestR bpp prev row).2.1∧Below w.heap.size w w':=by
 unfold bestR
 rw [hp.len,hr.len]
 by_cases h:wrongV 0 bpp n n'=0
 ·rw [if_pos h]
  exact best_ok bpp B n c B' n' c' A A' prev row w hp hr hB1 hB2 hm h
 ·rw [if_neg h]
  refine (best_bad bpp B n c B' n' c' A A' prev row w hp hr hB1 hB2 hm _ rfl (by rw [bne_iff_ne];exact h)).mono ?_
  rintro e w' ⟨rfl,rfl⟩
  exact ⟨_,rfl,ownB.nil_ _ _,Below.refl _ _⟩
end Go.Proofs.YtebbdifhiihfkaaGreatDoor

