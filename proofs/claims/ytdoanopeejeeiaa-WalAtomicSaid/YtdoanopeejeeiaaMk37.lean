/- XWlg -/
import Derived.Test.YtdoanopeejeeiaaMk36
namespace Go.Proofs.Ytdoanopeejeeiaa
set_option linter.all false
open Go.RowKit Go.Maps
theorem bytesR_any (B n c B' n' c':Nat) (A A':Option Addr) (xs ys:List UInt8) (w:World) (h:RdB w B A n xs) (h':RdB w B' A' n' ys) :
  Calls Try.prog 22 #[.slice A n c,.slice A' n' c'] w fun e w'=>e=.returned (.bool (xs == ys))∧w=w':=by
 have k1:=run_strB h (c:=c)
 have k2:=run_strB h' (c:=c')
 go_enter Try.func22,Try.ntmps22
 go_wp2_with fail
 go_ret
 exact ⟨rfl,rfl⟩
set_option maxRecDepth 100000 in
set_option maxHeartbeats 6400000 in
theorem listsW_any (T T':Nat→Prop) (A A':Option Addr) (n n' c c':Nat) (ls ls':List Bs) (w:World) (h:SecL w T A n ls) (h':SecL w T' A' n' ls') (hn:n≤5000) (hn':n'≤5000) :
  Calls Try.prog 18 #[.slice A n c,.slice A' n' c'] w fun e w'=>e=.returned (.bool (decide (ls=ls')))∧Below w.heap.size w w':=by
 have hl:=h.len
 have hl':=h'.len
 by_cases hnn:n=n'
 ·subst hnn
  have HA:=Lib.hid h
  have HB:=Lib.hid h'
  have HL:=Lib.hid hl
  have HL':=Lib.hid hl'
  clear h h' hl hl'
  go_enter Try.func18,Try.ntmps18
  go_wp2_with fail
  go_loopw [5] (fun vi wr=>∃ k:Nat,k≤n∧vi=.int .i64 (k:Int)∧Hid (ls.take k=ls'.take k)∧Hid (Below w.heap.size w wr)) (fun vi _=>n - (intOf vi).toNat)
  case atStart=>exact ⟨0,Nat.zero_le _,rfl,(show _=_ from rfl),Below.refl _ _⟩
  case round =>
   obtain ⟨k,hk,rfl,HT,HX⟩:=hrel
   by_cases hlt:k < n
   ·obtain ⟨x,hx⟩:∃ x,ls[k]?=some x:=⟨_,List.getElem?_eq_getElem (show k < ls.length by rw [HL.out];exact hlt)⟩
    obtain ⟨y,hy⟩:∃ y,ls'[k]?=some y:=⟨_,List.getElem?_eq_getElem (show k < ls'.length by rw [HL'.out];exact hlt)⟩
    obtain ⟨b1,o1,B1,c1,rfl,hb1,k1,r1⟩:=(HA.out.later HX.out).get hx
    obtain ⟨b2,o2,B2,c2,rfl,hb2,k2,r2⟩:=(HB.out.later HX.out).get hy
    have HEQ:=Lib.hid (fun w' (hb:Below wr.heap.size wr w')=>bytesR_any _ 256 c1 _ 256 c2 B1 B2 x y w' (r1.2.2.later hb) (r2.2.2.later hb))
    have HTX:Hid (ls.take (k+1)=ls.take k ++ [x]):=(show _=_ by rw [List.take_add_one,hx];rfl)
    have HTY:Hid (ls'.take (k+1)=ls'.take k ++ [y]):=(show _=_ by rw [List.take_add_one,hy];rfl)
    have HXX:=Lib.hid hx
    have HYY:=Lib.hid hy
    have hX:=HX.out
    clear r1 r2 hx hy
    cases hxy:(x == y) with
    | true =>
     rw [hxy] at HEQ
     have HE:=Lib.hid (eq_of_beq hxy)
     clear hxy
     go_upto_region 6 with fail
     go_region_held3 (fun w'=>w'.cell? ⟨b1,o1+k,none⟩=some (.slice B1 256 c1)∧w'.cell? ⟨b2,o2+k,none⟩=some (.slice B2 256 c2))
      (first | (with_reducible exact ⟨k1,k2⟩) | go_keep)
      (first
      | (go_at_call 22;(with_reducible refine (HEQ.out _ ?_).mono ?_);(first | exact Below.refl _ _ | exact Below.drew (Below.refl _ _));go_must (rintro e w4 ⟨rfl,rfl⟩)))
     all_goals
      go_wp2_with fail
      go_roundw
      case rel=>exact ⟨k+1,by omega,by go_num,(show _=_ by rw [HTX.out,HTY.out,HT.out,HE.out]),hX.drew⟩
      case measure=>simp [intOf];omega
    | false =>
     rw [hxy] at HEQ
     have HE:Hid (decide (ls=ls')=false):=(show _=_ from decide_eq_false (fun e=>by
      have e1:=HXX.out
      rw [e,HYY.out] at e1
      injection e1 with e1
      subst e1
      rw [beq_self_eq_true] at hxy
      cases hxy))
     clear hxy
     go_upto_region 6 with fail
     go_region_held3 (fun w'=>w'.cell? ⟨b1,o1+k,none⟩=some (.slice B1 256 c1)∧w'.cell? ⟨b2,o2+k,none⟩=some (.slice B2 256 c2))
      (first | (with_reducible exact ⟨k1,k2⟩) | go_keep)
      (first
      | (go_at_call 22;(with_reducible refine (HEQ.out _ ?_).mono ?_);(first | exact Below.refl _ _ | exact Below.drew (Below.refl _ _));go_must (rintro e w4 ⟨rfl,rfl⟩)))
     all_goals
      go_wp2_with fail
      go_ret
      exact ⟨by rw [HE.out];rfl,hX.drew⟩
   ·obtain rfl:k=n:=by omega
    have HE:Hid (decide (ls=ls')=true):=(show _=_ from decide_eq_true (by have:=HT.out;rwa [List.take_of_length_le (by rw [HL.out];exact Nat.le_refl _),List.take_of_length_le (by rw [HL'.out];exact Nat.le_refl _)] at this))
    go_wp2_with fail
    go_ret
    exact ⟨by rw [HE.out];rfl,HX.out⟩
 ·have HE:Hid (decide (ls=ls')=false):=(show _=_ from decide_eq_false (fun e=>hnn (by rw [← hl,← hl',e])))
  have hne:((n:Int) != (n':Int))=true:=by simp;omega
  have hne2:¬ (n:Int)=(n':Int):=by omega
  clear h h' hl hl'
  go_enter Try.func18,Try.ntmps18
  go_wp2_with fail
  go_ret
  exact ⟨by rw [HE.out];rfl,Below.refl _ _⟩
end Go.Proofs.Ytdoanopeejeeiaa

