/- XKraft -/
import Derived.Test.YteoolehdomjkkaaGreatMe05
import Derived.Test.YteoolehdomjkkaaGreatMe02
namespace Go.Proofs.YteoolehdomjkkaaGreat
set_option linter.all false
open Go.RowKit
def krN (ls:List Int):Nat:=(ls.map fun x=>if 0 < x then 2 ^ (15 - x.toNat) else 0).sum
def badL (ls:List Int):Bool:=ls.any fun x=>decide (x < 0) || decide (15 < x)
def krE (ls:List Int):Int:=if 300 < ls.length∨badL ls=true then 1 else 0
def krV (ls:List Int):Int:=if 300 < ls.length∨badL ls=true then 0 else krN ls
theorem krN_snoc {ls:List Int} {k:Nat} {x:Int} (h:ls[k]?=some x):krN (ls.take (k+1))=krN (ls.take k)+if 0 < x then 2 ^ (15 - x.toNat) else 0:=by
 obtain ⟨hk,rfl⟩:=List.getElem?_eq_some_iff.1 h
 rw [List.take_succ_eq_append_getElem hk]
 unfold krN
 rw [List.map_append,List.sum_append]
 simp
theorem badL_snoc {ls:List Int} {k:Nat} {x:Int} (h:ls[k]?=some x):badL (ls.take (k+1))=(badL (ls.take k) || (decide (x < 0) || decide (15 < x))):=by
 obtain ⟨hk,rfl⟩:=List.getElem?_eq_some_iff.1 h
 rw [List.take_succ_eq_append_getElem hk]
 unfold badL
 rw [List.any_append]
 simp
theorem badL_of {ls:List Int} {k:Nat} {x:Int} (h:ls[k]?=some x) (hb:x < 0∨15 < x):badL ls=true:=by
 unfold badL
 rw [List.any_eq_true]
 exact ⟨x,List.mem_of_getElem? h,by simpa using hb⟩
theorem krN_le (ls:List Int):krN ls≤ls.length * 32768:=by
 unfold krN
 induction ls with
 | nil=>simp
 | cons x r ih =>
  simp only [List.map_cons,List.sum_cons,List.length_cons]
  have:(if 0 < x then 2 ^ (15 - x.toNat) else 0)≤32768:=by
   split
   ·exact Nat.le_trans (Nat.pow_le_pow_right (by decide) (Nat.sub_le 15 _)) (by decide)
   ·omega
  omega
theorem shr15 (t:Nat) (h1:1≤t) (h2:t≤15):(32768:Int) / 2 ^ t=((2 ^ (15 - t):Nat):Int)∧2 ^ (15 - t)≤32768:=by
 have:∀ t,t≤15→(32768:Int) / 2 ^ t=((2 ^ (15 - t):Nat):Int)∧2 ^ (15 - t)≤32768:=by decide
 exact this t h2
theorem kr_wrap (q t:Nat) (hq:q≤300 * 32768) (h:2 ^ (15 - t)≤32768):wrap64 ((q:Int)+2 ^ (15 - t))=((q+2 ^ (15 - t):Nat):Int):=by
 rw [show ((2:Int) ^ (15 - t))=((2 ^ (15 - t):Nat):Int) by push_cast;rfl]
 generalize 2 ^ (15 - t)=u at *
 rw [wrap64_id _ (by omega) (by omega)]
 omega
theorem kr_wrap5 (q t:Nat) (hq:q≤300 * 32768) (h:2 ^ (15 - t)≤32768):wrap64 ((q:Int)+wrap64 (2 ^ (15 - t)))=((q+2 ^ (15 - t):Nat):Int):=by
 have e:wrap64 ((2:Int) ^ (15 - t))=2 ^ (15 - t):=by
  rw [show ((2:Int) ^ (15 - t))=((2 ^ (15 - t):Nat):Int) by push_cast;rfl]
  generalize 2 ^ (15 - t)=u at *
  exact wrap64_id _ (by omega) (by omega)
 rw [e]
 exact kr_wrap q t hq h
set_option maxRecDepth 100000 in
set_option maxHeartbeats 1600000 in
theorem kraft_any (B n c:Nat) (A:Option Addr) (ls:List Int) (w:World) (h:RdI w B A n ls) (hn:n≤1099511627776) :
  Calls Tryz.prog 152 #[.slice A n c] w fun e w'=>e=.returned (.tuple #[.int .i64 (krV ls),.int .i64 (krE ls)])∧w=w':=by
 have hl:=h.len
 by_cases hgood:n≤300
 ·have H:=Lib.hid h
  have HL:=Lib.hid hl
  clear h hl
  go_enter Tryz.func152,Tryz.ntmps152
  go_wp2
  go_loop [12,4] (fun i p=>∃ k:Nat,k≤n∧i=.int .i64 k∧p=.int .i64 (krN (ls.take k):Nat)∧Hid (badL (ls.take k)=false)) (fun i _=>n - (intOf i).toNat)
  case atStart=>exact ⟨0,Nat.zero_le _,rfl,rfl,rfl⟩
  case round =>
   obtain ⟨k,hk,rfl,rfl,HB⟩:=hrel
   have pl:krN (ls.take k)≤300 * 32768:=Nat.le_trans (krN_le _) (Nat.mul_le_mul_right _ (by simp;omega))
   by_cases hlt:k < n
   ·obtain ⟨b,o,x,rfl,hb,HX,e1⟩:=H.out.one hlt
    have HP:=Lib.hid (krN_snoc HX.out)
    have HQ:=Lib.hid (badL_snoc HX.out)
    by_cases hbad:x < 0∨15 < x
    ·have HT:Hid (krV ls=0∧krE ls=1):=(show _∧_ by have:=badL_of HX.out hbad;unfold krV krE;rw [if_pos (.inr this),if_pos (.inr this)];exact ⟨rfl,rfl⟩)
     rcases hbad with hx | hx
     ·go_wp2
      go_ret2
      exact ⟨ret_tup2 (by rw [HT.out.1];rfl) (by rw [HT.out.2];rfl),rfl⟩
     ·have hx':¬ x < 0:=by omega
      go_wp2
      go_ret2
      exact ⟨ret_tup2 (by rw [HT.out.1];rfl) (by rw [HT.out.2];rfl),rfl⟩
    ·have hx1:0≤x:=by omega
     have hx2:x≤15:=by omega
     have HB2:Hid (badL (ls.take (k+1))=false):=(show _=_ by rw [HQ.out,HB.out,decide_eq_false (show ¬ x < 0 by omega),decide_eq_false (show ¬ 15 < x by omega)];rfl)
     clear hbad
     by_cases hp:0 < x
     ·obtain ⟨t,rfl⟩:=Int.eq_ofNat_of_zero_le hx1
      have HP2:Hid (krN (ls.take (k+1))=krN (ls.take k)+2 ^ (15 - t)):=(show _=_ by rw [HP.out,if_pos hp];simp)
      obtain ⟨hs,hs2⟩:=shr15 t (by omega) (by omega)
      generalize krN (ls.take k)=q at *
      have HW:=Lib.hid (kr_wrap q t (by omega) hs2)
      clear hs2
      go_wp2
      go_round
      case rel=>exact ⟨k+1,by omega,by go_num,by rw [HP2.out,HW.out],HB2⟩
      case measure=>simp [intOf];omega
     ·have HP2:Hid (krN (ls.take (k+1))=krN (ls.take k)):=(show _=_ by rw [HP.out,if_neg hp];rfl)
      generalize krN (ls.take k)=q at *
      go_wp2
      go_round
      case rel=>exact ⟨k+1,by omega,by go_num,by rw [HP2.out],HB2⟩
      case measure=>simp [intOf];omega
   ·obtain rfl:k=n:=by omega
    have HT:Hid (krV ls=krN (ls.take k)∧krE ls=0):=(show _∧_ by
     have e:ls.take k=ls:=List.take_of_length_le (by rw [HL.out];exact Nat.le_refl _)
     have hb:=HB.out
     rw [e] at hb ⊢
     have:¬ (300 < ls.length∨badL ls=true):=by
      rw [hb,HL.out]
      rintro (h | h)
      ·omega
      ·cases h
     unfold krV krE
     rw [if_neg this,if_neg this]
     exact ⟨rfl,rfl⟩)
    generalize krN (ls.take k)=q at *
    go_wp2
    go_ret2
    exact ⟨ret_tup2 (by rw [HT.out.1];rfl) (by rw [HT.out.2];rfl),rfl⟩
 ·have HT:Hid (krV ls=0∧krE ls=1):=(show _∧_ by unfold krV krE;rw [if_pos (.inl (by omega)),if_pos (.inl (by omega))];exact ⟨rfl,rfl⟩)
  clear h hl
  go_enter Tryz.func152,Tryz.ntmps152
  go_wp2
  go_ret2
  exact ⟨ret_tup2 (by rw [HT.out.1];rfl) (by rw [HT.out.2];rfl),rfl⟩
set_option maxRecDepth 100000 in
set_option maxHeartbeats 1600000 in
theorem kraft5_any (B n c:Nat) (A:Option Addr) (ls:List Int) (w:World) (h:RdI w B A n ls) (hn:n≤1099511627776) :
  Calls Tryz.prog 134 #[.slice A n c] w fun e w'=>e=.returned (.tuple #[.int .i64 (krV ls),.int .i64 (krE ls)])∧w=w':=by
 have hl:=h.len
 by_cases hgood:n≤300
 ·have H:=Lib.hid h
  have HL:=Lib.hid hl
  clear h hl
  go_enter Tryz.func134,Tryz.ntmps134
  go_wp2
  go_loop [5,4] (fun i p=>∃ k:Nat,k≤n∧i=.int .i64 k∧p=.int .i64 (krN (ls.take k):Nat)∧Hid (badL (ls.take k)=false)) (fun i _=>n - (intOf i).toNat)
  case atStart=>exact ⟨0,Nat.zero_le _,rfl,rfl,rfl⟩
  case round =>
   obtain ⟨k,hk,rfl,rfl,HB⟩:=hrel
   have pl:krN (ls.take k)≤300 * 32768:=Nat.le_trans (krN_le _) (Nat.mul_le_mul_right _ (by simp;omega))
   by_cases hlt:k < n
   ·obtain ⟨b,o,x,rfl,hb,HX,e1⟩:=H.out.one hlt
    have HP:=Lib.hid (krN_snoc HX.out)
    have HQ:=Lib.hid (badL_snoc HX.out)
    by_cases hbad:x < 0∨15 < x
    ·have HT:Hid (krV ls=0∧krE ls=1):=(show _∧_ by have:=badL_of HX.out hbad;unfold krV krE;rw [if_pos (.inr this),if_pos (.inr this)];exact ⟨rfl,rfl⟩)
     rcases hbad with hx | hx
     ·go_wp2
      go_ret2
      exact ⟨ret_tup2 (by rw [HT.out.1];rfl) (by rw [HT.out.2];rfl),rfl⟩
     ·have hx':¬ x < 0:=by omega
      go_wp2
      go_ret2
      exact ⟨ret_tup2 (by rw [HT.out.1];rfl) (by rw [HT.out.2];rfl),rfl⟩
    ·have hx1:0≤x:=by omega
     have hx2:x≤15:=by omega
     have HB2:Hid (badL (ls.take (k+1))=false):=(show _=_ by rw [HQ.out,HB.out,decide_eq_false (show ¬ x < 0 by omega),decide_eq_false (show ¬ 15 < x by omega)];rfl)
     clear hbad
     by_cases hp:0 < x
     ·obtain ⟨t,rfl⟩:=Int.eq_ofNat_of_zero_le hx1
      have HP2:Hid (krN (ls.take (k+1))=krN (ls.take k)+2 ^ (15 - t)):=(show _=_ by rw [HP.out,if_pos hp];simp)
      obtain ⟨hs,hs2⟩:=shr15 t (by omega) (by omega)
      generalize krN (ls.take k)=q at *
      have HW:=Lib.hid (kr_wrap5 q t (by omega) hs2)
      clear hs2
      go_wp2
      go_round
      case rel=>exact ⟨k+1,by omega,by go_num,by rw [HP2.out,HW.out],HB2⟩
      case measure=>simp [intOf];omega
     ·have HP2:Hid (krN (ls.take (k+1))=krN (ls.take k)):=(show _=_ by rw [HP.out,if_neg hp];rfl)
      generalize krN (ls.take k)=q at *
      go_wp2
      go_round
      case rel=>exact ⟨k+1,by omega,by go_num,by rw [HP2.out],HB2⟩
      case measure=>simp [intOf];omega
   ·obtain rfl:k=n:=by omega
    have HT:Hid (krV ls=krN (ls.take k)∧krE ls=0):=(show _∧_ by
     have e:ls.take k=ls:=List.take_of_length_le (by rw [HL.out];exact Nat.le_refl _)
     have hb:=HB.out
     rw [e] at hb ⊢
     have:¬ (300 < ls.length∨badL ls=true):=by
      rw [hb,HL.out]
      rintro (h | h)
      ·omega
      ·cases h
     unfold krV krE
     rw [if_neg this,if_neg this]
     exact ⟨rfl,rfl⟩)
    generalize krN (ls.take k)=q at *
    go_wp2
    go_ret2
    exact ⟨ret_tup2 (by rw [HT.out.1];rfl) (by rw [HT.out.2];rfl),rfl⟩
 ·have HT:Hid (krV ls=0∧krE ls=1):=(show _∧_ by unfold krV krE;rw [if_pos (.inl (by omega)),if_pos (.inl (by omega))];exact ⟨rfl,rfl⟩)
  clear h hl
  go_enter Tryz.func134,Tryz.ntmps134
  go_wp2
  go_ret2
  exact ⟨ret_tup2 (by rw [HT.out.1];rfl) (by rw [HT.out.2];rfl),rfl⟩
end Go.Proofs.YteoolehdomjkkaaGreat

