/- XBigs XWlN -/
import Derived.Test.YtdoanopeejeeiaaMk06
import Derived.Test.YtdoanopeejeeiaaMk13
set_option linter.all false
namespace Go.Proofs.Ytdoanopeejeeiaa
open Go.RowKit
theorem there_ok (B n c:Nat) (A:Option Addr) (bs:List UInt8) (k W:Nat) (w:World) (h:RdB w B A n bs) (hc:n≤c) (hm:n≤140737488355328) (h1:1≤W) (h2:W≤6) (h3:k+W≤n) :
  Calls Try.prog 48 #[.slice A n c,.int .i64 k,.int .i64 W] w fun e w'=>∃ A' c',e=.returned (.tuple #[.slice A' W c',.int .i64 0]) ∧
   RdB w B A' W ((bs.drop k).take W)∧w=w':=by
 obtain rfl:=h.len
 have d1:decide ((W:Int) < 1)=false:=by simp;omega
 have d2:decide (6 < (W:Int))=false:=by simp;omega
 have d3:decide ((k:Int) < 0)=false:=by simp
 have d4:decide ((bs.length:Int) < (k:Int))=false:=by simp;omega
 go_enter Try.func48,Try.ntmps48
 go_wp2
 go_ret2
 exact ⟨A.map (·.add k),c - k,ret_tup2 (show Value.slice _ (k+W - k) _=_ by rw [Nat.add_sub_cancel_left]) rfl,h.cut (by omega) (fun _=>rfl),rfl⟩
theorem there_bad (B n c:Nat) (A:Option Addr) (bs:List UInt8) (k W:Int) (w:World) (h:RdB w B A n bs) (hm:n≤140737488355328) (h1:W < 1∨6 < W∨k < 0∨(n:Int) < k) :
  Calls Try.prog 48 #[.slice A n c,.int .i64 k,.int .i64 W] w fun e w'=>e=.returned (.tuple #[.slice none 0 0,.int .i64 1])∧w=w':=by
 obtain rfl:=h.len
 by_cases c1:W < 1
 ·have d1:decide (W < 1)=true:=by simp;omega
  go_enter Try.func48,Try.ntmps48
  go_wp2
  go_ret2
  exact ⟨rfl,rfl⟩
 have d1:decide (W < 1)=false:=by simp;omega
 by_cases c2:6 < W
 ·have d2:decide (6 < W)=true:=by simp;omega
  go_enter Try.func48,Try.ntmps48
  go_wp2
  go_ret2
  exact ⟨rfl,rfl⟩
 have d2:decide (6 < W)=false:=by simp;omega
 by_cases c3:k < 0
 ·have d3:decide (k < 0)=true:=by simp;omega
  go_enter Try.func48,Try.ntmps48
  go_wp2
  go_ret2
  exact ⟨rfl,rfl⟩
 have d3:decide (k < 0)=false:=by simp;omega
 have d4:decide ((bs.length:Int) < k)=true:=by simp;omega
 go_enter Try.func48,Try.ntmps48
 go_wp2
 go_ret2
 exact ⟨rfl,rfl⟩
theorem there_short (B n c:Nat) (A:Option Addr) (bs:List UInt8) (k W:Int) (w:World) (h:RdB w B A n bs) (hm:n≤140737488355328) (h1:1≤W) (h2:W≤6) (h3:0≤k) (h4:k≤n) (h5:n - k < W) :
  Calls Try.prog 48 #[.slice A n c,.int .i64 k,.int .i64 W] w fun e w'=>e=.returned (.tuple #[.slice none 0 0,.int .i64 2])∧w=w':=by
 obtain rfl:=h.len
 have d1:decide (W < 1)=false:=by simp;omega
 have d2:decide (6 < W)=false:=by simp;omega
 have d3:decide (k < 0)=false:=by simp;omega
 have d4:decide ((bs.length:Int) < k)=false:=by simp;omega
 go_enter Try.func48,Try.ntmps48
 go_wp2
 go_ret2
 exact ⟨rfl,rfl⟩
def beV (l:List UInt8):Nat:=l.foldl (fun n x=>n * 256+x.toNat) 0
theorem beV_step (l:List UInt8) (k:Nat) (h:k < l.length):beV (l.take (k+1))=beV (l.take k) * 256+l[k].toNat:=by
 unfold beV
 rw [List.take_succ_eq_append_getElem h,List.foldl_append]
 rfl
theorem beV_lt (l:List UInt8):∀ k,k≤l.length→beV (l.take k) < 256 ^ k
 | 0,_=>by simp [beV]
 | k+1,h=>by
  rw [beV_step l k (by omega),Nat.pow_succ]
  have:=beV_lt l k (by omega)
  have:=l[k].toNat_lt
  omega
theorem beV_lt6 (l:List UInt8) (k:Nat) (h:k≤l.length) (hk:k≤6):beV (l.take k) < 281474976710656 :=
 Nat.lt_of_lt_of_le (beV_lt l k h) (Nat.le_trans (Nat.pow_le_pow_right (by omega) hk) (by omega))
theorem or_be (y x:Nat) (hy:y < 281474976710656) (hx:x < 256):bits .or .i64 ((y:Int) * 256) (x:Int)=((y * 256+x:Nat):Int):=by
 have:=i64_or_nat (y * 256) x (by omega) (by omega)
 rw [nat_join 8 _ _ (by omega) (by omega)] at this
 rw [← this]
 simp
theorem readBig_err (B n c:Nat) (A:Option Addr) (bs:List UInt8) (k W:Int) (w:World) (E:Int) (h:RdB w B A n bs)
  (ht:Calls Try.prog 48 #[.slice A n c,.int .i64 k,.int .i64 W] w fun e w'=>e=.returned (.tuple #[.slice none 0 0,.int .i64 E])∧w=w') :
  Calls Try.prog 30 #[.slice A n c,.int .i64 k,.int .i64 W] w fun e w'=>e=.returned (.tuple #[.int .i64 0,.int .i64 E])∧w=w':=by
 have HT:=Lib.hid ht
 clear ht
 go_enter Try.func30,Try.ntmps30
 go_wp2_with (go_at_call 48;refine HT.out.mono ?_;rintro e w' ⟨rfl,rfl⟩)
 refine wp_loop_rounds 1 ?_
 rw [rounds_succ]
 go_wp2
 go_ret2
 exact ⟨rfl,rfl⟩
set_option maxHeartbeats 400000 in
theorem readBig_ok (B n c:Nat) (A:Option Addr) (bs:List UInt8) (k W:Nat) (w:World) (h:RdB w B A n bs) (hc:n≤c) (hm:n≤140737488355328) (h1:1≤W) (h2:W≤6) (h3:k+W≤n) :
  Calls Try.prog 30 #[.slice A n c,.int .i64 k,.int .i64 W] w fun e w'=>e=.returned (.tuple #[.int .i64 (beV ((bs.drop k).take W)),.int .i64 0])∧w=w':=by
 go_enter Try.func30,Try.ntmps30
 go_wp2_with (go_at_call 48;refine (there_ok B n c A bs k W _ h hc hm h1 h2 h3).mono ?_;rintro e w' ⟨A',c',rfl,hr,rfl⟩)
 generalize hL:(bs.drop k).take W=l at hr
 have HL:=Lib.hid hL
 clear hL
 obtain rfl:=hr.len
 go_loop [10,22] (fun s i=>∃ k:Nat,k≤l.length∧i=.int .i64 k∧s=.int .i64 (beV (l.take k))) (fun _ i=>l.length - (intOf i).toNat)
 case atStart=>exact ⟨0,Nat.zero_le _,rfl,rfl⟩
 case round =>
  obtain ⟨k,hk,rfl,rfl⟩:=hrel
  by_cases hlt:k < l.length
  ·obtain ⟨b,o,rfl,_,hc⟩:=hr.at_ (by omega)
   have hck:=hc k (by omega)
   clear hc
   have hp:=beV_lt6 l k (by omega) (by omega)
   have hx:=l[k].toNat_lt
   have Hs:=Lib.hid (beV_step l k (by omega))
   go_wp2
   go_round
   case rel=>exact ⟨k+1,by omega,by go_num,by rw [Hs.out,or_be _ _ hp (by omega)]⟩
   case measure=>simp [intOf];omega
  ·have:k=l.length:=by omega
   subst this
   go_wp2
   go_ret2
   exact ⟨by rw [HL.out];rfl,rfl⟩
def numOk (n width:Int):Prop:=1≤width∧width≤6∧0≤n∧n / 2 ^ (8 * width.toNat)≤0
instance (n width:Int):Decidable (numOk n width):=by unfold numOk;infer_instance
def beR (n width:Int):List UInt8 × Int:=if numOk n width then (beB n.toNat width.toNat,0) else ([],1)
theorem numBad {n width:Int} (h:¬ numOk n width):width < 1∨6 < width∨n < 0∨(0≤n∧1≤width∧width≤6∧0 < n / 2 ^ (8 * width).toNat):=by
 unfold numOk at h
 by_cases h1:width < 1
 ·exact .inl h1
 by_cases h2:6 < width
 ·exact .inr (.inl h2)
 by_cases h3:n < 0
 ·exact .inr (.inr (.inl h3))
 refine .inr (.inr (.inr ⟨by omega,by omega,by omega,?_⟩))
 rw [show (8 * width).toNat=8 * width.toNat by omega]
 omega
theorem big_any (n width:Int) (w:World) :
  Calls Try.prog 58 #[.int .i64 n,.int .i64 width] w fun e w'=>∃ v,e=.returned (.tuple #[v,.int .i64 (beR n width).2])∧ownB w' w.heap.size v (beR n width).1∧Below w.heap.size w w':=by
 unfold beR
 by_cases h:numOk n width
 ·rw [if_pos h]
  obtain ⟨h1,h2,h3,h4⟩:=h
  obtain ⟨W,rfl⟩:=Int.eq_ofNat_of_zero_le (by omega:0≤width)
  rw [Int.toNat_natCast] at h4 ⊢
  exact big_ok n W w h3 (by omega) (by omega) (by simp;omega)
 ·rw [if_neg h]
  refine (big_bad n width w (numBad h)).mono ?_
  rintro e w' ⟨rfl,hb⟩
  exact ⟨_,rfl,ownB.nil_ _ _,hb⟩
/-- What a reading tells. -/
def rdR (f:List UInt8→Nat) (bs:List UInt8) (k W:Int):Int × Int :=
 if W < 1∨6 < W∨k < 0∨(bs.length:Int) < k then (0,1) else if (bs.length:Int) - k < W then (0,2) else (f ((bs.drop k.toNat).take W.toNat),0)
theorem readBig_any (B n c:Nat) (A:Option Addr) (bs:List UInt8) (k W:Int) (w:World) (h:RdB w B A n bs) (hc:n≤c) (hm:n≤140737488355328) :
  Calls Try.prog 30 #[.slice A n c,.int .i64 k,.int .i64 W] w fun e w'=>e=.returned (.tuple #[.int .i64 (rdR beV bs k W).1,.int .i64 (rdR beV bs k W).2])∧w=w':=by
 have hl:=h.len
 unfold rdR
 by_cases h1:W < 1∨6 < W∨k < 0∨(bs.length:Int) < k
 ·rw [if_pos h1]
  exact readBig_err B n c A bs k W w 1 h (there_bad B n c A bs k W w h hm (by rw [← hl];exact h1))
 ·rw [if_neg h1]
  by_cases h2:(bs.length:Int) - k < W
  ·rw [if_pos h2]
   exact readBig_err B n c A bs k W w 2 h (there_short B n c A bs k W w h hm (by omega) (by omega) (by omega) (by omega) (by omega))
  ·rw [if_neg h2]
   obtain ⟨k,rfl⟩:=Int.eq_ofNat_of_zero_le (by omega:0≤k)
   obtain ⟨W,rfl⟩:=Int.eq_ofNat_of_zero_le (by omega:0≤W)
   exact readBig_ok B n c A bs k W w h hc hm (by omega) (by omega) (by omega)
end Go.Proofs.Ytdoanopeejeeiaa

/- Numbers of bytes, plainly. -/
namespace Go.Proofs.Ytdoanopeejeeiaa
set_option linter.all false
open Go.RowKit
def leV:List UInt8→Nat | []=>0 | x :: l=>x.toNat+256 * leV l
theorem leB_succ (n w:Nat):leB n (w+1)=UInt8.ofNat n :: leB (n / 256) w:=by
 unfold leB
 rw [List.range_succ_eq_map,List.map_cons,List.map_map]
 congr 1
 ·simp
 ·apply List.map_congr_left
  intro i _
  show UInt8.ofNat (n / 2 ^ (8 * (i+1)))=UInt8.ofNat (n / 256 / 2 ^ (8 * i))
  rw [Nat.div_div_eq_div_mul,show 8 * (i+1)=8+8 * i by omega,Nat.pow_add]
theorem leV_leB:∀ (w n:Nat),n < 256 ^ w→leV (leB n w)=n
 | 0,n,h=>by simp at h;subst h;rfl
 | w+1,n,h=>by
  rw [leB_succ]
  simp only [leV]
  rw [leV_leB w (n / 256) (by rw [Nat.pow_succ] at h;omega),UInt8.toNat_ofNat']
  omega
theorem beV_foldr (l:List UInt8):beV l.reverse=leV l:=by
 induction l with
 | nil=>rfl
 | cons x l ih =>
  unfold beV at ih ⊢
  rw [List.reverse_cons,List.foldl_append,ih]
  simp [leV]
  omega
theorem beV_beB (w n:Nat) (h:n < 256 ^ w):beV (beB n w)=n:=by
 unfold beB
 rw [beV_foldr,leV_leB w n h]
end Go.Proofs.Ytdoanopeejeeiaa

