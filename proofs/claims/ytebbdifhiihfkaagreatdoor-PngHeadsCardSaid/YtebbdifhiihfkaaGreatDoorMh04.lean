/- XNum2 -/
import Derived.Test.YtebbdifhiihfkaaGreatDoorMh01
set_option linter.all false
namespace Go.Proofs.YtebbdifhiihfkaaGreatDoor
open Go.RowKit
/-- Adler's two sums after the bytes, from (s, t). -/
def adF:Nat × Nat→UInt8→Nat × Nat:=fun p x=>((p.1+x.toNat) % 65521,(p.2+(p.1+x.toNat) % 65521) % 65521)
def adP (bs:List UInt8):Nat × Nat:=bs.foldl adF (1,0)
def adler (bs:List UInt8):Nat:=(adP bs).2 * 65536+(adP bs).1
theorem adP_lt (bs:List UInt8):(adP bs).1 < 65521∧(adP bs).2 < 65521:=by
 unfold adP
 rcases List.eq_nil_or_concat bs with rfl | ⟨l,x,rfl⟩
 ·simp
 ·simp [adF,List.foldl_append,Nat.mod_lt]
theorem adP_step (bs:List UInt8) (k:Nat) (h:k < bs.length):adP (bs.take (k+1))=adF (adP (bs.take k)) bs[k]:=by
 unfold adP
 rw [List.take_succ_eq_append_getElem h,List.foldl_append]
 rfl
set_option maxHeartbeats 400000 in
theorem adler_any (B n c:Nat) (A:Option Addr) (bs:List UInt8) (w:World) (h:RdB w B A n bs) (hm:n≤140737488355328) :
  Calls Tryz.prog 86 #[.slice A n c] w fun e w'=>e=.returned (.int .u32 (adler bs))∧w=w':=by
 obtain rfl:=h.len
 go_enter Tryz.func86,Tryz.ntmps86
 go_wp2
 go_loop [3,4,9] (fun s t i=>∃ k:Nat,k≤bs.length∧i=.int .i64 k∧s=.int .u32 (adP (bs.take k)).1∧t=.int .u32 (adP (bs.take k)).2) (fun _ _ i=>bs.length - (intOf i).toNat)
 case atStart=>exact ⟨0,Nat.zero_le _,rfl,rfl,rfl⟩
 case round =>
  obtain ⟨k,hk,rfl,rfl,rfl⟩:=hrel
  by_cases hlt:k < bs.length
  ·obtain ⟨b,o,rfl,_,hc⟩:=h.at_ (by omega)
   have hck:=hc k (by omega)
   clear hc
   have hp:=adP_lt (bs.take k)
   have hx:=bs[k].toNat_lt
   have Hs:=Lib.hid (adP_step bs k (by omega))
   go_wp2
   go_round
   case rel=>exact ⟨k+1,by omega,by go_num,by rw [Hs.out];simp [adF],by rw [Hs.out];simp [adF]⟩
   case measure=>simp [intOf];omega
  ·have hp:=adP_lt bs
   have:k=bs.length:=by omega
   subst this
   go_wp2
   go_ret
   refine ⟨?_,rfl⟩
   show Ending.returned (.int .u32 (bits .or .u32 (((adP bs).2:Int) * 65536) ((adP bs).1:Int)))=_
   have e:bits .or .u32 (((adP bs).2:Int) * 65536) ((adP bs).1:Int)=(adler bs:Int):=by
    have:=u32_or_nat ((adP bs).2 * 65536) (adP bs).1 (by omega) (by omega)
    rw [nat_join 16 _ _ (by omega) (by omega)] at this
    rw [adler,← this]
    simp
   rw [e]
def crcStep (s:Nat):Nat:=if s % 2=1 then (s / 2) ^^^ 3988292384 else s / 2
def crcIt (s:Nat):Nat→Nat | 0=>s | k+1=>crcStep (crcIt s k)
def crcP (bs:List UInt8):Nat:=bs.foldl (fun s x=>crcIt (s ^^^ x.toNat) 8) 4294967295
def crc (bs:List UInt8):Nat:=4294967295 ^^^ crcP bs
theorem crcStep_lt {s:Nat} (h:s < 4294967296):crcStep s < 4294967296:=by
 unfold crcStep
 split
 ·exact Nat.xor_lt_two_pow (n:=32) (by omega) (by omega)
 ·omega
theorem crcIt_lt {s:Nat} (h:s < 4294967296) (k:Nat):crcIt s k < 4294967296:=by
 induction k with
 | zero=>exact h
 | succ k ih=>exact crcStep_lt ih
theorem crcP_lt' (bs:List UInt8):∀ s,s < 4294967296→bs.foldl (fun s x=>crcIt (s ^^^ x.toNat) 8) s < 4294967296:=by
 induction bs with
 | nil=>exact fun s h=>h
 | cons x l ih=>exact fun s h=>ih _ (crcIt_lt (Nat.xor_lt_two_pow (n:=32) (by omega) (by have:=x.toNat_lt;omega)) 8)
theorem crcP_lt (bs:List UInt8):crcP bs < 4294967296:=crcP_lt' bs _ (by omega)
theorem crc_xor (s x:Nat) (h:s < 4294967296) (hx:x < 256):s ^^^ x < 4294967296:=Nat.xor_lt_two_pow (n:=32) (by omega) (by omega)
theorem crc_yes (y:Nat) (h:y < 4294967296) (h1:(bits .and .u32 (y:Int) 1 == 1)=true):bits .xor .u32 ((y:Int) / 2) 3988292384=(crcStep y:Int):=by
 have e:=u32_and_nat y 1 h (by omega)
 rw [nat_mask1] at e
 have e2:bits .and .u32 (y:Int) 1=((y % 2:Nat):Int):=e
 rw [e2] at h1
 have h2:y % 2=1:=by simp at h1;omega
 rw [crcStep,if_pos h2]
 have:=u32_xor_nat (y / 2) 3988292384 (by omega) (by omega)
 rw [← this]
 simp
theorem crc_no (y:Nat) (h:y < 4294967296) (h1:(bits .and .u32 (y:Int) 1 == 1)=false):(y:Int) / 2=(crcStep y:Int):=by
 have e:=u32_and_nat y 1 h (by omega)
 rw [nat_mask1] at e
 have e2:bits .and .u32 (y:Int) 1=((y % 2:Nat):Int):=e
 rw [e2] at h1
 have h2:¬ y % 2=1:=by intro h3;rw [h3] at h1;simp at h1
 rw [crcStep,if_neg h2]
 simp
theorem crc_end (y:Nat) (h:y < 4294967296):bits .xor .u32 IntKind.u32.max (y:Int)=((4294967295 ^^^ y:Nat):Int):=by
 have:=u32_xor_nat 4294967295 y (by omega) h
 rw [← this]
 rfl
theorem crcP_step (bs:List UInt8) (k:Nat) (h:k < bs.length):crcP (bs.take (k+1))=crcIt (crcP (bs.take k) ^^^ bs[k].toNat) 8:=by
 unfold crcP
 rw [List.take_succ_eq_append_getElem h,List.foldl_append]
 rfl
set_option maxHeartbeats 400000 in
theorem crc_any (B n c:Nat) (A:Option Addr) (bs:List UInt8) (w:World) (h:RdB w B A n bs) (hm:n≤140737488355328) :
  Calls Tryz.prog 50 #[.slice A n c] w fun e w'=>e=.returned (.int .u32 (crc bs))∧w=w':=by
 obtain rfl:=h.len
 go_enter Tryz.func50,Tryz.ntmps50
 go_wp2
 go_loop [3,9] (fun s i=>∃ k:Nat,k≤bs.length∧i=.int .i64 k∧s=.int .u32 (crcP (bs.take k))) (fun _ i=>bs.length - (intOf i).toNat)
 case atStart=>exact ⟨0,Nat.zero_le _,rfl,rfl⟩
 case round =>
  obtain ⟨k,hk,rfl,rfl⟩:=hrel
  by_cases hlt:k < bs.length
  ·obtain ⟨b,o,rfl,_,hc⟩:=h.at_ (by omega)
   have hck:=hc k (by omega)
   clear hc
   have hp:=crcP_lt (bs.take k)
   have hx:=bs[k].toNat_lt
   have Hs:=Lib.hid (crcP_step bs k (by omega))
   have hxx:=crc_xor _ _ hp hx
   have hbx:=u32_xor_nat _ _ hp (by omega:bs[k].toNat < 4294967296)
   go_wp2
   go_loop [3,17] (fun s i=>∃ m:Nat,m≤8∧i=.int .i64 m∧s=.int .u32 (crcIt (crcP (bs.take k) ^^^ bs[k].toNat) m)) (fun _ i=>8 - (intOf i).toNat)
   case atStart=>exact ⟨0,Nat.zero_le _,rfl,by simp [crcIt]⟩
   case round =>
    obtain ⟨m,hm8,rfl,rfl⟩:=hrel
    have hy:=crcIt_lt hxx m
    have hs1:crcIt (crcP (bs.take k) ^^^ bs[k].toNat) (m+1)=crcStep (crcIt (crcP (bs.take k) ^^^ bs[k].toNat) m):=rfl
    by_cases hm:m < 8
    ·generalize crcIt (crcP (bs.take k) ^^^ bs[k].toNat) m=y at *
     have H1:=Lib.hid hs1
     clear hs1
     go_wp2
     ·have h1:(bits BinOp.and IntKind.u32 (y:Int) 1 == 1)=true:=by assumption
      go_round
      case rel=>exact ⟨m+1,by omega,by go_num,by rw [H1.out,crc_yes y hy h1]⟩
      case measure=>simp [intOf];omega
     ·have h1:(bits BinOp.and IntKind.u32 (y:Int) 1 == 1)=false:=by assumption
      go_round
      case rel=>exact ⟨m+1,by omega,by go_num,by rw [H1.out,crc_no y hy h1]⟩
      case measure=>simp [intOf];omega
    ·have:m=8:=by omega
     subst this
     go_wp2
     go_round
     case rel=>exact ⟨k+1,by omega,by go_num,by rw [Hs.out]⟩
     case measure=>simp [intOf];omega
  ·have:k=bs.length:=by omega
   subst this
   go_wp2
   go_ret
   refine ⟨?_,rfl⟩
   show Ending.returned (.int .u32 (bits .xor .u32 IntKind.u32.max (crcP bs:Int)))=_
   rw [crc_end _ (crcP_lt _)]
   rfl
end Go.Proofs.YtebbdifhiihfkaaGreatDoor

