/- XBestP XIn3 XIn4 XFirst7 XNum2 XBigs XPack XBigR XNum3 -/
import Derived.Test.YteoolehdomjkkaaGreatMe29
import Derived.Test.YteoolehdomjkkaaGreatMe21
import Derived.Test.YteoolehdomjkkaaGreatMe01
import Derived.Test.YteoolehdomjkkaaGreatMe02
import Derived.Test.YteoolehdomjkkaaGreatMe30
import Derived.Test.YteoolehdomjkkaaGreatMe28
namespace Go.Proofs.YteoolehdomjkkaaGreat
set_option linter.all false
/-- What a token costs by the fixed codes. -/
def costF (t:Tok):Nat:=if t.1=0 then (if t.2.2 < 144 then 8 else 9) else 7+(lenOf (lenS t.1)).2+5+(distOf (distS t.2.1)).2+(if 279 < 257+lenS t.1 then 1 else 0)
theorem codeB_len {ls:List Int} {p:Nat} (hp:p < ls.length) (hok:CodesOK ls) {t:Nat} (ht:ls[p]?=some (t:Int)):(codeB ls p).length=t:=by
 obtain ⟨t',_,e,_⟩:=codeAt_ok hok.2.1 hok.2.2 p hp
 unfold codeB
 rw [e,msb_len]
 have hg:ls.getD p 0=(t:Int):=by rw [List.getD_eq_getElem?_getD,ht];rfl
 have h1:(codeAt ls p).2=(t:Int):=by
  unfold codeAt
  rw [hg]
  split
  ·rfl
  ·show (0:Int)=t
   omega
 rw [e] at h1
 show ((t':Nat):Int).toNat=t
 omega
theorem fixL_get {p:Nat} (h:p < 288):fixL[p]?=some (fixO p):=by
 unfold fixL
 rw [List.getElem?_map,List.getElem?_range h]
 rfl
theorem fixB_code {p t:Nat} (h:p < 288) (ht:fixO p=(t:Int)):(codeB fixL p).length=t:=codeB_len (by rw [fixL_len];exact h) fixL_ok (by rw [fixL_get h,ht])
theorem fixB_dist {p:Nat} (h:p < 30):(codeB fixD p).length=5:=codeB_len (by rw [fixD_len];omega) fixD_ok (by unfold fixD;rw [List.getElem?_replicate,if_pos (by omega)];rfl)
theorem tokF_len {t:Tok} (h:TokOK t):(tokB fixL fixD t).length=costF t:=by
 unfold tokB costF
 split
 ·rename_i e
  have hy:t.2.2 < 256:=by
   rcases h with ⟨_,h⟩ | ⟨h,_⟩
   ·exact h
   ·omega
  split
  ·exact fixB_code (by omega) (by unfold fixO;rw [if_pos (by omega)];rfl)
  ·exact fixB_code (by omega) (by unfold fixO;rw [if_neg (by omega),if_pos (by omega)];rfl)
 ·rename_i e
  obtain ⟨h3,h4,h5,h6⟩:3≤t.1∧t.1≤258∧1≤t.2.1∧t.2.1≤32768:=by rcases h with ⟨h,_⟩ | h;exact absurd h e;exact h
  have q1:=(lenS_spec (x:=t.1) h3).1
  have q2:=(distS_spec (x:=t.2.1) h5).1
  rw [List.length_append,List.length_append,List.length_append,lsb_len,lsb_len,fixB_dist (by omega)]
  split
  ·rw [fixB_code (t:=8) (by omega) (by unfold fixO;rw [if_neg (by omega),if_neg (by omega),if_neg (by omega)];rfl)]
   omega
  ·rw [fixB_code (t:=7) (by omega) (by unfold fixO;rw [if_neg (by omega),if_neg (by omega),if_pos (by omega)];rfl)]
   rfl
def costs (ts:List Tok):Nat:=10+(ts.map costF).sum
theorem fixB_len {ts:List Tok} (h:∀ t ∈ ts,TokOK t):(fixB ts).length=costs ts:=by
 have h1:(ts.flatMap (tokB fixL fixD)).length=(ts.map costF).sum:=by
  induction ts with
  | nil=>rfl
  | cons t r ih =>
   rw [List.flatMap_cons,List.length_append,List.map_cons,List.sum_cons,tokF_len (h t (by simp)),ih (fun u hu=>h u (by simp [hu]))]
 unfold fixB toksB costs
 rw [List.length_append,List.length_append,headL_len,h1,fixB_code (p:=256) (t:=7) (by omega) (by unfold fixO;rw [if_neg (by omega),if_neg (by omega),if_pos (by omega)];rfl)]
 omega
theorem deflB_le (bs:List UInt8) (ts:List Tok):(deflB bs ts).length≤(plainL bs).length∧(deflB bs ts).length≤(fixB ts).length:=by
 have h1:(best1 bs ts).length≤(plainL bs).length∧(best1 bs ts).length≤(fixB ts).length:=by unfold best1;split <;> omega
 unfold deflB
 split <;> omega
theorem best_le {bs bz:List UInt8} {ts:List Tok} (h:∀ t ∈ ts,TokOK t) (hw:WB bz (deflB bs ts)):bz.length≤(costs ts+7) / 8∧bz.length≤bs.length+5:=by
 have h1:=hw.1
 have h2:=deflB_le bs ts
 rw [plainL_len,fixB_len h] at h2
 omega
end Go.Proofs.YteoolehdomjkkaaGreat

/- flate: a reader of blocks: a stored block. -/
namespace Go.Proofs.YteoolehdomjkkaaGreat
set_option linter.all false
open Go.RowKit
end Go.Proofs.YteoolehdomjkkaaGreat

/- flate: Inflate, of blocks that are read to their ends. -/
namespace Go.Proofs.YteoolehdomjkkaaGreat
set_option linter.all false
open Go.RowKit
end Go.Proofs.YteoolehdomjkkaaGreat

/- flate: what the chapter's examples fix. -/
namespace Go.Proofs.YteoolehdomjkkaaGreat
set_option linter.all false
open Go.RowKit
theorem WB.of {bs:List UInt8} {L:List Nat} (hl:bs.length=(L.length+7) / 8) (h:∀ p,p < 8 * bs.length→bitAt bs p=L.getD p 0):WB bs L:=by
 refine ⟨hl,fun p=>?_⟩
 by_cases hp:p < 8 * bs.length
 ·exact h p hp
 ·unfold bitAt
  rw [List.getD_eq_getElem?_getD,List.getElem?_eq_none (by omega),List.getD_eq_getElem?_getD,List.getElem?_eq_none (by omega)]
  simp
theorem rdB_nil0 {w:World} {B:Nat} {A:Option Addr}:RdB w B A 0 []:=⟨by simp [cb],fun h=>absurd h (by omega)⟩
end Go.Proofs.YteoolehdomjkkaaGreat

set_option linter.all false
namespace Go.Proofs.YteoolehdomjkkaaGreat
open Go.RowKit
/-- Adler's two sums after the bytes, from (s, t). -/
def adF:Nat × Nat→UInt8→Nat × Nat:=fun p x=>((p.1+x.toNat) % 65521,(p.2+(p.1+x.toNat) % 65521) % 65521)
def adP (bs:List UInt8):Nat × Nat:=bs.foldl adF (1,0)
def adler (bs:List UInt8):Nat:=(adP bs).2 * 65536+(adP bs).1
theorem adP_lt (bs:List UInt8):(adP bs).1 < 65521∧(adP bs).2 < 65521:=by
 unfold adP
 rcases List.eq_nil_or_concat bs with rfl | ⟨l,x,rfl⟩
 ·simp
 ·simp [adF,List.foldl_append,Nat.mod_lt]
theorem adP_step (bs:List UInt8) (k:Nat) (h:k < bs.length):adP (bs.take (k+1))=adF (adP (bs.take k)) bs[k]:=by
 unfold adP
 rw [List.take_succ_eq_append_getElem h,List.foldl_append]
 rfl
set_option maxHeartbeats 400000 in
theorem adler_any (B n c:Nat) (A:Option Addr) (bs:List UInt8) (w:World) (h:RdB w B A n bs) (hm:n≤140737488355328) :
  Calls Tryz.prog 73 #[.slice A n c] w fun e w'=>e=.returned (.int .u32 (adler bs))∧w=w':=by
 obtain rfl:=h.len
 go_enter Tryz.func73,Tryz.ntmps73
 go_wp2
 go_loop [3,4,9] (fun s t i=>∃ k:Nat,k≤bs.length∧i=.int .i64 k∧s=.int .u32 (adP (bs.take k)).1∧t=.int .u32 (adP (bs.take k)).2) (fun _ _ i=>bs.length - (intOf i).toNat)
 case atStart=>exact ⟨0,Nat.zero_le _,rfl,rfl,rfl⟩
 case round =>
  obtain ⟨k,hk,rfl,rfl,rfl⟩:=hrel
  by_cases hlt:k < bs.length
  ·obtain ⟨b,o,rfl,_,hc⟩:=h.at_ (by omega)
   have hck:=hc k (by omega)
   clear hc
   have hp:=adP_lt (bs.take k)
   have hx:=bs[k].toNat_lt
   have Hs:=Lib.hid (adP_step bs k (by omega))
   go_wp2
   go_round
   case rel=>exact ⟨k+1,by omega,by go_num,by rw [Hs.out];simp [adF],by rw [Hs.out];simp [adF]⟩
   case measure=>simp [intOf];omega
  ·have hp:=adP_lt bs
   have:k=bs.length:=by omega
   subst this
   go_wp2
   go_ret
   refine ⟨?_,rfl⟩
   show Ending.returned (.int .u32 (bits .or .u32 (((adP bs).2:Int) * 65536) ((adP bs).1:Int)))=_
   have e:bits .or .u32 (((adP bs).2:Int) * 65536) ((adP bs).1:Int)=(adler bs:Int):=by
    have:=u32_or_nat ((adP bs).2 * 65536) (adP bs).1 (by omega) (by omega)
    rw [nat_join 16 _ _ (by omega) (by omega)] at this
    rw [adler,← this]
    simp
   rw [e]
def crcStep (s:Nat):Nat:=if s % 2=1 then (s / 2) ^^^ 3988292384 else s / 2
def crcIt (s:Nat):Nat→Nat | 0=>s | k+1=>crcStep (crcIt s k)
def crcP (bs:List UInt8):Nat:=bs.foldl (fun s x=>crcIt (s ^^^ x.toNat) 8) 4294967295
def crc (bs:List UInt8):Nat:=4294967295 ^^^ crcP bs
theorem crcStep_lt {s:Nat} (h:s < 4294967296):crcStep s < 4294967296:=by
 unfold crcStep
 split
 ·exact Nat.xor_lt_two_pow (n:=32) (by omega) (by omega)
 ·omega
theorem crcIt_lt {s:Nat} (h:s < 4294967296) (k:Nat):crcIt s k < 4294967296:=by
 induction k with
 | zero=>exact h
 | succ k ih=>exact crcStep_lt ih
theorem crcP_lt' (bs:List UInt8):∀ s,s < 4294967296→bs.foldl (fun s x=>crcIt (s ^^^ x.toNat) 8) s < 4294967296:=by
 induction bs with
 | nil=>exact fun s h=>h
 | cons x l ih=>exact fun s h=>ih _ (crcIt_lt (Nat.xor_lt_two_pow (n:=32) (by omega) (by have:=x.toNat_lt;omega)) 8)
theorem crcP_lt (bs:List UInt8):crcP bs < 4294967296:=crcP_lt' bs _ (by omega)
theorem crc_xor (s x:Nat) (h:s < 4294967296) (hx:x < 256):s ^^^ x < 4294967296:=Nat.xor_lt_two_pow (n:=32) (by omega) (by omega)
theorem crc_yes (y:Nat) (h:y < 4294967296) (h1:(bits .and .u32 (y:Int) 1 == 1)=true):bits .xor .u32 ((y:Int) / 2) 3988292384=(crcStep y:Int):=by
 have e:=u32_and_nat y 1 h (by omega)
 rw [nat_mask1] at e
 have e2:bits .and .u32 (y:Int) 1=((y % 2:Nat):Int):=e
 rw [e2] at h1
 have h2:y % 2=1:=by simp at h1;omega
 rw [crcStep,if_pos h2]
 have:=u32_xor_nat (y / 2) 3988292384 (by omega) (by omega)
 rw [← this]
 simp
theorem crc_no (y:Nat) (h:y < 4294967296) (h1:(bits .and .u32 (y:Int) 1 == 1)=false):(y:Int) / 2=(crcStep y:Int):=by
 have e:=u32_and_nat y 1 h (by omega)
 rw [nat_mask1] at e
 have e2:bits .and .u32 (y:Int) 1=((y % 2:Nat):Int):=e
 rw [e2] at h1
 have h2:¬ y % 2=1:=by intro h3;rw [h3] at h1;simp at h1
 rw [crcStep,if_neg h2]
 simp
theorem crc_end (y:Nat) (h:y < 4294967296):bits .xor .u32 IntKind.u32.max (y:Int)=((4294967295 ^^^ y:Nat):Int):=by
 have:=u32_xor_nat 4294967295 y (by omega) h
 rw [← this]
 rfl
theorem crcP_step (bs:List UInt8) (k:Nat) (h:k < bs.length):crcP (bs.take (k+1))=crcIt (crcP (bs.take k) ^^^ bs[k].toNat) 8:=by
 unfold crcP
 rw [List.take_succ_eq_append_getElem h,List.foldl_append]
 rfl
set_option maxHeartbeats 400000 in
theorem crc_any (B n c:Nat) (A:Option Addr) (bs:List UInt8) (w:World) (h:RdB w B A n bs) (hm:n≤140737488355328) :
  Calls Tryz.prog 138 #[.slice A n c] w fun e w'=>e=.returned (.int .u32 (crc bs))∧w=w':=by
 obtain rfl:=h.len
 go_enter Tryz.func138,Tryz.ntmps138
 go_wp2
 go_loop [3,9] (fun s i=>∃ k:Nat,k≤bs.length∧i=.int .i64 k∧s=.int .u32 (crcP (bs.take k))) (fun _ i=>bs.length - (intOf i).toNat)
 case atStart=>exact ⟨0,Nat.zero_le _,rfl,rfl⟩
 case round =>
  obtain ⟨k,hk,rfl,rfl⟩:=hrel
  by_cases hlt:k < bs.length
  ·obtain ⟨b,o,rfl,_,hc⟩:=h.at_ (by omega)
   have hck:=hc k (by omega)
   clear hc
   have hp:=crcP_lt (bs.take k)
   have hx:=bs[k].toNat_lt
   have Hs:=Lib.hid (crcP_step bs k (by omega))
   have hxx:=crc_xor _ _ hp hx
   have hbx:=u32_xor_nat _ _ hp (by omega:bs[k].toNat < 4294967296)
   go_wp2
   go_loop [3,17] (fun s i=>∃ m:Nat,m≤8∧i=.int .i64 m∧s=.int .u32 (crcIt (crcP (bs.take k) ^^^ bs[k].toNat) m)) (fun _ i=>8 - (intOf i).toNat)
   case atStart=>exact ⟨0,Nat.zero_le _,rfl,by simp [crcIt]⟩
   case round =>
    obtain ⟨m,hm8,rfl,rfl⟩:=hrel
    have hy:=crcIt_lt hxx m
    have hs1:crcIt (crcP (bs.take k) ^^^ bs[k].toNat) (m+1)=crcStep (crcIt (crcP (bs.take k) ^^^ bs[k].toNat) m):=rfl
    by_cases hm:m < 8
    ·generalize crcIt (crcP (bs.take k) ^^^ bs[k].toNat) m=y at *
     have H1:=Lib.hid hs1
     clear hs1
     go_wp2
     ·have h1:(bits BinOp.and IntKind.u32 (y:Int) 1 == 1)=true:=by assumption
      go_round
      case rel=>exact ⟨m+1,by omega,by go_num,by rw [H1.out,crc_yes y hy h1]⟩
      case measure=>simp [intOf];omega
     ·have h1:(bits BinOp.and IntKind.u32 (y:Int) 1 == 1)=false:=by assumption
      go_round
      case rel=>exact ⟨m+1,by omega,by go_num,by rw [H1.out,crc_no y hy h1]⟩
      case measure=>simp [intOf];omega
    ·have:m=8:=by omega
     subst this
     go_wp2
     go_round
     case rel=>exact ⟨k+1,by omega,by go_num,by rw [Hs.out]⟩
     case measure=>simp [intOf];omega
  ·have:k=bs.length:=by omega
   subst this
   go_wp2
   go_ret
   refine ⟨?_,rfl⟩
   show Ending.returned (.int .u32 (bits .xor .u32 IntKind.u32.max (crcP bs:Int)))=_
   rw [crc_end _ (crcP_lt _)]
   rfl
end Go.Proofs.YteoolehdomjkkaaGreat

set_option linter.all false
namespace Go.Proofs.YteoolehdomjkkaaGreat
open Go.RowKit
def numOk (n width:Int):Prop:=1≤width∧width≤6∧0≤n∧n / 2 ^ (8 * width.toNat)≤0
instance (n width:Int):Decidable (numOk n width):=by unfold numOk;infer_instance
def beR (n width:Int):List UInt8 × Int:=if numOk n width then (beB n.toNat width.toNat,0) else ([],1)
theorem numBad {n width:Int} (h:¬ numOk n width):width < 1∨6 < width∨n < 0∨(0≤n∧1≤width∧width≤6∧0 < n / 2 ^ (8 * width).toNat):=by
 unfold numOk at h
 by_cases h1:width < 1
 ·exact .inl h1
 by_cases h2:6 < width
 ·exact .inr (.inl h2)
 by_cases h3:n < 0
 ·exact .inr (.inr (.inl h3))
 refine .inr (.inr (.inr ⟨by omega,by omega,by omega,?_⟩))
 rw [show (8 * width).toNat=8 * width.toNat by omega]
 omega
theorem big_any (n width:Int) (w:World) :
  Calls Tryz.prog 72 #[.int .i64 n,.int .i64 width] w fun e w'=>∃ v,e=.returned (.tuple #[v,.int .i64 (beR n width).2])∧ownB w' w.heap.size v (beR n width).1∧Below w.heap.size w w':=by
 unfold beR
 by_cases h:numOk n width
 ·rw [if_pos h]
  obtain ⟨h1,h2,h3,h4⟩:=h
  obtain ⟨W,rfl⟩:=Int.eq_ofNat_of_zero_le (by omega:0≤width)
  rw [Int.toNat_natCast] at h4 ⊢
  exact big_ok n W w h3 (by omega) (by omega) (by simp;omega)
 ·rw [if_neg h]
  refine (big_bad n width w (numBad h)).mono ?_
  rintro e w' ⟨rfl,hb⟩
  exact ⟨_,rfl,ownB.nil_ _ _,hb⟩
end Go.Proofs.YteoolehdomjkkaaGreat

/- flate and zlib: Deflate and Pack of any bytes. -/
namespace Go.Proofs.YteoolehdomjkkaaGreat
set_option linter.all false
open Go.RowKit
theorem deflate_all (B n c:Nat) (A:Option Addr) (bs:List UInt8) (w:World) (h:RdB w B A n bs) (hB:B≤w.heap.size) (hn:n≤40000) (hcap:n≤c) :
  Calls Tryz.prog 22 #[.slice A n c] w fun e w'=>∃ v bz,e=.returned (.tuple #[v,.int .i64 0])∧ownB w' w.heap.size v bz∧WB bz (deflB bs (findP bs))∧Below w.heap.size w w' :=
 deflate_any B n c A bs (findP bs) w h hB hn (find_any B n c A bs w h hB hn hcap) (findP_ok bs).1 (by have:=(findP_ok bs).2;have:=h.len;omega)
theorem best_len {bs bz:List UInt8} (hw:WB bz (deflB bs (findP bs))):bz.length≤bs.length+5:=(best_le (findP_ok bs).1 hw).2
theorem adler_lt (bs:List UInt8):adler bs < 4294967296:=by
 have h:=adP_lt bs
 have e:adler bs=(adP bs).2 * 65536+(adP bs).1:=rfl
 omega
theorem big4 {x:Nat} (h:x < 4294967296):∃ S,beR (x:Int) 4=(S,0)∧S.length=4:=by
 have hk:numOk (x:Int) 4:=⟨by omega,by omega,by omega,by show (x:Int) / 2 ^ (8 * 4)≤0;omega⟩
 exact ⟨beB x 4,by unfold beR;rw [if_pos hk];rfl,beB_len _ _⟩
/-- A frame's bytes. -/
def packL (bz S:List UInt8):List UInt8:=[120,156] ++ bz ++ S
set_option maxRecDepth 100000 in
set_option maxHeartbeats 3200000 in
theorem pack_any (B n c:Nat) (A:Option Addr) (bs S:List UInt8) (w:World) (h:RdB w B A n bs) (hB:B≤w.heap.size) (hn:n≤40000) (hcap:n≤c) (hS:beR ((adler bs:Nat):Int) 4=(S,0)) (hS4:S.length=4) :
  Calls Tryz.prog 32 #[.slice A n c] w fun e w'=>∃ v bz,e=.returned (.tuple #[v,.int .i64 0])∧ownB w' w.heap.size v (packL bz S)∧WB bz (deflB bs (findP bs))∧Below w.heap.size w w':=by
 have HD:=Lib.hid (deflate_all B n c A bs w h hB hn hcap)
 have HR:=Lib.hid h
 have hx:=adler_lt bs
 have HAD:=Lib.hid (fun w1 (h:RdB w1 B A n bs)=>adler_any B n c A bs w1 h (by omega))
 have HBG:=Lib.hid (fun w=>big_any ((adler bs:Nat):Int) 4 w)
 rw [hS] at HBG
 have hl:=h.len
 generalize adler bs=x at *
 clear h hS
 go_enter Tryz.func32,Tryz.ntmps32
 go_wp2_with (first
  | (go_at_call 22;(with_reducible refine HD.out.mono ?_);go_must (rintro e w1 ⟨v1,bz,rfl,ho1,hz1,hb1⟩;have hbz:=best_len hz1;obtain ⟨A1,c1,rfl,hr1,-,-⟩:=ho1.form;have HAD1:=Lib.hid (HAD.out w1 (HR.out.blw (hb1.mono hB)));have HR1:=Lib.hid hr1;have HB1:=Lib.hid hb1;have HZ1:=Lib.hid hz1;have hsz1:=hb1.size;clear ho1 hz1 hb1 hr1))
  | (go_at_call 73;(with_reducible refine HAD1.out.mono ?_);go_must (rintro e w2 ⟨rfl,rfl⟩))
  | (go_at_call 72;(with_reducible refine (HBG.out _).mono ?_);go_must (rintro e w3 ⟨v3,rfl,ho3,hb3⟩;obtain ⟨A3,c3,rfl,-,-,-⟩:=ho3.form;have hr3:=ownB.rd ho3;rw [hS4] at hr3;have HR3:=Lib.hid (Rd.alloc hr3 (Nat.le_refl _) (.cells #[Value.int .u8 120,Value.int .u8 156] 5));have HR13:=Lib.hid (Rd.alloc (RdB.blw HR1.out hb3) hb3.size (.cells #[Value.int .u8 120,Value.int .u8 156] 5));have hsz3:=hb3.size;have HB3:=Lib.hid (HB1.out.trans (hb3.mono hsz1));have HOL:=Lib.hid (own_lit w3 [120,156] (by decide));have hqa:w3.heap.size≤(w3.alloc (.cells #[Value.int .u8 120,Value.int .u8 156] 5)).heap.size:=alloc_le _ _;have hqb:([120,156]:List UInt8).length+bz.length≤140737488355328:=(by show 2+bz.length≤_;omega);clear ho3 hb3 hr3))
  | (at_builtin;(refine wpList_appendB rfl (.tmp 25) (.tmp 26) rfl w3.heap.size v4 ([120,156] ++ bz) rfl HO4.out _ 4 c3 A3 S rfl HR4.out hqc hqd ?_;intro v5 w5 ho5 hg5 hb5 ha5;have HB5:=Lib.hid (HB4.out.trans (hb5.mono (by omega)));have HO5:=Lib.hid (ownB.mono ho5 (by omega:w.heap.size≤w3.heap.size));clear ho5 hg5 hb5 ha5))
  | (at_builtin;(refine wpList_appendB rfl (.tmp 23) (.tmp 24) rfl w3.heap.size (.slice (some ⟨w3.heap.size,0,none⟩) 2 2) [120,156] rfl HOL.out w1.heap.size bz.length c1 A1 bz rfl HR13.out hqb hqa ?_;intro v4 w4 ho4 hg4 hb4 ha4;have hz4:=hb4.size;have hqd:w3.heap.size≤w4.heap.size:=(by omega);have hqc:(([120,156]:List UInt8) ++ bz).length+4≤140737488355328:=(by rw [List.length_append];show 2+bz.length+4≤_;omega);have HR4:=Lib.hid (Rd.below HR3.out hb4);have HB4:=Lib.hid ((HB3.out.alloc (by omega) (.cells #[Value.int .u8 120,Value.int .u8 156] 5)).trans (hb4.mono (by omega)));have HO4:=Lib.hid ho4;clear ho4 hg4 hb4 ha4)))
 go_ret2
 exact ⟨_,bz,rfl,HO5.out,HZ1.out,HB5.out⟩
end Go.Proofs.YteoolehdomjkkaaGreat

/- The reference's Big upon XBigs (out of XNum6). -/
namespace Go.Proofs.YteoolehdomjkkaaGreat
set_option linter.all false
open Go.RowKit
theorem beB_at (n W k:Nat) (hk:k < W):(beB n W)[W - 1 - k]?=some (UInt8.ofNat (n / 2 ^ (8 * k))):=by
 unfold beB leB
 rw [List.getElem?_reverse (by simp;omega)]
 simp
 rw [List.getElem?_range (by omega)]
 simp
 congr 3
 omega
theorem beB_step (n W k:Nat) (hk:k < W):(beB n W).take (W - k)=(beB n W).take (W - (k+1)) ++ [UInt8.ofNat (n / 2 ^ (8 * k))]:=by
 have h:=beB_at n W k hk
 obtain ⟨h1,h2⟩:=List.getElem?_eq_some_iff.1 h
 have e:W - k=(W - 1 - k)+1:=by omega
 rw [e,List.take_succ_eq_append_getElem h1,h2,show W - (k+1)=W - 1 - k by omega]
set_option maxHeartbeats 800000 in
theorem bigR_ok (n:Int) (W:Nat) (w:World) (h0:0≤n) (h1:1≤W) (h2:W≤6) (h3:decide (0 < n / 2 ^ (8 * W))=false) :
  Calls Tryz.prog 74 #[.int .i64 n,.int .i64 W] w fun e w'=>∃ v,e=.returned (.tuple #[v,.int .i64 0]) ∧
   ownB w' w.heap.size v (beB n.toNat W)∧Below w.heap.size w w':=by
 have d1:decide ((W:Int) < 1)=false:=by simp;omega
 have d2:decide (6 < (W:Int))=false:=by simp;omega
 have d3:decide (n < 0)=false:=by simp;omega
 go_enter Tryz.func74,Tryz.ntmps74
 go_wp2
 go_loopw [6,7] (fun v i wr=>∃ k:Nat,k≤W∧i=.int .i64 ((k:Int) - 1)∧ownB wr w.heap.size v ((beB n.toNat W).take (W - k))∧Below w.heap.size w wr)
  (fun _ i _=>(intOf i+1).toNat)
 case atStart=>exact ⟨W,Nat.le_refl _,rfl,by simpa using ownB.nil_ _ _,Below.refl _ _⟩
 case round =>
  obtain ⟨k,hk,rfl,hown,hB⟩:=hrel
  by_cases hlt:k=0
  ·subst hlt
   rw [Nat.sub_zero,List.take_of_length_le (by rw [beB_len];omega)] at hown
   go_wp2
   go_ret2
   exact ⟨_,rfl,hown,hB⟩
  ·obtain ⟨m,rfl⟩:∃ m,k=m+1:=⟨k - 1,by omega⟩
   rw [show ((m+1:Nat):Int) - 1=(m:Int) by omega]
   have HS:=Lib.hid (beB_step n.toNat W m (by omega))
   have hle:((beB n.toNat W).take (W - (m+1))).length≤6:=by simp;omega
   have hu:=(u8_ofNat n h0 m).symm
   have HU:=Lib.hid hu
   clear hu hlt
   go_wp2_with (at_builtin;go_must (refine wpList_appendB rfl (.tmp 32) (.tmp 39) rfl w.heap.size _ _ rfl (ownB.alloc hown _) _ 1 1 _ [UInt8.ofNat (n.toNat / 2 ^ (8 * m))] rfl (rd_one _ _ _ HU.out) (by omega) (by have:=hB.size;simp;omega) ?_;intro v1 w1 hown1 hg1 hb1 hat1))
   clear hg1 hat1
   go_roundw
   case rel=>exact ⟨m,by omega,by go_num,by rw [HS.out];exact hown1,(hB.alloc hB.size _).trans hb1⟩
   case measure=>simp [intOf]
/-- The reference's answer where the number does not fit. -/
theorem bigR_bad (n width:Int) (w:World) (h:width < 1∨6 < width∨n < 0∨(0≤n∧1≤width∧width≤6∧0 < n / 2 ^ (8 * width).toNat)) :
  Calls Tryz.prog 74 #[.int .i64 n,.int .i64 width] w fun e w'=>e=.returned (.tuple #[.slice none 0 0,.int .i64 1])∧w=w':=by
 rcases h with h | h | h | ⟨h0,h1,h2,h3⟩
 ·have d1:decide (width < 1)=true:=by simp;omega
  go_enter Tryz.func74,Tryz.ntmps74
  go_wp2
  go_ret2
  exact ⟨rfl,rfl⟩
 ·have d1:decide (width < 1)=false:=by simp;omega
  have d2:decide (6 < width)=true:=by simp;omega
  go_enter Tryz.func74,Tryz.ntmps74
  go_wp2
  go_ret2
  exact ⟨rfl,rfl⟩
 ·by_cases h1:width < 1
  ·have d1:decide (width < 1)=true:=by simp;omega
   go_enter Tryz.func74,Tryz.ntmps74
   go_wp2
   go_ret2
   exact ⟨rfl,rfl⟩
  ·have d1:decide (width < 1)=false:=by simp;omega
   by_cases h2:6 < width
   ·have d2:decide (6 < width)=true:=by simp;omega
    go_enter Tryz.func74,Tryz.ntmps74
    go_wp2
    go_ret2
    exact ⟨rfl,rfl⟩
   ·have d2:decide (6 < width)=false:=by simp;omega
    have d3:decide (n < 0)=true:=by simp;omega
    go_enter Tryz.func74,Tryz.ntmps74
    go_wp2
    go_ret2
    exact ⟨rfl,rfl⟩
 ·have d1:decide (width < 1)=false:=by simp;omega
  have d2:decide (6 < width)=false:=by simp;omega
  have d3:decide (n < 0)=false:=by simp;omega
  obtain ⟨k,rfl⟩:=Int.eq_ofNat_of_zero_le (by omega:0≤width)
  have d4:decide (0 < n / 2 ^ (8 * k))=true:=by
   rw [show (8 * (k:Int)).toNat=8 * k by omega] at h3
   simpa using h3
  clear h3
  go_enter Tryz.func74,Tryz.ntmps74
  go_wp2
  go_ret2
  exact ⟨rfl,rfl⟩
theorem bigR_any (n width:Int) (w:World) :
  Calls Tryz.prog 74 #[.int .i64 n,.int .i64 width] w fun e w'=>∃ v,e=.returned (.tuple #[v,.int .i64 (beR n width).2])∧ownB w' w.heap.size v (beR n width).1∧Below w.heap.size w w':=by
 unfold beR
 by_cases h:numOk n width
 ·rw [if_pos h]
  obtain ⟨h1,h2,h3,h4⟩:=h
  obtain ⟨W,rfl⟩:=Int.eq_ofNat_of_zero_le (by omega:0≤width)
  rw [Int.toNat_natCast] at h4 ⊢
  exact bigR_ok n W w h3 (by omega) (by omega) (by simp;omega)
 ·rw [if_neg h]
  refine (bigR_bad n width w (numBad h)).mono ?_
  rintro e w' ⟨rfl,rfl⟩
  exact ⟨_,rfl,ownB.nil_ _ _,Below.refl _ _⟩
end Go.Proofs.YteoolehdomjkkaaGreat

set_option linter.all false
namespace Go.Proofs.YteoolehdomjkkaaGreat
open Go.RowKit
set_option maxHeartbeats 400000 in
theorem adlerR_any (B n c:Nat) (A:Option Addr) (bs:List UInt8) (w:World) (h:RdB w B A n bs) (hm:n≤140737488355328) :
  Calls Tryz.prog 75 #[.slice A n c] w fun e w'=>e=.returned (.int .u32 (adler bs))∧w=w':=by
 obtain rfl:=h.len
 go_enter Tryz.func75,Tryz.ntmps75
 go_wp2
 go_loop [3,4,5] (fun s t i=>∃ k:Nat,k≤bs.length∧i=.int .i64 k∧s=.int .u32 (adP (bs.take k)).1∧t=.int .u32 (adP (bs.take k)).2) (fun _ _ i=>bs.length - (intOf i).toNat)
 case atStart=>exact ⟨0,Nat.zero_le _,rfl,rfl,rfl⟩
 case round =>
  obtain ⟨k,hk,rfl,rfl,rfl⟩:=hrel
  by_cases hlt:k < bs.length
  ·obtain ⟨b,o,rfl,_,hc⟩:=h.at_ (by omega)
   have hck:=hc k (by omega)
   clear hc
   have hp:=adP_lt (bs.take k)
   have hx:=bs[k].toNat_lt
   have Hs:=Lib.hid (adP_step bs k (by omega))
   go_wp2
   go_round
   case rel=>exact ⟨k+1,by omega,by go_num,by rw [Hs.out];simp [adF],by rw [Hs.out];simp [adF]⟩
   case measure=>simp [intOf];omega
  ·have hp:=adP_lt bs
   have:k=bs.length:=by omega
   subst this
   go_wp2
   go_ret
   refine ⟨?_,rfl⟩
   show Ending.returned (.int .u32 (bits .or .u32 (((adP bs).2:Int) * 65536) ((adP bs).1:Int)))=_
   have e:bits .or .u32 (((adP bs).2:Int) * 65536) ((adP bs).1:Int)=(adler bs:Int):=by
    have:=u32_or_nat ((adP bs).2 * 65536) (adP bs).1 (by omega) (by omega)
    rw [nat_join 16 _ _ (by omega) (by omega)] at this
    rw [adler,← this]
    simp
   rw [e]
set_option maxHeartbeats 400000 in
theorem crcR_any (B n c:Nat) (A:Option Addr) (bs:List UInt8) (w:World) (h:RdB w B A n bs) (hm:n≤140737488355328) :
  Calls Tryz.prog 139 #[.slice A n c] w fun e w'=>e=.returned (.int .u32 (crc bs))∧w=w':=by
 obtain rfl:=h.len
 go_enter Tryz.func139,Tryz.ntmps139
 go_wp2
 go_loop [3,4] (fun s i=>∃ k:Nat,k≤bs.length∧i=.int .i64 k∧s=.int .u32 (crcP (bs.take k))) (fun _ i=>bs.length - (intOf i).toNat)
 case atStart=>exact ⟨0,Nat.zero_le _,rfl,rfl⟩
 case round =>
  obtain ⟨k,hk,rfl,rfl⟩:=hrel
  by_cases hlt:k < bs.length
  ·obtain ⟨b,o,rfl,_,hc⟩:=h.at_ (by omega)
   have hck:=hc k (by omega)
   clear hc
   have hp:=crcP_lt (bs.take k)
   have hx:=bs[k].toNat_lt
   have Hs:=Lib.hid (crcP_step bs k (by omega))
   have hxx:=crc_xor _ _ hp hx
   have hbx:=u32_xor_nat _ _ hp (by omega:bs[k].toNat < 4294967296)
   go_wp2
   go_loop [3,5] (fun s i=>∃ m:Nat,m≤8∧i=.int .i64 m∧s=.int .u32 (crcIt (crcP (bs.take k) ^^^ bs[k].toNat) m)) (fun _ i=>8 - (intOf i).toNat)
   case atStart=>exact ⟨0,Nat.zero_le _,rfl,by simp [crcIt]⟩
   case round =>
    obtain ⟨m,hm8,rfl,rfl⟩:=hrel
    have hy:=crcIt_lt hxx m
    have hs1:crcIt (crcP (bs.take k) ^^^ bs[k].toNat) (m+1)=crcStep (crcIt (crcP (bs.take k) ^^^ bs[k].toNat) m):=rfl
    by_cases hm:m < 8
    ·generalize crcIt (crcP (bs.take k) ^^^ bs[k].toNat) m=y at *
     have H1:=Lib.hid hs1
     clear hs1
     go_wp2
     ·have h1:(bits BinOp.and IntKind.u32 (y:Int) 1 == 1)=true:=by assumption
      go_round
      case rel=>exact ⟨m+1,by omega,by go_num,by rw [H1.out,crc_yes y hy h1]⟩
      case measure=>simp [intOf];omega
     ·have h1:(bits BinOp.and IntKind.u32 (y:Int) 1 == 1)=false:=by assumption
      go_round
      case rel=>exact ⟨m+1,by omega,by go_num,by rw [H1.out,crc_no y hy h1]⟩
      case measure=>simp [intOf];omega
    ·have:m=8:=by omega
     subst this
     go_wp2
     go_round
     case rel=>exact ⟨k+1,by omega,by go_num,by rw [Hs.out]⟩
     case measure=>simp [intOf];omega
  ·have:k=bs.length:=by omega
   subst this
   go_wp2
   go_ret
   refine ⟨?_,rfl⟩
   show Ending.returned (.int .u32 (bits .xor .u32 IntKind.u32.max (crcP bs:Int)))=_
   rw [crc_end _ (crcP_lt _)]
   rfl
end Go.Proofs.YteoolehdomjkkaaGreat

