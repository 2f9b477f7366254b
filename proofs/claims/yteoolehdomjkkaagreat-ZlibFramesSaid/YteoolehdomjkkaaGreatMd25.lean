/- Merged: Bigs, Pack, BigR, Num3, Def5. -/
import Derived.Test.YteoolehdomjkkaaGreatMd06
import Derived.Test.YteoolehdomjkkaaGreatMd24
import Derived.Test.YteoolehdomjkkaaGreatMd19
import Derived.Test.YteoolehdomjkkaaGreatMd23
import Derived.Test.YteoolehdomjkkaaGreatMd21
import Derived.Test.YteoolehdomjkkaaGreatMd20
set_option linter.all false
namespace Go.Proofs.YteoolehdomjkkaaGreat
open Go.RowKit
theorem there_ok (B n c:Nat) (A:Option Addr) (bs:List UInt8) (k W:Nat) (w:World) (h:RdB w B A n bs) (hc:n≤c) (hm:n≤140737488355328) (h1:1≤W) (h2:W≤6) (h3:k+W≤n) :
  Calls Tryz.prog 129 #[.slice A n c,.int .i64 k,.int .i64 W] w fun e w'=>∃ A' c',e=.returned (.tuple #[.slice A' W c',.int .i64 0]) ∧
   RdB w B A' W ((bs.drop k).take W)∧w=w':=by
 obtain rfl:=h.len
 have d1:decide ((W:Int) < 1)=false:=by simp;omega
 have d2:decide (6 < (W:Int))=false:=by simp;omega
 have d3:decide ((k:Int) < 0)=false:=by simp
 have d4:decide ((bs.length:Int) < (k:Int))=false:=by simp;omega
 go_enter Tryz.func129,Tryz.ntmps129
 go_wp2
 go_ret2
 exact ⟨A.map (·.add k),c - k,ret_tup2 (show Value.slice _ (k+W - k) _=_ by rw [Nat.add_sub_cancel_left]) rfl,h.cut (by omega) (fun _=>rfl),rfl⟩
theorem there_bad (B n c:Nat) (A:Option Addr) (bs:List UInt8) (k W:Int) (w:World) (h:RdB w B A n bs) (hm:n≤140737488355328) (h1:W < 1∨6 < W∨k < 0∨(n:Int) < k) :
  Calls Tryz.prog 129 #[.slice A n c,.int .i64 k,.int .i64 W] w fun e w'=>e=.returned (.tuple #[.slice none 0 0,.int .i64 1])∧w=w':=by
 obtain rfl:=h.len
 by_cases c1:W < 1
 ·have d1:decide (W < 1)=true:=by simp;omega
  go_enter Tryz.func129,Tryz.ntmps129
  go_wp2
  go_ret2
  exact ⟨rfl,rfl⟩
 have d1:decide (W < 1)=false:=by simp;omega
 by_cases c2:6 < W
 ·have d2:decide (6 < W)=true:=by simp;omega
  go_enter Tryz.func129,Tryz.ntmps129
  go_wp2
  go_ret2
  exact ⟨rfl,rfl⟩
 have d2:decide (6 < W)=false:=by simp;omega
 by_cases c3:k < 0
 ·have d3:decide (k < 0)=true:=by simp;omega
  go_enter Tryz.func129,Tryz.ntmps129
  go_wp2
  go_ret2
  exact ⟨rfl,rfl⟩
 have d3:decide (k < 0)=false:=by simp;omega
 have d4:decide ((bs.length:Int) < k)=true:=by simp;omega
 go_enter Tryz.func129,Tryz.ntmps129
 go_wp2
 go_ret2
 exact ⟨rfl,rfl⟩
theorem there_short (B n c:Nat) (A:Option Addr) (bs:List UInt8) (k W:Int) (w:World) (h:RdB w B A n bs) (hm:n≤140737488355328) (h1:1≤W) (h2:W≤6) (h3:0≤k) (h4:k≤n) (h5:n - k < W) :
  Calls Tryz.prog 129 #[.slice A n c,.int .i64 k,.int .i64 W] w fun e w'=>e=.returned (.tuple #[.slice none 0 0,.int .i64 2])∧w=w':=by
 obtain rfl:=h.len
 have d1:decide (W < 1)=false:=by simp;omega
 have d2:decide (6 < W)=false:=by simp;omega
 have d3:decide (k < 0)=false:=by simp;omega
 have d4:decide ((bs.length:Int) < k)=false:=by simp;omega
 go_enter Tryz.func129,Tryz.ntmps129
 go_wp2
 go_ret2
 exact ⟨rfl,rfl⟩
def beV (l:List UInt8):Nat:=l.foldl (fun n x=>n * 256+x.toNat) 0
theorem beV_step (l:List UInt8) (k:Nat) (h:k < l.length):beV (l.take (k+1))=beV (l.take k) * 256+l[k].toNat:=by
 unfold beV
 rw [List.take_succ_eq_append_getElem h,List.foldl_append]
 rfl
theorem beV_lt (l:List UInt8):∀ k,k≤l.length→beV (l.take k) < 256 ^ k
 | 0,_=>by simp [beV]
 | k+1,h=>by
  rw [beV_step l k (by omega),Nat.pow_succ]
  have:=beV_lt l k (by omega)
  have:=l[k].toNat_lt
  omega
theorem beV_lt6 (l:List UInt8) (k:Nat) (h:k≤l.length) (hk:k≤6):beV (l.take k) < 281474976710656 :=
 Nat.lt_of_lt_of_le (beV_lt l k h) (Nat.le_trans (Nat.pow_le_pow_right (by omega) hk) (by omega))
theorem or_be (y x:Nat) (hy:y < 281474976710656) (hx:x < 256):bits .or .i64 ((y:Int) * 256) (x:Int)=((y * 256+x:Nat):Int):=by
 have:=i64_or_nat (y * 256) x (by omega) (by omega)
 rw [nat_join 8 _ _ (by omega) (by omega)] at this
 rw [← this]
 simp
theorem readBig_err (B n c:Nat) (A:Option Addr) (bs:List UInt8) (k W:Int) (w:World) (E:Int) (h:RdB w B A n bs)
  (ht:Calls Tryz.prog 129 #[.slice A n c,.int .i64 k,.int .i64 W] w fun e w'=>e=.returned (.tuple #[.slice none 0 0,.int .i64 E])∧w=w') :
  Calls Tryz.prog 76 #[.slice A n c,.int .i64 k,.int .i64 W] w fun e w'=>e=.returned (.tuple #[.int .i64 0,.int .i64 E])∧w=w':=by
 have HT:=Lib.hid ht
 clear ht
 go_enter Tryz.func76,Tryz.ntmps76
 go_wp2_with (go_at_call 129;refine HT.out.mono ?_;rintro e w' ⟨rfl,rfl⟩)
 refine wp_loop_rounds 1 ?_
 rw [rounds_succ]
 go_wp2
 go_ret2
 exact ⟨rfl,rfl⟩
set_option maxHeartbeats 400000 in
theorem readBig_ok (B n c:Nat) (A:Option Addr) (bs:List UInt8) (k W:Nat) (w:World) (h:RdB w B A n bs) (hc:n≤c) (hm:n≤140737488355328) (h1:1≤W) (h2:W≤6) (h3:k+W≤n) :
  Calls Tryz.prog 76 #[.slice A n c,.int .i64 k,.int .i64 W] w fun e w'=>e=.returned (.tuple #[.int .i64 (beV ((bs.drop k).take W)),.int .i64 0])∧w=w':=by
 go_enter Tryz.func76,Tryz.ntmps76
 go_wp2_with (go_at_call 129;refine (there_ok B n c A bs k W _ h hc hm h1 h2 h3).mono ?_;rintro e w' ⟨A',c',rfl,hr,rfl⟩)
 generalize hL:(bs.drop k).take W=l at hr
 have HL:=Lib.hid hL
 clear hL
 obtain rfl:=hr.len
 go_loop [10,22] (fun s i=>∃ k:Nat,k≤l.length∧i=.int .i64 k∧s=.int .i64 (beV (l.take k))) (fun _ i=>l.length - (intOf i).toNat)
 case atStart=>exact ⟨0,Nat.zero_le _,rfl,rfl⟩
 case round =>
  obtain ⟨k,hk,rfl,rfl⟩:=hrel
  by_cases hlt:k < l.length
  ·obtain ⟨b,o,rfl,_,hc⟩:=hr.at_ (by omega)
   have hck:=hc k (by omega)
   clear hc
   have hp:=beV_lt6 l k (by omega) (by omega)
   have hx:=l[k].toNat_lt
   have Hs:=Lib.hid (beV_step l k (by omega))
   go_wp2
   go_round
   case rel=>exact ⟨k+1,by omega,by go_num,by rw [Hs.out,or_be _ _ hp (by omega)]⟩
   case measure=>simp [intOf];omega
  ·have:k=l.length:=by omega
   subst this
   go_wp2
   go_ret2
   exact ⟨by rw [HL.out];rfl,rfl⟩
def numOk (n width:Int):Prop:=1≤width∧width≤6∧0≤n∧n / 2 ^ (8 * width.toNat)≤0
instance (n width:Int):Decidable (numOk n width):=by unfold numOk;infer_instance
def beR (n width:Int):List UInt8 × Int:=if numOk n width then (beB n.toNat width.toNat,0) else ([],1)
theorem numBad {n width:Int} (h:¬ numOk n width):width < 1∨6 < width∨n < 0∨(0≤n∧1≤width∧width≤6∧0 < n / 2 ^ (8 * width).toNat):=by
 unfold numOk at h
 by_cases h1:width < 1
 ·exact .inl h1
 by_cases h2:6 < width
 ·exact .inr (.inl h2)
 by_cases h3:n < 0
 ·exact .inr (.inr (.inl h3))
 refine .inr (.inr (.inr ⟨by omega,by omega,by omega,?_⟩))
 rw [show (8 * width).toNat=8 * width.toNat by omega]
 omega
theorem big_any (n width:Int) (w:World) :
  Calls Tryz.prog 72 #[.int .i64 n,.int .i64 width] w fun e w'=>∃ v,e=.returned (.tuple #[v,.int .i64 (beR n width).2])∧ownB w' w.heap.size v (beR n width).1∧Below w.heap.size w w':=by
 unfold beR
 by_cases h:numOk n width
 ·rw [if_pos h]
  obtain ⟨h1,h2,h3,h4⟩:=h
  obtain ⟨W,rfl⟩:=Int.eq_ofNat_of_zero_le (by omega:0≤width)
  rw [Int.toNat_natCast] at h4 ⊢
  exact big_ok n W w h3 (by omega) (by omega) (by simp;omega)
 ·rw [if_neg h]
  refine (big_bad n width w (numBad h)).mono ?_
  rintro e w' ⟨rfl,hb⟩
  exact ⟨_,rfl,ownB.nil_ _ _,hb⟩
/-- What a reading tells. -/
def rdR (f:List UInt8→Nat) (bs:List UInt8) (k W:Int):Int × Int :=
 if W < 1∨6 < W∨k < 0∨(bs.length:Int) < k then (0,1) else if (bs.length:Int) - k < W then (0,2) else (f ((bs.drop k.toNat).take W.toNat),0)
theorem readBig_any (B n c:Nat) (A:Option Addr) (bs:List UInt8) (k W:Int) (w:World) (h:RdB w B A n bs) (hc:n≤c) (hm:n≤140737488355328) :
  Calls Tryz.prog 76 #[.slice A n c,.int .i64 k,.int .i64 W] w fun e w'=>e=.returned (.tuple #[.int .i64 (rdR beV bs k W).1,.int .i64 (rdR beV bs k W).2])∧w=w':=by
 have hl:=h.len
 unfold rdR
 by_cases h1:W < 1∨6 < W∨k < 0∨(bs.length:Int) < k
 ·rw [if_pos h1]
  exact readBig_err B n c A bs k W w 1 h (there_bad B n c A bs k W w h hm (by rw [← hl];exact h1))
 ·rw [if_neg h1]
  by_cases h2:(bs.length:Int) - k < W
  ·rw [if_pos h2]
   exact readBig_err B n c A bs k W w 2 h (there_short B n c A bs k W w h hm (by omega) (by omega) (by omega) (by omega) (by omega))
  ·rw [if_neg h2]
   obtain ⟨k,rfl⟩:=Int.eq_ofNat_of_zero_le (by omega:0≤k)
   obtain ⟨W,rfl⟩:=Int.eq_ofNat_of_zero_le (by omega:0≤W)
   exact readBig_ok B n c A bs k W w h hc hm (by omega) (by omega) (by omega)
end Go.Proofs.YteoolehdomjkkaaGreat

/- flate and zlib: Deflate and Pack of any bytes. -/
namespace Go.Proofs.YteoolehdomjkkaaGreat
set_option linter.all false
open Go.RowKit
theorem deflate_all (B n c:Nat) (A:Option Addr) (bs:List UInt8) (w:World) (h:RdB w B A n bs) (hB:B≤w.heap.size) (hn:n≤40000) (hcap:n≤c) :
  Calls Tryz.prog 22 #[.slice A n c] w fun e w'=>∃ v bz,e=.returned (.tuple #[v,.int .i64 0])∧ownB w' w.heap.size v bz∧WB bz (deflB bs (findP bs))∧Below w.heap.size w w' :=
 deflate_any B n c A bs (findP bs) w h hB hn (find_any B n c A bs w h hB hn hcap) (findP_ok bs).1 (by have:=(findP_ok bs).2;have:=h.len;omega)
theorem best_len {bs bz:List UInt8} (hw:WB bz (deflB bs (findP bs))):bz.length≤bs.length+5:=(best_le (findP_ok bs).1 hw).2
theorem adler_lt (bs:List UInt8):adler bs < 4294967296:=by
 have h:=adP_lt bs
 have e:adler bs=(adP bs).2 * 65536+(adP bs).1:=rfl
 omega
theorem big4 {x:Nat} (h:x < 4294967296):∃ S,beR (x:Int) 4=(S,0)∧S.length=4:=by
 have hk:numOk (x:Int) 4:=⟨by omega,by omega,by omega,by show (x:Int) / 2 ^ (8 * 4)≤0;omega⟩
 exact ⟨beB x 4,by unfold beR;rw [if_pos hk];rfl,beB_len _ _⟩
/-- A frame's bytes. -/
def packL (bz S:List UInt8):List UInt8:=[120,156] ++ bz ++ S
set_option maxRecDepth 100000 in
set_option maxHeartbeats 3200000 in
theorem pack_any (B n c:Nat) (A:Option Addr) (bs S:List UInt8) (w:World) (h:RdB w B A n bs) (hB:B≤w.heap.size) (hn:n≤40000) (hcap:n≤c) (hS:beR ((adler bs:Nat):Int) 4=(S,0)) (hS4:S.length=4) :
  Calls Tryz.prog 32 #[.slice A n c] w fun e w'=>∃ v bz,e=.returned (.tuple #[v,.int .i64 0])∧ownB w' w.heap.size v (packL bz S)∧WB bz (deflB bs (findP bs))∧Below w.heap.size w w':=by
 have HD:=Lib.hid (deflate_all B n c A bs w h hB hn hcap)
 have HR:=Lib.hid h
 have hx:=adler_lt bs
 have HAD:=Lib.hid (fun w1 (h:RdB w1 B A n bs)=>adler_any B n c A bs w1 h (by omega))
 have HBG:=Lib.hid (fun w=>big_any ((adler bs:Nat):Int) 4 w)
 rw [hS] at HBG
 have hl:=h.len
 generalize adler bs=x at *
 clear h hS
 go_enter Tryz.func32,Tryz.ntmps32
 go_wp2_with (first
  | (go_at_call 22;(with_reducible refine HD.out.mono ?_);go_must (rintro e w1 ⟨v1,bz,rfl,ho1,hz1,hb1⟩;have hbz:=best_len hz1;obtain ⟨A1,c1,rfl,hr1,-,-⟩:=ho1.form;have HAD1:=Lib.hid (HAD.out w1 (HR.out.blw (hb1.mono hB)));have HR1:=Lib.hid hr1;have HB1:=Lib.hid hb1;have HZ1:=Lib.hid hz1;have hsz1:=hb1.size;clear ho1 hz1 hb1 hr1))
  | (go_at_call 73;(with_reducible refine HAD1.out.mono ?_);go_must (rintro e w2 ⟨rfl,rfl⟩))
  | (go_at_call 72;(with_reducible refine (HBG.out _).mono ?_);go_must (rintro e w3 ⟨v3,rfl,ho3,hb3⟩;obtain ⟨A3,c3,rfl,-,-,-⟩:=ho3.form;have hr3:=ownB.rd ho3;rw [hS4] at hr3;have HR3:=Lib.hid (Rd.alloc hr3 (Nat.le_refl _) (.cells #[Value.int .u8 120,Value.int .u8 156] 5));have HR13:=Lib.hid (Rd.alloc (RdB.blw HR1.out hb3) hb3.size (.cells #[Value.int .u8 120,Value.int .u8 156] 5));have hsz3:=hb3.size;have HB3:=Lib.hid (HB1.out.trans (hb3.mono hsz1));have HOL:=Lib.hid (own_lit w3 [120,156] (by decide));have hqa:w3.heap.size≤(w3.alloc (.cells #[Value.int .u8 120,Value.int .u8 156] 5)).heap.size:=alloc_le _ _;have hqb:([120,156]:List UInt8).length+bz.length≤140737488355328:=(by show 2+bz.length≤_;omega);clear ho3 hb3 hr3))
  | (at_builtin;(refine wpList_appendB rfl (.tmp 25) (.tmp 26) rfl w3.heap.size v4 ([120,156] ++ bz) rfl HO4.out _ 4 c3 A3 S rfl HR4.out hqc hqd ?_;intro v5 w5 ho5 hg5 hb5 ha5;have HB5:=Lib.hid (HB4.out.trans (hb5.mono (by omega)));have HO5:=Lib.hid (ownB.mono ho5 (by omega:w.heap.size≤w3.heap.size));clear ho5 hg5 hb5 ha5))
  | (at_builtin;(refine wpList_appendB rfl (.tmp 23) (.tmp 24) rfl w3.heap.size (.slice (some ⟨w3.heap.size,0,none⟩) 2 2) [120,156] rfl HOL.out w1.heap.size bz.length c1 A1 bz rfl HR13.out hqb hqa ?_;intro v4 w4 ho4 hg4 hb4 ha4;have hz4:=hb4.size;have hqd:w3.heap.size≤w4.heap.size:=(by omega);have hqc:(([120,156]:List UInt8) ++ bz).length+4≤140737488355328:=(by rw [List.length_append];show 2+bz.length+4≤_;omega);have HR4:=Lib.hid (Rd.below HR3.out hb4);have HB4:=Lib.hid ((HB3.out.alloc (by omega) (.cells #[Value.int .u8 120,Value.int .u8 156] 5)).trans (hb4.mono (by omega)));have HO4:=Lib.hid ho4;clear ho4 hg4 hb4 ha4)))
 go_ret2
 exact ⟨_,bz,rfl,HO5.out,HZ1.out,HB5.out⟩
end Go.Proofs.YteoolehdomjkkaaGreat

/- The reference's Big upon XBigs (out of XNum6). -/
namespace Go.Proofs.YteoolehdomjkkaaGreat
set_option linter.all false
open Go.RowKit
theorem beB_at (n W k:Nat) (hk:k < W):(beB n W)[W - 1 - k]?=some (UInt8.ofNat (n / 2 ^ (8 * k))):=by
 unfold beB leB
 rw [List.getElem?_reverse (by simp;omega)]
 simp
 rw [List.getElem?_range (by omega)]
 simp
 congr 3
 omega
theorem beB_step (n W k:Nat) (hk:k < W):(beB n W).take (W - k)=(beB n W).take (W - (k+1)) ++ [UInt8.ofNat (n / 2 ^ (8 * k))]:=by
 have h:=beB_at n W k hk
 obtain ⟨h1,h2⟩:=List.getElem?_eq_some_iff.1 h
 have e:W - k=(W - 1 - k)+1:=by omega
 rw [e,List.take_succ_eq_append_getElem h1,h2,show W - (k+1)=W - 1 - k by omega]
set_option maxHeartbeats 800000 in
theorem bigR_ok (n:Int) (W:Nat) (w:World) (h0:0≤n) (h1:1≤W) (h2:W≤6) (h3:decide (0 < n / 2 ^ (8 * W))=false) :
  Calls Tryz.prog 74 #[.int .i64 n,.int .i64 W] w fun e w'=>∃ v,e=.returned (.tuple #[v,.int .i64 0]) ∧
   ownB w' w.heap.size v (beB n.toNat W)∧Below w.heap.size w w':=by
 have d1:decide ((W:Int) < 1)=false:=by simp;omega
 have d2:decide (6 < (W:Int))=false:=by simp;omega
 have d3:decide (n < 0)=false:=by simp;omega
 go_enter Tryz.func74,Tryz.ntmps74
 go_wp2
 go_loopw [6,7] (fun v i wr=>∃ k:Nat,k≤W∧i=.int .i64 ((k:Int) - 1)∧ownB wr w.heap.size v ((beB n.toNat W).take (W - k))∧Below w.heap.size w wr)
  (fun _ i _=>(intOf i+1).toNat)
 case atStart=>exact ⟨W,Nat.le_refl _,rfl,by simpa using ownB.nil_ _ _,Below.refl _ _⟩
 case round =>
  obtain ⟨k,hk,rfl,hown,hB⟩:=hrel
  by_cases hlt:k=0
  ·subst hlt
   rw [Nat.sub_zero,List.take_of_length_le (by rw [beB_len];omega)] at hown
   go_wp2
   go_ret2
   exact ⟨_,rfl,hown,hB⟩
  ·obtain ⟨m,rfl⟩:∃ m,k=m+1:=⟨k - 1,by omega⟩
   rw [show ((m+1:Nat):Int) - 1=(m:Int) by omega]
   have HS:=Lib.hid (beB_step n.toNat W m (by omega))
   have hle:((beB n.toNat W).take (W - (m+1))).length≤6:=by simp;omega
   have hu:=(u8_ofNat n h0 m).symm
   have HU:=Lib.hid hu
   clear hu hlt
   go_wp2_with (at_builtin;go_must (refine wpList_appendB rfl (.tmp 32) (.tmp 39) rfl w.heap.size _ _ rfl (ownB.alloc hown _) _ 1 1 _ [UInt8.ofNat (n.toNat / 2 ^ (8 * m))] rfl (rd_one _ _ _ HU.out) (by omega) (by have:=hB.size;simp;omega) ?_;intro v1 w1 hown1 hg1 hb1 hat1))
   clear hg1 hat1
   go_roundw
   case rel=>exact ⟨m,by omega,by go_num,by rw [HS.out];exact hown1,(hB.alloc hB.size _).trans hb1⟩
   case measure=>simp [intOf]
/-- The reference's answer where the number does not fit. -/
theorem bigR_bad (n width:Int) (w:World) (h:width < 1∨6 < width∨n < 0∨(0≤n∧1≤width∧width≤6∧0 < n / 2 ^ (8 * width).toNat)) :
  Calls Tryz.prog 74 #[.int .i64 n,.int .i64 width] w fun e w'=>e=.returned (.tuple #[.slice none 0 0,.int .i64 1])∧w=w':=by
 rcases h with h | h | h | ⟨h0,h1,h2,h3⟩
 ·have d1:decide (width < 1)=true:=by simp;omega
  go_enter Tryz.func74,Tryz.ntmps74
  go_wp2
  go_ret2
  exact ⟨rfl,rfl⟩
 ·have d1:decide (width < 1)=false:=by simp;omega
  have d2:decide (6 < width)=true:=by simp;omega
  go_enter Tryz.func74,Tryz.ntmps74
  go_wp2
  go_ret2
  exact ⟨rfl,rfl⟩
 ·by_cases h1:width < 1
  ·have d1:decide (width < 1)=true:=by simp;omega
   go_enter Tryz.func74,Tryz.ntmps74
   go_wp2
   go_ret2
   exact ⟨rfl,rfl⟩
  ·have d1:decide (width < 1)=false:=by simp;omega
   by_cases h2:6 < width
   ·have d2:decide (6 < width)=true:=by simp;omega
    go_enter Tryz.func74,Tryz.ntmps74
    go_wp2
    go_ret2
    exact ⟨rfl,rfl⟩
   ·have d2:decide (6 < width)=false:=by simp;omega
    have d3:decide (n < 0)=true:=by simp;omega
    go_enter Tryz.func74,Tryz.ntmps74
    go_wp2
    go_ret2
    exact ⟨rfl,rfl⟩
 ·have d1:decide (width < 1)=false:=by simp;omega
  have d2:decide (6 < width)=false:=by simp;omega
  have d3:decide (n < 0)=false:=by simp;omega
  obtain ⟨k,rfl⟩:=Int.eq_ofNat_of_zero_le (by omega:0≤width)
  have d4:decide (0 < n / 2 ^ (8 * k))=true:=by
   rw [show (8 * (k:Int)).toNat=8 * k by omega] at h3
   simpa using h3
  clear h3
  go_enter Tryz.func74,Tryz.ntmps74
  go_wp2
  go_ret2
  exact ⟨rfl,rfl⟩
theorem bigR_any (n width:Int) (w:World) :
  Calls Tryz.prog 74 #[.int .i64 n,.int .i64 width] w fun e w'=>∃ v,e=.returned (.tuple #[v,.int .i64 (beR n width).2])∧ownB w' w.heap.size v (beR n width).1∧Below w.heap.size w w':=by
 unfold beR
 by_cases h:numOk n width
 ·rw [if_pos h]
  obtain ⟨h1,h2,h3,h4⟩:=h
  obtain ⟨W,rfl⟩:=Int.eq_ofNat_of_zero_le (by omega:0≤width)
  rw [Int.toNat_natCast] at h4 ⊢
  exact bigR_ok n W w h3 (by omega) (by omega) (by simp;omega)
 ·rw [if_neg h]
  refine (bigR_bad n width w (numBad h)).mono ?_
  rintro e w' ⟨rfl,rfl⟩
  exact ⟨_,rfl,ownB.nil_ _ _,Below.refl _ _⟩
end Go.Proofs.YteoolehdomjkkaaGreat

set_option linter.all false
namespace Go.Proofs.YteoolehdomjkkaaGreat
open Go.RowKit
set_option maxHeartbeats 400000 in
theorem adlerR_any (B n c:Nat) (A:Option Addr) (bs:List UInt8) (w:World) (h:RdB w B A n bs) (hm:n≤140737488355328) :
  Calls Tryz.prog 75 #[.slice A n c] w fun e w'=>e=.returned (.int .u32 (adler bs))∧w=w':=by
 obtain rfl:=h.len
 go_enter Tryz.func75,Tryz.ntmps75
 go_wp2
 go_loop [3,4,5] (fun s t i=>∃ k:Nat,k≤bs.length∧i=.int .i64 k∧s=.int .u32 (adP (bs.take k)).1∧t=.int .u32 (adP (bs.take k)).2) (fun _ _ i=>bs.length - (intOf i).toNat)
 case atStart=>exact ⟨0,Nat.zero_le _,rfl,rfl,rfl⟩
 case round =>
  obtain ⟨k,hk,rfl,rfl,rfl⟩:=hrel
  by_cases hlt:k < bs.length
  ·obtain ⟨b,o,rfl,_,hc⟩:=h.at_ (by omega)
   have hck:=hc k (by omega)
   clear hc
   have hp:=adP_lt (bs.take k)
   have hx:=bs[k].toNat_lt
   have Hs:=Lib.hid (adP_step bs k (by omega))
   go_wp2
   go_round
   case rel=>exact ⟨k+1,by omega,by go_num,by rw [Hs.out];simp [adF],by rw [Hs.out];simp [adF]⟩
   case measure=>simp [intOf];omega
  ·have hp:=adP_lt bs
   have:k=bs.length:=by omega
   subst this
   go_wp2
   go_ret
   refine ⟨?_,rfl⟩
   show Ending.returned (.int .u32 (bits .or .u32 (((adP bs).2:Int) * 65536) ((adP bs).1:Int)))=_
   have e:bits .or .u32 (((adP bs).2:Int) * 65536) ((adP bs).1:Int)=(adler bs:Int):=by
    have:=u32_or_nat ((adP bs).2 * 65536) (adP bs).1 (by omega) (by omega)
    rw [nat_join 16 _ _ (by omega) (by omega)] at this
    rw [adler,← this]
    simp
   rw [e]
end Go.Proofs.YteoolehdomjkkaaGreat

/- flate: the document's Deflate. -/
namespace Go.Proofs.YteoolehdomjkkaaGreat
set_option linter.all false
open Go.RowKit
set_option maxRecDepth 100000 in
set_option maxHeartbeats 6400000 in
theorem deflate5_any (B n c:Nat) (A:Option Addr) (bs:List UInt8) (w:World) (h:RdB w B A n bs) (hB:B≤w.heap.size) (hn:n≤40000) :
  Calls Tryz.prog 23 #[.slice A n c] w fun e w'=>∃ v bz,e=.returned (.tuple #[v,.int .i64 0])∧ownB w' w.heap.size v bz∧WB bz (deflB bs (findP bs))∧Below w.heap.size w w':=by
 have hl:=h.len
 have hsz:tokSize (findP bs)≤40000:=by have:=(findP_ok bs).2;omega
 have htl:=Nat.le_trans (tokSize_len (findP bs)) hsz
 have HFI:=Lib.hid (find5_any B n c A bs w h hB hn)
 have HST:=Lib.hid (fun (w':World) (hb:Below w.heap.size w w')=>stored5_any B n c A bs w' (h.blw (hb.mono hB)) (Nat.le_trans hB hb.size) hn)
 have HFX:=Lib.hid (fun (w':World) (Bt n1 c1:Nat) (A1:Option Addr) (r:RdJ w' Bt A1 n1 (findP bs)) (hb:Bt≤w'.heap.size) (h1:n1=(findP bs).length)=>fixed5_any Bt n1 c1 A1 (findP bs) w' r hb (by omega) (findP_ok bs).1 hsz)
 have HDY:=Lib.hid (fun (w':World) (Bt n1 c1:Nat) (A1:Option Addr) (r:RdJ w' Bt A1 n1 (findP bs)) (hb:Bt≤w'.heap.size) (h1:n1=(findP bs).length)=>dynamic5_any Bt n1 c1 A1 (findP bs) w' r hb (by omega) (findP_ok bs).1 hsz)
 have hle:=(deflB_le bs (findP bs)).1
 rw [plainL_len] at hle
 have hmx:(deflB bs (findP bs)).length≤1000000:=by omega
 have hD:deflB bs (findP bs)=if (ownBits (findP bs)).length < (if (fixB (findP bs)).length < (plainL bs).length then fixB (findP bs) else plainL bs).length then ownBits (findP bs) else (if (fixB (findP bs)).length < (plainL bs).length then fixB (findP bs) else plainL bs):=rfl
 clear hle h htl hsz
 generalize deflB bs (findP bs)=D at *
 generalize plainL bs=L1 at *
 generalize fixB (findP bs)=L2 at *
 generalize ownBits (findP bs)=L3 at *
 generalize findP bs=ts at *
 by_cases h1:L2.length < L1.length
 ·rw [if_pos h1] at hD
  have i1:(L2.length:Int) < (L1.length:Int):=by omega
  by_cases h2:L3.length < L2.length
  ·rw [if_pos h2] at hD
   have i2:(L3.length:Int) < (L2.length:Int):=by omega
   have HD:=Lib.hid hD
   clear hD
   go_enter Tryz.func23,Tryz.ntmps23
   go_wp2_with (first
    | (go_at_call 64;(with_reducible refine HFI.out.mono ?_);go_must (rintro e w1 ⟨A1,n1,c1,rfl,hn1,hr1,hb1⟩;have HN1:=Lib.hid hn1;have HR1:=Lib.hid hr1;have HB1:=Lib.hid hb1;clear hn1 hr1 hb1))
    | (go_at_call 65;(with_reducible refine (HST.out _ HB1.out).mono ?_);go_must (rintro e w2 ⟨g1,p1,rfl,hg1,hw1,hb2⟩;have HW1:=Lib.hid hw1;have HB2:=Lib.hid (HB1.out.trans (hb2.mono HB1.out.size));have HR2:=Lib.hid (RdJ.blw HR1.out hb2);have hs2:=hb2.size;clear hw1 hb2))
    | (go_at_call 66;(with_reducible refine (HFX.out _ _ _ _ _ HR2.out hs2 HN1.out).mono ?_);go_must (rintro e w3 ⟨g2,p2,rfl,hg2,hw2,hb3⟩;have HW2:=Lib.hid hw2;have HW13:=Lib.hid (HW1.out.later hb3);have HB3:=Lib.hid (HB2.out.trans (hb3.mono HB2.out.size));have HR3:=Lib.hid (RdJ.blw HR2.out (hb3.mono hs2));have hs3:=Nat.le_trans hs2 hb3.size;clear hw2 hb3))
    | (go_at_call 67;(with_reducible refine (HDY.out _ _ _ _ _ HR3.out hs3 HN1.out).mono ?_);go_must (rintro e w4 ⟨g3,p3,rfl,hg3,hw3,hb4⟩;have HW34:=Lib.hid hw3;have HW14:=Lib.hid (HW13.out.later hb4);have HW24:=Lib.hid (HW2.out.later hb4);have HB4:=Lib.hid (HB3.out.trans (hb4.mono HB3.out.size));clear hw3 hb4))
    | (go_at_call 68;(with_reducible refine (wbitsR_any _ _ _ _ HW14.out).mono ?_);go_must (rintro e w5 ⟨rfl,rfl⟩))
    | (go_at_call 68;(with_reducible refine (wbitsR_any _ _ _ _ HW24.out).mono ?_);go_must (rintro e w5 ⟨rfl,rfl⟩))
    | (go_at_call 68;(with_reducible refine (wbitsR_any _ _ _ _ HW34.out).mono ?_);go_must (rintro e w5 ⟨rfl,rfl⟩))
    | (go_at_call 69;(with_reducible refine (wbytesR_any _ _ _ _ HW14.out (by rw [← HD.out];exact hmx)).mono ?_);go_must (rintro e w6 ⟨v6,bz,rfl,ho6,hz6,hb6⟩;have HO6:=Lib.hid (ho6.mono HB4.out.size);have HZ6:=Lib.hid hz6;have HB6:=Lib.hid (HB4.out.trans (hb6.mono HB4.out.size));clear ho6 hz6 hb6))
    | (go_at_call 69;(with_reducible refine (wbytesR_any _ _ _ _ HW24.out (by rw [← HD.out];exact hmx)).mono ?_);go_must (rintro e w6 ⟨v6,bz,rfl,ho6,hz6,hb6⟩;have HO6:=Lib.hid (ho6.mono HB4.out.size);have HZ6:=Lib.hid hz6;have HB6:=Lib.hid (HB4.out.trans (hb6.mono HB4.out.size));clear ho6 hz6 hb6))
    | (go_at_call 69;(with_reducible refine (wbytesR_any _ _ _ _ HW34.out (by rw [← HD.out];exact hmx)).mono ?_);go_must (rintro e w6 ⟨v6,bz,rfl,ho6,hz6,hb6⟩;have HO6:=Lib.hid (ho6.mono HB4.out.size);have HZ6:=Lib.hid hz6;have HB6:=Lib.hid (HB4.out.trans (hb6.mono HB4.out.size));clear ho6 hz6 hb6)))
   go_ret2
   exact ⟨v6,bz,rfl,HO6.out,(by rw [HD.out];exact HZ6.out),HB6.out⟩
  ·rw [if_neg h2] at hD
   have i2:¬ (L3.length:Int) < (L2.length:Int):=by omega
   have HD:=Lib.hid hD
   clear hD
   go_enter Tryz.func23,Tryz.ntmps23
   go_wp2_with (first
    | (go_at_call 64;(with_reducible refine HFI.out.mono ?_);go_must (rintro e w1 ⟨A1,n1,c1,rfl,hn1,hr1,hb1⟩;have HN1:=Lib.hid hn1;have HR1:=Lib.hid hr1;have HB1:=Lib.hid hb1;clear hn1 hr1 hb1))
    | (go_at_call 65;(with_reducible refine (HST.out _ HB1.out).mono ?_);go_must (rintro e w2 ⟨g1,p1,rfl,hg1,hw1,hb2⟩;have HW1:=Lib.hid hw1;have HB2:=Lib.hid (HB1.out.trans (hb2.mono HB1.out.size));have HR2:=Lib.hid (RdJ.blw HR1.out hb2);have hs2:=hb2.size;clear hw1 hb2))
    | (go_at_call 66;(with_reducible refine (HFX.out _ _ _ _ _ HR2.out hs2 HN1.out).mono ?_);go_must (rintro e w3 ⟨g2,p2,rfl,hg2,hw2,hb3⟩;have HW2:=Lib.hid hw2;have HW13:=Lib.hid (HW1.out.later hb3);have HB3:=Lib.hid (HB2.out.trans (hb3.mono HB2.out.size));have HR3:=Lib.hid (RdJ.blw HR2.out (hb3.mono hs2));have hs3:=Nat.le_trans hs2 hb3.size;clear hw2 hb3))
    | (go_at_call 67;(with_reducible refine (HDY.out _ _ _ _ _ HR3.out hs3 HN1.out).mono ?_);go_must (rintro e w4 ⟨g3,p3,rfl,hg3,hw3,hb4⟩;have HW34:=Lib.hid hw3;have HW14:=Lib.hid (HW13.out.later hb4);have HW24:=Lib.hid (HW2.out.later hb4);have HB4:=Lib.hid (HB3.out.trans (hb4.mono HB3.out.size));clear hw3 hb4))
    | (go_at_call 68;(with_reducible refine (wbitsR_any _ _ _ _ HW14.out).mono ?_);go_must (rintro e w5 ⟨rfl,rfl⟩))
    | (go_at_call 68;(with_reducible refine (wbitsR_any _ _ _ _ HW24.out).mono ?_);go_must (rintro e w5 ⟨rfl,rfl⟩))
    | (go_at_call 68;(with_reducible refine (wbitsR_any _ _ _ _ HW34.out).mono ?_);go_must (rintro e w5 ⟨rfl,rfl⟩))
    | (go_at_call 69;(with_reducible refine (wbytesR_any _ _ _ _ HW14.out (by rw [← HD.out];exact hmx)).mono ?_);go_must (rintro e w6 ⟨v6,bz,rfl,ho6,hz6,hb6⟩;have HO6:=Lib.hid (ho6.mono HB4.out.size);have HZ6:=Lib.hid hz6;have HB6:=Lib.hid (HB4.out.trans (hb6.mono HB4.out.size));clear ho6 hz6 hb6))
    | (go_at_call 69;(with_reducible refine (wbytesR_any _ _ _ _ HW24.out (by rw [← HD.out];exact hmx)).mono ?_);go_must (rintro e w6 ⟨v6,bz,rfl,ho6,hz6,hb6⟩;have HO6:=Lib.hid (ho6.mono HB4.out.size);have HZ6:=Lib.hid hz6;have HB6:=Lib.hid (HB4.out.trans (hb6.mono HB4.out.size));clear ho6 hz6 hb6))
    | (go_at_call 69;(with_reducible refine (wbytesR_any _ _ _ _ HW34.out (by rw [← HD.out];exact hmx)).mono ?_);go_must (rintro e w6 ⟨v6,bz,rfl,ho6,hz6,hb6⟩;have HO6:=Lib.hid (ho6.mono HB4.out.size);have HZ6:=Lib.hid hz6;have HB6:=Lib.hid (HB4.out.trans (hb6.mono HB4.out.size));clear ho6 hz6 hb6)))
   go_ret2
   exact ⟨v6,bz,rfl,HO6.out,(by rw [HD.out];exact HZ6.out),HB6.out⟩
 ·rw [if_neg h1] at hD
  have i1:¬ (L2.length:Int) < (L1.length:Int):=by omega
  by_cases h2:L3.length < L1.length
  ·rw [if_pos h2] at hD
   have i2:(L3.length:Int) < (L1.length:Int):=by omega
   have HD:=Lib.hid hD
   clear hD
   go_enter Tryz.func23,Tryz.ntmps23
   go_wp2_with (first
    | (go_at_call 64;(with_reducible refine HFI.out.mono ?_);go_must (rintro e w1 ⟨A1,n1,c1,rfl,hn1,hr1,hb1⟩;have HN1:=Lib.hid hn1;have HR1:=Lib.hid hr1;have HB1:=Lib.hid hb1;clear hn1 hr1 hb1))
    | (go_at_call 65;(with_reducible refine (HST.out _ HB1.out).mono ?_);go_must (rintro e w2 ⟨g1,p1,rfl,hg1,hw1,hb2⟩;have HW1:=Lib.hid hw1;have HB2:=Lib.hid (HB1.out.trans (hb2.mono HB1.out.size));have HR2:=Lib.hid (RdJ.blw HR1.out hb2);have hs2:=hb2.size;clear hw1 hb2))
    | (go_at_call 66;(with_reducible refine (HFX.out _ _ _ _ _ HR2.out hs2 HN1.out).mono ?_);go_must (rintro e w3 ⟨g2,p2,rfl,hg2,hw2,hb3⟩;have HW2:=Lib.hid hw2;have HW13:=Lib.hid (HW1.out.later hb3);have HB3:=Lib.hid (HB2.out.trans (hb3.mono HB2.out.size));have HR3:=Lib.hid (RdJ.blw HR2.out (hb3.mono hs2));have hs3:=Nat.le_trans hs2 hb3.size;clear hw2 hb3))
    | (go_at_call 67;(with_reducible refine (HDY.out _ _ _ _ _ HR3.out hs3 HN1.out).mono ?_);go_must (rintro e w4 ⟨g3,p3,rfl,hg3,hw3,hb4⟩;have HW34:=Lib.hid hw3;have HW14:=Lib.hid (HW13.out.later hb4);have HW24:=Lib.hid (HW2.out.later hb4);have HB4:=Lib.hid (HB3.out.trans (hb4.mono HB3.out.size));clear hw3 hb4))
    | (go_at_call 68;(with_reducible refine (wbitsR_any _ _ _ _ HW14.out).mono ?_);go_must (rintro e w5 ⟨rfl,rfl⟩))
    | (go_at_call 68;(with_reducible refine (wbitsR_any _ _ _ _ HW24.out).mono ?_);go_must (rintro e w5 ⟨rfl,rfl⟩))
    | (go_at_call 68;(with_reducible refine (wbitsR_any _ _ _ _ HW34.out).mono ?_);go_must (rintro e w5 ⟨rfl,rfl⟩))
    | (go_at_call 69;(with_reducible refine (wbytesR_any _ _ _ _ HW14.out (by rw [← HD.out];exact hmx)).mono ?_);go_must (rintro e w6 ⟨v6,bz,rfl,ho6,hz6,hb6⟩;have HO6:=Lib.hid (ho6.mono HB4.out.size);have HZ6:=Lib.hid hz6;have HB6:=Lib.hid (HB4.out.trans (hb6.mono HB4.out.size));clear ho6 hz6 hb6))
    | (go_at_call 69;(with_reducible refine (wbytesR_any _ _ _ _ HW24.out (by rw [← HD.out];exact hmx)).mono ?_);go_must (rintro e w6 ⟨v6,bz,rfl,ho6,hz6,hb6⟩;have HO6:=Lib.hid (ho6.mono HB4.out.size);have HZ6:=Lib.hid hz6;have HB6:=Lib.hid (HB4.out.trans (hb6.mono HB4.out.size));clear ho6 hz6 hb6))
    | (go_at_call 69;(with_reducible refine (wbytesR_any _ _ _ _ HW34.out (by rw [← HD.out];exact hmx)).mono ?_);go_must (rintro e w6 ⟨v6,bz,rfl,ho6,hz6,hb6⟩;have HO6:=Lib.hid (ho6.mono HB4.out.size);have HZ6:=Lib.hid hz6;have HB6:=Lib.hid (HB4.out.trans (hb6.mono HB4.out.size));clear ho6 hz6 hb6)))
   go_ret2
   exact ⟨v6,bz,rfl,HO6.out,(by rw [HD.out];exact HZ6.out),HB6.out⟩
  ·rw [if_neg h2] at hD
   have i2:¬ (L3.length:Int) < (L1.length:Int):=by omega
   have HD:=Lib.hid hD
   clear hD
   go_enter Tryz.func23,Tryz.ntmps23
   go_wp2_with (first
    | (go_at_call 64;(with_reducible refine HFI.out.mono ?_);go_must (rintro e w1 ⟨A1,n1,c1,rfl,hn1,hr1,hb1⟩;have HN1:=Lib.hid hn1;have HR1:=Lib.hid hr1;have HB1:=Lib.hid hb1;clear hn1 hr1 hb1))
    | (go_at_call 65;(with_reducible refine (HST.out _ HB1.out).mono ?_);go_must (rintro e w2 ⟨g1,p1,rfl,hg1,hw1,hb2⟩;have HW1:=Lib.hid hw1;have HB2:=Lib.hid (HB1.out.trans (hb2.mono HB1.out.size));have HR2:=Lib.hid (RdJ.blw HR1.out hb2);have hs2:=hb2.size;clear hw1 hb2))
    | (go_at_call 66;(with_reducible refine (HFX.out _ _ _ _ _ HR2.out hs2 HN1.out).mono ?_);go_must (rintro e w3 ⟨g2,p2,rfl,hg2,hw2,hb3⟩;have HW2:=Lib.hid hw2;have HW13:=Lib.hid (HW1.out.later hb3);have HB3:=Lib.hid (HB2.out.trans (hb3.mono HB2.out.size));have HR3:=Lib.hid (RdJ.blw HR2.out (hb3.mono hs2));have hs3:=Nat.le_trans hs2 hb3.size;clear hw2 hb3))
    | (go_at_call 67;(with_reducible refine (HDY.out _ _ _ _ _ HR3.out hs3 HN1.out).mono ?_);go_must (rintro e w4 ⟨g3,p3,rfl,hg3,hw3,hb4⟩;have HW34:=Lib.hid hw3;have HW14:=Lib.hid (HW13.out.later hb4);have HW24:=Lib.hid (HW2.out.later hb4);have HB4:=Lib.hid (HB3.out.trans (hb4.mono HB3.out.size));clear hw3 hb4))
    | (go_at_call 68;(with_reducible refine (wbitsR_any _ _ _ _ HW14.out).mono ?_);go_must (rintro e w5 ⟨rfl,rfl⟩))
    | (go_at_call 68;(with_reducible refine (wbitsR_any _ _ _ _ HW24.out).mono ?_);go_must (rintro e w5 ⟨rfl,rfl⟩))
    | (go_at_call 68;(with_reducible refine (wbitsR_any _ _ _ _ HW34.out).mono ?_);go_must (rintro e w5 ⟨rfl,rfl⟩))
    | (go_at_call 69;(with_reducible refine (wbytesR_any _ _ _ _ HW14.out (by rw [← HD.out];exact hmx)).mono ?_);go_must (rintro e w6 ⟨v6,bz,rfl,ho6,hz6,hb6⟩;have HO6:=Lib.hid (ho6.mono HB4.out.size);have HZ6:=Lib.hid hz6;have HB6:=Lib.hid (HB4.out.trans (hb6.mono HB4.out.size));clear ho6 hz6 hb6))
    | (go_at_call 69;(with_reducible refine (wbytesR_any _ _ _ _ HW24.out (by rw [← HD.out];exact hmx)).mono ?_);go_must (rintro e w6 ⟨v6,bz,rfl,ho6,hz6,hb6⟩;have HO6:=Lib.hid (ho6.mono HB4.out.size);have HZ6:=Lib.hid hz6;have HB6:=Lib.hid (HB4.out.trans (hb6.mono HB4.out.size));clear ho6 hz6 hb6))
    | (go_at_call 69;(with_reducible refine (wbytesR_any _ _ _ _ HW34.out (by rw [← HD.out];exact hmx)).mono ?_);go_must (rintro e w6 ⟨v6,bz,rfl,ho6,hz6,hb6⟩;have HO6:=Lib.hid (ho6.mono HB4.out.size);have HZ6:=Lib.hid hz6;have HB6:=Lib.hid (HB4.out.trans (hb6.mono HB4.out.size));clear ho6 hz6 hb6)))
   go_ret2
   exact ⟨v6,bz,rfl,HO6.out,(by rw [HD.out];exact HZ6.out),HB6.out⟩
set_option maxRecDepth 100000 in
set_option maxHeartbeats 3200000 in
theorem pack5_any (B n c:Nat) (A:Option Addr) (bs S:List UInt8) (w:World) (h:RdB w B A n bs) (hB:B≤w.heap.size) (hn:n≤40000) (hS:beR ((adler bs:Nat):Int) 4=(S,0)) (hS4:S.length=4) :
  Calls Tryz.prog 33 #[.slice A n c] w fun e w'=>∃ v bz,e=.returned (.tuple #[v,.int .i64 0])∧ownB w' w.heap.size v (packL bz S)∧WB bz (deflB bs (findP bs))∧Below w.heap.size w w':=by
 have HD:=Lib.hid (deflate5_any B n c A bs w h hB hn)
 have HR:=Lib.hid h
 have hx:=adler_lt bs
 have HAD:=Lib.hid (fun w1 (h:RdB w1 B A n bs)=>adlerR_any B n c A bs w1 h (by omega))
 have HBG:=Lib.hid (fun w=>bigR_any ((adler bs:Nat):Int) 4 w)
 rw [hS] at HBG
 have hl:=h.len
 generalize adler bs=x at *
 clear h hS
 go_enter Tryz.func33,Tryz.ntmps33
 go_wp2_with (first
  | (go_at_call 23;(with_reducible refine HD.out.mono ?_);go_must (rintro e w1 ⟨v1,bz,rfl,ho1,hz1,hb1⟩;have hbz:=best_len hz1;obtain ⟨A1,c1,rfl,hr1,-,-⟩:=ho1.form;have HAD1:=Lib.hid (HAD.out w1 (HR.out.blw (hb1.mono hB)));have HR1:=Lib.hid hr1;have HB1:=Lib.hid hb1;have HZ1:=Lib.hid hz1;have hsz1:=hb1.size;clear ho1 hz1 hb1 hr1))
  | (go_at_call 75;(with_reducible refine HAD1.out.mono ?_);go_must (rintro e w2 ⟨rfl,rfl⟩))
  | (go_at_call 74;(with_reducible refine (HBG.out _).mono ?_);go_must (rintro e w3 ⟨v3,rfl,ho3,hb3⟩;obtain ⟨A3,c3,rfl,-,-,-⟩:=ho3.form;have hr3:=ownB.rd ho3;rw [hS4] at hr3;have HR3:=Lib.hid (Rd.alloc hr3 (Nat.le_refl _) (.cells #[Value.int .u8 120,Value.int .u8 156] 5));have HR13:=Lib.hid (Rd.alloc (RdB.blw HR1.out hb3) hb3.size (.cells #[Value.int .u8 120,Value.int .u8 156] 5));have hsz3:=hb3.size;have HB3:=Lib.hid (HB1.out.trans (hb3.mono hsz1));have HOL:=Lib.hid (own_lit w3 [120,156] (by decide));have hqa:w3.heap.size≤(w3.alloc (.cells #[Value.int .u8 120,Value.int .u8 156] 5)).heap.size:=alloc_le _ _;have hqb:([120,156]:List UInt8).length+bz.length≤140737488355328:=(by show 2+bz.length≤_;omega);clear ho3 hb3 hr3))
  | (at_builtin;(refine wpList_appendB rfl (.tmp 25) (.tmp 26) rfl w3.heap.size v4 ([120,156] ++ bz) rfl HO4.out _ 4 c3 A3 S rfl HR4.out hqc hqd ?_;intro v5 w5 ho5 hg5 hb5 ha5;have HB5:=Lib.hid (HB4.out.trans (hb5.mono (by omega)));have HO5:=Lib.hid (ownB.mono ho5 (by omega:w.heap.size≤w3.heap.size));clear ho5 hg5 hb5 ha5))
  | (at_builtin;(refine wpList_appendB rfl (.tmp 23) (.tmp 24) rfl w3.heap.size (.slice (some ⟨w3.heap.size,0,none⟩) 2 2) [120,156] rfl HOL.out w1.heap.size bz.length c1 A1 bz rfl HR13.out hqb hqa ?_;intro v4 w4 ho4 hg4 hb4 ha4;have hz4:=hb4.size;have hqd:w3.heap.size≤w4.heap.size:=(by omega);have hqc:(([120,156]:List UInt8) ++ bz).length+4≤140737488355328:=(by rw [List.length_append];show 2+bz.length+4≤_;omega);have HR4:=Lib.hid (Rd.below HR3.out hb4);have HB4:=Lib.hid ((HB3.out.alloc (by omega) (.cells #[Value.int .u8 120,Value.int .u8 156] 5)).trans (hb4.mono (by omega)));have HO4:=Lib.hid ho4;clear ho4 hg4 hb4 ha4)))
 go_ret2
 exact ⟨_,bz,rfl,HO5.out,HZ1.out,HB5.out⟩
end Go.Proofs.YteoolehdomjkkaaGreat
