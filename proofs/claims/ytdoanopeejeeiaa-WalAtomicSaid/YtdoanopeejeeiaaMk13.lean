/- XNum1 -/
import Derived.Test.YtdoanopeejeeiaaMk01
set_option linter.all false
namespace Go.Proofs.Ytdoanopeejeeiaa
open Go.RowKit
def leB (n:Nat) (w:Nat):List UInt8:=(List.range w).map fun i=>UInt8.ofNat (n / 2 ^ (8 * i))
theorem leB_len (n w:Nat):(leB n w).length=w:=by simp [leB]
theorem leB_step (n:Int) (h0:0≤n) (W k:Nat) (hk:k < W):leB n.toNat (k+1) ++ List.replicate (W - (k+1)) 0=(leB n.toNat k ++ List.replicate (W - k) 0).set k (UInt8.ofNat (n.toNat / 2 ^ (8 * k))):=by
 have h1:W - k=(W - (k+1))+1:=by omega
 rw [h1,List.replicate_succ,List.set_append_right _ _ (by simp [leB_len])]
 simp [leB_len,leB,List.range_succ]
theorem u8_ofNat (n:Int) (h0:0≤n) (k:Nat):((UInt8.ofNat (n.toNat / 2 ^ (8 * k))).toNat:Int)=n / 2 ^ (8 * k) % 256:=by
 obtain ⟨m,rfl⟩:=Int.eq_ofNat_of_zero_le h0
 simp
set_option maxHeartbeats 400000 in
theorem little_ok (n:Int) (W:Nat) (w:World) (h0:0≤n) (h1:1≤W) (h2:W≤6) (h3:decide (0 < n / 2 ^ (8 * W))=false) :
  Calls Try.prog 61 #[.int .i64 n,.int .i64 W] w fun e w'=>∃ v,e=.returned (.tuple #[v,.int .i64 0]) ∧
   ownB w' w.heap.size v (leB n.toNat W)∧Below w.heap.size w w':=by
 have d1:decide ((W:Int) < 1)=false:=by simp;omega
 have d2:decide (6 < (W:Int))=false:=by simp;omega
 have d3:decide (n < 0)=false:=by simp;omega
 go_enter Try.func61,Try.ntmps61
 go_wp2_with (at_make;go_loud (refine wpList_makeB rfl _ _ rfl W _ rfl rfl rfl (by omega) ?_))
 intro w1 hown hb hsz
 go_wp2
 go_loopw [29,7] (fun i _ wr=>∃ k:Nat,k≤W∧i=.int .i64 k∧ownB wr w.heap.size (.slice (some ⟨w.heap.size,0,none⟩) W W) (leB n.toNat k ++ List.replicate (W - k) 0)∧Below w.heap.size w wr)
  (fun i _ _=>W - (intOf i).toNat)
 case atStart=>exact ⟨0,Nat.zero_le _,rfl,by simpa [leB] using hown,hb⟩
 case round =>
  obtain ⟨k,hk,rfl,hown1,hb1⟩:=hrel
  have hl:(leB n.toNat k ++ List.replicate (W - k) 0).length=W:=by simp [leB_len];omega
  by_cases hlt:k < W
  ·obtain ⟨v0,hc⟩:=hown1.cell' hl.symm (by omega:k < (leB n.toNat k ++ List.replicate (W - k) 0).length)
   have hf:=hown1.frozen hl.symm k
   have hs:=hown1.store hl.symm k (UInt8.ofNat (n.toNat / 2 ^ (8 * k)))
   rw [u8_ofNat n h0 k] at hs
   have Hs:=Lib.hid hs
   clear hs
   go_wp2
   go_roundw
   case rel=>exact ⟨k+1,by omega,by go_num,by rw [leB_step n h0 W k hlt];exact Hs.out,hb1.setCell (Nat.le_refl _) _⟩
   case measure=>simp [intOf];omega
  ·go_wp2
   go_ret2
   have:k=W:=by omega
   subst this
   exact ⟨_,rfl,by simpa using hown1,hb1⟩
/-- Little's answer where the number does not fit. -/
theorem little_bad (n width:Int) (w:World) (h:width < 1∨6 < width∨n < 0∨(0≤n∧1≤width∧width≤6∧0 < n / 2 ^ (8 * width).toNat)) :
  Calls Try.prog 61 #[.int .i64 n,.int .i64 width] w fun e w'=>e=.returned (.tuple #[.slice none 0 0,.int .i64 1])∧w=w':=by
 rcases h with h | h | h | ⟨h0,h1,h2,h3⟩
 ·have d1:decide (width < 1)=true:=by simp;omega
  go_enter Try.func61,Try.ntmps61
  go_wp2
  go_ret2
  exact ⟨rfl,rfl⟩
 ·have d1:decide (width < 1)=false:=by simp;omega
  have d2:decide (6 < width)=true:=by simp;omega
  go_enter Try.func61,Try.ntmps61
  go_wp2
  go_ret2
  exact ⟨rfl,rfl⟩
 ·by_cases h1:width < 1
  ·have d1:decide (width < 1)=true:=by simp;omega
   go_enter Try.func61,Try.ntmps61
   go_wp2
   go_ret2
   exact ⟨rfl,rfl⟩
  ·have d1:decide (width < 1)=false:=by simp;omega
   by_cases h2:6 < width
   ·have d2:decide (6 < width)=true:=by simp;omega
    go_enter Try.func61,Try.ntmps61
    go_wp2
    go_ret2
    exact ⟨rfl,rfl⟩
   ·have d2:decide (6 < width)=false:=by simp;omega
    have d3:decide (n < 0)=true:=by simp;omega
    go_enter Try.func61,Try.ntmps61
    go_wp2
    go_ret2
    exact ⟨rfl,rfl⟩
 ·have d1:decide (width < 1)=false:=by simp;omega
  have d2:decide (6 < width)=false:=by simp;omega
  have d3:decide (n < 0)=false:=by simp;omega
  obtain ⟨k,rfl⟩:=Int.eq_ofNat_of_zero_le (by omega:0≤width)
  have d4:decide (0 < n / 2 ^ (8 * k))=true:=by
   rw [show (8 * (k:Int)).toNat=8 * k by omega] at h3
   simpa using h3
  clear h3
  go_enter Try.func61,Try.ntmps61
  go_wp2
  go_ret2
  exact ⟨rfl,rfl⟩
/-- bs with the first k and the last k turned round. -/
def revP (bs:List UInt8) (k:Nat):List UInt8:=(List.range bs.length).map fun t=>if t < k∨bs.length - k≤t then bs.getD (bs.length - 1 - t) 0 else bs.getD t 0
theorem revP_len (bs:List UInt8) (k:Nat):(revP bs k).length=bs.length:=by simp [revP]
theorem revP_zero (bs:List UInt8):revP bs 0=bs:=by
 apply List.ext_getElem (by simp [revP])
 intro i h1 h2
 simp only [revP,List.getElem_map,List.getElem_range]
 rw [if_neg (by omega)]
 simp [List.getD,h2]
theorem revP_end (bs:List UInt8) (k:Nat) (h:bs.length≤2 * k+1) (hk:2 * k≤bs.length):revP bs k=bs.reverse:=by
 apply List.ext_getElem (by simp [revP])
 intro i h1 h2
 have h3:i < bs.length:=by simpa using h2
 simp only [revP,List.getElem_map,List.getElem_range,List.getElem_reverse]
 by_cases h4:i < k∨bs.length - k≤i
 ·rw [if_pos h4];simp [List.getD,(by omega:bs.length - 1 - i < bs.length)]
 ·rw [if_neg h4]
  have:bs.length - 1 - i=i:=by omega
  simp [List.getD,h3,this]
theorem revP_step (bs:List UInt8) (k:Nat) (h:2 * k+1 < bs.length) :
  ((revP bs k).set k (bs.getD (bs.length - 1 - k) 0)).set (bs.length - 1 - k) (bs.getD k 0)=revP bs (k+1):=by
 apply List.ext_getElem (by simp [revP])
 intro i h1 h2
 simp [revP] at h1
 rw [List.getElem_set,List.getElem_set]
 by_cases e1:bs.length - 1 - k=i
 ·subst e1
  simp [revP]
  rw [if_pos (by omega),show bs.length - 1 - (bs.length - 1 - k)=k by omega]
 ·rw [if_neg e1]
  by_cases e2:k=i
  ·subst e2
   simp [revP]
  ·rw [if_neg e2]
   simp only [revP,List.getElem_map,List.getElem_range]
   by_cases h3:i < k∨bs.length - k≤i
   ·rw [if_pos h3,if_pos (by omega)]
   ·rw [if_neg h3,if_neg (by omega)]
theorem revP_low (bs:List UInt8) (k:Nat) (h:2 * k+1 < bs.length):(revP bs k)[k]'(by rw [revP_len];omega)=bs.getD k 0:=by
 simp [revP]
 intro h;omega
theorem revP_high (bs:List UInt8) (k:Nat) (h:2 * k+1 < bs.length):(revP bs k)[bs.length - 1 - k]'(by rw [revP_len];omega)=bs.getD (bs.length - 1 - k) 0:=by
 simp [revP]
 intro h;omega
set_option maxHeartbeats 400000 in
/-- slices.Reverse on a row of the call's own. -/
theorem reverse_any (base:Nat) (v:Value) (bs:List UInt8) (w:World) (h:ownB w base v bs) :
  Calls Try.prog 62 #[v] w fun e w'=>e=.returned (.tuple #[])∧ownB w' base v bs.reverse∧Below base w w':=by
 rcases Nat.eq_zero_or_pos bs.length with h0 | h0
 ·have:bs=[]:=List.eq_nil_of_length_eq_zero h0
  subst this
  obtain ⟨A,c,rfl,_,_,_⟩:=h.form
  clear h0
  go_enter Try.func62,Try.ntmps62
  go_wp2
  refine wp_loop_rounds 1 ?_
  rw [rounds_succ]
  go_wp2
  go_end0
  exact ⟨rfl,by simpa using h,Below.refl _ _⟩
 ·have hh:=h
  rcases hh.2 with ⟨rfl,hn⟩ | ⟨g,cap,cur,rfl,hb,hg,hnc,hcm,hcs,htake⟩
  ·omega
  clear hh
  have hmax:bs.length≤9223372036854775807:=by unfold maxLen at hcm;omega
  have hgb:=(World.ownsRow.lt h g rfl)
  clear hg hcs htake cur hcm hnc hb
  go_enter Try.func62,Try.ntmps62
  go_wp2
  go_loopw [2,3] (fun i j wr=>∃ k m:Nat,Hid (k+m+1=bs.length)∧k≤m+1∧k+m < bs.length∧i=.int .i64 k∧j=.int .i64 m∧ownB wr base (.slice (some ⟨g,0,none⟩) bs.length cap) (revP bs k)∧Below base w wr)
   (fun i _ _=>bs.length - (intOf i).toNat)
  case atStart=>exact ⟨0,bs.length - 1,Lib.hid (by omega),by omega,by omega,rfl,by congr 1;omega,by rw [revP_zero];exact h,Below.refl _ _⟩
  case round =>
   obtain ⟨k,m,hkm,hk,hlt,rfl,rfl,hown,hbel⟩:=hrel
   have hl:=revP_len bs k
   by_cases hc:k < m
   ·have Hl:=Lib.hid hl
    clear hl
    have ck:=hown.cell Hl.out.symm (k:=k) (by rw [Hl.out];omega)
    have cm:=hown.cell Hl.out.symm (k:=m) (by rw [Hl.out];omega)
    have cm':∀ u,(wr.setCell ⟨g,k,none⟩ u).cell? ⟨g,m,none⟩=some (.int .u8 ((revP bs k)[m]'(by rw [Hl.out];omega)).toNat):=fun u=>by
     rw [World.cell?_setCell_other _ _ _ _ (by intro e;injection e;omega)];exact cm
    have fk:=hown.frozen Hl.out.symm k
    have fm:=hown.frozen Hl.out.symm m
    go_wp2
    go_region
    have Hs:Hid (ownB ((wr.setCell ⟨g,k,none⟩ (.int .u8 ((revP bs k)[m]'(by rw [Hl.out];omega)).toNat)).setCell ⟨g,m,none⟩ (.int .u8 ((revP bs k)[k]'(by rw [Hl.out];omega)).toNat)) base (.slice (some ⟨g,0,none⟩) bs.length cap) (revP bs (k+1))):=by
     have h1:=hown.store Hl.out.symm k ((revP bs k)[m]'(by rw [Hl.out];omega))
     have h2:=h1.store (by simp [Hl.out]) m ((revP bs k)[k]'(by rw [Hl.out];omega))
     have e:=revP_step bs k (by have:=hkm.out;omega)
     have em:bs.length - 1 - k=m:=by have:=hkm.out;omega
     rw [em,← revP_low bs k (by have:=hkm.out;omega)] at e
     have e2:=revP_high bs k (by have:=hkm.out;omega)
     simp only [em] at e2
     rw [← e2] at e
     rw [e] at h2
     exact h2
    go_wp2
    go_roundw
    case rel=>exact ⟨k+1,m - 1,Lib.hid (by have:=hkm.out;omega),by omega,by omega,by go_num,by congr 1;omega,Hs.out,((hbel.setCell hgb.1 _).setCell hgb.1 _).drew⟩
    case measure=>simp [intOf];omega
   ·go_wp2
    go_end0
    exact ⟨rfl,by rw [← revP_end bs k (by have:=hkm.out;omega) (by have:=hkm.out;omega)];exact hown,hbel⟩
def beB (n:Nat) (w:Nat):List UInt8:=(leB n w).reverse
theorem beB_len (n w:Nat):(beB n w).length=w:=by simp [beB,leB_len]
theorem big_bad (n width:Int) (w:World) (h:width < 1∨6 < width∨n < 0∨(0≤n∧1≤width∧width≤6∧0 < n / 2 ^ (8 * width).toNat)) :
  Calls Try.prog 58 #[.int .i64 n,.int .i64 width] w fun e w'=>e=.returned (.tuple #[.slice none 0 0,.int .i64 1])∧Below w.heap.size w w':=by
 have H:=Lib.hid h
 clear h
 go_enter Try.func58,Try.ntmps58
 go_wp2_with (first
  | (go_at_call 61;refine (little_bad n width _ H.out).mono ?_;rintro e w' ⟨rfl,rfl⟩)
  | (go_at_call 62;refine (reverse_any w.heap.size (.slice none 0 0) [] _ (World.ownsRow_nil _ _ _ _)).mono ?_;rintro e w' ⟨rfl,_,hb⟩))
 go_ret2
 exact ⟨rfl,hb⟩
theorem big_ok (n:Int) (W:Nat) (w:World) (h0:0≤n) (h1:1≤W) (h2:W≤6) (h3:decide (0 < n / 2 ^ (8 * W))=false) :
  Calls Try.prog 58 #[.int .i64 n,.int .i64 W] w fun e w'=>∃ v,e=.returned (.tuple #[v,.int .i64 0]) ∧
   ownB w' w.heap.size v (beB n.toNat W)∧Below w.heap.size w w':=by
 have H:=Lib.hid h3
 clear h3
 go_enter Try.func58,Try.ntmps58
 go_wp2_with (first
  | (go_at_call 61;refine (little_ok n W _ h0 h1 h2 H.out).mono ?_;rintro e w1 ⟨v,rfl,hv,hb⟩)
  | (go_at_call 62;refine (reverse_any w.heap.size v _ _ hv).mono ?_;rintro e w2 ⟨rfl,hv2,hb2⟩))
 go_ret2
 exact ⟨_,rfl,hv2,hb.trans hb2⟩
end Go.Proofs.Ytdoanopeejeeiaa

