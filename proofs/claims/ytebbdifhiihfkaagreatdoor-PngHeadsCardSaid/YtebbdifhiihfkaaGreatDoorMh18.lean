/- XRowD XCode2 XCode5P XBitP XDecP XGet XCode5 XNew XNext -/
import Derived.Test.YtebbdifhiihfkaaGreatDoorMh01
import Derived.Test.YtebbdifhiihfkaaGreatDoorMh16
import Derived.Test.YtebbdifhiihfkaaGreatDoorMh17
import Derived.Test.YtebbdifhiihfkaaGreatDoorMh05
import Derived.Laws.BitsAllLaws
import Derived.Laws.CopyRow
namespace Go.Proofs.YtebbdifhiihfkaaGreatDoor
set_option linter.all false
open Go.RowKit
def eD (x:(Nat × Int)):List Value:=[Value.int .u32 (x.1:Int),Value.int .i64 x.2]
end Go.Proofs.YtebbdifhiihfkaaGreatDoor

/- huff: Codes. -/
namespace Go.Proofs.YtebbdifhiihfkaaGreatDoor
set_option linter.all false
open Go.RowKit
def cdE (ls:List Int):Int:=if krE ls=0 then (if 32768 < krN ls then 4 else 0) else 1
def cdL (ls:List Int):List (Nat × Int):=if cdE ls=0 then codesL ls else []
theorem krE_cases (ls:List Int):krE ls=0∨krE ls=1:=by unfold krE;split <;> simp
theorem krE_zero {ls:List Int} (h:krE ls=0):ls.length≤300∧badL ls=false∧krV ls=krN ls:=by
 unfold krE at h
 split at h
 ·cases h
 ·rename_i hc
  rw [not_or] at hc
  refine ⟨by omega,by simpa using hc.2,?_⟩
  unfold krV
  rw [if_neg (by rw [not_or];exact hc)]
/-- The codes of the first k places. -/
def codesTo (ls:List Int) (k:Nat):List (Nat × Int):=(List.range ls.length).map fun i=>if i < k then codeAt ls i else (0,0)
theorem codesTo_zero (ls:List Int):codesTo ls 0=List.replicate ls.length (0,0):=by
 unfold codesTo
 apply List.ext_getElem?
 intro i
 by_cases h:i < ls.length
 ·simp [h]
 ·simp [h]
theorem codesTo_end (ls:List Int):codesTo ls ls.length=codesL ls:=by
 unfold codesTo codesL
 apply List.map_congr_left
 intro i hi
 rw [List.mem_range] at hi
 rw [if_pos hi]
theorem codesTo_len (ls:List Int) (k:Nat):(codesTo ls k).length=ls.length:=by simp [codesTo]
theorem codesTo_step (ls:List Int) {k:Nat} (hk:k < ls.length):codesTo ls (k+1)=(codesTo ls k).set k (codeAt ls k):=by
 unfold codesTo
 apply List.ext_getElem?
 intro i
 rw [List.getElem?_set]
 by_cases hi:i < ls.length
 ·rw [List.getElem?_map,List.getElem?_map,List.getElem?_range hi]
  by_cases e:k=i
  ·subst e
   rw [if_pos rfl,if_pos (by simp;omega)]
   simp
  ·rw [if_neg e]
   by_cases e2:i < k
   ·simp [e2,show i < k+1 by omega]
   ·simp [e2,show ¬ i < k+1 by omega]
 ·rw [List.getElem?_eq_none (by simp;omega)]
  by_cases e:k=i
  ·omega
  ·rw [if_neg e,List.getElem?_eq_none (by simp;omega)]
theorem codesTo_same (ls:List Int) {k:Nat} (hk:k < ls.length) (h:codeAt ls k=(0,0)):codesTo ls (k+1)=codesTo ls k:=by
 rw [codesTo_step ls hk,h]
 apply List.ext_getElem?
 intro i
 rw [List.getElem?_set]
 by_cases e:k=i
 ·subst e
  rw [if_pos rfl,if_pos (by rw [codesTo_len];exact hk)]
  simp [codesTo,hk]
 ·rw [if_neg e]
/-- The next code of each length, behind k places. -/
def nxtL (ls:List Int) (k:Nat):List Nat:=(List.range 16).map fun n=>fst ls n+(if n=0 then 0 else cnt (ls.take k) n)
theorem nxtL_zero (ls:List Int):nxtL ls 0=nextL ls 16:=by
 unfold nxtL nextL
 apply List.map_congr_left
 intro n hn
 rw [List.mem_range] at hn
 rw [if_pos hn]
 simp [cnt]
theorem nxtL_get (ls:List Int) (k:Nat) {t:Nat} (ht:t < 16) (h0:0 < t):(cU (nxtL ls k))[t]?=some (.int .u32 ((fst ls t+cnt (ls.take k) t:Nat):Int)):=by
 simp [cU,nxtL,ht,show ¬ t=0 by omega]
theorem nxtL_step {ls:List Int} {k t:Nat} (h:ls[k]?=some (t:Int)) (ht:t < 16) (h0:0 < t):cU (nxtL ls (k+1))=(cU (nxtL ls k)).set t (.int .u32 ((fst ls t+cnt (ls.take k) t+1:Nat):Int)):=by
 obtain ⟨hk,hx⟩:=List.getElem?_eq_some_iff.1 h
 unfold cU nxtL
 rw [List.take_succ_eq_append_getElem hk,hx]
 apply List.ext_getElem?
 intro j
 rw [List.getElem?_set]
 by_cases hj:j < 16
 ·rw [List.getElem?_map,List.getElem?_map,List.getElem?_map,List.getElem?_map,List.getElem?_range hj]
  by_cases e:t=j
  ·subst e
   rw [if_pos rfl,if_pos (by simp;omega)]
   simp [cnt,List.count_append,show ¬ t=0 by omega]
   omega
  ·rw [if_neg e]
   have:¬ (t:Int)=(j:Int):=by omega
   simp [cnt,List.count_append,List.count_cons,this]
 ·rw [List.getElem?_eq_none (by simp;omega)]
  by_cases e:t=j
  ·omega
  ·rw [if_neg e,List.getElem?_eq_none (by simp;omega)]
theorem nxtL_same {ls:List Int} {k:Nat} {x:Int} (h:ls[k]?=some x) (h0:¬ 0 < x):nxtL ls (k+1)=nxtL ls k:=by
 obtain ⟨hk,hx⟩:=List.getElem?_eq_some_iff.1 h
 unfold nxtL
 rw [List.take_succ_eq_append_getElem hk,hx]
 apply List.map_congr_left
 intro n hn
 by_cases e:n=0
 ·rw [if_pos e,if_pos e]
 ·rw [if_neg e,if_neg e]
  have:¬ x=(n:Int):=by omega
  simp [cnt,List.count_append,List.count_cons,this]
theorem codeAt_pos {ls:List Int} {k t:Nat} (h:ls[k]?=some (t:Int)) (h0:0 < t):codeAt ls k=(fst ls t+cnt (ls.take k) t,(t:Int)):=by
 unfold codeAt
 rw [List.getD_eq_getElem?_getD,h]
 simp
 omega
theorem codeAt_zero {ls:List Int} {k:Nat} {x:Int} (h:ls[k]?=some x) (h0:¬ 0 < x):codeAt ls k=(0,0):=by
 unfold codeAt
 rw [List.getD_eq_getElem?_getD,h]
 exact if_neg h0
theorem cnt_take (ls:List Int) (k t:Nat):cnt (ls.take k) t≤cnt ls t:=by
 unfold cnt
 exact List.Sublist.count_le _ (List.take_sublist _ _)
set_option maxRecDepth 100000 in
set_option maxHeartbeats 3200000 in
theorem codes_any (B n c:Nat) (A:Option Addr) (ls:List Int) (w:World) (h:RdI w B A n ls) (hB1:B≤w.heap.size) (hn:n≤1099511627776) :
  Calls Tryz.prog 148 #[.slice A n c] w fun e w'=>∃ A' n' c',e=.returned (.tuple #[.slice A' n' c',.int .i64 (cdE ls)])∧n'=(cdL ls).length∧ownC w' w.heap.size (.slice A' n' c') (cdL ls)∧Below w.heap.size w w':=by
 have HK:=Lib.hid (kraft_any B n c A ls w h hn)
 have hl:=h.len
 rcases krE_cases ls with he | he
 ·obtain ⟨g1,g2,g3⟩:=krE_zero he
  rw [he,g3] at HK
  by_cases hbig:32768 < krN ls
  ·have HE:Hid (cdE ls=4∧cdL ls=[]):=(show _∧_ by
    have:cdE ls=4:=by unfold cdE;rw [if_pos he,if_pos hbig]
    refine ⟨this,?_⟩
    unfold cdL
    rw [if_neg (by rw [this];decide)])
   generalize krN ls=K at *
   clear h hl he g1 g2 g3
   go_enter Tryz.func148,Tryz.ntmps148
   go_wp2_with (go_at_call 161;(with_reducible refine HK.out.mono ?_);go_must (rintro e w1 ⟨rfl,rfl⟩))
   go_ret2
   exact ⟨none,0,0,ret_tup2 rfl (by rw [HE.out.1];rfl),by rw [HE.out.2];rfl,by rw [HE.out.2];exact ownC.nil_ _ _,Below.refl _ _⟩
  ·have HE:Hid (cdE ls=0∧cdL ls=codesL ls):=(show _∧_ by
    have:cdE ls=0:=by unfold cdE;rw [if_pos he,if_neg hbig]
    refine ⟨this,?_⟩
    unfold cdL
    rw [if_pos this])
   have HBG:=Lib.hid (begins_any B n c A ls w h hB1 (by omega) g2 (by omega))
   have H:=Lib.hid h
   have HL:=Lib.hid hl
   have hn3:n≤300:=by omega
   have HBAD:=Lib.hid g2
   have HKN:=Lib.hid (show krN ls≤32768 by omega)
   have HKQ:Hid (krN ls=krN ls):=(show _=_ from rfl)
   generalize krN ls=K at HK hbig
   have hbig':decide ((32768:Int) < (K:Int))=false:=decide_eq_false (by omega)
   clear h hl he g1 g2 g3 HKQ
   go_enter Tryz.func148,Tryz.ntmps148
   go_wp2_with (first
    | (go_at_call 161;(with_reducible refine HK.out.mono ?_);go_must (rintro e w1 ⟨rfl,rfl⟩))
    | (go_at_call 168;(with_reducible refine HBG.out.mono ?_);go_must (rintro e w2 ⟨rfl,hb2⟩;have HAN:=Lib.hid ((Arr.new w2 (cU (List.replicate 16 0)) 219).alloc (.cells (cI (List.replicate 16 0)).toArray 220));have HAC:=Lib.hid (Arr.new1 w2 (.cells (cU (List.replicate 16 0)).toArray 219) (cI (List.replicate 16 0)) 220);have HB2:=Lib.hid ((hb2.alloc hb2.size (.cells (cU (List.replicate 16 0)).toArray 219)).alloc (by have:=hb2.size;simp;omega) (.cells (cI (List.replicate 16 0)).toArray 220));have hsz2:=hb2.size;clear hb2))
    | (refine wpList_storeRow rfl 219 (.tmp 6) (.tmp 26) rfl w2.heap.size (cU (List.replicate 16 0)) (cU (nextL ls 16)) rfl rfl HAN.out (Tryz.size_u16.trans (by simp [cU,nextL])) (by simp [cU,nextL]) (cU_one _) ?_)
    | (refine wpList_storeRow rfl 220 (.tmp 7) (.tmp 27) rfl (w2.heap.size+1) (cI (List.replicate 16 0)) (cI (cntZ ls)) rfl rfl (HAC.out.farRow (by omega) _) (Tryz.size_i16.trans (by simp [cI,cntZ,cntL])) (by simp [cI,cntZ,cntL]) (cI_one _) ?_)
    | (at_make;refine wpList_makeC rfl _ _ rfl n _ rfl rfl rfl (by omega) ?_;intro w3 hown hb3 hsz3;have HN:=Lib.hid (((HAN.out.row (cU (nextL ls 16))).farRow (g':=w2.heap.size+1) (by omega) (cI (cntZ ls)).toArray).later hb3);have HW:=below_setRow (below_setRow HB2.out hsz2 (cU (nextL ls 16)).toArray) (g:=w2.heap.size+1) (by omega) (cI (cntZ ls)).toArray;have HB3:=Lib.hid (HW.trans (hb3.mono HW.size));simp only [setRow_size,World.size_alloc] at hown hsz3 ⊢;have HO:=Lib.hid hown;clear hown hb3 HW))
   go_loopw [33] (fun vi wr=>∃ k:Nat,k≤n∧vi=.int .i64 k∧Hid (Arr wr w2.heap.size (cU (nxtL ls k)))∧Hid (ownC wr (w2.heap.size+1+1) (.slice (some ⟨w2.heap.size+1+1,0,none⟩) n n) (codesTo ls k))∧Hid (Below w.heap.size w wr))
    (fun vi _=>n - (intOf vi).toNat)
   case atStart=>exact ⟨0,Nat.zero_le _,rfl,(show Arr _ _ _ by rw [nxtL_zero];exact HN.out),(show ownC _ _ _ _ by rw [codesTo_zero,HL.out];exact HO.out),HB3⟩
   case round =>
    clear HN HO HB3
    obtain ⟨k,hk,rfl,HN,HO,HB⟩:=hrel
    by_cases hlt:k < n
    ·obtain ⟨b,o,x,rfl,hb,HX,e1⟩:=(H.out.blw (HB.out.mono hB1)).one hlt
     obtain ⟨x0,x1⟩:=good_at HBAD.out HX.out
     obtain ⟨t,rfl⟩:=Int.eq_ofNat_of_zero_le x0
     have hkl:k < ls.length:=by rw [HL.out];exact hlt
     by_cases h0:0 < t
     ·have ht:t < 16:=by omega
      have c5:=HN.out.cell (nxtL_get ls k ht h0)
      have f5:=HN.out.frozen t
      have hcv:=codeAt_pos HX.out h0
      have hbd:=fst_small ls HBAD.out HKN.out t (by omega)
      have hct:=cnt_take ls k t
      have hcz:cz ls t=cnt ls t:=by
       cases t with
       | zero=>omega
       | succ t=>rfl
      have HST:=Lib.hid (codesTo_step ls hkl)
      rw [hcv] at HST
      have HNX:=Lib.hid (nxtL_step HX.out ht h0)
      have hbv:fst ls t+cnt (ls.take k) t≤32768:=by omega
      obtain ⟨o0,o1⟩:=HO.out.cell (by rw [codesTo_len,HL.out]) (k:=k) (by rw [codesTo_len];exact hkl)
      have of:=HO.out.frozen (by rw [codesTo_len,HL.out])
      have of0:=of (k * 2)
      have of1:=of (k * 2+1)
      generalize fst ls t+cnt (ls.take k) t=v at *
      generalize (codesTo ls k)[k]'(by rw [codesTo_len];exact hkl)=oc at *
      clear hcv hbd hct hcz of
      have HAR:=Lib.hid (show Arr (((wr.setCell ⟨w2.heap.size+1+1,k * 2,none⟩ (.int .u32 (v:Int))).setCell ⟨w2.heap.size+1+1,k * 2+1,none⟩ (.int .i64 (t:Int))).setCell ⟨w2.heap.size,t,none⟩ (.int .u32 ((v:Int)+1))) w2.heap.size (cU (nxtL ls (k+1))) from by
       rw [HNX.out,show ((v+1:Nat):Int)=(v:Int)+1 by omega]
       exact ((HN.out.far (p:=⟨w2.heap.size+1+1,k * 2,none⟩) (by show w2.heap.size+1+1 ≠ w2.heap.size;omega) _).far (p:=⟨w2.heap.size+1+1,k * 2+1,none⟩) (by show w2.heap.size+1+1 ≠ w2.heap.size;omega) _).set t _)
      have HOR:=Lib.hid (show ownC (((wr.setCell ⟨w2.heap.size+1+1,k * 2,none⟩ (.int .u32 (v:Int))).setCell ⟨w2.heap.size+1+1,k * 2+1,none⟩ (.int .i64 (t:Int))).setCell ⟨w2.heap.size,t,none⟩ (.int .u32 ((v:Int)+1))) (w2.heap.size+1+1) (.slice (some ⟨w2.heap.size+1+1,0,none⟩) n n) (codesTo ls (k+1)) from by
       rw [HST.out]
       exact (HO.out.store (by rw [codesTo_len,HL.out]) k (v,(t:Int)) (by rw [codesTo_len];exact hkl)).far (by intro e;injection e with e;have e2:w2.heap.size+1+1=w2.heap.size:=e;omega) _ _)
      have HBR:=Lib.hid (((HB.out.setCell (p:=⟨w2.heap.size+1+1,k * 2,none⟩) (by show w.heap.size≤w2.heap.size+1+1;omega) (.int .u32 (v:Int))).setCell (p:=⟨w2.heap.size+1+1,k * 2+1,none⟩) (by show w.heap.size≤w2.heap.size+1+1;omega) (.int .i64 (t:Int))).setCell (p:=⟨w2.heap.size,t,none⟩) (by show w.heap.size≤w2.heap.size;omega) (.int .u32 ((v:Int)+1)))
      clear HN HO HB
      go_wp2
      go_roundw
      case rel=>exact ⟨k+1,by omega,by go_num,HAR,HOR,HBR⟩
      case measure=>simp [intOf];omega
     ·have hx0:¬ (0:Int) < (t:Int):=by omega
      have HST:=Lib.hid (codesTo_same ls hkl (codeAt_zero HX.out hx0))
      have HNX:=Lib.hid (nxtL_same HX.out hx0)
      go_wp2
      go_roundw
      case rel=>exact ⟨k+1,by omega,by go_num,(show Arr _ _ _ by rw [HNX.out];exact HN.out),(show ownC _ _ _ _ by rw [HST.out];exact HO.out),HB⟩
      case measure=>simp [intOf];omega
    ·obtain rfl:k=n:=by omega
     go_wp2
     go_ret2
     refine ⟨some ⟨w2.heap.size+1+1,0,none⟩,k,k,ret_tup2 rfl (by rw [HE.out.1];rfl),?_,?_,HB.out⟩
     ·rw [HE.out.2,← codesTo_end,codesTo_len,HL.out]
     ·rw [HE.out.2,← codesTo_end,HL.out]
      exact HO.out.mono (by omega)
 ·have HE:Hid (cdE ls=1∧cdL ls=[]):=(show _∧_ by
   have:cdE ls=1:=by unfold cdE;rw [if_neg (by rw [he];decide)]
   refine ⟨this,?_⟩
   unfold cdL
   rw [if_neg (by rw [this];decide)])
  rw [he] at HK
  generalize krV ls=K at HK
  clear h hl he
  go_enter Tryz.func148,Tryz.ntmps148
  go_wp2_with (go_at_call 161;(with_reducible refine HK.out.mono ?_);go_must (rintro e w1 ⟨rfl,rfl⟩))
  go_ret2
  exact ⟨none,0,0,ret_tup2 rfl (by rw [HE.out.1];rfl),by rw [HE.out.2];rfl,by rw [HE.out.2];exact ownC.nil_ _ _,Below.refl _ _⟩
end Go.Proofs.YtebbdifhiihfkaaGreatDoor

/- huff: the document's codes, plainly: length by length. -/
namespace Go.Proofs.YtebbdifhiihfkaaGreatDoor
set_option linter.all false
theorem cnt_take_step {ls:List Int} {k:Nat} {x:Int} (h:ls[k]?=some x) (l:Nat):cnt (ls.take (k+1)) l=cnt (ls.take k) l+if x=(l:Int) then 1 else 0:=by
 obtain ⟨hk,hx⟩:=List.getElem?_eq_some_iff.1 h
 rw [List.take_succ_eq_append_getElem hk,hx]
 unfold cnt
 rw [List.count_append,List.count_singleton]
 by_cases e:x=(l:Int)
 ·rw [if_pos (by simp [e]),if_pos e]
 ·rw [if_neg (by simp [e]),if_neg e]
theorem cz_cnt (ls:List Int) {l:Nat} (h:0 < l):cz ls l=cnt ls l:=by
 cases l with
 | zero=>omega
 | succ l=>rfl
end Go.Proofs.YtebbdifhiihfkaaGreatDoor

/- Bits of bytes, plainly. -/
namespace Go.Proofs.YtebbdifhiihfkaaGreatDoor
set_option linter.all false
/-- The p-th bit of bytes, the least of a byte first. -/
def bitAt (bs:List UInt8) (p:Nat):Nat:=(bs.getD (p / 8) 0).toNat / 2 ^ (p % 8) % 2
theorem bitAt_lt (bs:List UInt8) (p:Nat):bitAt bs p < 2:=Nat.mod_lt _ (by decide)
/-- k bits as a number, the first the least. -/
def getV (bs:List UInt8) (P:Nat):Nat→Nat
 | 0=>0
 | k+1=>getV bs P k+bitAt bs (P+k) * 2 ^ k
theorem getV_lt (bs:List UInt8) (P k:Nat):getV bs P k < 2 ^ k:=by
 induction k with
 | zero=>exact Nat.one_pos
 | succ k ih =>
  have:=bitAt_lt bs (P+k)
  rw [getV,Nat.pow_succ]
  have h2:bitAt bs (P+k) * 2 ^ k≤1 * 2 ^ k:=Nat.mul_le_mul_right _ (by omega)
  omega
theorem or_bit {x k b:Nat} (hx:x < 2 ^ k):x ||| (b * 2 ^ k)=x+b * 2 ^ k:=by
 have:=Nat.two_pow_add_eq_or_of_lt hx b
 rw [Nat.mul_comm,Nat.or_comm,← this,Nat.add_comm]
theorem getV_one (bs:List UInt8) (P:Nat):getV bs P 1=bitAt bs P:=by simp [getV]
theorem and_bit (x:UInt8) (t:Nat):bits .and .u8 ((x.toNat:Int) / 2 ^ t) 1=((x.toNat / 2 ^ t % 2:Nat):Int):=by
 have e:((x.toNat:Int) / 2 ^ t)=((x.toNat / 2 ^ t:Nat):Int):=by rw [show ((2:Int) ^ t)=((2 ^ t:Nat):Int) by push_cast;rfl,← Int.natCast_ediv]
 have hl:x.toNat / 2 ^ t < 256:=Nat.lt_of_le_of_lt (Nat.div_le_self _ _) x.toNat_lt
 rw [e,show (1:Int)=((1:Nat):Int) from rfl,u8_and_nat _ _ hl (by decide),Nat.and_one_is_mod]
theorem get_step (V k t:Nat) (x:UInt8) (hk:k < 24) (hV:V < 2 ^ k) :
  bits .or .u32 (V:Int) (bits .and .u8 ((x.toNat:Int) / 2 ^ t) 1 % 4294967296 * 2 ^ k % 4294967296)=((V+x.toNat / 2 ^ t % 2 * 2 ^ k:Nat):Int):=by
 rw [and_bit]
 have hb:x.toNat / 2 ^ t % 2 < 2:=Nat.mod_lt _ (by decide)
 generalize x.toNat / 2 ^ t % 2=b at *
 have hp:2 ^ k≤2 ^ 23:=Nat.pow_le_pow_right (by decide) (by omega)
 have hp0:0 < 2 ^ k:=Nat.two_pow_pos k
 have hm:b * 2 ^ k≤1 * 2 ^ k:=Nat.mul_le_mul_right _ (by omega)
 have e:((b:Int) % 4294967296 * 2 ^ k % 4294967296)=((b * 2 ^ k:Nat):Int):=by
  have e1:(b:Int) % 4294967296=b:=Int.emod_eq_of_lt (by omega) (by omega)
  have e2:(b:Int) * 2 ^ k=((b * 2 ^ k:Nat):Int):=by push_cast;rfl
  rw [e1,e2]
  generalize b * 2 ^ k=u at *
  exact Int.emod_eq_of_lt (by omega) (by omega)
 rw [e,u32_or_nat _ _ (by omega) (by omega),or_bit hV]
end Go.Proofs.YtebbdifhiihfkaaGreatDoor

/- Decoders, plainly. -/
namespace Go.Proofs.YtebbdifhiihfkaaGreatDoor
set_option linter.all false
open Go.RowKit
/-- The places of length t among the first k. -/
def plc (ls:List Int) (t:Nat):Nat→List Int
 | 0=>[]
 | k+1=>if ls[k]?=some (t:Int) then plc ls t k ++ [(k:Int)] else plc ls t k
theorem plc_len (ls:List Int) (t k:Nat):(plc ls t k).length=cnt (ls.take k) t:=by
 induction k with
 | zero=>simp [plc,cnt]
 | succ k ih =>
  rw [plc]
  cases h:ls[k]? with
  | none =>
   have:ls.take (k+1)=ls.take k:=by
    rw [List.getElem?_eq_none_iff] at h
    rw [List.take_of_length_le (by omega),List.take_of_length_le h]
   rw [this,if_neg (by simp)]
   exact ih
  | some x =>
   rw [cnt_take_step h t]
   by_cases e:x=(t:Int)
   ·rw [if_pos (by rw [e]),if_pos e,List.length_append,ih];rfl
   ·rw [if_neg (by simp;exact e),if_neg e,ih];rfl
theorem plc_get {ls:List Int} {t p:Nat} (h:ls[p]?=some (t:Int)) (k:Nat) (hp:p < k):(plc ls t k)[cnt (ls.take p) t]?=some (p:Int):=by
 induction k with
 | zero=>omega
 | succ k ih =>
  rw [plc]
  by_cases e:p=k
  ·subst e
   rw [if_pos h,List.getElem?_append_right (by rw [plc_len];exact Nat.le_refl _),plc_len,Nat.sub_self]
   rfl
  ·have:=ih (by omega)
   split
   ·rw [List.getElem?_append_left (List.getElem?_eq_some_iff.1 this).1]
    exact this
   ·exact this
theorem plc_of {ls:List Int} {t i:Nat} {x:Int} (k:Nat) (h:(plc ls t k)[i]?=some x):∃ p:Nat,x=p∧p < k∧ls[p]?=some (t:Int)∧cnt (ls.take p) t=i:=by
 induction k with
 | zero=>simp [plc] at h
 | succ k ih =>
  rw [plc] at h
  by_cases e:ls[k]?=some (t:Int)
  ·rw [if_pos e] at h
   by_cases hi:i < (plc ls t k).length
   ·rw [List.getElem?_append_left hi] at h
    obtain ⟨p,a,b,c⟩:=ih h
    exact ⟨p,a,by omega,c⟩
   ·rw [List.getElem?_append_right (by omega)] at h
    obtain ⟨h1,h2⟩:=List.getElem?_eq_some_iff.1 h
    have h3:i - (plc ls t k).length=0:=by simp at h1;omega
    refine ⟨k,?_,by omega,e,?_⟩
    ·rw [← h2];simp
    ·rw [← plc_len];omega
  ·rw [if_neg e] at h
   obtain ⟨p,a,b,c⟩:=ih h
   exact ⟨p,a,by omega,c⟩
/-- The places of the lengths 1 to l, by lengths. -/
def allP (ls:List Int):Nat→List Int
 | 0=>[]
 | l+1=>allP ls l ++ plc ls (l+1) ls.length
theorem allP_get {ls:List Int} {t i:Nat} {x:Int} (h1:1≤t) (h:(plc ls t ls.length)[i]?=some x) (l:Nat) (hl:t≤l):(allP ls l)[(allP ls (t - 1)).length+i]?=some x:=by
 induction l with
 | zero=>omega
 | succ l ih =>
  rw [allP]
  by_cases e:t=l+1
  ·subst e
   rw [Nat.add_sub_cancel,List.getElem?_append_right (by omega),Nat.add_sub_cancel_left]
   exact h
  ·have:=ih (by omega)
   rw [List.getElem?_append_left (List.getElem?_eq_some_iff.1 this).1]
   exact this
theorem allP_le (ls:List Int) (l:Nat):(allP ls l).length≤l * ls.length:=by
 induction l with
 | zero=>simp [allP]
 | succ l ih =>
  rw [allP,List.length_append,plc_len,Nat.succ_mul]
  have:cnt (ls.take ls.length) (l+1)≤ls.length:=Nat.le_trans (cnt_take ls ls.length (l+1)) (cnt_le ls _)
  omega
theorem allP_none {ls:List Int} (hb:badL ls=false) (h:(allP ls 15).length=0) {k:Nat} {x:Int} (hx:ls[k]?=some x):¬ 0 < x:=by
 intro h0
 obtain ⟨g0,g1⟩:=good_at hb hx
 obtain ⟨t,rfl⟩:=Int.eq_ofNat_of_zero_le g0
 obtain ⟨hk,_⟩:=List.getElem?_eq_some_iff.1 hx
 have:=allP_get (by omega) (plc_get hx ls.length hk) 15 (by omega)
 have:=(List.getElem?_eq_some_iff.1 this).1
 omega
theorem allP_some {ls:List Int} {k:Nat} {x:Int} (hb:badL ls=false) (hx:ls[k]?=some x) (h0:0 < x):¬ (allP ls 15).length=0:=fun h=>allP_none hb h hx h0
def frL (ls:List Int) (l:Nat):List Int:=(List.range 16).map fun n=>if 1≤n∧n < l then ((allP ls (n - 1)).length:Int) else 0
theorem frL_get (ls:List Int) {l t:Nat} (h1:1≤t) (h2:t < l) (h3:t < 16):(cI (frL ls l))[t]?=some (.int .i64 ((allP ls (t - 1)).length:Int)):=by
 unfold cI frL
 rw [List.getElem?_map,List.getElem?_map,List.getElem?_range h3]
 simp only [Option.map_some]
 rw [if_pos ⟨h1,h2⟩]
theorem frL_zero (ls:List Int) {l t:Nat} (h2:l≤t) (h3:t < 16):(cI (frL ls l))[t]?=some (.int .i64 0):=by
 unfold cI frL
 rw [List.getElem?_map,List.getElem?_map,List.getElem?_range h3]
 simp only [Option.map_some]
 rw [if_neg (by omega)]
theorem frL_one (ls:List Int):frL ls 1=List.replicate 16 0:=by
 unfold frL
 apply List.ext_getElem?
 intro i
 by_cases h:i < 16
 ·rw [List.getElem?_map,List.getElem?_range h,List.getElem?_replicate,if_pos h]
  simp only [Option.map_some]
  rw [if_neg (by omega)]
 ·rw [List.getElem?_eq_none (by simp;omega),List.getElem?_eq_none (by simp;omega)]
theorem frL_set (ls:List Int) {l:Nat} (h1:1≤l) (h2:l < 16):cI (frL ls (l+1))=(cI (frL ls l)).set l (.int .i64 ((allP ls (l - 1)).length:Int)):=by
 unfold cI frL
 apply List.ext_getElem?
 intro i
 rw [List.getElem?_set]
 by_cases hi:i < 16
 ·rw [List.getElem?_map,List.getElem?_map,List.getElem?_map,List.getElem?_map,List.getElem?_range hi]
  by_cases e:l=i
  ·subst e
   rw [if_pos rfl,if_pos (by simp;omega)]
   simp only [Option.map_some]
   rw [if_pos ⟨h1,by omega⟩]
  ·rw [if_neg e]
   simp only [Option.map_some]
   by_cases e2:1≤i∧i < l
   ·rw [if_pos e2,if_pos (by omega)]
   ·rw [if_neg e2,if_neg (by omega)]
 ·rw [List.getElem?_eq_none (by simp;omega)]
  by_cases e:l=i
  ·omega
  ·rw [if_neg e,List.getElem?_eq_none (by simp;omega)]
theorem frL_len (ls:List Int) (l:Nat):(cI (frL ls l)).length=16:=by simp [cI,frL]
theorem nextL_len (ls:List Int) (l:Nat):(cU (nextL ls l)).length=16:=by simp [cU,nextL]
theorem cntZ_len (ls:List Int):(cI (cntZ ls)).length=16:=by simp [cI,cntZ,cntL]
/-- A decoder's cells. -/
def decL (ls:List Int) (l:Nat) (pv:Value):List Value:=cU (nextL ls 16) ++ (cI (cntZ ls) ++ (cI (frL ls l) ++ [pv]))
def decZ:List Value:=cU (List.replicate 16 0) ++ (cI (List.replicate 16 0) ++ (cI (List.replicate 16 0) ++ [.slice none 0 0]))
theorem decL_0 (ls:List Int) (l:Nat) (pv:Value) {t:Nat} (ht:t < 16):(decL ls l pv)[t]?=some (.int .u32 (fst ls t:Nat)):=by
 unfold decL
 rw [List.getElem?_append_left (by rw [nextL_len];exact ht),nextL_get ls 16 ht,if_pos ht]
theorem decL_1 (ls:List Int) (l:Nat) (pv:Value) {t:Nat} (ht:t < 16):(decL ls l pv)[16+t]?=some (.int .i64 (cz ls t:Nat)):=by
 unfold decL
 rw [List.getElem?_append_right (by rw [nextL_len];omega),nextL_len,Nat.add_sub_cancel_left,List.getElem?_append_left (by rw [cntZ_len];exact ht),cntZ_get ls ht]
theorem decL_2' (ls:List Int) (l:Nat) (pv:Value) {t:Nat} (ht:t < 16):(decL ls l pv)[32+t]?=(cI (frL ls l))[t]?:=by
 unfold decL
 rw [List.getElem?_append_right (by rw [nextL_len];omega),nextL_len,List.getElem?_append_right (by rw [cntZ_len];omega),cntZ_len,show 32+t - 16 - 16=t by omega,List.getElem?_append_left (by rw [frL_len];exact ht)]
theorem decL_3 (ls:List Int) (l:Nat) (pv:Value):(decL ls l pv)[48]?=some pv:=by
 unfold decL
 rw [List.getElem?_append_right (by rw [nextL_len];omega),nextL_len,List.getElem?_append_right (by rw [cntZ_len];omega),cntZ_len,List.getElem?_append_right (by rw [frL_len];omega),frL_len]
 rfl
theorem set_app2 {α:Type} (A B C:List α) (p x:α) (k a:Nat) (ha:a=A.length+B.length) (hk:k < C.length):(A ++ (B ++ (C ++ [p]))).set (a+k) x=A ++ (B ++ (C.set k x ++ [p])):=by
 subst ha
 rw [List.set_append_right _ _ (by omega),List.set_append_right _ _ (by omega),List.set_append_left _ _ (by omega)]
 congr 4
 omega
theorem decL_from (ls:List Int) (pv:Value) {l:Nat} (h1:1≤l) (h2:l < 16):(decL ls l pv).set (32+l) (.int .i64 ((allP ls (l - 1)).length:Int))=decL ls (l+1) pv:=by
 unfold decL
 rw [set_app2 _ _ _ _ _ _ 32 (by rw [nextL_len,cntZ_len]) (by rw [frL_len];exact h2),frL_set ls h1 h2]
theorem decL_place (ls:List Int) (l:Nat) (pv v:Value):(decL ls l pv).set 48 v=decL ls l v:=by
 unfold decL
 rw [List.set_append_right _ _ (by rw [nextL_len];omega),nextL_len,List.set_append_right _ _ (by rw [cntZ_len];omega),cntZ_len,List.set_append_right _ _ (by rw [frL_len];omega),frL_len]
 rfl
theorem splice0 {α:Type} (A A' R:List α) (h:A.length=A'.length):(A ++ R).take 0 ++ A' ++ (A ++ R).drop (0+A'.length)=A' ++ R:=by
 rw [Nat.zero_add,← h,List.drop_left,List.take_zero,List.nil_append]
theorem splice1 {α:Type} (A B B' R:List α) (a:Nat) (ha:a=A.length) (h:B.length=B'.length):(A ++ (B ++ R)).take a ++ B' ++ (A ++ (B ++ R)).drop (a+B'.length)=A ++ (B' ++ R):=by
 subst ha
 rw [← h,List.take_left,← List.append_assoc A B R,show A.length+B.length=(A ++ B).length by simp,List.drop_left,List.append_assoc]
/-- What New answers. -/
def nwE (ls:List Int):Int:=if cdE ls=0 then (if (allP ls 15).length=0 then 4 else 0) else cdE ls
/-- The code v of length t is that of the place p. -/
def Hit (ls:List Int) (t v p:Nat):Prop:=ls[p]?=some (t:Int)∧fst ls t+cnt (ls.take p) t=v
theorem cnt_lt2 {ls:List Int} {i k t:Nat} (h:ls[i]?=some (t:Int)) (hik:i < k):cnt (ls.take i) t < cnt (ls.take k) t:=by
 have e:=cnt_take_step h t
 rw [if_pos rfl] at e
 have h2:cnt (ls.take (i+1)) t≤cnt (ls.take k) t:=by
  unfold cnt
  rw [show ls.take (i+1)=(ls.take k).take (i+1) by rw [List.take_take,Nat.min_eq_left (by omega)]]
  exact List.Sublist.count_le _ (List.take_sublist _ _)
 omega
theorem Hit.eq {ls:List Int} {t v p q:Nat} (h:Hit ls t v p) (h':Hit ls t v q):p=q:=by
 have h1:=h.2
 have h2:=h'.2
 rcases Nat.lt_trichotomy p q with hlt | e | hlt
 ·have:=cnt_lt2 h.1 hlt;omega
 ·exact e
 ·have:=cnt_lt2 h'.1 hlt;omega
/-- The place of a code. -/
def hitN (ls:List Int) (t v:Nat):Option Nat:=(List.range ls.length).find? fun p=>decide (ls[p]?=some (t:Int)) && decide (fst ls t+cnt (ls.take p) t=v)
theorem hit_some {ls:List Int} {t v p:Nat} (h:Hit ls t v p):hitN ls t v=some p:=by
 cases e:hitN ls t v with
 | none =>
  unfold hitN at e
  rw [List.find?_eq_none] at e
  exact absurd (by simp [h.1,h.2]) (e p (by rw [List.mem_range];exact (List.getElem?_eq_some_iff.1 h.1).1))
 | some q =>
  have:=List.find?_some e
  rw [Bool.and_eq_true,decide_eq_true_eq,decide_eq_true_eq] at this
  rw [Hit.eq h ⟨this.1,this.2⟩]
theorem hit_none {ls:List Int} {t v:Nat} (h:∀ p,¬ Hit ls t v p):hitN ls t v=none:=by
 cases e:hitN ls t v with
 | none=>rfl
 | some q =>
  have:=List.find?_some e
  rw [Bool.and_eq_true,decide_eq_true_eq,decide_eq_true_eq] at this
  exact absurd ⟨this.1,this.2⟩ (h q)
theorem hit_bound {ls:List Int} {t v p:Nat} (h0:1≤t) (h:Hit ls t v p):fst ls t≤v∧v < fst ls t+cz ls t:=by
 have h1:=h.2
 have h2:=cnt_lt2 h.1 (List.getElem?_eq_some_iff.1 h.1).1
 have h3:=cz_cnt ls h0
 rw [List.take_length] at h2
 omega
theorem hit_at {ls:List Int} {t v:Nat} (h0:1≤t) (h1:fst ls t≤v) (h2:v < fst ls t+cz ls t):∃ p,Hit ls t v p∧(plc ls t ls.length)[v - fst ls t]?=some (p:Int)∧p < ls.length:=by
 have h3:=cz_cnt ls h0
 have hl:=plc_len ls t ls.length
 rw [List.take_length] at hl
 have hi:v - fst ls t < (plc ls t ls.length).length:=by omega
 have hx:=List.getElem?_eq_getElem hi
 obtain ⟨p,e,hp,hpt,hc⟩:=plc_of ls.length hx
 rw [e] at hx
 exact ⟨p,⟨hpt,by omega⟩,hx,hp⟩
/-- What Next answers, where it is then: t is the length, v the bits so far. -/
def nx (ls:List Int) (bs:List UInt8):Nat→Nat→Nat→Nat→Int × Int × Nat
 | 0,_,_,P=>(0,4,P)
 | f+1,t,v,P=>if 8 * bs.length≤P then (0,2,P) else
  match hitN ls t (v * 2+bitAt bs P) with
  | some p=>((p:Int),0,P+1)
  | none=>nx ls bs f (t+1) (v * 2+bitAt bs P) (P+1)
theorem nx_short {ls:List Int} {bs:List UInt8} {f t v P:Nat} (h:8 * bs.length≤P):nx ls bs (f+1) t v P=(0,2,P):=by rw [nx,if_pos h]
theorem nx_hit {ls:List Int} {bs:List UInt8} {f t v P p:Nat} (h:¬ 8 * bs.length≤P) (hh:hitN ls t (v * 2+bitAt bs P)=some p):nx ls bs (f+1) t v P=((p:Int),0,P+1):=by
 rw [nx,if_neg h,hh]
theorem nx_on {ls:List Int} {bs:List UInt8} {f t v P:Nat} (h:¬ 8 * bs.length≤P) (hh:hitN ls t (v * 2+bitAt bs P)=none):nx ls bs (f+1) t v P=nx ls bs f (t+1) (v * 2+bitAt bs P) (P+1):=by
 rw [nx,if_neg h,hh]
theorem or_code (v b:Nat) (hv:v < 65536) (hb:b < 2):bits .or .u32 ((v:Int) * 2) (b:Int)=((v * 2+b:Nat):Int):=by
 have:=u32_or_nat b (v * 2) (by omega) (by omega)
 have h2:=or_bit (x:=b) (k:=1) (b:=v) (by omega)
 rw [show (2:Nat) ^ 1=2 from rfl] at h2
 rw [show ((v:Int) * 2)=((v * 2:Nat):Int) by omega,u32_or_nat _ _ (by omega) (by omega),Nat.or_comm,h2]
 congr 1
 omega
end Go.Proofs.YtebbdifhiihfkaaGreatDoor

/- Readers of bits. -/
namespace Go.Proofs.YtebbdifhiihfkaaGreatDoor
set_option linter.all false
open Go.RowKit
/-- A reader's block: its bytes, how far it has come. -/
def rdr (A:Option Addr) (n c P:Nat):List Value:=[.slice A n c,.int .i64 (P:Int)]
theorem left_any (g n c P:Nat) (A:Option Addr) (w:World) (h:Arr w g (rdr A n c P)) (hn:n≤1099511627776) (hP:P≤8 * n) :
  Calls Tryz.prog 157 #[.pointer (some ⟨g,0,none⟩)] w fun e w'=>e=.returned (.int .i64 (8 * (n:Int) - (P:Int)))∧w.grownBy w' none:=by
 have c0:=h.cell (k:=0) rfl
 have c1:=h.cell (k:=1) rfl
 clear h
 have e:wrap64 (8 * (n:Int))=8 * (n:Int):=wrap64_id _ (by omega) (by omega)
 have e2:wrap64 (8 * (n:Int) - (P:Int))=8 * (n:Int) - (P:Int):=wrap64_id _ (by omega) (by omega)
 go_enter Tryz.func157,Tryz.ntmps157
 go_wp2_with fail
 go_quiet (fail)
 go_wp2_with fail
 go_ret
 exact ⟨rfl,⟨rfl,rfl,rfl,Nat.le_refl _,fun _ _ _=>rfl⟩⟩
theorem below_gb {B g:Nat} {w w':World} (h:w.grownBy w' (some g)) (hB:B≤w.heap.size) (hg:B≤g):Below B w w' :=
 ⟨h.os,h.tape,h.output,h.size,fun k hk=>h.block k (by omega) (fun e=>by injection e;omega)⟩
theorem gb_set {g o:Nat} {w w':World} (h:w.grownBy w' (some g)) (v:Value):w.grownBy (w'.setCell ⟨g,o,none⟩ v) (some g) :=
 ⟨h.os,h.tape,h.output,by simp;exact h.size,fun k hk hne=>(Below.heap_setCell _ _ _ _ (fun e=>hne (by rw [e]))).trans (h.block k hk hne)⟩
theorem gb_none {w w':World} (h:w.grownBy w' none) (g:Nat):w.grownBy w' (some g) :=
 ⟨h.os,h.tape,h.output,h.size,fun k hk _=>h.block k hk (by simp)⟩
theorem gb_drewN {w w':World} {r:Option Nat} (h:w.grownBy w' r) (q:Nat):w.grownBy (w'.drewN q) r:=⟨h.os,h.tape,h.output,h.size,h.block⟩
theorem gb_refl (w:World) (r:Option Nat):w.grownBy w r:=⟨rfl,rfl,rfl,Nat.le_refl _,fun _ _ _=>rfl⟩
theorem gb_trans {w1 w2 w3:World} {r:Option Nat} (h:w1.grownBy w2 r) (k:w2.grownBy w3 r):w1.grownBy w3 r :=
 ⟨k.os.trans h.os,k.tape.trans h.tape,k.output.trans h.output,Nat.le_trans h.size k.size,fun i hi hne=>(k.block i (Nat.lt_of_lt_of_le hi h.size) hne).trans (h.block i hi hne)⟩
theorem Arr.gbN {w w':World} {g:Nat} {cs:List Value} (h:Arr w g cs) (hb:w.grownBy w' none):Arr w' g cs:=by
 have hl:=h.lt
 obtain ⟨t,h⟩:=h
 exact ⟨t,(hb.block g hl (by simp)).trans h⟩
/-- A byte of a row that is read by bits. -/
theorem bit_byte {bs:List UInt8} {P:Nat} {x:UInt8} (h:bs[P / 8]?=some x):bitAt bs P=x.toNat / 2 ^ (P % 8) % 2:=by
 unfold bitAt
 rw [List.getD_eq_getElem?_getD,h]
 rfl
set_option maxRecDepth 100000 in
set_option maxHeartbeats 1600000 in
theorem get_any (B g n c P m:Nat) (A:Option Addr) (bs:List UInt8) (w:World) (h:Arr w g (rdr A n c P)) (hr:RdB w B A n bs) (hg:B≤g) (hn:n≤1099511627776) (hP:P≤8 * n) (hm:m≤24) (hfit:P+m≤8 * n) :
  Calls Tryz.prog 126 #[.pointer (some ⟨g,0,none⟩),.int .i64 (m:Int)] w fun e w'=>e=.returned (.tuple #[.int .u32 (getV bs P m:Nat),.int .i64 0])∧Arr w' g (rdr A n c (P+m))∧w.grownBy w' (some g):=by
 have HL:=Lib.hid (left_any g n c P A w h hn hP)
 have H:=Lib.hid h
 have HR:=Lib.hid hr
 have e3:decide ((m:Int) > 8 * (n:Int) - (P:Int))=false:=decide_eq_false (by omega)
 clear h hr
 go_enter Tryz.func126,Tryz.ntmps126
 go_wp2_with (go_at_call 157;(with_reducible refine HL.out.mono ?_);go_must (rintro e w1 ⟨rfl,hb1⟩;have HG1:=Lib.hid hb1;clear hb1))
 have HA:=Lib.hid (H.out.gbN HG1.out)
 have hsz:=H.out.lt
 have HG:=Lib.hid (gb_none HG1.out g)
 clear HG1 HL
 go_loopw [21,6] (fun vi vx wr=>∃ k:Nat,k≤m∧vi=.int .i64 k∧vx=.int .u32 (getV bs P k:Nat)∧Hid (Arr wr g (rdr A n c (P+k)))∧Hid (w.grownBy wr (some g)))
  (fun vi _ _=>m - (intOf vi).toNat)
 case atStart=>exact ⟨0,Nat.zero_le _,rfl,rfl,HA,HG⟩
 case round =>
  clear HA HG
  obtain ⟨k,hk,rfl,rfl,HA,HG⟩:=hrel
  by_cases hlt:k < m
  ·have hq:P+k < 8 * n:=by omega
   have HV:Hid (getV bs P (k+1)=getV bs P k+bitAt bs (P+k) * 2 ^ k):=(show _=_ from rfl)
   have HVL:=Lib.hid (getV_lt bs P k)
   have HE:Hid (P+(k+1)=P+k+1):=(show _=_ from by omega)
   generalize getV bs P k=V at *
   generalize P+k=Q at *
   have hQ:Q / 8 < n:=by omega
   obtain ⟨b,o,x,rfl,hb,HX,e1⟩:=(HR.out.blw (below_gb HG.out (by omega) hg)).byte hQ
   have HBB:=Lib.hid (bit_byte HX.out)
   have c0:=HA.out.cell (k:=0) rfl
   have c1:=HA.out.cell (k:=1) rfl
   have f1:=HA.out.frozen 1
   have hq1:(Q:Int).tdiv 8=((Q / 8:Nat):Int):=rfl
   have hq2:(Q:Int).tmod 8=((Q % 8:Nat):Int):=rfl
   have ht:Q % 8 < 8:=Nat.mod_lt _ (by decide)
   have HW:Hid (bits .or .u32 (V:Int) (bits .and .u8 ((x.toNat:Int) / 2 ^ (Q % 8)) 1 % 4294967296 * 2 ^ k % 4294967296)=((getV bs P (k+1):Nat):Int)):=(show _=_ by rw [get_step V k (Q % 8) x (by omega) HVL.out,HV.out,HBB.out])
   have HAS:=Lib.hid (fun q=>(HA.out.drewN q).set 1 (.int .i64 ((Q:Int)+1)))
   have HGS:=Lib.hid (fun q=>gb_set (o:=1) (gb_drewN HG.out q) (.int .i64 ((Q:Int)+1)))
   clear HA HG HVL HV HBB HX
   go_wp2_with fail
   go_quiet (fail)
   go_wp2_with fail
   go_roundw
   case rel=>exact ⟨k+1,by omega,by go_num,by rw [← HW.out],(show Arr _ _ _ by rw [HE.out];exact HAS.out _),HGS.out _⟩
   case measure=>simp [intOf];omega
  ·obtain rfl:k=m:=by omega
   go_wp2_with fail
   go_ret2
   exact ⟨rfl,HA.out,HG.out⟩
theorem get_short (g n c P m:Nat) (A:Option Addr) (w:World) (h:Arr w g (rdr A n c P)) (hn:n≤1099511627776) (hP:P≤8 * n) (hm:m≤24) (hfit:8 * n < P+m) :
  Calls Tryz.prog 126 #[.pointer (some ⟨g,0,none⟩),.int .i64 (m:Int)] w fun e w'=>e=.returned (.tuple #[.int .u32 0,.int .i64 2])∧w.grownBy w' none:=by
 have HL:=Lib.hid (left_any g n c P A w h hn hP)
 have e3:decide ((m:Int) > 8 * (n:Int) - (P:Int))=true:=decide_eq_true (by omega)
 clear h
 go_enter Tryz.func126,Tryz.ntmps126
 go_wp2_with (go_at_call 157;(with_reducible refine HL.out.mono ?_);go_must (rintro e w1 ⟨rfl,hb1⟩))
 go_ret2
 exact ⟨rfl,hb1⟩
end Go.Proofs.YtebbdifhiihfkaaGreatDoor

/- The document's Codes. -/
namespace Go.Proofs.YtebbdifhiihfkaaGreatDoor
set_option linter.all false
open Go.RowKit
def pv (ls:List Int) (l:Nat):Nat:=fst ls (l - 1)+cz ls (l - 1)
end Go.Proofs.YtebbdifhiihfkaaGreatDoor

/- Decoders: made. -/
namespace Go.Proofs.YtebbdifhiihfkaaGreatDoor
set_option linter.all false
open Go.RowKit
/-- A part of a block stored whole. -/
theorem wpList_storePart {P:Program} {w:World} {ops:Array Oper} {rest:List Oper} {o:Oper} {a:Act} {Q:Exit→Act→World→Prop} (hgd:o.guard=none) (ty:TypeId) (x y:Operand) (ho:o.op=.store ty x y)
  (g off:Nat) (cs ds es:List Value) (hx:a.eval x=.pointer (some ⟨g,off,none⟩)) (hy:a.eval y=.agg ds.toArray) (h:Arr w g cs) (hi:(P.info? ty).map (·.size)=some ds.length) (hl:off+ds.length≤cs.length) (h1:∀ v ∈ ds,v.oneCell'=true)
  (he:cs.take off ++ ds ++ cs.drop (off+ds.length)=es)
  (hK:wpList P ops Q rest (a.put o.dst undef) (w.setRow g es.toArray)):wpList P ops Q (o :: rest) a w:=by
 refine wpList_plain hgd fun K hk=>?_
 obtain ⟨t,h⟩:=h
 have:=run_storeCells_at P g off t ds 0 cs.toArray w h (by simpa using hl) h1
 unfold Oper.wp execOp
 cases hq:P.info? ty with
 | none=>simp [hq] at hi
 | some i =>
  have hs:ds.length=i.size:=by simp [hq] at hi;omega
  have hrun:(storeVar ty ⟨g,off,none⟩ (.agg ds.toArray)).run P w=.ok () (w.setRow g es.toArray):=by
   simp only [Nat.add_zero] at this
   simp [storeVar,sizeOf,typeInfo,hq,Value.cells,hs,this]
   rw [← he,hs]
   simp
  simp only [ho,hx,hy,Instr.storeAt,Instr.sureAddr,Sem.run_bind,Sem.run_pure,Result.andThen_ok,hrun]
  exact hk _ _ hK
def decM (ls:List Int):List Value:=cU (nextL ls 16) ++ (cI (List.replicate 16 0) ++ (cI (List.replicate 16 0) ++ [Value.slice none 0 0]))
theorem decM_len (ls:List Int):(decM ls).length=49:=by unfold decM;simp [cU,cI,nextL]
theorem cdE_zero {ls:List Int} (h:cdE ls=0):badL ls=false∧krN ls≤32768∧ls.length≤300:=by
 unfold cdE at h
 split at h
 ·rename_i h0
  split at h
  ·cases h
  ·obtain ⟨a,b,c⟩:=krE_zero h0
   exact ⟨b,by omega,a⟩
 ·cases h
end Go.Proofs.YtebbdifhiihfkaaGreatDoor

/- Decoders: a code read. -/
namespace Go.Proofs.YtebbdifhiihfkaaGreatDoor
set_option linter.all false
open Go.RowKit
theorem get1_any {B g n c P:Nat} {A:Option Addr} {bs:List UInt8} {w:World} (h:Arr w g (rdr A n c P)) (hr:RdB w B A n bs) (hg:B≤g) (hn:n≤1099511627776) (hfit:P+1≤8 * n) :
  Calls Tryz.prog 126 #[.pointer (some ⟨g,0,none⟩),.int .i64 1] w fun e w'=>e=.returned (.tuple #[.int .u32 (bitAt bs P:Nat),.int .i64 0])∧Arr w' g (rdr A n c (P+1))∧w.grownBy w' (some g):=by
 have:=get_any B g n c P 1 A bs w h hr hg hn (by omega) (by omega) hfit
 rw [getV_one] at this
 exact this
theorem get1_short {g n c P:Nat} {A:Option Addr} {w:World} (h:Arr w g (rdr A n c P)) (hn:n≤1099511627776) (hP:P≤8 * n) (hfit:8 * n < P+1) :
  Calls Tryz.prog 126 #[.pointer (some ⟨g,0,none⟩),.int .i64 1] w fun e w'=>e=.returned (.tuple #[.int .u32 0,.int .i64 2])∧w.grownBy w' none :=
 get_short g n c P 1 A w h hn hP (by omega) hfit
def NextPost (ls:List Int) (bs:List UInt8) (A:Option Addr) (n c P gr:Nat) (w:World) (e:Ending) (w':World):Prop :=
 e=.returned (.tuple #[.int .i64 (nx ls bs 15 1 0 P).1,.int .i64 (nx ls bs 15 1 0 P).2.1])∧Arr w' gr (rdr A n c (nx ls bs 15 1 0 P).2.2)∧w.grownBy w' (some gr)
theorem nextPost {ls:List Int} {bs:List UInt8} {A:Option Addr} {n c P gr:Nat} {w w':World} {e:Ending} {R:Int × Int × Nat} (h:R=nx ls bs 15 1 0 P)
  (h1:e=.returned (.tuple #[.int .i64 R.1,.int .i64 R.2.1])) (h2:Arr w' gr (rdr A n c R.2.2)) (h3:w.grownBy w' (some gr)):NextPost ls bs A n c P gr w e w':=by
 subst h
 exact ⟨h1,h2,h3⟩
theorem pow_step {v t V b:Nat} (h:v < 2 ^ (t - 1)) (h1:1≤t) (h2:t≤15) (hb:b < 2) (hV:v * 2+b=V):V < 2 ^ t∧V≤32768∧v < 65536:=by
 have e:2 ^ t=2 ^ (t - 1) * 2:=by rw [← Nat.pow_succ];congr 1;omega
 have e2:2 ^ (t - 1)≤2 ^ 14:=Nat.pow_le_pow_right (by decide) (by omega)
 omega
end Go.Proofs.YtebbdifhiihfkaaGreatDoor

