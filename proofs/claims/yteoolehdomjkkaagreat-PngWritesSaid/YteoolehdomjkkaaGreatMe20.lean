/- XCode2 XCode5P XBitP XDecP XWriteP XGet XWrite -/
import Derived.Test.YteoolehdomjkkaaGreatMe17
import Derived.Test.YteoolehdomjkkaaGreatMe18
import Derived.Test.YteoolehdomjkkaaGreatMe19
import Derived.Test.YteoolehdomjkkaaGreatMe01
import Derived.Test.YteoolehdomjkkaaGreatMe16
import Derived.Laws.BitsAllLaws
namespace Go.Proofs.YteoolehdomjkkaaGreat
set_option linter.all false
open Go.RowKit
def cdE (ls:List Int):Int:=if krE ls=0 then (if 32768 < krN ls then 4 else 0) else 1
def cdL (ls:List Int):List (Nat × Int):=if cdE ls=0 then codesL ls else []
theorem krE_cases (ls:List Int):krE ls=0∨krE ls=1:=by unfold krE;split <;> simp
theorem krE_zero {ls:List Int} (h:krE ls=0):ls.length≤300∧badL ls=false∧krV ls=krN ls:=by
 unfold krE at h
 split at h
 ·cases h
 ·rename_i hc
  rw [not_or] at hc
  refine ⟨by omega,by simpa using hc.2,?_⟩
  unfold krV
  rw [if_neg (by rw [not_or];exact hc)]
/-- The codes of the first k places. -/
def codesTo (ls:List Int) (k:Nat):List (Nat × Int):=(List.range ls.length).map fun i=>if i < k then codeAt ls i else (0,0)
theorem codesTo_zero (ls:List Int):codesTo ls 0=List.replicate ls.length (0,0):=by
 unfold codesTo
 apply List.ext_getElem?
 intro i
 by_cases h:i < ls.length
 ·simp [h]
 ·simp [h]
theorem codesTo_end (ls:List Int):codesTo ls ls.length=codesL ls:=by
 unfold codesTo codesL
 apply List.map_congr_left
 intro i hi
 rw [List.mem_range] at hi
 rw [if_pos hi]
theorem codesTo_len (ls:List Int) (k:Nat):(codesTo ls k).length=ls.length:=by simp [codesTo]
theorem codesTo_step (ls:List Int) {k:Nat} (hk:k < ls.length):codesTo ls (k+1)=(codesTo ls k).set k (codeAt ls k):=by
 unfold codesTo
 apply List.ext_getElem?
 intro i
 rw [List.getElem?_set]
 by_cases hi:i < ls.length
 ·rw [List.getElem?_map,List.getElem?_map,List.getElem?_range hi]
  by_cases e:k=i
  ·subst e
   rw [if_pos rfl,if_pos (by simp;omega)]
   simp
  ·rw [if_neg e]
   by_cases e2:i < k
   ·simp [e2,show i < k+1 by omega]
   ·simp [e2,show ¬ i < k+1 by omega]
 ·rw [List.getElem?_eq_none (by simp;omega)]
  by_cases e:k=i
  ·omega
  ·rw [if_neg e,List.getElem?_eq_none (by simp;omega)]
theorem codesTo_same (ls:List Int) {k:Nat} (hk:k < ls.length) (h:codeAt ls k=(0,0)):codesTo ls (k+1)=codesTo ls k:=by
 rw [codesTo_step ls hk,h]
 apply List.ext_getElem?
 intro i
 rw [List.getElem?_set]
 by_cases e:k=i
 ·subst e
  rw [if_pos rfl,if_pos (by rw [codesTo_len];exact hk)]
  simp [codesTo,hk]
 ·rw [if_neg e]
/-- The next code of each length, behind k places. -/
def nxtL (ls:List Int) (k:Nat):List Nat:=(List.range 16).map fun n=>fst ls n+(if n=0 then 0 else cnt (ls.take k) n)
theorem nxtL_zero (ls:List Int):nxtL ls 0=nextL ls 16:=by
 unfold nxtL nextL
 apply List.map_congr_left
 intro n hn
 rw [List.mem_range] at hn
 rw [if_pos hn]
 simp [cnt]
theorem nxtL_get (ls:List Int) (k:Nat) {t:Nat} (ht:t < 16) (h0:0 < t):(cU (nxtL ls k))[t]?=some (.int .u32 ((fst ls t+cnt (ls.take k) t:Nat):Int)):=by
 simp [cU,nxtL,ht,show ¬ t=0 by omega]
theorem nxtL_step {ls:List Int} {k t:Nat} (h:ls[k]?=some (t:Int)) (ht:t < 16) (h0:0 < t):cU (nxtL ls (k+1))=(cU (nxtL ls k)).set t (.int .u32 ((fst ls t+cnt (ls.take k) t+1:Nat):Int)):=by
 obtain ⟨hk,hx⟩:=List.getElem?_eq_some_iff.1 h
 unfold cU nxtL
 rw [List.take_succ_eq_append_getElem hk,hx]
 apply List.ext_getElem?
 intro j
 rw [List.getElem?_set]
 by_cases hj:j < 16
 ·rw [List.getElem?_map,List.getElem?_map,List.getElem?_map,List.getElem?_map,List.getElem?_range hj]
  by_cases e:t=j
  ·subst e
   rw [if_pos rfl,if_pos (by simp;omega)]
   simp [cnt,List.count_append,show ¬ t=0 by omega]
   omega
  ·rw [if_neg e]
   have:¬ (t:Int)=(j:Int):=by omega
   simp [cnt,List.count_append,List.count_cons,this]
 ·rw [List.getElem?_eq_none (by simp;omega)]
  by_cases e:t=j
  ·omega
  ·rw [if_neg e,List.getElem?_eq_none (by simp;omega)]
theorem nxtL_same {ls:List Int} {k:Nat} {x:Int} (h:ls[k]?=some x) (h0:¬ 0 < x):nxtL ls (k+1)=nxtL ls k:=by
 obtain ⟨hk,hx⟩:=List.getElem?_eq_some_iff.1 h
 unfold nxtL
 rw [List.take_succ_eq_append_getElem hk,hx]
 apply List.map_congr_left
 intro n hn
 by_cases e:n=0
 ·rw [if_pos e,if_pos e]
 ·rw [if_neg e,if_neg e]
  have:¬ x=(n:Int):=by omega
  simp [cnt,List.count_append,List.count_cons,this]
theorem codeAt_pos {ls:List Int} {k t:Nat} (h:ls[k]?=some (t:Int)) (h0:0 < t):codeAt ls k=(fst ls t+cnt (ls.take k) t,(t:Int)):=by
 unfold codeAt
 rw [List.getD_eq_getElem?_getD,h]
 simp
 omega
theorem codeAt_zero {ls:List Int} {k:Nat} {x:Int} (h:ls[k]?=some x) (h0:¬ 0 < x):codeAt ls k=(0,0):=by
 unfold codeAt
 rw [List.getD_eq_getElem?_getD,h]
 exact if_neg h0
theorem cnt_take (ls:List Int) (k t:Nat):cnt (ls.take k) t≤cnt ls t:=by
 unfold cnt
 exact List.Sublist.count_le _ (List.take_sublist _ _)
set_option maxRecDepth 100000 in
set_option maxHeartbeats 3200000 in
theorem codes_any (B n c:Nat) (A:Option Addr) (ls:List Int) (w:World) (h:RdI w B A n ls) (hB1:B≤w.heap.size) (hn:n≤1099511627776) :
  Calls Tryz.prog 106 #[.slice A n c] w fun e w'=>∃ A' n' c',e=.returned (.tuple #[.slice A' n' c',.int .i64 (cdE ls)])∧n'=(cdL ls).length∧ownC w' w.heap.size (.slice A' n' c') (cdL ls)∧Below w.heap.size w w':=by
 have HK:=Lib.hid (kraft_any B n c A ls w h hn)
 have hl:=h.len
 rcases krE_cases ls with he | he
 ·obtain ⟨g1,g2,g3⟩:=krE_zero he
  rw [he,g3] at HK
  by_cases hbig:32768 < krN ls
  ·have HE:Hid (cdE ls=4∧cdL ls=[]):=(show _∧_ by
    have:cdE ls=4:=by unfold cdE;rw [if_pos he,if_pos hbig]
    refine ⟨this,?_⟩
    unfold cdL
    rw [if_neg (by rw [this];decide)])
   generalize krN ls=K at *
   clear h hl he g1 g2 g3
   go_enter Tryz.func106,Tryz.ntmps106
   go_wp2_with (go_at_call 152;(with_reducible refine HK.out.mono ?_);go_must (rintro e w1 ⟨rfl,rfl⟩))
   go_ret2
   exact ⟨none,0,0,ret_tup2 rfl (by rw [HE.out.1];rfl),by rw [HE.out.2];rfl,by rw [HE.out.2];exact ownC.nil_ _ _,Below.refl _ _⟩
  ·have HE:Hid (cdE ls=0∧cdL ls=codesL ls):=(show _∧_ by
    have:cdE ls=0:=by unfold cdE;rw [if_pos he,if_neg hbig]
    refine ⟨this,?_⟩
    unfold cdL
    rw [if_pos this])
   have HBG:=Lib.hid (begins_any B n c A ls w h hB1 (by omega) g2 (by omega))
   have H:=Lib.hid h
   have HL:=Lib.hid hl
   have hn3:n≤300:=by omega
   have HBAD:=Lib.hid g2
   have HKN:=Lib.hid (show krN ls≤32768 by omega)
   have HKQ:Hid (krN ls=krN ls):=(show _=_ from rfl)
   generalize krN ls=K at HK hbig
   have hbig':decide ((32768:Int) < (K:Int))=false:=decide_eq_false (by omega)
   clear h hl he g1 g2 g3 HKQ
   go_enter Tryz.func106,Tryz.ntmps106
   go_wp2_with (first
    | (go_at_call 152;(with_reducible refine HK.out.mono ?_);go_must (rintro e w1 ⟨rfl,rfl⟩))
    | (go_at_call 153;(with_reducible refine HBG.out.mono ?_);go_must (rintro e w2 ⟨rfl,hb2⟩;have HAN:=Lib.hid ((Arr.new w2 (cU (List.replicate 16 0)) 185).alloc (.cells (cI (List.replicate 16 0)).toArray 186));have HAC:=Lib.hid (Arr.new1 w2 (.cells (cU (List.replicate 16 0)).toArray 185) (cI (List.replicate 16 0)) 186);have HB2:=Lib.hid ((hb2.alloc hb2.size (.cells (cU (List.replicate 16 0)).toArray 185)).alloc (by have:=hb2.size;simp;omega) (.cells (cI (List.replicate 16 0)).toArray 186));have hsz2:=hb2.size;clear hb2))
    | (refine wpList_storeRow rfl 185 (.tmp 6) (.tmp 26) rfl w2.heap.size (cU (List.replicate 16 0)) (cU (nextL ls 16)) rfl rfl HAN.out (Tryz.size_u16.trans (by simp [cU,nextL])) (by simp [cU,nextL]) (cU_one _) ?_)
    | (refine wpList_storeRow rfl 186 (.tmp 7) (.tmp 27) rfl (w2.heap.size+1) (cI (List.replicate 16 0)) (cI (cntZ ls)) rfl rfl (HAC.out.farRow (by omega) _) (Tryz.size_i16.trans (by simp [cI,cntZ,cntL])) (by simp [cI,cntZ,cntL]) (cI_one _) ?_)
    | (at_make;refine wpList_makeC rfl _ _ rfl n _ rfl rfl rfl (by omega) ?_;intro w3 hown hb3 hsz3;have HN:=Lib.hid (((HAN.out.row (cU (nextL ls 16))).farRow (g':=w2.heap.size+1) (by omega) (cI (cntZ ls)).toArray).later hb3);have HW:=below_setRow (below_setRow HB2.out hsz2 (cU (nextL ls 16)).toArray) (g:=w2.heap.size+1) (by omega) (cI (cntZ ls)).toArray;have HB3:=Lib.hid (HW.trans (hb3.mono HW.size));simp only [setRow_size,World.size_alloc] at hown hsz3 ⊢;have HO:=Lib.hid hown;clear hown hb3 HW))
   go_loopw [33] (fun vi wr=>∃ k:Nat,k≤n∧vi=.int .i64 k∧Hid (Arr wr w2.heap.size (cU (nxtL ls k)))∧Hid (ownC wr (w2.heap.size+1+1) (.slice (some ⟨w2.heap.size+1+1,0,none⟩) n n) (codesTo ls k))∧Hid (Below w.heap.size w wr))
    (fun vi _=>n - (intOf vi).toNat)
   case atStart=>exact ⟨0,Nat.zero_le _,rfl,(show Arr _ _ _ by rw [nxtL_zero];exact HN.out),(show ownC _ _ _ _ by rw [codesTo_zero,HL.out];exact HO.out),HB3⟩
   case round =>
    clear HN HO HB3
    obtain ⟨k,hk,rfl,HN,HO,HB⟩:=hrel
    by_cases hlt:k < n
    ·obtain ⟨b,o,x,rfl,hb,HX,e1⟩:=(H.out.blw (HB.out.mono hB1)).one hlt
     obtain ⟨x0,x1⟩:=good_at HBAD.out HX.out
     obtain ⟨t,rfl⟩:=Int.eq_ofNat_of_zero_le x0
     have hkl:k < ls.length:=by rw [HL.out];exact hlt
     by_cases h0:0 < t
     ·have ht:t < 16:=by omega
      have c5:=HN.out.cell (nxtL_get ls k ht h0)
      have f5:=HN.out.frozen t
      have hcv:=codeAt_pos HX.out h0
      have hbd:=fst_small ls HBAD.out HKN.out t (by omega)
      have hct:=cnt_take ls k t
      have hcz:cz ls t=cnt ls t:=by
       cases t with
       | zero=>omega
       | succ t=>rfl
      have HST:=Lib.hid (codesTo_step ls hkl)
      rw [hcv] at HST
      have HNX:=Lib.hid (nxtL_step HX.out ht h0)
      have hbv:fst ls t+cnt (ls.take k) t≤32768:=by omega
      obtain ⟨o0,o1⟩:=HO.out.cell (by rw [codesTo_len,HL.out]) (k:=k) (by rw [codesTo_len];exact hkl)
      have of:=HO.out.frozen (by rw [codesTo_len,HL.out])
      have of0:=of (k * 2)
      have of1:=of (k * 2+1)
      generalize fst ls t+cnt (ls.take k) t=v at *
      generalize (codesTo ls k)[k]'(by rw [codesTo_len];exact hkl)=oc at *
      clear hcv hbd hct hcz of
      have HAR:=Lib.hid (show Arr (((wr.setCell ⟨w2.heap.size+1+1,k * 2,none⟩ (.int .u32 (v:Int))).setCell ⟨w2.heap.size+1+1,k * 2+1,none⟩ (.int .i64 (t:Int))).setCell ⟨w2.heap.size,t,none⟩ (.int .u32 ((v:Int)+1))) w2.heap.size (cU (nxtL ls (k+1))) from by
       rw [HNX.out,show ((v+1:Nat):Int)=(v:Int)+1 by omega]
       exact ((HN.out.far (p:=⟨w2.heap.size+1+1,k * 2,none⟩) (by show w2.heap.size+1+1 ≠ w2.heap.size;omega) _).far (p:=⟨w2.heap.size+1+1,k * 2+1,none⟩) (by show w2.heap.size+1+1 ≠ w2.heap.size;omega) _).set t _)
      have HOR:=Lib.hid (show ownC (((wr.setCell ⟨w2.heap.size+1+1,k * 2,none⟩ (.int .u32 (v:Int))).setCell ⟨w2.heap.size+1+1,k * 2+1,none⟩ (.int .i64 (t:Int))).setCell ⟨w2.heap.size,t,none⟩ (.int .u32 ((v:Int)+1))) (w2.heap.size+1+1) (.slice (some ⟨w2.heap.size+1+1,0,none⟩) n n) (codesTo ls (k+1)) from by
       rw [HST.out]
       exact (HO.out.store (by rw [codesTo_len,HL.out]) k (v,(t:Int)) (by rw [codesTo_len];exact hkl)).far (by intro e;injection e with e;have e2:w2.heap.size+1+1=w2.heap.size:=e;omega) _ _)
      have HBR:=Lib.hid (((HB.out.setCell (p:=⟨w2.heap.size+1+1,k * 2,none⟩) (by show w.heap.size≤w2.heap.size+1+1;omega) (.int .u32 (v:Int))).setCell (p:=⟨w2.heap.size+1+1,k * 2+1,none⟩) (by show w.heap.size≤w2.heap.size+1+1;omega) (.int .i64 (t:Int))).setCell (p:=⟨w2.heap.size,t,none⟩) (by show w.heap.size≤w2.heap.size;omega) (.int .u32 ((v:Int)+1)))
      clear HN HO HB
      go_wp2
      go_roundw
      case rel=>exact ⟨k+1,by omega,by go_num,HAR,HOR,HBR⟩
      case measure=>simp [intOf];omega
     ·have hx0:¬ (0:Int) < (t:Int):=by omega
      have HST:=Lib.hid (codesTo_same ls hkl (codeAt_zero HX.out hx0))
      have HNX:=Lib.hid (nxtL_same HX.out hx0)
      go_wp2
      go_roundw
      case rel=>exact ⟨k+1,by omega,by go_num,(show Arr _ _ _ by rw [HNX.out];exact HN.out),(show ownC _ _ _ _ by rw [HST.out];exact HO.out),HB⟩
      case measure=>simp [intOf];omega
    ·obtain rfl:k=n:=by omega
     go_wp2
     go_ret2
     refine ⟨some ⟨w2.heap.size+1+1,0,none⟩,k,k,ret_tup2 rfl (by rw [HE.out.1];rfl),?_,?_,HB.out⟩
     ·rw [HE.out.2,← codesTo_end,codesTo_len,HL.out]
     ·rw [HE.out.2,← codesTo_end,HL.out]
      exact HO.out.mono (by omega)
 ·have HE:Hid (cdE ls=1∧cdL ls=[]):=(show _∧_ by
   have:cdE ls=1:=by unfold cdE;rw [if_neg (by rw [he];decide)]
   refine ⟨this,?_⟩
   unfold cdL
   rw [if_neg (by rw [this];decide)])
  rw [he] at HK
  generalize krV ls=K at HK
  clear h hl he
  go_enter Tryz.func106,Tryz.ntmps106
  go_wp2_with (go_at_call 152;(with_reducible refine HK.out.mono ?_);go_must (rintro e w1 ⟨rfl,rfl⟩))
  go_ret2
  exact ⟨none,0,0,ret_tup2 rfl (by rw [HE.out.1];rfl),by rw [HE.out.2];rfl,by rw [HE.out.2];exact ownC.nil_ _ _,Below.refl _ _⟩
end Go.Proofs.YteoolehdomjkkaaGreat

/- huff: the document's codes, plainly: length by length. -/
namespace Go.Proofs.YteoolehdomjkkaaGreat
set_option linter.all false
/-- The codes of all lengths below l, and of length l at the first k places. -/
def cod5 (ls:List Int) (l k:Nat):List (Nat × Int):=(List.range ls.length).map fun i=>if ls.getD i 0 < (l:Int)∨(ls.getD i 0=(l:Int)∧i < k) then codeAt ls i else (0,0)
theorem cod5_len (ls:List Int) (l k:Nat):(cod5 ls l k).length=ls.length:=by simp [cod5]
theorem cod5_start (ls:List Int):cod5 ls 1 0=List.replicate ls.length (0,0):=by
 unfold cod5
 apply List.ext_getElem?
 intro i
 by_cases h:i < ls.length
 ·rw [List.getElem?_map,List.getElem?_range h,List.getElem?_replicate,if_pos h]
  simp only [Option.map_some]
  congr 1
  split
  ·rename_i hc
   unfold codeAt
   rw [if_neg (by omega)]
  ·rfl
 ·rw [List.getElem?_eq_none (by simp;omega),List.getElem?_eq_none (by simp;omega)]
theorem cod5_next (ls:List Int) (l:Nat):cod5 ls l ls.length=cod5 ls (l+1) 0:=by
 unfold cod5
 apply List.map_congr_left
 intro i hi
 rw [List.mem_range] at hi
 generalize ls.getD i 0=x
 by_cases h:x < (l:Int)∨(x=(l:Int)∧i < ls.length)
 ·rw [if_pos h,if_pos (by left;omega)]
 ·rw [if_neg h,if_neg (by omega)]
theorem cod5_end (ls:List Int) (hb:badL ls=false):cod5 ls 16 0=codesL ls:=by
 unfold cod5 codesL
 apply List.map_congr_left
 intro i hi
 rw [List.mem_range] at hi
 have h:ls[i]?=some (ls.getD i 0):=by rw [List.getD_eq_getElem?_getD,List.getElem?_eq_getElem hi];rfl
 have:=good_at hb h
 rw [if_pos (by left;omega)]
theorem cod5_same {ls:List Int} {l k:Nat} {x:Int} (h:ls[k]?=some x) (hx:¬ x=(l:Int)):cod5 ls l (k+1)=cod5 ls l k:=by
 unfold cod5
 apply List.map_congr_left
 intro i hi
 have e:k=i→ls.getD i 0=x:=by rintro rfl;rw [List.getD_eq_getElem?_getD,h];rfl
 by_cases hik:k=i
 ·have:=e hik
  rw [this]
  by_cases h1:x < (l:Int)
  ·rw [if_pos (.inl h1),if_pos (.inl h1)]
  ·rw [if_neg (by omega),if_neg (by omega)]
 ·generalize ls.getD i 0=y
  by_cases h1:y < (l:Int)∨(y=(l:Int)∧i < k)
  ·rw [if_pos h1,if_pos (by omega)]
  ·rw [if_neg h1,if_neg (by omega)]
theorem cod5_set {ls:List Int} {l k:Nat} (h:ls[k]?=some (l:Int)) (h0:0 < l):cod5 ls l (k+1)=(cod5 ls l k).set k (fst ls l+cnt (ls.take k) l,(l:Int)):=by
 rw [← codeAt_pos h h0]
 obtain ⟨hk,hx⟩:=List.getElem?_eq_some_iff.1 h
 have e:ls.getD k 0=l:=by rw [List.getD_eq_getElem?_getD,h];rfl
 unfold cod5
 apply List.ext_getElem?
 intro i
 rw [List.getElem?_set]
 by_cases hi:i < ls.length
 ·rw [List.getElem?_map,List.getElem?_map,List.getElem?_range hi]
  by_cases ek:k=i
  ·subst ek
   rw [if_pos rfl,if_pos (by simp;omega)]
   simp only [Option.map_some]
   rw [if_pos (by right;exact ⟨e,by omega⟩)]
  ·rw [if_neg ek]
   simp only [Option.map_some]
   congr 1
   generalize ls.getD i 0=y
   by_cases h1:y < (l:Int)∨(y=(l:Int)∧i < k)
   ·rw [if_pos h1,if_pos (by omega)]
   ·rw [if_neg h1,if_neg (by omega)]
 ·rw [List.getElem?_eq_none (by simp;omega)]
  by_cases ek:k=i
  ·omega
  ·rw [if_neg ek,List.getElem?_eq_none (by simp;omega)]
theorem cnt_take_step {ls:List Int} {k:Nat} {x:Int} (h:ls[k]?=some x) (l:Nat):cnt (ls.take (k+1)) l=cnt (ls.take k) l+if x=(l:Int) then 1 else 0:=by
 obtain ⟨hk,hx⟩:=List.getElem?_eq_some_iff.1 h
 rw [List.take_succ_eq_append_getElem hk,hx]
 unfold cnt
 rw [List.count_append,List.count_singleton]
 by_cases e:x=(l:Int)
 ·rw [if_pos (by simp [e]),if_pos e]
 ·rw [if_neg (by simp [e]),if_neg e]
theorem cz_cnt (ls:List Int) {l:Nat} (h:0 < l):cz ls l=cnt ls l:=by
 cases l with
 | zero=>omega
 | succ l=>rfl
end Go.Proofs.YteoolehdomjkkaaGreat

/- Bits of bytes, plainly. -/
namespace Go.Proofs.YteoolehdomjkkaaGreat
set_option linter.all false
/-- The p-th bit of bytes, the least of a byte first. -/
def bitAt (bs:List UInt8) (p:Nat):Nat:=(bs.getD (p / 8) 0).toNat / 2 ^ (p % 8) % 2
end Go.Proofs.YteoolehdomjkkaaGreat

/- Decoders, plainly. -/
namespace Go.Proofs.YteoolehdomjkkaaGreat
set_option linter.all false
open Go.RowKit
/-- The code v of length t is that of the place p. -/
def Hit (ls:List Int) (t v p:Nat):Prop:=ls[p]?=some (t:Int)∧fst ls t+cnt (ls.take p) t=v
theorem cnt_lt2 {ls:List Int} {i k t:Nat} (h:ls[i]?=some (t:Int)) (hik:i < k):cnt (ls.take i) t < cnt (ls.take k) t:=by
 have e:=cnt_take_step h t
 rw [if_pos rfl] at e
 have h2:cnt (ls.take (i+1)) t≤cnt (ls.take k) t:=by
  unfold cnt
  rw [show ls.take (i+1)=(ls.take k).take (i+1) by rw [List.take_take,Nat.min_eq_left (by omega)]]
  exact List.Sublist.count_le _ (List.take_sublist _ _)
 omega
/-- The place of a code. -/
def hitN (ls:List Int) (t v:Nat):Option Nat:=(List.range ls.length).find? fun p=>decide (ls[p]?=some (t:Int)) && decide (fst ls t+cnt (ls.take p) t=v)
theorem hit_bound {ls:List Int} {t v p:Nat} (h0:1≤t) (h:Hit ls t v p):fst ls t≤v∧v < fst ls t+cz ls t:=by
 have h1:=h.2
 have h2:=cnt_lt2 h.1 (List.getElem?_eq_some_iff.1 h.1).1
 have h3:=cz_cnt ls h0
 rw [List.take_length] at h2
 omega
/-- What Next answers, where it is then: t is the length, v the bits so far. -/
def nx (ls:List Int) (bs:List UInt8):Nat→Nat→Nat→Nat→Int × Int × Nat
 | 0,_,_,P=>(0,4,P)
 | f+1,t,v,P=>if 8 * bs.length≤P then (0,2,P) else
  match hitN ls t (v * 2+bitAt bs P) with
  | some p=>((p:Int),0,P+1)
  | none=>nx ls bs f (t+1) (v * 2+bitAt bs P) (P+1)
end Go.Proofs.YteoolehdomjkkaaGreat

/- Writers of bits, plainly. -/
namespace Go.Proofs.YteoolehdomjkkaaGreat
set_option linter.all false
open Go.RowKit
/-- Bytes hold bits: so many bytes, behind the last bit nothing. -/
def WB (bs:List UInt8) (L:List Nat):Prop:=bs.length=(L.length+7) / 8∧∀ p,bitAt bs p=L.getD p 0
theorem WB.nil:WB [] []:=⟨rfl,fun p=>by simp [bitAt]⟩
theorem or_place (x b t q:Nat) (hb:b < 2) (hx:x / 2 ^ t % 2=0):(x ||| b * 2 ^ t) / 2 ^ q % 2=if q=t then b else x / 2 ^ q % 2:=by
 have key:∀ y:Nat,y / 2 ^ q % 2=(y.testBit q).toNat:=fun y=>by
  rw [Nat.testBit_eq_decide_div_mod_eq]
  rcases Nat.mod_two_eq_zero_or_one (y / 2 ^ q) with h | h <;> simp [h]
 have hx':x.testBit t=false:=by rw [Nat.testBit_eq_decide_div_mod_eq];simp [hx]
 rw [key,key,Nat.testBit_or]
 rcases Nat.lt_or_ge b 1 with h0 | h1
 ·obtain rfl:b=0:=by omega
  rw [Nat.zero_mul,Nat.zero_testBit,Bool.or_false]
  split
  ·rename_i e;subst e;rw [hx'];rfl
  ·rfl
 ·obtain rfl:b=1:=by omega
  rw [Nat.one_mul,Nat.testBit_two_pow]
  by_cases e:q=t
  ·subst e;rw [if_pos rfl];simp
  ·rw [if_neg e]
   have:¬ t=q:=fun e'=>e e'.symm
   simp [this]
theorem or_lt256 (x b t:Nat) (hx:x < 256) (hb:b < 2) (ht:t < 8):x ||| b * 2 ^ t < 256:=by
 have h1:2 ^ t≤2 ^ 7:=Nat.pow_le_pow_right (by decide) (by omega)
 have h2:b * 2 ^ t≤1 * 2 ^ t:=Nat.mul_le_mul_right _ (by omega)
 exact Nat.or_lt_two_pow (n:=8) hx (by omega)
/-- The bytes with room for one bit more. -/
def room (bs:List UInt8) (N:Nat):List UInt8:=if N % 8=0 then bs ++ [0] else bs
theorem room_bit (bs:List UInt8) (N p:Nat):bitAt (room bs N) p=bitAt bs p:=by
 unfold room
 split
 ·unfold bitAt
  congr 2
  rw [List.getD_eq_getElem?_getD,List.getD_eq_getElem?_getD,List.getElem?_append]
  split
  ·rfl
  ·rw [List.getElem?_eq_none (l:=bs) (by omega)]
   cases h:p / 8 - bs.length with
   | zero=>rfl
   | succ k=>simp
 ·rfl
theorem room_len {bs:List UInt8} {L:List Nat} (h:WB bs L):(room bs L.length).length=L.length / 8+1:=by
 have:=h.1
 unfold room
 split
 ·rw [List.length_append];simp;omega
 ·omega
theorem WB.push {bs:List UInt8} {L:List Nat} (h:WB bs L) {b:Nat} (hb:b < 2) {x:UInt8} (hx:(room bs L.length)[L.length / 8]?=some x) :
  WB ((room bs L.length).set (L.length / 8) (UInt8.ofNat (x.toNat ||| b * 2 ^ (L.length % 8)))) (L ++ [b]):=by
 have hl:=room_len h
 refine ⟨?_,fun p=>?_⟩
 ·rw [List.length_set,hl,List.length_append];simp;omega
 ·have hx0:x.toNat / 2 ^ (L.length % 8) % 2=0:=by
   have e:=room_bit bs L.length L.length
   rw [h.2 L.length] at e
   unfold bitAt at e
   rw [List.getD_eq_getElem?_getD,hx] at e
   rw [List.getD_eq_getElem?_getD,List.getElem?_eq_none (Nat.le_refl _)] at e
   exact e
  have hv:(UInt8.ofNat (x.toNat ||| b * 2 ^ (L.length % 8))).toNat=x.toNat ||| b * 2 ^ (L.length % 8):=by
   have:=or_lt256 x.toNat b (L.length % 8) x.toNat_lt hb (Nat.mod_lt _ (by decide))
   simp only [UInt8.toNat_ofNat']
   exact Nat.mod_eq_of_lt this
  by_cases e:p / 8=L.length / 8
  ·unfold bitAt
   rw [List.getD_eq_getElem?_getD,List.getElem?_set,if_pos e.symm,if_pos (by omega)]
   show (UInt8.ofNat _).toNat / 2 ^ (p % 8) % 2=_
   rw [hv,or_place _ _ _ _ hb hx0]
   by_cases e2:p % 8=L.length % 8
   ·obtain rfl:p=L.length:=by omega
    rw [if_pos rfl,List.getD_eq_getElem?_getD,List.getElem?_append_right (Nat.le_refl _),Nat.sub_self]
    rfl
   ·rw [if_neg e2]
    have e3:=room_bit bs L.length p
    rw [h.2 p] at e3
    unfold bitAt at e3
    rw [List.getD_eq_getElem?_getD,e,hx] at e3
    have e4:x.toNat / 2 ^ (p % 8) % 2=L.getD p 0:=e3
    rw [e4,List.getD_eq_getElem?_getD,List.getD_eq_getElem?_getD,List.getElem?_append]
    split
    ·rfl
    ·rename_i hge
     have:¬ p=L.length:=fun e=>e2 (by rw [e])
     rw [List.getElem?_eq_none (l:=L) (by omega)]
     cases hk:p - L.length with
     | zero=>omega
     | succ k=>simp
  ·have e3:=room_bit bs L.length p
   rw [h.2 p] at e3
   have e5:bitAt ((room bs L.length).set (L.length / 8) (UInt8.ofNat (x.toNat ||| b * 2 ^ (L.length % 8)))) p=bitAt (room bs L.length) p:=by
    unfold bitAt
    rw [List.getD_eq_getElem?_getD,List.getD_eq_getElem?_getD,List.getElem?_set,if_neg (fun e'=>e e'.symm)]
   rw [e5,e3,List.getD_eq_getElem?_getD,List.getD_eq_getElem?_getD,List.getElem?_append]
   split
   ·rfl
   ·rename_i hge
    have:¬ p=L.length:=fun e'=>e (by rw [e'])
    rw [List.getElem?_eq_none (l:=L) (by omega)]
    cases hk:p - L.length with
    | zero=>omega
    | succ k=>simp
/-- The first k bits of a number of n bits, the greatest first. -/
def msb (v n:Nat):Nat→List Nat
 | 0=>[]
 | k+1=>msb v n k ++ [v / 2 ^ (n - 1 - k) % 2]
theorem msb_len (v n k:Nat):(msb v n k).length=k:=by
 induction k with
 | zero=>rfl
 | succ k ih=>rw [msb,List.length_append,ih];rfl
/-- The bits of a place's code. -/
def codeB (ls:List Int) (p:Nat):List Nat:=msb (codeAt ls p).1 (codeAt ls p).2.toNat (codeAt ls p).2.toNat
end Go.Proofs.YteoolehdomjkkaaGreat

/- Readers of bits. -/
namespace Go.Proofs.YteoolehdomjkkaaGreat
set_option linter.all false
open Go.RowKit
end Go.Proofs.YteoolehdomjkkaaGreat

/- Writers of bits. -/
namespace Go.Proofs.YteoolehdomjkkaaGreat
set_option linter.all false
open Go.RowKit
/-- What a writer changes: its block, its row, new blocks. -/
structure WrFr (w w':World) (g:Nat) (pv pv':Value):Prop where
 os:w'.os=w.os
 tape:w'.tape=w.tape
 output:w'.output=w.output
 size:w.heap.size≤w'.heap.size
 block:∀ k,k < w.heap.size→k ≠ g→pv.ownBlock ≠ some k→w'.heap[k]?=w.heap[k]?
 own:pv'.ownBlock=pv.ownBlock∨∃ k,w.heap.size≤k∧pv'.ownBlock=some k
section
variable {w w' w'' : World} {g : Nat} {pv pv' pv'' : Value}
theorem WrFr.refl (w:World) (g:Nat) (pv:Value):WrFr w w g pv pv:=⟨rfl,rfl,rfl,Nat.le_refl _,fun _ _ _ _=>rfl,.inl rfl⟩
theorem WrFr.trans (h:WrFr w w' g pv pv') (k:WrFr w' w'' g pv' pv''):WrFr w w'' g pv pv'':=by
 refine ⟨k.os.trans h.os,k.tape.trans h.tape,k.output.trans h.output,Nat.le_trans h.size k.size,fun i hi hg hp=>?_,?_⟩
 ·refine (k.block i (Nat.lt_of_lt_of_le hi h.size) hg ?_).trans (h.block i hi hg hp)
  rcases h.own with e | ⟨j,hj,e⟩
  ·rw [e];exact hp
  ·rw [e];intro e2;injection e2 with e2;omega
 ·rcases k.own with e | ⟨j,hj,e⟩
  ·rcases h.own with e2 | ⟨j,hj,e2⟩
   ·exact .inl (e.trans e2)
   ·exact .inr ⟨j,hj,e.trans e2⟩
  ·exact .inr ⟨j,Nat.le_trans h.size hj,e⟩
theorem WrFr.setg (h:WrFr w w' g pv pv') (i:Nat) (v:Value):WrFr w (w'.setCell ⟨g,i,none⟩ v) g pv pv' :=
 ⟨h.os,h.tape,h.output,by simp;exact h.size,fun k hk hg hp=>(Below.heap_setCell _ _ _ _ (fun e=>hg e)).trans (h.block k hk hg hp),h.own⟩
theorem WrFr.setr {ga m c:Nat} (h:WrFr w w' g pv (.slice (some ⟨ga,0,none⟩) m c)) (i:Nat) (v:Value):WrFr w (w'.setCell ⟨ga,i,none⟩ v) g pv (.slice (some ⟨ga,0,none⟩) m c):=by
 refine ⟨h.os,h.tape,h.output,by simp;exact h.size,fun k hk hg hp=>?_,h.own⟩
 refine (Below.heap_setCell _ _ _ _ (fun e0:k=ga=>?_)).trans (h.block k hk hg hp)
 subst e0
 rcases h.own with e | ⟨j,hj,e⟩
 ·exact hp e.symm
 ·have e2:some k=some j:=e
  injection e2 with e2
  omega
theorem and_one32 (v:Nat) (hv:v < 4294967296):bits .and .u32 (v:Int) 1=((v % 2:Nat):Int):=by
 rw [show (1:Int)=((1:Nat):Int) from rfl,u32_and_nat _ _ hv (by decide),Nat.and_one_is_mod]
/-- What a bit put into a byte gives. -/
theorem one_val (x:UInt8) (v t:Nat) (hv:v < 4294967296) (ht:t < 8) :
  bits .or .u8 (x.toNat:Int) (bits .and .u32 (v:Int) 1 % 256 * 2 ^ t % 256)=((UInt8.ofNat (x.toNat ||| v % 2 * 2 ^ t)).toNat:Int):=by
 have hb:v % 2 < 2:=Nat.mod_lt _ (by decide)
 have e0:bits .and .u32 (v:Int) 1=((v % 2:Nat):Int):=by
  rw [show (1:Int)=((1:Nat):Int) from rfl,u32_and_nat _ _ hv (by decide),Nat.and_one_is_mod]
 have hx:=x.toNat_lt
 have h256:=or_lt256 x.toNat (v % 2) t hx hb ht
 rw [e0]
 generalize v % 2=b at *
 have h1:2 ^ t≤2 ^ 7:=Nat.pow_le_pow_right (by decide) (by omega)
 have h2:b * 2 ^ t≤1 * 2 ^ t:=Nat.mul_le_mul_right _ (by omega)
 have e1:(b:Int) % 256=b:=Int.emod_eq_of_lt (by omega) (by omega)
 have e2:(b:Int) * 2 ^ t=((b * 2 ^ t:Nat):Int):=by push_cast;rfl
 rw [e1,e2]
 generalize b * 2 ^ t=u at *
 rw [Int.emod_eq_of_lt (by omega) (by omega),u8_or_nat _ _ hx (by omega)]
 simp only [UInt8.toNat_ofNat']
 rw [Nat.mod_eq_of_lt h256]
theorem WrFr.drew (h:WrFr w w' g pv pv'):WrFr w w'.drew g pv pv':=⟨h.os,h.tape,h.output,h.size,h.block,h.own⟩
theorem WrFr.grown {pv2:Value} (o:Obj) (h:(w.alloc o).grownBy w' pv.ownBlock) (hat:pv2.ownBlock=pv.ownBlock∨pv2.ownBlock=some (w.alloc o).heap.size):WrFr w w' g pv pv2:=by
 refine ⟨h.os,h.tape,h.output,Nat.le_trans (by simp) h.size,fun k hk _ hp=>?_,?_⟩
 ·exact (h.block k (by simp;omega) (fun e=>hp e.symm)).trans (heap_alloc_old w o hk)
 ·rcases hat with e | e
  ·exact .inl e
  ·exact .inr ⟨_,by simp,e⟩
theorem WrFr.below {B:Nat} (h:WrFr w w' g pv pv') (hB:B≤w.heap.size) (hg:B≤g) (hp:∀ k,pv.ownBlock=some k→B≤k):Below B w w' :=
 ⟨h.os,h.tape,h.output,h.size,fun k hk=>h.block k (by omega) (by omega) (fun e=>by have:=hp k e;omega)⟩
end
theorem ownB.at0 {w:World} {base n c:Nat} {A:Option Addr} {bs:List UInt8} (h:ownB w base (.slice A n c) bs) (hn:0 < n):n=bs.length∧∃ g,A=some ⟨g,0,none⟩∧base≤g∧g < w.heap.size:=by
 rcases h.2 with ⟨h',_⟩ | ⟨g,cap,cur,h',hb,hg,_⟩
 ·injection h' with _ h2;omega
 ·injection h' with h1 h2
  exact ⟨h2,g,h1,hb,(World.ownsRow.lt h g (by rw [h1];rfl)).2⟩
set_option maxRecDepth 100000 in
set_option maxHeartbeats 3200000 in
theorem one_any (g N v:Nat) (pv:Value) (bs:List UInt8) (L:List Nat) (w:World) (hA:Arr w g [pv,.int .i64 (N:Int)]) (ho:ownB w (g+1) pv bs) (hW:WB bs L) (hN:L.length=N) (hb:N≤1000000) (hv:v < 4294967296) :
  Calls Tryz.prog 181 #[.pointer (some ⟨g,0,none⟩),.int .u32 (v:Int)] w fun e w'=>e=.returned (.tuple #[])∧∃ pv' bs',Arr w' g [pv',.int .i64 ((N+1:Nat):Int)]∧ownB w' (g+1) pv' bs'∧WB bs' (L ++ [v % 2])∧WrFr w w' g pv pv':=by
 obtain ⟨Ap,cp,rfl,-,-,-⟩:=ho.form
 have HA:=Lib.hid hA
 have HO:=Lib.hid ho
 have HW:=Lib.hid hW
 have hRL:=room_len hW
 rw [hN] at hRL
 have HRL:=Lib.hid hRL
 have HPU:=Lib.hid (fun x hx=>WB.push hW (b:=v % 2) (Nat.mod_lt _ (by decide)) (x:=x) hx)
 rw [hN] at HPU
 have hsg:=hA.lt
 have hbl0:bs.length≤200000:=by have:=hW.1;omega
 have c0:=hA.cell (k:=0) rfl
 have c1:=hA.cell (k:=1) rfl
 clear hA ho hW
 have hq1:(N:Int).tdiv 8=((N / 8:Nat):Int):=rfl
 have hq2:(N:Int).tmod 8=((N % 8:Nat):Int):=rfl
 have ht:N % 8 < 8:=Nat.mod_lt _ (by decide)
 by_cases h8:N % 8=0
 ·have d8:((N:Int) % 8 == 0)=true:=by simp;omega
  have HRO:Hid (room bs N=bs ++ [0]):=(show _=_ by unfold room;rw [if_pos h8])
  go_enter Tryz.func181,Tryz.ntmps181
  go_upto_region 2 with (at_builtin;go_must (refine wpList_appendB rfl (.tmp 14) (.tmp 15) rfl (g+1) _ bs rfl (ownB.alloc HO.out _) (w.heap.size+1) 1 1 (some ⟨w.heap.size,0,none⟩) [0] rfl (rd_one w 0 0 rfl) (by omega) (by simp;omega) ?_;intro v1 w3 hown hgb hbl hat;obtain ⟨A3,c3,rfl,hr3,-,-⟩:=hown.form;have HF3:=Lib.hid (show WrFr w w3 g (.slice Ap bs.length cp) (.slice A3 (bs ++ [(0:UInt8)]).length c3) from WrFr.grown (g:=g) _ hgb hat);rw [show (bs ++ [(0:UInt8)]).length=bs.length+1 by simp] at hown HF3 ⊢;have HA3:=Lib.hid ((HA.out.alloc (.cells #[.int .u8 0] 5)).blw hbl (Nat.lt_succ_self g));have HO3:=Lib.hid hown;have c48:=HA3.out.cell (k:=0) rfl;have f48:=HA3.out.frozen 0;clear hown hbl hat hr3 HA HO hgb))
  obtain ⟨hml,ga,rfl,hga,hga2⟩:=ownB.at0 HO3.out (by omega)
  have HA:=Lib.hid (HA3.out.set 0 (.slice (some ⟨ga,0,none⟩) (bs.length+1) c3))
  have HO:=Lib.hid (ownB.far HO3.out (g:=g) (ownB_ne HO3.out (Nat.lt_succ_self g)) 0 (.slice (some ⟨ga,0,none⟩) (bs.length+1) c3))
  have HF:=Lib.hid (HF3.out.setg 0 (.slice (some ⟨ga,0,none⟩) (bs.length+1) c3))
  have HRB:=Lib.hid HRO.out
  rw [← HRO.out] at hml HO
  clear HA3 HO3 HF3 c48 f48 c0 c1
  generalize w3.setCell ⟨g,0,none⟩ (.slice (some ⟨ga,0,none⟩) (bs.length+1) c3)=wq at *
  obtain ⟨m,hm⟩:∃ m,bs.length+1=m:=⟨_,rfl⟩
  rw [hm] at hml HO HF HA
  simp only [hm]
  have HRB:Hid (room bs N=room bs N):=(show _=_ from rfl)
  have hne:¬ g=ga:=by omega
  have hne2:¬ ga=g:=by omega
  have hm8:N / 8 < m:=by omega
  obtain ⟨x,HX,cx⟩:=HO.out.byte hml (k:=N / 8) hm8
  have fx:=HO.out.frozen hml (N / 8)
  have c0:=HA.out.cell (k:=0) rfl
  have c1:=HA.out.cell (k:=1) rfl
  have f1:=HA.out.frozen 1
  have HVL:=Lib.hid (one_val x v (N % 8) hv ht)
  have HWN:=Lib.hid (HPU.out x (by rw [HRB.out];exact HX.out))
  rw [HRB.out] at HWN
  obtain ⟨y,hy⟩:∃ y:UInt8,UInt8.ofNat (x.toNat ||| v % 2 * 2 ^ (N % 8))=y:=⟨_,rfl⟩
  rw [hy] at HVL HWN
  have HOS:=Lib.hid (ownB.far (ownB.store HO.out hml (N / 8) y) (g:=g) (ownB_ne (ownB.store HO.out hml (N / 8) y) (Nat.lt_succ_self g)) 1 (.int .i64 ((N:Int)+1))).drew
  have HAS:=Lib.hid ((HA.out.far (p:=⟨ga,N / 8,none⟩) hne2 (.int .u8 (y.toNat:Int))).set 1 (.int .i64 ((N:Int)+1))).drew
  have HFS:=Lib.hid ((HF.out.setr (N / 8) (.int .u8 (y.toNat:Int))).setg 1 (.int .i64 ((N:Int)+1))).drew
  clear HO HA HF HX HPU hy
  have hvv:=HVL.out
  have eb:bits .and .u32 (v:Int) 1=((v % 2:Nat):Int):=and_one32 v hv
  rw [eb] at hvv
  have hb2:v % 2 < 2:=Nat.mod_lt _ (by decide)
  obtain ⟨s,hs,hs2⟩:∃ s:Nat,s < 256∧(((v % 2:Nat):Int) % 256 * 2 ^ (N % 8) % 256)=(s:Int):=by
   refine ⟨(((v % 2:Nat):Int) % 256 * 2 ^ (N % 8) % 256).toNat,?_,?_⟩ <;> omega
  rw [hs2] at hvv
  have HY:Hid (y.toNat < 256):=y.toNat_lt
  generalize y.toNat=yn at *
  generalize hbv:v % 2=b at *
  have HBV:=Lib.hid hbv
  clear hbv
  have eb2:(b:Int) % 256=b:=Int.emod_eq_of_lt (by omega) (by omega)
  rw [eb2] at hs2
  generalize hq:N / 8=q at *
  generalize htt:N % 8=t at *
  have hqI:(N:Int) / 8=(q:Int):=by omega
  have htI:(N:Int) % 8=(t:Int):=by omega
  have wq1:IntKind.i64.wrap (q:Int)=(q:Int):=wrap_i64_lt q (by omega)
  have wt1:IntKind.i64.wrap (t:Int)=(t:Int):=wrap_i64_lt t (by omega)
  have wb1:IntKind.u8.wrap (b:Int)=(b:Int):=by simp [IntKind.wrap,IntKind.bits,IntKind.signed];omega
  have ws1:IntKind.u8.wrap ((b:Int) * 2 ^ t)=(s:Int):=by rw [← hs2];simp [IntKind.wrap,IntKind.bits,IntKind.signed]
  have wb3:IntKind.u8.wrap (s:Int)=(s:Int):=by simp [IntKind.wrap,IntKind.bits,IntKind.signed];omega
  have hqm:(q:Int) < (m:Int):=by omega
  have hqm2:q < m:=by omega
  clear HVL HRL hm8 hRL hs2 hbl0
  try clear hml
  try (have HMM:=Lib.hid hm;clear hm)
  try clear h8
  try clear d8
  try clear hq htt
  go_wp2_with fail
  go_region_law (fail)
  all_goals
   go_simp
   go_wp2_with fail
   go_end0
   exact ⟨rfl,_,_,HAS.out,HOS.out,(by rw [HBV.out];exact HWN.out),(by first | exact HFS.out | (rw [HMM.out];exact HFS.out))⟩
 ·have d8:((N:Int) % 8 == 0)=false:=beq_eq_false_iff_ne.2 (by omega)
  have HRB:Hid (room bs N=bs):=(show _=_ by unfold room;rw [if_neg h8])
  have hml:bs.length=bs.length:=rfl
  rw [HRB.out] at hRL
  obtain ⟨-,ga,rfl,hga,hga2⟩:=ownB.at0 HO.out (by omega)
  have HF:=Lib.hid (WrFr.refl w g (.slice (some ⟨ga,0,none⟩) bs.length cp))
  obtain ⟨m,hm⟩:∃ m,bs.length=m:=⟨_,rfl⟩
  have hml:m=bs.length:=hm.symm
  rw [hm] at HO HA HF c0 hRL hbl0
  go_enter Tryz.func181,Tryz.ntmps181
  go_upto_region 2 with (fail)
  have hne:¬ g=ga:=by omega
  have hne2:¬ ga=g:=by omega
  have hm8:N / 8 < m:=by omega
  obtain ⟨x,HX,cx⟩:=HO.out.byte hml (k:=N / 8) hm8
  have fx:=HO.out.frozen hml (N / 8)
  have f1:=HA.out.frozen 1
  have HVL:=Lib.hid (one_val x v (N % 8) hv ht)
  have HWN:=Lib.hid (HPU.out x (by rw [HRB.out];exact HX.out))
  rw [HRB.out] at HWN
  obtain ⟨y,hy⟩:∃ y:UInt8,UInt8.ofNat (x.toNat ||| v % 2 * 2 ^ (N % 8))=y:=⟨_,rfl⟩
  rw [hy] at HVL HWN
  have HOS:=Lib.hid (ownB.far (ownB.store HO.out hml (N / 8) y) (g:=g) (ownB_ne (ownB.store HO.out hml (N / 8) y) (Nat.lt_succ_self g)) 1 (.int .i64 ((N:Int)+1))).drew
  have HAS:=Lib.hid ((HA.out.far (p:=⟨ga,N / 8,none⟩) hne2 (.int .u8 (y.toNat:Int))).set 1 (.int .i64 ((N:Int)+1))).drew
  have HFS:=Lib.hid ((HF.out.setr (N / 8) (.int .u8 (y.toNat:Int))).setg 1 (.int .i64 ((N:Int)+1))).drew
  clear HO HA HF HX HPU hy
  have hvv:=HVL.out
  have eb:bits .and .u32 (v:Int) 1=((v % 2:Nat):Int):=and_one32 v hv
  rw [eb] at hvv
  have hb2:v % 2 < 2:=Nat.mod_lt _ (by decide)
  obtain ⟨s,hs,hs2⟩:∃ s:Nat,s < 256∧(((v % 2:Nat):Int) % 256 * 2 ^ (N % 8) % 256)=(s:Int):=by
   refine ⟨(((v % 2:Nat):Int) % 256 * 2 ^ (N % 8) % 256).toNat,?_,?_⟩ <;> omega
  rw [hs2] at hvv
  have HY:Hid (y.toNat < 256):=y.toNat_lt
  generalize y.toNat=yn at *
  generalize hbv:v % 2=b at *
  have HBV:=Lib.hid hbv
  clear hbv
  have eb2:(b:Int) % 256=b:=Int.emod_eq_of_lt (by omega) (by omega)
  rw [eb2] at hs2
  generalize hq:N / 8=q at *
  generalize htt:N % 8=t at *
  have hqI:(N:Int) / 8=(q:Int):=by omega
  have htI:(N:Int) % 8=(t:Int):=by omega
  have wq1:IntKind.i64.wrap (q:Int)=(q:Int):=wrap_i64_lt q (by omega)
  have wt1:IntKind.i64.wrap (t:Int)=(t:Int):=wrap_i64_lt t (by omega)
  have wb1:IntKind.u8.wrap (b:Int)=(b:Int):=by simp [IntKind.wrap,IntKind.bits,IntKind.signed];omega
  have ws1:IntKind.u8.wrap ((b:Int) * 2 ^ t)=(s:Int):=by rw [← hs2];simp [IntKind.wrap,IntKind.bits,IntKind.signed]
  have wb3:IntKind.u8.wrap (s:Int)=(s:Int):=by simp [IntKind.wrap,IntKind.bits,IntKind.signed];omega
  have hqm:(q:Int) < (m:Int):=by omega
  have hqm2:q < m:=by omega
  clear HVL HRL hm8 hRL hs2 hbl0
  try clear hml
  try (have HMM:=Lib.hid hm;clear hm)
  try clear h8
  try clear d8
  try clear hq htt
  go_wp2_with fail
  go_region_law (fail)
  all_goals
   go_simp
   go_wp2_with fail
   go_end0
   exact ⟨rfl,_,_,HAS.out,HOS.out,(by rw [HBV.out];exact HWN.out),(by first | exact HFS.out | (rw [HMM.out];exact HFS.out))⟩
end Go.Proofs.YteoolehdomjkkaaGreat

