/- Merged: Code2, Code5P, BitP. -/
import Derived.Laws.BitsAllLaws
import Derived.Test.YtfafijhmjnkjeaaMa11
import Derived.Test.YtfafijhmjnkjeaaMa01
/- huff: Codes. -/
namespace Go.Proofs.Ytfafijhmjnkjeaa
set_option linter.all false
open Go.RowKit

def cdE (ls : List Int) : Int := if krE ls = 0 then (if 32768 < krN ls then 4 else 0) else 1
def cdL (ls : List Int) : List (Nat × Int) := if cdE ls = 0 then codesL ls else []
theorem krE_cases (ls : List Int) : krE ls = 0 ∨ krE ls = 1 := by unfold krE; split <;> simp
theorem krE_zero {ls : List Int} (h : krE ls = 0) : ls.length ≤ 300 ∧ badL ls = false ∧ krV ls = krN ls := by
  unfold krE at h
  split at h
  · cases h
  · rename_i hc
    rw [not_or] at hc
    refine ⟨by omega, by simpa using hc.2, ?_⟩
    unfold krV
    rw [if_neg (by rw [not_or]; exact hc)]
/-- The codes of the first k places. -/
def codesTo (ls : List Int) (k : Nat) : List (Nat × Int) := (List.range ls.length).map fun i => if i < k then codeAt ls i else (0, 0)
theorem codesTo_zero (ls : List Int) : codesTo ls 0 = List.replicate ls.length (0, 0) := by
  unfold codesTo
  apply List.ext_getElem?
  intro i
  by_cases h : i < ls.length
  · simp [h]
  · simp [h]
theorem codesTo_end (ls : List Int) : codesTo ls ls.length = codesL ls := by
  unfold codesTo codesL
  apply List.map_congr_left
  intro i hi
  rw [List.mem_range] at hi
  rw [if_pos hi]
theorem codesTo_len (ls : List Int) (k : Nat) : (codesTo ls k).length = ls.length := by simp [codesTo]
theorem codesTo_step (ls : List Int) {k : Nat} (hk : k < ls.length) : codesTo ls (k + 1) = (codesTo ls k).set k (codeAt ls k) := by
  unfold codesTo
  apply List.ext_getElem?
  intro i
  rw [List.getElem?_set]
  by_cases hi : i < ls.length
  · rw [List.getElem?_map, List.getElem?_map, List.getElem?_range hi]
    by_cases e : k = i
    · subst e
      rw [if_pos rfl, if_pos (by simp; omega)]
      simp
    · rw [if_neg e]
      by_cases e2 : i < k
      · simp [e2, show i < k + 1 by omega]
      · simp [e2, show ¬ i < k + 1 by omega]
  · rw [List.getElem?_eq_none (by simp; omega)]
    by_cases e : k = i
    · omega
    · rw [if_neg e, List.getElem?_eq_none (by simp; omega)]
theorem codesTo_same (ls : List Int) {k : Nat} (hk : k < ls.length) (h : codeAt ls k = (0, 0)) : codesTo ls (k + 1) = codesTo ls k := by
  rw [codesTo_step ls hk, h]
  apply List.ext_getElem?
  intro i
  rw [List.getElem?_set]
  by_cases e : k = i
  · subst e
    rw [if_pos rfl, if_pos (by rw [codesTo_len]; exact hk)]
    simp [codesTo, hk]
  · rw [if_neg e]
/-- The next code of each length, behind k places. -/
def nxtL (ls : List Int) (k : Nat) : List Nat := (List.range 16).map fun n => fst ls n + (if n = 0 then 0 else cnt (ls.take k) n)
theorem nxtL_zero (ls : List Int) : nxtL ls 0 = nextL ls 16 := by
  unfold nxtL nextL
  apply List.map_congr_left
  intro n hn
  rw [List.mem_range] at hn
  rw [if_pos hn]
  simp [cnt]
theorem nxtL_get (ls : List Int) (k : Nat) {t : Nat} (ht : t < 16) (h0 : 0 < t) : (cU (nxtL ls k))[t]? = some (.int .u32 ((fst ls t + cnt (ls.take k) t : Nat) : Int)) := by
  simp [cU, nxtL, ht, show ¬ t = 0 by omega]
theorem nxtL_step {ls : List Int} {k t : Nat} (h : ls[k]? = some (t : Int)) (ht : t < 16) (h0 : 0 < t) : cU (nxtL ls (k + 1)) = (cU (nxtL ls k)).set t (.int .u32 ((fst ls t + cnt (ls.take k) t + 1 : Nat) : Int)) := by
  obtain ⟨hk, hx⟩ := List.getElem?_eq_some_iff.1 h
  unfold cU nxtL
  rw [List.take_succ_eq_append_getElem hk, hx]
  apply List.ext_getElem?
  intro j
  rw [List.getElem?_set]
  by_cases hj : j < 16
  · rw [List.getElem?_map, List.getElem?_map, List.getElem?_map, List.getElem?_map, List.getElem?_range hj]
    by_cases e : t = j
    · subst e
      rw [if_pos rfl, if_pos (by simp; omega)]
      simp [cnt, List.count_append, show ¬ t = 0 by omega]
      omega
    · rw [if_neg e]
      have : ¬ (t : Int) = (j : Int) := by omega
      simp [cnt, List.count_append, List.count_cons, this]
  · rw [List.getElem?_eq_none (by simp; omega)]
    by_cases e : t = j
    · omega
    · rw [if_neg e, List.getElem?_eq_none (by simp; omega)]
theorem nxtL_same {ls : List Int} {k : Nat} {x : Int} (h : ls[k]? = some x) (h0 : ¬ 0 < x) : nxtL ls (k + 1) = nxtL ls k := by
  obtain ⟨hk, hx⟩ := List.getElem?_eq_some_iff.1 h
  unfold nxtL
  rw [List.take_succ_eq_append_getElem hk, hx]
  apply List.map_congr_left
  intro n hn
  by_cases e : n = 0
  · rw [if_pos e, if_pos e]
  · rw [if_neg e, if_neg e]
    have : ¬ x = (n : Int) := by omega
    simp [cnt, List.count_append, List.count_cons, this]
theorem codeAt_pos {ls : List Int} {k t : Nat} (h : ls[k]? = some (t : Int)) (h0 : 0 < t) : codeAt ls k = (fst ls t + cnt (ls.take k) t, (t : Int)) := by
  unfold codeAt
  rw [List.getD_eq_getElem?_getD, h]
  simp
  omega
theorem codeAt_zero {ls : List Int} {k : Nat} {x : Int} (h : ls[k]? = some x) (h0 : ¬ 0 < x) : codeAt ls k = (0, 0) := by
  unfold codeAt
  rw [List.getD_eq_getElem?_getD, h]
  exact if_neg h0
theorem cnt_take (ls : List Int) (k t : Nat) : cnt (ls.take k) t ≤ cnt ls t := by
  unfold cnt
  exact List.Sublist.count_le _ (List.take_sublist _ _)

set_option maxRecDepth 100000 in
set_option maxHeartbeats 3200000 in
theorem codes_any (B n c : Nat) (A : Option Addr) (ls : List Int) (w : World) (h : RdI w B A n ls) (hB1 : B ≤ w.heap.size) (hn : n ≤ 1099511627776) :
    Calls Try.prog 80 #[.slice A n c] w fun e w' => ∃ A' n' c', e = .returned (.tuple #[.slice A' n' c', .int .i64 (cdE ls)]) ∧ n' = (cdL ls).length ∧ ownC w' w.heap.size (.slice A' n' c') (cdL ls) ∧ Below w.heap.size w w' := by
  have HK := Lib.hid (kraft_any B n c A ls w h hn)
  have hl := h.len
  rcases krE_cases ls with he | he
  · obtain ⟨g1, g2, g3⟩ := krE_zero he
    rw [he, g3] at HK
    by_cases hbig : 32768 < krN ls
    · have HE : Hid (cdE ls = 4 ∧ cdL ls = []) := (show _ ∧ _ by
        have : cdE ls = 4 := by unfold cdE; rw [if_pos he, if_pos hbig]
        refine ⟨this, ?_⟩
        unfold cdL
        rw [if_neg (by rw [this]; decide)])
      generalize krN ls = K at *
      clear h hl he g1 g2 g3
      go_enter Try.func80, Try.ntmps80
      go_wp2_with (go_at_call 93; (with_reducible refine HK.out.mono ?_); go_must (rintro e w1 ⟨rfl, rfl⟩))
      go_ret2
      exact ⟨none, 0, 0, ret_tup2 rfl (by rw [HE.out.1]; rfl), by rw [HE.out.2]; rfl, by rw [HE.out.2]; exact ownC.nil_ _ _, Below.refl _ _⟩
    · have HE : Hid (cdE ls = 0 ∧ cdL ls = codesL ls) := (show _ ∧ _ by
        have : cdE ls = 0 := by unfold cdE; rw [if_pos he, if_neg hbig]
        refine ⟨this, ?_⟩
        unfold cdL
        rw [if_pos this])
      have HBG := Lib.hid (begins_any B n c A ls w h hB1 (by omega) g2 (by omega))
      have H := Lib.hid h
      have HL := Lib.hid hl
      have hn3 : n ≤ 300 := by omega
      have HBAD := Lib.hid g2
      have HKN := Lib.hid (show krN ls ≤ 32768 by omega)
      have HKQ : Hid (krN ls = krN ls) := (show _ = _ from rfl)
      generalize krN ls = K at HK hbig
      have hbig' : decide ((32768 : Int) < (K : Int)) = false := decide_eq_false (by omega)
      clear h hl he g1 g2 g3 HKQ
      go_enter Try.func80, Try.ntmps80
      go_wp2_with (first
        | (go_at_call 93; (with_reducible refine HK.out.mono ?_); go_must (rintro e w1 ⟨rfl, rfl⟩))
        | (go_at_call 99; (with_reducible refine HBG.out.mono ?_); go_must (rintro e w2 ⟨rfl, hb2⟩; have HAN := Lib.hid ((Arr.new w2 (cU (List.replicate 16 0)) 156).alloc (.cells (cI (List.replicate 16 0)).toArray 157)); have HAC := Lib.hid (Arr.new1 w2 (.cells (cU (List.replicate 16 0)).toArray 156) (cI (List.replicate 16 0)) 157); have HB2 := Lib.hid ((hb2.alloc hb2.size (.cells (cU (List.replicate 16 0)).toArray 156)).alloc (by have := hb2.size; simp; omega) (.cells (cI (List.replicate 16 0)).toArray 157)); have hsz2 := hb2.size; clear hb2))
        | (refine wpList_storeRow rfl 156 (.tmp 6) (.tmp 26) rfl w2.heap.size (cU (List.replicate 16 0)) (cU (nextL ls 16)) rfl rfl HAN.out (Try.size_u16.trans (by simp [cU, nextL])) (by simp [cU, nextL]) (cU_one _) ?_)
        | (refine wpList_storeRow rfl 157 (.tmp 7) (.tmp 27) rfl (w2.heap.size + 1) (cI (List.replicate 16 0)) (cI (cntZ ls)) rfl rfl (HAC.out.farRow (by omega) _) (Try.size_i16.trans (by simp [cI, cntZ, cntL])) (by simp [cI, cntZ, cntL]) (cI_one _) ?_)
        | (at_make; refine wpList_makeC rfl _ _ rfl n _ rfl rfl rfl (by omega) ?_; intro w3 hown hb3 hsz3; have HN := Lib.hid (((HAN.out.row (cU (nextL ls 16))).farRow (g' := w2.heap.size + 1) (by omega) (cI (cntZ ls)).toArray).later hb3); have HW := below_setRow (below_setRow HB2.out hsz2 (cU (nextL ls 16)).toArray) (g := w2.heap.size + 1) (by omega) (cI (cntZ ls)).toArray; have HB3 := Lib.hid (HW.trans (hb3.mono HW.size)); simp only [setRow_size, World.size_alloc] at hown hsz3 ⊢; have HO := Lib.hid hown; clear hown hb3 HW))
      go_loopw [33] (fun vi wr => ∃ k : Nat, k ≤ n ∧ vi = .int .i64 k ∧ Hid (Arr wr w2.heap.size (cU (nxtL ls k))) ∧ Hid (ownC wr (w2.heap.size + 1 + 1) (.slice (some ⟨w2.heap.size + 1 + 1, 0, none⟩) n n) (codesTo ls k)) ∧ Hid (Below w.heap.size w wr))
        (fun vi _ => n - (intOf vi).toNat)
      case atStart => exact ⟨0, Nat.zero_le _, rfl, (show Arr _ _ _ by rw [nxtL_zero]; exact HN.out), (show ownC _ _ _ _ by rw [codesTo_zero, HL.out]; exact HO.out), HB3⟩
      case round =>
        clear HN HO HB3
        obtain ⟨k, hk, rfl, HN, HO, HB⟩ := hrel
        by_cases hlt : k < n
        · obtain ⟨b, o, x, rfl, hb, HX, e1⟩ := (H.out.blw (HB.out.mono hB1)).one hlt
          obtain ⟨x0, x1⟩ := good_at HBAD.out HX.out
          obtain ⟨t, rfl⟩ := Int.eq_ofNat_of_zero_le x0
          have hkl : k < ls.length := by rw [HL.out]; exact hlt
          by_cases h0 : 0 < t
          · have ht : t < 16 := by omega
            have c5 := HN.out.cell (nxtL_get ls k ht h0)
            have f5 := HN.out.frozen t
            have hcv := codeAt_pos HX.out h0
            have hbd := fst_small ls HBAD.out HKN.out t (by omega)
            have hct := cnt_take ls k t
            have hcz : cz ls t = cnt ls t := by
              cases t with
              | zero => omega
              | succ t => rfl
            have HST := Lib.hid (codesTo_step ls hkl)
            rw [hcv] at HST
            have HNX := Lib.hid (nxtL_step HX.out ht h0)
            have hbv : fst ls t + cnt (ls.take k) t ≤ 32768 := by omega
            obtain ⟨o0, o1⟩ := HO.out.cell (by rw [codesTo_len, HL.out]) (k := k) (by rw [codesTo_len]; exact hkl)
            have of := HO.out.frozen (by rw [codesTo_len, HL.out])
            have of0 := of (k * 2)
            have of1 := of (k * 2 + 1)
            generalize fst ls t + cnt (ls.take k) t = v at *
            generalize (codesTo ls k)[k]'(by rw [codesTo_len]; exact hkl) = oc at *
            clear hcv hbd hct hcz of
            have HAR := Lib.hid (show Arr (((wr.setCell ⟨w2.heap.size + 1 + 1, k * 2, none⟩ (.int .u32 (v : Int))).setCell ⟨w2.heap.size + 1 + 1, k * 2 + 1, none⟩ (.int .i64 (t : Int))).setCell ⟨w2.heap.size, t, none⟩ (.int .u32 ((v : Int) + 1))) w2.heap.size (cU (nxtL ls (k + 1))) from by
              rw [HNX.out, show ((v + 1 : Nat) : Int) = (v : Int) + 1 by omega]
              exact ((HN.out.far (p := ⟨w2.heap.size + 1 + 1, k * 2, none⟩) (by show w2.heap.size + 1 + 1 ≠ w2.heap.size; omega) _).far (p := ⟨w2.heap.size + 1 + 1, k * 2 + 1, none⟩) (by show w2.heap.size + 1 + 1 ≠ w2.heap.size; omega) _).set t _)
            have HOR := Lib.hid (show ownC (((wr.setCell ⟨w2.heap.size + 1 + 1, k * 2, none⟩ (.int .u32 (v : Int))).setCell ⟨w2.heap.size + 1 + 1, k * 2 + 1, none⟩ (.int .i64 (t : Int))).setCell ⟨w2.heap.size, t, none⟩ (.int .u32 ((v : Int) + 1))) (w2.heap.size + 1 + 1) (.slice (some ⟨w2.heap.size + 1 + 1, 0, none⟩) n n) (codesTo ls (k + 1)) from by
              rw [HST.out]
              exact (HO.out.store (by rw [codesTo_len, HL.out]) k (v, (t : Int)) (by rw [codesTo_len]; exact hkl)).far (by intro e; injection e with e; have e2 : w2.heap.size + 1 + 1 = w2.heap.size := e; omega) _ _)
            have HBR := Lib.hid (((HB.out.setCell (p := ⟨w2.heap.size + 1 + 1, k * 2, none⟩) (by show w.heap.size ≤ w2.heap.size + 1 + 1; omega) (.int .u32 (v : Int))).setCell (p := ⟨w2.heap.size + 1 + 1, k * 2 + 1, none⟩) (by show w.heap.size ≤ w2.heap.size + 1 + 1; omega) (.int .i64 (t : Int))).setCell (p := ⟨w2.heap.size, t, none⟩) (by show w.heap.size ≤ w2.heap.size; omega) (.int .u32 ((v : Int) + 1)))
            clear HN HO HB
            go_wp2
            go_roundw
            case rel => exact ⟨k + 1, by omega, by go_num, HAR, HOR, HBR⟩
            case measure => simp [intOf]; omega
          · have hx0 : ¬ (0 : Int) < (t : Int) := by omega
            have HST := Lib.hid (codesTo_same ls hkl (codeAt_zero HX.out hx0))
            have HNX := Lib.hid (nxtL_same HX.out hx0)
            go_wp2
            go_roundw
            case rel => exact ⟨k + 1, by omega, by go_num, (show Arr _ _ _ by rw [HNX.out]; exact HN.out), (show ownC _ _ _ _ by rw [HST.out]; exact HO.out), HB⟩
            case measure => simp [intOf]; omega
        · obtain rfl : k = n := by omega
          go_wp2
          go_ret2
          refine ⟨some ⟨w2.heap.size + 1 + 1, 0, none⟩, k, k, ret_tup2 rfl (by rw [HE.out.1]; rfl), ?_, ?_, HB.out⟩
          · rw [HE.out.2, ← codesTo_end, codesTo_len, HL.out]
          · rw [HE.out.2, ← codesTo_end, HL.out]
            exact HO.out.mono (by omega)
  · have HE : Hid (cdE ls = 1 ∧ cdL ls = []) := (show _ ∧ _ by
      have : cdE ls = 1 := by unfold cdE; rw [if_neg (by rw [he]; decide)]
      refine ⟨this, ?_⟩
      unfold cdL
      rw [if_neg (by rw [this]; decide)])
    rw [he] at HK
    generalize krV ls = K at HK
    clear h hl he
    go_enter Try.func80, Try.ntmps80
    go_wp2_with (go_at_call 93; (with_reducible refine HK.out.mono ?_); go_must (rintro e w1 ⟨rfl, rfl⟩))
    go_ret2
    exact ⟨none, 0, 0, ret_tup2 rfl (by rw [HE.out.1]; rfl), by rw [HE.out.2]; rfl, by rw [HE.out.2]; exact ownC.nil_ _ _, Below.refl _ _⟩
end Go.Proofs.Ytfafijhmjnkjeaa

/- huff: the document's codes, plainly: length by length. -/
namespace Go.Proofs.Ytfafijhmjnkjeaa
set_option linter.all false

/-- The codes of all lengths below l, and of length l at the first k places. -/
def cod5 (ls : List Int) (l k : Nat) : List (Nat × Int) := (List.range ls.length).map fun i => if ls.getD i 0 < (l : Int) ∨ (ls.getD i 0 = (l : Int) ∧ i < k) then codeAt ls i else (0, 0)
theorem cod5_len (ls : List Int) (l k : Nat) : (cod5 ls l k).length = ls.length := by simp [cod5]
theorem cod5_start (ls : List Int) : cod5 ls 1 0 = List.replicate ls.length (0, 0) := by
  unfold cod5
  apply List.ext_getElem?
  intro i
  by_cases h : i < ls.length
  · rw [List.getElem?_map, List.getElem?_range h, List.getElem?_replicate, if_pos h]
    simp only [Option.map_some]
    congr 1
    split
    · rename_i hc
      unfold codeAt
      rw [if_neg (by omega)]
    · rfl
  · rw [List.getElem?_eq_none (by simp; omega), List.getElem?_eq_none (by simp; omega)]
theorem cod5_next (ls : List Int) (l : Nat) : cod5 ls l ls.length = cod5 ls (l + 1) 0 := by
  unfold cod5
  apply List.map_congr_left
  intro i hi
  rw [List.mem_range] at hi
  generalize ls.getD i 0 = x
  by_cases h : x < (l : Int) ∨ (x = (l : Int) ∧ i < ls.length)
  · rw [if_pos h, if_pos (by left; omega)]
  · rw [if_neg h, if_neg (by omega)]
theorem cod5_end (ls : List Int) (hb : badL ls = false) : cod5 ls 16 0 = codesL ls := by
  unfold cod5 codesL
  apply List.map_congr_left
  intro i hi
  rw [List.mem_range] at hi
  have h : ls[i]? = some (ls.getD i 0) := by rw [List.getD_eq_getElem?_getD, List.getElem?_eq_getElem hi]; rfl
  have := good_at hb h
  rw [if_pos (by left; omega)]
theorem cod5_same {ls : List Int} {l k : Nat} {x : Int} (h : ls[k]? = some x) (hx : ¬ x = (l : Int)) : cod5 ls l (k + 1) = cod5 ls l k := by
  unfold cod5
  apply List.map_congr_left
  intro i hi
  have e : k = i → ls.getD i 0 = x := by rintro rfl; rw [List.getD_eq_getElem?_getD, h]; rfl
  by_cases hik : k = i
  · have := e hik
    rw [this]
    by_cases h1 : x < (l : Int)
    · rw [if_pos (.inl h1), if_pos (.inl h1)]
    · rw [if_neg (by omega), if_neg (by omega)]
  · generalize ls.getD i 0 = y
    by_cases h1 : y < (l : Int) ∨ (y = (l : Int) ∧ i < k)
    · rw [if_pos h1, if_pos (by omega)]
    · rw [if_neg h1, if_neg (by omega)]
theorem cod5_set {ls : List Int} {l k : Nat} (h : ls[k]? = some (l : Int)) (h0 : 0 < l) : cod5 ls l (k + 1) = (cod5 ls l k).set k (fst ls l + cnt (ls.take k) l, (l : Int)) := by
  rw [← codeAt_pos h h0]
  obtain ⟨hk, hx⟩ := List.getElem?_eq_some_iff.1 h
  have e : ls.getD k 0 = l := by rw [List.getD_eq_getElem?_getD, h]; rfl
  unfold cod5
  apply List.ext_getElem?
  intro i
  rw [List.getElem?_set]
  by_cases hi : i < ls.length
  · rw [List.getElem?_map, List.getElem?_map, List.getElem?_range hi]
    by_cases ek : k = i
    · subst ek
      rw [if_pos rfl, if_pos (by simp; omega)]
      simp only [Option.map_some]
      rw [if_pos (by right; exact ⟨e, by omega⟩)]
    · rw [if_neg ek]
      simp only [Option.map_some]
      congr 1
      generalize ls.getD i 0 = y
      by_cases h1 : y < (l : Int) ∨ (y = (l : Int) ∧ i < k)
      · rw [if_pos h1, if_pos (by omega)]
      · rw [if_neg h1, if_neg (by omega)]
  · rw [List.getElem?_eq_none (by simp; omega)]
    by_cases ek : k = i
    · omega
    · rw [if_neg ek, List.getElem?_eq_none (by simp; omega)]
theorem cnt_take_step {ls : List Int} {k : Nat} {x : Int} (h : ls[k]? = some x) (l : Nat) : cnt (ls.take (k + 1)) l = cnt (ls.take k) l + if x = (l : Int) then 1 else 0 := by
  obtain ⟨hk, hx⟩ := List.getElem?_eq_some_iff.1 h
  rw [List.take_succ_eq_append_getElem hk, hx]
  unfold cnt
  rw [List.count_append, List.count_singleton]
  by_cases e : x = (l : Int)
  · rw [if_pos (by simp [e]), if_pos e]
  · rw [if_neg (by simp [e]), if_neg e]
theorem cz_cnt (ls : List Int) {l : Nat} (h : 0 < l) : cz ls l = cnt ls l := by
  cases l with
  | zero => omega
  | succ l => rfl
end Go.Proofs.Ytfafijhmjnkjeaa

/- Bits of bytes, plainly. -/
namespace Go.Proofs.Ytfafijhmjnkjeaa
set_option linter.all false

/-- The p-th bit of bytes, the least of a byte first. -/
def bitAt (bs : List UInt8) (p : Nat) : Nat := (bs.getD (p / 8) 0).toNat / 2 ^ (p % 8) % 2
theorem bitAt_lt (bs : List UInt8) (p : Nat) : bitAt bs p < 2 := Nat.mod_lt _ (by decide)
/-- k bits as a number, the first the least. -/
def getV (bs : List UInt8) (P : Nat) : Nat → Nat
  | 0 => 0
  | k + 1 => getV bs P k + bitAt bs (P + k) * 2 ^ k
theorem getV_lt (bs : List UInt8) (P k : Nat) : getV bs P k < 2 ^ k := by
  induction k with
  | zero => exact Nat.one_pos
  | succ k ih =>
    have := bitAt_lt bs (P + k)
    rw [getV, Nat.pow_succ]
    have h2 : bitAt bs (P + k) * 2 ^ k ≤ 1 * 2 ^ k := Nat.mul_le_mul_right _ (by omega)
    omega
theorem or_bit {x k b : Nat} (hx : x < 2 ^ k) : x ||| (b * 2 ^ k) = x + b * 2 ^ k := by
  have := Nat.two_pow_add_eq_or_of_lt hx b
  rw [Nat.mul_comm, Nat.or_comm, ← this, Nat.add_comm]
theorem getV_one (bs : List UInt8) (P : Nat) : getV bs P 1 = bitAt bs P := by simp [getV]
theorem and_bit (x : UInt8) (t : Nat) : bits .and .u8 ((x.toNat : Int) / 2 ^ t) 1 = ((x.toNat / 2 ^ t % 2 : Nat) : Int) := by
  have e : ((x.toNat : Int) / 2 ^ t) = ((x.toNat / 2 ^ t : Nat) : Int) := by rw [show ((2 : Int) ^ t) = ((2 ^ t : Nat) : Int) by push_cast; rfl, ← Int.natCast_ediv]
  have hl : x.toNat / 2 ^ t < 256 := Nat.lt_of_le_of_lt (Nat.div_le_self _ _) x.toNat_lt
  rw [e, show (1 : Int) = ((1 : Nat) : Int) from rfl, u8_and_nat _ _ hl (by decide), Nat.and_one_is_mod]
theorem get_step (V k t : Nat) (x : UInt8) (hk : k < 24) (hV : V < 2 ^ k) :
    bits .or .u32 (V : Int) (bits .and .u8 ((x.toNat : Int) / 2 ^ t) 1 % 4294967296 * 2 ^ k % 4294967296) = ((V + x.toNat / 2 ^ t % 2 * 2 ^ k : Nat) : Int) := by
  rw [and_bit]
  have hb : x.toNat / 2 ^ t % 2 < 2 := Nat.mod_lt _ (by decide)
  generalize x.toNat / 2 ^ t % 2 = b at *
  have hp : 2 ^ k ≤ 2 ^ 23 := Nat.pow_le_pow_right (by decide) (by omega)
  have hp0 : 0 < 2 ^ k := Nat.two_pow_pos k
  have hm : b * 2 ^ k ≤ 1 * 2 ^ k := Nat.mul_le_mul_right _ (by omega)
  have e : ((b : Int) % 4294967296 * 2 ^ k % 4294967296) = ((b * 2 ^ k : Nat) : Int) := by
    have e1 : (b : Int) % 4294967296 = b := Int.emod_eq_of_lt (by omega) (by omega)
    have e2 : (b : Int) * 2 ^ k = ((b * 2 ^ k : Nat) : Int) := by push_cast; rfl
    rw [e1, e2]
    generalize b * 2 ^ k = u at *
    exact Int.emod_eq_of_lt (by omega) (by omega)
  rw [e, u32_or_nat _ _ (by omega) (by omega), or_bit hV]
end Go.Proofs.Ytfafijhmjnkjeaa
