/- Merged: Code1, RowC, RowD, Code2. -/
import Derived.Test.YteoolehdomjkkaaMb08
import Derived.Test.YteoolehdomjkkaaMb01
/- huff: begins. -/
namespace Go.Proofs.Yteoolehdomjkkaa
set_option linter.all false
open Go.RowKit

def cU (l : List Nat) : List Value := l.map fun (x : Nat) => Value.int .u32 (x : Int)
def cntL (ls : List Int) : List Int := (List.range 16).map fun n => (cnt ls n : Int)
def cntZ (ls : List Int) : List Int := (cntL ls).set 0 0
def nextL (ls : List Int) (j : Nat) : List Nat := (List.range 16).map fun n => if n < j then fst ls n else 0
theorem cntL_step {ls : List Int} {k t : Nat} (h : ls[k]? = some (t : Int)) (ht : t < 16) : cntL (ls.take (k + 1)) = (cntL (ls.take k)).set t ((cnt (ls.take k) t : Int) + 1) := by
  obtain ⟨hk, hx⟩ := List.getElem?_eq_some_iff.1 h
  rw [List.take_succ_eq_append_getElem hk, hx]
  unfold cntL cnt
  apply List.ext_getElem?
  intro j
  rw [List.getElem?_set]
  by_cases hj : j < 16
  · rw [List.getElem?_map, List.getElem?_map, List.getElem?_range hj]
    by_cases e : t = j
    · subst e
      rw [if_pos rfl, if_pos (by simp; omega)]
      simp [List.count_append]
    · rw [if_neg e]
      have : ¬ (t : Int) = (j : Int) := by omega
      simp [List.count_append, List.count_cons, this]
  · rw [List.getElem?_eq_none (by simp; omega)]
    by_cases e : t = j
    · omega
    · rw [if_neg e, List.getElem?_eq_none (by simp; omega)]
theorem cntL_get (ls : List Int) {t : Nat} (ht : t < 16) : (cI (cntL ls))[t]? = some (.int .i64 (cnt ls t : Int)) := by
  simp [cI, cntL, ht]
theorem cntZ_get (ls : List Int) {t : Nat} (ht : t < 16) : (cI (cntZ ls))[t]? = some (.int .i64 (cz ls t : Int)) := by
  unfold cntZ cntL cI
  rw [List.getElem?_map, List.getElem?_set]
  cases t with
  | zero => simp [cz]
  | succ n =>
    rw [if_neg (by omega), List.getElem?_map, List.getElem?_range ht]
    rfl
theorem nextL_get (ls : List Int) (j : Nat) {t : Nat} (ht : t < 16) : (cU (nextL ls j))[t]? = some (.int .u32 ((if t < j then fst ls t else 0 : Nat) : Int)) := by
  simp [cU, nextL, ht]
theorem nextL_step (ls : List Int) {j : Nat} (hj : j < 16) : cU (nextL ls (j + 1)) = (cU (nextL ls j)).set j (.int .u32 (fst ls j : Int)) := by
  unfold cU nextL
  apply List.ext_getElem?
  intro i
  rw [List.getElem?_set]
  by_cases hi : i < 16
  · rw [List.getElem?_map, List.getElem?_map, List.getElem?_map, List.getElem?_map, List.getElem?_range hi]
    by_cases e : j = i
    · subst e
      rw [if_pos rfl, if_pos (by simp; omega)]
      simp
    · rw [if_neg e]
      by_cases e2 : i < j
      · simp [e2, show i < j + 1 by omega]
      · simp [e2, show ¬ i < j + 1 by omega]
  · rw [List.getElem?_eq_none (by simp; omega)]
    by_cases e : j = i
    · omega
    · rw [if_neg e, List.getElem?_eq_none (by simp; omega)]
theorem cI_set (l : List Int) (t : Nat) (x : Int) : (cI l).set t (.int .i64 x) = cI (l.set t x) := by simp [cI, List.map_set]
theorem cnt_le (ls : List Int) (t : Nat) : cnt ls t ≤ ls.length := List.count_le_length
theorem Arr.new1 (w : World) (o : Obj) (cs : List Value) (t : TypeId) : Arr ((w.alloc o).alloc (.cells cs.toArray t)) (w.heap.size + 1) cs := by
  have := Arr.new (w.alloc o) cs t
  rw [World.size_alloc] at this
  exact this
theorem Arr.new2 (w : World) (o o' : Obj) (cs : List Value) (t : TypeId) : Arr (((w.alloc o).alloc o').alloc (.cells cs.toArray t)) (w.heap.size + 1 + 1) cs := by
  have := Arr.new1 (w.alloc o) o' cs t
  rw [World.size_alloc] at this
  exact this
theorem cU_one (l : List Nat) : ∀ v ∈ cU l, v.oneCell' = true := by
  intro u hu
  simp only [cU, List.mem_map] at hu
  obtain ⟨b, _, rfl⟩ := hu
  rfl
theorem Try.size_u16 : (Try.prog.info? 156).map (·.size) = some 16 := by kernel_rfl
theorem Try.size_i16 : (Try.prog.info? 157).map (·.size) = some 16 := by kernel_rfl
theorem good_at {ls : List Int} (h : badL ls = false) {k : Nat} {x : Int} (hx : ls[k]? = some x) : 0 ≤ x ∧ x ≤ 15 := by
  unfold badL at h
  rw [List.any_eq_false] at h
  have := h x (List.mem_of_getElem? hx)
  simp only [Bool.or_eq_true, decide_eq_true_eq] at this
  omega

set_option maxRecDepth 100000 in
set_option maxHeartbeats 3200000 in
theorem begins_any (B n c : Nat) (A : Option Addr) (ls : List Int) (w : World) (h : RdI w B A n ls) (hB1 : B ≤ w.heap.size) (hn : n ≤ 300) (hb : badL ls = false) (hk : krN ls ≤ 32768) :
    Calls Try.prog 99 #[.slice A n c] w fun e w' => e = .returned (.tuple #[.agg (cU (nextL ls 16)).toArray, .agg (cI (cntZ ls)).toArray]) ∧ Below w.heap.size w w' := by
  have H := Lib.hid h
  have HL := Lib.hid h.len
  have HBAD := Lib.hid hb
  have HK := Lib.hid hk
  clear h hb hk
  go_enter Try.func99, Try.ntmps99
  go_wp2
  have HA2 := Lib.hid (((Arr.new w (cU (List.replicate 16 0)) 156).alloc (.cells (cI (List.replicate 16 0)).toArray 157)).alloc (.cells (cI (List.replicate 16 0)).toArray 157))
  have HA3 := Lib.hid ((Arr.new1 w (.cells (cU (List.replicate 16 0)).toArray 156) (cI (List.replicate 16 0)) 157).alloc (.cells (cI (List.replicate 16 0)).toArray 157))
  have HA4 := Lib.hid (Arr.new2 w (.cells (cU (List.replicate 16 0)).toArray 156) (.cells (cI (List.replicate 16 0)).toArray 157) (cI (List.replicate 16 0)) 157)
  have HB0 := Lib.hid ((((Below.refl w.heap.size w).alloc (Nat.le_refl _) (.cells (cU (List.replicate 16 0)).toArray 156)).alloc (by simp) (.cells (cI (List.replicate 16 0)).toArray 157)).alloc (by simp; omega) (.cells (cI (List.replicate 16 0)).toArray 157))
  go_loopw [12] (fun i wr => ∃ k : Nat, k ≤ n ∧ i = .int .i64 k ∧ Hid (Arr wr w.heap.size (cU (List.replicate 16 0))) ∧ Hid (Arr wr (w.heap.size + 1) (cI (List.replicate 16 0))) ∧ Hid (Arr wr (w.heap.size + 1 + 1) (cI (cntL (ls.take k)))) ∧ wr.heap.size = w.heap.size + 1 + 1 + 1 ∧ Hid (Below w.heap.size w wr))
    (fun i _ => n - (intOf i).toNat)
  case atStart => exact ⟨0, Nat.zero_le _, rfl, HA2, HA3, HA4, by simp, HB0⟩
  case round =>
    clear HA2 HA3 HA4 HB0
    obtain ⟨k, hk, rfl, HA2, HA3, HA4, hsz, HB⟩ := hrel
    by_cases hlt : k < n
    · obtain ⟨b, o, x, rfl, hb, HX, e1⟩ := (H.out.blw (HB.out.mono hB1)).one hlt
      obtain ⟨x0, x1⟩ := good_at HBAD.out HX.out
      obtain ⟨t, rfl⟩ := Int.eq_ofNat_of_zero_le x0
      have ht : t < 16 := by omega
      have c4 := HA4.out.cell (cntL_get (ls.take k) ht)
      have f4 := HA4.out.frozen t
      have hc : cnt (ls.take k) t ≤ 300 := Nat.le_trans (cnt_le _ _) (by simp; omega)
      have HST := Lib.hid (cntL_step HX.out ht)
      have HS := Lib.hid (HA4.out.set t (.int .i64 ((cnt (ls.take k) t : Int) + 1)))
      generalize cnt (ls.take k) t = q at *
      have HB2 := Lib.hid (HB.out.setCell (p := ⟨w.heap.size + 1 + 1, t, none⟩) (by show w.heap.size ≤ w.heap.size + 1 + 1; omega) (.int .i64 ((q : Int) + 1)))
      have HA22 := Lib.hid (HA2.out.far (p := ⟨w.heap.size + 1 + 1, t, none⟩) (by show w.heap.size + 1 + 1 ≠ w.heap.size; omega) (.int .i64 ((q : Int) + 1)))
      have HA32 := Lib.hid (HA3.out.far (p := ⟨w.heap.size + 1 + 1, t, none⟩) (by show w.heap.size + 1 + 1 ≠ w.heap.size + 1; omega) (.int .i64 ((q : Int) + 1)))
      have hx16 : (t : Int) < 16 := by omega
      go_wp2
      go_roundw
      case rel => exact ⟨k + 1, by omega, by go_num, HA22, HA32, (show Arr _ _ _ by rw [HST.out, ← cI_set]; exact HS.out), by simp; exact hsz, HB2⟩
      case measure => simp [intOf]; omega
    · obtain rfl : k = n := by omega
      have HE : Hid (ls.take k = ls) := (show _ = _ from List.take_of_length_le (by rw [HL.out]; exact Nat.le_refl _))
      have HC := Lib.hid (HA4.out.set 0 (.int .i64 0))
      have c4 := HA4.out.cell (cntL_get (ls.take k) (t := 0) (by omega))
      have f4 := HA4.out.frozen 0
      have HC2 := Lib.hid (show Arr ((wr.setCell ⟨w.heap.size + 1 + 1, 0, none⟩ (.int .i64 0)).alloc (.cells (cU (List.replicate 16 0)).toArray 156)) (w.heap.size + 1 + 1) (cI (cntZ ls)) from by
        have := HC.out.alloc (.cells (cU (List.replicate 16 0)).toArray 156)
        rw [HE.out, cI_set] at this
        exact this)
      have HN2 := Lib.hid (show Arr ((wr.setCell ⟨w.heap.size + 1 + 1, 0, none⟩ (.int .i64 0)).alloc (.cells (cU (List.replicate 16 0)).toArray 156)) (w.heap.size + 1 + 1 + 1) (cU (nextL ls 1)) from by
        have := Arr.new (wr.setCell ⟨w.heap.size + 1 + 1, 0, none⟩ (.int .i64 0)) (cU (List.replicate 16 0)) 156
        rw [show (wr.setCell ⟨w.heap.size + 1 + 1, 0, none⟩ (.int .i64 0)).heap.size = w.heap.size + 1 + 1 + 1 by simp; exact hsz] at this
        have e : cU (nextL ls 1) = cU (List.replicate 16 0) := rfl
        rw [e]
        exact this)
      have HA22 := Lib.hid ((HA2.out.far (p := ⟨w.heap.size + 1 + 1, 0, none⟩) (by show w.heap.size + 1 + 1 ≠ w.heap.size; omega) (.int .i64 0)).alloc (.cells (cU (List.replicate 16 0)).toArray 156))
      have HA32 := Lib.hid ((HA3.out.far (p := ⟨w.heap.size + 1 + 1, 0, none⟩) (by show w.heap.size + 1 + 1 ≠ w.heap.size + 1; omega) (.int .i64 0)).alloc (.cells (cU (List.replicate 16 0)).toArray 156))
      have HB2 := Lib.hid ((HB.out.setCell (p := ⟨w.heap.size + 1 + 1, 0, none⟩) (by show w.heap.size ≤ w.heap.size + 1 + 1; omega) (.int .i64 0)).alloc (by simp; omega) (.cells (cU (List.replicate 16 0)).toArray 156))
      clear HA2 HA3 HA4 HB HC
      go_wp2
      go_loopw [9, 8] (fun vi vc wr => ∃ q : Nat, q ≤ 15 ∧ vi = .int .i64 ((q : Int) + 1) ∧ vc = .int .u32 (fst ls q : Nat) ∧ Hid (Arr wr w.heap.size (cU (List.replicate 16 0))) ∧ Hid (Arr wr (w.heap.size + 1) (cI (List.replicate 16 0))) ∧ Hid (Arr wr (w.heap.size + 1 + 1) (cI (cntZ ls))) ∧ Hid (Arr wr (w.heap.size + 1 + 1 + 1) (cU (nextL ls (q + 1)))) ∧ Hid (Below w.heap.size w wr))
        (fun vi _ _ => 17 - (intOf vi).toNat)
      case atStart => exact ⟨0, by omega, rfl, rfl, HA22, HA32, HC2, HN2, HB2⟩
      case round =>
        clear HA22 HA32 HC2 HN2 HB2
        obtain ⟨q, hq, rfl, rfl, HA2, HA3, HC, HN, HB⟩ := hrel
        by_cases hlt : q < 15
        · have c5 := HC.out.cell (cntZ_get ls (t := q) (by omega))
          have c7 := HN.out.cell (nextL_get ls (q + 1) (t := q + 1) (by omega))
          rw [if_neg (by omega)] at c7
          have f7 := HN.out.frozen (q + 1)
          have hfs := fst_small ls HBAD.out HK.out q (by omega)
          have HFS : Hid (fst ls (q + 1) = 2 * (fst ls q + cz ls q)) := (show _ = _ from rfl)
          have HN2 := Lib.hid (show Arr (wr.setCell ⟨w.heap.size + 1 + 1 + 1, q + 1, none⟩ (.int .u32 (((fst ls q : Int) + (cz ls q : Int)) * 2))) (w.heap.size + 1 + 1 + 1) (cU (nextL ls (q + 1 + 1))) from by
            rw [nextL_step ls (j := q + 1) (by omega)]
            have e : ((fst ls (q + 1) : Nat) : Int) = ((fst ls q : Int) + (cz ls q : Int)) * 2 := by rw [fst]; omega
            rw [e]
            exact HN.out.set (q + 1) _)
          generalize fst ls q = f at *
          generalize cz ls q = z at *
          have g1 : ((q : Int) + 1).toNat = q + 1 := by omega
          have HA22 := Lib.hid (fun v => HA2.out.far (p := ⟨w.heap.size + 1 + 1 + 1, q + 1, none⟩) (by show w.heap.size + 1 + 1 + 1 ≠ w.heap.size; omega) v)
          have HA32 := Lib.hid (fun v => HA3.out.far (p := ⟨w.heap.size + 1 + 1 + 1, q + 1, none⟩) (by show w.heap.size + 1 + 1 + 1 ≠ w.heap.size + 1; omega) v)
          have HC2 := Lib.hid (fun v => HC.out.far (p := ⟨w.heap.size + 1 + 1 + 1, q + 1, none⟩) (by show w.heap.size + 1 + 1 + 1 ≠ w.heap.size + 1 + 1; omega) v)
          have HB2 := Lib.hid (fun v => HB.out.setCell (p := ⟨w.heap.size + 1 + 1 + 1, q + 1, none⟩) (by show w.heap.size ≤ w.heap.size + 1 + 1 + 1; omega) v)
          clear HA2 HA3 HC HN HB
          go_wp2
          go_roundw
          case rel => exact ⟨q + 1, by omega, by go_num, by rw [HFS.out]; first | go_num | (congr 1; omega), HA22.out _, HA32.out _, HC2.out _, HN2, HB2.out _⟩
          case measure => simp [intOf]; omega
        · obtain rfl : q = 15 := by omega
          clear hlt
          go_wp2_with fail
          refine wp_region_any (by kernel_rfl) ?_
          change wpAny _ _ _ _ _ _ _ (World.drew _)
          refine wpAny_ready (rs := [0, 1]) (by kernel_rfl) (by simp) ?_
          refine AllReady.cons rfl (fun K hK => ?_) (AllReady.cons rfl (fun K hK => ?_) AllReady.nil)
          · refine step_load_row rfl 156 (.tmp 7) rfl (w.heap.size + 1 + 1 + 1) (cU (nextL ls 16)) rfl HN.out _ Try.underlying156 rfl (Try.size_u16.trans (by simp [cU, nextL])) ?_
            go_simp
            refine hK _ _ ?_
            clear hK K
            refine wpAny_ready (rs := [1, 2]) (by kernel_rfl) (by simp) ?_
            refine AllReady.cons rfl (fun K hK => ?_) (AllReady.cons rfl (fun K hK => ?_) AllReady.nil)
            · refine step_load_row rfl 157 (.tmp 4) rfl (w.heap.size + 1 + 1) (cI (cntZ ls)) rfl HC.out _ Try.underlying157 rfl (Try.size_i16.trans (by simp [cI, cntZ, cntL])) ?_
              go_simp
              refine hK _ _ ?_
              clear hK K
              refine wpAny_ready (rs := [2]) (by kernel_rfl) (by simp) ?_
              refine AllReady.cons rfl (fun K hK => ?_) AllReady.nil
              · refine step_store_row rfl 156 (.tmp 2) (.tmp 38) rfl w.heap.size (cU (List.replicate 16 0)) (cU (nextL ls 16)) rfl rfl HA2.out (Try.size_u16.trans (by simp [cU, nextL])) (by simp [cU, nextL]) (cU_one _) ?_
                go_simp
                refine hK _ _ ?_
                clear hK K
                refine wpAny_ready (rs := [3]) (by kernel_rfl) (by simp) ?_
                refine AllReady.cons rfl (fun K hK => ?_) AllReady.nil
                · refine step_store_row rfl 157 (.tmp 3) (.tmp 39) rfl (w.heap.size + 1) (cI (List.replicate 16 0)) (cI (cntZ ls)) rfl rfl (HA3.out.farRow (by omega) _) (Try.size_i16.trans (by simp [cI, cntZ, cntL])) (by simp [cI, cntZ, cntL]) (cI_one _) ?_
                  go_simp
                  refine hK _ _ ?_
                  clear hK K
                  refine wpAny_done (by kernel_rfl) ?_ _
                  go_wp2_with fail
                  exact bodyPost_ret (v := .tuple #[.agg (cU (nextL ls 16)).toArray, .agg (cI (cntZ ls)).toArray]) (results_cell2 rfl _ _ w.heap.size (w.heap.size + 1) (cU (nextL ls 16)) (cI (cntZ ls)) _ _ rfl rfl ((HA2.out.drew.row _).farRow (by omega) _) ((HA3.out.drew.farRow (by omega) _).row _) Try.underlying156 rfl (Try.size_u16.trans (by simp [cU, nextL])) Try.underlying157 rfl (Try.size_i16.trans (by simp [cI, cntZ, cntL]))) rfl ⟨rfl, below_setRow (below_setRow (bdrewN HB.out 1) (Nat.le_refl _) _) (by omega) _⟩
            · refine step_store_row rfl 156 (.tmp 2) (.tmp 38) rfl w.heap.size (cU (List.replicate 16 0)) (cU (nextL ls 16)) rfl rfl HA2.out (Try.size_u16.trans (by simp [cU, nextL])) (by simp [cU, nextL]) (cU_one _) ?_
              go_simp
              refine hK _ _ ?_
              clear hK K
              refine wpAny_ready (rs := [1]) (by kernel_rfl) (by simp) ?_
              refine AllReady.cons rfl (fun K hK => ?_) AllReady.nil
              · refine step_load_row rfl 157 (.tmp 4) rfl (w.heap.size + 1 + 1) (cI (cntZ ls)) rfl (HC.out.farRow (by omega) _) _ Try.underlying157 rfl (Try.size_i16.trans (by simp [cI, cntZ, cntL])) ?_
                go_simp
                refine hK _ _ ?_
                clear hK K
                refine wpAny_ready (rs := [3]) (by kernel_rfl) (by simp) ?_
                refine AllReady.cons rfl (fun K hK => ?_) AllReady.nil
                · refine step_store_row rfl 157 (.tmp 3) (.tmp 39) rfl (w.heap.size + 1) (cI (List.replicate 16 0)) (cI (cntZ ls)) rfl rfl (HA3.out.farRow (by omega) _) (Try.size_i16.trans (by simp [cI, cntZ, cntL])) (by simp [cI, cntZ, cntL]) (cI_one _) ?_
                  go_simp
                  refine hK _ _ ?_
                  clear hK K
                  refine wpAny_done (by kernel_rfl) ?_ _
                  go_wp2_with fail
                  exact bodyPost_ret (v := .tuple #[.agg (cU (nextL ls 16)).toArray, .agg (cI (cntZ ls)).toArray]) (results_cell2 rfl _ _ w.heap.size (w.heap.size + 1) (cU (nextL ls 16)) (cI (cntZ ls)) _ _ rfl rfl ((HA2.out.drew.row _).farRow (by omega) _) ((HA3.out.drew.farRow (by omega) _).row _) Try.underlying156 rfl (Try.size_u16.trans (by simp [cU, nextL])) Try.underlying157 rfl (Try.size_i16.trans (by simp [cI, cntZ, cntL]))) rfl ⟨rfl, below_setRow (below_setRow (bdrewN HB.out 1) (Nat.le_refl _) _) (by omega) _⟩
          · refine step_load_row rfl 157 (.tmp 4) rfl (w.heap.size + 1 + 1) (cI (cntZ ls)) rfl HC.out _ Try.underlying157 rfl (Try.size_i16.trans (by simp [cI, cntZ, cntL])) ?_
            go_simp
            refine hK _ _ ?_
            clear hK K
            refine wpAny_ready (rs := [0]) (by kernel_rfl) (by simp) ?_
            refine AllReady.cons rfl (fun K hK => ?_) AllReady.nil
            · refine step_load_row rfl 156 (.tmp 7) rfl (w.heap.size + 1 + 1 + 1) (cU (nextL ls 16)) rfl HN.out _ Try.underlying156 rfl (Try.size_u16.trans (by simp [cU, nextL])) ?_
              go_simp
              refine hK _ _ ?_
              clear hK K
              refine wpAny_ready (rs := [2]) (by kernel_rfl) (by simp) ?_
              refine AllReady.cons rfl (fun K hK => ?_) AllReady.nil
              · refine step_store_row rfl 156 (.tmp 2) (.tmp 38) rfl w.heap.size (cU (List.replicate 16 0)) (cU (nextL ls 16)) rfl rfl HA2.out (Try.size_u16.trans (by simp [cU, nextL])) (by simp [cU, nextL]) (cU_one _) ?_
                go_simp
                refine hK _ _ ?_
                clear hK K
                refine wpAny_ready (rs := [3]) (by kernel_rfl) (by simp) ?_
                refine AllReady.cons rfl (fun K hK => ?_) AllReady.nil
                · refine step_store_row rfl 157 (.tmp 3) (.tmp 39) rfl (w.heap.size + 1) (cI (List.replicate 16 0)) (cI (cntZ ls)) rfl rfl (HA3.out.farRow (by omega) _) (Try.size_i16.trans (by simp [cI, cntZ, cntL])) (by simp [cI, cntZ, cntL]) (cI_one _) ?_
                  go_simp
                  refine hK _ _ ?_
                  clear hK K
                  refine wpAny_done (by kernel_rfl) ?_ _
                  go_wp2_with fail
                  exact bodyPost_ret (v := .tuple #[.agg (cU (nextL ls 16)).toArray, .agg (cI (cntZ ls)).toArray]) (results_cell2 rfl _ _ w.heap.size (w.heap.size + 1) (cU (nextL ls 16)) (cI (cntZ ls)) _ _ rfl rfl ((HA2.out.drew.row _).farRow (by omega) _) ((HA3.out.drew.farRow (by omega) _).row _) Try.underlying156 rfl (Try.size_u16.trans (by simp [cU, nextL])) Try.underlying157 rfl (Try.size_i16.trans (by simp [cI, cntZ, cntL]))) rfl ⟨rfl, below_setRow (below_setRow (bdrewN HB.out 1) (Nat.le_refl _) _) (by omega) _⟩
end Go.Proofs.Yteoolehdomjkkaa

/- Rows of huff.Code: 2 cells an element. -/
namespace Go.Proofs.Yteoolehdomjkkaa
set_option linter.all false
open Go.RowKit

def eC (x : (Nat × Int)) : List Value := [Value.int .u32 (x.1 : Int), Value.int .i64 x.2]
theorem eC_len (x : (Nat × Int)) : (eC x).length = 2 := rfl
/-- The cells of a list. -/
def cC (l : List (Nat × Int)) : List Value := l.flatMap eC
theorem cC_length : ∀ l : List (Nat × Int), (cC l).length = l.length * 2
  | [] => rfl
  | x :: l => by
    have := cC_length l
    unfold cC at this ⊢
    rw [List.flatMap_cons, List.length_append, this, eC_len, List.length_cons]
    omega
theorem cC_append (a b : List (Nat × Int)) : cC (a ++ b) = cC a ++ cC b := by simp [cC]
theorem cC_single (x : (Nat × Int)) : cC [x] = eC x := by simp [cC]
theorem cC_get : ∀ (l : List (Nat × Int)) (k j : Nat) (hk : k < l.length), j < 2 → (cC l)[k * 2 + j]? = (eC l[k])[j]?
  | x :: l, 0, j, _, hj => by
    unfold cC
    rw [List.flatMap_cons, List.getElem?_append_left (by rw [eC_len]; omega)]
    simp
  | x :: l, i + 1, j, hi, hj => by
    have := cC_get l i j (by simpa using hi) hj
    unfold cC at this ⊢
    rw [List.flatMap_cons, List.getElem?_append_right (by rw [eC_len]; omega), eC_len, List.getElem_cons_succ, ← this]
    congr 1
    omega
theorem cC_one (l : List (Nat × Int)) : ∀ u ∈ cC l, u.oneCell' = true := by
  intro u hu
  simp only [cC, List.mem_flatMap] at hu
  obtain ⟨x, _, hx⟩ := hu
  simp only [eC, List.mem_cons, List.not_mem_nil, or_false] at hx
  rcases hx with rfl | rfl <;> rfl
theorem cC_set (l : List (Nat × Int)) (k : Nat) (x : (Nat × Int)) (hk : k < l.length) : cC (l.set k x) = ((cC l).set (k * 2) (Value.int .u32 (x.1 : Int))).set (k * 2 + 1) (Value.int .i64 x.2) := by
  have e1 : l = l.take k ++ l[k] :: l.drop (k + 1) := by rw [← List.drop_eq_getElem_cons hk, List.take_append_drop]
  have e2 : l.set k x = l.take k ++ x :: l.drop (k + 1) := by rw [List.set_eq_take_append_cons_drop, if_pos hk]
  rw [e2]
  have hl : (cC (l.take k)).length = k * 2 := by rw [cC_length, List.length_take, Nat.min_eq_left (by omega)]
  have e3 : cC l = cC (l.take k) ++ (eC l[k] ++ cC (l.drop (k + 1))) := by
    conv => lhs; rw [e1]
    rw [cC_append]
    simp only [cC, List.flatMap_cons]
  have e4 : cC (l.take k ++ x :: l.drop (k + 1)) = cC (l.take k) ++ (eC x ++ cC (l.drop (k + 1))) := by
    rw [cC_append]
    simp only [cC, List.flatMap_cons]
  rw [e3, e4]
  generalize cC (l.take k) = P at *
  rw [← hl]
  simp [eC, List.set_append]
theorem Try.info_C : (Try.prog.info? 129).map (fun i => (i.zero, i.size, i.bytes)) = some (some (.agg #[.int .u32 0, .int .i64 0]), 2, 16) := by kernel_rfl
def ownC (w : World) (base : Nat) (v : Value) (l : List (Nat × Int)) : Prop := w.ownsRow base 129 2 v l.length (cC l)
def RdC (w : World) (B : Nat) (A : Option Addr) (n : Nat) (l : List (Nat × Int)) : Prop := Rd w B 2 A n (cC l)
theorem RdC.len {w : World} {B n : Nat} {A : Option Addr} {l : List (Nat × Int)} (h : RdC w B A n l) : l.length = n := by
  have := h.1; rw [cC_length] at this; omega
theorem RdC.one {w : World} {B n : Nat} {A : Option Addr} {l : List (Nat × Int)} (h : RdC w B A n l) {k : Nat} (hk : k < n) :
    ∃ b o x, A = some ⟨b, o, none⟩ ∧ b < B ∧ Hid (l[k]? = some x) ∧ w.cell? ⟨b, o + k * 2, none⟩ = some (Value.int .u32 (x.1 : Int)) ∧ w.cell? ⟨b, o + k * 2 + 1, none⟩ = some (Value.int .i64 x.2) := by
  obtain ⟨b, o, e, hb, hc⟩ := h.2 (by omega)
  have hl := h.len
  have hk' : k < l.length := by omega
  refine ⟨b, o, l[k], e, hb, List.getElem?_eq_getElem hk', ?_, ?_⟩
  · exact hc (k * 2) _ ((cC_get l k 0 hk' (by omega)).trans rfl)
  · exact hc (k * 2 + 1) _ ((cC_get l k 1 hk' (by omega)).trans rfl)
theorem RdC.blw {w w' : World} {B n : Nat} {A : Option Addr} {l : List (Nat × Int)} (h : RdC w B A n l) (hb : Below B w w') : RdC w' B A n l := Rd.below h hb
theorem RdC.more {w : World} {B B' n : Nat} {A : Option Addr} {l : List (Nat × Int)} (h : RdC w B A n l) (hB : B ≤ B') : RdC w B' A n l := Rd.more h hB
theorem RdC.here {w : World} {B n : Nat} {A : Option Addr} {l : List (Nat × Int)} (h : RdC w B A n l) : RdC w w.heap.size A n l :=
  ⟨h.1, fun hn => by
    obtain ⟨b, o, e, hb, hc⟩ := h.2 hn
    have hl := h.1
    exact ⟨b, o, e, block_lt_of_cell (a := ⟨b, o + 0, none⟩) (hc 0 (cC l)[0] (List.getElem?_eq_getElem (by omega))), hc⟩⟩
theorem RdC.later {w w' : World} {n : Nat} {A : Option Addr} {l : List (Nat × Int)} (h : RdC w w.heap.size A n l) (hb : Below w.heap.size w w') : RdC w' w'.heap.size A n l := RdC.here (RdC.blw h hb)
theorem RdC.alloc {w : World} {B n : Nat} {A : Option Addr} {l : List (Nat × Int)} (h : RdC w B A n l) (hB : B ≤ w.heap.size) (o : Obj) : RdC (w.alloc o) B A n l := Rd.alloc h hB o
theorem RdC.nil_ {w : World} {B : Nat} {A : Option Addr} : RdC w B A 0 [] := ⟨by simp [cC], fun h => absurd h (by omega)⟩
theorem RdC.cut {w : World} {B n : Nat} {A : Option Addr} {l : List (Nat × Int)} (h : RdC w B A n l) {k m : Nat} (hk : k + m ≤ n) {A' : Option Addr} (hA : 0 < m → A' = A.map (·.add (k * 2))) :
    RdC w B A' m ((l.drop k).take m) := by
  have := Rd.cut h hk (A' := A') hA
  unfold RdC
  have e1 : ∀ (q : Nat) (l : List (Nat × Int)), cC (l.take q) = (cC l).take (q * 2) := fun q l => by
    rcases Nat.lt_or_ge q l.length with hq | hq
    · conv => rhs; rw [← List.take_append_drop q l, cC_append]
      rw [List.take_left' (by rw [cC_length, List.length_take, Nat.min_eq_left (by omega)])]
    · rw [List.take_of_length_le hq, List.take_of_length_le (by rw [cC_length]; exact Nat.mul_le_mul_right _ hq)]
  have e2 : ∀ (q : Nat) (l : List (Nat × Int)), cC (l.drop q) = (cC l).drop (q * 2) := fun q l => by
    rcases Nat.lt_or_ge q l.length with hq | hq
    · conv => rhs; rw [← List.take_append_drop q l, cC_append]
      rw [List.drop_left' (by rw [cC_length, List.length_take, Nat.min_eq_left (by omega)])]
    · rw [List.drop_eq_nil_of_le hq, List.drop_eq_nil_of_le (by rw [cC_length]; exact Nat.mul_le_mul_right _ hq)]
      rfl
  rw [e1, e2]
  exact this
theorem ownC.nil_ (w : World) (base : Nat) : ownC w base (.slice none 0 0) [] := World.ownsRow_nil _ _ _ _
theorem ownC.mono {w : World} {base base' : Nat} {v : Value} {l : List (Nat × Int)} (h : ownC w base v l) (hb : base' ≤ base) : ownC w base' v l := by
  refine ⟨h.1, ?_⟩
  rcases h.2 with hn | ⟨g, cap, cur, rfl, hbg, rest⟩
  · exact .inl hn
  · exact .inr ⟨g, cap, cur, rfl, by omega, rest⟩
theorem ownC.later {w w' : World} {base : Nat} {v : Value} {l : List (Nat × Int)} (h : ownC w base v l) (hb : Below w.heap.size w w') : ownC w' base v l :=
  Below.ownsRow h hb (fun g hg => (World.ownsRow.lt h g hg).2)
theorem ownC.laterD {w w' : World} {base : Nat} {v : Value} {l : List (Nat × Int)} (h : ownC w base v l) (hb : Below w.drew.heap.size w.drew w') : ownC w' base v l := ownC.later (w := w.drew) h hb
theorem ownC.alloc {w : World} {base : Nat} {v : Value} {l : List (Nat × Int)} (h : ownC w base v l) (o : Obj) : ownC (w.alloc o) base v l := World.ownsRow.alloc h o
theorem ownC.drew {w : World} {base : Nat} {v : Value} {l : List (Nat × Int)} (h : ownC w base v l) : ownC w.drew base v l := h
theorem ownC.drewN {w : World} {base : Nat} {v : Value} {l : List (Nat × Int)} (h : ownC w base v l) (n : Nat) : ownC (w.drewN n) base v l := h
theorem ownC.form {w : World} {base : Nat} {v : Value} {l : List (Nat × Int)} (h : ownC w base v l) :
    ∃ A c, v = .slice A l.length c ∧ RdC w w.heap.size A l.length l ∧ l.length ≤ c ∧ c ≤ maxLen := by
  rcases h.2 with ⟨rfl, h0⟩ | ⟨g, cap, cur, rfl, _, _, h1, h2, _⟩
  · have : l = [] := List.eq_nil_of_length_eq_zero h0
    subst this
    exact ⟨none, 0, rfl, Rd.none_, by simp, by simp⟩
  · exact ⟨_, _, rfl, Rd.of_own h, h1, h2⟩
theorem ownC.kept {w w' : World} {base : Nat} {v : Value} {l : List (Nat × Int)} {row : Option Nat} (h : ownC w base v l) (hg : w.grownBy w' row) (hne : v.ownBlock = none ∨ v.ownBlock ≠ row) : ownC w' base v l :=
  World.ownsRow.kept h hg hne
theorem ownC.far {w : World} {base g : Nat} {v : Value} {l : List (Nat × Int)} (h : ownC w base v l) (hg : v.ownBlock ≠ some g) (o : Nat) (u : Value) :
    ownC (w.setCell ⟨g, o, none⟩ u) base v l := by
  refine ⟨h.1, ?_⟩
  rcases h.2 with hn | ⟨g', cap, cur, rfl, hb, hgg, rest⟩
  · exact .inl hn
  · refine .inr ⟨g', cap, cur, rfl, hb, ?_, rest⟩
    rw [Below.heap_setCell _ _ _ _ (by intro e; apply hg; simp [Value.ownBlock]; exact e)]
    exact hgg
theorem ownC.ne {w : World} {base g : Nat} {v : Value} {l : List (Nat × Int)} (h : ownC w base v l) (hg : g < base) : v.ownBlock ≠ some g := by
  intro e
  have := (World.ownsRow.lt h g e).1
  omega
theorem ownC.pos {w : World} {base n c : Nat} {A : Option Addr} {l : List (Nat × Int)} (h : ownC w base (.slice A n c) l) (hn : 0 < n) : n = l.length ∧ ∃ g, A = some ⟨g, 0, none⟩ ∧ base ≤ g ∧ g < w.heap.size := by
  rcases h.2 with ⟨h', _⟩ | ⟨g, cap, cur, h', hb, hg, _⟩
  · injection h' with _ h2; omega
  · injection h' with h1 h2
    exact ⟨h2, g, h1, hb, (World.ownsRow.lt h g (by rw [h1]; rfl)).2⟩
theorem ownC.cell {w : World} {base g n c : Nat} {l : List (Nat × Int)} (h : ownC w base (.slice (some ⟨g, 0, none⟩) n c) l) (hn : n = l.length) {k : Nat} (hk : k < l.length) :
    w.cell? ⟨g, k * 2, none⟩ = some ((fun x : (Nat × Int) => Value.int .u32 (x.1 : Int)) l[k]) ∧ w.cell? ⟨g, k * 2 + 1, none⟩ = some ((fun x : (Nat × Int) => Value.int .i64 x.2) l[k]) := by
  subst hn
  refine ⟨?_, ?_⟩
  · exact (World.ownsRow.cellAt h (k * 2) (by have := hk; omega)).trans ((cC_get l k 0 hk (by omega)).trans rfl)
  · exact (World.ownsRow.cellAt h (k * 2 + 1) (by have := hk; omega)).trans ((cC_get l k 1 hk (by omega)).trans rfl)
theorem ownC.frozen {w : World} {base g n c : Nat} {l : List (Nat × Int)} (h : ownC w base (.slice (some ⟨g, 0, none⟩) n c) l) (hn : n = l.length) (k : Nat) :
    w.frozen? ⟨g, k, none⟩ = false := by
  subst hn
  exact World.ownsRow.frozenAt h k
theorem ownC.store {w : World} {base g n c : Nat} {l : List (Nat × Int)} (h : ownC w base (.slice (some ⟨g, 0, none⟩) n c) l) (hn : n = l.length) (k : Nat) (x : (Nat × Int)) (hk : k < l.length) :
    ownC ((w.setCell ⟨g, k * 2, none⟩ (Value.int .u32 (x.1 : Int))).setCell ⟨g, k * 2 + 1, none⟩ (Value.int .i64 x.2)) base (.slice (some ⟨g, 0, none⟩) n c) (l.set k x) := by
  subst hn
  have h0 : w.ownsRow base 129 2 (.slice (some ⟨g, 0, none⟩) l.length c) l.length (cC l) := h
  have h1 := (World.ownsRow.stored h0 (k * 2) (Value.int .u32 (x.1 : Int))).1
  have h2 := (World.ownsRow.stored h1 (k * 2 + 1) (Value.int .i64 x.2)).1
  unfold ownC
  rw [List.length_set, cC_set l k x hk]
  exact h2
theorem ownC.rd {w : World} {base n c : Nat} {A : Option Addr} {l : List (Nat × Int)} (h : ownC w base (.slice A n c) l) : RdC w w.heap.size A n l := by
  obtain ⟨A4, c4, e5, hd4, _, _⟩ := h.form
  injection e5 with e1 e2 e3
  rw [e1, e2]
  exact hd4
/-- make of n zeros, in a new block. -/
theorem wpList_makeC {w : World} {ops : Array Oper} {rest : List Oper} {o : Oper} {a : Act} {Q : Exit → Act → World → Prop}
    (hg : o.guard = none) (l c : Operand) (hop : o.op = Op.makeSlice 124 l c) (n : Nat) (L : Int) (hl : a.eval l = .int .i64 L) (hc : a.eval c = .int .i64 L)
    (hL : L = (n : Int)) (hn : n ≤ 1099511627776)
    (hK : ∀ w', ownC w' w.heap.size (.slice (some ⟨w.heap.size, 0, none⟩) n n) (List.replicate n ((0, 0) : Nat × Int)) → Below w.heap.size w w' → w.heap.size < w'.heap.size →
      wpList Try.prog ops Q rest (a.put o.dst (.slice (some ⟨w.heap.size, 0, none⟩) n n)) w') :
    wpList Try.prog ops Q (o :: rest) a w := by
  obtain ⟨i0, hi, hz0, hz1, hz2⟩ := info_parts Try.info_C
  refine wpList_make_full w hg l c 124 hop w.heap.size 129 i0 _ 2 Try.underlying124 hi hz0 hz1 _ _ _ _ n hl hc hL hL (by rw [hz2]; omega) (by unfold maxLen; omega) (Nat.le_refl _) ?_
  intro w' h1 h2
  have h3 : ownC w' w.heap.size (.slice (some ⟨w.heap.size, 0, none⟩) n n) (List.replicate n ((0, 0) : Nat × Int)) := by
    unfold ownC
    have e1 : (madeCells (.agg #[.int .u32 0, .int .i64 0] : Value).cells (n * 2)).toList = cC (List.replicate n ((0, 0) : Nat × Int)) := by
      apply List.ext_getElem?
      intro j
      by_cases hj : j < n * 2
      · have hq : j / 2 < n := by omega
        have ej : j = j / 2 * 2 + j % 2 := by omega
        have hg := cC_get (List.replicate n ((0, 0) : Nat × Int)) (j / 2) (j % 2) (by simpa using hq) (by omega)
        rw [← ej] at hg
        rw [hg, List.getElem_replicate]
        have hm : j % 2 < 2 := by omega
        rw [Array.getElem?_toList]
        rw [madeCells, Array.getElem?_map, Array.getElem?_range, if_pos hj]
        show some ((#[.int .u32 0, .int .i64 0] : Array Value)[j % 2]!) = _
        match j % 2, hm with
        | 0, _ => rfl
        | 1, _ => rfl
      · rw [List.getElem?_eq_none (by simp [madeCells]; omega), List.getElem?_eq_none (by rw [cC_length]; simp; omega)]
    rw [e1] at h1
    rw [List.length_replicate]
    exact h1
  exact hK w' h3 ((Below.refl _ _).grown h2 (Nat.le_refl _) (by simp)) (World.ownsRow.lt h3 _ rfl).2
/-- One element that lies in a block, whole. -/
theorem rd_oneC (w : World) (x : (Nat × Int)) (t : TypeId) (fr : Nat × Nat) : RdC (w.alloc (.cells (eC x).toArray t fr)) (w.heap.size + 1) (some ⟨w.heap.size, 0, none⟩) 1 [x] := by
  refine ⟨by rw [cC_length]; rfl, fun _ => ⟨_, _, rfl, by omega, fun j u hu => ?_⟩⟩
  rw [Nat.zero_add]
  have := cell_of_row (w.alloc (.cells (eC x).toArray t fr)) w.heap.size j (eC x).toArray t fr (heap_alloc_new w _)
  rw [this]
  rw [cC_single] at hu
  simpa using hu

set_option maxRecDepth 100000 in
theorem run_appendC (w : World) (base : Nat) (t2 : TypeId) (v : Value) (l : List (Nat × Int)) (hown : ownC w base v l) (B m c : Nat) (A : Option Addr) (news : List (Nat × Int)) (hr : RdC w B A m news)
    (hb : l.length + m ≤ 1099511627776) (hbase : base ≤ w.heap.size) :
    ∃ v' w', (Builtin.append_ #[124, 124] t2 #[v, .slice A m c]).run Try.prog w = .ok v' w' ∧ ownC w' base v' (l ++ news) ∧ w.grownBy w' v.ownBlock ∧
      (v'.ownBlock = v.ownBlock ∨ v'.ownBlock = some w.heap.size) ∧ (v' = .slice none 0 0 ↔ v = .slice none 0 0 ∧ m = 0) := by
  obtain ⟨i0, hi, hz0, hz1, hz2⟩ := info_parts Try.info_C
  have hl := hr.len
  subst hl
  unfold ownC
  rw [List.length_append, cC_append]
  rcases A with _ | ad
  · have hn : news = [] := by
      rcases Nat.eq_zero_or_pos news.length with h0 | h0
      · exact List.eq_nil_of_length_eq_zero h0
      · obtain ⟨b, o, h, _⟩ := hr.2 h0
        cases h
    subst hn
    refine ⟨v, w, ?_, by simpa [cC, ownC] using hown, World.grownBy.refl w _, .inl rfl, by simp⟩
    rcases hown.2 with ⟨rfl, h0⟩ | ⟨g, cap, cur, rfl, _, _, hnc, _⟩
    · simp [Builtin.append_, run_underlying Try.underlying124, sizeOf, typeInfo, hi, Builtin.lenOf, Builtin.firstCells]
    · simp [Builtin.append_, run_underlying Try.underlying124, sizeOf, typeInfo, hi, Builtin.lenOf, Builtin.firstCells, hnc, storeCells]
  · have hcells : ∀ j u, (cC news)[j]? = some u → w.cell? (ad.add j) = some u := by
      intro j u hu
      rcases Nat.eq_zero_or_pos news.length with h0 | h0
      · have hn : news = [] := List.eq_nil_of_length_eq_zero h0
        subst hn
        simp [cC] at hu
      · obtain ⟨b, o, h, _, hc⟩ := hr.2 h0
        injection h with h
        subst h
        rw [add_none]
        exact hc j u hu
    obtain ⟨v', w', hrun, h2, h3, h4, h5⟩ := run_append_own_at (P := Try.prog) w base 124 t2 129 i0 _ 2 16 Try.underlying124 hi hz0 hz1 hz2 rfl (by omega) v l.length (cC l) hown ad news.length c (cC news) (by rw [cC_length]) hcells (cC_one _) (by unfold maxLen; omega) (by omega) hbase
    exact ⟨v', w', hrun, h2, h3, h5, h4⟩

/-- append(v, x...): v the call's own, x whatever. -/
theorem wpList_appendC {w : World} {ops : Array Oper} {rest : List Oper} {o : Oper} {a : Act} {Q : Exit → Act → World → Prop} (hgd : o.guard = none) (s x : Operand)
    (ho : o.op = .call { callee := .builtin .append, args := #[s, x], argTypes := #[124, 124] })
    (base : Nat) (v : Value) (l : List (Nat × Int)) (hs : a.eval s = v) (hown : ownC w base v l) (B m c : Nat) (A : Option Addr) (news : List (Nat × Int)) (hx : a.eval x = .slice A m c) (hr : RdC w B A m news)
    (hb : l.length + m ≤ 1099511627776) (hbase : base ≤ w.heap.size)
    (h : ∀ v' w', ownC w' base v' (l ++ news) → w.grownBy w' v.ownBlock → Below base w w' → (v'.ownBlock = v.ownBlock ∨ v'.ownBlock = some w.heap.size) → wpList Try.prog ops Q rest (a.put o.dst v') w') :
    wpList Try.prog ops Q (o :: rest) a w := by
  refine wpList_plain hgd fun K hK => ?_
  obtain ⟨v', w', hrun, h2, h3, h4, _⟩ := run_appendC w base o.type v l hown B m c A news hr hb hbase
  unfold Oper.wp execOp
  simp only [ho, resolve, invoke, builtin, Sem.run_bind, Sem.run_pure, Result.andThen_ok, List.map_toArray, List.map_cons, List.map_nil, hs, hx, hrun]
  exact hK _ _ (h v' w' h2 h3 ((Below.refl _ _).grown h3 hbase (fun k hk => (World.ownsRow.lt hown k hk).1)) h4)
/-- append of bytes as a step of a region that draws its order. -/
theorem step_appendC {w : World} {ops : Array Oper} {o : Oper} {a : Act} {K : Act → World → Prop} {Q : Exit → Act → World → Prop} {E : Prop} (hgd : o.guard = none) (s x : Operand)
    (ho : o.op = .call { callee := .builtin .append, args := #[s, x], argTypes := #[124, 124] })
    (base : Nat) (v : Value) (bs : List (Nat × Int)) (hs : a.eval s = v) (hown : ownC w base v bs) (B m c : Nat) (A : Option Addr) (news : List (Nat × Int)) (hx : a.eval x = .slice A m c) (hr : RdC w B A m news)
    (hb : bs.length + m ≤ 1099511627776) (hbase : base ≤ w.heap.size)
    (h : ∀ v' w', ownC w' base v' (bs ++ news) → w.grownBy w' v.ownBlock → Below base w w' → (v'.ownBlock = v.ownBlock ∨ v'.ownBlock = some w.heap.size) → K (a.put o.dst v') w') :
    if Region.wanted o (yielded ops a.tmps) = true then Oper.wp Try.prog o a w K Q else E := by
  have hw : Region.wanted o (yielded ops a.tmps) = true := by simp [Region.wanted, hgd]
  rw [if_pos hw]
  obtain ⟨v', w', hrun, h2, h3, h4, _⟩ := run_appendC w base o.type v bs hown B m c A news hr hb hbase
  unfold Oper.wp execOp
  simp only [ho, resolve, invoke, builtin, Sem.run_bind, Sem.run_pure, Result.andThen_ok, List.map_toArray, List.map_cons, List.map_nil, hs, hx, hrun]
  exact h v' w' h2 h3 ((Below.refl _ _).grown h3 hbase (fun k hk => (World.ownsRow.lt hown k hk).1)) h4
end Go.Proofs.Yteoolehdomjkkaa

/- Rows of aquref5.Code: 2 cells an element. -/
namespace Go.Proofs.Yteoolehdomjkkaa
set_option linter.all false
open Go.RowKit

def eD (x : (Nat × Int)) : List Value := [Value.int .u32 (x.1 : Int), Value.int .i64 x.2]
theorem eD_len (x : (Nat × Int)) : (eD x).length = 2 := rfl
/-- The cells of a list. -/
def cD (l : List (Nat × Int)) : List Value := l.flatMap eD
theorem cD_length : ∀ l : List (Nat × Int), (cD l).length = l.length * 2
  | [] => rfl
  | x :: l => by
    have := cD_length l
    unfold cD at this ⊢
    rw [List.flatMap_cons, List.length_append, this, eD_len, List.length_cons]
    omega
theorem cD_append (a b : List (Nat × Int)) : cD (a ++ b) = cD a ++ cD b := by simp [cD]
theorem cD_single (x : (Nat × Int)) : cD [x] = eD x := by simp [cD]
theorem cD_get : ∀ (l : List (Nat × Int)) (k j : Nat) (hk : k < l.length), j < 2 → (cD l)[k * 2 + j]? = (eD l[k])[j]?
  | x :: l, 0, j, _, hj => by
    unfold cD
    rw [List.flatMap_cons, List.getElem?_append_left (by rw [eD_len]; omega)]
    simp
  | x :: l, i + 1, j, hi, hj => by
    have := cD_get l i j (by simpa using hi) hj
    unfold cD at this ⊢
    rw [List.flatMap_cons, List.getElem?_append_right (by rw [eD_len]; omega), eD_len, List.getElem_cons_succ, ← this]
    congr 1
    omega
theorem cD_one (l : List (Nat × Int)) : ∀ u ∈ cD l, u.oneCell' = true := by
  intro u hu
  simp only [cD, List.mem_flatMap] at hu
  obtain ⟨x, _, hx⟩ := hu
  simp only [eD, List.mem_cons, List.not_mem_nil, or_false] at hx
  rcases hx with rfl | rfl <;> rfl
theorem cD_set (l : List (Nat × Int)) (k : Nat) (x : (Nat × Int)) (hk : k < l.length) : cD (l.set k x) = ((cD l).set (k * 2) (Value.int .u32 (x.1 : Int))).set (k * 2 + 1) (Value.int .i64 x.2) := by
  have e1 : l = l.take k ++ l[k] :: l.drop (k + 1) := by rw [← List.drop_eq_getElem_cons hk, List.take_append_drop]
  have e2 : l.set k x = l.take k ++ x :: l.drop (k + 1) := by rw [List.set_eq_take_append_cons_drop, if_pos hk]
  rw [e2]
  have hl : (cD (l.take k)).length = k * 2 := by rw [cD_length, List.length_take, Nat.min_eq_left (by omega)]
  have e3 : cD l = cD (l.take k) ++ (eD l[k] ++ cD (l.drop (k + 1))) := by
    conv => lhs; rw [e1]
    rw [cD_append]
    simp only [cD, List.flatMap_cons]
  have e4 : cD (l.take k ++ x :: l.drop (k + 1)) = cD (l.take k) ++ (eD x ++ cD (l.drop (k + 1))) := by
    rw [cD_append]
    simp only [cD, List.flatMap_cons]
  rw [e3, e4]
  generalize cD (l.take k) = P at *
  rw [← hl]
  simp [eD, List.set_append]
theorem Try.info_D : (Try.prog.info? 150).map (fun i => (i.zero, i.size, i.bytes)) = some (some (.agg #[.int .u32 0, .int .i64 0]), 2, 16) := by kernel_rfl
def ownD (w : World) (base : Nat) (v : Value) (l : List (Nat × Int)) : Prop := w.ownsRow base 150 2 v l.length (cD l)
def RdD (w : World) (B : Nat) (A : Option Addr) (n : Nat) (l : List (Nat × Int)) : Prop := Rd w B 2 A n (cD l)
theorem RdD.len {w : World} {B n : Nat} {A : Option Addr} {l : List (Nat × Int)} (h : RdD w B A n l) : l.length = n := by
  have := h.1; rw [cD_length] at this; omega
theorem RdD.one {w : World} {B n : Nat} {A : Option Addr} {l : List (Nat × Int)} (h : RdD w B A n l) {k : Nat} (hk : k < n) :
    ∃ b o x, A = some ⟨b, o, none⟩ ∧ b < B ∧ Hid (l[k]? = some x) ∧ w.cell? ⟨b, o + k * 2, none⟩ = some (Value.int .u32 (x.1 : Int)) ∧ w.cell? ⟨b, o + k * 2 + 1, none⟩ = some (Value.int .i64 x.2) := by
  obtain ⟨b, o, e, hb, hc⟩ := h.2 (by omega)
  have hl := h.len
  have hk' : k < l.length := by omega
  refine ⟨b, o, l[k], e, hb, List.getElem?_eq_getElem hk', ?_, ?_⟩
  · exact hc (k * 2) _ ((cD_get l k 0 hk' (by omega)).trans rfl)
  · exact hc (k * 2 + 1) _ ((cD_get l k 1 hk' (by omega)).trans rfl)
theorem RdD.blw {w w' : World} {B n : Nat} {A : Option Addr} {l : List (Nat × Int)} (h : RdD w B A n l) (hb : Below B w w') : RdD w' B A n l := Rd.below h hb
theorem RdD.more {w : World} {B B' n : Nat} {A : Option Addr} {l : List (Nat × Int)} (h : RdD w B A n l) (hB : B ≤ B') : RdD w B' A n l := Rd.more h hB
theorem RdD.here {w : World} {B n : Nat} {A : Option Addr} {l : List (Nat × Int)} (h : RdD w B A n l) : RdD w w.heap.size A n l :=
  ⟨h.1, fun hn => by
    obtain ⟨b, o, e, hb, hc⟩ := h.2 hn
    have hl := h.1
    exact ⟨b, o, e, block_lt_of_cell (a := ⟨b, o + 0, none⟩) (hc 0 (cD l)[0] (List.getElem?_eq_getElem (by omega))), hc⟩⟩
theorem RdD.later {w w' : World} {n : Nat} {A : Option Addr} {l : List (Nat × Int)} (h : RdD w w.heap.size A n l) (hb : Below w.heap.size w w') : RdD w' w'.heap.size A n l := RdD.here (RdD.blw h hb)
theorem RdD.alloc {w : World} {B n : Nat} {A : Option Addr} {l : List (Nat × Int)} (h : RdD w B A n l) (hB : B ≤ w.heap.size) (o : Obj) : RdD (w.alloc o) B A n l := Rd.alloc h hB o
theorem RdD.nil_ {w : World} {B : Nat} {A : Option Addr} : RdD w B A 0 [] := ⟨by simp [cD], fun h => absurd h (by omega)⟩
theorem RdD.cut {w : World} {B n : Nat} {A : Option Addr} {l : List (Nat × Int)} (h : RdD w B A n l) {k m : Nat} (hk : k + m ≤ n) {A' : Option Addr} (hA : 0 < m → A' = A.map (·.add (k * 2))) :
    RdD w B A' m ((l.drop k).take m) := by
  have := Rd.cut h hk (A' := A') hA
  unfold RdD
  have e1 : ∀ (q : Nat) (l : List (Nat × Int)), cD (l.take q) = (cD l).take (q * 2) := fun q l => by
    rcases Nat.lt_or_ge q l.length with hq | hq
    · conv => rhs; rw [← List.take_append_drop q l, cD_append]
      rw [List.take_left' (by rw [cD_length, List.length_take, Nat.min_eq_left (by omega)])]
    · rw [List.take_of_length_le hq, List.take_of_length_le (by rw [cD_length]; exact Nat.mul_le_mul_right _ hq)]
  have e2 : ∀ (q : Nat) (l : List (Nat × Int)), cD (l.drop q) = (cD l).drop (q * 2) := fun q l => by
    rcases Nat.lt_or_ge q l.length with hq | hq
    · conv => rhs; rw [← List.take_append_drop q l, cD_append]
      rw [List.drop_left' (by rw [cD_length, List.length_take, Nat.min_eq_left (by omega)])]
    · rw [List.drop_eq_nil_of_le hq, List.drop_eq_nil_of_le (by rw [cD_length]; exact Nat.mul_le_mul_right _ hq)]
      rfl
  rw [e1, e2]
  exact this
theorem ownD.nil_ (w : World) (base : Nat) : ownD w base (.slice none 0 0) [] := World.ownsRow_nil _ _ _ _
theorem ownD.mono {w : World} {base base' : Nat} {v : Value} {l : List (Nat × Int)} (h : ownD w base v l) (hb : base' ≤ base) : ownD w base' v l := by
  refine ⟨h.1, ?_⟩
  rcases h.2 with hn | ⟨g, cap, cur, rfl, hbg, rest⟩
  · exact .inl hn
  · exact .inr ⟨g, cap, cur, rfl, by omega, rest⟩
theorem ownD.later {w w' : World} {base : Nat} {v : Value} {l : List (Nat × Int)} (h : ownD w base v l) (hb : Below w.heap.size w w') : ownD w' base v l :=
  Below.ownsRow h hb (fun g hg => (World.ownsRow.lt h g hg).2)
theorem ownD.laterD {w w' : World} {base : Nat} {v : Value} {l : List (Nat × Int)} (h : ownD w base v l) (hb : Below w.drew.heap.size w.drew w') : ownD w' base v l := ownD.later (w := w.drew) h hb
theorem ownD.alloc {w : World} {base : Nat} {v : Value} {l : List (Nat × Int)} (h : ownD w base v l) (o : Obj) : ownD (w.alloc o) base v l := World.ownsRow.alloc h o
theorem ownD.drew {w : World} {base : Nat} {v : Value} {l : List (Nat × Int)} (h : ownD w base v l) : ownD w.drew base v l := h
theorem ownD.drewN {w : World} {base : Nat} {v : Value} {l : List (Nat × Int)} (h : ownD w base v l) (n : Nat) : ownD (w.drewN n) base v l := h
theorem ownD.form {w : World} {base : Nat} {v : Value} {l : List (Nat × Int)} (h : ownD w base v l) :
    ∃ A c, v = .slice A l.length c ∧ RdD w w.heap.size A l.length l ∧ l.length ≤ c ∧ c ≤ maxLen := by
  rcases h.2 with ⟨rfl, h0⟩ | ⟨g, cap, cur, rfl, _, _, h1, h2, _⟩
  · have : l = [] := List.eq_nil_of_length_eq_zero h0
    subst this
    exact ⟨none, 0, rfl, Rd.none_, by simp, by simp⟩
  · exact ⟨_, _, rfl, Rd.of_own h, h1, h2⟩
theorem ownD.kept {w w' : World} {base : Nat} {v : Value} {l : List (Nat × Int)} {row : Option Nat} (h : ownD w base v l) (hg : w.grownBy w' row) (hne : v.ownBlock = none ∨ v.ownBlock ≠ row) : ownD w' base v l :=
  World.ownsRow.kept h hg hne
theorem ownD.far {w : World} {base g : Nat} {v : Value} {l : List (Nat × Int)} (h : ownD w base v l) (hg : v.ownBlock ≠ some g) (o : Nat) (u : Value) :
    ownD (w.setCell ⟨g, o, none⟩ u) base v l := by
  refine ⟨h.1, ?_⟩
  rcases h.2 with hn | ⟨g', cap, cur, rfl, hb, hgg, rest⟩
  · exact .inl hn
  · refine .inr ⟨g', cap, cur, rfl, hb, ?_, rest⟩
    rw [Below.heap_setCell _ _ _ _ (by intro e; apply hg; simp [Value.ownBlock]; exact e)]
    exact hgg
theorem ownD.ne {w : World} {base g : Nat} {v : Value} {l : List (Nat × Int)} (h : ownD w base v l) (hg : g < base) : v.ownBlock ≠ some g := by
  intro e
  have := (World.ownsRow.lt h g e).1
  omega
theorem ownD.pos {w : World} {base n c : Nat} {A : Option Addr} {l : List (Nat × Int)} (h : ownD w base (.slice A n c) l) (hn : 0 < n) : n = l.length ∧ ∃ g, A = some ⟨g, 0, none⟩ ∧ base ≤ g ∧ g < w.heap.size := by
  rcases h.2 with ⟨h', _⟩ | ⟨g, cap, cur, h', hb, hg, _⟩
  · injection h' with _ h2; omega
  · injection h' with h1 h2
    exact ⟨h2, g, h1, hb, (World.ownsRow.lt h g (by rw [h1]; rfl)).2⟩
theorem ownD.cell {w : World} {base g n c : Nat} {l : List (Nat × Int)} (h : ownD w base (.slice (some ⟨g, 0, none⟩) n c) l) (hn : n = l.length) {k : Nat} (hk : k < l.length) :
    w.cell? ⟨g, k * 2, none⟩ = some ((fun x : (Nat × Int) => Value.int .u32 (x.1 : Int)) l[k]) ∧ w.cell? ⟨g, k * 2 + 1, none⟩ = some ((fun x : (Nat × Int) => Value.int .i64 x.2) l[k]) := by
  subst hn
  refine ⟨?_, ?_⟩
  · exact (World.ownsRow.cellAt h (k * 2) (by have := hk; omega)).trans ((cD_get l k 0 hk (by omega)).trans rfl)
  · exact (World.ownsRow.cellAt h (k * 2 + 1) (by have := hk; omega)).trans ((cD_get l k 1 hk (by omega)).trans rfl)
theorem ownD.frozen {w : World} {base g n c : Nat} {l : List (Nat × Int)} (h : ownD w base (.slice (some ⟨g, 0, none⟩) n c) l) (hn : n = l.length) (k : Nat) :
    w.frozen? ⟨g, k, none⟩ = false := by
  subst hn
  exact World.ownsRow.frozenAt h k
theorem ownD.store {w : World} {base g n c : Nat} {l : List (Nat × Int)} (h : ownD w base (.slice (some ⟨g, 0, none⟩) n c) l) (hn : n = l.length) (k : Nat) (x : (Nat × Int)) (hk : k < l.length) :
    ownD ((w.setCell ⟨g, k * 2, none⟩ (Value.int .u32 (x.1 : Int))).setCell ⟨g, k * 2 + 1, none⟩ (Value.int .i64 x.2)) base (.slice (some ⟨g, 0, none⟩) n c) (l.set k x) := by
  subst hn
  have h0 : w.ownsRow base 150 2 (.slice (some ⟨g, 0, none⟩) l.length c) l.length (cD l) := h
  have h1 := (World.ownsRow.stored h0 (k * 2) (Value.int .u32 (x.1 : Int))).1
  have h2 := (World.ownsRow.stored h1 (k * 2 + 1) (Value.int .i64 x.2)).1
  unfold ownD
  rw [List.length_set, cD_set l k x hk]
  exact h2
theorem ownD.rd {w : World} {base n c : Nat} {A : Option Addr} {l : List (Nat × Int)} (h : ownD w base (.slice A n c) l) : RdD w w.heap.size A n l := by
  obtain ⟨A4, c4, e5, hd4, _, _⟩ := h.form
  injection e5 with e1 e2 e3
  rw [e1, e2]
  exact hd4
/-- make of n zeros, in a new block. -/
theorem wpList_makeD {w : World} {ops : Array Oper} {rest : List Oper} {o : Oper} {a : Act} {Q : Exit → Act → World → Prop}
    (hg : o.guard = none) (l c : Operand) (hop : o.op = Op.makeSlice 147 l c) (n : Nat) (L : Int) (hl : a.eval l = .int .i64 L) (hc : a.eval c = .int .i64 L)
    (hL : L = (n : Int)) (hn : n ≤ 1099511627776)
    (hK : ∀ w', ownD w' w.heap.size (.slice (some ⟨w.heap.size, 0, none⟩) n n) (List.replicate n ((0, 0) : Nat × Int)) → Below w.heap.size w w' → w.heap.size < w'.heap.size →
      wpList Try.prog ops Q rest (a.put o.dst (.slice (some ⟨w.heap.size, 0, none⟩) n n)) w') :
    wpList Try.prog ops Q (o :: rest) a w := by
  obtain ⟨i0, hi, hz0, hz1, hz2⟩ := info_parts Try.info_D
  refine wpList_make_full w hg l c 147 hop w.heap.size 150 i0 _ 2 Try.underlying147 hi hz0 hz1 _ _ _ _ n hl hc hL hL (by rw [hz2]; omega) (by unfold maxLen; omega) (Nat.le_refl _) ?_
  intro w' h1 h2
  have h3 : ownD w' w.heap.size (.slice (some ⟨w.heap.size, 0, none⟩) n n) (List.replicate n ((0, 0) : Nat × Int)) := by
    unfold ownD
    have e1 : (madeCells (.agg #[.int .u32 0, .int .i64 0] : Value).cells (n * 2)).toList = cD (List.replicate n ((0, 0) : Nat × Int)) := by
      apply List.ext_getElem?
      intro j
      by_cases hj : j < n * 2
      · have hq : j / 2 < n := by omega
        have ej : j = j / 2 * 2 + j % 2 := by omega
        have hg := cD_get (List.replicate n ((0, 0) : Nat × Int)) (j / 2) (j % 2) (by simpa using hq) (by omega)
        rw [← ej] at hg
        rw [hg, List.getElem_replicate]
        have hm : j % 2 < 2 := by omega
        rw [Array.getElem?_toList]
        rw [madeCells, Array.getElem?_map, Array.getElem?_range, if_pos hj]
        show some ((#[.int .u32 0, .int .i64 0] : Array Value)[j % 2]!) = _
        match j % 2, hm with
        | 0, _ => rfl
        | 1, _ => rfl
      · rw [List.getElem?_eq_none (by simp [madeCells]; omega), List.getElem?_eq_none (by rw [cD_length]; simp; omega)]
    rw [e1] at h1
    rw [List.length_replicate]
    exact h1
  exact hK w' h3 ((Below.refl _ _).grown h2 (Nat.le_refl _) (by simp)) (World.ownsRow.lt h3 _ rfl).2
/-- One element that lies in a block, whole. -/
theorem rd_oneD (w : World) (x : (Nat × Int)) (t : TypeId) (fr : Nat × Nat) : RdD (w.alloc (.cells (eD x).toArray t fr)) (w.heap.size + 1) (some ⟨w.heap.size, 0, none⟩) 1 [x] := by
  refine ⟨by rw [cD_length]; rfl, fun _ => ⟨_, _, rfl, by omega, fun j u hu => ?_⟩⟩
  rw [Nat.zero_add]
  have := cell_of_row (w.alloc (.cells (eD x).toArray t fr)) w.heap.size j (eD x).toArray t fr (heap_alloc_new w _)
  rw [this]
  rw [cD_single] at hu
  simpa using hu

set_option maxRecDepth 100000 in
theorem run_appendD (w : World) (base : Nat) (t2 : TypeId) (v : Value) (l : List (Nat × Int)) (hown : ownD w base v l) (B m c : Nat) (A : Option Addr) (news : List (Nat × Int)) (hr : RdD w B A m news)
    (hb : l.length + m ≤ 1099511627776) (hbase : base ≤ w.heap.size) :
    ∃ v' w', (Builtin.append_ #[147, 147] t2 #[v, .slice A m c]).run Try.prog w = .ok v' w' ∧ ownD w' base v' (l ++ news) ∧ w.grownBy w' v.ownBlock ∧
      (v'.ownBlock = v.ownBlock ∨ v'.ownBlock = some w.heap.size) ∧ (v' = .slice none 0 0 ↔ v = .slice none 0 0 ∧ m = 0) := by
  obtain ⟨i0, hi, hz0, hz1, hz2⟩ := info_parts Try.info_D
  have hl := hr.len
  subst hl
  unfold ownD
  rw [List.length_append, cD_append]
  rcases A with _ | ad
  · have hn : news = [] := by
      rcases Nat.eq_zero_or_pos news.length with h0 | h0
      · exact List.eq_nil_of_length_eq_zero h0
      · obtain ⟨b, o, h, _⟩ := hr.2 h0
        cases h
    subst hn
    refine ⟨v, w, ?_, by simpa [cD, ownD] using hown, World.grownBy.refl w _, .inl rfl, by simp⟩
    rcases hown.2 with ⟨rfl, h0⟩ | ⟨g, cap, cur, rfl, _, _, hnc, _⟩
    · simp [Builtin.append_, run_underlying Try.underlying147, sizeOf, typeInfo, hi, Builtin.lenOf, Builtin.firstCells]
    · simp [Builtin.append_, run_underlying Try.underlying147, sizeOf, typeInfo, hi, Builtin.lenOf, Builtin.firstCells, hnc, storeCells]
  · have hcells : ∀ j u, (cD news)[j]? = some u → w.cell? (ad.add j) = some u := by
      intro j u hu
      rcases Nat.eq_zero_or_pos news.length with h0 | h0
      · have hn : news = [] := List.eq_nil_of_length_eq_zero h0
        subst hn
        simp [cD] at hu
      · obtain ⟨b, o, h, _, hc⟩ := hr.2 h0
        injection h with h
        subst h
        rw [add_none]
        exact hc j u hu
    obtain ⟨v', w', hrun, h2, h3, h4, h5⟩ := run_append_own_at (P := Try.prog) w base 147 t2 150 i0 _ 2 16 Try.underlying147 hi hz0 hz1 hz2 rfl (by omega) v l.length (cD l) hown ad news.length c (cD news) (by rw [cD_length]) hcells (cD_one _) (by unfold maxLen; omega) (by omega) hbase
    exact ⟨v', w', hrun, h2, h3, h5, h4⟩

/-- append(v, x...): v the call's own, x whatever. -/
theorem wpList_appendD {w : World} {ops : Array Oper} {rest : List Oper} {o : Oper} {a : Act} {Q : Exit → Act → World → Prop} (hgd : o.guard = none) (s x : Operand)
    (ho : o.op = .call { callee := .builtin .append, args := #[s, x], argTypes := #[147, 147] })
    (base : Nat) (v : Value) (l : List (Nat × Int)) (hs : a.eval s = v) (hown : ownD w base v l) (B m c : Nat) (A : Option Addr) (news : List (Nat × Int)) (hx : a.eval x = .slice A m c) (hr : RdD w B A m news)
    (hb : l.length + m ≤ 1099511627776) (hbase : base ≤ w.heap.size)
    (h : ∀ v' w', ownD w' base v' (l ++ news) → w.grownBy w' v.ownBlock → Below base w w' → (v'.ownBlock = v.ownBlock ∨ v'.ownBlock = some w.heap.size) → wpList Try.prog ops Q rest (a.put o.dst v') w') :
    wpList Try.prog ops Q (o :: rest) a w := by
  refine wpList_plain hgd fun K hK => ?_
  obtain ⟨v', w', hrun, h2, h3, h4, _⟩ := run_appendD w base o.type v l hown B m c A news hr hb hbase
  unfold Oper.wp execOp
  simp only [ho, resolve, invoke, builtin, Sem.run_bind, Sem.run_pure, Result.andThen_ok, List.map_toArray, List.map_cons, List.map_nil, hs, hx, hrun]
  exact hK _ _ (h v' w' h2 h3 ((Below.refl _ _).grown h3 hbase (fun k hk => (World.ownsRow.lt hown k hk).1)) h4)
/-- append of bytes as a step of a region that draws its order. -/
theorem step_appendD {w : World} {ops : Array Oper} {o : Oper} {a : Act} {K : Act → World → Prop} {Q : Exit → Act → World → Prop} {E : Prop} (hgd : o.guard = none) (s x : Operand)
    (ho : o.op = .call { callee := .builtin .append, args := #[s, x], argTypes := #[147, 147] })
    (base : Nat) (v : Value) (bs : List (Nat × Int)) (hs : a.eval s = v) (hown : ownD w base v bs) (B m c : Nat) (A : Option Addr) (news : List (Nat × Int)) (hx : a.eval x = .slice A m c) (hr : RdD w B A m news)
    (hb : bs.length + m ≤ 1099511627776) (hbase : base ≤ w.heap.size)
    (h : ∀ v' w', ownD w' base v' (bs ++ news) → w.grownBy w' v.ownBlock → Below base w w' → (v'.ownBlock = v.ownBlock ∨ v'.ownBlock = some w.heap.size) → K (a.put o.dst v') w') :
    if Region.wanted o (yielded ops a.tmps) = true then Oper.wp Try.prog o a w K Q else E := by
  have hw : Region.wanted o (yielded ops a.tmps) = true := by simp [Region.wanted, hgd]
  rw [if_pos hw]
  obtain ⟨v', w', hrun, h2, h3, h4, _⟩ := run_appendD w base o.type v bs hown B m c A news hr hb hbase
  unfold Oper.wp execOp
  simp only [ho, resolve, invoke, builtin, Sem.run_bind, Sem.run_pure, Result.andThen_ok, List.map_toArray, List.map_cons, List.map_nil, hs, hx, hrun]
  exact h v' w' h2 h3 ((Below.refl _ _).grown h3 hbase (fun k hk => (World.ownsRow.lt hown k hk).1)) h4
end Go.Proofs.Yteoolehdomjkkaa

/- huff: Codes. -/
namespace Go.Proofs.Yteoolehdomjkkaa
set_option linter.all false
open Go.RowKit

def cdE (ls : List Int) : Int := if krE ls = 0 then (if 32768 < krN ls then 4 else 0) else 1
def cdL (ls : List Int) : List (Nat × Int) := if cdE ls = 0 then codesL ls else []
theorem krE_cases (ls : List Int) : krE ls = 0 ∨ krE ls = 1 := by unfold krE; split <;> simp
theorem krE_zero {ls : List Int} (h : krE ls = 0) : ls.length ≤ 300 ∧ badL ls = false ∧ krV ls = krN ls := by
  unfold krE at h
  split at h
  · cases h
  · rename_i hc
    rw [not_or] at hc
    refine ⟨by omega, by simpa using hc.2, ?_⟩
    unfold krV
    rw [if_neg (by rw [not_or]; exact hc)]
/-- The codes of the first k places. -/
def codesTo (ls : List Int) (k : Nat) : List (Nat × Int) := (List.range ls.length).map fun i => if i < k then codeAt ls i else (0, 0)
theorem codesTo_zero (ls : List Int) : codesTo ls 0 = List.replicate ls.length (0, 0) := by
  unfold codesTo
  apply List.ext_getElem?
  intro i
  by_cases h : i < ls.length
  · simp [h]
  · simp [h]
theorem codesTo_end (ls : List Int) : codesTo ls ls.length = codesL ls := by
  unfold codesTo codesL
  apply List.map_congr_left
  intro i hi
  rw [List.mem_range] at hi
  rw [if_pos hi]
theorem codesTo_len (ls : List Int) (k : Nat) : (codesTo ls k).length = ls.length := by simp [codesTo]
theorem codesTo_step (ls : List Int) {k : Nat} (hk : k < ls.length) : codesTo ls (k + 1) = (codesTo ls k).set k (codeAt ls k) := by
  unfold codesTo
  apply List.ext_getElem?
  intro i
  rw [List.getElem?_set]
  by_cases hi : i < ls.length
  · rw [List.getElem?_map, List.getElem?_map, List.getElem?_range hi]
    by_cases e : k = i
    · subst e
      rw [if_pos rfl, if_pos (by simp; omega)]
      simp
    · rw [if_neg e]
      by_cases e2 : i < k
      · simp [e2, show i < k + 1 by omega]
      · simp [e2, show ¬ i < k + 1 by omega]
  · rw [List.getElem?_eq_none (by simp; omega)]
    by_cases e : k = i
    · omega
    · rw [if_neg e, List.getElem?_eq_none (by simp; omega)]
theorem codesTo_same (ls : List Int) {k : Nat} (hk : k < ls.length) (h : codeAt ls k = (0, 0)) : codesTo ls (k + 1) = codesTo ls k := by
  rw [codesTo_step ls hk, h]
  apply List.ext_getElem?
  intro i
  rw [List.getElem?_set]
  by_cases e : k = i
  · subst e
    rw [if_pos rfl, if_pos (by rw [codesTo_len]; exact hk)]
    simp [codesTo, hk]
  · rw [if_neg e]
/-- The next code of each length, behind k places. -/
def nxtL (ls : List Int) (k : Nat) : List Nat := (List.range 16).map fun n => fst ls n + (if n = 0 then 0 else cnt (ls.take k) n)
theorem nxtL_zero (ls : List Int) : nxtL ls 0 = nextL ls 16 := by
  unfold nxtL nextL
  apply List.map_congr_left
  intro n hn
  rw [List.mem_range] at hn
  rw [if_pos hn]
  simp [cnt]
theorem nxtL_get (ls : List Int) (k : Nat) {t : Nat} (ht : t < 16) (h0 : 0 < t) : (cU (nxtL ls k))[t]? = some (.int .u32 ((fst ls t + cnt (ls.take k) t : Nat) : Int)) := by
  simp [cU, nxtL, ht, show ¬ t = 0 by omega]
theorem nxtL_step {ls : List Int} {k t : Nat} (h : ls[k]? = some (t : Int)) (ht : t < 16) (h0 : 0 < t) : cU (nxtL ls (k + 1)) = (cU (nxtL ls k)).set t (.int .u32 ((fst ls t + cnt (ls.take k) t + 1 : Nat) : Int)) := by
  obtain ⟨hk, hx⟩ := List.getElem?_eq_some_iff.1 h
  unfold cU nxtL
  rw [List.take_succ_eq_append_getElem hk, hx]
  apply List.ext_getElem?
  intro j
  rw [List.getElem?_set]
  by_cases hj : j < 16
  · rw [List.getElem?_map, List.getElem?_map, List.getElem?_map, List.getElem?_map, List.getElem?_range hj]
    by_cases e : t = j
    · subst e
      rw [if_pos rfl, if_pos (by simp; omega)]
      simp [cnt, List.count_append, show ¬ t = 0 by omega]
      omega
    · rw [if_neg e]
      have : ¬ (t : Int) = (j : Int) := by omega
      simp [cnt, List.count_append, List.count_cons, this]
  · rw [List.getElem?_eq_none (by simp; omega)]
    by_cases e : t = j
    · omega
    · rw [if_neg e, List.getElem?_eq_none (by simp; omega)]
theorem nxtL_same {ls : List Int} {k : Nat} {x : Int} (h : ls[k]? = some x) (h0 : ¬ 0 < x) : nxtL ls (k + 1) = nxtL ls k := by
  obtain ⟨hk, hx⟩ := List.getElem?_eq_some_iff.1 h
  unfold nxtL
  rw [List.take_succ_eq_append_getElem hk, hx]
  apply List.map_congr_left
  intro n hn
  by_cases e : n = 0
  · rw [if_pos e, if_pos e]
  · rw [if_neg e, if_neg e]
    have : ¬ x = (n : Int) := by omega
    simp [cnt, List.count_append, List.count_cons, this]
theorem codeAt_pos {ls : List Int} {k t : Nat} (h : ls[k]? = some (t : Int)) (h0 : 0 < t) : codeAt ls k = (fst ls t + cnt (ls.take k) t, (t : Int)) := by
  unfold codeAt
  rw [List.getD_eq_getElem?_getD, h]
  simp
  omega
theorem codeAt_zero {ls : List Int} {k : Nat} {x : Int} (h : ls[k]? = some x) (h0 : ¬ 0 < x) : codeAt ls k = (0, 0) := by
  unfold codeAt
  rw [List.getD_eq_getElem?_getD, h]
  exact if_neg h0
theorem cnt_take (ls : List Int) (k t : Nat) : cnt (ls.take k) t ≤ cnt ls t := by
  unfold cnt
  exact List.Sublist.count_le _ (List.take_sublist _ _)

set_option maxRecDepth 100000 in
set_option maxHeartbeats 3200000 in
theorem codes_any (B n c : Nat) (A : Option Addr) (ls : List Int) (w : World) (h : RdI w B A n ls) (hB1 : B ≤ w.heap.size) (hn : n ≤ 1099511627776) :
    Calls Try.prog 80 #[.slice A n c] w fun e w' => ∃ A' n' c', e = .returned (.tuple #[.slice A' n' c', .int .i64 (cdE ls)]) ∧ n' = (cdL ls).length ∧ ownC w' w.heap.size (.slice A' n' c') (cdL ls) ∧ Below w.heap.size w w' := by
  have HK := Lib.hid (kraft_any B n c A ls w h hn)
  have hl := h.len
  rcases krE_cases ls with he | he
  · obtain ⟨g1, g2, g3⟩ := krE_zero he
    rw [he, g3] at HK
    by_cases hbig : 32768 < krN ls
    · have HE : Hid (cdE ls = 4 ∧ cdL ls = []) := (show _ ∧ _ by
        have : cdE ls = 4 := by unfold cdE; rw [if_pos he, if_pos hbig]
        refine ⟨this, ?_⟩
        unfold cdL
        rw [if_neg (by rw [this]; decide)])
      generalize krN ls = K at *
      clear h hl he g1 g2 g3
      go_enter Try.func80, Try.ntmps80
      go_wp2_with (go_at_call 93; (with_reducible refine HK.out.mono ?_); go_must (rintro e w1 ⟨rfl, rfl⟩))
      go_ret2
      exact ⟨none, 0, 0, ret_tup2 rfl (by rw [HE.out.1]; rfl), by rw [HE.out.2]; rfl, by rw [HE.out.2]; exact ownC.nil_ _ _, Below.refl _ _⟩
    · have HE : Hid (cdE ls = 0 ∧ cdL ls = codesL ls) := (show _ ∧ _ by
        have : cdE ls = 0 := by unfold cdE; rw [if_pos he, if_neg hbig]
        refine ⟨this, ?_⟩
        unfold cdL
        rw [if_pos this])
      have HBG := Lib.hid (begins_any B n c A ls w h hB1 (by omega) g2 (by omega))
      have H := Lib.hid h
      have HL := Lib.hid hl
      have hn3 : n ≤ 300 := by omega
      have HBAD := Lib.hid g2
      have HKN := Lib.hid (show krN ls ≤ 32768 by omega)
      have HKQ : Hid (krN ls = krN ls) := (show _ = _ from rfl)
      generalize krN ls = K at HK hbig
      have hbig' : decide ((32768 : Int) < (K : Int)) = false := decide_eq_false (by omega)
      clear h hl he g1 g2 g3 HKQ
      go_enter Try.func80, Try.ntmps80
      go_wp2_with (first
        | (go_at_call 93; (with_reducible refine HK.out.mono ?_); go_must (rintro e w1 ⟨rfl, rfl⟩))
        | (go_at_call 99; (with_reducible refine HBG.out.mono ?_); go_must (rintro e w2 ⟨rfl, hb2⟩; have HAN := Lib.hid ((Arr.new w2 (cU (List.replicate 16 0)) 156).alloc (.cells (cI (List.replicate 16 0)).toArray 157)); have HAC := Lib.hid (Arr.new1 w2 (.cells (cU (List.replicate 16 0)).toArray 156) (cI (List.replicate 16 0)) 157); have HB2 := Lib.hid ((hb2.alloc hb2.size (.cells (cU (List.replicate 16 0)).toArray 156)).alloc (by have := hb2.size; simp; omega) (.cells (cI (List.replicate 16 0)).toArray 157)); have hsz2 := hb2.size; clear hb2))
        | (refine wpList_storeRow rfl 156 (.tmp 6) (.tmp 26) rfl w2.heap.size (cU (List.replicate 16 0)) (cU (nextL ls 16)) rfl rfl HAN.out (Try.size_u16.trans (by simp [cU, nextL])) (by simp [cU, nextL]) (cU_one _) ?_)
        | (refine wpList_storeRow rfl 157 (.tmp 7) (.tmp 27) rfl (w2.heap.size + 1) (cI (List.replicate 16 0)) (cI (cntZ ls)) rfl rfl (HAC.out.farRow (by omega) _) (Try.size_i16.trans (by simp [cI, cntZ, cntL])) (by simp [cI, cntZ, cntL]) (cI_one _) ?_)
        | (at_make; refine wpList_makeC rfl _ _ rfl n _ rfl rfl rfl (by omega) ?_; intro w3 hown hb3 hsz3; have HN := Lib.hid (((HAN.out.row (cU (nextL ls 16))).farRow (g' := w2.heap.size + 1) (by omega) (cI (cntZ ls)).toArray).later hb3); have HW := below_setRow (below_setRow HB2.out hsz2 (cU (nextL ls 16)).toArray) (g := w2.heap.size + 1) (by omega) (cI (cntZ ls)).toArray; have HB3 := Lib.hid (HW.trans (hb3.mono HW.size)); simp only [setRow_size, World.size_alloc] at hown hsz3 ⊢; have HO := Lib.hid hown; clear hown hb3 HW))
      go_loopw [33] (fun vi wr => ∃ k : Nat, k ≤ n ∧ vi = .int .i64 k ∧ Hid (Arr wr w2.heap.size (cU (nxtL ls k))) ∧ Hid (ownC wr (w2.heap.size + 1 + 1) (.slice (some ⟨w2.heap.size + 1 + 1, 0, none⟩) n n) (codesTo ls k)) ∧ Hid (Below w.heap.size w wr))
        (fun vi _ => n - (intOf vi).toNat)
      case atStart => exact ⟨0, Nat.zero_le _, rfl, (show Arr _ _ _ by rw [nxtL_zero]; exact HN.out), (show ownC _ _ _ _ by rw [codesTo_zero, HL.out]; exact HO.out), HB3⟩
      case round =>
        clear HN HO HB3
        obtain ⟨k, hk, rfl, HN, HO, HB⟩ := hrel
        by_cases hlt : k < n
        · obtain ⟨b, o, x, rfl, hb, HX, e1⟩ := (H.out.blw (HB.out.mono hB1)).one hlt
          obtain ⟨x0, x1⟩ := good_at HBAD.out HX.out
          obtain ⟨t, rfl⟩ := Int.eq_ofNat_of_zero_le x0
          have hkl : k < ls.length := by rw [HL.out]; exact hlt
          by_cases h0 : 0 < t
          · have ht : t < 16 := by omega
            have c5 := HN.out.cell (nxtL_get ls k ht h0)
            have f5 := HN.out.frozen t
            have hcv := codeAt_pos HX.out h0
            have hbd := fst_small ls HBAD.out HKN.out t (by omega)
            have hct := cnt_take ls k t
            have hcz : cz ls t = cnt ls t := by
              cases t with
              | zero => omega
              | succ t => rfl
            have HST := Lib.hid (codesTo_step ls hkl)
            rw [hcv] at HST
            have HNX := Lib.hid (nxtL_step HX.out ht h0)
            have hbv : fst ls t + cnt (ls.take k) t ≤ 32768 := by omega
            obtain ⟨o0, o1⟩ := HO.out.cell (by rw [codesTo_len, HL.out]) (k := k) (by rw [codesTo_len]; exact hkl)
            have of := HO.out.frozen (by rw [codesTo_len, HL.out])
            have of0 := of (k * 2)
            have of1 := of (k * 2 + 1)
            generalize fst ls t + cnt (ls.take k) t = v at *
            generalize (codesTo ls k)[k]'(by rw [codesTo_len]; exact hkl) = oc at *
            clear hcv hbd hct hcz of
            have HAR := Lib.hid (show Arr (((wr.setCell ⟨w2.heap.size + 1 + 1, k * 2, none⟩ (.int .u32 (v : Int))).setCell ⟨w2.heap.size + 1 + 1, k * 2 + 1, none⟩ (.int .i64 (t : Int))).setCell ⟨w2.heap.size, t, none⟩ (.int .u32 ((v : Int) + 1))) w2.heap.size (cU (nxtL ls (k + 1))) from by
              rw [HNX.out, show ((v + 1 : Nat) : Int) = (v : Int) + 1 by omega]
              exact ((HN.out.far (p := ⟨w2.heap.size + 1 + 1, k * 2, none⟩) (by show w2.heap.size + 1 + 1 ≠ w2.heap.size; omega) _).far (p := ⟨w2.heap.size + 1 + 1, k * 2 + 1, none⟩) (by show w2.heap.size + 1 + 1 ≠ w2.heap.size; omega) _).set t _)
            have HOR := Lib.hid (show ownC (((wr.setCell ⟨w2.heap.size + 1 + 1, k * 2, none⟩ (.int .u32 (v : Int))).setCell ⟨w2.heap.size + 1 + 1, k * 2 + 1, none⟩ (.int .i64 (t : Int))).setCell ⟨w2.heap.size, t, none⟩ (.int .u32 ((v : Int) + 1))) (w2.heap.size + 1 + 1) (.slice (some ⟨w2.heap.size + 1 + 1, 0, none⟩) n n) (codesTo ls (k + 1)) from by
              rw [HST.out]
              exact (HO.out.store (by rw [codesTo_len, HL.out]) k (v, (t : Int)) (by rw [codesTo_len]; exact hkl)).far (by intro e; injection e with e; have e2 : w2.heap.size + 1 + 1 = w2.heap.size := e; omega) _ _)
            have HBR := Lib.hid (((HB.out.setCell (p := ⟨w2.heap.size + 1 + 1, k * 2, none⟩) (by show w.heap.size ≤ w2.heap.size + 1 + 1; omega) (.int .u32 (v : Int))).setCell (p := ⟨w2.heap.size + 1 + 1, k * 2 + 1, none⟩) (by show w.heap.size ≤ w2.heap.size + 1 + 1; omega) (.int .i64 (t : Int))).setCell (p := ⟨w2.heap.size, t, none⟩) (by show w.heap.size ≤ w2.heap.size; omega) (.int .u32 ((v : Int) + 1)))
            clear HN HO HB
            go_wp2
            go_roundw
            case rel => exact ⟨k + 1, by omega, by go_num, HAR, HOR, HBR⟩
            case measure => simp [intOf]; omega
          · have hx0 : ¬ (0 : Int) < (t : Int) := by omega
            have HST := Lib.hid (codesTo_same ls hkl (codeAt_zero HX.out hx0))
            have HNX := Lib.hid (nxtL_same HX.out hx0)
            go_wp2
            go_roundw
            case rel => exact ⟨k + 1, by omega, by go_num, (show Arr _ _ _ by rw [HNX.out]; exact HN.out), (show ownC _ _ _ _ by rw [HST.out]; exact HO.out), HB⟩
            case measure => simp [intOf]; omega
        · obtain rfl : k = n := by omega
          go_wp2
          go_ret2
          refine ⟨some ⟨w2.heap.size + 1 + 1, 0, none⟩, k, k, ret_tup2 rfl (by rw [HE.out.1]; rfl), ?_, ?_, HB.out⟩
          · rw [HE.out.2, ← codesTo_end, codesTo_len, HL.out]
          · rw [HE.out.2, ← codesTo_end, HL.out]
            exact HO.out.mono (by omega)
  · have HE : Hid (cdE ls = 1 ∧ cdL ls = []) := (show _ ∧ _ by
      have : cdE ls = 1 := by unfold cdE; rw [if_neg (by rw [he]; decide)]
      refine ⟨this, ?_⟩
      unfold cdL
      rw [if_neg (by rw [this]; decide)])
    rw [he] at HK
    generalize krV ls = K at HK
    clear h hl he
    go_enter Try.func80, Try.ntmps80
    go_wp2_with (go_at_call 93; (with_reducible refine HK.out.mono ?_); go_must (rintro e w1 ⟨rfl, rfl⟩))
    go_ret2
    exact ⟨none, 0, 0, ret_tup2 rfl (by rw [HE.out.1]; rfl), by rw [HE.out.2]; rfl, by rw [HE.out.2]; exact ownC.nil_ _ _, Below.refl _ _⟩
end Go.Proofs.Yteoolehdomjkkaa
