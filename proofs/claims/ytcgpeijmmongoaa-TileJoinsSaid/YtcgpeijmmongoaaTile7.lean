/- tile: Join. -/
import Derived.Test.YtcgpeijmmongoaaTile7a
import Derived.Test.YtcgpeijmmongoaaRas
import Derived.Test.YtcgpeijmmongoaaBox2
import Derived.Test.YtcgpeijmmongoaaTile6
import Derived.Deep.RegionHeld3
namespace Go.Proofs.Ytcgpeijmmongoaa
set_option linter.all false
open Go.RowKit

/-- Does a tile fit its place? -/
def Sh.fit (s : Sh) (l : List Ra) (j : Nat) : Bool := match l[j]? with
  | some x => decide (x.s = s.part j) && x.s.mayR x.n
  | none => false
def Sh.joinE (s : Sh) (l : List Ra) : Int := if s.may then (if (l.length : Int) = s.gw * s.gh then (if (List.range l.length).all (s.fit l) then 0 else 13) else 1) else 4
def Sh.joinB (s : Sh) (l : List Ra) (k : Nat) : List UInt8 := TG.join s.W s.H s.B (l.map Ra.bs) k
def Sh.joinR (s : Sh) (l : List Ra) : Sh × List UInt8 := if s.joinE l = 0 then (s, s.joinB l l.length) else (⟨0, 0, 0, 0⟩, [])
theorem Sh.fit_at {s : Sh} {l : List Ra} {j : Nat} (hj : j < l.length) : s.fit l j = (decide (l[j].s = s.part j) && l[j].s.mayR l[j].n) := by
  unfold Sh.fit
  rw [List.getElem?_eq_getElem hj]
theorem Sh.fit_len {s : Sh} {l : List Ra} {j : Nat} (hm : s.may = true) (hj : j < l.length) (hk : (j : Int) < s.gw * s.gh) (h : s.fit l j = true) : l[j].n = TG.tH s.W s.H j * TG.tN s.W s.B j := by
  rw [Sh.fit_at hj] at h
  simp only [Bool.and_eq_true, decide_eq_true_eq] at h
  obtain ⟨h1, h2⟩ := h
  unfold Sh.mayR at h2
  simp only [Bool.and_eq_true, decide_eq_true_eq] at h2
  have := h2.2
  rw [h1, Sh.part_size hm hk] at this
  omega
theorem Sh.B_le {s : Sh} (h : s.nums = true) : s.B ≤ 8 := by
  obtain ⟨c, d, e, eb, c1, c2, d1, -⟩ := Sh.nat h
  rw [eb]
  rcases d1 with rfl | rfl <;> omega
theorem ownB.lenOf {w : World} {base n c : Nat} {A : Option Addr} {bs : List UInt8} (h : ownB w base (.slice A n c) bs) : bs.length = n := by
  obtain ⟨A', c', e, -⟩ := h.form
  injection e with _ e _
  exact e.symm
theorem Sh.fits_of {s : Sh} {l : List Ra} (h : ∀ j, j < l.length → s.fit l j = true) : (List.range l.length).all (s.fit l) = true := by
  rw [List.all_eq_true]
  intro j hj
  exact h j (List.mem_range.1 hj)
theorem Sh.fits_not {s : Sh} {l : List Ra} {j : Nat} (hj : j < l.length) (h : s.fit l j = false) : (List.range l.length).all (s.fit l) = false := by
  cases e : (List.range l.length).all (s.fit l) with
  | false => rfl
  | true =>
    rw [List.all_eq_true] at e
    rw [e j (List.mem_range.2 hj)] at h
    cases h

set_option maxHeartbeats 1600000 in
theorem join_early (s : Sh) (n c : Nat) (A : Option Addr) (w : World) (E : Int) (h : (s.may = false ∧ E = 4) ∨ (s.may = true ∧ (n : Int) ≠ s.gw * s.gh ∧ E = 1)) :
    Calls Try.prog 31 #[s.v, .slice A n c] w fun e w' => e = .returned (.tuple #[(⟨0, 0, 0, 0⟩ : Sh).r none 0 0, .int .i64 E]) ∧ Below w.heap.size w w' := by
  have hB := Below.refl w.heap.size w
  have HG := Lib.hid (fun w => grid_any s w)
  rcases h with ⟨hm, rfl⟩ | ⟨hm, hn, rfl⟩
  · have g0 : s.gw = 0 := by unfold Sh.gw; rw [hm]; rfl
    have HG0 := Lib.hid g0
    clear g0 hm
    dsimp only [Sh.v, Sh.r] at *
    go_enter Try.func31, Try.ntmps31
    go_wp2_with (first
      | (go_at_call 16; (with_reducible refine (HG.out _).mono ?_); go_must (rintro e w2 ⟨rfl, hb1⟩; rw [HG0.out]; have rr := box5 hb1; rw [World.size_alloc] at rr; have ff := boxF hb1; rw [World.size_alloc] at ff; replace hb1 := bxd hb1; have cS := box4 hb1; replace hB := bxd hb1; clear hb1)))
    refine bodyPost_ret (v := .tuple #[.agg #[.int .i64 0, .int .i64 0, .int .i64 0, .int .i64 0, .slice none 0 0], .int .i64 4]) ?_ rfl ?_
    · unfold results
      go_simp
    · exact ⟨rfl, Below.set5 hB (Nat.le_succ _) _ _ _ _ _⟩
  · obtain ⟨a1, a2, a3, a4, -, -⟩ := Sh.gw_rng hm
    have hmul : s.gw * s.gh ≤ 32 * 32 := Int.mul_le_mul a2 a4 (by omega) (by omega)
    have hmul0 : 0 ≤ s.gw * s.gh := Int.mul_nonneg (by omega) (by omega)
    have hne : ((n : Int) != s.gw * s.gh) = true := by simpa using hn
    have hz : (s.gw == 0) = false := by rw [beq_eq_false_iff_ne]; omega
    clear hm hn
    dsimp only [Sh.v, Sh.r] at *
    generalize s.gw = gw at HG hne hz hmul hmul0
    generalize s.gh = gh at HG hne hmul hmul0
    go_enter Try.func31, Try.ntmps31
    go_wp2_with (first
      | (go_at_call 16; (with_reducible refine (HG.out _).mono ?_); go_must (rintro e w2 ⟨rfl, hb1⟩; have rr := box5 hb1; rw [World.size_alloc] at rr; have ff := boxF hb1; rw [World.size_alloc] at ff; replace hb1 := bxd hb1; have cS := box4 hb1; replace hB := bxd hb1; clear hb1)))
    refine bodyPost_ret (v := .tuple #[.agg #[.int .i64 0, .int .i64 0, .int .i64 0, .int .i64 0, .slice none 0 0], .int .i64 1]) ?_ rfl ?_
    · unfold results
      go_simp
    · exact ⟨rfl, Below.set5 hB (Nat.le_succ _) _ _ _ _ _⟩

set_option maxRecDepth 100000 in
set_option maxHeartbeats 6400000 in
theorem join_loop (s : Sh) (B n c : Nat) (A : Option Addr) (l : List Ra) (w : World) (hr : RdR w B A n l) (hB1 : B ≤ w.heap.size) (hc : n ≤ c) (hmx : c ≤ maxLen) (hm : s.may = true) (hn : (n : Int) = s.gw * s.gh) :
    Calls Try.prog 31 #[s.v, .slice A n c] w fun e w' => ∃ A' n' c', e = .returned (.tuple #[(s.joinR l).1.r A' n' c', .int .i64 (s.joinE l)]) ∧ ownB w' w.heap.size (.slice A' n' c') (s.joinR l).2 ∧ Below w.heap.size w w' := by
  have hB := Below.refl w.heap.size w
  have HG := Lib.hid (fun w => grid_any s w)
  have hnum := Sh.may_nums hm
  have HW := Lib.hid (Sh.B_pos hnum)
  have HS := Lib.hid hm
  obtain ⟨r1, r2, r3, r4, -, -⟩ := Sh.gw_rng hm
  have HQ := Lib.hid (fun w => size_any s w)
  have hsz := Sh.size_nat hnum
  rw [hsz] at HQ
  have hm2 : s.H * (s.W * s.B) ≤ 16384 := by unfold Sh.may at hm; simp at hm; omega
  obtain ⟨m, hmm⟩ : ∃ m, m = s.H * (s.W * s.B) := ⟨_, rfl⟩
  rw [← hmm] at HQ hm2
  have HM := Lib.hid hmm
  have hmul : s.gw * s.gh ≤ 32 * 32 := Int.mul_le_mul r2 r4 (by omega) (by omega)
  have HN := Lib.hid hn
  have hnn : n ≤ 1024 := by omega
  have HLL := Lib.hid hr.len
  have HP := Lib.hid (fun (k : Nat) (hk : k < n) (w : World) => part_any s k w hm (by omega) (by omega))
  have HR := Lib.hid hr
  have hne : ((n : Int) != s.gw * s.gh) = false := by simpa using hn
  have hz : (s.gw == 0) = false := by rw [beq_eq_false_iff_ne]; omega
  have b1 : s.gw * s.gh ≤ 1024 := hmul
  have b2 : 0 ≤ s.gw * s.gh := by omega
  have hmk : ∀ w, (Instr.makeSlice 31 (.int .i64 (m : Int)) (.int .i64 (m : Int))).run Try.prog w = .ok (.slice (some ⟨w.heap.size, 0, none⟩) m m) (w.alloc (zeroObj m)) := fun w => run_makeB w m (by omega)
  clear hm hnum hsz hmm r1 r2 r3 r4 hmul hn hr
  dsimp only [Sh.v] at *
  generalize hgw : s.gw = gw at HG hne hz b1 b2
  generalize hgh : s.gh = gh at HG hne b1 b2
  clear hgw hgh
  go_enter Try.func31, Try.ntmps31
  go_upto_region 6 with (first
    | (go_at_call 16; (with_reducible refine (HG.out _).mono ?_); go_must (rintro e w1 ⟨rfl, hb1⟩; have rr := box5 hb1; rw [World.size_alloc] at rr; have ff := boxF hb1; rw [World.size_alloc] at ff; replace hb1 := bxd hb1; have cS := box4 hb1; replace hB := bxd hb1; clear hb1)))
  have hw1 : w.heap.size + 1 < w1.heap.size := ltOf rr rfl
  have hw1' : w.heap.size < w1.heap.size := by omega
  go_cut [8] (fun q wc => ∃ gt g, q = .pointer (some ⟨gt, 0, none⟩) ∧ (gt ≠ g ∧ w.heap.size + 2 ≤ g ∧ w.heap.size + 2 ≤ gt ∧ g < wc.heap.size) ∧ (∀ i, wc.cell? ⟨gt, i, none⟩ = r5 (.int .i64 s.w) (.int .i64 s.h) (.int .i64 s.c) (.int .i64 s.d) (.slice (some ⟨g, 0, none⟩) m m) i) ∧ ownB wc (w.heap.size + 2) (.slice (some ⟨g, 0, none⟩) m m) (List.replicate m 0) ∧ (∀ i, wc.cell? ⟨w.heap.size, i, none⟩ = s4 (.int .i64 s.w) (.int .i64 s.h) (.int .i64 s.c) (.int .i64 s.d) i) ∧ (∀ i, wc.cell? ⟨w.heap.size + 1, i, none⟩ = r5 (.int .i64 0) (.int .i64 0) (.int .i64 0) (.int .i64 0) (.slice none 0 0) i) ∧ (∀ i, wc.frozen? ⟨w.heap.size + 1, i, none⟩ = false) ∧ Below w.heap.size w wc)
  case first =>
    go_region_held3 (fun w' => ∀ i, w'.cell? ⟨w.heap.size, i, none⟩ = s4 (.int .i64 s.w) (.int .i64 s.h) (.int .i64 s.c) (.int .i64 s.d) i)
      (first | (with_reducible exact cS) | (repeat (first | with_reducible exact cS | ((with_reducible refine keptS5 ?_ ?_ _ _ _ _ _); rotate_left 1; omega) | (with_reducible refine kD4 ?_) | (with_reducible refine kA4 ?_ _) | (with_reducible refine kX4 hb3 ?_) | (with_reducible refine kDX4 hb3 ?_))))
      (first | (go_at_call 36; (with_reducible refine (HQ.out _).mono ?_); go_must (rintro e w3 ⟨rfl, hb3⟩; obtain ⟨hc3, hf3⟩ := bcell hb3; (first | have z3 : w1.heap.size + 1 ≤ w3.heap.size := (by have := hb3.size; simpa using this) | have z3 : w1.heap.size ≤ w3.heap.size := (by have := hb3.size; simpa using this)); (try (have z5 : w1.heap.size < w3.heap.size := (by omega))); (try (have z6 : ¬ w1.heap.size = w3.heap.size := (by omega))))))
    all_goals
      go_wp2_with fail
      go_meet
      case rel =>
        have q0 := hB.size
        have cS3 : ∀ i, w3.cell? ⟨w.heap.size, i, none⟩ = s4 (.int .i64 s.w) (.int .i64 s.h) (.int .i64 s.c) (.int .i64 s.d) i := (by first | with_reducible exact kDX4 hb3 cS | with_reducible exact kDX4 hb3 (kA4 cS _))
        have rr3 : ∀ i, w3.cell? ⟨w.heap.size + 1, i, none⟩ = r5 (.int .i64 0) (.int .i64 0) (.int .i64 0) (.int .i64 0) (.slice none 0 0) i := (by first | with_reducible exact kDX5 hb3 rr | with_reducible exact kDX5 hb3 (kA5 rr _))
        have ff3 : ∀ i, w3.frozen? ⟨w.heap.size + 1, i, none⟩ = false := (by first | with_reducible exact keptFD hw1 ff hb3 | with_reducible exact keptFD (by simp only [World.size_alloc]; omega) (keptFA hw1 ff _) hb3)
        have hBr3 : Below w.heap.size w w3 := (by first | with_reducible exact bstep (Below.drew hB) hb3 (Nat.le_refl _) | with_reducible exact bstep (Below.drew (Below.alloc hB hB.size _)) hb3 (Nat.le_refl _))
        have q3 := hBr3.size
        first
          | (with_reducible refine ⟨w3.heap.size + 1, w3.heap.size, rfl, ?_, ?_, ?_, ?_, ?_, ?_, ?_⟩
             · exact ⟨by omega, by omega, by omega, by simp <;> omega⟩
             · with_reducible exact new5' w3 _ _ _ _ _ _ _ _
             · exact ((own_zero w3 m (by omega)).mono (base' := w.heap.size + 2) (by omega)).alloc _
             · with_reducible exact kA4 (kA4 cS3 _) _
             · with_reducible exact kA5 (kA5 rr3 _) _
             · exact keptFA (by simp only [World.size_alloc]; omega) (keptFA (by omega) ff3 _) _
             · exact (hBr3.alloc hBr3.size _).alloc (by simp only [World.size_alloc]; omega) _)
          | (with_reducible refine ⟨w3.heap.size, w3.heap.size + 1, rfl, ?_, ?_, ?_, ?_, ?_, ?_, ?_⟩
             · exact ⟨by omega, by omega, by omega, by simp <;> omega⟩
             · with_reducible exact kA5 (new5 w3 _ _ _ _ _ _ _) _
             · exact ownB.mono (base' := w.heap.size + 2) (by simpa only [World.size_alloc] using own_zero (w3.alloc _) m (by omega)) (by omega)
             · with_reducible exact kA4 (kA4 cS3 _) _
             · with_reducible exact kA5 (kA5 rr3 _) _
             · exact keptFA (by simp only [World.size_alloc]; omega) (keptFA (by omega) ff3 _) _
             · exact (hBr3.alloc hBr3.size _).alloc (by simp only [World.size_alloc]; omega) _)
          | (with_reducible refine ⟨w1.heap.size, w3.heap.size, rfl, ?_, ?_, ?_, ?_, ?_, ?_, ?_⟩
             · exact ⟨by omega, by omega, by omega, by simp <;> omega⟩
             · with_reducible exact kA5 (set5 (kDX5 hb3 (new5 w1 _ _ _ _ _ _ _)) _ _ _ _ _) _
             · refine ownB.mono (base' := w.heap.size + 2) ?_ (show w.heap.size + 2 ≤ w3.heap.size by omega)
               have := own_zero (((((w3.setCell ⟨w1.heap.size, 0, none⟩ (.int .i64 s.w)).setCell ⟨w1.heap.size, 1, none⟩ (.int .i64 s.h)).setCell ⟨w1.heap.size, 2, none⟩ (.int .i64 s.c)).setCell ⟨w1.heap.size, 3, none⟩ (.int .i64 s.d)).setCell ⟨w1.heap.size, 4, none⟩ (.slice (some ⟨w3.heap.size, 0, none⟩) m m)) m (by omega)
               simpa using this
             · with_reducible exact kA4 (keptS5 cS3 (by omega) _ _ _ _ _) _
             · with_reducible exact kA5 (keptS5 rr3 (by omega) _ _ _ _ _) _
             · exact keptFA (by simp; omega) (keptF5 ff3 _ _ _ _ _) _
             · exact (Below.set5 hBr3 (by omega) _ _ _ _ _).alloc (by simp; omega) _)
  case rest =>
    clear cS rr ff hB hw1 hw1'
    obtain ⟨gt, g, rfl, ⟨t1, t2, t3, t4⟩, cT, hZ, cS, rr, ff, hB⟩ := hcut
    have HZ : Hid (ownB wc (w.heap.size + 2) (.slice (some ⟨g, 0, none⟩) m m) (s.joinB l 0)) := by
      show ownB _ _ _ _
      have : s.joinB l 0 = List.replicate m 0 := by unfold Sh.joinB TG.join; rw [HM.out]
      rw [this]
      exact hZ
    have HF0 : Hid (∀ j, j < 0 → s.fit l j = true) := (show _ from fun j hj => absurd hj (by omega))
    clear hZ
    go_wp2_with fail
    go_loopw [35] (fun i wr => ∃ k : Nat, k ≤ n ∧ i = .int .i64 k ∧ Hid (∀ j, j < k → s.fit l j = true) ∧ Hid (ownB wr (w.heap.size + 2) (.slice (some ⟨g, 0, none⟩) m m) (s.joinB l k)) ∧ (∀ i, wr.cell? ⟨gt, i, none⟩ = r5 (.int .i64 s.w) (.int .i64 s.h) (.int .i64 s.c) (.int .i64 s.d) (.slice (some ⟨g, 0, none⟩) m m) i) ∧ (∀ i, wr.cell? ⟨w.heap.size, i, none⟩ = s4 (.int .i64 s.w) (.int .i64 s.h) (.int .i64 s.c) (.int .i64 s.d) i) ∧ (∀ i, wr.cell? ⟨w.heap.size + 1, i, none⟩ = r5 (.int .i64 0) (.int .i64 0) (.int .i64 0) (.int .i64 0) (.slice none 0 0) i) ∧ (∀ i, wr.frozen? ⟨w.heap.size + 1, i, none⟩ = false) ∧ Below w.heap.size w wr ∧ g < wr.heap.size)
      (fun i _ => n - (intOf i).toNat)
    case atStart => exact ⟨0, Nat.zero_le _, rfl, HF0, HZ, cT, cS, rr, ff, hB, t4⟩
    case round =>
      clear cT cS rr ff hB t4 HZ HF0
      obtain ⟨k, hk, rfl, HF, HZ, cT, cS, rr, ff, hB, t4⟩ := hrel
      have hw2 : w.heap.size + 1 < wr.heap.size := ltOf rr rfl
      have hgt : gt < wr.heap.size := ltOf cT rfl
      by_cases hlt : k < n
      · have hkl : k < l.length := by rw [HLL.out]; exact hlt
        obtain ⟨b, o, rfl, hbB, -, hcell⟩ := Rd.ras (Rd.below HR.out.1 (hB.mono hB1)) hkl
        have HX := Lib.hid (HR.out.2 l[k] (List.getElem_mem hkl))
        have HFK := Lib.hid (Sh.fit_at (s := s) hkl)
        obtain ⟨x, hx⟩ : ∃ x, x = l[k] := ⟨_, rfl⟩
        have HXX := Lib.hid hx
        rw [← hx] at hcell HX HFK
        clear hx
        obtain ⟨⟨xw, xh, xc, xd⟩, xA, xn, xcc, xbs⟩ := x
        have e0 := hcell 0 (by omega)
        have e1 := hcell 1 (by omega)
        have e2 := hcell 2 (by omega)
        have e3 := hcell 3 (by omega)
        have e4 := hcell 4 (by omega)
        clear hcell
        dsimp only [Ra.f] at e0 e1 e2 e3 e4 HX HFK
        rw [Nat.add_zero] at e0
        rw [r5_0] at e0
        rw [r5_1] at e1
        rw [r5_2] at e2
        rw [r5_3] at e3
        rw [r5_4] at e4
        have HMY := Lib.hid (fun w => may_any ⟨xw, xh, xc, xd⟩ xA xn xcc w)
        have HPk := Lib.hid (HP.out k hlt)
        obtain ⟨⟨pw, ph, pc, pd⟩, hpp⟩ : ∃ p, p = s.part (k : Int) := ⟨_, rfl⟩
        rw [← hpp] at HPk HFK
        have HPP := Lib.hid hpp
        clear hpp
        dsimp only [Sh.r, Sh.v] at HMY HPk HFK
        go_upto_region 10 with (fail)
        go_cut [50] (fun q wc => q = .bool (!s.fit l k) ∧ (∀ i, wc.cell? ⟨wr.heap.size, i, none⟩ = r5 (.int .i64 xw) (.int .i64 xh) (.int .i64 xc) (.int .i64 xd) (.slice xA xn xcc) i) ∧ Below wr.heap.size wr wc)
        case first =>
          have cX := new5 wr (.int .i64 xw) (.int .i64 xh) (.int .i64 xc) (.int .i64 xd) (.slice xA xn xcc) 33 (0, 0)
          by_cases heq : (⟨xw, xh, xc, xd⟩ : Sh) = ⟨pw, ph, pc, pd⟩
          · injection heq with q1 q2 q3 q4
            subst q1 q2 q3 q4
            go_region_held3 (fun w' => (∀ i, w'.cell? ⟨w.heap.size, i, none⟩ = s4 (.int .i64 s.w) (.int .i64 s.h) (.int .i64 s.c) (.int .i64 s.d) i) ∧ (∀ i, w'.cell? ⟨wr.heap.size, i, none⟩ = r5 (.int .i64 xw) (.int .i64 xh) (.int .i64 xc) (.int .i64 xd) (.slice xA xn xcc) i))
              (first | (with_reducible exact ⟨kA4 cS _, cX⟩) | (refine ⟨?_, ?_⟩ <;> (repeat (first | with_reducible exact cS | with_reducible exact cX | (with_reducible refine kD4 ?_) | (with_reducible refine kA4 ?_ _) | (with_reducible refine kD5 ?_) | (with_reducible refine kA5 ?_ _) | (with_reducible refine kX4 hb3 ?_) | (with_reducible refine kDX4 hb3 ?_) | (with_reducible refine kX5 hb3 ?_) | (with_reducible refine kDX5 hb3 ?_) | (with_reducible refine kX4 hb5 ?_) | (with_reducible refine kDX4 hb5 ?_) | (with_reducible refine kX5 hb5 ?_) | (with_reducible refine kDX5 hb5 ?_)))))
              (first
                | (go_at_call 57; (with_reducible refine (HPk.out _).mono ?_); go_must (rintro e w3 ⟨rfl, hb3⟩))
                | (go_at_call 20; (with_reducible refine (HMY.out _).mono ?_); go_must (rintro e w5 ⟨rfl, hb5⟩)))
            all_goals
              go_wp2_with fail
              go_meet
              case rel =>
                refine ⟨?_, ?_, ?_⟩
                · rw [HFK.out]; simp
                · (repeat (first | with_reducible exact cX | (with_reducible refine kD5 ?_) | (with_reducible refine kA5 ?_ _) | (with_reducible refine kX5 hb5 ?_) | (with_reducible refine kDX5 hb5 ?_) | (with_reducible refine kX5 hb3 ?_) | (with_reducible refine kDX5 hb3 ?_)))
                · have h3 : Below wr.heap.size wr w3 := (by first | with_reducible exact bstep (Below.drew (Below.alloc (Below.refl _ _) (Nat.le_refl _) _)) hb3 (Nat.le_refl _) | with_reducible exact bstep (Below.alloc (Below.refl _ _) (Nat.le_refl _) _) hb3 (Nat.le_refl _))
                  (first | with_reducible exact bstep h3 hb5 (Nat.le_refl _) | with_reducible exact bstep (Below.drew h3) hb5 (Nat.le_refl _))
          · have HFN : Hid (s.fit l k = false) := (show _ = _ by rw [HFK.out, decide_eq_false heq]; rfl)
            have cS' := kA4 cS (.cells #[.int .i64 xw, .int .i64 xh, .int .i64 xc, .int .i64 xd, .slice xA xn xcc] 33 (0, 0))
            have hne4 : ¬ xw = pw ∨ (xw = pw ∧ ¬ xh = ph) ∨ (xw = pw ∧ xh = ph ∧ ¬ xc = pc) ∨ (xw = pw ∧ xh = ph ∧ xc = pc ∧ ¬ xd = pd) := by
              by_cases q1 : xw = pw
              · by_cases q2 : xh = ph
                · by_cases q3 : xc = pc
                  · by_cases q4 : xd = pd
                    · exact absurd (by rw [q1, q2, q3, q4]) heq
                    · exact .inr (.inr (.inr ⟨q1, q2, q3, q4⟩))
                  · exact .inr (.inr (.inl ⟨q1, q2, q3⟩))
                · exact .inr (.inl ⟨q1, q2⟩)
              · exact .inl q1
            clear heq
            rcases hne4 with h | ⟨rfl, h⟩ | ⟨rfl, rfl, h⟩ | ⟨rfl, rfl, rfl, h⟩
            all_goals
              have hd := beq_eq_false_iff_ne.2 h
              go_region_with (first
                | (go_at_call 57; (with_reducible refine (HPk.out _).mono ?_); go_must (rintro e w3 ⟨rfl, hb3⟩; have cX3 : ∀ i, w3.cell? ⟨wr.heap.size, i, none⟩ = r5 (.int .i64 xw) (.int .i64 xh) (.int .i64 xc) (.int .i64 xd) (.slice xA xn xcc) i := (by (repeat (first | with_reducible exact cX | (with_reducible refine kD5 ?_) | (with_reducible refine kX5 hb3 ?_) | (with_reducible refine kDX5 hb3 ?_)))); have cS3 : ∀ i, w3.cell? ⟨w.heap.size, i, none⟩ = s4 (.int .i64 s.w) (.int .i64 s.h) (.int .i64 s.c) (.int .i64 s.d) i := (by (repeat (first | with_reducible exact cS' | (with_reducible refine kD4 ?_) | (with_reducible refine kX4 hb3 ?_) | (with_reducible refine kDX4 hb3 ?_)))))))
              all_goals
                go_wp2_with fail
                go_meet
                case rel =>
                  exact ⟨by rw [HFN.out]; rfl, cX3, (by first | with_reducible exact bstep (Below.drew (Below.alloc (Below.refl _ _) (Nat.le_refl _) _)) hb3 (Nat.le_refl _) | with_reducible exact bstep (Below.alloc (Below.refl _ _) (Nat.le_refl _) _) hb3 (Nat.le_refl _))⟩
        case rest =>
          obtain ⟨rfl, cX, hbr⟩ := hcut
          replace cS := kept cS rfl hbr
          replace cT := kept cT rfl hbr
          replace rr := kept rr rfl hbr
          replace ff := keptF hw2 ff hbr
          replace hB := bstep hB hbr (Nat.le_refl _)
          replace HZ := Lib.hid (HZ.out.later hbr)
          have hbs := hbr.size
          have hrl : wr.heap.size < wc.heap.size := ltOf cX rfl
          clear hbr e0 e1 e2 e3 e4
          have hkl : k < l.length := by rw [HLL.out]; exact hlt
          cases hf : s.fit l k with
          | false =>
            have HE : Hid (s.joinE l = 13) := (show _ = _ by unfold Sh.joinE; rw [HS.out, if_pos rfl, if_pos (by rw [HLL.out]; exact HN.out), Sh.fits_not hkl hf]; rfl)
            have HJ : Hid (s.joinR l = (⟨0, 0, 0, 0⟩, [])) := (show _ = _ by unfold Sh.joinR; rw [if_neg (by rw [HE.out]; decide)])
            clear hf
            go_wp2_with fail
            refine bodyPost_ret (v := .tuple #[.agg #[.int .i64 0, .int .i64 0, .int .i64 0, .int .i64 0, .slice none 0 0], .int .i64 13]) ?_ rfl ?_
            · unfold results
              go_simp
            · rw [HE.out, HJ.out]
              exact ⟨_, _, _, rfl, ownB.nil_ _ _, Below.set5 hB (by omega) _ _ _ _ _⟩
          | true =>
            have HXL : Hid (xn = TG.tH s.W s.H k * TG.tN s.W s.B k) := (show _ = _ by have := Sh.fit_len HS.out hkl (by rw [← HN.out]; omega) hf; rw [← HXX.out] at this; exact this)
            have HLB : Hid ((s.joinB l k).length = m) := (show _ = _ from ownB.lenOf HZ.out)
            have HJ1 : Hid (TG.put s.W s.B xbs k (s.joinB l k) (TG.tH s.W s.H k) = s.joinB l (k + 1)) := by
              show _ = _
              unfold Sh.joinB
              rw [TG.join]
              congr 1
              have : (l.map Ra.bs).getD k [] = l[k].bs := by simp [List.getD, hkl]
              rw [this, ← HXX.out]
            have HF1 : Hid (∀ j, j < k + 1 → s.fit l j = true) := (show _ from fun j hj => by
              by_cases e : j = k
              · rw [e]; exact hf
              · exact HF.out j (by omega))
            have hxn : xn ≤ 16384 := by
              have h8 : TG.tH s.W s.H k * TG.tN s.W s.B k ≤ 8 * (8 * 8) := by
                have hb8 : s.B ≤ 8 := Sh.B_le (Sh.may_nums HS.out)
                exact Nat.mul_le_mul (by unfold TG.tH; omega) (Nat.le_trans (TG.tN_8 _ _ _) (Nat.mul_le_mul_left _ hb8))
              rw [HXL.out]; omega
            clear hf
            have hmf : ∀ (fn : Fn) (first cap : Array Value) (w : World), (Instr.makeFunc fn first cap).run Try.prog w = .ok (.func fn first cap) w := fun _ _ _ _ => rfl
            have HRR := Lib.hid (fun (w' : World) (h1 : B ≤ w'.heap.size) (h2 : g < w'.heap.size) (h3 : gt ≠ g) (h4 : wr.heap.size ≠ g) => rowsJoin_fill s k B gt wr.heap.size g m xn xcc (w.heap.size + 2) xA xbs (s.joinB l k) (.int .i64 s.w) (.int .i64 s.h) (.int .i64 s.c) (.int .i64 s.d) (.int .i64 xw) (.int .i64 xh) (.int .i64 xc) (.int .i64 xd) w' HS.out (by rw [← HN.out]; omega) h1 (by omega) h2 h3 h4 HLB.out HM.out HXL.out (by omega) (by omega) HX.out.2.1 HX.out.2.2)
            dsimp only [Sh.v] at HRR
            go_wp2_with (first
              | (go_at_call 59; go_must (refine (HRR.out _ (by have := hB.size; omega) (by omega) t1 (by omega) cT cX HZ.out (HX.out.1.blw (hB.mono hB1))).mono ?_; rintro e w6 ⟨rfl, ho6, hg6⟩; replace cT := kG5 cT hg6 t1; replace cS := kG4 cS hg6 (by omega); replace rr := kG5 rr hg6 (by omega); replace ff := keptFG (by omega) ff hg6 (by omega); replace HZ := Lib.hid (HJ1.out ▸ ho6); replace hB := hB.trans (below_grown hg6 hB.size (by omega)); have t6 : g < w6.heap.size := (by have := hg6.size; omega); clear hg6 ho6)))
            go_roundw
            case rel => exact ⟨k + 1, by omega, by go_num, HF1, HZ, cT, cS, rr, ff, hB, t6⟩
            case measure => simp [intOf]; omega
      · obtain rfl : k = n := by omega
        have HE : Hid (s.joinE l = 0) := (show _ = _ by unfold Sh.joinE; rw [HS.out, if_pos rfl, if_pos (by rw [HLL.out]; exact HN.out), Sh.fits_of (fun j hj => HF.out j (by rw [HLL.out] at hj; exact hj))]; rfl)
        have HJ : Hid (s.joinR l = (s, s.joinB l k)) := (show _ = _ by unfold Sh.joinR; rw [if_pos HE.out, HLL.out])
        go_wp2_with fail
        refine bodyPost_ret (v := .tuple #[.agg #[.int .i64 s.w, .int .i64 s.h, .int .i64 s.c, .int .i64 s.d, .slice (some ⟨g, 0, none⟩) m m], .int .i64 0]) ?_ rfl ?_
        · unfold results
          go_simp
        · rw [HE.out, HJ.out]
          exact ⟨_, _, _, rfl, (HZ.out.far5 (by intro e; have e2 : g = w.heap.size + 1 := (by injection e); omega) _ _ _ _ _).mono (by omega), Below.set5 hB (by omega) _ _ _ _ _⟩

end Go.Proofs.Ytcgpeijmmongoaa
