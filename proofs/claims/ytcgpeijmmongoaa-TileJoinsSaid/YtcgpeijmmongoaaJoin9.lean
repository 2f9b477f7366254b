/- tile: Join of the reference. -/
import Derived.Test.YtcgpeijmmongoaaCuts1
import Derived.Deep.RegionHeld3
import Derived.Deep.RegionLaw
namespace Go.Proofs.Ytcgpeijmmongoaa
set_option linter.all false
open Go.RowKit

/-- copy(d, s) into a row of the call's own, as a step of a region that draws its order. -/
theorem step_copyM {ops : Array Oper} {o : Oper} {a : Act} {w : World} {K : Act → World → Prop} {Q : Exit → Act → World → Prop} {E : Prop} (hgd : o.guard = none) (d s : Operand)
    (ho : o.op = .call { callee := .builtin .copy, args := #[d, s], argTypes := #[31, 31] })
    (base g n c : Nat) (bs : List UInt8) (hown : ownB w base (.slice (some ⟨g, 0, none⟩) n c) bs) (hn : n = bs.length) (p dl dc : Nat) (hd : a.eval d = .slice (some ⟨g, p, none⟩) dl dc)
    (B m sc : Nat) (A : Option Addr) (src : List UInt8) (hs : a.eval s = .slice A m sc) (hr0 : RdB w B A m src) (hml : dl ≤ m) (hd1 : 1 ≤ dl) (hfit : p + dl ≤ n)
    (h : ∀ w', ownB w' base (.slice (some ⟨g, 0, none⟩) n c) (splice bs p (src.take dl)) → w.grownBy w' (some g) → K (a.put o.dst (.int .i64 (dl : Int))) w') :
    if Region.wanted o (yielded ops a.tmps) = true then Oper.wp Try.prog o a w K Q else E := by
  have hw : Region.wanted o (yielded ops a.tmps) = true := by simp [Region.wanted, hgd]
  rw [if_pos hw]
  have hr : RdB w B A dl (src.take dl) := by have := RdB.cut hr0 (k := 0) (m := dl) (A' := A) (by omega) (fun h => by obtain ⟨b, o, e, -⟩ := hr0.at_ (by omega); rw [e, Option.map_some, add_none, Nat.add_zero]); simpa using this
  have hm := hr.len
  generalize src.take dl = news at *
  subst hn
  rcases hown.2 with ⟨hv, h0⟩ | ⟨g', cap, cur, hv, hbg, hgg, h1, h2, h3, h4⟩
  · cases hv
  · injection hv with e1 e2 e3
    injection e1 with e1
    injection e1 with e1
    subst e1 e3
    rw [Nat.mul_one] at h3 h4
    have hcl : cur.toList.length = cur.size := by simp
    have hlen : (cb news).length = dl := by rw [cb_length, hm]
    have hnc : (cb news).length = Nat.min m dl := by rw [hlen]; exact (Nat.min_eq_right hml).symm
    have fin : ∀ w', w'.heap[g]? = some (.cells (splice cur.toList p (cb news)).toArray 5 (0, 0)) → w.grownBy w' (some g) → ownB w' base (.slice (some ⟨g, 0, none⟩) bs.length c) (splice bs p news) := by
      intro w' hg' _
      refine ⟨by rw [cb_length, splice_len (by omega)]; omega, .inr ⟨g, c, (splice cur.toList p (cb news)).toArray, ?_, hbg, hg', by rw [splice_len (by omega)]; exact h1, h2, ?_, ?_⟩⟩
      · rw [splice_len (by omega)]
      · rw [List.size_toArray, length_splice _ _ _ (by rw [hlen]; omega)]
        simpa using h3
      · rw [Nat.mul_one, splice_len (by omega), cb_splice, ← h4]
        unfold splice
        rw [List.take_append, List.length_take, hlen, Nat.min_eq_left (by omega), List.take_append, hlen, List.take_take, List.take_take, List.drop_take]
        rw [List.take_of_length_le (l := cb news) (by rw [hlen]; omega)]
        rw [Nat.min_eq_right (by omega), Nat.min_eq_left (by omega)]
        congr 3
        omega
    have hgg' : w.heap[g]? = some (.cells cur.toList.toArray 5 (0, 0)) := by simpa using hgg
    have h0 : ¬ dl = 0 := by omega
    obtain ⟨b, o', e, _, hc⟩ := hr.2 (by omega)
    subst e
    have hrun := run_copy_row (P := Try.prog) w 31 31 o.type 5 g p dl dc ⟨b, o', none⟩ m sc cur 5 (cb news) Try.underlying31 (by kernel_rfl) hgg hnc (fun j v hj => by rw [add_none]; exact hc j v hj) (by rw [hlen]; omega) (cb_one _)
    unfold Oper.wp
    simp [execOp, ho, resolve, invoke, builtin, hd, hs, hrun, Result.andThen]
    have h9 : (w.setRow g (splice cur.toList p (cb news)).toArray).heap[g]? = some (.cells (splice cur.toList p (cb news)).toArray 5 (0, 0)) := setRow_heap w g _ _ _ _ hgg
    have := h _ (fin _ h9 (grown_setRow _ _ _)) (grown_setRow _ _ _)
    have e : (Value.int .i64 (dl : Int)) = goInt (cb news).length := by rw [hlen]; rfl
    rw [e] at this
    exact this

theorem cell_G {w w' : World} {b p g : Nat} {v : Value} (e : w.cell? ⟨b, p, none⟩ = some v) (h : w.grownBy w' (some g)) (hb : ¬ b = g) : w'.cell? ⟨b, p, none⟩ = some v :=
  (h.cell_far ⟨b, p, none⟩ (block_lt_of_cell (a := ⟨b, p, none⟩) e) (fun q => hb (by injection q))).trans e
theorem grown_any {w w' : World} {row : Option Nat} (h : w.grownBy w' row) : w.grownBy w' row := h

set_option maxHeartbeats 1600000 in
theorem join9_early (s : Sh) (n c : Nat) (A : Option Addr) (w : World) (E : Int) (h : (s.may = false ∧ E = 4) ∨ (s.may = true ∧ (n : Int) ≠ s.gw * s.gh ∧ E = 1)) :
    Calls Try.prog 32 #[s.v, .slice A n c] w fun e w' => e = .returned (.tuple #[(⟨0, 0, 0, 0⟩ : Sh).r none 0 0, .int .i64 E]) ∧ Below w.heap.size w w' := by
  have hB := Below.refl w.heap.size w
  have HG := Lib.hid (fun w => grid9_any s w)
  rcases h with ⟨hm, rfl⟩ | ⟨hm, hn, rfl⟩
  · have g0 : s.gw = 0 := by unfold Sh.gw; rw [hm]; rfl
    have HG0 := Lib.hid g0
    clear g0 hm
    dsimp only [Sh.v, Sh.r] at *
    go_enter Try.func32, Try.ntmps32
    go_wp2_with (first
      | (go_at_call 25; (with_reducible refine (HG.out _).mono ?_); go_must (rintro e w2 ⟨rfl, hb1⟩; rw [HG0.out]; have rr := box5 hb1; rw [World.size_alloc] at rr; have ff := boxF hb1; rw [World.size_alloc] at ff; replace hb1 := bxd hb1; have cS := box4 hb1; replace hB := bxd hb1; clear hb1)))
    refine bodyPost_ret (v := .tuple #[.agg #[.int .i64 0, .int .i64 0, .int .i64 0, .int .i64 0, .slice none 0 0], .int .i64 4]) ?_ rfl ?_
    · unfold results
      go_simp
    · exact ⟨rfl, Below.set5 hB (Nat.le_succ _) _ _ _ _ _⟩
  · obtain ⟨a1, a2, a3, a4, -, -⟩ := Sh.gw_rng hm
    have hmul : s.gw * s.gh ≤ 32 * 32 := Int.mul_le_mul a2 a4 (by omega) (by omega)
    have hmul0 : 0 ≤ s.gw * s.gh := Int.mul_nonneg (by omega) (by omega)
    have hne : ((n : Int) != s.gw * s.gh) = true := by simpa using hn
    have hz : (s.gw == 0) = false := by rw [beq_eq_false_iff_ne]; omega
    clear hm hn
    dsimp only [Sh.v, Sh.r] at *
    generalize s.gw = gw at HG hne hz hmul hmul0
    generalize s.gh = gh at HG hne hmul hmul0
    go_enter Try.func32, Try.ntmps32
    go_wp2_with (first
      | (go_at_call 25; (with_reducible refine (HG.out _).mono ?_); go_must (rintro e w2 ⟨rfl, hb1⟩; have rr := box5 hb1; rw [World.size_alloc] at rr; have ff := boxF hb1; rw [World.size_alloc] at ff; replace hb1 := bxd hb1; have cS := box4 hb1; replace hB := bxd hb1; clear hb1)))
    refine bodyPost_ret (v := .tuple #[.agg #[.int .i64 0, .int .i64 0, .int .i64 0, .int .i64 0, .slice none 0 0], .int .i64 1]) ?_ rfl ?_
    · unfold results
      go_simp
    · exact ⟨rfl, Below.set5 hB (Nat.le_succ _) _ _ _ _ _⟩

set_option maxRecDepth 100000 in
set_option maxHeartbeats 6400000 in
theorem join9_loop (s : Sh) (B n c : Nat) (A : Option Addr) (l : List Ra) (w : World) (hr : RdR w B A n l) (hB1 : B ≤ w.heap.size) (hc : n ≤ c) (hmx : c ≤ maxLen) (hm : s.may = true) (hn : (n : Int) = s.gw * s.gh) :
    Calls Try.prog 32 #[s.v, .slice A n c] w fun e w' => ∃ A' n' c', e = .returned (.tuple #[(s.joinR l).1.r A' n' c', .int .i64 (s.joinE l)]) ∧ ownB w' w.heap.size (.slice A' n' c') (s.joinR l).2 ∧ Below w.heap.size w w' := by
  have hB := Below.refl w.heap.size w
  have HG := Lib.hid (fun w => grid9_any s w)
  have hnum := Sh.may_nums hm
  have HW := Lib.hid (Sh.B_pos hnum)
  have HS := Lib.hid hm
  obtain ⟨r1, r2, r3, r4, -, -⟩ := Sh.gw_rng hm
  have HQ := Lib.hid (fun w => size9_any s w)
  have hsz := Sh.size_nat hnum
  rw [hsz] at HQ
  have hm2 : s.H * (s.W * s.B) ≤ 16384 := by unfold Sh.may at hm; simp at hm; omega
  obtain ⟨m, hmm⟩ : ∃ m, m = s.H * (s.W * s.B) := ⟨_, rfl⟩
  rw [← hmm] at HQ hm2
  have HM := Lib.hid hmm
  have hmul : s.gw * s.gh ≤ 32 * 32 := Int.mul_le_mul r2 r4 (by omega) (by omega)
  have HN := Lib.hid hn
  have hnn : n ≤ 1024 := by omega
  have HLL := Lib.hid hr.len
  have HP := Lib.hid (fun (k : Nat) (hk : k < n) (w : World) => tile9_ok s k w hm (by omega) (by omega))
  have HRO := Lib.hid (fun p w => row9_any p w)
  have HT := Lib.hid (fun (k : Nat) (hk : k < n) => (⟨Sh.part_row hm (j := k) (by omega), Sh.part_h hm k, fun q => Sh.at_nat hm (j := k) (by omega) q, Sh.rows_facts hm (Int.natCast_nonneg k) (by omega)⟩ : (s.part (k : Int)).row = _ ∧ _ ∧ (∀ q : Nat, _) ∧ _))
  obtain ⟨⟨n1, n2⟩, ⟨n3, n4⟩, ⟨n5, n6⟩, n7⟩ := (Sh.nums_iff s).1 hnum
  have g1 : 1 ≤ s.gw := r1
  have HR := Lib.hid hr
  have hne : ((n : Int) != s.gw * s.gh) = false := by simpa using hn
  have hz : (s.gw == 0) = false := by rw [beq_eq_false_iff_ne]; omega
  have b1 : s.gw * s.gh ≤ 1024 := hmul
  have b2 : 0 ≤ s.gw * s.gh := by omega
  have hmk : ∀ w, (Instr.makeSlice 31 (.int .i64 (m : Int)) (.int .i64 (m : Int))).run Try.prog w = .ok (.slice (some ⟨w.heap.size, 0, none⟩) m m) (w.alloc (zeroObj m)) := fun w => run_makeB w m (by omega)
  clear n1 n3 hm hnum hsz hmm r1 r2 r3 r4 hmul hn hr
  dsimp only [Sh.v] at *
  generalize hgw : s.gw = gw at HG hne hz b1 b2 g1
  generalize hgh : s.gh = gh at HG hne b1 b2
  have HGW := Lib.hid hgw
  have HGH := Lib.hid hgh
  have HNG : Hid ((n : Int) = gw * gh) := (show _ = _ by rw [← hgw, ← hgh]; exact HN.out)
  clear hgw hgh
  go_enter Try.func32, Try.ntmps32
  go_upto_region 6 with (first
    | (go_at_call 25; (with_reducible refine (HG.out _).mono ?_); go_must (rintro e w1 ⟨rfl, hb1⟩; have rr := box5 hb1; rw [World.size_alloc] at rr; have ff := boxF hb1; rw [World.size_alloc] at ff; replace hb1 := bxd hb1; have cS := box4 hb1; replace hB := bxd hb1; clear hb1)))
  have hw1 : w.heap.size + 1 < w1.heap.size := ltOf rr rfl
  have hw1' : w.heap.size < w1.heap.size := by omega
  go_cut [8] (fun q wc => ∃ gt g, q = .pointer (some ⟨gt, 0, none⟩) ∧ (gt ≠ g ∧ w.heap.size + 2 ≤ g ∧ w.heap.size + 2 ≤ gt ∧ g < wc.heap.size) ∧ (∀ i, wc.cell? ⟨gt, i, none⟩ = r5 (.int .i64 s.w) (.int .i64 s.h) (.int .i64 s.c) (.int .i64 s.d) (.slice (some ⟨g, 0, none⟩) m m) i) ∧ ownB wc (w.heap.size + 2) (.slice (some ⟨g, 0, none⟩) m m) (List.replicate m 0) ∧ (∀ i, wc.cell? ⟨w.heap.size, i, none⟩ = s4 (.int .i64 s.w) (.int .i64 s.h) (.int .i64 s.c) (.int .i64 s.d) i) ∧ (∀ i, wc.cell? ⟨w.heap.size + 1, i, none⟩ = r5 (.int .i64 0) (.int .i64 0) (.int .i64 0) (.int .i64 0) (.slice none 0 0) i) ∧ (∀ i, wc.frozen? ⟨w.heap.size + 1, i, none⟩ = false) ∧ Below w.heap.size w wc)
  case first =>
    go_region_held3 (fun w' => ∀ i, w'.cell? ⟨w.heap.size, i, none⟩ = s4 (.int .i64 s.w) (.int .i64 s.h) (.int .i64 s.c) (.int .i64 s.d) i)
      (first | (with_reducible exact cS) | (repeat (first | with_reducible exact cS | ((with_reducible refine keptS5 ?_ ?_ _ _ _ _ _); rotate_left 1; omega) | (with_reducible refine kD4 ?_) | (with_reducible refine kA4 ?_ _) | (with_reducible refine kX4 hb3 ?_) | (with_reducible refine kDX4 hb3 ?_))))
      (first | (go_at_call 55; (with_reducible refine (HQ.out _).mono ?_); go_must (rintro e w3 ⟨rfl, hb3⟩; obtain ⟨hc3, hf3⟩ := bcell hb3; (first | have z3 : w1.heap.size + 1 ≤ w3.heap.size := (by have := hb3.size; simpa using this) | have z3 : w1.heap.size ≤ w3.heap.size := (by have := hb3.size; simpa using this)); (try (have z5 : w1.heap.size < w3.heap.size := (by omega))); (try (have z6 : ¬ w1.heap.size = w3.heap.size := (by omega))))))
    all_goals
      go_wp2_with fail
      go_meet
      case rel =>
        have q0 := hB.size
        have cS3 : ∀ i, w3.cell? ⟨w.heap.size, i, none⟩ = s4 (.int .i64 s.w) (.int .i64 s.h) (.int .i64 s.c) (.int .i64 s.d) i := (by first | with_reducible exact kDX4 hb3 cS | with_reducible exact kDX4 hb3 (kA4 cS _))
        have rr3 : ∀ i, w3.cell? ⟨w.heap.size + 1, i, none⟩ = r5 (.int .i64 0) (.int .i64 0) (.int .i64 0) (.int .i64 0) (.slice none 0 0) i := (by first | with_reducible exact kDX5 hb3 rr | with_reducible exact kDX5 hb3 (kA5 rr _))
        have ff3 : ∀ i, w3.frozen? ⟨w.heap.size + 1, i, none⟩ = false := (by first | with_reducible exact keptFD hw1 ff hb3 | with_reducible exact keptFD (by simp only [World.size_alloc]; omega) (keptFA hw1 ff _) hb3)
        have hBr3 : Below w.heap.size w w3 := (by first | with_reducible exact bstep (Below.drew hB) hb3 (Nat.le_refl _) | with_reducible exact bstep (Below.drew (Below.alloc hB hB.size _)) hb3 (Nat.le_refl _))
        have q3 := hBr3.size
        first
          | (with_reducible refine ⟨w3.heap.size + 1, w3.heap.size, rfl, ?_, ?_, ?_, ?_, ?_, ?_, ?_⟩
             · exact ⟨by omega, by omega, by omega, by simp <;> omega⟩
             · with_reducible exact new5' w3 _ _ _ _ _ _ _ _
             · exact ((own_zero w3 m (by omega)).mono (base' := w.heap.size + 2) (by omega)).alloc _
             · with_reducible exact kA4 (kA4 cS3 _) _
             · with_reducible exact kA5 (kA5 rr3 _) _
             · exact keptFA (by simp only [World.size_alloc]; omega) (keptFA (by omega) ff3 _) _
             · exact (hBr3.alloc hBr3.size _).alloc (by simp only [World.size_alloc]; omega) _)
          | (with_reducible refine ⟨w3.heap.size, w3.heap.size + 1, rfl, ?_, ?_, ?_, ?_, ?_, ?_, ?_⟩
             · exact ⟨by omega, by omega, by omega, by simp <;> omega⟩
             · with_reducible exact kA5 (new5 w3 _ _ _ _ _ _ _) _
             · exact ownB.mono (base' := w.heap.size + 2) (by simpa only [World.size_alloc] using own_zero (w3.alloc _) m (by omega)) (by omega)
             · with_reducible exact kA4 (kA4 cS3 _) _
             · with_reducible exact kA5 (kA5 rr3 _) _
             · exact keptFA (by simp only [World.size_alloc]; omega) (keptFA (by omega) ff3 _) _
             · exact (hBr3.alloc hBr3.size _).alloc (by simp only [World.size_alloc]; omega) _)
          | (with_reducible refine ⟨w1.heap.size, w3.heap.size, rfl, ?_, ?_, ?_, ?_, ?_, ?_, ?_⟩
             · exact ⟨by omega, by omega, by omega, by simp <;> omega⟩
             · with_reducible exact kA5 (set5 (kDX5 hb3 (new5 w1 _ _ _ _ _ _ _)) _ _ _ _ _) _
             · refine ownB.mono (base' := w.heap.size + 2) ?_ (show w.heap.size + 2 ≤ w3.heap.size by omega)
               have := own_zero (((((w3.setCell ⟨w1.heap.size, 0, none⟩ (.int .i64 s.w)).setCell ⟨w1.heap.size, 1, none⟩ (.int .i64 s.h)).setCell ⟨w1.heap.size, 2, none⟩ (.int .i64 s.c)).setCell ⟨w1.heap.size, 3, none⟩ (.int .i64 s.d)).setCell ⟨w1.heap.size, 4, none⟩ (.slice (some ⟨w3.heap.size, 0, none⟩) m m)) m (by omega)
               simpa using this
             · with_reducible exact kA4 (keptS5 cS3 (by omega) _ _ _ _ _) _
             · with_reducible exact kA5 (keptS5 rr3 (by omega) _ _ _ _ _) _
             · exact keptFA (by simp; omega) (keptF5 ff3 _ _ _ _ _) _
             · exact (Below.set5 hBr3 (by omega) _ _ _ _ _).alloc (by simp; omega) _)
  case rest =>
    clear cS rr ff hB hw1 hw1'
    obtain ⟨gt, g, rfl, ⟨t1, t2, t3, t4⟩, cT, hZ, cS, rr, ff, hB⟩ := hcut
    have HZ : Hid (ownB wc (w.heap.size + 2) (.slice (some ⟨g, 0, none⟩) m m) (s.joinB l 0)) := by
      show ownB _ _ _ _
      have : s.joinB l 0 = List.replicate m 0 := by unfold Sh.joinB TG.join; rw [HM.out]
      rw [this]
      exact hZ
    have HF0 : Hid (∀ j, j < 0 → s.fit l j = true) := (show _ from fun j hj => absurd hj (by omega))
    clear hZ
    have HF0 : Hid (∀ j, j < 0 → s.fit l j = true) := HF0
    go_wp2_with fail
    go_loopw [9] (fun i wr => ∃ k : Nat, k ≤ n ∧ i = .int .i64 k ∧ Hid (∀ j, j < k → s.fit l j = true) ∧ Hid (ownB wr (w.heap.size + 2) (.slice (some ⟨g, 0, none⟩) m m) (s.joinB l k)) ∧ (∀ i, wr.cell? ⟨gt, i, none⟩ = r5 (.int .i64 s.w) (.int .i64 s.h) (.int .i64 s.c) (.int .i64 s.d) (.slice (some ⟨g, 0, none⟩) m m) i) ∧ (∀ i, wr.cell? ⟨w.heap.size, i, none⟩ = s4 (.int .i64 s.w) (.int .i64 s.h) (.int .i64 s.c) (.int .i64 s.d) i) ∧ (∀ i, wr.cell? ⟨w.heap.size + 1, i, none⟩ = r5 (.int .i64 0) (.int .i64 0) (.int .i64 0) (.int .i64 0) (.slice none 0 0) i) ∧ (∀ i, wr.frozen? ⟨w.heap.size + 1, i, none⟩ = false) ∧ Below w.heap.size w wr ∧ g < wr.heap.size)
      (fun i _ => n - (intOf i).toNat)
    case atStart => exact ⟨0, Nat.zero_le _, rfl, HF0, HZ, cT, cS, rr, ff, hB, t4⟩
    case round =>
      clear cT cS rr ff hB t4 HZ HF0
      obtain ⟨k, hk, rfl, HF, HZ, cT, cS, rr, ff, hB, t4⟩ := hrel
      have hw2 : w.heap.size + 1 < wr.heap.size := ltOf rr rfl
      have hgt : gt < wr.heap.size := ltOf cT rfl
      by_cases hlt : k < n
      · obtain ⟨wo, rfl⟩ : ∃ wo : World, wo = wr := ⟨_, rfl⟩
        have hkl : k < l.length := by rw [HLL.out]; exact hlt
        obtain ⟨b, o, rfl, hbB, -, hcell⟩ := Rd.ras (Rd.below HR.out.1 (hB.mono hB1)) hkl
        have HX := Lib.hid (HR.out.2 l[k] (List.getElem_mem hkl))
        have HFK := Lib.hid (Sh.fit_at (s := s) hkl)
        obtain ⟨x, hx⟩ : ∃ x, x = l[k] := ⟨_, rfl⟩
        have HXX := Lib.hid hx
        rw [← hx] at hcell HX HFK
        clear hx
        obtain ⟨⟨xw, xh, xc, xd⟩, xA, xn, xcc, xbs⟩ := x
        have e0 := hcell 0 (by omega)
        have e1 := hcell 1 (by omega)
        have e2 := hcell 2 (by omega)
        have e3 := hcell 3 (by omega)
        have e4 := hcell 4 (by omega)
        clear hcell
        dsimp only [Ra.f] at e0 e1 e2 e3 e4 HX HFK
        rw [Nat.add_zero] at e0
        rw [r5_0] at e0
        rw [r5_1] at e1
        rw [r5_2] at e2
        rw [r5_3] at e3
        rw [r5_4] at e4
        have HMY := Lib.hid (fun w => may9_any ⟨xw, xh, xc, xd⟩ xA xn xcc w)
        have HPk := Lib.hid (HP.out k hlt)
        obtain ⟨T2, ⟨T3, T4⟩, T6, ⟨⟨y0, y1⟩, ⟨y2, y3⟩, ⟨y4, y5⟩, ⟨y6, y7⟩, ⟨y8, y9⟩, -⟩⟩ := HT.out k hlt
        have hLF := Sh.left_eq HS.out (j := k) (by rw [← HN.out]; omega)
        have hcx : s.cx (k : Int) = (k : Int) % gw * 8 := by unfold Sh.cx; rw [HGW.out]
        have hcy : s.cy (k : Int) = (k : Int) / gw * 8 := by unfold Sh.cy; rw [HGW.out]
        have HPP : Hid (∀ q : Nat, ((k : Int) / gw * 8 + q) * s.row + (k : Int) % gw * 8 * s.c * s.d / 8 = ((TG.tP s.W s.B k q : Nat) : Int)) := (show _ from fun q => by rw [← hcy, ← hcx, ← hLF]; exact T6 q)
        rw [hcx] at y0 y1
        rw [hcy] at y2 y3
        have HQ := Lib.hid (HRO.out (s.part (k : Int)))
        rw [T2] at HQ y8 y9
        obtain ⟨pph, hph⟩ := Int.eq_ofNat_of_zero_le (show 0 ≤ (s.part (k : Int)).h by omega)
        have HPH : Hid (TG.tH s.W s.H k = pph) := (show _ = _ by rw [← T4, hph]; rfl)
        have ph8 : pph ≤ 8 := by omega
        have nn8 : TG.tN s.W s.B k ≤ 2048 := by omega
        obtain ⟨⟨pw, ph, pc, pd⟩, hpp⟩ : ∃ p, p = s.part (k : Int) := ⟨_, rfl⟩
        rw [← hpp] at HPk HFK HQ hph
        have HSH := Lib.hid (fun w => shape_any ⟨pw, ph, pc, pd⟩ ⟨xw, xh, xc, xd⟩ w)
        dsimp only at hph
        subst hph
        have HPQ := Lib.hid hpp
        clear hpp T2 T3 T4 T6 hLF hcx hcy
        dsimp only [Sh.r, Sh.v] at HMY HPk HFK HQ HSH
        go_upto_region 11 with (first
          | (go_at_call 28; (with_reducible refine (HPk.out _).mono ?_); go_must (rintro e w1 ⟨rfl, hb1⟩; replace e0 := cell_below hb1 e0; replace e1 := cell_below hb1 e1; replace e2 := cell_below hb1 e2; replace e3 := cell_below hb1 e3; replace e4 := cell_below hb1 e4; replace cT := kept cT rfl hb1; replace cS := kept cS rfl hb1; replace rr := kept rr rfl hb1; replace ff := keptF hw2 ff hb1; replace hB := bstep hB hb1 (Nat.le_refl _); replace HZ := Lib.hid (HZ.out.later hb1); have hwo1 := hb1.size; clear hb1)))
        have cP := new4 w1 (.int .i64 pw) (.int .i64 pph) (.int .i64 pc) (.int .i64 pd) 23 (0, 0)
        replace cT := kA5 cT (.cells #[.int .i64 pw, .int .i64 pph, .int .i64 pc, .int .i64 pd] 23 (0, 0))
        replace cS := kA4 cS (.cells #[.int .i64 pw, .int .i64 pph, .int .i64 pc, .int .i64 pd] 23 (0, 0))
        replace rr := kA5 rr (.cells #[.int .i64 pw, .int .i64 pph, .int .i64 pc, .int .i64 pd] 23 (0, 0))
        replace ff := keptFA (by omega) ff (.cells #[.int .i64 pw, .int .i64 pph, .int .i64 pc, .int .i64 pd] 23 (0, 0))
        replace e0 := cell_alloc e0 (.cells #[.int .i64 pw, .int .i64 pph, .int .i64 pc, .int .i64 pd] 23 (0, 0))
        replace e1 := cell_alloc e1 (.cells #[.int .i64 pw, .int .i64 pph, .int .i64 pc, .int .i64 pd] 23 (0, 0))
        replace e2 := cell_alloc e2 (.cells #[.int .i64 pw, .int .i64 pph, .int .i64 pc, .int .i64 pd] 23 (0, 0))
        replace e3 := cell_alloc e3 (.cells #[.int .i64 pw, .int .i64 pph, .int .i64 pc, .int .i64 pd] 23 (0, 0))
        replace e4 := cell_alloc e4 (.cells #[.int .i64 pw, .int .i64 pph, .int .i64 pc, .int .i64 pd] 23 (0, 0))
        replace HZ := Lib.hid (HZ.out.alloc (.cells #[.int .i64 pw, .int .i64 pph, .int .i64 pc, .int .i64 pd] 23 (0, 0)))
        replace hB := hB.alloc hB.size (.cells #[.int .i64 pw, .int .i64 pph, .int .i64 pc, .int .i64 pd] 23 (0, 0))
        have hg2 : g < w1.heap.size := by omega
        have hgt2 : gt < w1.heap.size := by omega
        have hw3 : w.heap.size + 1 < w1.heap.size := by omega
        have hbb : ¬ b = g := by omega
        obtain ⟨gp, hgp⟩ : ∃ g, g = w1.heap.size := ⟨_, rfl⟩
        rw [← hgp] at cP hg2 hgt2 hw3 ⊢
        have hsz2 : (w1.alloc (.cells #[.int .i64 pw, .int .i64 pph, .int .i64 pc, .int .i64 pd] 23 (0, 0))).heap.size = gp + 1 := by simp [hgp]
        have hg3 : g < (w1.alloc (.cells #[.int .i64 pw, .int .i64 pph, .int .i64 pc, .int .i64 pd] 23 (0, 0))).heap.size := by omega
        clear hsz2
        generalize (w1.alloc (.cells #[.int .i64 pw, .int .i64 pph, .int .i64 pc, .int .i64 pd] 23 (0, 0))) = w2 at *
        clear hgp hwo1
        go_cut [61] (fun q wc => q = .bool (!s.fit l k) ∧ Below w2.heap.size w2 wc)
        case first =>
          cases hmy : (⟨xw, xh, xc, xd⟩ : Sh).mayR xn with
          | false =>
            have HFN : Hid (s.fit l k = false) := (show _ = _ by rw [HFK.out, hmy, Bool.and_false])
            rw [hmy] at HMY
            clear hmy
            (first | (go_region_law (first
              | (go_simp; go_at_call 53; (with_reducible refine (HMY.out _).mono ?_); go_must (rintro e w5 ⟨rfl, hb5⟩)))) | fail)
            all_goals
              go_wp2_with fail
              go_meet
              case rel => exact ⟨by rw [HFN.out]; rfl, (by first | with_reducible exact hb5 | with_reducible exact bstep (Below.drew (Below.refl _ _)) hb5 (Nat.le_refl _))⟩
          | true =>
            have HFN : Hid (decide ((⟨pw, pph, pc, pd⟩ : Sh) = ⟨xw, xh, xc, xd⟩) = s.fit l k) := (show _ = _ by rw [HFK.out, hmy, Bool.and_true]; exact decide_eq_decide.2 ⟨Eq.symm, Eq.symm⟩)
            rw [hmy] at HMY
            rw [HFN.out] at HSH
            generalize hft : s.fit l k = ft at HSH
            have HFT := Lib.hid hft
            clear hmy HFN hft
            go_region_held3 (fun w' => (∀ i, w'.cell? ⟨gp, i, none⟩ = s4 (.int .i64 pw) (.int .i64 pph) (.int .i64 pc) (.int .i64 pd) i) ∧ w'.cell? ⟨b, o + k * 5, none⟩ = some (.int .i64 xw) ∧ w'.cell? ⟨b, o + k * 5 + 1, none⟩ = some (.int .i64 xh) ∧ w'.cell? ⟨b, o + k * 5 + 2, none⟩ = some (.int .i64 xc) ∧ w'.cell? ⟨b, o + k * 5 + 3, none⟩ = some (.int .i64 xd) ∧ w'.cell? ⟨b, o + k * 5 + 4, none⟩ = some (.slice xA xn xcc))
              (first | (with_reducible exact ⟨cP, e0, e1, e2, e3, e4⟩) | (refine ⟨?_, ?_, ?_, ?_, ?_, ?_⟩ <;> (repeat (first | with_reducible exact cP | with_reducible exact e0 | with_reducible exact e1 | with_reducible exact e2 | with_reducible exact e3 | with_reducible exact e4 | (with_reducible refine kD4 ?_) | (with_reducible refine cell_drew ?_) | (with_reducible refine kX4 hb5 ?_) | (with_reducible refine kDX4 hb5 ?_) | (with_reducible refine cell_below hb5 ?_) | (with_reducible refine cell_belowD hb5 ?_) | (with_reducible refine kX4 hb7 ?_) | (with_reducible refine kDX4 hb7 ?_) | (with_reducible refine cell_below hb7 ?_) | (with_reducible refine cell_belowD hb7 ?_)))))
              (first
                | (go_at_call 53; (with_reducible refine (HMY.out _).mono ?_); go_must (rintro e w5 ⟨rfl, hb5⟩))
                | (go_at_call 21; (with_reducible refine (HSH.out _).mono ?_); go_must (rintro e w7 ⟨rfl, hb7⟩)))
            all_goals
              go_wp2_with fail
              go_meet
              case rel =>
                have h3 : Below w2.heap.size w2 w5 := (by first | with_reducible exact hb5 | with_reducible exact bstep (Below.drew (Below.refl _ _)) hb5 (Nat.le_refl _))
                exact ⟨by rw [HFT.out], (by first | with_reducible exact bstep h3 hb7 (Nat.le_refl _) | with_reducible exact bstep (Below.drew h3) hb7 (Nat.le_refl _))⟩
        case rest =>
          obtain ⟨hv, hbr⟩ := hcut
          have hw4 : w.heap.size + 1 < w2.heap.size := ltOf rr rfl
          replace cT := kept cT rfl hbr
          replace cS := kept cS rfl hbr
          replace rr := kept rr rfl hbr
          replace ff := keptF hw4 ff hbr
          replace cP := kept cP rfl hbr
          replace e4 := cell_below hbr e4
          replace HZ := Lib.hid (HZ.out.later hbr)
          replace hB := bstep hB hbr (Nat.le_refl _)
          replace hg3 := Nat.lt_of_lt_of_le hg3 hbr.size
          clear hbr e0 e1 e2 e3
          cases hf : s.fit l k with
          | false =>
            rw [hf] at hv
            replace hv := hv.trans (show Value.bool (!false) = Value.bool true from rfl)
            subst hv
            have HE : Hid (s.joinE l = 13) := (show _ = _ by unfold Sh.joinE; rw [HS.out, if_pos rfl, if_pos (by rw [HLL.out]; exact HN.out), Sh.fits_not hkl hf]; rfl)
            have HJ : Hid (s.joinR l = (⟨0, 0, 0, 0⟩, [])) := (show _ = _ by unfold Sh.joinR; rw [if_neg (by rw [HE.out]; decide)])
            clear hf
            go_wp2_with fail
            refine bodyPost_ret (v := .tuple #[.agg #[.int .i64 0, .int .i64 0, .int .i64 0, .int .i64 0, .slice none 0 0], .int .i64 13]) ?_ rfl ?_
            · unfold results
              go_simp
            · rw [HE.out, HJ.out]
              exact ⟨_, _, _, rfl, ownB.nil_ _ _, Below.set5 hB (by omega) _ _ _ _ _⟩
          | true =>
            rw [hf] at hv
            replace hv := hv.trans (show Value.bool (!true) = Value.bool false from rfl)
            subst hv
            have HXL : Hid (xn = TG.tH s.W s.H k * TG.tN s.W s.B k) := (show _ = _ by have := Sh.fit_len HS.out hkl (by rw [← HN.out]; omega) hf; rw [← HXX.out] at this; exact this)
            have HLB : Hid ((s.joinB l k).length = m) := (show _ = _ from ownB.lenOf HZ.out)
            have HJ1 : Hid (TG.put s.W s.B xbs k (s.joinB l k) (TG.tH s.W s.H k) = s.joinB l (k + 1)) := by
              show _ = _
              unfold Sh.joinB
              rw [TG.join]
              congr 1
              have : (l.map Ra.bs).getD k [] = l[k].bs := by simp [List.getD, hkl]
              rw [this, ← HXX.out]
            have HF1 : Hid (∀ j, j < k + 1 → s.fit l j = true) := (show _ from fun j hj => by
              by_cases e : j = k
              · rw [e]; exact hf
              · exact HF.out j (by omega))
            have hxn : xn ≤ 16384 := by
              have h8 : TG.tH s.W s.H k * TG.tN s.W s.B k ≤ 8 * 2048 := Nat.mul_le_mul (by unfold TG.tH; omega) nn8
              rw [HXL.out]; omega
            clear hf
            have hpz : pph = TG.tH s.W s.H k := HPH.out.symm
            have HPZ := Lib.hid hpz
            clear hpz
            have HLS : Hid ((s.joinB l k).length = s.H * (s.W * s.B)) := (show _ = _ by rw [HLB.out, HM.out])
            have HTS : Hid (xbs.length = TG.tH s.W s.H k * TG.tN s.W s.B k) := (show _ = _ by rw [← HXL.out]; exact HX.out.1.len)
            have HRs := Lib.hid (HRO.out s)
            (try dsimp only [Sh.v] at HRs)
            go_wp2_with fail
            go_loopw [12] (fun y wr => ∃ q : Nat, q ≤ pph ∧ y = .int .i64 q ∧ Hid (ownB wr (w.heap.size + 2) (.slice (some ⟨g, 0, none⟩) m m) (TG.put s.W s.B xbs k (s.joinB l k) q)) ∧ (∀ i, wr.cell? ⟨gt, i, none⟩ = r5 (.int .i64 s.w) (.int .i64 s.h) (.int .i64 s.c) (.int .i64 s.d) (.slice (some ⟨g, 0, none⟩) m m) i) ∧ (∀ i, wr.cell? ⟨w.heap.size, i, none⟩ = s4 (.int .i64 s.w) (.int .i64 s.h) (.int .i64 s.c) (.int .i64 s.d) i) ∧ (∀ i, wr.cell? ⟨w.heap.size + 1, i, none⟩ = r5 (.int .i64 0) (.int .i64 0) (.int .i64 0) (.int .i64 0) (.slice none 0 0) i) ∧ (∀ i, wr.frozen? ⟨w.heap.size + 1, i, none⟩ = false) ∧ (∀ i, wr.cell? ⟨gp, i, none⟩ = s4 (.int .i64 pw) (.int .i64 pph) (.int .i64 pc) (.int .i64 pd) i) ∧ wr.cell? ⟨b, o + k * 5 + 4, none⟩ = some (.slice xA xn xcc) ∧ Below w.heap.size w wr ∧ g < wr.heap.size)
              (fun y _ => pph - (intOf y).toNat)
            case atStart => exact ⟨0, Nat.zero_le _, rfl, HZ, cT, cS, rr, ff, cP, e4, hB, hg3⟩
            case round =>
              clear HZ cT cS rr ff cP e4 hB hg3
              obtain ⟨q, hq, rfl, HZ, cT, cS, rr, ff, cP, e4, hB, hg3⟩ := hrel
              by_cases hlq : q < pph
              · have d0 : 0 ≤ (k : Int) / gw := by omega
                have d1 : 0 ≤ (k : Int) % gw := by omega
                have u1 : (k : Int).tdiv gw = (k : Int) / gw := Int.tdiv_eq_ediv_of_nonneg (by omega)
                have u2 : (k : Int).tmod gw = (k : Int) % gw := Int.tmod_eq_emod_of_nonneg (by omega)
                have m0 : 0 ≤ ((k : Int) / gw * 8 + q) * s.row := Int.mul_nonneg (by omega) y6
                have m1 : ((k : Int) / gw * 8 + q) * s.row ≤ 264 * 2048 := Int.mul_le_mul (by omega) y7 y6 (by omega)
                have m2 : 0 ≤ (k : Int) % gw * 8 * s.c := Int.mul_nonneg (by omega) (by omega)
                have m3 : (k : Int) % gw * 8 * s.c ≤ 256 * 4 := Int.mul_le_mul (by omega) n6 (by omega) (by omega)
                have hd16 : 0 ≤ s.d ∧ s.d ≤ 16 := by omega
                have m4 : 0 ≤ (k : Int) % gw * 8 * s.c * s.d := Int.mul_nonneg m2 hd16.1
                have m5 : (k : Int) % gw * 8 * s.c * s.d ≤ 1024 * 16 := Int.mul_le_mul m3 hd16.2 hd16.1 (by omega)
                have u3 : ((k : Int) % gw * 8 * s.c * s.d).tdiv 8 = (k : Int) % gw * 8 * s.c * s.d / 8 := Int.tdiv_eq_ediv_of_nonneg m4
                have v1 : IntKind.i64.wrap ((k : Int) / gw) = (k : Int) / gw := wrapI _ (by omega) (by omega)
                have v2 : IntKind.i64.wrap ((k : Int) / gw * 8) = (k : Int) / gw * 8 := wrapI _ (by omega) (by omega)
                have v3 : IntKind.i64.wrap ((k : Int) / gw * 8 + q) = (k : Int) / gw * 8 + q := wrapI _ (by omega) (by omega)
                have v4 : IntKind.i64.wrap (((k : Int) / gw * 8 + q) * s.row) = ((k : Int) / gw * 8 + q) * s.row := wrapI _ (by omega) (by omega)
                have v5 : IntKind.i64.wrap ((k : Int) % gw) = (k : Int) % gw := wrapI _ (by omega) (by omega)
                have v6 : IntKind.i64.wrap ((k : Int) % gw * 8) = (k : Int) % gw * 8 := wrapI _ (by omega) (by omega)
                have v7 : IntKind.i64.wrap ((k : Int) % gw * 8 * s.c) = (k : Int) % gw * 8 * s.c := wrapI _ (by omega) (by omega)
                have v8 : IntKind.i64.wrap ((k : Int) % gw * 8 * s.c * s.d) = (k : Int) % gw * 8 * s.c * s.d := wrapI _ (by omega) (by omega)
                have v9 : IntKind.i64.wrap ((k : Int) % gw * 8 * s.c * s.d / 8) = (k : Int) % gw * 8 * s.c * s.d / 8 := wrapI _ (by omega) (by omega)
                have v10 : IntKind.i64.wrap (((k : Int) / gw * 8 + q) * s.row + (k : Int) % gw * 8 * s.c * s.d / 8) = ((k : Int) / gw * 8 + q) * s.row + (k : Int) % gw * 8 * s.c * s.d / 8 := wrapI _ (by omega) (by omega)
                have HPQ2 := Lib.hid (HPP.out q)
                have hgz : ¬ gw = 0 := by omega
                go_upto_region 16 with (fail)
                go_cut [13] (fun v wc => v = .int .i64 ((TG.tP s.W s.B k q : Nat) : Int) ∧ Below wr.heap.size wr wc)
                case first =>
                  go_region_held3 (fun w' => ∀ i, w'.cell? ⟨w.heap.size, i, none⟩ = s4 (.int .i64 s.w) (.int .i64 s.h) (.int .i64 s.c) (.int .i64 s.d) i)
                    (first | (with_reducible exact cS) | (repeat (first | with_reducible exact cS | (with_reducible refine kD4 ?_) | (with_reducible refine kX4 hb3 ?_) | (with_reducible refine kDX4 hb3 ?_))))
                    (first | (go_at_call 54; (with_reducible refine (HRs.out _).mono ?_); go_must (rintro e w3 ⟨rfl, hb3⟩)))
                  all_goals
                    go_wp2_with fail
                    go_meet
                    case rel => exact ⟨by rw [HPQ2.out], by first | with_reducible exact hb3 | with_reducible exact bstep (Below.drew (Below.refl _ _)) hb3 (Nat.le_refl _)⟩
                case rest =>
                  obtain ⟨rfl, hbr⟩ := hcut
                  have hw5 : w.heap.size + 1 < wr.heap.size := ltOf rr rfl
                  replace cT := kept cT rfl hbr
                  replace cP := kept cP rfl hbr
                  replace cS := kept cS rfl hbr
                  replace rr := kept rr rfl hbr
                  replace ff := keptF hw5 ff hbr
                  replace e4 := cell_below hbr e4
                  replace HZ := Lib.hid (HZ.out.later hbr)
                  replace hB := bstep hB hbr (Nat.le_refl _)
                  replace hg3 := Nat.lt_of_lt_of_le hg3 hbr.size
                  clear u1 u2 u3 v1 v2 v3 v4 v5 v6 v7 v8 v9 v10 m0 m1 m2 m3 m4 m5 hd16 d0 d1 hbr hw5 HPQ2
                  have hq8 : q < TG.tH s.W s.H k := by rw [HPH.out]; exact hlq
                  have hfit := TG.tP_fit (B := s.B) HW.out.1 hq8
                  have hN1 : 1 ≤ TG.tN s.W s.B k := by
                    have := TG.tX_lt HW.out.1 k
                    unfold TG.tN
                    exact Nat.mul_pos (by omega) HW.out.2
                  have h3 : (q + 1) * TG.tN s.W s.B k ≤ TG.tH s.W s.H k * TG.tN s.W s.B k := Nat.mul_le_mul_right _ hq8
                  rw [Nat.succ_mul, ← HXL.out] at h3
                  have hmfit : TG.tP s.W s.B k q + TG.tN s.W s.B k ≤ m := by rw [HM.out]; exact hfit
                  have HLQ : Hid (m = (TG.put s.W s.B xbs k (s.joinB l k) q).length) := (show _ = _ by rw [TG.put_len HW.out.1 HTS.out HLS.out q (Nat.le_of_lt hq8), HM.out])
                  obtain ⟨lo, hlo⟩ : ∃ lo, lo = q * TG.tN s.W s.B k := ⟨_, rfl⟩
                  have HPUT : Hid (splice (TG.put s.W s.B xbs k (s.joinB l k) q) (TG.tP s.W s.B k q) (((xbs.drop lo).take (xn - lo)).take (TG.tN s.W s.B k)) = TG.put s.W s.B xbs k (s.joinB l k) (q + 1)) := (show _ = _ by
                    rw [List.take_take, Nat.min_eq_left (by omega), hlo]
                    rfl)
                  rw [← hlo] at h3
                  have hmulI : (q : Int) * ((TG.tN s.W s.B k : Nat) : Int) = (lo : Int) := by rw [hlo]; push_cast; rfl
                  clear hfit hq8 hlo
                  obtain ⟨bx, ox, hxA, -, -⟩ := HX.out.1.at_ (by omega)
                  subst hxA
                  have hx1 := HX.out.2.1
                  have HSL : Hid (RdB w B (some ⟨bx, ox + lo, none⟩) (xn - lo) ((xbs.drop lo).take (xn - lo))) := RdB.cut HX.out.1 (k := lo) (m := xn - lo) (by omega) (fun _ => by rw [Option.map_some, add_none])
                  generalize TG.tP s.W s.B k q = tp at *
                  generalize TG.tN s.W s.B k = tn at *
                  have w1' : IntKind.i64.wrap ((tp : Int) + (tn : Int)) = (tp : Int) + tn := wrapI _ (by omega) (by omega)
                  have w7' : IntKind.i64.wrap ((q : Int) * (tn : Int)) = (lo : Int) := by rw [hmulI]; exact wrapI _ (by omega) (by omega)
                  clear hmulI
                  have w2' : ((tp : Int) + tn).toNat - tp = tn := by omega
                  have w3' : tp < m := by omega
                  have w4' : ¬ m = tp := by omega
                  have w5' : (tp : Int) ≤ (tp : Int) + tn := by omega
                  have w6' : (tp : Int) + tn ≤ m := by omega
                  have w8' : lo < xcc := by omega
                  have w9' : ¬ xcc = lo := by omega
                  have w10' : lo ≤ xn := by omega
                  have hwc : w.heap.size + 1 < wc.heap.size := ltOf rr rfl
                  go_upto_region 17 with (fail)
                  go_region_held3 (fun w' => (∀ i, w'.cell? ⟨gt, i, none⟩ = r5 (.int .i64 s.w) (.int .i64 s.h) (.int .i64 s.c) (.int .i64 s.d) (.slice (some ⟨g, 0, none⟩) m m) i) ∧ (∀ i, w'.cell? ⟨gp, i, none⟩ = s4 (.int .i64 pw) (.int .i64 pph) (.int .i64 pc) (.int .i64 pd) i) ∧ w'.cell? ⟨b, o + k * 5 + 4, none⟩ = some (.slice (some ⟨bx, ox, none⟩) xn xcc))
                    (first | (with_reducible exact ⟨cT, cP, e4⟩) | (refine ⟨?_, ?_, ?_⟩ <;> (repeat (first | with_reducible exact cT | with_reducible exact cP | with_reducible exact e4 | (with_reducible refine kD5 ?_) | (with_reducible refine kD4 ?_) | (with_reducible refine cell_drew ?_)))))
                    (first
                      | (go_at_call 54; (with_reducible refine (HQ.out _).mono ?_); go_must (rintro e w5 ⟨rfl, hb5⟩; (first | (with_reducible replace cT := kDX5 hb5 cT) | (with_reducible replace cT := kX5 hb5 cT)); (first | (with_reducible replace cP := kDX4 hb5 cP) | (with_reducible replace cP := kX4 hb5 cP)); (first | (with_reducible replace cS := kDX4 hb5 cS) | (with_reducible replace cS := kX4 hb5 cS)); (first | (with_reducible replace ff := keptFD hwc ff hb5) | (with_reducible replace ff := keptF hwc ff hb5)); (first | (with_reducible replace rr := kDX5 hb5 rr) | (with_reducible replace rr := kX5 hb5 rr)); (first | (with_reducible replace e4 := cell_belowD hb5 e4) | (with_reducible replace e4 := cell_below hb5 e4)); (first | (with_reducible replace HZ := Lib.hid (laterD HZ.out hb5)) | (with_reducible replace HZ := Lib.hid (HZ.out.later hb5))); (first | (with_reducible replace hB := bstep hB.drew hb5 (Nat.le_refl _)) | (with_reducible replace hB := bstep hB hb5 (Nat.le_refl _))); replace hg3 := Nat.lt_of_lt_of_le hg3 hb5.size; replace hwc := ltOf rr rfl; clear hb5))
                      | (refine step_copyM rfl (.tmp 97) (.tmp 107) rfl (w.heap.size + 2) g m m _ HZ.out HLQ.out tp _ _ rfl B _ _ _ _ rfl (HSL.out.blw (hB.mono hB1)) (by omega) hN1 hmfit ?_; intro w6 hz hg6; replace hg6 := grown_any hg6; replace cT := kG5 cT hg6 t1; replace cP := kG4 cP hg6 (by omega); replace cS := kG4 cS hg6 (by omega); replace ff := keptFG hwc ff hg6 (by omega); replace rr := kG5 rr hg6 (by omega); replace e4 := cell_G e4 hg6 hbb; replace hB := hB.trans (below_grown hg6 hB.size (by omega)); replace hg3 := Nat.lt_of_lt_of_le hg3 hg6.size; have HZ6 := Lib.hid (HPUT.out ▸ hz); clear hg6 hz))
                  all_goals
                    go_wp2_with fail
                    go_roundw
                    case rel => with_reducible exact ⟨q + 1, by omega, by go_num, HZ6, cT, cS, rr, ff, cP, e4, hB, hg3⟩
                    case measure => simp [intOf]; omega
              · obtain rfl : q = pph := by omega
                have HZ8 : Hid (ownB wr (w.heap.size + 2) (.slice (some ⟨g, 0, none⟩) m m) (s.joinB l (k + 1))) := by
                  show ownB _ _ _ _
                  rw [← HJ1.out, HPH.out]
                  exact HZ.out
                go_wp2_with fail
                go_roundw
                case rel => exact ⟨k + 1, by omega, by go_num, HF1, HZ8, cT, cS, rr, ff, hB, hg3⟩
                case measure => simp [intOf]; omega
      · have hge : gw * gh ≤ (k : Int) := by rw [← HNG.out]; omega
        obtain rfl : k = n := by omega
        have HE : Hid (s.joinE l = 0) := (show _ = _ by unfold Sh.joinE; rw [HS.out, if_pos rfl, if_pos (by rw [HLL.out]; exact HN.out), Sh.fits_of (fun j hj => HF.out j (by rw [HLL.out] at hj; exact hj))]; rfl)
        have HJ : Hid (s.joinR l = (s, s.joinB l k)) := (show _ = _ by unfold Sh.joinR; rw [if_pos HE.out, HLL.out])
        go_wp2_with fail
        refine bodyPost_ret (v := .tuple #[.agg #[.int .i64 s.w, .int .i64 s.h, .int .i64 s.c, .int .i64 s.d, .slice (some ⟨g, 0, none⟩) m m], .int .i64 0]) ?_ rfl ?_
        · unfold results
          go_simp
        · rw [HE.out, HJ.out]
          exact ⟨_, _, _, rfl, (HZ.out.far5 (by intro e; have e2 : g = w.heap.size + 1 := (by injection e); omega) _ _ _ _ _).mono (by omega), Below.set5 hB (by omega) _ _ _ _ _⟩

end Go.Proofs.Ytcgpeijmmongoaa
