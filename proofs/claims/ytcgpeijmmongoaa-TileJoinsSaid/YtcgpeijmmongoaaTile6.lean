/- tile: Cut. -/
import Derived.Test.YtcgpeijmmongoaaTile6a
import Derived.Test.YtcgpeijmmongoaaRas
import Derived.Test.YtcgpeijmmongoaaBox2
import Derived.Deep.RegionHeld3
namespace Go.Proofs.Ytcgpeijmmongoaa
set_option linter.all false
open Go.RowKit

/-- The tiles of a picture, each with its bytes in a row of its own. -/
def Tiles (w : World) (base : Nat) (s : Sh) (bs : List UInt8) (l : List Ra) : Prop :=
  ∀ j (hj : j < l.length), l[j].s = s.part j ∧ l[j].bs = s.cutB bs j ∧ l[j].n = l[j].bs.length ∧ ownB w base (.slice l[j].A l[j].n l[j].c) l[j].bs
theorem Tiles.nil_ (w : World) (base : Nat) (s : Sh) (bs : List UInt8) : Tiles w base s bs [] := fun j hj => absurd hj (by simp)
theorem Tiles.later {w w' : World} {base : Nat} {s : Sh} {bs : List UInt8} {l : List Ra} (h : Tiles w base s bs l) (hb : Below w.heap.size w w') : Tiles w' base s bs l :=
  fun j hj => ⟨(h j hj).1, (h j hj).2.1, (h j hj).2.2.1, (h j hj).2.2.2.later hb⟩
theorem Tiles.snoc {w : World} {base : Nat} {s : Sh} {bs : List UInt8} {l : List Ra} (h : Tiles w base s bs l) {x : Ra} (h1 : x.s = s.part l.length) (h2 : x.bs = s.cutB bs l.length) (h3 : x.n = x.bs.length)
    (h4 : ownB w base (.slice x.A x.n x.c) x.bs) : Tiles w base s bs (l ++ [x]) := by
  intro j hj
  by_cases e : j < l.length
  · rw [List.getElem_append_left e]
    exact h j e
  · have : j = l.length := by simp at hj; omega
    subst this
    simp only [List.getElem_concat_length]
    exact ⟨h1, h2, h3, h4⟩
/-- A row of bytes and a list of pictures never share a block. -/
theorem own_ne {w : World} {base base' g n c : Nat} {v : Value} {bs : List UInt8} {l : List Ra} (h : ownB w base (.slice (some ⟨g, 0, none⟩) n c) bs) (h' : ownR w base' v l) : v.ownBlock ≠ some g := by
  intro e
  rcases h.2 with ⟨hv, _⟩ | ⟨g1, c1, cur, hv, _, hg, _⟩
  · cases hv
  · injection hv with e1 e2 e3
    injection e1 with e1
    injection e1 with e1
    subst e1
    rcases h'.2 with ⟨hv2, _⟩ | ⟨g2, c2, cur2, rfl, _, hg2, _⟩
    · rw [hv2] at e; cases e
    · have e4 : g2 = g := by injection e
      subst e4
      rw [hg] at hg2
      injection hg2 with q
      injection q with _ q
      cases q
theorem Tiles.grown {w w' : World} {base base' : Nat} {s : Sh} {bs : List UInt8} {l : List Ra} {v : Value} {l' : List Ra} (h : Tiles w base s bs l) (hv : ownR w base' v l') (hg : w.grownBy w' v.ownBlock) : Tiles w' base s bs l := by
  intro j hj
  obtain ⟨a1, a2, a3, a4⟩ := h j hj
  refine ⟨a1, a2, a3, World.ownsRow.kept a4 hg ?_⟩
  rcases e : l[j].A with _ | ⟨g, o, sp⟩
  · exact .inl rfl
  · right
    intro e2
    rcases a4.2 with ⟨hv2, _⟩ | ⟨g1, c1, cur, hv1, _⟩
    · rw [e] at hv2; cases hv2
    · rw [e] at hv1 a4
      injection hv1 with q
      injection q with q
      injection q with q1 q2 q3
      subst q1 q2 q3
      exact own_ne a4 hv e2.symm
theorem ownB.grownR {w w' : World} {base base' g n c : Nat} {v : Value} {bs : List UInt8} {l : List Ra} (h : ownB w base (.slice (some ⟨g, 0, none⟩) n c) bs) (hv : ownR w base' v l) (hg : w.grownBy w' v.ownBlock) : ownB w' base (.slice (some ⟨g, 0, none⟩) n c) bs :=
  World.ownsRow.kept h hg (.inr fun e => own_ne h hv e.symm)

set_option maxRecDepth 100000 in
set_option maxHeartbeats 6400000 in
theorem cut_ok (s : Sh) (B n c : Nat) (A : Option Addr) (bs : List UInt8) (w : World) (hr : RdB w B A n bs) (hB1 : B ≤ w.heap.size) (hc : n ≤ c) (hmx : c ≤ maxLen) (hmr : s.mayR n = true) :
    Calls Try.prog 26 #[s.r A n c] w fun e w' => ∃ v l, e = .returned (.tuple #[v, .int .i64 0]) ∧ ownR w' w.heap.size v l ∧ l.length = (s.gw * s.gh).toNat ∧ Tiles w' w.heap.size s bs l ∧ Below w.heap.size w w' := by
  have hB := Below.refl w.heap.size w
  have HM := Lib.hid (fun w => may_any s A n c w)
  have HMV := Lib.hid hmr
  have hm : s.may = true := by unfold Sh.mayR at hmr; simp at hmr; exact hmr.1
  have hsz : (n : Int) = s.size := by unfold Sh.mayR at hmr; simp at hmr; exact hmr.2
  have hnum := Sh.may_nums hm
  have hlen := hr.len
  have hl : bs.length = s.H * (s.W * s.B) := by rw [Sh.size_nat hnum] at hsz; omega
  have hn : n ≤ 16384 := by unfold Sh.may at hm; simp at hm; omega
  obtain ⟨g1, g2⟩ := Sh.gw_nat hm
  obtain ⟨r1, r2, r3, r4, -, -⟩ := Sh.gw_rng hm
  have HG := Lib.hid (fun w => grid_any s w)
  have hmul : s.gw * s.gh ≤ 32 * 32 := Int.mul_le_mul r2 r4 (by omega) (by omega)
  have hmul0 : 0 ≤ s.gw * s.gh := Int.mul_nonneg (by omega) (by omega)
  obtain ⟨N, hN⟩ := Int.eq_ofNat_of_zero_le hmul0
  have HN := Lib.hid hN
  have HP := Lib.hid (fun (k : Nat) (hk : k < N) (w : World) => part_any s k w hm (by omega) (by rw [hN]; omega))
  have HW := Lib.hid (Sh.B_pos hnum)
  have HL := Lib.hid hl
  have HT := Lib.hid (fun (k : Nat) (hk : k < N) => (⟨Sh.part_size hm (j := k) (by rw [hN]; omega), Sh.part_row hm (j := k) (by rw [hN]; omega), Sh.part_h hm k, Sh.part_may hm (j := k) (by rw [hN]; omega), fun q => Sh.at_nat hm (j := k) (by rw [hN]; omega) q⟩ : (s.part (k : Int)).size = _ ∧ (s.part (k : Int)).row = _ ∧ _ ∧ _ ∧ ∀ q : Nat, _))
  have HH := Lib.hid hr
  have HS := Lib.hid hm
  have HCB := Lib.hid (fun j => cutB_len (bs := bs) hm hl j)
  have hN2 : N ≤ 1024 := by omega
  rw [hN]
  show Calls _ _ _ _ (fun e w' => ∃ v l, e = .returned (.tuple #[v, .int .i64 0]) ∧ ownR w' w.heap.size v l ∧ l.length = N ∧ Tiles w' w.heap.size s bs l ∧ Below w.heap.size w w')
  obtain ⟨gw, hgw⟩ : ∃ x, x = s.gw := ⟨_, rfl⟩
  obtain ⟨gh, hgh⟩ : ∃ x, x = s.gh := ⟨_, rfl⟩
  rw [← hgw, ← hgh] at HG
  have HGG : Hid (gw * gh = N) := (show _ = _ by rw [hgw, hgh]; exact hN)
  have b1 : gw * gh ≤ 1024 := by rw [HGG.out]; omega
  have b2 : 0 ≤ gw * gh := by rw [HGG.out]; omega
  clear hgw hgh hmr hm hsz hnum hlen hl hr g1 g2 r1 r2 r3 r4 hmul hmul0 hN
  dsimp only [Sh.r, Sh.v] at *
  go_enter Try.func26, Try.ntmps26
  go_wp2_with (first
    | (go_at_call 20; (with_reducible refine (HM.out _).mono ?_); go_must (rintro e w1 ⟨rfl, hb1⟩; rw [HMV.out]; have cR := box5 hb1; replace hB := bxd hb1; clear hb1))
    | (go_at_call 16; (with_reducible refine (HG.out _).mono ?_); go_must (rintro e w2 ⟨rfl, hb1⟩; replace cR := kept cR rfl hb1; replace hB := bstep hB hb1 (Nat.le_refl _); clear hb1)))
  rw [HGG.out]
  go_loopw [6, 22] (fun v i wr => ∃ (k : Nat) (l : List Ra), k ≤ N ∧ i = .int .i64 k ∧ l.length = k ∧ ownR wr (w.heap.size + 1) v l ∧ Tiles wr w.heap.size s bs l ∧ (∀ i, wr.cell? ⟨w.heap.size, i, none⟩ = r5 (.int .i64 s.w) (.int .i64 s.h) (.int .i64 s.c) (.int .i64 s.d) (.slice A n c) i) ∧ Below w.heap.size w wr)
    (fun _ i _ => N - (intOf i).toNat)
  case atStart => exact ⟨0, [], Nat.zero_le _, rfl, rfl, ownR.nil_ _ _, Tiles.nil_ _ _ _ _, cR, hB⟩
  case round =>
    clear cR hB
    obtain ⟨k, l, hk, rfl, hlk, hO, hT, cR, hB⟩ := hrel
    have hw0 : w.heap.size < wr.heap.size := ltOf cR rfl
    have HO := Lib.hid hO
    have HTT := Lib.hid hT
    have HK := Lib.hid hlk
    clear hO hT hlk
    by_cases hlt : k < N
    · obtain ⟨T1, T2, ⟨T3, T4⟩, T5, T6⟩ := HT.out k hlt
      have HQ := Lib.hid (fun w => size_any (s.part k) w)
      rw [T1] at HQ
      have HT6 := Lib.hid T6
      have HT2 := Lib.hid T2
      have HT4 := Lib.hid T4
      have HCk := Lib.hid (HCB.out k)
      obtain ⟨m, hm⟩ : ∃ m, m = TG.tH s.W s.H k * TG.tN s.W s.B k := ⟨_, rfl⟩
      rw [← hm] at HQ
      have HMk := Lib.hid hm
      have hm2 : m ≤ 16384 := by
        have := (show (s.part (k : Int)).size ≤ 16384 by unfold Sh.may at T5; simp at T5; exact T5.2)
        rw [T1, ← hm] at this
        omega
      clear T1 T2 T3 T4 T5 T6 hm
      have hmk : ∀ w, (Instr.makeSlice 31 (.int .i64 (m : Int)) (.int .i64 (m : Int))).run Try.prog w = .ok (.slice (some ⟨w.heap.size, 0, none⟩) m m) (w.alloc (zeroObj m)) := fun w => run_makeB w m (by omega)
      have hBr := Below.refl wr.heap.size wr
      have HB0 := Lib.hid hB
      have HPk := Lib.hid (HP.out k hlt)
      have HRk := Lib.hid (fun (Inv : Nat → World → Prop) => @rowsCut_any Inv s k)
      generalize hpp : s.part (k : Int) = p at HPk HQ HT2 HT4
      have HPP := Lib.hid hpp
      dsimp only [Sh.v] at HQ HRk
      clear hpp
      go_upto_region 9 with (first
        | (go_at_call 57; (with_reducible refine (HPk.out _).mono ?_); go_must (rintro e w1 ⟨rfl, hb1⟩; replace cR := kept cR rfl hb1; replace hB := bstep hB hb1 (Nat.le_refl _); replace hBr := bstep hBr hb1 (Nat.le_refl _); clear hb1; have cP := new4 w1 (.int .i64 p.w) (.int .i64 p.h) (.int .i64 p.c) (.int .i64 p.d) 23 (0, 0))))
      go_cut [9] (fun q wc => ∃ gt g, q = .pointer (some ⟨gt, 0, none⟩) ∧ (gt ≠ g ∧ wr.heap.size ≤ g ∧ wr.heap.size ≤ gt ∧ g < wc.heap.size) ∧ (∀ i, wc.cell? ⟨gt, i, none⟩ = r5 (.int .i64 p.w) (.int .i64 p.h) (.int .i64 p.c) (.int .i64 p.d) (.slice (some ⟨g, 0, none⟩) m m) i) ∧ ownB wc wr.heap.size (.slice (some ⟨g, 0, none⟩) m m) (List.replicate m 0) ∧ (∀ i, wc.cell? ⟨w.heap.size, i, none⟩ = r5 (.int .i64 s.w) (.int .i64 s.h) (.int .i64 s.c) (.int .i64 s.d) (.slice A n c) i) ∧ Below wr.heap.size wr wc)
      case first =>
        go_region_held3 (fun w' => ∀ i, w'.cell? ⟨w1.heap.size, i, none⟩ = s4 (.int .i64 p.w) (.int .i64 p.h) (.int .i64 p.c) (.int .i64 p.d) i)
          (first | (with_reducible exact cP) | (repeat (first | with_reducible exact cP | ((with_reducible refine keptS5 ?_ ?_ _ _ _ _ _); rotate_left 1; omega) | (with_reducible refine kD4 ?_) | (with_reducible refine kA4 ?_ _) | (with_reducible refine kX4 hb3 ?_) | (with_reducible refine kDX4 hb3 ?_))))
          (first | (go_at_call 36; (with_reducible refine (HQ.out _).mono ?_); go_must (rintro e w3 ⟨rfl, hb3⟩; obtain ⟨hc3, hf3⟩ := bcell hb3; (first | have z3 : w1.heap.size + 1 + 1 ≤ w3.heap.size := (by have := hb3.size; simpa using this) | have z3 : w1.heap.size + 1 ≤ w3.heap.size := (by have := hb3.size; simpa using this)); have z4 : w1.heap.size < w3.heap.size := (by omega); (try (have z5 : w1.heap.size + 1 < w3.heap.size := (by omega))); (try (have z6 : ¬ w1.heap.size + 1 = w3.heap.size := (by omega)))))) 
        all_goals
          go_wp2_with fail
          go_meet
          case rel =>
            have q1 := hBr.size
            have q0 := hB.size
            have cR3 : ∀ i, w3.cell? ⟨w.heap.size, i, none⟩ = r5 (.int .i64 s.w) (.int .i64 s.h) (.int .i64 s.c) (.int .i64 s.d) (.slice A n c) i := (by first | with_reducible exact kDX5 hb3 (kA5 cR _) | with_reducible exact kDX5 hb3 (kA5 (kA5 cR _) _))
            have hBr3 : Below wr.heap.size wr w3 := (by first | with_reducible exact bstep (Below.drew (Below.alloc hBr hBr.size _)) hb3 (Nat.le_refl _) | with_reducible exact bstep (Below.drew (Below.alloc (Below.alloc hBr hBr.size _) (by simp only [World.size_alloc]; omega) _)) hb3 (Nat.le_refl _))
            have q3 := hBr3.size
            first
              | (with_reducible refine ⟨w3.heap.size + 1, w3.heap.size, rfl, ?_, ?_, ?_, ?_, ?_⟩
                 · exact ⟨by omega, by omega, by omega, by simp <;> omega⟩
                 · with_reducible exact new5' w3 _ _ _ _ _ _ _ _
                 · exact ((own_zero w3 m (by omega)).mono (base' := wr.heap.size) (by omega)).alloc _
                 · with_reducible exact kA5 (kA5 cR3 _) _
                 · exact (hBr3.alloc hBr3.size _).alloc (by simp only [World.size_alloc]; omega) _)
              | (with_reducible refine ⟨w3.heap.size, w3.heap.size + 1, rfl, ?_, ?_, ?_, ?_, ?_⟩
                 · exact ⟨by omega, by omega, by omega, by simp <;> omega⟩
                 · with_reducible exact kA5 (new5 w3 _ _ _ _ _ _ _) _
                 · exact ownB.mono (base' := wr.heap.size) (by simpa only [World.size_alloc] using own_zero (w3.alloc _) m (by omega)) (by omega)
                 · with_reducible exact kA5 (kA5 cR3 _) _
                 · exact (hBr3.alloc hBr3.size _).alloc (by simp only [World.size_alloc]; omega) _)
              | (with_reducible refine ⟨w1.heap.size + 1, w3.heap.size, rfl, ?_, ?_, ?_, ?_, ?_⟩
                 · exact ⟨by omega, by omega, by omega, by simp <;> omega⟩
                 · with_reducible exact kA5 (set5 (kDX5 hb3 (new5' w1 _ _ _ _ _ _ _ _)) _ _ _ _ _) _
                 · refine ownB.mono (base' := wr.heap.size) ?_ q3
                   have := own_zero (((((w3.setCell ⟨w1.heap.size + 1, 0, none⟩ (.int .i64 p.w)).setCell ⟨w1.heap.size + 1, 1, none⟩ (.int .i64 p.h)).setCell ⟨w1.heap.size + 1, 2, none⟩ (.int .i64 p.c)).setCell ⟨w1.heap.size + 1, 3, none⟩ (.int .i64 p.d)).setCell ⟨w1.heap.size + 1, 4, none⟩ (.slice (some ⟨w3.heap.size, 0, none⟩) m m)) m (by omega)
                   simpa using this
                 · with_reducible exact kA5 (keptS5 cR3 (by omega) _ _ _ _ _) _
                 · exact (Below.set5 hBr3 (by omega) _ _ _ _ _).alloc (by simp; omega) _)
      case rest =>
        clear cP cR hB hBr
        obtain ⟨gt, g, rfl, ⟨t1, t2, t3, t4⟩, cT, hZ, cR, hBr⟩ := hcut
        have hB := bstep HB0.out hBr (Nat.le_refl _)
        have hwr := HB0.out.size
        have HZ := Lib.hid hZ
        clear hZ
        have hmf : ∀ (fn : Fn) (first cap : Array Value) (w : World), (Instr.makeFunc fn first cap).run Try.prog w = .ok (.func fn first cap) w := fun _ _ _ _ => rfl
        have HRR := Lib.hid (fun (w' : World) (h1 : B ≤ w'.heap.size) (h2 : g < w'.heap.size) (h3 : gt ≠ g) (h4 : w.heap.size ≠ g) => rowsCut_fill s k B gt w.heap.size g m n c wr.heap.size A bs (.int .i64 p.w) (.int .i64 p.h) (.int .i64 p.c) (.int .i64 p.d) (.int .i64 s.w) (.int .i64 s.h) (.int .i64 s.c) (.int .i64 s.d) w' HS.out (by rw [HN.out]; omega) HL.out h1 (by omega) h2 h3 h4 HMk.out (by omega) (by omega) hc hmx)
        dsimp only [Sh.v] at HRR
        go_wp2_with (first
          | (go_at_call 59; go_must (refine (HRR.out _ (by have := hB.size; omega) t4 t1 (by omega) cT cR HZ.out (HH.out.blw (hB.mono hB1))).mono ?_; rintro e w6 ⟨rfl, cT6, ho6, hg6⟩; replace cT := cT6; clear cT6; replace cR := kG5 cR hg6 (by omega); replace hBr := hBr.trans (below_grown hg6 hBr.size (by omega)); replace hB := hB.trans (below_grown hg6 hB.size (by omega)); clear hg6))
          | (at_builtin; go_loud (refine wpList_appendR rfl (.tmp 39) (.tmp 41) rfl (w.heap.size + 1) _ l rfl ((HO.out.later hBr).later ((Below.refl _ _).alloc (Nat.le_refl _) _)) _ _ ⟨s.part k, some ⟨g, 0, none⟩, m, m, s.cutB bs k⟩ rfl (by rw [HPP.out]; exact new5 _ _ _ _ _ _ _ _) (by rw [HK.out]; omega) (by simp only [World.size_alloc]; have := hBr.size; omega) ?_)))
        intro v8 w8 h8 hg8 hb8 _
        have hB8 := (hB.alloc hB.size _).trans (hb8.mono (Nat.le_succ _))
        have cR8 := keptBl (kA5 cR _) hb8 (Nat.lt_succ_self _)
        have HT8 := Lib.hid (((HTT.out.later hBr).later ((Below.refl _ _).alloc (Nat.le_refl _) _)).grown ((HO.out.later hBr).later ((Below.refl _ _).alloc (Nat.le_refl _) _)) hg8)
        have ho8 := ownB.grownR (ho6.alloc _) ((HO.out.later hBr).later ((Below.refl _ _).alloc (Nat.le_refl _) _)) hg8
        clear cR cT hBr hB hg8 hb8
        have H8 := Lib.hid h8
        clear h8
        go_wp2
        go_roundw
        case rel => exact ⟨k + 1, l ++ [_], by omega, by go_num, by rw [List.length_append, HK.out]; rfl, H8.out, Tiles.snoc HT8.out (by rw [HK.out]) (by rw [HK.out]) (by show m = _; rw [HCk.out, HMk.out]) (ho8.mono (by omega)), cR8, hB8⟩
        case measure => simp [intOf]; omega
    · obtain rfl : k = N := by omega
      go_wp2
      go_ret2
      exact ⟨_, _, rfl, HO.out.mono (Nat.le_succ _), HK.out, HTT.out, hB⟩

end Go.Proofs.Ytcgpeijmmongoaa
