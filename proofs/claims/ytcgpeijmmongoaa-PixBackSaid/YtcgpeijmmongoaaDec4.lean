/- pix: bytes as a picture, by the reference. -/
import Derived.Test.YtcgpeijmmongoaaDec3
namespace Go.Proofs.Ytcgpeijmmongoaa
set_option linter.all false
open Go.RowKit

set_option maxRecDepth 100000 in
set_option maxHeartbeats 3200000 in
theorem decode9_any (B n c : Nat) (A : Option Addr) (bs : List UInt8) (w : World) (h : RdB w B A n bs) (hBw : B ≤ w.heap.size) (hc : n ≤ c) (hm : c ≤ maxLen) (hn : n ≤ 140737488355328) :
    Calls Try.prog 47 #[.slice A n c] w fun e w' => ∃ A1 n1 c1, e = .returned (.tuple #[(decS bs).1.r A1 n1 c1, .int .i64 (decE bs)]) ∧ ownB w' w.heap.size (.slice A1 n1 c1) (decS bs).2 ∧ Below w.heap.size w w' := by
  have hB := Below.refl w.heap.size w
  unfold maxLen at hm
  obtain rfl := h.len
  by_cases h7 : bs.length < 7
  · have HE := Lib.hid (decE_short h7)
    have HS := Lib.hid (show decS bs = (⟨0, 0, 0, 0⟩, []) by unfold decS; rw [decE_short h7]; rfl)
    rw [HE.out, HS.out]
    dsimp only [Sh.r]
    go_enter Try.func47, Try.ntmps47
    go_wp2
    refine bodyPost_ret (v := .tuple #[.agg #[.int .i64 0, .int .i64 0, .int .i64 0, .int .i64 0, .slice none 0 0], .int .i64 2]) ?_ rfl ?_
    · unfold results
      go_simp
    · exact ⟨_, _, _, rfl, ownB.nil_ _ _, hB.alloc (Nat.le_refl _) _⟩
  · obtain ⟨a0, a1, a2, a3, a4, a5, a6, t, rfl⟩ := long7 (Nat.le_of_not_lt h7)
    obtain ⟨b, o, rfl, hb, hcell⟩ := h.at_ (by simp)
    have x0 := hcell 0 (by simp)
    have x5 := hcell 5 (by simp)
    have x6 := hcell 6 (by simp)
    simp only [List.getElem_cons_zero, List.getElem_cons_succ] at x0 x5 x6
    rw [Nat.add_zero] at x0
    clear hcell
    have hsix := RdB.mid' h (k := 1) (m := 6) (by simp)
    replace hsix : RdB w B (some ⟨b, o + 1, none⟩) 6 [a1, a2, a3, a4, a5, a6] := by simpa [add_none] using hsix
    have HR := Lib.hid (fun (w' : World) (hb : Below w.heap.size w w') => shapeOf9_any w.heap.size 6 (c - 1) (some ⟨b, o + 1, none⟩) a1 a2 a3 a4 a5 a6 [] w' ((hsix.blw (hb.mono hBw)).more hBw) hb.size)
    clear hsix
    generalize hl : (a0 :: a1 :: a2 :: a3 :: a4 :: a5 :: a6 :: t).length = n at *
    have hl2 : n = t.length + 7 := by rw [← hl]; simp
    have z5 : a5.toNat < 256 := a5.toNat_lt
    have z6 : a6.toNat < 256 := a6.toNat_lt
    have hsb : ((a1.toNat * 256 + a2.toNat : Nat) : Int) ≤ 65535 ∧ ((a3.toNat * 256 + a4.toNat : Nat) : Int) ≤ 65535 := by
      have := a1.toNat_lt
      have := a2.toNat_lt
      have := a3.toNat_lt
      have := a4.toNat_lt
      omega
    have hE : decE (a0 :: a1 :: a2 :: a3 :: a4 :: a5 :: a6 :: t) = if a0 = 82 ∧ (sh7 a1 a2 a3 a4 a5 a6).may = true then (if (t.length : Int) < (sh7 a1 a2 a3 a4 a5 a6).size then 2 else if (sh7 a1 a2 a3 a4 a5 a6).size < t.length then 3 else 0) else 4 := rfl
    have hS : decS (a0 :: a1 :: a2 :: a3 :: a4 :: a5 :: a6 :: t) = if decE (a0 :: a1 :: a2 :: a3 :: a4 :: a5 :: a6 :: t) = 0 then (sh7 a1 a2 a3 a4 a5 a6, t) else (⟨0, 0, 0, 0⟩, []) := rfl
    have hsz : (sh7 a1 a2 a3 a4 a5 a6).may = true → 1 ≤ (sh7 a1 a2 a3 a4 a5 a6).size := fun h => by
      have hn : (sh7 a1 a2 a3 a4 a5 a6).nums = true := by unfold Sh.may at h; simp at h; exact h.1
      have := Sh.bounds _ hn
      rw [Sh.size_ok hn]
      omega
    have hp := RdB.mid' h (k := 7) (m := t.length) (by omega)
    rw [show (List.drop 7 (a0 :: a1 :: a2 :: a3 :: a4 :: a5 :: a6 :: t)) = t from rfl, List.take_length] at hp
    replace hp : RdB w B (some ⟨b, o + 7, none⟩) t.length t := by simpa [add_none] using hp
    generalize ht : t.length = m at hE hp hl2
    have HC := Lib.hid (fun (w' : World) (hb : Below w.heap.size w w') => copyB_any w.heap.size m (c - 7) (some ⟨b, o + 7, none⟩) t w' ((hp.blw (hb.mono hBw)).more hBw) (by omega))
    subst hl2
    have HE := Lib.hid hE
    have HS := Lib.hid hS
    have HZ := Lib.hid hsz
    clear hE hS hsz hl ht h h7
    unfold sh7 at HE HS HZ HR
    generalize a0 :: a1 :: a2 :: a3 :: a4 :: a5 :: a6 :: t = bs at *
    generalize ((a1.toNat * 256 + a2.toNat : Nat) : Int) = W at HR HE HS HZ hsb
    generalize ((a3.toNat * 256 + a4.toNat : Nat) : Int) = H at HR HE HS HZ hsb
    have HM1 := Lib.hid (fun w => mayS9_any ⟨W, H, (a5.toNat : Int), (a6.toNat : Int)⟩ w)
    have HZ1 := Lib.hid (fun w => size9_any ⟨W, H, (a5.toNat : Int), (a6.toNat : Int)⟩ w)
    generalize Sh.may ⟨W, H, (a5.toNat : Int), (a6.toNat : Int)⟩ = mm at HM1 HE HZ
    generalize Sh.size ⟨W, H, (a5.toNat : Int), (a6.toNat : Int)⟩ = zz at HZ1 HE HZ
    dsimp only [Sh.v] at HM1 HZ1 HR
    have hbo : ¬ b = w.heap.size := by omega
    have hbo2 : b < w.heap.size := by omega
    by_cases h82 : a0 = 82
    · subst h82
      have h82' : (((82 : UInt8).toNat : Int) != 82) = false := by rfl
      rcases mm with _ | _
      · have hev : decE bs = 4 := by rw [HE.out]; simp
        have HSV := Lib.hid (show decS bs = (⟨0, 0, 0, 0⟩, []) by rw [HS.out, hev]; rfl)
        have HEV := Lib.hid hev
        clear hev
        go_enter Try.func47, Try.ntmps47
        go_wp2_with (first
                  | (go_at_call 69; (with_reducible refine (HR.out _ (hB.alloc hB.size _)).mono ?_); rintro e w1 ⟨rfl, hb1⟩; have rr := box5 hb1; have ff := boxF hb1; replace hB := bxd hb1; clear hb1; replace x0 := bsame (hB.mono hBw) hb x0; have hne1 : ¬ b = w1.heap.size := (by have := ltOf rr rfl; omega); have hne2 : b < w1.heap.size := (by have := ltOf rr rfl; omega); have hne3 : w.heap.size < w1.heap.size := ltOf rr rfl; have hne4 : ¬ w.heap.size = w1.heap.size := (by omega))
                  | (go_at_call 52; (with_reducible refine (HM1.out _).mono ?_); rintro e w1 ⟨rfl, hb1⟩; first | (have ss := box4 hb1; replace hb1 := bxd hb1; replace ff := keptF (ltOf rr rfl) ff hb1; replace rr := kept rr rfl hb1; replace hB := bstep hB hb1 (Nat.le_refl _); clear hb1) | ((try (replace ff := keptF (ltOf rr rfl) ff hb1; replace rr := kept rr rfl hb1; replace ss := kept ss rfl hb1; replace hB := bstep hB hb1 (Nat.le_refl _); clear hb1))))
                  | (go_at_call 55; (with_reducible refine (HZ1.out _).mono ?_); rintro e w1 ⟨rfl, hb1⟩; (try (replace ff := keptF (ltOf rr rfl) ff hb1; replace rr := kept rr rfl hb1; replace ss := kept ss rfl hb1; replace hB := bstep hB hb1 (Nat.le_refl _); clear hb1))))
        refine bodyPost_ret (v := .tuple #[.agg #[.int .i64 0, .int .i64 0, .int .i64 0, .int .i64 0, .slice none 0 0], .int .i64 4]) ?_ rfl ?_
        · unfold results
          go_simp
        · exact ⟨none, 0, 0, by rw [HEV.out, HSV.out]; rfl, by rw [HSV.out]; exact ownB.nil_ _ _, Below.set5 hB (Nat.le_refl _) _ _ _ _ _⟩
      · have hz1 := HZ.out rfl
        rcases (by omega : (m : Int) < zz ∨ zz < m ∨ zz = m) with q | q | q
        · have hev : decE bs = 2 := by rw [HE.out]; simp [q]
          have HSV := Lib.hid (show decS bs = (⟨0, 0, 0, 0⟩, []) by rw [HS.out, hev]; rfl)
          have HEV := Lib.hid hev
          clear hev
          have d1 : decide ((m : Int) < zz) = true := by simpa using q
          go_enter Try.func47, Try.ntmps47
          go_wp2_with (first
                      | (go_at_call 69; (with_reducible refine (HR.out _ (hB.alloc hB.size _)).mono ?_); rintro e w1 ⟨rfl, hb1⟩; have rr := box5 hb1; have ff := boxF hb1; replace hB := bxd hb1; clear hb1; replace x0 := bsame (hB.mono hBw) hb x0; have hne1 : ¬ b = w1.heap.size := (by have := ltOf rr rfl; omega); have hne2 : b < w1.heap.size := (by have := ltOf rr rfl; omega); have hne3 : w.heap.size < w1.heap.size := ltOf rr rfl; have hne4 : ¬ w.heap.size = w1.heap.size := (by omega))
                      | (go_at_call 52; (with_reducible refine (HM1.out _).mono ?_); rintro e w1 ⟨rfl, hb1⟩; first | (have ss := box4 hb1; replace hb1 := bxd hb1; replace ff := keptF (ltOf rr rfl) ff hb1; replace rr := kept rr rfl hb1; replace hB := bstep hB hb1 (Nat.le_refl _); clear hb1) | ((try (replace ff := keptF (ltOf rr rfl) ff hb1; replace rr := kept rr rfl hb1; replace ss := kept ss rfl hb1; replace hB := bstep hB hb1 (Nat.le_refl _); clear hb1))))
                      | (go_at_call 55; (with_reducible refine (HZ1.out _).mono ?_); rintro e w1 ⟨rfl, hb1⟩; (try (replace ff := keptF (ltOf rr rfl) ff hb1; replace rr := kept rr rfl hb1; replace ss := kept ss rfl hb1; replace hB := bstep hB hb1 (Nat.le_refl _); clear hb1))))
          refine bodyPost_ret (v := .tuple #[.agg #[.int .i64 0, .int .i64 0, .int .i64 0, .int .i64 0, .slice none 0 0], .int .i64 2]) ?_ rfl ?_
          · unfold results
            go_simp
          · exact ⟨none, 0, 0, by rw [HEV.out, HSV.out]; rfl, by rw [HSV.out]; exact ownB.nil_ _ _, Below.set5 hB (Nat.le_refl _) _ _ _ _ _⟩
        · have hev : decE bs = 3 := by rw [HE.out]; simp [q]; omega
          have HSV := Lib.hid (show decS bs = (⟨0, 0, 0, 0⟩, []) by rw [HS.out, hev]; rfl)
          have HEV := Lib.hid hev
          clear hev
          have d1 : decide ((m : Int) < zz) = false := by simp; omega
          have d2 : decide (zz < (m : Int)) = true := by simpa using q
          go_enter Try.func47, Try.ntmps47
          go_wp2_with (first
                      | (go_at_call 69; (with_reducible refine (HR.out _ (hB.alloc hB.size _)).mono ?_); rintro e w1 ⟨rfl, hb1⟩; have rr := box5 hb1; have ff := boxF hb1; replace hB := bxd hb1; clear hb1; replace x0 := bsame (hB.mono hBw) hb x0; have hne1 : ¬ b = w1.heap.size := (by have := ltOf rr rfl; omega); have hne2 : b < w1.heap.size := (by have := ltOf rr rfl; omega); have hne3 : w.heap.size < w1.heap.size := ltOf rr rfl; have hne4 : ¬ w.heap.size = w1.heap.size := (by omega))
                      | (go_at_call 52; (with_reducible refine (HM1.out _).mono ?_); rintro e w1 ⟨rfl, hb1⟩; first | (have ss := box4 hb1; replace hb1 := bxd hb1; replace ff := keptF (ltOf rr rfl) ff hb1; replace rr := kept rr rfl hb1; replace hB := bstep hB hb1 (Nat.le_refl _); clear hb1) | ((try (replace ff := keptF (ltOf rr rfl) ff hb1; replace rr := kept rr rfl hb1; replace ss := kept ss rfl hb1; replace hB := bstep hB hb1 (Nat.le_refl _); clear hb1))))
                      | (go_at_call 55; (with_reducible refine (HZ1.out _).mono ?_); rintro e w1 ⟨rfl, hb1⟩; (try (replace ff := keptF (ltOf rr rfl) ff hb1; replace rr := kept rr rfl hb1; replace ss := kept ss rfl hb1; replace hB := bstep hB hb1 (Nat.le_refl _); clear hb1))))
          refine bodyPost_ret (v := .tuple #[.agg #[.int .i64 0, .int .i64 0, .int .i64 0, .int .i64 0, .slice none 0 0], .int .i64 3]) ?_ rfl ?_
          · unfold results
            go_simp
          · exact ⟨none, 0, 0, by rw [HEV.out, HSV.out]; rfl, by rw [HSV.out]; exact ownB.nil_ _ _, Below.set5 hB (Nat.le_refl _) _ _ _ _ _⟩
        · have hev : decE bs = 0 := by rw [HE.out]; simp [q]
          have HSV := Lib.hid (show decS bs = (⟨W, H, (a5.toNat : Int), (a6.toNat : Int)⟩, t) by rw [HS.out, hev]; rfl)
          have HEV := Lib.hid hev
          clear hev
          subst q
          have d1 : decide ((m : Int) < m) = false := by simp
          have c7 : ¬ c = 7 := by omega
          have c7' : ¬ (7 : Int) = c := by omega
          go_enter Try.func47, Try.ntmps47
          go_upto_region 11 with (first
            | (go_at_call 69; (with_reducible refine (HR.out _ (hB.alloc hB.size _)).mono ?_); rintro e w1 ⟨rfl, hb1⟩; have rr := box5 hb1; have ff := boxF hb1; replace hB := bxd hb1; clear hb1; replace x0 := bsame (hB.mono hBw) hb x0; have hne1 : ¬ b = w1.heap.size := (by have := ltOf rr rfl; omega); have hne2 : b < w1.heap.size := (by have := ltOf rr rfl; omega); have hne3 : w.heap.size < w1.heap.size := ltOf rr rfl; have hne4 : ¬ w.heap.size = w1.heap.size := (by omega))
            | (go_at_call 52; (with_reducible refine (HM1.out _).mono ?_); rintro e w1 ⟨rfl, hb1⟩; first | (have ss := box4 hb1; replace hb1 := bxd hb1; replace ff := keptF (ltOf rr rfl) ff hb1; replace rr := kept rr rfl hb1; replace hB := bstep hB hb1 (Nat.le_refl _); clear hb1) | ((try (replace ff := keptF (ltOf rr rfl) ff hb1; replace rr := kept rr rfl hb1; replace ss := kept ss rfl hb1; replace hB := bstep hB hb1 (Nat.le_refl _); clear hb1))))
            | (go_at_call 55; (with_reducible refine (HZ1.out _).mono ?_); rintro e w1 ⟨rfl, hb1⟩; (try (replace ff := keptF (ltOf rr rfl) ff hb1; replace rr := kept rr rfl hb1; replace ss := kept ss rfl hb1; replace hB := bstep hB hb1 (Nat.le_refl _); clear hb1))))
          go_region_with (go_at_call 43; (with_reducible refine (HC.out _ hB.drew).mono ?_); rintro e w2 ⟨v2, rfl, hv2, hb1⟩; obtain ⟨A2, n2, c2, rfl, _, _, _⟩ := hv2.slice; replace hv2 := hv2.mono (base' := w.heap.size + 1) (by have := ltOf rr rfl; exact this); replace ff := keptFD (ltOf rr rfl) ff hb1; replace rr := keptD rr rfl hb1; replace ss := keptD ss rfl hb1; replace hB := bstep hB.drew hb1 (Nat.le_refl _); clear hb1)
          all_goals
            go_wp2
            refine bodyPost_ret (v := .tuple #[.agg #[.int .i64 W, .int .i64 H, .int .i64 (a5.toNat : Int), .int .i64 (a6.toNat : Int), .slice A2 n2 c2], .int .i64 0]) ?_ rfl ?_
            · unfold results
              go_simp
            · exact ⟨A2, n2, c2, by rw [HEV.out, HSV.out]; rfl, by rw [HSV.out]; exact (hv2.far5 (ownB_ne hv2 (Nat.lt_succ_self _)) _ _ _ _ _).mono (Nat.le_succ _), Below.set5 hB (Nat.le_refl _) _ _ _ _ _⟩
    · have h82' : ((a0.toNat : Int) != 82) = true := by
        rw [bne_iff_ne]
        intro e
        exact h82 (UInt8.toNat_inj.1 (by show a0.toNat = 82; omega))
      have hev : decE bs = 4 := by rw [HE.out]; simp [h82]
      have HSV := Lib.hid (show decS bs = (⟨0, 0, 0, 0⟩, []) by rw [HS.out, hev]; rfl)
      have HEV := Lib.hid hev
      clear hev
      go_enter Try.func47, Try.ntmps47
      go_wp2_with (first
              | (go_at_call 69; (with_reducible refine (HR.out _ (hB.alloc hB.size _)).mono ?_); rintro e w1 ⟨rfl, hb1⟩; have rr := box5 hb1; have ff := boxF hb1; replace hB := bxd hb1; clear hb1; replace x0 := bsame (hB.mono hBw) hb x0; have hne1 : ¬ b = w1.heap.size := (by have := ltOf rr rfl; omega); have hne2 : b < w1.heap.size := (by have := ltOf rr rfl; omega); have hne3 : w.heap.size < w1.heap.size := ltOf rr rfl; have hne4 : ¬ w.heap.size = w1.heap.size := (by omega))
              | (go_at_call 52; (with_reducible refine (HM1.out _).mono ?_); rintro e w1 ⟨rfl, hb1⟩; first | (have ss := box4 hb1; replace hb1 := bxd hb1; replace ff := keptF (ltOf rr rfl) ff hb1; replace rr := kept rr rfl hb1; replace hB := bstep hB hb1 (Nat.le_refl _); clear hb1) | ((try (replace ff := keptF (ltOf rr rfl) ff hb1; replace rr := kept rr rfl hb1; replace ss := kept ss rfl hb1; replace hB := bstep hB hb1 (Nat.le_refl _); clear hb1))))
              | (go_at_call 55; (with_reducible refine (HZ1.out _).mono ?_); rintro e w1 ⟨rfl, hb1⟩; (try (replace ff := keptF (ltOf rr rfl) ff hb1; replace rr := kept rr rfl hb1; replace ss := kept ss rfl hb1; replace hB := bstep hB hb1 (Nat.le_refl _); clear hb1))))
      refine bodyPost_ret (v := .tuple #[.agg #[.int .i64 0, .int .i64 0, .int .i64 0, .int .i64 0, .slice none 0 0], .int .i64 4]) ?_ rfl ?_
      · unfold results
        go_simp
      · exact ⟨none, 0, 0, by rw [HEV.out, HSV.out]; rfl, by rw [HSV.out]; exact ownB.nil_ _ _, by have h := Below.set5 hB (Nat.le_refl _) (.int .i64 0) (.int .i64 0) (.int .i64 0) (.int .i64 0) (.slice none 0 0); exact h.alloc h.size _⟩

end Go.Proofs.Ytcgpeijmmongoaa
