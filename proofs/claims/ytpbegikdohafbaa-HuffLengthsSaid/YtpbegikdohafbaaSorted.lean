/- The document's sorted: items and packages put together. -/
import Derived.Test.YtpbegikdohafbaaRowE
namespace Go.Proofs.Ytpbegikdohafbaa
set_option linter.all false
open Go.RowKit

set_option maxRecDepth 100000 in
set_option maxHeartbeats 3200000 in
theorem sorted_any (B n c B' n' c' : Nat) (A A' : Option Addr) (a b : List MX) (w : World) (h : RdE w B A n a) (h' : RdE w B' A' n' b) (hB1 : B ≤ w.heap.size) (hB2 : B' ≤ w.heap.size) (hn : n ≤ 100000) (hn' : n' ≤ 100000) :
    Calls Try.prog 34 #[.slice A n c, .slice A' n' c'] w fun e w' => ∃ A2 n2 c2, e = .returned (.slice A2 n2 c2) ∧ n2 = n + n' ∧ ownE w' w.heap.size (.slice A2 n2 c2) (mrgBy mxw a b) ∧ Below w.heap.size w w' := by
  have H1 := Lib.hid h
  have H2 := Lib.hid h'
  have HL1 := Lib.hid h.len
  have HL2 := Lib.hid h'.len
  obtain ⟨M, hM⟩ : ∃ M, mrgBy mxw a b = M := ⟨_, rfl⟩
  have HM := Lib.hid hM
  rw [hM]
  clear h h' hM
  go_enter Try.func34, Try.ntmps34
  go_wp2_with fail
  go_loopw [6, 7, 5] (fun vi vk vo wr => ∃ (i k : Nat) (L : List MX) (Ao : Option Addr) (co : Nat), i ≤ n ∧ k ≤ n' ∧ vi = .int .i64 i ∧ vk = .int .i64 k ∧ vo = .slice Ao (i + k) co ∧ Hid (L.length = i + k) ∧ Hid (L ++ mrgBy mxw (a.drop i) (b.drop k) = M) ∧ Hid (ownE wr w.heap.size (.slice Ao (i + k) co) L) ∧ Hid (Below w.heap.size w wr))
    (fun vi vk _ _ => n + n' - ((intOf vi).toNat + (intOf vk).toNat))
  case atStart => exact ⟨0, 0, [], none, 0, Nat.zero_le _, Nat.zero_le _, rfl, rfl, rfl, (show _ = _ from rfl), (show _ = _ from HM.out), ownE.nil_ _ _, Below.refl _ _⟩
  case round =>
    obtain ⟨i, k, L, Ao, co, hi, hk, rfl, rfl, rfl, HL, HJ, HO, HB⟩ := hrel
    have hz := HB.out.size
    by_cases hkn : k < n'
    · have dkm : ((k : Int) == (n' : Int)) = false := beq_eq_false_iff_ne.2 (by omega)
      by_cases hin : i < n
      · obtain ⟨b1, o1, x, rfl, hb1, HX, e1, e2⟩ := (H1.out.blw (HB.out.mono hB1)).one hin
        obtain ⟨t, A3, n3, c3⟩ := x
        dsimp only at e1 e2
        obtain ⟨b2, o2, y, rfl, hb2, HY, g1, g2⟩ := (H2.out.blw (HB.out.mono hB2)).one hkn
        obtain ⟨u, A4, n4, c4⟩ := y
        dsimp only at g1 g2
        by_cases hle : t.w ≤ u.w
        · have dle : decide (t.w ≤ u.w) = true := decide_eq_true hle
          have HJ2 : Hid (L ++ [(t, A3, n3, c3)] ++ mrgBy mxw (a.drop (i + 1)) (b.drop (k)) = M) := (show _ = _ by rw [← HJ.out, mx_takeA HX.out (.inr ⟨_, HY.out, hle⟩), List.append_assoc]; rfl)
          have HOq := Lib.hid (fun (q : Nat) => HO.out.drewN q)
          have HBq := Lib.hid (fun (q : Nat) => bdrewN HB.out q)
          have HC0 := Lib.hid (fun (q : Nat) => show (wr.drewN q).cell? _ = _ from e1)
          have HC1 := Lib.hid (fun (q : Nat) => show (wr.drewN q).cell? _ = _ from e2)
          clear HJ
          go_wp2_with fail
          go_quiet (fail)
          have k0 := HC0.out nq
          have k1 := HC1.out nq
          have HO4 := Lib.hid (HOq.out nq)
          have HB4 := Lib.hid (HBq.out nq)
          have hz4 := HB4.out.size
          clear HO HB HOq HBq HC0 HC1
          generalize wr.drewN nq = wq at *
          go_wp2_with (at_builtin; go_must (refine wpList_appendE rfl (.tmp 41) (.tmp 46) rfl w.heap.size (.slice Ao (i + k) co) L rfl (ownE.alloc HO4.out _) (wq.heap.size + 1) 1 1 (some ⟨wq.heap.size, 0, none⟩) [(t, A3, n3, c3)] rfl (rd_oneE wq (t, A3, n3, c3) _ _) (by have := HL.out; omega) (by simp; omega) ?_; intro v1 w3 hown hgb hbl hat; obtain ⟨A5, c5, rfl, hr5, -, -⟩ := hown.form; have HO5 := Lib.hid hown; have HB5 := Lib.hid ((HB4.out.alloc hz4 (.cells (eE (t, A3, n3, c3)).toArray 76)).trans hbl); clear hown hgb hbl hat hr5))
          have HL5 : Hid ((L ++ [(t, A3, n3, c3)]).length = i + 1 + k) := (show _ = _ by have := HL.out; simp; omega)
          rw [HL5.out] at HO5
          have HL6 : L.length + 1 = i + 1 + k := by have := HL.out; omega
          go_roundw
          case rel => exact ⟨i + 1, k, L ++ [(t, A3, n3, c3)], A5, c5, by omega, by omega, by go_num, by go_num, by first | rw [HL6] | rfl, HL5, HJ2, HO5, HB5⟩
          case measure => simp [intOf]; omega
        · have dle : decide (t.w ≤ u.w) = false := decide_eq_false hle
          have HJ2 : Hid (L ++ [(u, A4, n4, c4)] ++ mrgBy mxw (a.drop (i)) (b.drop (k + 1)) = M) := (show _ = _ by rw [← HJ.out, mx_takeB HY.out (.inr ⟨_, HX.out, by show u.w < t.w; omega⟩), List.append_assoc]; rfl)
          have HOq := Lib.hid (fun (q : Nat) => HO.out.drewN q)
          have HBq := Lib.hid (fun (q : Nat) => bdrewN HB.out q)
          have HC0 := Lib.hid (fun (q : Nat) => show (wr.drewN q).cell? _ = _ from g1)
          have HC1 := Lib.hid (fun (q : Nat) => show (wr.drewN q).cell? _ = _ from g2)
          clear HJ
          go_wp2_with fail
          go_quiet (fail)
          have k0 := HC0.out nq
          have k1 := HC1.out nq
          have HO4 := Lib.hid (HOq.out nq)
          have HB4 := Lib.hid (HBq.out nq)
          have hz4 := HB4.out.size
          clear HO HB HOq HBq HC0 HC1
          generalize wr.drewN nq = wq at *
          go_wp2_with (at_builtin; go_must (refine wpList_appendE rfl (.tmp 50) (.tmp 55) rfl w.heap.size (.slice Ao (i + k) co) L rfl (ownE.alloc HO4.out _) (wq.heap.size + 1) 1 1 (some ⟨wq.heap.size, 0, none⟩) [(u, A4, n4, c4)] rfl (rd_oneE wq (u, A4, n4, c4) _ _) (by have := HL.out; omega) (by simp; omega) ?_; intro v1 w3 hown hgb hbl hat; obtain ⟨A5, c5, rfl, hr5, -, -⟩ := hown.form; have HO5 := Lib.hid hown; have HB5 := Lib.hid ((HB4.out.alloc hz4 (.cells (eE (u, A4, n4, c4)).toArray 76)).trans hbl); clear hown hgb hbl hat hr5))
          have HL5 : Hid ((L ++ [(u, A4, n4, c4)]).length = i + (k + 1)) := (show _ = _ by have := HL.out; simp; omega)
          rw [HL5.out] at HO5
          have HL6 : L.length + 1 = i + (k + 1) := by have := HL.out; omega
          go_roundw
          case rel => exact ⟨i, k + 1, L ++ [(u, A4, n4, c4)], A5, c5, by omega, by omega, by go_num, by go_num, by first | rw [HL6] | rfl, HL5, HJ2, HO5, HB5⟩
          case measure => simp [intOf]; omega
      · obtain rfl : i = n := by omega
        obtain ⟨b2, o2, y, rfl, hb2, HY, g1, g2⟩ := (H2.out.blw (HB.out.mono hB2)).one hkn
        obtain ⟨u, A4, n4, c4⟩ := y
        dsimp only at g1 g2
        have HJ2 : Hid (L ++ [(u, A4, n4, c4)] ++ mrgBy mxw (a.drop (i)) (b.drop (k + 1)) = M) := (show _ = _ by rw [← HJ.out, mx_takeB HY.out (.inl (by rw [HL1.out]; exact Nat.le_refl _)), List.append_assoc]; rfl)
        have HOq := Lib.hid (fun (q : Nat) => HO.out.drewN q)
        have HBq := Lib.hid (fun (q : Nat) => bdrewN HB.out q)
        have HC0 := Lib.hid (fun (q : Nat) => show (wr.drewN q).cell? _ = _ from g1)
        have HC1 := Lib.hid (fun (q : Nat) => show (wr.drewN q).cell? _ = _ from g2)
        clear HJ
        go_wp2_with fail
        go_quiet (fail)
        have k0 := HC0.out nq
        have k1 := HC1.out nq
        have HO4 := Lib.hid (HOq.out nq)
        have HB4 := Lib.hid (HBq.out nq)
        have hz4 := HB4.out.size
        clear HO HB HOq HBq HC0 HC1
        generalize wr.drewN nq = wq at *
        go_wp2_with (at_builtin; go_must (refine wpList_appendE rfl (.tmp 50) (.tmp 55) rfl w.heap.size (.slice Ao (i + k) co) L rfl (ownE.alloc HO4.out _) (wq.heap.size + 1) 1 1 (some ⟨wq.heap.size, 0, none⟩) [(u, A4, n4, c4)] rfl (rd_oneE wq (u, A4, n4, c4) _ _) (by have := HL.out; omega) (by simp; omega) ?_; intro v1 w3 hown hgb hbl hat; obtain ⟨A5, c5, rfl, hr5, -, -⟩ := hown.form; have HO5 := Lib.hid hown; have HB5 := Lib.hid ((HB4.out.alloc hz4 (.cells (eE (u, A4, n4, c4)).toArray 76)).trans hbl); clear hown hgb hbl hat hr5))
        have HL5 : Hid ((L ++ [(u, A4, n4, c4)]).length = i + (k + 1)) := (show _ = _ by have := HL.out; simp; omega)
        rw [HL5.out] at HO5
        have HL6 : L.length + 1 = i + (k + 1) := by have := HL.out; omega
        go_roundw
        case rel => exact ⟨i, k + 1, L ++ [(u, A4, n4, c4)], A5, c5, by omega, by omega, by go_num, by go_num, by first | rw [HL6] | rfl, HL5, HJ2, HO5, HB5⟩
        case measure => simp [intOf]; omega
    · obtain rfl : k = n' := by omega
      have dkm : ((k : Int) == (k : Int)) = true := by simp
      by_cases hin : i < n
      · obtain ⟨b1, o1, x, rfl, hb1, HX, e1, e2⟩ := (H1.out.blw (HB.out.mono hB1)).one hin
        obtain ⟨t, A3, n3, c3⟩ := x
        dsimp only at e1 e2
        have HJ2 : Hid (L ++ [(t, A3, n3, c3)] ++ mrgBy mxw (a.drop (i + 1)) (b.drop (k)) = M) := (show _ = _ by rw [← HJ.out, mx_takeA HX.out (.inl (by rw [HL2.out]; exact Nat.le_refl _)), List.append_assoc]; rfl)
        have HOq := Lib.hid (fun (q : Nat) => HO.out.drewN q)
        have HBq := Lib.hid (fun (q : Nat) => bdrewN HB.out q)
        have HC0 := Lib.hid (fun (q : Nat) => show (wr.drewN q).cell? _ = _ from e1)
        have HC1 := Lib.hid (fun (q : Nat) => show (wr.drewN q).cell? _ = _ from e2)
        clear HJ
        go_wp2_with fail
        go_quiet (fail)
        have k0 := HC0.out nq
        have k1 := HC1.out nq
        have HO4 := Lib.hid (HOq.out nq)
        have HB4 := Lib.hid (HBq.out nq)
        have hz4 := HB4.out.size
        clear HO HB HOq HBq HC0 HC1
        generalize wr.drewN nq = wq at *
        go_wp2_with (at_builtin; go_must (refine wpList_appendE rfl (.tmp 41) (.tmp 46) rfl w.heap.size (.slice Ao (i + k) co) L rfl (ownE.alloc HO4.out _) (wq.heap.size + 1) 1 1 (some ⟨wq.heap.size, 0, none⟩) [(t, A3, n3, c3)] rfl (rd_oneE wq (t, A3, n3, c3) _ _) (by have := HL.out; omega) (by simp; omega) ?_; intro v1 w3 hown hgb hbl hat; obtain ⟨A5, c5, rfl, hr5, -, -⟩ := hown.form; have HO5 := Lib.hid hown; have HB5 := Lib.hid ((HB4.out.alloc hz4 (.cells (eE (t, A3, n3, c3)).toArray 76)).trans hbl); clear hown hgb hbl hat hr5))
        have HL5 : Hid ((L ++ [(t, A3, n3, c3)]).length = i + 1 + k) := (show _ = _ by have := HL.out; simp; omega)
        rw [HL5.out] at HO5
        have HL6 : L.length + 1 = i + 1 + k := by have := HL.out; omega
        go_roundw
        case rel => exact ⟨i + 1, k, L ++ [(t, A3, n3, c3)], A5, c5, by omega, by omega, by go_num, by go_num, by first | rw [HL6] | rfl, HL5, HJ2, HO5, HB5⟩
        case measure => simp [intOf]; omega
      · obtain rfl : i = n := by omega
        have HE : Hid (L = M) := (show _ = _ by
          have := HJ.out
          rw [List.drop_eq_nil_of_le (by rw [HL1.out]; exact Nat.le_refl _), List.drop_eq_nil_of_le (by rw [HL2.out]; exact Nat.le_refl _)] at this
          simpa [mrgBy] using this)
        rw [HE.out] at HO
        go_wp2_with fail
        go_ret
        exact ⟨Ao, _, co, rfl, rfl, HO.out, HB.out⟩
end Go.Proofs.Ytpbegikdohafbaa
