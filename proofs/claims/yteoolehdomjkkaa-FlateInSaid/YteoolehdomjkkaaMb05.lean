/- Merged: Sort6, Huff1, Huff2. -/
import Derived.StillTailTactics
import Derived.Test.YteoolehdomjkkaaMb04
import Derived.Test.YteoolehdomjkkaaMb01
/- slices.SortStableFunc over rows of members: whole. -/
namespace Go.Proofs.Yteoolehdomjkkaa
set_option linter.all false
open Go.RowKit

theorem stab_len (l : List MP) : (stab mw l).length = l.length := (stab_ss l).2.length
theorem stab_srt (l : List MP) : Srt mw (stab mw l) := (stab_ss l).1
theorem stab_stab (a b : List MP) : stab mw (stab mw a ++ stab mw b) = stab mw (a ++ b) :=
  (SS.eq_stab (SS.feq ((stab_ss a).2.append (stab_ss b).2) (stab_ss _)))
/-- Runs of so many, each sorted. -/
def cs (bs : Nat) (l : List MP) : List MP :=
  if h : 0 < bs ∧ bs < l.length then stab mw (l.take bs) ++ cs bs (l.drop bs) else stab mw l
termination_by l.length
decreasing_by simp; omega
theorem cs_small {bs : Nat} {l : List MP} (h : l.length ≤ bs) : cs bs l = stab mw l := by
  rw [cs, dif_neg (by omega)]
theorem cs_app {bs : Nat} {U V : List MP} (h0 : 0 < bs) (hU : U.length = bs) : cs bs (U ++ V) = stab mw U ++ cs bs V := by
  by_cases hV : V = []
  · subst hV
    rw [List.append_nil, cs_small (by omega), cs_small (by simp)]
    simp [stab]
  · have : 0 < V.length := List.length_pos_iff.2 hV
    rw [cs, dif_pos (by simp; omega), ← hU, List.take_left, List.drop_left]
theorem cs_two {bs : Nat} {U V R : List MP} (h0 : 0 < bs) (hU : U.length = bs) (hV : V.length = bs) : cs (2 * bs) (U ++ (V ++ R)) = stab mw (U ++ V) ++ cs (2 * bs) R := by
  rw [← List.append_assoc]
  exact cs_app (by omega) (by simp; omega)

set_option maxRecDepth 100000 in
set_option maxHeartbeats 3200000 in
theorem stable_any (w0 W : World) (base g n c : Nat) (d : List MP) (h : SortW w0 base g n c d W) (hn : n ≤ 1099511627776) :
    Calls Try.prog 118 #[.slice (some ⟨g, 0, none⟩) n c, .int .i64 n, .func (.func 116) #[] #[]] W fun e w' =>
      e = .returned (.tuple #[]) ∧ SortW w0 base g n c (stab mw d) w' := by
  have HN := Lib.hid h.len
  have HS := Lib.hid h
  have HINS := Lib.hid (fun (W : World) (P S R : List MP) (a b : Int) (h : SortW w0 base g n c (P ++ S ++ R) W) (ha : a = (P.length : Int)) (hb : b = ((P.length + S.length : Nat) : Int)) => (show Calls Try.prog 120 #[.slice (some ⟨g, 0, none⟩) n c, .int .i64 a, .int .i64 b, .func (.func 116) #[] #[]] W fun e w' => e = .returned (.tuple #[]) ∧ SortW w0 base g n c (P ++ stab (fun x : MP => x.2.w) S ++ R) w' by subst ha hb; exact insertion_any w0 W base g n c P S R h hn _ _ rfl rfl))
  clear h
  go_enter Try.func118, Try.ntmps118
  go_wp2
  go_loopw [7, 8] (fun va vb wr => ∃ (a : Nat) (M V : List MP), va = .int .i64 a ∧ vb = .int .i64 ((a : Int) + 20) ∧ a ≤ n ∧ Hid (M.length = a) ∧ Hid (a + V.length = n) ∧ Hid (M ++ cs 20 V = cs 20 d) ∧ Hid (SortW w0 base g n c (M ++ V) wr))
    (fun va _ _ => n - (intOf va).toNat)
  case atStart => exact ⟨0, [], d, rfl, rfl, Nat.zero_le _, rfl, (show _ = _ by have := HN.out; omega), rfl, HS⟩
  case round =>
    clear HS
    obtain ⟨a, M, V, rfl, rfl, han, HM, HV, HC, HS⟩ := hrel
    by_cases hlt : (a : Int) + 20 ≤ n
    · have hVl : 20 ≤ V.length := by have := HV.out; omega
      have HX := Lib.hid (HINS.out wr M (V.take 20) (V.drop 20) (a : Int) ((a : Int) + 20) (HS.out.same (by simp)) (by rw [HM.out]) (by rw [HM.out]; simp; omega))
      go_wp2_with (go_at_call 120; (with_reducible refine HX.out.mono ?_); go_must (rintro e w1 ⟨rfl, hS1⟩; have HS1 := Lib.hid hS1; clear hS1))
      go_roundw
      case rel =>
        refine ⟨a + 20, M ++ stab mw (V.take 20), V.drop 20, by go_num, by first | go_num | (congr 1; omega), by omega, (show _ = _ by rw [List.length_append, stab_len, HM.out]; simp; omega), (show _ = _ by have := HV.out; simp; omega), ?_, HS1⟩
        show _ = _
        rw [← HC.out, List.append_assoc, ← cs_app (by omega) (by simp; omega), List.take_append_drop]
      case measure => simp [intOf]; omega
    · have HX := Lib.hid (HINS.out wr M V [] (a : Int) (n : Int) (HS.out.same (by simp)) (by rw [HM.out]) (by rw [HM.out, HV.out]))
      have HD : Hid (M ++ stab mw V ++ [] = cs 20 d) := (show _ = _ by rw [← HC.out, cs_small (by have := HV.out; omega), List.append_nil])
      clear HC HS HINS HM HV
      go_wp2_with (go_at_call 120; (with_reducible refine HX.out.mono ?_); go_must (rintro e w1 ⟨rfl, hS1⟩; have HS1 := Lib.hid (hS1.same HD.out); clear hS1))
      clear HD HX
      go_loopw [6, 7, 8, 9] (fun vs va vb vm wr => ∃ (bs : Nat), vs = .int .i64 bs ∧ 20 ≤ bs ∧ bs ≤ 2 * n + 20 ∧ Hid (SortW w0 base g n c (cs bs d) wr))
        (fun vs _ _ _ _ => n - (intOf vs).toNat)
      case atStart => exact ⟨20, rfl, by omega, by omega, HS1⟩
      case round =>
        clear HS1
        obtain ⟨bs, rfl, hb1, hb2, HS⟩ := hrel
        by_cases hlt : bs < n
        · obtain ⟨wo, rfl⟩ : ∃ wo : World, wo = wr := ⟨_, rfl⟩
          go_wp2_with fail
          go_loopw [7, 8] (fun va vb wr => ∃ (a : Nat) (M V : List MP), va = .int .i64 a ∧ vb = .int .i64 ((a : Int) + 2 * bs) ∧ a ≤ n ∧ Hid (M.length = a) ∧ Hid (a + V.length = n) ∧ Hid (M ++ cs (2 * bs) V = cs (2 * bs) d) ∧ Hid (SortW w0 base g n c (M ++ cs bs V) wr))
            (fun va _ _ => n - (intOf va).toNat)
          case atStart => exact ⟨0, [], d, rfl, by first | go_num | (congr 1; omega), Nat.zero_le _, rfl, (show _ = _ by have := HN.out; omega), rfl, HS⟩
          case round =>
            clear HS
            obtain ⟨a, M, V, rfl, rfl, han, HM, HV, HC, HS⟩ := hrel
            by_cases hlt2 : (a : Int) + 2 * bs ≤ n
            · have hVl : 2 * bs ≤ V.length := by have := HV.out; omega
              have l1 : (V.take bs).length = bs := by simp; omega
              have l2 : ((V.drop bs).take bs).length = bs := by simp; omega
              have hV : V = V.take bs ++ ((V.drop bs).take bs ++ (V.drop bs).drop bs) := by rw [List.take_append_drop, List.take_append_drop]
              have l3 : ((V.drop bs).drop bs).length = V.length - 2 * bs := by simp; omega
              generalize V.take bs = V1 at *
              generalize (V.drop bs).take bs = V2 at *
              generalize (V.drop bs).drop bs = V3 at *
              subst hV
              have hS : SortW w0 base g n c (M ++ (stab mw V1 ++ (stab mw V2 ++ cs bs V3))) wr := HS.out.same (by rw [cs_app (by omega) l1, cs_app (by omega) l2])
              have HX := Lib.hid (sym_any w0 base g n c hn _ wr M (stab mw V1) (stab mw V2) (cs bs V3) (a : Int) ((a : Int) + bs) ((a : Int) + 2 * bs) rfl hS (by rw [HM.out]) (by rw [stab_len]; omega) (by rw [stab_len]; omega) (by rw [stab_len]; omega) (by rw [stab_len]; omega) (stab_srt _) (stab_srt _))
              have L1 := Lib.hid l1
              have L2 := Lib.hid l2
              have L3 := Lib.hid l3
              clear hS HS l1 l2 l3
              go_wp2_with (go_at_call 121; (with_reducible refine HX.out.mono ?_); go_must (rintro e w1 ⟨rfl, hS1⟩; have HS1 := Lib.hid hS1; clear hS1))
              go_roundw
              case rel =>
                refine ⟨a + 2 * bs, M ++ stab mw (V1 ++ V2), V3, by go_num, by first | go_num | (congr 1; omega), by omega, (show _ = _ by rw [List.length_append, stab_len, HM.out, List.length_append, L1.out, L2.out]; omega), (show _ = _ by have := HV.out; have := L1.out; have := L2.out; simp at *; omega), ?_, HS1.out.same ?_⟩
                · show _ = _
                  rw [← HC.out, cs_two (by omega) L1.out L2.out, List.append_assoc]
                · rw [stab_stab, List.append_assoc]
              case measure => simp [intOf]; omega
            · by_cases hlt3 : (a : Int) + bs < n
              · have hVl : bs < V.length := by have := HV.out; omega
                have hVm : V.length ≤ 2 * bs := by have := HV.out; omega
                have l1 : (V.take bs).length = bs := by simp; omega
                have hV : V = V.take bs ++ V.drop bs := by rw [List.take_append_drop]
                have l3 : (V.drop bs).length = V.length - bs := by simp
                have hVV : cs (2 * bs) V = stab mw V := cs_small hVm
                generalize V.take bs = V1 at *
                generalize V.drop bs = V2 at *
                have hVn := HV.out
                subst hV
                have hS : SortW w0 base g n c (M ++ (stab mw V1 ++ (stab mw V2 ++ []))) wr := HS.out.same (by rw [cs_app (by omega) l1, cs_small (l := V2) (by omega), List.append_nil])
                have HX := Lib.hid (sym_any w0 base g n c hn _ wr M (stab mw V1) (stab mw V2) [] (a : Int) ((a : Int) + bs) (n : Int) rfl hS (by rw [HM.out]) (by rw [stab_len]; omega) (by rw [stab_len]; omega) (by rw [stab_len]; omega) (by rw [stab_len]; omega) (stab_srt _) (stab_srt _))
                have HE : Hid (M ++ (stab mw (stab mw V1 ++ stab mw V2) ++ []) = cs (2 * bs) d) := (show _ = _ by rw [← HC.out, hVV, stab_stab, List.append_nil])
                clear hS HS l1 l3 hVV hVn
                go_wp2_with (go_at_call 121; (with_reducible refine HX.out.mono ?_); go_must (rintro e w1 ⟨rfl, hS1⟩; have HS1 := Lib.hid (hS1.same HE.out); clear hS1))
                go_roundw
                case rel => exact ⟨2 * bs, by first | go_num | (congr 1; omega), by omega, by omega, HS1⟩
                case measure => simp [intOf]; omega
              · have hVm : V.length ≤ bs := by have := HV.out; omega
                have HE : Hid (M ++ cs bs V = cs (2 * bs) d) := (show _ = _ by rw [← HC.out, cs_small hVm, cs_small (by omega)])
                clear hVm
                go_wp2_with fail
                go_roundw
                case rel => exact ⟨2 * bs, by first | go_num | (congr 1; omega), by omega, by omega, HS.out.same HE.out⟩
                case measure => simp [intOf]; omega
        · go_wp2_with fail
          go_end0
          exact ⟨rfl, HS.out.same (by rw [cs_small]; have := HN.out; omega)⟩

theorem sort_any (w0 W : World) (base g n c : Nat) (d : List MP) (h : SortW w0 base g n c d W) (hn : n ≤ 1099511627776) :
    Calls Try.prog 115 #[.slice (some ⟨g, 0, none⟩) n c, .func (.func 116) #[] #[]] W fun e w' =>
      e = .returned (.tuple #[]) ∧ SortW w0 base g n c (stab mw d) w' := by
  have HC := Lib.hid (stable_any w0 W base g n c d h hn)
  clear h
  go_enter Try.func115, Try.ntmps115
  go_wp2_with (go_at_call 118; (with_reducible refine HC.out.mono ?_); go_must (rintro e w1 ⟨rfl, hS1⟩))
  go_end0
  exact ⟨rfl, hS1⟩
theorem insertion_nil (f : Value) (W : World) :
    Calls Try.prog 120 #[.slice none 0 0, .int .i64 0, .int .i64 0, f] W fun e w' => e = .returned (.tuple #[]) ∧ W = w' := by
  go_enter Try.func120, Try.ntmps120
  go_wp2
  refine wp_loop_rounds 1 ?_
  rw [rounds_succ]
  go_wp2
  go_end0
  exact ⟨rfl, rfl⟩
theorem stable_nil (f : Value) (W : World) :
    Calls Try.prog 118 #[.slice none 0 0, .int .i64 0, f] W fun e w' => e = .returned (.tuple #[]) ∧ W = w' := by
  go_enter Try.func118, Try.ntmps118
  go_wp2
  refine wp_loop_rounds 1 ?_
  rw [rounds_succ]
  go_wp2_with (go_at_call 120; (with_reducible refine (insertion_nil _ _).mono ?_); go_must (rintro e w1 ⟨rfl, rfl⟩))
  refine wp_loop_rounds 1 ?_
  rw [rounds_succ]
  go_wp2
  go_end0
  exact ⟨rfl, rfl⟩
theorem sort_nil (f : Value) (W : World) :
    Calls Try.prog 115 #[.slice none 0 0, f] W fun e w' => e = .returned (.tuple #[]) ∧ W = w' := by
  go_enter Try.func115, Try.ntmps115
  go_wp2_with (go_at_call 118; (with_reducible refine (stable_nil _ _).mono ?_); go_must (rintro e w1 ⟨rfl, rfl⟩))
  go_end0
  exact ⟨rfl, rfl⟩
end Go.Proofs.Yteoolehdomjkkaa

/- huff: wrong, items. -/
namespace Go.Proofs.Yteoolehdomjkkaa
set_option linter.all false
open Go.RowKit

theorem ret_bool {a b : Bool} (h : a = b) : Ending.returned (.bool a) = .returned (.bool b) := by rw [h]
theorem posn_snoc {ws : List Int} {k : Nat} {x : Int} (h : ws[k]? = some x) : posn (ws.take (k + 1)) = posn (ws.take k) + if 0 < x then 1 else 0 := by
  obtain ⟨hk, rfl⟩ := List.getElem?_eq_some_iff.1 h
  rw [List.take_succ_eq_append_getElem hk]
  unfold posn
  rw [List.filter_append, List.length_append]
  by_cases h : 0 < ws[k] <;> simp [h]
theorem posn_le (ws : List Int) : posn ws ≤ ws.length := List.length_filter_le _ _
theorem badW_snoc {ws : List Int} {k : Nat} {x : Int} (h : ws[k]? = some x) : badW (ws.take (k + 1)) = (badW (ws.take k) || (decide (x < 0) || decide (1073741824 < x))) := by
  obtain ⟨hk, rfl⟩ := List.getElem?_eq_some_iff.1 h
  rw [List.take_succ_eq_append_getElem hk]
  unfold badW
  rw [List.any_append]
  simp
theorem badW_of {ws : List Int} {k : Nat} {x : Int} (h : ws[k]? = some x) (hb : x < 0 ∨ 1073741824 < x) : badW ws = true := by
  unfold badW
  rw [List.any_eq_true]
  exact ⟨x, List.mem_of_getElem? h, by simpa using hb⟩

theorem shl_lt (q t : Nat) (h : t ≤ 15) : decide (wrap64 (2 ^ t) < (q : Int)) = decide (2 ^ t < q) := by
  have e : wrap64 (2 ^ t) = ((2 ^ t : Nat) : Int) := by
    have h2 : (2 : Nat) ^ t ≤ 2 ^ 15 := Nat.pow_le_pow_right (by omega) h
    rw [show ((2 : Int) ^ t) = ((2 ^ t : Nat) : Int) by push_cast; rfl]
    generalize 2 ^ t = u at *
    exact wrap64_id _ (by omega) (by omega)
  rw [e]
  simp only [Int.ofNat_lt]

set_option maxRecDepth 100000 in
set_option maxHeartbeats 1600000 in
theorem wrong_any (B n c : Nat) (A : Option Addr) (ws : List Int) (most : Int) (w : World) (h : RdI w B A n ws) (hn : n ≤ 1099511627776) :
    Calls Try.prog 103 #[.slice A n c, .int .i64 most] w fun e w' => e = .returned (.bool (wrongH ws most)) ∧ w = w' := by
  have hl := h.len
  have hw : ∀ r : Bool, wrongH ws most = r → Hid (wrongH ws most = r) := fun _ h => h
  by_cases hgood : (1 ≤ n ∧ n ≤ 300) ∧ (1 ≤ most ∧ most ≤ 15)
  · obtain ⟨⟨g1, g2⟩, g3, g4⟩ := hgood
    have HW : Hid (wrongH ws most = (badW ws || decide (2 ^ most.toNat < posn ws))) := (show _ = _ by
      unfold wrongH
      rw [decide_eq_false (show ¬ ws.length < 1 by omega), decide_eq_false (show ¬ 300 < ws.length by omega), decide_eq_false (show ¬ most < 1 by omega), decide_eq_false (show ¬ 15 < most by omega)]
      simp)
    have H := Lib.hid h
    have HL := Lib.hid hl
    clear h hl hw
    go_enter Try.func103, Try.ntmps103
    go_wp2
    go_loop [26, 5] (fun i p => ∃ k : Nat, k ≤ n ∧ i = .int .i64 k ∧ p = .int .i64 (posn (ws.take k) : Nat) ∧ Hid (badW (ws.take k) = false)) (fun i _ => n - (intOf i).toNat)
    case atStart => exact ⟨0, Nat.zero_le _, rfl, rfl, rfl⟩
    case round =>
      obtain ⟨k, hk, rfl, rfl, HB⟩ := hrel
      have pl : posn (ws.take k) ≤ 300 := by have := posn_le (ws.take k); have := HL.out; simp at *; omega
      by_cases hlt : k < n
      · obtain ⟨b, o, x, rfl, hb, HX, e1⟩ := H.out.one hlt
        have HP := Lib.hid (posn_snoc HX.out)
        have HQ := Lib.hid (badW_snoc HX.out)
        by_cases hbad : x < 0 ∨ 1073741824 < x
        · have HT : Hid (wrongH ws most = true) := (show _ = _ by rw [HW.out, badW_of HX.out hbad]; rfl)
          rcases hbad with hx | hx
          · go_wp2
            go_ret
            exact ⟨ret_bool HT.out.symm, rfl⟩
          · have hx' : ¬ x < 0 := by omega
            go_wp2
            go_ret
            exact ⟨ret_bool HT.out.symm, rfl⟩
        · have hx1 : 0 ≤ x := by omega
          have hx2 : x ≤ 1073741824 := by omega
          have HB2 : Hid (badW (ws.take (k + 1)) = false) := (show _ = _ by rw [HQ.out, HB.out, decide_eq_false (show ¬ x < 0 by omega), decide_eq_false (show ¬ 1073741824 < x by omega)]; rfl)
          clear hbad
          by_cases hp : 0 < x
          · have HP2 : Hid (posn (ws.take (k + 1)) = posn (ws.take k) + 1) := (show _ = _ by rw [HP.out, if_pos hp])
            generalize posn (ws.take k) = q at *
            go_wp2
            go_round
            case rel => exact ⟨k + 1, by omega, by go_num, by rw [HP2.out]; go_num, HB2⟩
            case measure => simp [intOf]; omega
          · have HP2 : Hid (posn (ws.take (k + 1)) = posn (ws.take k)) := (show _ = _ by rw [HP.out, if_neg hp]; rfl)
            generalize posn (ws.take k) = q at *
            go_wp2
            go_round
            case rel => exact ⟨k + 1, by omega, by go_num, by rw [HP2.out], HB2⟩
            case measure => simp [intOf]; omega
      · obtain rfl : k = n := by omega
        have HT : Hid (wrongH ws most = decide (2 ^ most.toNat < posn (ws.take k))) := (show _ = _ by
          have e : ws.take k = ws := List.take_of_length_le (by rw [HL.out]; exact Nat.le_refl _)
          rw [HW.out]
          have := HB.out
          rw [e] at this ⊢
          rw [this]; rfl)
        generalize posn (ws.take k) = q at *
        go_wp2
        go_ret
        exact ⟨ret_bool (by rw [HT.out]; exact shl_lt q _ (by omega)), rfl⟩
  · have HT : Hid (wrongH ws most = true) := (show _ = _ by
      unfold wrongH
      by_cases q1 : ws.length < 1
      · simp [q1]
      by_cases q2 : 300 < ws.length
      · simp [q2]
      by_cases q3 : most < 1
      · simp [q3]
      have q4 : 15 < most := by omega
      simp [q4])
    clear h hl hw
    by_cases q1 : n < 1
    · go_enter Try.func103, Try.ntmps103
      go_wp2
      go_ret
      exact ⟨ret_bool HT.out.symm, rfl⟩
    by_cases q2 : 300 < n
    · go_enter Try.func103, Try.ntmps103
      go_wp2
      go_ret
      exact ⟨ret_bool HT.out.symm, rfl⟩
    by_cases q3 : most < 1
    · go_enter Try.func103, Try.ntmps103
      go_wp2
      go_ret
      exact ⟨ret_bool HT.out.symm, rfl⟩
    have q4 : 15 < most := by omega
    clear hgood
    go_enter Try.func103, Try.ntmps103
    go_wp2
    go_ret
    exact ⟨ret_bool HT.out.symm, rfl⟩

theorem grown_refl0 (w : World) (row : Option Nat) : w.grownBy w row := ⟨rfl, rfl, rfl, Nat.le_refl _, fun _ _ _ => rfl⟩
/-- A member just laid. -/
theorem leaf_new (w : World) (lo : Nat) (v : Value) (x : Int) (p : Nat) (t : TypeId) (hv : ∀ g, v.ownBlock = some g → g < w.heap.size) (hlo : lo ≤ w.heap.size) :
    isM (w.alloc (.cells #[.int .i64 x, .int .i64 p, .slice none 0 0] t)) (Out lo (w.alloc (.cells #[.int .i64 x, .int .i64 p, .slice none 0 0] t)) v) w.heap.size (.leaf x p) := by
  have hc : ∀ i u, (#[Value.int .i64 x, .int .i64 p, .slice none 0 0] : Array Value)[i]? = some u → (w.alloc (.cells #[.int .i64 x, .int .i64 p, .slice none 0 0] t)).cell? ⟨w.heap.size, i, none⟩ = some u := fun i u h => by
    rw [cell_of_row _ w.heap.size i _ t (0, 0) (heap_alloc_new w _)]
    exact h
  exact ⟨⟨hlo, by simp, fun e => by have := hv _ e; omega⟩, hc 0 _ rfl, hc 1 _ rfl, hc 2 _ rfl⟩

theorem rd_oneP1 (w : World) (o : Obj) (z : MP) : RdP ((w.alloc o).alloc (.cells #[.pointer (some ⟨z.1, 0, none⟩)] 165)) (w.heap.size + 1 + 1) (some ⟨w.heap.size + 1, 0, none⟩) 1 [z] := by
  have h := rd_oneP (w.alloc o) z
  rw [World.size_alloc] at h
  exact h
theorem stab_map {α β : Type} (f : α → β) (wt : β → Int) (l : List α) : (stab (fun x => wt (f x)) l).map f = stab wt (l.map f) := by
  refine SS.eq_stab ⟨?_, ?_⟩
  · unfold Srt
    rw [List.pairwise_map]
    exact (stab_ss (wt := fun x => wt (f x)) l).1
  · intro v
    rw [List.filter_map, List.filter_map]
    exact congrArg (List.map f) ((stab_ss (wt := fun x => wt (f x)) l).2 v)
theorem items_step {ws : List Int} {k : Nat} {x : Int} (h : ws[k]? = some x) : leaves (ws.take (k + 1)) = leaves (ws.take k) ++ if 0 < x then [.leaf x k] else [] := by
  obtain ⟨hk, rfl⟩ := List.getElem?_eq_some_iff.1 h
  rw [List.take_succ_eq_append_getElem hk, leaves_snoc]
  rw [List.length_take, Nat.min_eq_left (by omega)]

set_option maxRecDepth 100000 in
set_option maxHeartbeats 3200000 in
theorem items_any (B n c : Nat) (A : Option Addr) (ws : List Int) (w : World) (h : RdI w B A n ws) (hB1 : B ≤ w.heap.size) (hn : n ≤ 1099511627776) :
    Calls Try.prog 104 #[.slice A n c] w fun e w' => ∃ A' n' c' zs, e = .returned (.slice A' n' c') ∧ n' = zs.length ∧ ownP w' w.heap.size (.slice A' n' c') zs ∧
      zs.map Prod.snd = stab Mem.w (leaves ws) ∧ (∀ z ∈ zs, isM w' (Rng w.heap.size w'.heap.size) z.1 z.2) ∧ Below w.heap.size w w' := by
  have hB := Below.refl w.heap.size w
  have H := Lib.hid h
  have HL := Lib.hid h.len
  clear h
  go_enter Try.func104, Try.ntmps104
  go_wp2
  go_loopw [8, 3] (fun i v wr => ∃ (k : Nat) (zs : List MP), k ≤ n ∧ i = .int .i64 k ∧ zs.length ≤ k ∧ Hid (zs = [] → v = .slice none 0 0) ∧ Hid (ownP wr w.heap.size v zs) ∧ Hid (zs.map Prod.snd = leaves (ws.take k)) ∧ Hid (∀ z ∈ zs, isM wr (Out w.heap.size wr v) z.1 z.2) ∧ Below w.heap.size w wr)
    (fun i _ _ => n - (intOf i).toNat)
  case atStart => exact ⟨0, [], Nat.zero_le _, rfl, Nat.zero_le _, (fun _ => rfl), ownP.nil_ _ _, rfl, (fun z hz => by cases hz), hB⟩
  case round =>
    clear hB
    obtain ⟨k, zs, hk, rfl, hzk, HNL, HO, HZ, HM, hB⟩ := hrel
    have hsz := hB.size
    by_cases hlt : k < n
    · obtain ⟨b, o, x, rfl, hb, HX, e1⟩ := (H.out.blw (hB.mono hB1)).one hlt
      have HST := Lib.hid (items_step HX.out)
      by_cases hp : 0 < x
      · have hbz : b < wr.heap.size := by omega
        have HO1 := Lib.hid ((HO.out.alloc (.cells #[.int .i64 x, .int .i64 k, .slice none 0 0] 164)).alloc (.cells #[.pointer (some ⟨wr.heap.size, 0, none⟩)] 165))
        have hvlt : ∀ g, u3.ownBlock = some g → g < wr.heap.size := fun g hg => (World.ownsRow.lt HO.out g hg).2
        have HN := Lib.hid ((leaf_new wr w.heap.size u3 x k 164 hvlt hsz).alloc (.cells #[.pointer (some ⟨wr.heap.size, 0, none⟩)] 165))
        have HM1 := Lib.hid (fun z hz => ((HM.out z hz).alloc (.cells #[.int .i64 x, .int .i64 k, .slice none 0 0] 164)).alloc (.cells #[.pointer (some ⟨wr.heap.size, 0, none⟩)] 165))
        have HR := Lib.hid (rd_oneP1 wr (.cells #[.int .i64 x, .int .i64 k, .slice none 0 0] 164) (wr.heap.size, Mem.leaf x k))
        clear hvlt
        have HBB := Lib.hid ((hB.alloc hsz (.cells #[.int .i64 x, .int .i64 k, .slice none 0 0] 164)).alloc (by simp; omega) (.cells #[.pointer (some ⟨wr.heap.size, 0, none⟩)] 165))
        go_wp2_with (at_builtin; go_must (refine wpList_appendP rfl (.tmp 15) (.tmp 20) rfl w.heap.size _ zs rfl HO1.out _ 1 1 _ [(wr.heap.size, Mem.leaf x k)] rfl HR.out (by omega) (by simp; omega) ?_; intro v' w2 ho hg hb2 hv; have HO2 := Lib.hid ho; have HG := Lib.hid hg; have HV := Lib.hid hv; have HB2 := Lib.hid (HBB.out.trans hb2); clear ho hg hb2 hv))
        go_roundw
        case rel =>
          refine ⟨k + 1, zs ++ [(wr.heap.size, Mem.leaf x k)], by omega, by go_num, by simp; omega, (show _ → _ from fun e => by simp at e), HO2, (show _ = _ by rw [HST.out, if_pos hp, ← HZ.out]; simp), ?_, HB2.out⟩
          show ∀ z ∈ _, _
          intro z hz
          rcases List.mem_append.1 hz with hz | hz
          · exact (HM1.out z hz).app HG.out HV.out
          · have : z = (wr.heap.size, Mem.leaf x k) := by simpa using hz
            subst this
            exact HN.out.app HG.out HV.out
        case measure => simp [intOf]; omega
      · have HST2 : Hid (leaves (ws.take (k + 1)) = leaves (ws.take k)) := (show _ = _ by rw [HST.out, if_neg hp, List.append_nil])
        go_wp2
        go_roundw
        case rel => exact ⟨k + 1, zs, by omega, by go_num, by omega, HNL, HO, (show _ = _ by rw [HST2.out, HZ.out]), HM, hB⟩
        case measure => simp [intOf]; omega
    · obtain rfl : k = n := by omega
      have HE : Hid (zs.map Prod.snd = leaves ws) := (show _ = _ by rw [HZ.out, List.take_of_length_le (by rw [HL.out]; exact Nat.le_refl _)])
      by_cases hnil : zs = []
      · subst hnil
        have e := HNL.out rfl
        clear HO HM HNL
        subst e
        have HO2 := Lib.hid (ownP.nil_ wr w.heap.size)
        go_wp2_with (go_at_call 115; (with_reducible refine (sort_nil _ _).mono ?_); go_must (rintro e w3 ⟨rfl, rfl⟩))
        go_ret
        exact ⟨_, _, _, [], rfl, rfl, HO2.out, by rw [← HE.out]; rfl, (fun z hz => by cases hz), hB⟩
      · obtain ⟨A', c', rfl, hrd, hlc, hcm⟩ := HO.out.form
        obtain ⟨g, rfl⟩ : ∃ g, A' = some ⟨g, 0, none⟩ := by
          obtain ⟨_, g, e, _, _⟩ := HO.out.pos (List.length_pos_iff.2 hnil)
          exact ⟨g, e⟩
        have HSW : Hid (SortW wr w.heap.size g zs.length c' zs wr) := (show SortW _ _ _ _ _ _ _ from ⟨HO.out, rfl, grown_refl0 _ _, fun z hz => ⟨fun e => (HM.out z hz).root.2.2 (by rw [e]; rfl), (HM.out z hz).weight⟩⟩)
        have HC := Lib.hid (sort_any wr wr w.heap.size g zs.length c' zs HSW.out (by omega))
        have hg : w.heap.size ≤ g := by
          obtain ⟨_, g', e, h1, _⟩ := HO.out.pos (List.length_pos_iff.2 hnil)
          injection e with e; injection e with e; omega
        clear hrd hlc hcm HSW
        go_wp2_with (go_at_call 115; (with_reducible refine HC.out.mono ?_); go_must (rintro e w3 ⟨rfl, hS3⟩; have HS3 := Lib.hid hS3; clear hS3))
        go_ret
        have hm : ∀ z ∈ stab mw zs, isM w3 (Out w.heap.size w3 (.slice (some ⟨g, 0, none⟩) zs.length c')) z.1 z.2 := fun z hz =>
          (HM.out z (((stab_ss (wt := mw) zs).2.mem z).1 hz)).app HS3.out.gro (.inl rfl)
        exact ⟨_, _, _, stab mw zs, rfl, (stab_len zs).symm, HS3.out.own, by rw [← HE.out, stab_map], (fun z hz => (hm z hz).rng), hB.grown HS3.out.gro hsz (fun q hq => by injection hq with hq; omega)⟩
end Go.Proofs.Yteoolehdomjkkaa

/- huff: packages, merged, counts. -/
namespace Go.Proofs.Yteoolehdomjkkaa
set_option linter.all false
open Go.RowKit

theorem node_new (w : World) (lo B base b o c : Nat) (v : Value) (x y : MP) (t : TypeId) (h1 : w.cell? ⟨b, o, none⟩ = some (.pointer (some ⟨x.1, 0, none⟩))) (h2 : w.cell? ⟨b, o + 1, none⟩ = some (.pointer (some ⟨y.1, 0, none⟩)))
    (hx : isM w (Rng lo B) x.1 x.2) (hy : isM w (Rng lo B) y.1 y.2) (hb : b < B) (hlb : lo ≤ b) (hB : B ≤ base) (hbase : base ≤ w.heap.size) (hv : ∀ g, v.ownBlock = some g → base ≤ g ∧ g < w.heap.size) (hlo : lo ≤ w.heap.size) (hc : 2 ≤ c) (hcm : c ≤ maxLen) :
    isM (w.alloc (.cells #[.int .i64 (x.2.w + y.2.w), .int .i64 0, .slice (some ⟨b, o, none⟩) 2 c] t)) (Out lo (w.alloc (.cells #[.int .i64 (x.2.w + y.2.w), .int .i64 0, .slice (some ⟨b, o, none⟩) 2 c] t)) v) w.heap.size (.node x.2 y.2) := by
  have hcell : ∀ i u, (#[Value.int .i64 (x.2.w + y.2.w), .int .i64 0, .slice (some ⟨b, o, none⟩) 2 c] : Array Value)[i]? = some u → (w.alloc (.cells #[.int .i64 (x.2.w + y.2.w), .int .i64 0, .slice (some ⟨b, o, none⟩) 2 c] t)).cell? ⟨w.heap.size, i, none⟩ = some u := fun i u h => by
    rw [cell_of_row _ w.heap.size i _ t (0, 0) (heap_alloc_new w _)]
    exact h
  have hin : ∀ a, lo ≤ a → a < B → Out lo (w.alloc (.cells #[.int .i64 (x.2.w + y.2.w), .int .i64 0, .slice (some ⟨b, o, none⟩) 2 c] t)) v a := fun a h h' => ⟨h, by simp; omega, fun e => by have := hv _ e; omega⟩
  exact ⟨⟨hlo, by simp, fun e => by have := hv _ e; omega⟩, hcell 0 _ rfl, hcell 1 _ rfl, b, o, c, x.1, y.1, hcell 2 _ rfl, hin b hlb hb, hc, hcm,
    (World.cell?_alloc_lt w _ ⟨b, o, none⟩ (by show b < _; omega)).trans h1, (World.cell?_alloc_lt w _ ⟨b, o + 1, none⟩ (by show b < _; omega)).trans h2,
    hx.keep (fun p hp => World.cell?_alloc_lt w _ p (by have := hp.2; omega)) (fun a ha => hin a ha.1 ha.2), hy.keep (fun p hp => World.cell?_alloc_lt w _ p (by have := hp.2; omega)) (fun a ha => hin a ha.1 ha.2)⟩
theorem packs_drop {l : List Mem} {k : Nat} {x y : Mem} (h1 : l[k]? = some x) (h2 : l[k + 1]? = some y) : packs (l.drop k) = .node x y :: packs (l.drop (k + 2)) := by
  obtain ⟨a1, rfl⟩ := List.getElem?_eq_some_iff.1 h1
  obtain ⟨a2, rfl⟩ := List.getElem?_eq_some_iff.1 h2
  rw [List.drop_eq_getElem_cons a1, List.drop_eq_getElem_cons a2, packs]
theorem packs_short {l : List Mem} (h : l.length ≤ 1) : packs l = [] := by
  match l, h with
  | [], _ => rfl
  | [x], _ => rfl

set_option maxRecDepth 100000 in
set_option maxHeartbeats 3200000 in
theorem packages_any (lo B n c : Nat) (A : Option Addr) (zs : List MP) (w : World) (h : RdP w B A n zs) (hnc : n ≤ c) (hcm : c ≤ maxLen) (hB1 : B ≤ w.heap.size) (hn : n ≤ 1099511627776) (hA : ∀ a, A = some a → lo ≤ a.block) (hlo : lo ≤ w.heap.size)
    (hM : ∀ z ∈ zs, isM w (Rng lo B) z.1 z.2) (hW : ∀ z ∈ zs, 0 ≤ z.2.w ∧ z.2.w ≤ 1125899906842624) :
    Calls Try.prog 106 #[.slice A n c] w fun e w' => ∃ A' n' c' zs', e = .returned (.slice A' n' c') ∧ n' = zs'.length ∧ ownP w' w.heap.size (.slice A' n' c') zs' ∧
      zs'.map Prod.snd = packs (zs.map Prod.snd) ∧ (∀ z ∈ zs', isM w' (Rng lo w'.heap.size) z.1 z.2) ∧ Below w.heap.size w w' := by
  have hB := Below.refl w.heap.size w
  have H := Lib.hid h
  have HL := Lib.hid h.len
  have HM0 := Lib.hid hM
  have HW := Lib.hid hW
  have HA := Lib.hid hA
  unfold maxLen at hcm
  clear h hM hW hA
  go_enter Try.func106, Try.ntmps106
  go_wp2
  go_loopw [4, 3] (fun i v wr => ∃ (k : Nat) (out : List MP), i = .int .i64 k ∧ k ≤ n + 1 ∧ out.length ≤ k ∧ Hid (ownP wr w.heap.size v out) ∧ Hid (out.map Prod.snd ++ packs ((zs.map Prod.snd).drop k) = packs (zs.map Prod.snd)) ∧ Hid (∀ z ∈ out, isM wr (Out lo wr v) z.1 z.2) ∧ Below w.heap.size w wr)
    (fun i _ _ => n + 1 - (intOf i).toNat)
  case atStart => exact ⟨0, [], rfl, Nat.zero_le _, Nat.zero_le _, ownP.nil_ _ _, rfl, (fun z hz => by cases hz), hB⟩
  case round =>
    clear hB
    obtain ⟨k, out, rfl, hk, hok, HO, HZ, HM, hB⟩ := hrel
    have hsz := hB.size
    by_cases hlt : k + 1 < n
    · obtain ⟨b, o, x, rfl, hb, HX, e1⟩ := (H.out.blw (hB.mono hB1)).one (show k < n by omega)
      obtain ⟨b', o', y, eA, hb', HY, e2⟩ := (H.out.blw (hB.mono hB1)).one (show k + 1 < n by omega)
      injection eA with eA
      injection eA with eb eo
      subst eb eo
      have wx := ((HM0.out x (List.mem_of_getElem? HX.out)).blw (hB.mono hB1) (Nat.le_refl _)).weight
      have wy := ((HM0.out y (List.mem_of_getElem? HY.out)).blw (hB.mono hB1) (Nat.le_refl _)).weight
      obtain ⟨wx0, wx1⟩ := HW.out x (List.mem_of_getElem? HX.out)
      obtain ⟨wy0, wy1⟩ := HW.out y (List.mem_of_getElem? HY.out)
      have m1 : IntKind.i64.wrap ((k : Int) + 1) = (k : Int) + 1 := by rw [IntKind.wrap_i64]; omega
      have m2 : IntKind.i64.wrap ((k : Int) + 2) = (k : Int) + 2 := by rw [IntKind.wrap_i64]; omega
      have m3 : IntKind.i64.wrap (x.2.w + y.2.w) = x.2.w + y.2.w := by rw [IntKind.wrap_i64]; omega
      have g1 : ((k : Int) + 1).toNat = k + 1 := by omega
      have g2 : ((k : Int) + 2).toNat = k + 2 := by omega
      have p1 : (0 : Int) ≤ (k : Int) + 1 := by omega
      have p2 : (k : Int) + 1 < n := by omega
      have p3 : (k : Int) < n := by omega
      have p4 : (k : Int) + 2 ≤ c := by omega
      have p5 : (k : Int) ≤ (k : Int) + 2 := by omega
      have p6 : (0 : Int) ≤ (k : Int) + 2 := by omega
      have hck : ¬ c = k := by omega
      have e2' : wr.cell? ⟨b, o + k + 1, none⟩ = some (.pointer (some ⟨y.1, 0, none⟩)) := e2
      have HN := Lib.hid (node_new wr lo B w.heap.size b (o + k) (c - k) u3 x y 164 e1 e2' ((HM0.out x (List.mem_of_getElem? HX.out)).blw (hB.mono hB1) (Nat.le_refl _)) ((HM0.out y (List.mem_of_getElem? HY.out)).blw (hB.mono hB1) (Nat.le_refl _)) hb (HA.out _ rfl) hB1 hsz (fun g hg => World.ownsRow.lt HO.out g hg) (by omega) (by omega) (by unfold maxLen; omega))
      have HM1 := Lib.hid (fun z hz => ((HM.out z hz).alloc (.cells #[.int .i64 (x.2.w + y.2.w), .int .i64 0, .slice (some ⟨b, o + k, none⟩) 2 (c - k)] 164)).alloc (.cells #[.pointer (some ⟨wr.heap.size, 0, none⟩)] 165))
      have HBB := Lib.hid ((hB.alloc hsz (.cells #[.int .i64 (x.2.w + y.2.w), .int .i64 0, .slice (some ⟨b, o + k, none⟩) 2 (c - k)] 164)).alloc (by simp; omega) (.cells #[.pointer (some ⟨wr.heap.size, 0, none⟩)] 165))
      have HN1 := Lib.hid (HN.out.alloc (.cells #[.pointer (some ⟨wr.heap.size, 0, none⟩)] 165))
      have HPD := Lib.hid (packs_drop (l := zs.map Prod.snd) (k := k) (x := x.2) (y := y.2) (by rw [List.getElem?_map, HX.out]; rfl) (by rw [List.getElem?_map, HY.out]; rfl))
      clear HN
      go_wp2_with fail
      go_region_law (go_must (refine step_appendP rfl (.tmp 12) (.tmp 36) rfl w.heap.size u3 out rfl ((ownP.drew HO.out).alloc _ |>.alloc _) _ 1 1 _ [(wr.heap.size, Mem.node x.2 y.2)] rfl (rd_oneP1 wr.drew _ (wr.heap.size, Mem.node x.2 y.2)) (by omega) (by simp; omega) ?_; intro v' w2 ho hg hb2 hv; have HO2 := Lib.hid ho; have HG := Lib.hid hg; have HV := Lib.hid hv; have HB2 := Lib.hid hb2; clear ho hg hb2 hv))
      all_goals
        go_wp2_with fail
        go_roundw
        case rel =>
          refine ⟨k + 2, out ++ [(wr.heap.size, Mem.node x.2 y.2)], by go_num, by omega, by simp; omega, HO2, (show _ = _ by rw [← HZ.out, HPD.out]; simp), ?_, ?_⟩
          · show ∀ z ∈ _, _
            intro z hz
            rcases List.mem_append.1 hz with hz | hz
            · exact ((HM1.out z hz).drewO 1).app HG.out HV.out
            · have : z = (wr.heap.size, Mem.node x.2 y.2) := by simpa using hz
              subst this
              exact (HN1.out.drewO 1).app HG.out HV.out
          · exact (bdrewN HBB.out 1).trans HB2.out
        case measure => simp [intOf]; omega
    · have HE : Hid (out.map Prod.snd = packs (zs.map Prod.snd)) := (show _ = _ by rw [← HZ.out, packs_short (l := (zs.map Prod.snd).drop k) (by have := HL.out; simp; omega), List.append_nil])
      obtain ⟨A', c', rfl, hrd, hlc, hcm'⟩ := HO.out.form
      clear hrd hlc hcm'
      go_wp2_with fail
      go_ret
      exact ⟨A', out.length, c', out, rfl, rfl, HO.out, HE.out, (fun z hz => (HM.out z hz).keep (fun _ _ => rfl) (fun b hb => ⟨hb.1, hb.2.1⟩)), hB⟩
end Go.Proofs.Yteoolehdomjkkaa
