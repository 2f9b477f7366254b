/- slices.SortStableFunc over rows of members: whole. -/
import Derived.Test.YtpbegikdohafbaaSort5
namespace Go.Proofs.Ytpbegikdohafbaa
set_option linter.all false
open Go.RowKit

theorem stab_len (l : List MP) : (stab mw l).length = l.length := (stab_ss l).2.length
theorem stab_srt (l : List MP) : Srt mw (stab mw l) := (stab_ss l).1
theorem stab_stab (a b : List MP) : stab mw (stab mw a ++ stab mw b) = stab mw (a ++ b) :=
  (SS.eq_stab (SS.feq ((stab_ss a).2.append (stab_ss b).2) (stab_ss _)))
/-- Runs of so many, each sorted. -/
def cs (bs : Nat) (l : List MP) : List MP :=
  if h : 0 < bs ∧ bs < l.length then stab mw (l.take bs) ++ cs bs (l.drop bs) else stab mw l
termination_by l.length
decreasing_by simp; omega
theorem cs_small {bs : Nat} {l : List MP} (h : l.length ≤ bs) : cs bs l = stab mw l := by
  rw [cs, dif_neg (by omega)]
theorem cs_app {bs : Nat} {U V : List MP} (h0 : 0 < bs) (hU : U.length = bs) : cs bs (U ++ V) = stab mw U ++ cs bs V := by
  by_cases hV : V = []
  · subst hV
    rw [List.append_nil, cs_small (by omega), cs_small (by simp)]
    simp [stab]
  · have : 0 < V.length := List.length_pos_iff.2 hV
    rw [cs, dif_pos (by simp; omega), ← hU, List.take_left, List.drop_left]
theorem cs_two {bs : Nat} {U V R : List MP} (h0 : 0 < bs) (hU : U.length = bs) (hV : V.length = bs) : cs (2 * bs) (U ++ (V ++ R)) = stab mw (U ++ V) ++ cs (2 * bs) R := by
  rw [← List.append_assoc]
  exact cs_app (by omega) (by simp; omega)

set_option maxRecDepth 100000 in
set_option maxHeartbeats 3200000 in
theorem stable_any (w0 W : World) (base g n c : Nat) (d : List MP) (h : SortW w0 base g n c d W) (hn : n ≤ 1099511627776) :
    Calls Try.prog 46 #[.slice (some ⟨g, 0, none⟩) n c, .int .i64 n, .func (.func 42) #[] #[]] W fun e w' =>
      e = .returned (.tuple #[]) ∧ SortW w0 base g n c (stab mw d) w' := by
  have HN := Lib.hid h.len
  have HS := Lib.hid h
  have HINS := Lib.hid (fun (W : World) (P S R : List MP) (a b : Int) (h : SortW w0 base g n c (P ++ S ++ R) W) (ha : a = (P.length : Int)) (hb : b = ((P.length + S.length : Nat) : Int)) => (show Calls Try.prog 48 #[.slice (some ⟨g, 0, none⟩) n c, .int .i64 a, .int .i64 b, .func (.func 42) #[] #[]] W fun e w' => e = .returned (.tuple #[]) ∧ SortW w0 base g n c (P ++ stab (fun x : MP => x.2.w) S ++ R) w' by subst ha hb; exact insertion_any w0 W base g n c P S R h hn _ _ rfl rfl))
  clear h
  go_enter Try.func46, Try.ntmps46
  go_wp2
  go_loopw [7, 8] (fun va vb wr => ∃ (a : Nat) (M V : List MP), va = .int .i64 a ∧ vb = .int .i64 ((a : Int) + 20) ∧ a ≤ n ∧ Hid (M.length = a) ∧ Hid (a + V.length = n) ∧ Hid (M ++ cs 20 V = cs 20 d) ∧ Hid (SortW w0 base g n c (M ++ V) wr))
    (fun va _ _ => n - (intOf va).toNat)
  case atStart => exact ⟨0, [], d, rfl, rfl, Nat.zero_le _, rfl, (show _ = _ by have := HN.out; omega), rfl, HS⟩
  case round =>
    clear HS
    obtain ⟨a, M, V, rfl, rfl, han, HM, HV, HC, HS⟩ := hrel
    by_cases hlt : (a : Int) + 20 ≤ n
    · have hVl : 20 ≤ V.length := by have := HV.out; omega
      have HX := Lib.hid (HINS.out wr M (V.take 20) (V.drop 20) (a : Int) ((a : Int) + 20) (HS.out.same (by simp)) (by rw [HM.out]) (by rw [HM.out]; simp; omega))
      go_wp2_with (go_at_call 48; (with_reducible refine HX.out.mono ?_); go_must (rintro e w1 ⟨rfl, hS1⟩; have HS1 := Lib.hid hS1; clear hS1))
      go_roundw
      case rel =>
        refine ⟨a + 20, M ++ stab mw (V.take 20), V.drop 20, by go_num, by first | go_num | (congr 1; omega), by omega, (show _ = _ by rw [List.length_append, stab_len, HM.out]; simp; omega), (show _ = _ by have := HV.out; simp; omega), ?_, HS1⟩
        show _ = _
        rw [← HC.out, List.append_assoc, ← cs_app (by omega) (by simp; omega), List.take_append_drop]
      case measure => simp [intOf]; omega
    · have HX := Lib.hid (HINS.out wr M V [] (a : Int) (n : Int) (HS.out.same (by simp)) (by rw [HM.out]) (by rw [HM.out, HV.out]))
      have HD : Hid (M ++ stab mw V ++ [] = cs 20 d) := (show _ = _ by rw [← HC.out, cs_small (by have := HV.out; omega), List.append_nil])
      clear HC HS HINS HM HV
      go_wp2_with (go_at_call 48; (with_reducible refine HX.out.mono ?_); go_must (rintro e w1 ⟨rfl, hS1⟩; have HS1 := Lib.hid (hS1.same HD.out); clear hS1))
      clear HD HX
      go_loopw [6, 7, 8, 9] (fun vs va vb vm wr => ∃ (bs : Nat), vs = .int .i64 bs ∧ 20 ≤ bs ∧ bs ≤ 2 * n + 20 ∧ Hid (SortW w0 base g n c (cs bs d) wr))
        (fun vs _ _ _ _ => n - (intOf vs).toNat)
      case atStart => exact ⟨20, rfl, by omega, by omega, HS1⟩
      case round =>
        clear HS1
        obtain ⟨bs, rfl, hb1, hb2, HS⟩ := hrel
        by_cases hlt : bs < n
        · obtain ⟨wo, rfl⟩ : ∃ wo : World, wo = wr := ⟨_, rfl⟩
          go_wp2_with fail
          go_loopw [7, 8] (fun va vb wr => ∃ (a : Nat) (M V : List MP), va = .int .i64 a ∧ vb = .int .i64 ((a : Int) + 2 * bs) ∧ a ≤ n ∧ Hid (M.length = a) ∧ Hid (a + V.length = n) ∧ Hid (M ++ cs (2 * bs) V = cs (2 * bs) d) ∧ Hid (SortW w0 base g n c (M ++ cs bs V) wr))
            (fun va _ _ => n - (intOf va).toNat)
          case atStart => exact ⟨0, [], d, rfl, by first | go_num | (congr 1; omega), Nat.zero_le _, rfl, (show _ = _ by have := HN.out; omega), rfl, HS⟩
          case round =>
            clear HS
            obtain ⟨a, M, V, rfl, rfl, han, HM, HV, HC, HS⟩ := hrel
            by_cases hlt2 : (a : Int) + 2 * bs ≤ n
            · have hVl : 2 * bs ≤ V.length := by have := HV.out; omega
              have l1 : (V.take bs).length = bs := by simp; omega
              have l2 : ((V.drop bs).take bs).length = bs := by simp; omega
              have hV : V = V.take bs ++ ((V.drop bs).take bs ++ (V.drop bs).drop bs) := by rw [List.take_append_drop, List.take_append_drop]
              have l3 : ((V.drop bs).drop bs).length = V.length - 2 * bs := by simp; omega
              generalize V.take bs = V1 at *
              generalize (V.drop bs).take bs = V2 at *
              generalize (V.drop bs).drop bs = V3 at *
              subst hV
              have hS : SortW w0 base g n c (M ++ (stab mw V1 ++ (stab mw V2 ++ cs bs V3))) wr := HS.out.same (by rw [cs_app (by omega) l1, cs_app (by omega) l2])
              have HX := Lib.hid (sym_any w0 base g n c hn _ wr M (stab mw V1) (stab mw V2) (cs bs V3) (a : Int) ((a : Int) + bs) ((a : Int) + 2 * bs) rfl hS (by rw [HM.out]) (by rw [stab_len]; omega) (by rw [stab_len]; omega) (by rw [stab_len]; omega) (by rw [stab_len]; omega) (stab_srt _) (stab_srt _))
              have L1 := Lib.hid l1
              have L2 := Lib.hid l2
              have L3 := Lib.hid l3
              clear hS HS l1 l2 l3
              go_wp2_with (go_at_call 49; (with_reducible refine HX.out.mono ?_); go_must (rintro e w1 ⟨rfl, hS1⟩; have HS1 := Lib.hid hS1; clear hS1))
              go_roundw
              case rel =>
                refine ⟨a + 2 * bs, M ++ stab mw (V1 ++ V2), V3, by go_num, by first | go_num | (congr 1; omega), by omega, (show _ = _ by rw [List.length_append, stab_len, HM.out, List.length_append, L1.out, L2.out]; omega), (show _ = _ by have := HV.out; have := L1.out; have := L2.out; simp at *; omega), ?_, HS1.out.same ?_⟩
                · show _ = _
                  rw [← HC.out, cs_two (by omega) L1.out L2.out, List.append_assoc]
                · rw [stab_stab, List.append_assoc]
              case measure => simp [intOf]; omega
            · by_cases hlt3 : (a : Int) + bs < n
              · have hVl : bs < V.length := by have := HV.out; omega
                have hVm : V.length ≤ 2 * bs := by have := HV.out; omega
                have l1 : (V.take bs).length = bs := by simp; omega
                have hV : V = V.take bs ++ V.drop bs := by rw [List.take_append_drop]
                have l3 : (V.drop bs).length = V.length - bs := by simp
                have hVV : cs (2 * bs) V = stab mw V := cs_small hVm
                generalize V.take bs = V1 at *
                generalize V.drop bs = V2 at *
                have hVn := HV.out
                subst hV
                have hS : SortW w0 base g n c (M ++ (stab mw V1 ++ (stab mw V2 ++ []))) wr := HS.out.same (by rw [cs_app (by omega) l1, cs_small (l := V2) (by omega), List.append_nil])
                have HX := Lib.hid (sym_any w0 base g n c hn _ wr M (stab mw V1) (stab mw V2) [] (a : Int) ((a : Int) + bs) (n : Int) rfl hS (by rw [HM.out]) (by rw [stab_len]; omega) (by rw [stab_len]; omega) (by rw [stab_len]; omega) (by rw [stab_len]; omega) (stab_srt _) (stab_srt _))
                have HE : Hid (M ++ (stab mw (stab mw V1 ++ stab mw V2) ++ []) = cs (2 * bs) d) := (show _ = _ by rw [← HC.out, hVV, stab_stab, List.append_nil])
                clear hS HS l1 l3 hVV hVn
                go_wp2_with (go_at_call 49; (with_reducible refine HX.out.mono ?_); go_must (rintro e w1 ⟨rfl, hS1⟩; have HS1 := Lib.hid (hS1.same HE.out); clear hS1))
                go_roundw
                case rel => exact ⟨2 * bs, by first | go_num | (congr 1; omega), by omega, by omega, HS1⟩
                case measure => simp [intOf]; omega
              · have hVm : V.length ≤ bs := by have := HV.out; omega
                have HE : Hid (M ++ cs bs V = cs (2 * bs) d) := (show _ = _ by rw [← HC.out, cs_small hVm, cs_small (by omega)])
                clear hVm
                go_wp2_with fail
                go_roundw
                case rel => exact ⟨2 * bs, by first | go_num | (congr 1; omega), by omega, by omega, HS.out.same HE.out⟩
                case measure => simp [intOf]; omega
        · go_wp2_with fail
          go_end0
          exact ⟨rfl, HS.out.same (by rw [cs_small]; have := HN.out; omega)⟩

theorem sort_any (w0 W : World) (base g n c : Nat) (d : List MP) (h : SortW w0 base g n c d W) (hn : n ≤ 1099511627776) :
    Calls Try.prog 41 #[.slice (some ⟨g, 0, none⟩) n c, .func (.func 42) #[] #[]] W fun e w' =>
      e = .returned (.tuple #[]) ∧ SortW w0 base g n c (stab mw d) w' := by
  have HC := Lib.hid (stable_any w0 W base g n c d h hn)
  clear h
  go_enter Try.func41, Try.ntmps41
  go_wp2_with (go_at_call 46; (with_reducible refine HC.out.mono ?_); go_must (rintro e w1 ⟨rfl, hS1⟩))
  go_end0
  exact ⟨rfl, hS1⟩
theorem insertion_nil (f : Value) (W : World) :
    Calls Try.prog 48 #[.slice none 0 0, .int .i64 0, .int .i64 0, f] W fun e w' => e = .returned (.tuple #[]) ∧ W = w' := by
  go_enter Try.func48, Try.ntmps48
  go_wp2
  refine wp_loop_rounds 1 ?_
  rw [rounds_succ]
  go_wp2
  go_end0
  exact ⟨rfl, rfl⟩
theorem stable_nil (f : Value) (W : World) :
    Calls Try.prog 46 #[.slice none 0 0, .int .i64 0, f] W fun e w' => e = .returned (.tuple #[]) ∧ W = w' := by
  go_enter Try.func46, Try.ntmps46
  go_wp2
  refine wp_loop_rounds 1 ?_
  rw [rounds_succ]
  go_wp2_with (go_at_call 48; (with_reducible refine (insertion_nil _ _).mono ?_); go_must (rintro e w1 ⟨rfl, rfl⟩))
  refine wp_loop_rounds 1 ?_
  rw [rounds_succ]
  go_wp2
  go_end0
  exact ⟨rfl, rfl⟩
theorem sort_nil (f : Value) (W : World) :
    Calls Try.prog 41 #[.slice none 0 0, f] W fun e w' => e = .returned (.tuple #[]) ∧ W = w' := by
  go_enter Try.func41, Try.ntmps41
  go_wp2_with (go_at_call 46; (with_reducible refine (stable_nil _ _).mono ?_); go_must (rintro e w1 ⟨rfl, rfl⟩))
  go_end0
  exact ⟨rfl, rfl⟩
end Go.Proofs.Ytpbegikdohafbaa
