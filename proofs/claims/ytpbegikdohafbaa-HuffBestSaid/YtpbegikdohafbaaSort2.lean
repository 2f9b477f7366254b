/- slices.SortStableFunc over rows of members: rotate, insertionSort. -/
import Derived.Test.YtpbegikdohafbaaSort1
namespace Go.Proofs.Ytpbegikdohafbaa
set_option linter.all false
open Go.RowKit

theorem swapRange_int (w0 W : World) (base g n c : Nat) (P X M Y R : List MP) (f : Value) (h : SortW w0 base g n c (P ++ X ++ M ++ Y ++ R) W) (hl : X.length = Y.length) (hn : n ≤ 1099511627776) (a b k : Int)
    (ha : a = P.length) (hb : b = P.length + X.length + M.length) (hk : k = X.length) :
    Calls Try.prog 51 #[.slice (some ⟨g, 0, none⟩) n c, .int .i64 a, .int .i64 b, .int .i64 k, f] W fun e w' =>
      e = .returned (.tuple #[]) ∧ SortW w0 base g n c (P ++ Y ++ M ++ X ++ R) w' := by
  subst ha hk
  have hb' : b = ((P.length + X.length + M.length : Nat) : Int) := by omega
  subst hb'
  exact swapRange_any w0 W base g n c P X M Y R f h hl hn _ _ _ rfl rfl rfl

set_option maxRecDepth 100000 in
set_option maxHeartbeats 1600000 in
theorem rotate_any (w0 W : World) (base g n c : Nat) (P U V R : List MP) (f : Value) (h : SortW w0 base g n c (P ++ U ++ V ++ R) W) (hU : 0 < U.length) (hV : 0 < V.length) (hn : n ≤ 1099511627776) (a m b : Nat)
    (ha : a = P.length) (hm : m = P.length + U.length) (hb : b = P.length + U.length + V.length) :
    Calls Try.prog 50 #[.slice (some ⟨g, 0, none⟩) n c, .int .i64 a, .int .i64 m, .int .i64 b, f] W fun e w' =>
      e = .returned (.tuple #[]) ∧ SortW w0 base g n c (P ++ V ++ U ++ R) w' := by
  have hlen := h.len
  simp only [List.length_append] at hlen
  have HS := Lib.hid h
  have e1 : (m : Int) - a = (U.length : Int) := by omega
  have e2 : (b : Int) - m = (V.length : Int) := by omega
  have zm : m = P.length + U.length := hm
  have b1 : b ≤ n := by omega
  have b2 : a ≤ m := by omega
  have b3 : m ≤ b := by omega
  have E1 := Lib.hid e1
  have E2 := Lib.hid e2
  have ZM := Lib.hid zm
  clear h ha hm hb hlen e1 e2 zm
  go_enter Try.func50, Try.ntmps50
  go_wp2
  go_loopw [10, 11] (fun vi vj wr => ∃ (i j : Nat) (P' U' V' R' : List MP), vi = .int .i64 i ∧ vj = .int .i64 j ∧ 0 < i ∧ 0 < j ∧ i ≤ m ∧ m + j ≤ n ∧ Hid (i = U'.length) ∧ Hid (j = V'.length) ∧ Hid (m = P'.length + i) ∧ Hid (SortW w0 base g n c (P' ++ U' ++ V' ++ R') wr) ∧ Hid (P' ++ V' ++ U' ++ R' = P ++ V ++ U ++ R))
    (fun vi vj _ => (intOf vi).toNat + (intOf vj).toNat)
  case atStart => exact ⟨U.length, V.length, P, U, V, R, by rw [E1.out], by rw [E2.out], hU, hV, by have := E1.out; omega, by have := E2.out; omega, rfl, rfl, ZM.out, HS.out, rfl⟩
  case round =>
    clear HS E1 E2 ZM
    obtain ⟨i, j, P', U', V', R', rfl, rfl, hi, hj, him, hjn, HI, HJ, HM, HS, HE⟩ := hrel
    by_cases hij : i = j
    · subst hij
      have HC := Lib.hid (swapRange_int w0 wr base g n c P' U' [] V' R' f (by simpa using HS.out) (by rw [← HI.out, ← HJ.out]) hn ((m : Int) - i) m i (by have := HM.out; omega) (by have := HM.out; have := HI.out; simp; omega) (by have := HI.out; omega))
      go_wp2_with (go_at_call 51; (with_reducible refine HC.out.mono ?_); go_must (rintro e w1 ⟨rfl, hS1⟩; have HS1 := Lib.hid hS1; clear hS1))
      go_end0
      refine ⟨rfl, HS1.out.same ?_⟩
      rw [← HE.out]
      simp
    · by_cases hgt : j < i
      · have e3 : U' = U'.take j ++ U'.drop j := (List.take_append_drop j U').symm
        have HC := Lib.hid (swapRange_int w0 wr base g n c P' (U'.take j) (U'.drop j) V' R' f (by have := HS.out; rw [e3] at this; simpa using this) (by have := HI.out; have := HJ.out; simp; omega) hn ((m : Int) - i) m j (by have := HM.out; omega) (by have := HM.out; have := HI.out; simp; omega) (by have := HI.out; simp; omega))
        clear e3
        go_wp2_with (go_at_call 51; (with_reducible refine HC.out.mono ?_); go_must (rintro e w1 ⟨rfl, hS1⟩; have HS1 := Lib.hid hS1; clear hS1))
        go_roundw
        case rel =>
          refine ⟨i - j, j, P' ++ V', U'.drop j, U'.take j, R', by go_num, rfl, by omega, by omega, by omega, by omega, ?_, ?_, ?_, ?_, ?_⟩
          · exact show _ = _ by have := HI.out; simp; omega
          · exact show _ = _ by have := HI.out; simp; omega
          · exact show _ = _ by have := HM.out; have := HJ.out; simp; omega
          · exact HS1.out
          · exact show _ = _ by rw [← HE.out]; simp
        case measure => simp [intOf]; omega
      · have hlt : i < j := by omega
        have e3 : V' = V'.take (j - i) ++ V'.drop (j - i) := (List.take_append_drop _ V').symm
        have HC := Lib.hid (swapRange_int w0 wr base g n c P' U' (V'.take (j - i)) (V'.drop (j - i)) R' f (by have := HS.out; rw [e3] at this; simpa using this) (by have := HI.out; have := HJ.out; simp; omega) hn ((m : Int) - i) ((m : Int) + j - i) i (by have := HM.out; omega) (by have := HM.out; have := HI.out; have := HJ.out; simp; omega) (by have := HI.out; omega))
        clear e3
        go_wp2_with (go_at_call 51; (with_reducible refine HC.out.mono ?_); go_must (rintro e w1 ⟨rfl, hS1⟩; have HS1 := Lib.hid hS1; clear hS1))
        go_roundw
        case rel =>
          refine ⟨i, j - i, P', V'.drop (j - i), V'.take (j - i), U' ++ R', rfl, by go_num, by omega, by omega, by omega, by omega, ?_, ?_, ?_, ?_, ?_⟩
          · exact show _ = _ by have := HJ.out; simp; omega
          · exact show _ = _ by have := HJ.out; simp; omega
          · exact HM
          · exact HS1.out.same (by simp)
          · exact show _ = _ by rw [← HE.out]; simp
        case measure => simp [intOf]; omega

/-- The row while one element goes down: insertionSort. -/
theorem ins_split {S : List MP} {i : Nat} (h : i < S.length) : stab (fun x : MP => x.2.w) (S.take i) ++ S.drop i = stab (fun x : MP => x.2.w) (S.take i) ++ S[i] :: S.drop (i + 1) := by
  rw [List.drop_eq_getElem_cons h]

theorem gt_cons {x y : MP} {B : List MP} (h : x.2.w < y.2.w) (k : ∀ z ∈ B, x.2.w < z.2.w) : ∀ z ∈ y :: B, x.2.w < z.2.w := fun z hz => by
  rcases List.mem_cons.1 hz with rfl | hz
  · exact h
  · exact k z hz

set_option maxRecDepth 100000 in
set_option maxHeartbeats 3200000 in
theorem insertion_any (w0 W : World) (base g n c : Nat) (P S R : List MP) (h : SortW w0 base g n c (P ++ S ++ R) W) (hn : n ≤ 1099511627776) (a b : Nat)
    (ha : a = P.length) (hb : b = P.length + S.length) :
    Calls Try.prog 48 #[.slice (some ⟨g, 0, none⟩) n c, .int .i64 a, .int .i64 b, .func (.func 42) #[] #[]] W fun e w' =>
      e = .returned (.tuple #[]) ∧ SortW w0 base g n c (P ++ stab (fun x : MP => x.2.w) S ++ R) w' := by
  have hlen := h.len
  simp only [List.length_append] at hlen
  have h0 : SortW w0 base g n c (P ++ (stab (fun x : MP => x.2.w) (S.take 1) ++ S.drop 1) ++ R) W := by
    refine h.same ?_
    cases S with
    | nil => rfl
    | cons x t => rfl
  have HS := Lib.hid h0
  have b1 : b ≤ n := by omega
  have b2 : a ≤ b := by omega
  have HA := Lib.hid ha
  have HB := Lib.hid hb
  clear h h0 ha hb hlen
  go_enter Try.func48, Try.ntmps48
  go_wp2
  go_loopw [8] (fun vi wr => ∃ i : Nat, vi = .int .i64 ((a : Int) + i) ∧ 1 ≤ i ∧ a + i ≤ b + 1 ∧ Hid (SortW w0 base g n c (P ++ (stab (fun x : MP => x.2.w) (S.take i) ++ S.drop i) ++ R) wr))
    (fun vi _ => b + 1 - (intOf vi).toNat)
  case atStart => exact ⟨1, rfl, by omega, by omega, HS⟩
  case round =>
    clear HS
    obtain ⟨i, rfl, hi1, hib, HS⟩ := hrel
    by_cases hlt : a + i < b
    · have hiS : i < S.length := by have := HA.out; have := HB.out; omega
      have hltz : (a : Int) + i < b := by omega
      go_wp2
      go_loopw [9] (fun vj wr => ∃ (j : Nat) (A B : List MP), vj = .int .i64 j ∧ a ≤ j ∧ j ≤ a + i ∧ Hid (j = P.length + A.length) ∧ Hid (stab (fun x : MP => x.2.w) (S.take i) = A ++ B) ∧ Hid (∀ y ∈ B, S[i].2.w < y.2.w) ∧ Hid (SortW w0 base g n c (P ++ (A ++ S[i] :: B ++ S.drop (i + 1)) ++ R) wr))
        (fun vj _ => (intOf vj).toNat)
      case atStart =>
        have e0 := HS.out
        rw [ins_split hiS] at e0
        refine ⟨a + i, stab (fun x : MP => x.2.w) (S.take i), [], by go_num, by omega, by omega, ?_, (show _ = _ by simp), (show ∀ y ∈ _, _ by simp), e0.same (by simp)⟩
        exact show _ = _ by rw [(stab_ss (wt := fun x : MP => x.2.w) (S.take i)).2.length]; have := HA.out; simp; omega
      case round =>
        clear HS
        obtain ⟨j, A, B, rfl, haj, hji, HJ, HT, HG, HS⟩ := hrel
        have hsrt : Srt (fun x : MP => x.2.w) (A ++ B) := by rw [← HT.out]; exact (stab_ss _).1
        by_cases hja : a < j
        · -- a lower neighbour stands there
          have hA : A ≠ [] := by
            rintro rfl
            have := HJ.out; have := HA.out; simp at *; omega
          obtain ⟨A', y, rfl⟩ : ∃ A' y, A = A' ++ [y] := ⟨A.dropLast, A.getLast hA, (List.dropLast_concat_getLast hA).symm⟩
          obtain ⟨q, rfl⟩ : ∃ q, j = q + 1 := ⟨j - 1, by omega⟩
          have lq : (P ++ A').length = q := by have := HJ.out; simp at *; omega
          have hS : SortW w0 base g n c ((P ++ A') ++ y :: S[i] :: (B ++ S.drop (i + 1) ++ R)) wr := HS.out.same (by simp)
          generalize hx : S[i] = x at *
          have hGx : ∀ z ∈ B, x.2.w < z.2.w := fun z hz => HG.out z hz
          have HW := Lib.hid (fun m => Calls.quiet_of (n := m) (w := wr) (less_any x y (wr.drewN m) (hS.wt (by simp)) (hS.wt (by simp))))
          have c1 := hS.at_
          have c2 := hS.nx
          have f1 := hS.fr q
          have f2 := hS.fr (q + 1)
          rw [lq] at c1 c2
          have r1 : IntKind.i64.wrap ((q : Int) + 1) = (q : Int) + 1 := by rw [IntKind.wrap_i64]; omega
          have r2 : IntKind.i64.wrap (q : Int) = (q : Int) := by rw [IntKind.wrap_i64]; omega
          have g1 : ((q : Int) + 1).toNat = q + 1 := by omega
          have g2 : (q : Int).toNat = q := by omega
          have p1 : (0 : Int) ≤ (q : Int) + 1 := by omega
          have p2 : (0 : Int) ≤ (q : Int) := by omega
          have p3 : (q : Int) + 1 < n := by omega
          have p4 : (q : Int) < n := by omega
          have t1 : (a : Int) < (q : Int) + 1 := by omega
          have t2 : decide ((q : Int) + 1 > (a : Int)) = true := decide_eq_true t1
          by_cases hlt2 : x.2.w < y.2.w
          · have v1 : cmpI x.2.w y.2.w < 0 := (cmpI_neg _ _).2 hlt2
            generalize cmpI x.2.w y.2.w = r at HW v1
            have v2 : decide (r < 0) = true := decide_eq_true v1
            have HS1 := Lib.hid (fun m => (hS.drewN (m + 1)).pws)
            have HC3 := Lib.hid (fun m => (hS.drewN m).at3' (.pointer (some ⟨y.1, 0, none⟩)))
            rw [lq] at HS1 HC3
            clear hS hx HS HG hsrt
            go_wp2_with fail
            go_quiet ((go_at_call 42; exact HW.out _))
            have c3 := HC3.out nq
            have S3 := Lib.hid (HS1.out nq)
            clear HC3 HS1 HW
            go_wp2_with fail
            go_region
            go_wp2_with fail
            go_roundw
            case rel => exact ⟨q, A', y :: B, rfl, by omega, by omega, (show _ = _ by rw [← lq]; simp), (show _ = _ by rw [HT.out]; simp), gt_cons hlt2 hGx, S3.out.same (by simp)⟩
            case measure => simp [intOf]
          · have v1 : ¬ cmpI x.2.w y.2.w < 0 := fun h => hlt2 ((cmpI_neg _ _).1 h)
            generalize cmpI x.2.w y.2.w = r at HW v1
            have v2 : decide (r < 0) = false := decide_eq_false v1
            have e9 : stab (fun x : MP => x.2.w) (S.take (i + 1)) = (A' ++ [y]) ++ x :: B := by
              rw [List.take_succ_eq_append_getElem hiS, hx]
              refine stab_snoc HT.out (fun z hz => ?_) hGx
              have h2 := (Srt.append.1 hsrt).1
              rcases List.mem_append.1 hz with hz | hz
              · have := (Srt.append.1 h2).2.2 z hz y (by simp)
                omega
              · have : z = y := by simpa using hz
                subst this
                omega
            have HE9 := Lib.hid e9
            have HS1 := Lib.hid (fun m => hS.drewN m)
            clear hS hx HS HG hsrt e9 hGx
            go_wp2_with fail
            go_quiet ((go_at_call 42; exact HW.out _))
            have S3 := Lib.hid (HS1.out nq)
            clear HS1 HW
            go_wp2_with fail
            go_roundw
            case rel => exact ⟨i + 1, by first | go_num | (congr 1; omega), by omega, by omega, S3.out.same (by rw [HE9.out] <;> simp)⟩
            case measure => simp [intOf]; omega
        · obtain rfl : j = a := by omega
          have hA : A = [] := by
            have := HJ.out; have := HA.out; exact List.eq_nil_of_length_eq_zero (by omega)
          subst hA
          have e9 : stab (fun x : MP => x.2.w) (S.take (i + 1)) = [] ++ S[i] :: B := by
            rw [List.take_succ_eq_append_getElem hiS]
            exact stab_snoc HT.out (fun z hz => by cases hz) HG.out
          have HE9 := Lib.hid e9
          have t2 : decide ((j : Int) > (j : Int)) = false := decide_eq_false (by omega)
          have HS1 := Lib.hid (fun m => HS.out.drewN m)
          clear HS HG hsrt e9
          go_wp2_with fail
          go_quiet (fail)
          have S3 := Lib.hid (HS1.out nq)
          clear HS1
          go_wp2_with fail
          go_roundw
          case rel => exact ⟨i + 1, by first | go_num | (congr 1; omega), by omega, by omega, S3.out.same (by rw [HE9.out] <;> simp)⟩
          case measure => simp [intOf]; omega
    · have hltz : ¬ (a : Int) + i < b := by omega
      go_wp2
      go_end0
      refine ⟨rfl, HS.out.same ?_⟩
      have := HA.out
      have := HB.out
      rw [List.take_of_length_le (by omega), List.drop_eq_nil_of_le (by omega), List.append_nil, List.append_assoc]
end Go.Proofs.Ytpbegikdohafbaa
