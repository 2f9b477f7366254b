/- slices.SortStableFunc over rows of members: symMerge, one element behind. -/
import Derived.Test.YtpbegikdohafbaaSort3
namespace Go.Proofs.Ytpbegikdohafbaa
set_option linter.all false
open Go.RowKit

theorem stab_last {α : Type} {wt : α → Int} {x : α} {A1 A2 : List α} (h : Srt wt (A1 ++ A2)) (h1 : ∀ y ∈ A1, wt y ≤ wt x) (h2 : ∀ y ∈ A2, wt x < wt y) : stab wt ((A1 ++ A2) ++ [x]) = A1 ++ x :: A2 :=
  stab_snoc (SS.of h).eq_stab.symm h1 h2

set_option maxRecDepth 100000 in
set_option maxHeartbeats 3200000 in
theorem sym_last (w0 W : World) (base g n c : Nat) (P : List MP) (x : MP) (A R : List MP) (h : SortW w0 base g n c (P ++ (A ++ x :: R)) W) (hn : n ≤ 1099511627776) (a m b : Nat)
    (ha : a = P.length) (hm : m = a + A.length) (hb : b = m + 1) (h1 : A.length ≠ 1) (hB : Srt (fun x : MP => x.2.w) A) :
    Calls Try.prog 49 #[.slice (some ⟨g, 0, none⟩) n c, .int .i64 a, .int .i64 m, .int .i64 b, .func (.func 42) #[] #[]] W fun e w' =>
      e = .returned (.tuple #[]) ∧ SortW w0 base g n c (P ++ stab (fun x : MP => x.2.w) (A ++ [x]) ++ R) w' := by
  have hlen := h.len
  simp only [List.length_append, List.length_cons] at hlen
  have HS := Lib.hid h
  have b1 : b ≤ n := by omega
  have b2 : a ≤ m := by omega
  have b3 : m < b := by omega
  have b4 : m < n := by omega
  have HA := Lib.hid ha
  have HM := Lib.hid hm
  have e1 : ¬ ((m : Int) - a = 1) := by omega
  have e1' : (((m : Int) - a) == 1) = false := by simpa using e1
  have e2 : (b : Int) - m = 1 := by omega
  have HB := Lib.hid hb
  clear h ha hb hlen hm h1
  go_enter Try.func49, Try.ntmps49
  go_wp2
  go_loopw [14, 15] (fun vi vj wr => ∃ i j : Nat, vi = .int .i64 i ∧ vj = .int .i64 j ∧ a ≤ i ∧ i ≤ j ∧ j ≤ m ∧ Hid (∀ k, a ≤ k → k < i → wd (P ++ (A ++ x :: R)) k ≤ x.2.w) ∧ Hid (∀ k, j ≤ k → k < m → x.2.w < wd (P ++ (A ++ x :: R)) k) ∧ Hid (SortW w0 base g n c (P ++ (A ++ x :: R)) wr))
    (fun vi vj _ => (intOf vj).toNat - (intOf vi).toNat)
  case atStart => exact ⟨a, m, rfl, rfl, by omega, by omega, by omega, (show ∀ k, _ by intro k; omega), (show ∀ k, _ by intro k; omega), HS⟩
  case round =>
    clear HS
    obtain ⟨i, j, rfl, rfl, hmi, hij, hjb, H1, H2, HS⟩ := hrel
    by_cases hlt : i < j
    · go_wp2_with fail
      have eh : ((i : Int) + j) / 2 = (((i + j) / 2 : Nat) : Int) := by omega
      rw [eh]
      clear eh
      obtain ⟨z, hz, cz, cwz, ewz⟩ := HS.out.gt (k := (i + j) / 2) (by omega)
      have hh1 : i ≤ (i + j) / 2 := by omega
      have hh2 : (i + j) / 2 < j := by omega
      have ca := SortW.at_ (L1 := P ++ A) (x := x) (L2 := R) (HS.out.same (by simp))
      have cwa := HS.out.wt (x := x) (by simp)
      rw [show (P ++ A).length = m by have := HA.out; have := HM.out; simp; omega] at ca
      have HW := Lib.hid (fun q => Calls.quiet_of (n := q) (w := wr) (less_any x z (wr.drewN q) cwa cwz))
      have HE := Lib.hid ewz
      clear hz ewz cwz cwa
      generalize (i + j) / 2 = k at *
      have g1 : (k : Int).toNat = k := by omega
      have p3 : (k : Int) < n := by omega
      have p4 : (m : Int) < n := by omega
      have hmono : ∀ k1 k2, a ≤ k1 → k1 ≤ k2 → k2 < m → wd (P ++ (A ++ x :: R)) k1 ≤ wd (P ++ (A ++ x :: R)) k2 := by
        intro k1 k2 q1 q2 q3
        have l1 := HA.out
        have l2 := HB.out
        have l3 := HM.out
        have w1 := wd_mid (P := P) (M := A) (R := x :: R) (k := k1) (t := k1 - a) (by omega) (by omega)
        have w2 := wd_mid (P := P) (M := A) (R := x :: R) (k := k2) (t := k2 - a) (by omega) (by omega)
        rw [w1, w2]
        rcases Nat.lt_or_eq_of_le q2 with q2 | rfl
        · exact (List.pairwise_iff_getElem.1 hB) (k1 - a) (k2 - a) (by omega) (by omega) (by omega)
        · exact Int.le_refl _
      have HMO := Lib.hid hmono
      clear hmono
      by_cases hc : x.2.w < z.2.w
      · have v1 : cmpI x.2.w z.2.w < 0 := (cmpI_neg _ _).2 hc
        have hc' : x.2.w < wd (P ++ (A ++ x :: R)) k := by rw [← HE.out]; exact hc
        generalize cmpI x.2.w z.2.w = r at HW v1
        have v2 : decide (r < 0) = true := decide_eq_true v1
        have HC := Lib.hid hc'
        have HS1 := Lib.hid (fun m => HS.out.drewN m)
        clear hc hc' HS
        go_quiet ((go_at_call 42; exact HW.out _))
        have HS := Lib.hid (HS1.out nq)
        clear HS1 HW
        go_wp2_with fail
        go_roundw
        case rel => exact ⟨i, k, rfl, rfl, by omega, by omega, by omega, H1, (show ∀ q, _ from fun q q1 q2 => by have := HMO.out k q (by omega) q1 q2; have := HC.out; omega), HS⟩
        case measure => simp [intOf]; omega
      · have v1 : ¬ cmpI x.2.w z.2.w < 0 := fun h => hc ((cmpI_neg _ _).1 h)
        have hc' : wd (P ++ (A ++ x :: R)) k ≤ x.2.w := by rw [← HE.out]; omega
        generalize cmpI x.2.w z.2.w = r at HW v1
        have v2 : decide (r < 0) = false := decide_eq_false v1
        have HC := Lib.hid hc'
        have HS1 := Lib.hid (fun m => HS.out.drewN m)
        clear hc hc' HS
        go_quiet ((go_at_call 42; exact HW.out _))
        have HS := Lib.hid (HS1.out nq)
        clear HS1 HW
        go_wp2_with fail
        go_roundw
        case rel => exact ⟨k + 1, j, by go_num, rfl, by omega, by omega, by omega, (show ∀ q, _ from fun q q1 q2 => by have := HMO.out q k q1 (by omega) (by omega); have := HC.out; omega), H2, HS⟩
        case measure => simp [intOf]; omega
    · obtain rfl : i = j := by omega
      clear hlt hij
      have e9 : stab (fun x : MP => x.2.w) (A ++ [x]) = A.take (i - a) ++ x :: A.drop (i - a) := by
        have l1 := HA.out
        have l2 := HB.out
        have l3 := HM.out
        have := stab_last (wt := fun x : MP => x.2.w) (x := x) (A1 := A.take (i - a)) (A2 := A.drop (i - a)) (by rw [List.take_append_drop]; exact hB) ?_ ?_
        · rwa [List.take_append_drop] at this
        · intro y hy
          obtain ⟨t, t1, t2, rfl⟩ := mem_take_at hy
          have w1 := wd_mid (P := P) (M := A) (R := x :: R) (k := a + t) (t := t) (by omega) t2
          have := H1.out (a + t) (by omega) (by omega)
          omega
        · intro y hy
          obtain ⟨t, t1, t2, rfl⟩ := mem_drop_at hy
          have w1 := wd_mid (P := P) (M := A) (R := x :: R) (k := a + t) (t := t) (by omega) t2
          have := H2.out (a + t) (by omega) (by omega)
          omega
      have HE9 := Lib.hid e9
      have h7 : SortW w0 base g n c (P ++ (A.take (i - a) ++ (A.drop (i - a)).take (m - i) ++ x :: ((A.drop (i - a)).drop (m - i) ++ R))) wr := by
        refine HS.out.same ?_
        have := HM.out
        rw [List.take_of_length_le (l := A.drop (i - a)) (by simp; omega), List.drop_eq_nil_of_le (show (A.drop (i - a)).length ≤ m - i by simp; omega), List.take_append_drop]
        rfl
      have lA2 : (A.drop (i - a)).length = m - i := by have := HM.out; simp; omega
      have lA1 : (A.take (i - a)).length = i - a := by have := HM.out; simp; omega
      clear e9 H1 H2 HS
      generalize A.drop (i - a) = A2 at *
      generalize A.take (i - a) = A1 at *
      have HS := Lib.hid h7
      clear h7
      obtain ⟨u, hu⟩ : ∃ u, m = i + u := ⟨m - i, by omega⟩
      have LA2 := Lib.hid (show A2.length = u by omega)
      have LA1 := Lib.hid (show P.length + A1.length = i by have := HA.out; omega)
      rw [show m - i = u by omega] at HS
      clear lA1 lA2 HM
      subst hu
      go_wp2
      go_loopw [17] (fun vk wr => ∃ t : Nat, vk = .int .i64 ((i + t : Nat) : Int) ∧ t ≤ u ∧ Hid (SortW w0 base g n c (P ++ (A1 ++ A2.take t ++ x :: (A2.drop t ++ R))) wr))
        (fun vk _ => (intOf vk).toNat)
      case atStart => exact ⟨u, rfl, by omega, HS⟩
      case round =>
        clear HS
        obtain ⟨t, rfl, hts, HS⟩ := hrel
        by_cases hlt : 0 < t
        · obtain ⟨s, rfl⟩ : ∃ s, t = s + 1 := ⟨t - 1, by omega⟩
          have ht : s < A2.length := by have := LA2.out; omega
          have hS := HS.out
          rw [List.take_succ_eq_append_getElem ht] at hS
          have hS2 : SortW w0 base g n c ((P ++ A1 ++ A2.take s) ++ A2[s] :: x :: (A2.drop (s + 1) ++ R)) wr := hS.same (by simp only [List.append_assoc, List.cons_append, List.nil_append])
          have lq : (P ++ A1 ++ A2.take s).length = i + s := by have := LA1.out; simp; omega
          have eT : P ++ (A1 ++ A2.take s ++ x :: (A2.drop s ++ R)) = (P ++ A1 ++ A2.take s) ++ x :: A2[s] :: (A2.drop (s + 1) ++ R) := by
            rw [List.drop_eq_getElem_cons ht]; simp only [List.append_assoc, List.cons_append, List.nil_append]
          generalize A2[s] = y at hS2 eT
          have ET := Lib.hid eT
          have c1 := hS2.at_
          have c2 := hS2.nx
          have c3 := hS2.at3' (.pointer (some ⟨y.1, 0, none⟩))
          have S1 := hS2.pws.drew
          have f1 := hS2.fr (i + s)
          have f2 := hS2.fr (i + s + 1)
          rw [lq] at c1 c2 c3 S1
          have HS1 := Lib.hid S1
          clear S1 hS hS2 HS lq eT
          have hti : (i : Int) < (i : Int) + s + 1 := by omega
          have hk : i + (s + 1) = i + s + 1 := by omega
          rw [hk]
          clear hk
          have hin : i ≤ i + s := by omega
          generalize hk : i + s = k at *
          have r1 : IntKind.i64.wrap ((k : Int) + 1) = (k : Int) + 1 := by rw [IntKind.wrap_i64]; omega
          have r2 : IntKind.i64.wrap (k : Int) = (k : Int) := by rw [IntKind.wrap_i64]; omega
          have g1 : ((k : Int) + 1).toNat = k + 1 := by omega
          have g2 : (k : Int).toNat = k := by omega
          have p1 : (0 : Int) ≤ (k : Int) + 1 := by omega
          have p3 : (k : Int) + 1 < n := by omega
          have p4 : (k : Int) < n := by omega
          have p5 : (i : Int) < (k : Int) + 1 := by omega
          have HK := Lib.hid hk
          clear hk hti
          go_wp2_with fail
          go_region
          go_wp2_with fail
          go_roundw
          case rel => exact ⟨s, by rw [HK.out], by omega, HS1.out.same ET.out.symm⟩
          case measure => simp [intOf]
        · obtain rfl : t = 0 := by omega
          go_wp2
          refine bodyPost_ret (v := .tuple #[]) (results_none rfl _ _ _) rfl ?_
          exact ⟨rfl, HS.out.same (by rw [HE9.out]; simp)⟩
end Go.Proofs.Ytpbegikdohafbaa
