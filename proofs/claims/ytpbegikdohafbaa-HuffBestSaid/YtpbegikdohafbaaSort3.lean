/- slices.SortStableFunc over rows of members: symMerge. -/
import Derived.Test.YtpbegikdohafbaaSort2
namespace Go.Proofs.Ytpbegikdohafbaa
set_option linter.all false
open Go.RowKit

/-- The weight at a place. -/
def wd (d : List MP) (k : Nat) : Int := (d.getD k default).2.w
section
variable {w0 W : World} {base g n c : Nat} {d : List MP}
theorem SortW.gt (h : SortW w0 base g n c d W) {k : Nat} (hk : k < n) : ∃ z : MP, Hid (d[k]? = some z) ∧ W.cell? ⟨g, k, none⟩ = some (.pointer (some ⟨z.1, 0, none⟩)) ∧ W.cell? ⟨z.1, 0, none⟩ = some (.int .i64 z.2.w) ∧ z.2.w = wd d k := by
  have hl := h.len
  have hk' : k < d.length := by omega
  refine ⟨d[k], List.getElem?_eq_getElem hk', ?_, h.wt (List.getElem_mem hk'), ?_⟩
  · have := h.own.cell h.len hk'
    exact this
  · unfold wd
    rw [List.getD_eq_getElem?_getD, List.getElem?_eq_getElem hk']
    rfl
theorem SortW.swp0 {L1 L3 : List MP} {x y : MP} (h : SortW w0 base g n c (L1 ++ x :: y :: L3) W) :
    SortW w0 base g n c (L1 ++ y :: x :: L3) ((W.setCell ⟨g, L1.length, none⟩ (.pointer (some ⟨y.1, 0, none⟩))).setCell ⟨g, L1.length + 1, none⟩ (.pointer (some ⟨x.1, 0, none⟩))) := SortW.swp (L2 := []) h
end

theorem stab_cons {α : Type} {wt : α → Int} {x : α} {B1 B2 : List α} (h : Srt wt (B1 ++ B2)) (h1 : ∀ y ∈ B1, wt y < wt x) (h2 : ∀ y ∈ B2, wt x ≤ wt y) : stab wt (x :: (B1 ++ B2)) = B1 ++ x :: B2 := by
  refine (SS.eq_stab ⟨?_, ?_⟩).symm
  · obtain ⟨a1, a2, a3⟩ := Srt.append.1 h
    refine Srt.append.2 ⟨a1, ?_, ?_⟩
    · unfold Srt
      rw [List.pairwise_cons]
      exact ⟨h2, a2⟩
    · intro y hy z hz
      rcases List.mem_cons.1 hz with rfl | hz
      · have := h1 y hy; omega
      · exact a3 y hy z hz
  · have e : FEq wt ([x] ++ B1 ++ B2) (B1 ++ [x] ++ B2) := (FEq.swap (fun y hy z hz => by
      have : y = x := by simpa using hy
      subst this
      exact h1 z hz)).append (FEq.refl _)
    simpa using e
theorem wd_mid {P M R : List MP} {k t : Nat} (hk : k = P.length + t) (ht : t < M.length) : wd (P ++ (M ++ R)) k = M[t].2.w := by
  subst hk
  unfold wd
  rw [List.getD_eq_getElem?_getD, List.getElem?_append_right (by omega), Nat.add_sub_cancel_left, List.getElem?_append_left ht, List.getElem?_eq_getElem ht]
  rfl
theorem mem_take_at {α : Type} {l : List α} {n : Nat} {y : α} (h : y ∈ l.take n) : ∃ t, t < n ∧ ∃ ht : t < l.length, l[t] = y := by
  obtain ⟨t, ht, e⟩ := List.getElem_of_mem h
  rw [List.length_take] at ht
  exact ⟨t, by omega, by omega, by rw [List.getElem_take] at e; exact e⟩
theorem mem_drop_at {α : Type} {l : List α} {n : Nat} {y : α} (h : y ∈ l.drop n) : ∃ t, n ≤ t ∧ ∃ ht : t < l.length, l[t] = y := by
  obtain ⟨t, ht, e⟩ := List.getElem_of_mem h
  rw [List.length_drop] at ht
  exact ⟨n + t, by omega, by omega, by rw [List.getElem_drop] at e; exact e⟩

set_option maxRecDepth 100000 in
set_option maxHeartbeats 3200000 in
theorem sym_first (w0 W : World) (base g n c : Nat) (P : List MP) (x : MP) (B R : List MP) (h : SortW w0 base g n c (P ++ x :: (B ++ R)) W) (hn : n ≤ 1099511627776) (a m b : Nat)
    (ha : a = P.length) (hm : m = a + 1) (hb : b = a + 1 + B.length) (hB : Srt (fun x : MP => x.2.w) B) :
    Calls Try.prog 49 #[.slice (some ⟨g, 0, none⟩) n c, .int .i64 a, .int .i64 m, .int .i64 b, .func (.func 42) #[] #[]] W fun e w' =>
      e = .returned (.tuple #[]) ∧ SortW w0 base g n c (P ++ stab (fun x : MP => x.2.w) (x :: B) ++ R) w' := by
  have hlen := h.len
  simp only [List.length_append, List.length_cons] at hlen
  have HS := Lib.hid h
  have b1 : b ≤ n := by omega
  have b2 : a < b := by omega
  have b3 : m ≤ b := by omega
  have b4 : a < n := by omega
  have HA := Lib.hid ha
  have HB := Lib.hid hb
  have e1 : (m : Int) - a = 1 := by omega
  have HM := Lib.hid hm
  clear h ha hb hlen hm
  go_enter Try.func49, Try.ntmps49
  go_wp2
  go_loopw [10, 11] (fun vi vj wr => ∃ i j : Nat, vi = .int .i64 i ∧ vj = .int .i64 j ∧ m ≤ i ∧ i ≤ j ∧ j ≤ b ∧ Hid (∀ k, m ≤ k → k < i → wd (P ++ x :: (B ++ R)) k < x.2.w) ∧ Hid (∀ k, j ≤ k → k < b → x.2.w ≤ wd (P ++ x :: (B ++ R)) k) ∧ Hid (SortW w0 base g n c (P ++ x :: (B ++ R)) wr))
    (fun vi vj _ => (intOf vj).toNat - (intOf vi).toNat)
  case atStart => exact ⟨m, b, rfl, rfl, by omega, by omega, by omega, (show ∀ k, _ by intro k; omega), (show ∀ k, _ by intro k; omega), HS⟩
  case round =>
    clear HS
    obtain ⟨i, j, rfl, rfl, hmi, hij, hjb, H1, H2, HS⟩ := hrel
    by_cases hlt : i < j
    · go_wp2_with fail
      have eh : ((i : Int) + j) / 2 = (((i + j) / 2 : Nat) : Int) := by omega
      rw [eh]
      clear eh
      obtain ⟨z, hz, cz, cwz, ewz⟩ := HS.out.gt (k := (i + j) / 2) (by omega)
      have hh1 : i ≤ (i + j) / 2 := by omega
      have hh2 : (i + j) / 2 < j := by omega
      have ca := HS.out.at_
      have cwa := HS.out.wt (x := x) (by simp)
      rw [← HA.out] at ca
      have HW := Lib.hid (fun q => Calls.quiet_of (n := q) (w := wr) (less_any z x (wr.drewN q) cwz cwa))
      have HE := Lib.hid ewz
      clear hz ewz cwz cwa
      generalize (i + j) / 2 = k at *
      have g1 : (k : Int).toNat = k := by omega
      have p3 : (k : Int) < n := by omega
      have p4 : (a : Int) < n := by omega
      have hmono : ∀ k1 k2, m ≤ k1 → k1 ≤ k2 → k2 < b → wd (P ++ x :: (B ++ R)) k1 ≤ wd (P ++ x :: (B ++ R)) k2 := by
        intro k1 k2 q1 q2 q3
        have l1 := HA.out
        have l2 := HB.out
        have l3 := HM.out
        have w1 := wd_mid (P := P ++ [x]) (M := B) (R := R) (k := k1) (t := k1 - m) (by simp; omega) (by omega)
        have w2 := wd_mid (P := P ++ [x]) (M := B) (R := R) (k := k2) (t := k2 - m) (by simp; omega) (by omega)
        simp only [List.append_assoc, List.cons_append, List.nil_append] at w1 w2
        rw [w1, w2]
        rcases Nat.lt_or_eq_of_le q2 with q2 | rfl
        · exact (List.pairwise_iff_getElem.1 hB) (k1 - m) (k2 - m) (by omega) (by omega) (by omega)
        · exact Int.le_refl _
      have HMO := Lib.hid hmono
      clear hmono
      by_cases hc : z.2.w < x.2.w
      · have v1 : cmpI z.2.w x.2.w < 0 := (cmpI_neg _ _).2 hc
        have hc' : wd (P ++ x :: (B ++ R)) k < x.2.w := by rw [← HE.out]; exact hc
        generalize cmpI z.2.w x.2.w = r at HW v1
        have v2 : decide (r < 0) = true := decide_eq_true v1
        have HC := Lib.hid hc'
        have HS1 := Lib.hid (fun m => HS.out.drewN m)
        clear hc hc' HS
        go_quiet ((go_at_call 42; exact HW.out _))
        have HS := Lib.hid (HS1.out nq)
        clear HS1 HW
        go_wp2_with fail
        go_roundw
        case rel => exact ⟨k + 1, j, by go_num, rfl, by omega, by omega, by omega, (show ∀ q, _ from fun q q1 q2 => by have := HMO.out q k q1 (by omega) (by omega); have := HC.out; omega), H2, HS⟩
        case measure => simp [intOf]; omega
      · have v1 : ¬ cmpI z.2.w x.2.w < 0 := fun h => hc ((cmpI_neg _ _).1 h)
        have hc' : x.2.w ≤ wd (P ++ x :: (B ++ R)) k := by rw [← HE.out]; omega
        generalize cmpI z.2.w x.2.w = r at HW v1
        have v2 : decide (r < 0) = false := decide_eq_false v1
        have HC := Lib.hid hc'
        have HS1 := Lib.hid (fun m => HS.out.drewN m)
        clear hc hc' HS
        go_quiet ((go_at_call 42; exact HW.out _))
        have HS := Lib.hid (HS1.out nq)
        clear HS1 HW
        go_wp2_with fail
        go_roundw
        case rel => exact ⟨i, k, rfl, rfl, by omega, by omega, by omega, H1, (show ∀ q, _ from fun q q1 q2 => by have := HMO.out k q (by omega) q1 q2; have := HC.out; omega), HS⟩
        case measure => simp [intOf]; omega
    · obtain rfl : i = j := by omega
      clear hlt hij
      have e9 : stab (fun x : MP => x.2.w) (x :: B) = B.take (i - m) ++ x :: B.drop (i - m) := by
        have l1 := HA.out
        have l2 := HB.out
        have l3 := HM.out
        have := stab_cons (wt := fun x : MP => x.2.w) (x := x) (B1 := B.take (i - m)) (B2 := B.drop (i - m)) (by rw [List.take_append_drop]; exact hB) ?_ ?_
        · rwa [List.take_append_drop] at this
        · intro y hy
          obtain ⟨t, t1, t2, rfl⟩ := mem_take_at hy
          have w1 := wd_mid (P := P ++ [x]) (M := B) (R := R) (k := m + t) (t := t) (by simp; omega) t2
          simp only [List.append_assoc, List.cons_append, List.nil_append] at w1
          have := H1.out (m + t) (by omega) (by omega)
          omega
        · intro y hy
          obtain ⟨t, t1, t2, rfl⟩ := mem_drop_at hy
          have w1 := wd_mid (P := P ++ [x]) (M := B) (R := R) (k := m + t) (t := t) (by simp; omega) t2
          simp only [List.append_assoc, List.cons_append, List.nil_append] at w1
          have := H2.out (m + t) (by omega) (by omega)
          omega
      have HE9 := Lib.hid e9
      clear e9 H1 H2
      obtain ⟨s, hs⟩ : ∃ s, i = m + s := ⟨i - m, by omega⟩
      have hsB : s ≤ B.length := by have := HB.out; have := HM.out; omega
      rw [show i - m = s by omega] at HE9
      have hs2 := HM.out
      have hi : i = a + 1 + s := by omega
      clear hs hs2
      subst hi
      go_wp2
      go_loopw [13] (fun vk wr => ∃ t : Nat, vk = .int .i64 ((a + t : Nat) : Int) ∧ t ≤ s ∧ Hid (SortW w0 base g n c (P ++ (B.take t ++ x :: (B.drop t ++ R))) wr))
        (fun vk _ => a + s - (intOf vk).toNat)
      case atStart => exact ⟨0, rfl, by omega, HS⟩
      case round =>
        clear HS
        obtain ⟨t, rfl, hts, HS⟩ := hrel
        by_cases hlt : t < s
        · have ht : t < B.length := by omega
          have hS := HS.out
          rw [List.drop_eq_getElem_cons ht] at hS
          have hS2 : SortW w0 base g n c ((P ++ B.take t) ++ x :: B[t] :: (B.drop (t + 1) ++ R)) wr := hS.same (by simp only [List.append_assoc, List.cons_append])
          have lq : (P ++ B.take t).length = a + t := by have := HA.out; simp; omega
          have eT : P ++ (B.take (t + 1) ++ x :: (B.drop (t + 1) ++ R)) = (P ++ B.take t) ++ B[t] :: x :: (B.drop (t + 1) ++ R) := by
            rw [List.take_succ_eq_append_getElem ht]; simp only [List.append_assoc, List.cons_append, List.nil_append]
          generalize B[t] = y at hS2 eT
          have ET := Lib.hid eT
          have c1 := hS2.at_
          have c2 := hS2.nx
          have c3 := SortW.at3 (L2 := []) hS2 (.pointer (some ⟨y.1, 0, none⟩))
          have S1 := hS2.swp0.drew
          have f1 := hS2.fr (a + t)
          have f2 := hS2.fr (a + t + 1)
          rw [List.length_nil, Nat.add_zero] at c3
          rw [lq] at c1 c2 c3 S1
          have HS1 := Lib.hid S1
          clear S1 hS hS2 HS lq eT
          have hti : ((a + t : Nat) : Int) < (a + 1 + s : Nat) - 1 := by omega
          generalize hk : a + t = k at *
          have r1 : IntKind.i64.wrap ((k : Int) + 1) = (k : Int) + 1 := by rw [IntKind.wrap_i64]; omega
          have g1 : ((k : Int) + 1).toNat = k + 1 := by omega
          have g2 : (k : Int).toNat = k := by omega
          have p1 : (0 : Int) ≤ (k : Int) + 1 := by omega
          have p3 : (k : Int) + 1 < n := by omega
          have p4 : (k : Int) < n := by omega
          have HK := Lib.hid hk
          clear hk
          go_wp2_with fail
          go_region
          go_wp2_with fail
          go_roundw
          case rel => exact ⟨t + 1, by rw [← HK.out]; go_num, by omega, HS1.out.same ET.out.symm⟩
          case measure => have := HK.out; simp [intOf]; omega
        · obtain rfl : t = s := by omega
          have hti : ¬ ((a : Int) + t < (a : Int) + 1 + t - 1) := by omega
          go_wp2
          refine bodyPost_ret (v := .tuple #[]) (results_none rfl _ _ _) rfl ?_
          exact ⟨rfl, HS.out.same (by rw [HE9.out]; simp)⟩
end Go.Proofs.Ytpbegikdohafbaa
