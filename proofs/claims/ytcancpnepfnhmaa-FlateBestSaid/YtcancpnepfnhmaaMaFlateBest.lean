/- FlateBest. -/
import Derived.Test.YtcancpnepfnhmaaMaPack
namespace Go.Proofs.Ytcancpnepfnhmaa
set_option linter.all false
open Go.RowKit

theorem costs_take {ts : List Tok} {k : Nat} {t : Tok} (h : ts[k]? = some t) : costs (ts.take (k + 1)) = costs (ts.take k) + costF t := by
  obtain ⟨hk, hx⟩ := List.getElem?_eq_some_iff.1 h
  rw [List.take_succ_eq_append_getElem hk, hx, costs_snoc]
set_option maxRecDepth 100000 in
set_option maxHeartbeats 6400000 in
theorem flateBest_walk (n c : Nat) (A : Option Addr) (bs : List UInt8) (w : World) (ha : RdB w w.heap.size A n bs) (hcap : n ≤ c) :
    Calls Try.prog 9 #[.slice A n c] w fun e w' => e = .returned (.bool true) ∧ Below w.heap.size w w' := by
  have HR := Lib.hid ha
  have hl := ha.len
  clear ha
  by_cases h1 : 4000 < n
  · have h1i : (4000 : Int) < (n : Int) := by omega
    go_enter Try.func9, Try.ntmps9
    go_wp2_with (go_at_call 13; (with_reducible refine (first7_any _).mono ?_); go_must (rintro e w1 ⟨rfl, hb1⟩; first | (have HB9 := Lib.hid (HB1.out.trans (hb1.mono HB1.out.size))) | (have HB1 := Lib.hid hb1); clear hb1))
    go_ret
    exact ⟨rfl, HB9.out⟩
  · have h1i : ¬ (4000 : Int) < (n : Int) := by omega
    have HOK := Lib.hid (findP_ok bs)
    have HTL := Lib.hid (tokSize_len (findP bs))
    have HDF := Lib.hid (fun w1 (h : RdB w1 w.heap.size A n bs) (hB : w.heap.size ≤ w1.heap.size) => deflate_all w.heap.size n c A bs w1 h hB (by omega) hcap)
    have HFI := Lib.hid (fun w1 (h : RdB w1 w.heap.size A n bs) (hB : w.heap.size ≤ w1.heap.size) => find_any w.heap.size n c A bs w1 h hB (by omega) hcap)
    have hbest : ∀ bz, WB bz (deflB bs (findP bs)) → bz.length ≤ (costs (findP bs) + 7) / 8 ∧ bz.length ≤ n + 5 := fun bz h => by have := best_le (findP_ok bs).1 h; rw [hl] at this; exact this
    have HBE := Lib.hid hbest
    have htl : (findP bs).length ≤ n := by have := HTL.out; have := HOK.out.2; omega
    clear hbest
    generalize findP bs = ts at *
    go_enter Try.func9, Try.ntmps9
    go_wp2_with (first
      | (go_at_call 13; (with_reducible refine (first7_any _).mono ?_); go_must (rintro e w1 ⟨rfl, hb1⟩; have HB1 := Lib.hid hb1; have HDF1 := Lib.hid (HDF.out _ (HR.out.blw hb1) hb1.size); clear hb1))
      | (go_at_call 18; (with_reducible refine HDF1.out.mono ?_); go_must (rintro e w2 ⟨v2, bz, rfl, ho2, hz2, hb2⟩; have hbz := HBE.out bz hz2; obtain ⟨A2, c2, rfl, -, -, -⟩ := ho2.form; have HB2 := Lib.hid (HB1.out.trans (hb2.mono HB1.out.size)); have HFI2 := Lib.hid (HFI.out _ (HR.out.blw HB2.out) HB2.out.size); clear ho2 hz2 hb2))
      | (go_at_call 23; (with_reducible refine HFI2.out.mono ?_); go_must (rintro e w3 ⟨A3, n3, c3, rfl, hn3, hr3, hb3⟩; have HT3 := Lib.hid hr3; have HB3 := Lib.hid (HB2.out.trans (hb3.mono HB2.out.size)); clear hr3 hb3)))
    rw [← hn3] at htl
    have HC0 : Hid (costs (ts.take 0) = 10) := (show _ = _ from rfl)
    go_loopw [8, 7] (fun vi vn wr => ∃ (k N : Nat), k ≤ n3 ∧ vi = .int .i64 k ∧ vn = .int .i64 N ∧ Hid (costs (ts.take k) = N) ∧ wr = w3) (fun vi _ _ => n3 - (intOf vi).toNat)
    case atStart => exact ⟨0, 10, Nat.zero_le _, rfl, rfl, HC0, rfl⟩
    case round =>
      clear HC0
      obtain ⟨k, N, hk, rfl, rfl, HC, rfl⟩ := hrel
      have hN : N ≤ 200000 := by
        have h1 := costs_all (ts := ts.take k) (fun t ht => HOK.out.1 t (List.mem_of_mem_take ht))
        have h2 : (ts.take k).length ≤ k := by rw [List.length_take]; omega
        have := HC.out
        omega
      by_cases hlt : k < n3
      · have hlti : (k : Int) < (n3 : Int) := by omega
        obtain ⟨b, o, ⟨a, d, y⟩, rfl, hb, HX, e1, e2, e3⟩ := HT3.out.one hlt
        have hok := HOK.out.1 _ (List.mem_of_getElem? HX.out)
        have HCS : Hid (costs (ts.take (k + 1)) = N + costF (a, d, y)) := (show _ = _ by rw [costs_take HX.out, HC.out])
        by_cases ha : a = 0
        · have d1 : ((a : Int) == 0) = true := by rw [ha]; rfl
          have hy : y < 256 := by rcases hok with ⟨_, h⟩ | ⟨h, _⟩; exact h; (have : 3 ≤ a := h); omega
          by_cases hy2 : y < 144
          · have hyi : (y : Int) < 144 := by omega
            have hc : costF (a, d, y) = 8 := by show (if a = 0 then (if y < 144 then 8 else 9) else _) = 8; rw [if_pos ha, if_pos hy2]
            rw [hc] at HCS
            clear hok hc
            go_wp2_with fail
            go_roundw
            case rel => exact ⟨k + 1, N + 8, by omega, by go_num, by go_num, HCS, trivial⟩
            case measure => simp [intOf]; omega
          · have hyi : ¬ (y : Int) < 144 := by omega
            have hc : costF (a, d, y) = 9 := by show (if a = 0 then (if y < 144 then 8 else 9) else _) = 9; rw [if_pos ha, if_neg hy2]
            rw [hc] at HCS
            clear hok hc
            go_wp2_with fail
            go_roundw
            case rel => exact ⟨k + 1, N + 9, by omega, by go_num, by go_num, HCS, trivial⟩
            case measure => simp [intOf]; omega
        · have d1 : ((a : Int) == 0) = false := beq_eq_false_iff_ne.2 (by omega)
          obtain ⟨h3, h4, h5, h6⟩ : 3 ≤ a ∧ a ≤ 258 ∧ 1 ≤ d ∧ d ≤ 32768 := by rcases hok with ⟨h, _⟩ | h; exact absurd h ha; exact h
          obtain ⟨s, hs⟩ : ∃ s, 257 + lenS a = s := ⟨_, rfl⟩
          obtain ⟨q, hq⟩ : ∃ q, distS d = q := ⟨_, rfl⟩
          have hb1 := (lenOf_le (lenS_spec h3).1).2
          have hb2 := (distOf_le (distS_spec h5).1).2
          have HS1 := Lib.hid (fun w => symbol_at a s _ _ h3 h4 hs rfl rfl w)
          have HS2 := Lib.hid (fun w => distance_at d q _ _ h5 h6 hq rfl rfl w)
          have hc : costF (a, d, y) = 7 + (lenOf (lenS a)).2 + 5 + (distOf (distS d)).2 + (if 279 < 257 + lenS a then 1 else 0) := if_neg ha
          rw [hc, hs] at HCS
          generalize (lenOf (lenS a)).2 = m1 at *
          generalize a - (lenOf (lenS a)).1 = r1 at *
          generalize (distOf (distS d)).2 = m2 at *
          generalize d - (distOf (distS d)).1 = r2 at *
          clear hok hc hs hq
          by_cases hs2 : 279 < s
          · have hsi : (279 : Int) < (s : Int) := by omega
            rw [if_pos hs2] at HCS
            go_wp2_with (first
              | (go_at_call 19; (with_reducible refine (HS1.out _).mono ?_); go_must (rintro e w5 ⟨rfl, rfl⟩))
              | (go_at_call 20; (with_reducible refine (HS2.out _).mono ?_); go_must (rintro e w5 ⟨rfl, rfl⟩)))
            go_roundw
            case rel => exact ⟨k + 1, N + (7 + m1 + 5 + m2 + 1), by omega, by go_num, by push_cast; simp; omega, HCS, trivial⟩
            case measure => simp [intOf]; omega
          · have hsi : ¬ (279 : Int) < (s : Int) := by omega
            rw [if_neg hs2] at HCS
            go_wp2_with (first
              | (go_at_call 19; (with_reducible refine (HS1.out _).mono ?_); go_must (rintro e w5 ⟨rfl, rfl⟩))
              | (go_at_call 20; (with_reducible refine (HS2.out _).mono ?_); go_must (rintro e w5 ⟨rfl, rfl⟩)))
            go_roundw
            case rel => exact ⟨k + 1, N + (7 + m1 + 5 + m2 + 0), by omega, by go_num, by push_cast; simp; omega, HCS, trivial⟩
            case measure => simp [intOf]; omega
      · obtain rfl : k = n3 := by omega
        have hNE : costs ts = N := by have := HC.out; rwa [List.take_of_length_le (by omega)] at this
        rw [hNE] at hbz
        obtain ⟨hz1, hz2⟩ := hbz
        obtain ⟨Q, hQ⟩ : ∃ Q, (N + 7) / 8 = Q := ⟨_, rfl⟩
        rw [hQ] at hz1
        have f1 : ((N : Int) + 7).tdiv 8 = (Q : Int) := by rw [show (N : Int) + 7 = ((N + 7 : Nat) : Int) by omega, ← hQ]; rfl
        have f2 : ((N : Int) + 7) / 8 = (Q : Int) := by omega
        generalize bz.length = nz at *
        have f3 : (nz : Int) ≤ (Q : Int) := by omega
        have f4 : (nz : Int) ≤ (n : Int) + 5 := by omega
        have hQb : Q ≤ 200000 := by omega
        clear hNE HBE HTL HOK hQ
        go_wp2_with (go_at_call 13; (with_reducible refine (first7_any _).mono ?_); go_must (rintro e w9 ⟨rfl, hb9⟩; have HB9 := Lib.hid (HB3.out.trans (hb9.mono HB3.out.size)); clear hb9))
        go_ret
        exact ⟨rfl, HB9.out⟩
end Go.Proofs.Ytcancpnepfnhmaa
