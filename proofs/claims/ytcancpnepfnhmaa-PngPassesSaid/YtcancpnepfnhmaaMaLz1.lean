/- lz: how many bytes from two places on are the same. -/
import Derived.Test.YtcancpnepfnhmaaMaLzP
namespace Go.Proofs.Ytcancpnepfnhmaa
set_option linter.all false
open Go.RowKit


set_option maxRecDepth 100000 in
set_option maxHeartbeats 1600000 in
theorem common_any (B n c i k : Nat) (A : Option Addr) (bs : List UInt8) (w : World) (h : RdB w B A n bs) (hik : i ≤ k) (hkn : k ≤ n) (hn : n ≤ 40000) :
    Calls Try.prog 91 #[.slice A n c, .int .i64 (i : Int), .int .i64 (k : Int)] w fun e w' => e = .returned (.int .i64 ((comP bs i k : Nat) : Int)) ∧ ∃ q, w' = w.drewN q := by
  have HR := Lib.hid h
  have hl := h.len
  have HC0 : Hid (comF bs i k (258 - 0) 0 = comP bs i k) := (show _ = _ from rfl)
  clear h
  go_enter Try.func91, Try.ntmps91
  go_wp2_with fail
  go_loopw [7] (fun vm wr => ∃ m : Nat, m ≤ 258 ∧ vm = .int .i64 m ∧ Hid (comF bs i k (258 - m) m = comP bs i k) ∧ Hid (∃ q, wr = w.drewN q)) (fun vm _ => 258 - (intOf vm).toNat)
  case atStart => exact ⟨0, by omega, rfl, HC0, (show ∃ q, _ from ⟨0, rfl⟩)⟩
  case round =>
    clear HC0
    obtain ⟨m, hm, rfl, HC, HW⟩ := hrel
    have HRr : Hid (RdB wr B A n bs) := (show RdB _ _ _ _ _ by obtain ⟨q, rfl⟩ := HW.out; exact Rd.drewN HR.out q)
    have HWN : ∀ nq, Hid (∃ q, wr.drewN nq = w.drewN q) := fun nq => (show ∃ q, _ by obtain ⟨q, rfl⟩ := HW.out; exact ⟨q + nq, by rw [World.drewN_drewN]⟩)
    have HS : Hid (m < 258 → comF bs i k (258 - m) m = if k + m < bs.length ∧ bs.getD (i + m) 0 = bs.getD (k + m) 0 then comF bs i k (258 - (m + 1)) (m + 1) else m) := (show _ → _ from fun h => by rw [show 258 - m = (258 - (m + 1)) + 1 by omega]; rfl)
    have hs1 : IntKind.i64.wrap ((k : Int) + (m : Int)) = ((k + m : Nat) : Int) := by have := wrap_i64_lt (k + m) (by omega); simpa using this
    have hs2 : IntKind.i64.wrap ((i : Int) + (m : Int)) = ((i + m : Nat) : Int) := by have := wrap_i64_lt (i + m) (by omega); simpa using this
    by_cases h1 : m < 258
    · have h1i : (m : Int) < 258 := by omega
      by_cases h2 : k + m < n
      · have h2i : (k : Int) + (m : Int) < (n : Int) := by omega
        have h3i : (i : Int) + (m : Int) < (n : Int) := by omega
        obtain ⟨b, o, x, rfl, hb, HX, e1⟩ := HRr.out.byte (k := i + m) (by omega)
        obtain ⟨b2, o2, y, hA2, hb2, HY, e2⟩ := HRr.out.byte (k := k + m) h2
        injection hA2 with hA2
        injection hA2 with hA2 hA3
        subst hA2 hA3
        have HS2 := Lib.hid (HS.out h1)
        rw [getD_at HX.out, getD_at HY.out] at HS2
        have x8 := x.toNat_lt
        have y8 := y.toNat_lt
        obtain ⟨p, hp⟩ : ∃ p, i + m = p := ⟨_, rfl⟩
        obtain ⟨r, hr⟩ : ∃ r, k + m = r := ⟨_, rfl⟩
        have hp2 : (i : Int) + (m : Int) = (p : Int) := by omega
        have hr2 : (k : Int) + (m : Int) = (r : Int) := by omega
        have hp3 : (p : Int) < (n : Int) := by omega
        have hr3 : (r : Int) < (n : Int) := by omega
        have hpn : p < n := by omega
        have hrn : r < n := by omega
        have hb3 : k + m < bs.length := by omega
        rw [hp] at e1 hs2
        rw [hr] at e2 hs1
        by_cases hxy : x = y
        · have d1 : ((x.toNat : Int) == (y.toNat : Int)) = true := by rw [hxy]; exact beq_self_eq_true _
          rw [if_pos ⟨hb3, hxy⟩, HC.out] at HS2
          clear HX HY HS
          go_wp2_with fail
          go_quiet (fail)
          go_wp2_with fail
          go_roundw
          case rel => exact ⟨m + 1, by omega, by go_num, HS2.out.symm, HWN _⟩
          case measure => simp [intOf]; omega
        · have d1 : ((x.toNat : Int) == (y.toNat : Int)) = false := beq_eq_false_iff_ne.2 (fun e => hxy (UInt8.toNat_inj.1 (by omega)))
          rw [if_neg (fun e => hxy e.2), HC.out] at HS2
          clear HX HY HS
          go_wp2_with fail
          go_quiet (fail)
          go_wp2_with fail
          go_ret
          exact ⟨by rw [HS2.out]; rfl, (HWN _).out⟩
      · have h2i : ¬ (k : Int) + (m : Int) < (n : Int) := by omega
        have HS2 := Lib.hid (HS.out h1)
        rw [if_neg (fun e => h2 (hl ▸ e.1)), HC.out] at HS2
        obtain ⟨r, hr⟩ : ∃ r, k + m = r := ⟨_, rfl⟩
        have hr2 : (k : Int) + (m : Int) = (r : Int) := by omega
        have hr3 : ¬ (r : Int) < (n : Int) := by omega
        have hrn : ¬ r < n := by omega
        have hrn2 : n ≤ r := by omega
        have hr4 : decide ((r : Int) < (n : Int)) = false := decide_eq_false hr3
        rw [hr] at hs1
        clear HS hs2
        go_wp2_with fail
        go_quiet (fail)
        go_wp2_with fail
        go_ret
        exact ⟨by rw [HS2.out]; rfl, (HWN _).out⟩
    · obtain rfl : m = 258 := by omega
      have h1i : ¬ (258 : Int) < 258 := by omega
      have HS2 : Hid (comP bs i k = 258) := (show _ = _ by rw [← HC.out]; rfl)
      clear HS
      go_wp2_with fail
      go_quiet (fail)
      go_wp2_with fail
      go_ret
      exact ⟨by rw [HS2.out]; rfl, (HWN _).out⟩
end Go.Proofs.Ytcancpnepfnhmaa
