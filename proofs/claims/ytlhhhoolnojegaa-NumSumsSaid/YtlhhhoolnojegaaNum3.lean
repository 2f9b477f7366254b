import Derived.Test.YtlhhhoolnojegaaNum2
set_option linter.all false
namespace Go.Proofs.Ytlhhhoolnojegaa
open Go.RowKit

set_option maxHeartbeats 400000 in
theorem adlerR_any (B n c : Nat) (A : Option Addr) (bs : List UInt8) (w : World) (h : RdB w B A n bs) (hm : n ≤ 140737488355328) :
    Calls Try.prog 15 #[.slice A n c] w fun e w' => e = .returned (.int .u32 (adler bs)) ∧ w = w' := by
  obtain rfl := h.len
  go_enter Try.func15, Try.ntmps15
  go_wp2
  go_loop [3, 4, 5] (fun s t i => ∃ k : Nat, k ≤ bs.length ∧ i = .int .i64 k ∧ s = .int .u32 (adP (bs.take k)).1 ∧ t = .int .u32 (adP (bs.take k)).2) (fun _ _ i => bs.length - (intOf i).toNat)
  case atStart => exact ⟨0, Nat.zero_le _, rfl, rfl, rfl⟩
  case round =>
    obtain ⟨k, hk, rfl, rfl, rfl⟩ := hrel
    by_cases hlt : k < bs.length
    · obtain ⟨b, o, rfl, _, hc⟩ := h.at_ (by omega)
      have hck := hc k (by omega)
      clear hc
      have hp := adP_lt (bs.take k)
      have hx := bs[k].toNat_lt
      have Hs := Lib.hid (adP_step bs k (by omega))
      go_wp2
      go_round
      case rel => exact ⟨k + 1, by omega, by go_num, by rw [Hs.out]; simp [adF], by rw [Hs.out]; simp [adF]⟩
      case measure => simp [intOf]; omega
    · have hp := adP_lt bs
      have : k = bs.length := by omega
      subst this
      go_wp2
      go_ret
      refine ⟨?_, rfl⟩
      show Ending.returned (.int .u32 (bits .or .u32 (((adP bs).2 : Int) * 65536) ((adP bs).1 : Int))) = _
      have e : bits .or .u32 (((adP bs).2 : Int) * 65536) ((adP bs).1 : Int) = (adler bs : Int) := by
        have := u32_or_nat ((adP bs).2 * 65536) (adP bs).1 (by omega) (by omega)
        rw [nat_join 16 _ _ (by omega) (by omega)] at this
        rw [adler, ← this]
        simp
      rw [e]

set_option maxHeartbeats 400000 in
theorem crcR_any (B n c : Nat) (A : Option Addr) (bs : List UInt8) (w : World) (h : RdB w B A n bs) (hm : n ≤ 140737488355328) :
    Calls Try.prog 14 #[.slice A n c] w fun e w' => e = .returned (.int .u32 (crc bs)) ∧ w = w' := by
  obtain rfl := h.len
  go_enter Try.func14, Try.ntmps14
  go_wp2
  go_loop [3, 4] (fun s i => ∃ k : Nat, k ≤ bs.length ∧ i = .int .i64 k ∧ s = .int .u32 (crcP (bs.take k))) (fun _ i => bs.length - (intOf i).toNat)
  case atStart => exact ⟨0, Nat.zero_le _, rfl, rfl⟩
  case round =>
    obtain ⟨k, hk, rfl, rfl⟩ := hrel
    by_cases hlt : k < bs.length
    · obtain ⟨b, o, rfl, _, hc⟩ := h.at_ (by omega)
      have hck := hc k (by omega)
      clear hc
      have hp := crcP_lt (bs.take k)
      have hx := bs[k].toNat_lt
      have Hs := Lib.hid (crcP_step bs k (by omega))
      have hxx := crc_xor _ _ hp hx
      have hbx := u32_xor_nat _ _ hp (by omega : bs[k].toNat < 4294967296)
      go_wp2
      go_loop [3, 5] (fun s i => ∃ m : Nat, m ≤ 8 ∧ i = .int .i64 m ∧ s = .int .u32 (crcIt (crcP (bs.take k) ^^^ bs[k].toNat) m)) (fun _ i => 8 - (intOf i).toNat)
      case atStart => exact ⟨0, Nat.zero_le _, rfl, by simp [crcIt]⟩
      case round =>
        obtain ⟨m, hm8, rfl, rfl⟩ := hrel
        have hy := crcIt_lt hxx m
        have hs1 : crcIt (crcP (bs.take k) ^^^ bs[k].toNat) (m + 1) = crcStep (crcIt (crcP (bs.take k) ^^^ bs[k].toNat) m) := rfl
        by_cases hm : m < 8
        · generalize crcIt (crcP (bs.take k) ^^^ bs[k].toNat) m = y at *
          have H1 := Lib.hid hs1
          clear hs1
          go_wp2
          · have h1 : (bits BinOp.and IntKind.u32 (y : Int) 1 == 1) = true := by assumption
            go_round
            case rel => exact ⟨m + 1, by omega, by go_num, by rw [H1.out, crc_yes y hy h1]⟩
            case measure => simp [intOf]; omega
          · have h1 : (bits BinOp.and IntKind.u32 (y : Int) 1 == 1) = false := by assumption
            go_round
            case rel => exact ⟨m + 1, by omega, by go_num, by rw [H1.out, crc_no y hy h1]⟩
            case measure => simp [intOf]; omega
        · have : m = 8 := by omega
          subst this
          go_wp2
          go_round
          case rel => exact ⟨k + 1, by omega, by go_num, by rw [Hs.out]⟩
          case measure => simp [intOf]; omega
    · have : k = bs.length := by omega
      subst this
      go_wp2
      go_ret
      refine ⟨?_, rfl⟩
      show Ending.returned (.int .u32 (bits .xor .u32 IntKind.u32.max (crcP bs : Int))) = _
      rw [crc_end _ (crcP_lt _)]
      rfl

end Go.Proofs.Ytlhhhoolnojegaa
