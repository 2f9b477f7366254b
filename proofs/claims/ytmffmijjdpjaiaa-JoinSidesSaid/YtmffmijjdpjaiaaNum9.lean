/- Digits read, here and in the reference. -/
import Derived.Test.YtmffmijjdpjaiaaNum8
import Derived.Lib.Bytealg
import Derived.Lib.Strings
import Derived.Lib.Slices
import Derived.Lib.Walk
namespace Go.Proofs.Ytmffmijjdpjaiaa
set_option linter.all false
open Go.RowKit

def hexv (c : UInt8) : Int := if 48 ≤ c.toNat ∧ c.toNat ≤ 57 then (c.toNat : Int) - 48 else if 97 ≤ c.toNat ∧ c.toNat ≤ 102 then (c.toNat : Int) - 87 else -1
theorem hexv_rng (c : UInt8) : -1 ≤ hexv c ∧ hexv c ≤ 15 := by unfold hexv; split <;> (try split) <;> omega
theorem hexv_index : ∀ i : Fin 256, Lib.indexByte [48, 49, 50, 51, 52, 53, 54, 55, 56, 57, 97, 98, 99, 100, 101, 102] (UInt8.ofNat i.val) = hexv (UInt8.ofNat i.val) := by decide +kernel

set_option maxHeartbeats 1000000 in
set_option maxRecDepth 100000 in
theorem sliteIndexByte (s : ByteArray) (c : Int) (w : World) :
    Calls Try.prog 56 #[.string s, .int .u8 c] w fun e w' => e = .returned (.int .i64 (Lib.indexByte s.data.toList c.toNat.toUInt8)) ∧ w' = w := by
  go_enter Try.func56, Try.ntmps56
  go_wp2
  rw [run_callFunc_extern Try.func58 (by kernel_rfl) (by kernel_rfl) (by kernel_rfl) (e := Extern.BytealgIndexByte.indexByte) (by kernel_rfl), Lib.run_indexByteString]
  simp only [Result.andThen]
  rw [Oper.upon_value]
  go_wp2
  go_ret
  exact ⟨rfl, rfl⟩

theorem indexDigit (c : UInt8) (w : World) :
    Calls Try.prog 52 #[.string { data := #[48, 49, 50, 51, 52, 53, 54, 55, 56, 57, 97, 98, 99, 100, 101, 102] }, .int .u8 (c.toNat : Int)] w fun e w' => e = .returned (.int .i64 (hexv c)) ∧ w' = w := by
  go_enter Try.func52, Try.ntmps52
  go_wp2_with (go_at_call 56; refine (sliteIndexByte _ _ _).mono ?_; rintro e w' ⟨rfl, rfl⟩)
  go_ret
  refine ⟨?_, rfl⟩
  have := hexv_index ⟨c.toNat, c.toNat_lt⟩
  simp only [UInt8.ofNat_toNat] at this
  rw [← this]
  rfl

theorem ret_int9 {k : IntKind} {a b : Int} (h : a = b) : Ending.returned (.int k a) = .returned (.int k b) := by rw [h]

theorem digitR (c : UInt8) (w : World) :
    Calls Try.prog 45 #[.int .u8 (c.toNat : Int)] w fun e w' => e = .returned (.int .i64 (hexv c)) ∧ w' = w := by
  have hc := c.toNat_lt
  unfold hexv
  by_cases h1 : 48 ≤ c.toNat ∧ c.toNat ≤ 57
  · rw [if_pos h1]
    obtain ⟨h1, h2⟩ := h1
    have e : ((c.toNat : Int) - 48) % 256 = (c.toNat : Int) - 48 := by omega
    go_enter Try.func45, Try.ntmps45
    go_wp2
    go_ret
    exact ⟨rfl, rfl⟩
  · rw [if_neg h1]
    by_cases h2 : 97 ≤ c.toNat ∧ c.toNat ≤ 102
    · rw [if_pos h2]
      obtain ⟨h2, h3⟩ := h2
      have e : ((c.toNat : Int) - 97) % 256 + 10 = (c.toNat : Int) - 87 := by omega
      go_enter Try.func45, Try.ntmps45
      go_wp2
      all_goals (first | omega | (go_ret; exact ⟨ret_int9 (by omega), rfl⟩))
    · rw [if_neg h2]
      go_enter Try.func45, Try.ntmps45
      go_wp2
      all_goals (first | omega | (go_ret; exact ⟨rfl, rfl⟩))

def unhexL : List UInt8 → Option (List UInt8)
  | [] => some []
  | [_] => none
  | a :: b :: r => if hexv a < 0 ∨ hexv b < 0 then none else (unhexL r).map (UInt8.ofNat ((hexv a).toNat * 16 + (hexv b).toNat) :: ·)

theorem unhexL_cons (a b : UInt8) (r : List UInt8) (h1 : ¬ hexv a < 0) (h2 : ¬ hexv b < 0) : unhexL (a :: b :: r) = (unhexL r).map (UInt8.ofNat ((hexv a).toNat * 16 + (hexv b).toNat) :: ·) := by
  simp [unhexL, h1, h2]
theorem unhexL_bad (a b : UInt8) (r : List UInt8) (h : hexv a < 0 ∨ hexv b < 0) : unhexL (a :: b :: r) = none := by
  simp [unhexL, h]
theorem unhexL_odd : ∀ (n : Nat) (l : List UInt8), l.length = 2 * n + 1 → unhexL l = none
  | 0, [_], _ => rfl
  | n + 1, a :: b :: r, h => by
    simp only [unhexL]
    rw [unhexL_odd n r (by simp at h; omega)]
    simp
  | 0, [], h => by simp at h
  | 0, _ :: _ :: _, h => by simp at h
  | _ + 1, [], h => by simp at h
  | _ + 1, [_], h => by simp at h

theorem or_hex (x y : Int) (h1 : 0 ≤ x) (h2 : x ≤ 15) (h3 : 0 ≤ y) (h4 : y ≤ 15) : bits .or .i64 (x * 16) y % 256 = ((UInt8.ofNat (x.toNat * 16 + y.toNat)).toNat : Int) := by
  obtain ⟨a, rfl⟩ := Int.eq_ofNat_of_zero_le h1
  obtain ⟨b, rfl⟩ := Int.eq_ofNat_of_zero_le h3
  have := i64_or_nat (a * 16) b (by omega) (by omega)
  rw [nat_join 4 _ _ (by omega) (by omega)] at this
  rw [show ((a : Int) * 16) = ((a * 16 : Nat) : Int) by simp, this, UInt8.toNat_ofNat', Int.toNat_natCast, Int.toNat_natCast]
  omega

/-- What Unhex answers. -/
def UnhexIs (base : Nat) (l : List UInt8) (e : Ending) (w' : World) : Prop :=
  match unhexL l with
  | some r => ∃ v, e = .returned (.tuple #[v, .bool true]) ∧ ownB w' base v r
  | none => e = .returned (.tuple #[.slice none 0 0, .bool false])

set_option maxHeartbeats 1000000 in
theorem unhex_any (s : ByteArray) (w : World) (hs : s.size ≤ 140737488355328) :
    Calls Try.prog 43 #[.string s] w fun e w' => UnhexIs w.heap.size s.data.toList e w' ∧ Below w.heap.size w w' := by
  by_cases ho : s.size % 2 = 1
  · have d1 : (((s.size : Int) % 2) != 0) = true := by rw [bne_iff_ne]; omega
    have hu := unhexL_odd (s.size / 2) s.data.toList (by show s.data.toList.length = _; rw [Array.length_toList]; show s.size = _; omega)
    have HU : Hid (∀ (e : Ending) (w' : World), e = .returned (.tuple #[.slice none 0 0, .bool false]) → UnhexIs w.heap.size s.data.toList e w') := by
      intro e w' h
      unfold UnhexIs
      rw [hu]
      exact h
    clear hu
    go_enter Try.func43, Try.ntmps43
    go_wp2
    go_ret2
    exact ⟨HU.out _ _ rfl, Below.refl _ _⟩
  · have d1 : (((s.size : Int) % 2) != 0) = false := by rw [bne_eq_false_iff_eq]; omega
    go_enter Try.func43, Try.ntmps43
    go_wp2
    go_loopw [4, 5] (fun v i wr => ∃ (k : Nat) (out : List UInt8), k ≤ s.size ∧ Hid (k % 2 = 0) ∧ i = .int .i64 (k : Int) ∧ ownB wr w.heap.size v out ∧ out.length ≤ k ∧ Hid (unhexL s.data.toList = (unhexL (s.data.toList.drop k)).map (out ++ ·)) ∧ Below w.heap.size w wr)
      (fun _ i _ => s.size - (intOf i).toNat)
    case atStart => exact ⟨0, [], by omega, rfl, rfl, ownB.nil_ _ _, by simp, by show _ = _; simp, Below.refl _ _⟩
    case round =>
      obtain ⟨k, out, hk, hev, rfl, hown, hle, hrest, hB⟩ := hrel
      by_cases hlt : k < s.size
      · have hlt2 : k + 1 < s.size := by have := hev.out; omega
        have hr1 := hexv_rng s[k]
        have hr2 := hexv_rng s[k+1]
        have hd : s.data.toList.drop k = s[k] :: s[k+1] :: s.data.toList.drop (k + 2) := by
          have l1 : s.data.toList.length = s.size := by rw [Array.length_toList]; rfl
          rw [List.drop_eq_getElem_cons (by omega), List.drop_eq_getElem_cons (by omega)]
          rfl
        have e1 : IntKind.i64.wrap ((k : Int) + 1) = (k : Int) + 1 := by simp [IntKind.wrap, IntKind.bits, IntKind.signed]; omega
        have g1 : 0 ≤ (k : Int) + 1 := by omega
        have g2 : ((k : Int) + 1).toNat = k + 1 := by omega
        have g3 : (k : Int) + 1 < (s.size : Int) := by omega
        have g4 : (k : Int) < (s.size : Int) := by omega
        by_cases hbad : hexv s[k] < 0 ∨ hexv s[k+1] < 0
        · have HU : Hid (∀ (e : Ending) (w' : World), e = .returned (.tuple #[.slice none 0 0, .bool false]) → UnhexIs w.heap.size s.data.toList e w') := by
            intro e w' h
            unfold UnhexIs
            rw [hrest.out, hd, unhexL_bad _ _ _ hbad]
            exact h
          clear hd hrest
          have hb : decide (hexv s[k] < 0) = true ∨ (decide (hexv s[k] < 0) = false ∧ decide (hexv s[k+1] < 0) = true) := by simp; omega
          clear hbad
          rcases hb with b1 | ⟨b1, b2⟩
          all_goals
            go_wp2
            go_quiet ((go_at_call 52; exact Calls.quiet_of_same (indexDigit _ _)))
            go_wp2
            go_ret2
            exact ⟨HU.out _ _ rfl, bdrewN hB _⟩
        · have HD : Hid (unhexL s.data.toList = (unhexL (s.data.toList.drop (k + 2))).map ((out ++ [UInt8.ofNat ((hexv s[k]).toNat * 16 + (hexv s[k+1]).toNat)]) ++ ·)) := by
            show _ = _
            rw [hrest.out, hd, unhexL_cons _ _ _ (fun h => hbad (.inl h)) (fun h => hbad (.inr h)), Option.map_map]
            congr 1
            funext l
            simp
          have HU : Hid (bits .or .i64 (hexv s[k] * 16) (hexv s[k+1]) % 256 = ((UInt8.ofNat ((hexv s[k]).toNat * 16 + (hexv s[k+1]).toNat)).toNat : Int)) := or_hex _ _ (by omega) (by omega) (by omega) (by omega)
          have b1 : decide (hexv s[k] < 0) = false := by simp; omega
          have b2 : decide (hexv s[k+1] < 0) = false := by simp; omega
          have p1 : 0 ≤ hexv s[k] := by omega
          have p2 : 0 ≤ hexv s[k+1] := by omega
          clear hd hbad hrest
          go_wp2
          go_quiet ((go_at_call 52; exact Calls.quiet_of_same (indexDigit _ _)))
          have q1 : hexv s[k] ≤ 15 := hr1.2
          have q2 : hexv s[k+1] ≤ 15 := hr2.2
          clear e1 hr1 hr2
          go_wp2_with (at_builtin; go_must (refine wpList_appendB rfl (.tmp 33) (.tmp 39) rfl w.heap.size _ _ rfl (ownB.alloc (ownB.drewN hown nq) _) _ 1 1 _ [UInt8.ofNat ((hexv s[k]).toNat * 16 + (hexv s[k+1]).toNat)] rfl (rd_one _ _ _ HU.out) (by omega) (by have := hB.size; simp; omega) ?_; intro v1 w1 hown1 hg1 hb1 hat1; replace hB := ((bdrewN hB nq).alloc (by have := hB.size; simpa using this) _).trans hb1; clear hb1 hg1 hat1))
          go_roundw
          case rel => exact ⟨k + 2, _, by omega, by have := hev.out; show _ = _; omega, by go_num, hown1, by simp; omega, HD, hB⟩
          case measure => simp [intOf]; omega
      · have : k = s.size := by omega
        subst this
        have HU : Hid (∀ (e : Ending) (w' : World) (v : Value), e = .returned (.tuple #[v, .bool true]) → ownB w' w.heap.size v out → UnhexIs w.heap.size s.data.toList e w') := by
          intro e w' v h1 h2
          unfold UnhexIs
          have l1 : s.data.toList.length = s.size := by rw [Array.length_toList]; rfl
          rw [hrest.out, List.drop_of_length_le (by omega)]
          simp only [unhexL, Option.map_some, List.append_nil]
          exact ⟨v, h1, h2⟩
        go_wp2
        go_ret2
        exact ⟨HU.out _ _ _ rfl hown, hB⟩


set_option maxHeartbeats 1000000 in
theorem unhexR_any (s : ByteArray) (w : World) (hs : s.size ≤ 140737488355328) :
    Calls Try.prog 39 #[.string s] w fun e w' => UnhexIs w.heap.size s.data.toList e w' ∧ Below w.heap.size w w' := by
  by_cases ho : s.size % 2 = 1
  · have d1 : (((s.size : Int) % 2) != 0) = true := by rw [bne_iff_ne]; omega
    have hu := unhexL_odd (s.size / 2) s.data.toList (by show s.data.toList.length = _; rw [Array.length_toList]; show s.size = _; omega)
    have HU : Hid (∀ (e : Ending) (w' : World), e = .returned (.tuple #[.slice none 0 0, .bool false]) → UnhexIs w.heap.size s.data.toList e w') := by
      intro e w' h
      unfold UnhexIs
      rw [hu]
      exact h
    clear hu
    go_enter Try.func39, Try.ntmps39
    go_wp2
    go_ret2
    exact ⟨HU.out _ _ rfl, Below.refl _ _⟩
  · have d1 : (((s.size : Int) % 2) != 0) = false := by rw [bne_eq_false_iff_eq]; omega
    go_enter Try.func39, Try.ntmps39
    go_wp2
    go_loopw [4, 5] (fun v i wr => ∃ (k : Nat) (out : List UInt8), k ≤ s.size ∧ Hid (k % 2 = 0) ∧ i = .int .i64 (k : Int) ∧ ownB wr w.heap.size v out ∧ out.length ≤ k ∧ Hid (unhexL s.data.toList = (unhexL (s.data.toList.drop k)).map (out ++ ·)) ∧ Below w.heap.size w wr)
      (fun _ i _ => s.size - (intOf i).toNat)
    case atStart => exact ⟨0, [], by omega, rfl, rfl, ownB.nil_ _ _, by simp, by show _ = _; simp, Below.refl _ _⟩
    case round =>
      obtain ⟨k, out, hk, hev, rfl, hown, hle, hrest, hB⟩ := hrel
      by_cases hlt : k < s.size
      · have hlt2 : k + 1 < s.size := by have := hev.out; omega
        have hr1 := hexv_rng s[k]
        have hr2 := hexv_rng s[k+1]
        have hd : s.data.toList.drop k = s[k] :: s[k+1] :: s.data.toList.drop (k + 2) := by
          have l1 : s.data.toList.length = s.size := by rw [Array.length_toList]; rfl
          rw [List.drop_eq_getElem_cons (by omega), List.drop_eq_getElem_cons (by omega)]
          rfl
        have e1 : IntKind.i64.wrap ((k : Int) + 1) = (k : Int) + 1 := by simp [IntKind.wrap, IntKind.bits, IntKind.signed]; omega
        have g1 : 0 ≤ (k : Int) + 1 := by omega
        have g2 : ((k : Int) + 1).toNat = k + 1 := by omega
        have g3 : (k : Int) + 1 < (s.size : Int) := by omega
        have g4 : (k : Int) < (s.size : Int) := by omega
        by_cases hbad : hexv s[k] < 0 ∨ hexv s[k+1] < 0
        · have HU : Hid (∀ (e : Ending) (w' : World), e = .returned (.tuple #[.slice none 0 0, .bool false]) → UnhexIs w.heap.size s.data.toList e w') := by
            intro e w' h
            unfold UnhexIs
            rw [hrest.out, hd, unhexL_bad _ _ _ hbad]
            exact h
          clear hd hrest
          have hb : decide (hexv s[k] < 0) = true ∨ (decide (hexv s[k] < 0) = false ∧ decide (hexv s[k+1] < 0) = true) := by simp; omega
          clear hbad
          rcases hb with b1 | ⟨b1, b2⟩
          all_goals
            go_wp2
            go_quiet ((go_at_call 45; exact Calls.quiet_of_same (digitR _ _)))
            go_wp2
            go_ret2
            exact ⟨HU.out _ _ rfl, bdrewN hB _⟩
        · have HD : Hid (unhexL s.data.toList = (unhexL (s.data.toList.drop (k + 2))).map ((out ++ [UInt8.ofNat ((hexv s[k]).toNat * 16 + (hexv s[k+1]).toNat)]) ++ ·)) := by
            show _ = _
            rw [hrest.out, hd, unhexL_cons _ _ _ (fun h => hbad (.inl h)) (fun h => hbad (.inr h)), Option.map_map]
            congr 1
            funext l
            simp
          have HU : Hid (bits .or .i64 (hexv s[k] * 16) (hexv s[k+1]) % 256 = ((UInt8.ofNat ((hexv s[k]).toNat * 16 + (hexv s[k+1]).toNat)).toNat : Int)) := or_hex _ _ (by omega) (by omega) (by omega) (by omega)
          have b1 : decide (hexv s[k] < 0) = false := by simp; omega
          have b2 : decide (hexv s[k+1] < 0) = false := by simp; omega
          have p1 : 0 ≤ hexv s[k] := by omega
          have p2 : 0 ≤ hexv s[k+1] := by omega
          clear hd hbad hrest
          go_wp2
          go_quiet ((go_at_call 45; exact Calls.quiet_of_same (digitR _ _)))
          have q1 : hexv s[k] ≤ 15 := hr1.2
          have q2 : hexv s[k+1] ≤ 15 := hr2.2
          clear e1 hr1 hr2
          go_wp2_with (at_builtin; go_must (refine wpList_appendB rfl (.tmp 33) (.tmp 39) rfl w.heap.size _ _ rfl (ownB.alloc (ownB.drewN hown nq) _) _ 1 1 _ [UInt8.ofNat ((hexv s[k]).toNat * 16 + (hexv s[k+1]).toNat)] rfl (rd_one _ _ _ HU.out) (by omega) (by have := hB.size; simp; omega) ?_; intro v1 w1 hown1 hg1 hb1 hat1; replace hB := ((bdrewN hB nq).alloc (by have := hB.size; simpa using this) _).trans hb1; clear hb1 hg1 hat1))
          go_roundw
          case rel => exact ⟨k + 2, _, by omega, by have := hev.out; show _ = _; omega, by go_num, hown1, by simp; omega, HD, hB⟩
          case measure => simp [intOf]; omega
      · have : k = s.size := by omega
        subst this
        have HU : Hid (∀ (e : Ending) (w' : World) (v : Value), e = .returned (.tuple #[v, .bool true]) → ownB w' w.heap.size v out → UnhexIs w.heap.size s.data.toList e w') := by
          intro e w' v h1 h2
          unfold UnhexIs
          have l1 : s.data.toList.length = s.size := by rw [Array.length_toList]; rfl
          rw [hrest.out, List.drop_of_length_le (by omega)]
          simp only [unhexL, Option.map_some, List.append_nil]
          exact ⟨v, h1, h2⟩
        go_wp2
        go_ret2
        exact ⟨HU.out _ _ _ rfl hown, hB⟩

end Go.Proofs.Ytmffmijjdpjaiaa
