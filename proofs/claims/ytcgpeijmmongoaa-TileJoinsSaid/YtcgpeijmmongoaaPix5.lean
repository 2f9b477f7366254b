/- pix: a channel's number. -/
import Derived.Test.YtcgpeijmmongoaaPix4
import Derived.Test.YtcgpeijmmongoaaBigs
namespace Go.Proofs.Ytcgpeijmmongoaa
set_option linter.all false
open Go.RowKit

def Sh.at_ (s : Sh) (bs : List UInt8) (x y c : Int) : Int × Int :=
  if (s.place bs.length x y c).2 = 0 then (beV ((bs.drop (s.place bs.length x y c).1.toNat).take (s.d / 8).toNat), 0) else (0, (s.place bs.length x y c).2)

theorem Sh.place_ok {s : Sh} {n : Nat} {x y c : Int} (h : (s.place n x y c).2 = 0) : s.mayR n = true ∧ s.nums = true ∧ 0 ≤ (s.place n x y c).1 ∧ (s.place n x y c).1 + s.d / 8 ≤ n ∧ (n : Int) ≤ 16384 ∧ (s.d = 8 ∨ s.d = 16) := by
  cases hm : s.mayR n with
  | false => unfold Sh.place at h; rw [hm] at h; simp at h
  | true =>
    cases hi : s.inB x y c with
    | false => unfold Sh.place at h; rw [hm, hi] at h; simp at h
    | true =>
      have hn := Sh.mayR_nums hm
      have hz := Sh.mayR_size hm
      obtain ⟨⟨p1, p2⟩, ⟨p3, p4⟩, ⟨p5, p6⟩, p7⟩ := Sh.place_bounds hn hi
      have e : s.place n x y c = (y * s.row + (x * s.c + c) * s.d / 8, 0) := by unfold Sh.place; rw [hm, hi]; rfl
      rw [e]
      exact ⟨rfl, hn, by show 0 ≤ y * s.row + (x * s.c + c) * s.d / 8; omega, by show y * s.row + (x * s.c + c) * s.d / 8 + s.d / 8 ≤ _; omega, by omega, ((Sh.nums_iff s).1 hn).2.2.2⟩

set_option maxHeartbeats 1600000 in
theorem at_any (s : Sh) (B : Nat) (A : Option Addr) (n cc : Nat) (bs : List UInt8) (x y c : Int) (w : World) (h : RdB w B A n bs) (hBw : B ≤ w.heap.size) (hc : n ≤ cc) (hm : n ≤ 140737488355328) :
    Calls Try.prog 34 #[s.r A n cc, .int .i64 x, .int .i64 y, .int .i64 c] w fun e w' => e = .returned (.tuple #[.int .i64 (s.at_ bs x y c).1, .int .i64 (s.at_ bs x y c).2]) ∧ Below w.heap.size w w' := by
  have hB := Below.refl w.heap.size w
  have hl := h.len
  have HV := Lib.hid (fun w => place_any s A n cc x y c w)
  by_cases he : (s.place n x y c).2 = 0
  · obtain ⟨-, -, p0, p1, p2, hd⟩ := Sh.place_ok he
    have HA := Lib.hid (show s.at_ bs x y c = (((beV ((bs.drop (s.place n x y c).1.toNat).take (s.d / 8).toNat) : Nat) : Int), 0) by unfold Sh.at_; rw [hl, if_pos he])
    obtain ⟨p, hp⟩ := Int.eq_ofNat_of_zero_le p0
    have HP := Lib.hid (show s.place n x y c = ((p : Int), 0) from Prod.ext hp he)
    rw [hp] at p1
    have HR := Lib.hid (show rdR beV bs p (s.d / 8) = s.at_ bs x y c by
      rw [HA.out, hp]
      unfold rdR
      rw [if_neg (by rcases hd with e | e <;> rw [e] at p1 ⊢ <;> omega), if_neg (by rcases hd with e | e <;> rw [e] at p1 ⊢ <;> omega)])
    have HS := Lib.hid (fun w => @readBig_any B n cc A bs p (s.d / 8) w)
    clear HA he hp p0 p1 hl
    generalize hg : s.at_ bs x y c = g at HR ⊢
    clear hg
    have e8 : s.d.tdiv 8 = s.d / 8 := Int.tdiv_eq_ediv_of_nonneg (by omega)
    obtain ⟨W, H, C, D⟩ := s
    dsimp only at e8 hd
    show Calls _ _ #[.agg #[.int .i64 W, .int .i64 H, .int .i64 C, .int .i64 D, .slice A n cc], .int .i64 x, .int .i64 y, .int .i64 c] w _
    go_enter Try.func34, Try.ntmps34
    go_wp2_with (first
      | (go_at_call 62; go_must (refine (HV.out _).mono ?_; rintro e w1 ⟨rfl, hb1⟩; rw [HP.out]; obtain ⟨c0, c1, c2, c3, c4⟩ := cells5 (by simp) hb1; replace hB := bxd hb1; clear hb1))
      | (go_at_call 63; go_must (refine (HS.out _ (h.blw (hB.mono hBw)) hc hm).mono ?_; rintro e w2 ⟨rfl, rfl⟩; rw [HR.out])))
    go_ret2
    exact ⟨rfl, hB⟩
  · have HA := Lib.hid (show s.at_ bs x y c = (0, (s.place n x y c).2) by unfold Sh.at_; rw [hl, if_neg he])
    rw [HA.out]
    obtain ⟨p, E, hp⟩ : ∃ p E, s.place n x y c = (p, E) := ⟨_, _, rfl⟩
    have HP := Lib.hid hp
    rw [hp] at he ⊢
    have hE : (E != 0) = true := by rw [bne_iff_ne]; exact he
    clear HA he hp hl
    obtain ⟨W, H, C, D⟩ := s
    show Calls _ _ #[.agg #[.int .i64 W, .int .i64 H, .int .i64 C, .int .i64 D, .slice A n cc], .int .i64 x, .int .i64 y, .int .i64 c] w _
    go_enter Try.func34, Try.ntmps34
    go_wp2_with (go_at_call 62; go_must (refine (HV.out _).mono ?_; rintro e w1 ⟨rfl, hb1⟩; rw [HP.out]; replace hB := bxd hb1; clear hb1))
    go_ret2
    exact ⟨rfl, hB⟩

end Go.Proofs.Ytcgpeijmmongoaa
