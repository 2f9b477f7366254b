/- pix: a channel's number, by the reference. -/
import Derived.Test.YtcgpeijmmongoaaDec3
import Derived.Test.YtcgpeijmmongoaaPix5
namespace Go.Proofs.Ytcgpeijmmongoaa
set_option linter.all false
open Go.RowKit

theorem take_one {bs : List UInt8} {p : Nat} {x : UInt8} (h : bs[p]? = some x) : (bs.drop p).take 1 = [x] := by
  obtain ⟨hp, rfl⟩ := List.getElem?_eq_some_iff.1 h
  rw [List.drop_eq_getElem_cons hp]
  rfl
theorem take_two {bs : List UInt8} {p : Nat} {x y : UInt8} (h : bs[p]? = some x) (h' : bs[p + 1]? = some y) : (bs.drop p).take 2 = [x, y] := by
  obtain ⟨hp, rfl⟩ := List.getElem?_eq_some_iff.1 h
  obtain ⟨hp', rfl⟩ := List.getElem?_eq_some_iff.1 h'
  rw [List.drop_eq_getElem_cons hp, List.drop_eq_getElem_cons hp']
  rfl

set_option maxRecDepth 100000 in
set_option maxHeartbeats 1600000 in
theorem at9_any (s : Sh) (B : Nat) (A : Option Addr) (n cc : Nat) (bs : List UInt8) (x y c : Int) (w : World) (h : RdB w B A n bs) (hBw : B ≤ w.heap.size) :
    Calls Try.prog 50 #[s.r A n cc, .int .i64 x, .int .i64 y, .int .i64 c] w fun e w' => e = .returned (.tuple #[.int .i64 (s.at_ bs x y c).1, .int .i64 (s.at_ bs x y c).2]) ∧ Below w.heap.size w w' := by
  have hB := Below.refl w.heap.size w
  have hl := h.len
  have HV := Lib.hid (fun w => place9_any s A n cc x y c w)
  by_cases he : (s.place n x y c).2 = 0
  · obtain ⟨-, -, p0, p1, p2, hd⟩ := Sh.place_ok he
    obtain ⟨p, hp⟩ := Int.eq_ofNat_of_zero_le p0
    have HP := show s.place n x y c = ((p : Int), 0) from Prod.ext hp he
    rw [hp] at p1
    have HA : s.at_ bs x y c = (((beV ((bs.drop p).take (s.d / 8).toNat) : Nat) : Int), 0) := by unfold Sh.at_; rw [hl, if_pos he, hp]; rfl
    rw [HP] at HV
    rcases hd with hd | hd
    · rw [hd] at p1
      have hpn : p < n := by omega
      obtain ⟨b, o, v, rfl, hb, hv, cv⟩ := h.byte hpn
      have HA2 := Lib.hid (show s.at_ bs x y c = ((v.toNat : Int), 0) by rw [HA, hd, show ((8 : Int) / 8).toNat = 1 from rfl, take_one hv.out]; simp [beV])
      rw [HA2.out]
      have hv8 := v.toNat_lt
      clear HA HP hp he p0 p1 hl hv HA2 h
      obtain ⟨W, H, C, D⟩ := s
      dsimp only at hd
      subst hd
      dsimp only [Sh.r] at HV ⊢
      go_enter Try.func50, Try.ntmps50
      go_wp2_with (go_at_call 70; (with_reducible refine (HV.out _).mono ?_); go_must (rintro e w1 ⟨rfl, hb1⟩; have cc1 := box5 hb1; replace hB := bxd hb1; replace cv := bsame (hB.mono hBw) hb cv; clear hb1))
      go_ret2
      exact ⟨rfl, hB⟩
    · rw [hd] at p1
      have hpn : p < n := by omega
      have hpn1 : p + 1 < n := by omega
      obtain ⟨b, o, v, rfl, hb, hv, cv⟩ := h.byte hpn
      obtain ⟨b', o', u, e', hb', hu, cu⟩ := h.byte hpn1
      injection e' with e'
      injection e' with e1 e2
      subst e1 e2
      have HA2 := Lib.hid (show s.at_ bs x y c = (((v.toNat * 256 + u.toNat : Nat) : Int), 0) by rw [HA, hd, show ((16 : Int) / 8).toNat = 2 from rfl, take_two hv.out hu.out]; simp [beV])
      rw [HA2.out]
      have hv8 := v.toNat_lt
      have hu8 := u.toNat_lt
      have j1 := or_join v u
      have q1 := wrapI (v.toNat : Int) (by omega) (by omega)
      have q2 := wrapI (u.toNat : Int) (by omega) (by omega)
      have q3 := wrapI ((v.toNat : Int) * 256) (by omega) (by omega)
      have q4 := wrapI ((p : Int) + 1) (by omega) (by omega)
      have q5 : (0 : Int) ≤ (p : Int) + 1 := by omega
      have q6 : ((p : Int) + 1).toNat = p + 1 := by omega
      have q7 : (p : Int) + 1 < n := by omega
      clear HA HP hp he p0 p1 hl hv hu HA2 h
      obtain ⟨W, H, C, D⟩ := s
      dsimp only at hd
      subst hd
      dsimp only [Sh.r] at HV ⊢
      go_enter Try.func50, Try.ntmps50
      go_wp2_with (go_at_call 70; (with_reducible refine (HV.out _).mono ?_); go_must (rintro e w1 ⟨rfl, hb1⟩; have cc1 := box5 hb1; replace hB := bxd hb1; replace cv := bsame (hB.mono hBw) hb cv; replace cu := bsame (hB.mono hBw) hb cu; clear hb1))
      go_quiet (fail)
      go_wp2
      go_ret2
      exact ⟨rfl, bdrewN hB _⟩
  · have HA := Lib.hid (show s.at_ bs x y c = (0, (s.place n x y c).2) by unfold Sh.at_; rw [hl, if_neg he])
    rw [HA.out]
    have hE : ((s.place n x y c).2 != 0) = true := by rw [bne_iff_ne]; exact he
    clear HA he hl h
    generalize (s.place n x y c).2 = E at HV hE ⊢
    generalize (s.place n x y c).1 = pp at HV
    obtain ⟨W, H, C, D⟩ := s
    dsimp only [Sh.r] at HV ⊢
    go_enter Try.func50, Try.ntmps50
    go_wp2_with (go_at_call 70; (with_reducible refine (HV.out _).mono ?_); go_must (rintro e w1 ⟨rfl, hb1⟩; replace hB := bxd hb1; clear hb1))
    go_ret2
    exact ⟨rfl, hB⟩

end Go.Proofs.Ytcgpeijmmongoaa
