/- join: what is wrong with trees. -/
import Derived.Test.YtmffmijjdpjaiaaTreeBytes
import Derived.Test.YtmffmijjdpjaiaaRas
namespace Go.Proofs.Ytmffmijjdpjaiaa
set_option linter.all false
open Go.RowKit

/-- A tree in memory: its shape, where its keys are, and these. -/
structure Tr where
  s : Sh
  A : Option Addr
  n : Nat
  c : Nat
  ts : List ByteArray
instance : Inhabited Tr := ⟨⟨⟨0, 0, 0, 0⟩, none, 0, 0, []⟩⟩
def Tr.ra (x : Tr) : Ra := ⟨x.s, x.A, x.n, x.c, []⟩
def Tr.may (x : Tr) : Bool := mayT x.s x.ts
/-- A tree's keys can be read. -/
def Tr.ok (w : World) (B : Nat) (x : Tr) : Prop := RdT w B x.A x.n x.ts ∧ x.n ≤ x.c ∧ x.c ≤ maxLen ∧ shortT x.ts
theorem Tr.ok.blw {w w' : World} {B : Nat} {x : Tr} (h : x.ok w B) (hb : Below B w w') : x.ok w' B := ⟨h.1.blw hb, h.2⟩
theorem Tr.ok.more {w : World} {B B' : Nat} {x : Tr} (h : x.ok w B) (hB : B ≤ B') : x.ok w B' := ⟨h.1.more hB, h.2⟩
def tcs (l : List Tr) : List Value := rcs (l.map Tr.ra)
def RdTr (w : World) (B : Nat) (A : Option Addr) (n : Nat) (l : List Tr) : Prop := Rd w B 5 A n (tcs l) ∧ ∀ x ∈ l, x.ok w B
theorem RdTr.len {w : World} {B n : Nat} {A : Option Addr} {l : List Tr} (h : RdTr w B A n l) : l.length = n := by have := h.1.1; unfold tcs at this; rw [rcs_len, List.length_map] at this; omega
theorem RdTr.blw {w w' : World} {B n : Nat} {A : Option Addr} {l : List Tr} (h : RdTr w B A n l) (hb : Below B w w') : RdTr w' B A n l :=
  ⟨Rd.below h.1 hb, fun x hx => (h.2 x hx).blw hb⟩
def wrongT (l : List Tr) : Int := if l.all Tr.may then (if l.all (fun x => decide (x.s = (l.headD default).s)) then 0 else 13) else 4
theorem Tr.get {w : World} {B n : Nat} {A : Option Addr} {l : List Tr} (h : RdTr w B A n l) {k : Nat} (hk : k < l.length) :
    ∃ b o, A = some ⟨b, o, none⟩ ∧ b < B ∧ w.cell? ⟨b, o + k * 5, none⟩ = some (.int .i64 l[k].s.w) ∧ w.cell? ⟨b, o + k * 5 + 1, none⟩ = some (.int .i64 l[k].s.h) ∧ w.cell? ⟨b, o + k * 5 + 2, none⟩ = some (.int .i64 l[k].s.c) ∧
      w.cell? ⟨b, o + k * 5 + 3, none⟩ = some (.int .i64 l[k].s.d) ∧ w.cell? ⟨b, o + k * 5 + 4, none⟩ = some (.slice l[k].A l[k].n l[k].c) := by
  obtain ⟨b, o, e, hb, -, hc⟩ := Rd.ras h.1 (i := k) (by simpa using hk)
  rw [List.getElem_map] at hc
  exact ⟨b, o, e, hb, hc 0 (by omega), hc 1 (by omega), hc 2 (by omega), hc 3 (by omega), hc 4 (by omega)⟩
theorem all_take_step {α : Type} {p : α → Bool} {l : List α} {k : Nat} (hk : k < l.length) (h : (l.take k).all p = true) (hx : p l[k] = true) : (l.take (k + 1)).all p = true := by
  rw [List.take_succ_eq_append_getElem hk, List.all_append, h]
  simp [hx]
theorem all_no {α : Type} {p : α → Bool} {l : List α} {k : Nat} (hk : k < l.length) (hx : p l[k] = false) : l.all p = false := by
  cases e : l.all p with
  | false => rfl
  | true =>
    rw [List.all_eq_true] at e
    have := e _ (List.getElem_mem hk)
    rw [hx] at this
    cases this

set_option maxHeartbeats 3200000 in
theorem wrongT_any (B n c : Nat) (A : Option Addr) (l : List Tr) (w : World) (hr : RdTr w B A n l) (hB1 : B ≤ w.heap.size) (h0 : 0 < n) (hn : n ≤ 10) (hc : n ≤ c) :
    Calls Try.prog 23 #[.slice A n c] w fun e w' => e = .returned (.int .i64 (wrongT l)) ∧ Below w.heap.size w w' := by
  have hB := Below.refl w.heap.size w
  have HR := Lib.hid hr
  have HLL := Lib.hid hr.len
  clear hr
  go_enter Try.func23, Try.ntmps23
  go_wp2_with fail
  go_loopw [9] (fun i wr => ∃ k : Nat, k ≤ n ∧ i = .int .i64 k ∧ Hid ((l.take k).all Tr.may = true) ∧ Below w.heap.size w wr) (fun i _ => n - (intOf i).toNat)
  case atStart => exact ⟨0, Nat.zero_le _, rfl, (show _ = _ from rfl), hB⟩
  case round =>
    clear hB
    obtain ⟨k, hk, rfl, HA, hB⟩ := hrel
    by_cases hlt : k < n
    · have hkl : k < l.length := by rw [HLL.out]; exact hlt
      obtain ⟨b, o, rfl, hbB, e0, e1, e2, e3, e4⟩ := Tr.get (HR.out.blw (hB.mono hB1)) hkl
      have HX := Lib.hid (HR.out.2 l[k] (List.getElem_mem hkl))
      obtain ⟨x, hx⟩ : ∃ x, x = l[k] := ⟨_, rfl⟩
      have HXX := Lib.hid hx
      rw [← hx] at e0 e1 e2 e3 e4 HX
      clear hx
      cases hmx : x.may with
      | false =>
        have HW : Hid (wrongT l = 4) := (show _ = _ by unfold wrongT; rw [all_no hkl (by rw [← HXX.out]; exact hmx)]; rfl)
        have HBY := Lib.hid (fun (w' : World) (hb : Below w.heap.size w w') => treeBytes_no x.s B x.n x.c x.A x.ts w' (HX.out.1.blw (hb.mono hB1)) (Nat.le_trans hB1 hb.size) HX.out.2.1 HX.out.2.2.1 HX.out.2.2.2 hmx)
        clear hmx HXX hkl
        obtain ⟨⟨xw, xh, xc, xd⟩, xA, xn, xcc, xts⟩ := x
        dsimp only [Sh.r] at HBY e0 e1 e2 e3 e4
        go_wp2_with (go_at_call 30; (with_reducible refine (HBY.out _ (hB.alloc hB.size _)).mono ?_); go_must (rintro e w3 ⟨rfl, hb3⟩; replace hB := bstep hB (bxd hb3) (Nat.le_refl _); clear hb3))
        go_ret
        exact ⟨ret_int HW.out.symm, hB⟩
      | true =>
        have HA1 : Hid ((l.take (k + 1)).all Tr.may = true) := (show _ = _ from all_take_step hkl HA.out (by rw [← HXX.out]; exact hmx))
        have HBY := Lib.hid (fun (w' : World) (hb : Below w.heap.size w w') => treeBytes_ok x.s B x.n x.c x.A x.ts w' (HX.out.1.blw (hb.mono hB1)) (Nat.le_trans hB1 hb.size) HX.out.2.1 HX.out.2.2.1 HX.out.2.2.2 hmx)
        clear hmx HXX hkl
        obtain ⟨⟨xw, xh, xc, xd⟩, xA, xn, xcc, xts⟩ := x
        dsimp only [Sh.r] at HBY e0 e1 e2 e3 e4
        go_wp2_with (go_at_call 30; (with_reducible refine (HBY.out _ (hB.alloc hB.size _)).mono ?_); go_must (rintro e w3 ⟨A3, n3, c3, rfl, p3, hb3⟩; have p4 : ((n3 : Int) == 0) = false := (by rw [beq_eq_false_iff_ne]; omega); replace hB := bstep hB (bxd hb3) (Nat.le_refl _); clear hb3))
        go_roundw
        case rel => exact ⟨k + 1, by omega, by go_num, HA1, hB⟩
        case measure => simp [intOf]; omega
    · obtain rfl : k = n := by omega
      have HA2 : Hid (l.all Tr.may = true) := (show _ = _ by have := HA.out; rwa [← HLL.out, List.take_length] at this)
      clear HA hlt hk
      go_wp2_with fail
      go_loopw [20] (fun i wr => ∃ q : Nat, q ≤ k ∧ i = .int .i64 q ∧ Hid ((l.take q).all (fun x => decide (x.s = (l.headD default).s)) = true) ∧ Below w.heap.size w wr) (fun i _ => k - (intOf i).toNat)
      case atStart => exact ⟨0, Nat.zero_le _, rfl, (show _ = _ from rfl), hB⟩
      case round =>
        clear hB
        obtain ⟨q, hq, rfl, HE, hB⟩ := hrel
        by_cases hlt : q < k
        · have hkl : q < l.length := by rw [HLL.out]; exact hlt
          have hk0 : 0 < l.length := by omega
          obtain ⟨b, o, rfl, hbB, e0, e1, e2, e3, e4⟩ := Tr.get (HR.out.blw (hB.mono hB1)) hkl
          obtain ⟨b', o', e', -, f0, f1, f2, f3, f4⟩ := Tr.get (HR.out.blw (hB.mono hB1)) hk0
          injection e' with e'
          injection e' with e1' e2' _
          subst e1' e2'
          rw [Nat.zero_mul, Nat.add_zero] at f0 f1 f2 f3 f4
          have hbw : b < wr.heap.size := (by have := hB.size; omega)
          have hbn : ¬ b = wr.heap.size := (by omega)
          have hbn' : ¬ wr.heap.size = b := (by omega)
          have HH : Hid (l.headD default = l[0]) := (show _ = _ by cases l with | nil => simp at hk0 | cons a m => rfl)
          obtain ⟨x, hx⟩ : ∃ x, x = l[q] := ⟨_, rfl⟩
          have HXX := Lib.hid hx
          rw [← hx] at e0 e1 e2 e3 e4
          clear hx
          obtain ⟨y, hy⟩ : ∃ y, y = l[0] := ⟨_, rfl⟩
          have HYY := Lib.hid hy
          rw [← hy] at f0 f1 f2 f3 f4
          clear hy
          by_cases heq : x.s = y.s
          · have HE1 : Hid ((l.take (q + 1)).all (fun x => decide (x.s = (l.headD default).s)) = true) := (show _ = _ from all_take_step hkl HE.out (by rw [HH.out, ← HXX.out, ← HYY.out]; simpa using heq))
            clear HXX HYY HH hkl hk0
            obtain ⟨⟨xw, xh, xc, xd⟩, xA, xn, xcc, xts⟩ := x
            obtain ⟨⟨yw, yh, yc, yd⟩, yA, yn, ycc, yts⟩ := y
            dsimp only at heq e0 e1 e2 e3 e4 f0 f1 f2 f3 f4
            injection heq with q1 q2 q3 q4
            subst q1 q2 q3 q4
            go_wp2_with fail
            go_quiet (fail)
            go_wp2_with fail
            go_roundw
            case rel => exact ⟨q + 1, by omega, by go_num, HE1, bdrewN (hB.alloc hB.size _) _⟩
            case measure => simp [intOf]; omega
          · have HW : Hid (wrongT l = 13) := (show _ = _ by unfold wrongT; rw [HA2.out, if_pos rfl, all_no hkl (by rw [HH.out, ← HXX.out, ← HYY.out]; simpa using heq)]; rfl)
            clear HXX HYY HH hkl hk0
            obtain ⟨⟨xw, xh, xc, xd⟩, xA, xn, xcc, xts⟩ := x
            obtain ⟨⟨yw, yh, yc, yd⟩, yA, yn, ycc, yts⟩ := y
            dsimp only at heq e0 e1 e2 e3 e4 f0 f1 f2 f3 f4
            have hne4 : ¬ xw = yw ∨ (xw = yw ∧ ¬ xh = yh) ∨ (xw = yw ∧ xh = yh ∧ ¬ xc = yc) ∨ (xw = yw ∧ xh = yh ∧ xc = yc ∧ ¬ xd = yd) := by
              by_cases q1 : xw = yw
              · by_cases q2 : xh = yh
                · by_cases q3 : xc = yc
                  · by_cases q4 : xd = yd
                    · exact absurd (by rw [q1, q2, q3, q4]) heq
                    · exact .inr (.inr (.inr ⟨q1, q2, q3, q4⟩))
                  · exact .inr (.inr (.inl ⟨q1, q2, q3⟩))
                · exact .inr (.inl ⟨q1, q2⟩)
              · exact .inl q1
            clear heq
            rcases hne4 with h | ⟨rfl, h⟩ | ⟨rfl, rfl, h⟩ | ⟨rfl, rfl, rfl, h⟩
            all_goals
              have hd := beq_eq_false_iff_ne.2 h
              go_wp2_with fail
              go_quiet (fail)
              go_wp2_with fail
              go_ret
              exact ⟨ret_int HW.out.symm, bdrewN (hB.alloc hB.size _) _⟩
        · obtain rfl : q = k := by omega
          have HW : Hid (wrongT l = 0) := (show _ = _ by unfold wrongT; rw [HA2.out, if_pos rfl]; have := HE.out; rw [← HLL.out, List.take_length] at this; rw [this]; rfl)
          go_wp2_with fail
          go_ret
          exact ⟨ret_int HW.out.symm, hB⟩

end Go.Proofs.Ytmffmijjdpjaiaa
