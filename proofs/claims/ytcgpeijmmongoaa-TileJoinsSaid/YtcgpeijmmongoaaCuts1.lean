/- tile: lists of pictures held against one another; rows that are written. -/
import Derived.Test.YtcgpeijmmongoaaCut9
import Derived.Test.YtcgpeijmmongoaaTileOnes
namespace Go.Proofs.Ytcgpeijmmongoaa
set_option linter.all false
open Go.RowKit

/-- Two lists that are alike. -/
theorem rasters_eq (B n c B' c' : Nat) (A A' : Option Addr) (la lb : List Ra) (w : World) (h : RdR w B A n la) (h' : RdR w B' A' n lb) (hB : B ≤ w.heap.size) (hB' : B' ≤ w.heap.size) (hn : n ≤ 1099511627776)
    (he : ∀ j (hj : j < la.length) (hj' : j < lb.length), la[j].s = lb[j].s ∧ la[j].bs = lb[j].bs) :
    Calls Try.prog 29 #[.slice A n c, .slice A' n c'] w fun e w' => e = .returned (.bool true) ∧ Below w.heap.size w w' := by
  have hBe := Below.refl w.heap.size w
  have HA := Lib.hid (h.more hB)
  have HA' := Lib.hid (h'.more hB')
  have HL := Lib.hid h.len
  have HL' := Lib.hid h'.len
  have HE := Lib.hid he
  clear h h' he hB hB'
  go_enter Try.func29, Try.ntmps29
  go_wp2_with fail
  go_loopw [5] (fun i wr => ∃ k : Nat, k ≤ n ∧ i = .int .i64 k ∧ Below w.heap.size w wr)
    (fun i _ => n - (intOf i).toNat)
  case atStart => exact ⟨0, Nat.zero_le _, rfl, hBe⟩
  case round =>
    clear hBe
    obtain ⟨k, hk, rfl, hBe⟩ := hrel
    by_cases hlt : k < n
    · have hka : k < la.length := by rw [HL.out]; exact hlt
      have hkb : k < lb.length := by rw [HL'.out]; exact hlt
      obtain ⟨b1, o1, rfl, -, HE1⟩ := (HA.out.blw hBe).cell5 hka
      obtain ⟨b2, o2, rfl, -, HE2⟩ := (HA'.out.blw hBe).cell5 hkb
      obtain ⟨q1, q2⟩ := HE.out k hka hkb
      have ra := ((HA.out.blw hBe).2 la[k] (List.getElem_mem hka)).1.more hBe.size
      have rb := ((HA'.out.blw hBe).2 lb[k] (List.getElem_mem hkb)).1.more hBe.size
      unfold Cell5 at HE1 HE2
      rw [q1] at HE1
      rw [q2] at ra
      have HRk := Lib.hid (fun (w' : World) (r1 : RdB w' w'.heap.size la[k].A la[k].n lb[k].bs) (r2 : RdB w' w'.heap.size lb[k].A lb[k].n lb[k].bs) => sameR_any lb[k].s lb[k].s w'.heap.size la[k].n la[k].c w'.heap.size lb[k].n lb[k].c la[k].A lb[k].A lb[k].bs lb[k].bs w' r1 r2 (Nat.le_refl _) (Nat.le_refl _))
      have e0 : (decide (lb[k].s = lb[k].s) && (lb[k].bs == lb[k].bs)) = true := by simp
      rw [e0] at HRk
      clear e0 q1 q2
      generalize lb[k].s = p at HE1 HE2 HRk
      generalize lb[k].bs = xs at ra rb HRk
      generalize la[k].A = xA at HE1 ra HRk
      generalize la[k].n = xn at HE1 ra HRk
      generalize la[k].c = xc at HE1 HRk
      generalize lb[k].A = yA at HE2 rb HRk
      generalize lb[k].n = yn at HE2 rb HRk
      generalize lb[k].c = yc at HE2 HRk
      obtain ⟨e0, e1, e2, e3, e4⟩ := HE1
      obtain ⟨f0, f1, f2, f3, f4⟩ := HE2
      dsimp only [Sh.r] at HRk
      have raD : RdB wr.drew wr.drew.heap.size xA xn xs := ra
      have rbD : RdB wr.drew wr.drew.heap.size yA yn xs := rb
      clear hka hkb
      go_upto_region 6 with (fail)
      go_cut [26] (fun v wc => v = .bool false ∧ Below wr.heap.size wr wc)
      case first =>
        go_region_with (first
          | (go_at_call 30; (first | with_reducible refine (HRk.out _ raD rbD).mono ?_ | with_reducible refine (HRk.out _ ra rb).mono ?_); go_must (rintro e w5 ⟨rfl, hb5⟩)))
        all_goals
          go_wp2_with fail
          go_meet
          case rel => exact ⟨rfl, (by first | with_reducible exact hb5 | with_reducible exact bstep (Below.drew (Below.refl _ _)) hb5 (Nat.le_refl _))⟩
      case rest =>
        obtain ⟨rfl, hbr⟩ := hcut
        replace hBe := bstep hBe hbr (Nat.le_refl _)
        clear e0 e1 e2 e3 e4 f0 f1 f2 f3 f4 ra rb raD rbD hbr
        go_wp2_with fail
        go_roundw
        case rel => exact ⟨k + 1, by omega, by go_num, hBe⟩
        case measure => simp [intOf]; omega
    · obtain rfl : k = n := by omega
      go_wp2
      go_ret
      exact ⟨rfl, hBe⟩

theorem tile9_any (s : Sh) (i : Int) (w : World) :
    Calls Try.prog 28 #[s.v, .int .i64 i] w fun e w' => e = .returned (.tuple #[(s.tile i).1.v, .int .i64 (s.tile i).2]) ∧ Below w.heap.size w w' := by
  cases hm : s.may with
  | false =>
    have e : s.tile i = (⟨0, 0, 0, 0⟩, 4) := by unfold Sh.tile; rw [hm]; rfl
    rw [e]
    exact tile9_no s i w hm
  | true =>
    by_cases hi : 0 ≤ i ∧ i < s.gw * s.gh
    · have e : s.tile i = (s.part i, 0) := by unfold Sh.tile; rw [hm, if_pos rfl, if_pos hi]
      rw [e]
      exact tile9_ok s i w hm hi.1 hi.2
    · have e : s.tile i = (⟨0, 0, 0, 0⟩, 1) := by unfold Sh.tile; rw [hm, if_pos rfl, if_neg hi]
      rw [e]
      exact tile9_range s i w hm (by omega)

/-- Rows of bytes that may be written, between two numbers of blocks. -/
def URows (w : World) (lo hi : Nat) (l : List Ra) : Prop := ∀ j (hj : j < l.length), ∃ ys : List UInt8, l[j].n = ys.length ∧ ownB w lo (.slice l[j].A l[j].n l[j].c) ys ∧ ∀ g, (Value.slice l[j].A l[j].n l[j].c).ownBlock = some g → g < hi
theorem URows.of {w : World} {lo : Nat} {s : Sh} {bs : List UInt8} {l : List Ra} (h : Tiles w lo s bs l) : URows w lo w.heap.size l := fun j hj =>
  ⟨l[j].bs, (h j hj).2.2.1, (h j hj).2.2.2, fun g hg => (World.ownsRow.lt (h j hj).2.2.2 g hg).2⟩
theorem URows.later {w w' : World} {lo hi : Nat} {l : List Ra} (h : URows w lo hi l) (hb : Below w.heap.size w w') : URows w' lo hi l := fun j hj => by
  obtain ⟨ys, h1, h2, h3⟩ := h j hj
  exact ⟨ys, h1, h2.later hb, h3⟩
theorem URows.store {w : World} {lo hi g k : Nat} {l : List Ra} (h : URows w lo hi l) (u : UInt8) : URows (w.setCell ⟨g, k, none⟩ (.int .u8 (u.toNat : Int))) lo hi l := fun j hj => by
  obtain ⟨ys, h1, h2, h3⟩ := h j hj
  by_cases e : (Value.slice l[j].A l[j].n l[j].c).ownBlock = some g
  · refine ⟨ys.set k u, by rw [List.length_set]; exact h1, ?_, h3⟩
    rcases h2.2 with ⟨hv, _⟩ | ⟨g1, c1, cur, hv, _⟩
    · rw [hv] at e; cases e
    · injection hv with q1 q2 q3
      rw [q1] at e h2 ⊢
      have : g1 = g := by injection e
      subst this
      exact h2.store h1 k u
  · exact ⟨ys, h1, h2.far e _ _, h3⟩
theorem URows.pos {w : World} {lo hi : Nat} {l : List Ra} (h : URows w lo hi l) {j : Nat} (hj : j < l.length) {i : Nat} (hi' : i < l[j].n) :
    ∃ g x, l[j].A = some ⟨g, 0, none⟩ ∧ lo ≤ g ∧ g < hi ∧ w.cell? ⟨g, i, none⟩ = some (.int .u8 ((x : UInt8).toNat : Int)) ∧ w.frozen? ⟨g, i, none⟩ = false ∧ l[j].n ≤ l[j].c ∧ ∃ ys, ownB w lo (.slice (some ⟨g, 0, none⟩) l[j].n l[j].c) ys := by
  obtain ⟨ys, h1, h2, h3⟩ := h j hj
  rcases h2.2 with ⟨hv, h0⟩ | ⟨g1, c1, cur, hv, hlo, -, hc1, -⟩
  · injection hv with q1 q2 q3
    omega
  · injection hv with q1 q2 q3
    have h4 := h3 g1 (by rw [q1]; rfl)
    rw [q1] at h2
    refine ⟨g1, ys[i]'(by omega), q1, hlo, h4, h2.cell h1 (by omega), h2.frozen h1 i, by omega, ys, h2⟩
end Go.Proofs.Ytcgpeijmmongoaa
