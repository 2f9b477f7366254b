/- filt: rows filtered and back. -/
import Derived.Test.YtcancpnepfnhmaaMaFilt1
namespace Go.Proofs.Ytcancpnepfnhmaa
set_option linter.all false
open Go.RowKit

def doB (kind bpp : Int) (prev row : List UInt8) : List UInt8 := (List.range row.length).map fun i => row.getD i 0 - gB kind bpp i prev row
theorem doB_len (kind bpp : Int) (prev row : List UInt8) : (doB kind bpp prev row).length = row.length := by simp [doB]
theorem doB_at (kind bpp : Int) (prev row : List UInt8) {k : Nat} {x : UInt8} (h : row[k]? = some x) : (doB kind bpp prev row)[k]? = some (x - gB kind bpp k prev row) := by
  obtain ⟨hk, rfl⟩ := List.getElem?_eq_some_iff.1 h
  simp [doB, hk, List.getD]

set_option maxHeartbeats 1600000 in
theorem do_ok (kind bpp : Int) (B n c B' n' c' : Nat) (A A' : Option Addr) (prev row : List UInt8) (w : World) (hp : RdB w B A n prev) (hr : RdB w B' A' n' row)
    (hB1 : B ≤ w.heap.size) (hB2 : B' ≤ w.heap.size) (hm : n' ≤ 1000000) (h0 : wrongV kind bpp n n' = 0) (h1 : 1 ≤ bpp ∧ bpp ≤ 8) :
    Calls Try.prog 125 #[.int .i64 kind, .int .i64 bpp, .slice A n c, .slice A' n' c'] w fun e w' =>
      ∃ v, e = .returned (.tuple #[v, .int .i64 0]) ∧ ownB w' w.heap.size v (doB kind bpp prev row) ∧ Below w.heap.size w w' := by
  obtain rfl := hr.len
  have H0 := Lib.hid h0
  clear h0
  have HL := Lib.hid (doB_len kind bpp prev row)
  go_enter Try.func125, Try.ntmps125
  go_wp2_with (first
    | (go_at_call 130; refine (fwrong_any _ _ _ _ _ _ _ _ _).mono ?_; rintro e w' ⟨rfl, rfl⟩; rw [H0.out])
    | (at_make; refine wpList_makeB rfl _ _ rfl row.length _ rfl rfl rfl (by omega) ?_))
  intro w1 hown hb hsz
  go_wp2
  go_loopw [27] (fun i wr => ∃ k : Nat, k ≤ row.length ∧ i = .int .i64 k ∧ ownB wr w.heap.size (.slice (some ⟨w.heap.size, 0, none⟩) row.length row.length) (fillTo (doB kind bpp prev row) k) ∧ Below w.heap.size w wr)
    (fun i _ => row.length - (intOf i).toNat)
  case atStart => exact ⟨0, Nat.zero_le _, rfl, by rw [fillTo_zero, HL.out]; exact hown, hb⟩
  case round =>
    obtain ⟨k, hk, rfl, hown1, hbb⟩ := hrel
    have HF : Hid (row.length = (fillTo (doB kind bpp prev row) k).length) := by show _ = _; rw [fillTo_len _ _ (by rw [HL.out]; exact hk), HL.out]
    by_cases hlt : k < row.length
    · have hp1 := hp.blw (hbb.mono hB1)
      have hr1 := hr.blw (hbb.mono hB2)
      obtain ⟨b, o, x, rfl, hbo, hx, cx⟩ := hr1.byte hlt
      obtain ⟨d0, _, cd⟩ := hown1.byte HF.out hlt
      have fd := hown1.frozen HF.out k
      have Hs : Hid (ownB (wr.setCell ⟨w.heap.size, k, none⟩ (.int .u8 ((x - gB kind bpp k prev row).toNat : Int))) w.heap.size (.slice (some ⟨w.heap.size, 0, none⟩) row.length row.length) (fillTo (doB kind bpp prev row) (k + 1))) := by
        rw [fillTo_put _ k _ (doB_at kind bpp prev row hx.out)]
        exact hown1.store HF.out k _
      have hsub := sub_u8 x (gB kind bpp k prev row)
      clear hx
      go_wp2_with (go_at_call 131; refine (guess_any _ _ _ _ _ _ _ _ _ _ _ prev row _ hp1 hr1 h1 (by omega)).mono ?_; rintro e w' ⟨rfl, rfl⟩)
      go_roundw
      case rel => exact ⟨k + 1, by omega, by go_num, Hs.out, hbb.setCell (Nat.le_refl _) _⟩
      case measure => simp [intOf]; omega
    · have : k = row.length := by omega
      subst this
      rw [show fillTo (doB kind bpp prev row) row.length = doB kind bpp prev row by have := fillTo_end (doB kind bpp prev row); rwa [HL.out] at this] at hown1
      go_wp2
      go_ret2
      exact ⟨_, rfl, hown1, hbb⟩

theorem do_bad (kind bpp : Int) (n c n' c' : Nat) (A A' : Option Addr) (w : World) (E : Int) (h0 : wrongV kind bpp n n' = E) (hE : (E != 0) = true) :
    Calls Try.prog 125 #[.int .i64 kind, .int .i64 bpp, .slice A n c, .slice A' n' c'] w fun e w' => e = .returned (.tuple #[.slice none 0 0, .int .i64 E]) ∧ w = w' := by
  have H0 := Lib.hid h0
  clear h0
  go_enter Try.func125, Try.ntmps125
  go_wp2_with (go_at_call 130; refine (fwrong_any _ _ _ _ _ _ _ _ _).mono ?_; rintro e w' ⟨rfl, rfl⟩; rw [H0.out])
  go_ret2
  exact ⟨rfl, rfl⟩

/-- The first k bytes of the row that was filtered. -/
def undoTo (kind bpp : Int) (prev row : List UInt8) : Nat → List UInt8
  | 0 => []
  | k + 1 => undoTo kind bpp prev row k ++ [row.getD k 0 + gB kind bpp k prev (undoTo kind bpp prev row k)]
theorem undoTo_len (kind bpp : Int) (prev row : List UInt8) (k : Nat) : (undoTo kind bpp prev row k).length = k := by
  induction k with
  | zero => rfl
  | succ k ih => simp [undoTo, ih]
def undoB (kind bpp : Int) (prev row : List UInt8) : List UInt8 := undoTo kind bpp prev row row.length

theorem gB_front (kind bpp : Int) (prev l m : List UInt8) (k : Nat) (hk : k = l.length) (hb : 1 ≤ bpp) : gB kind bpp k prev (l ++ m) = gB kind bpp k prev l := by
  have e : gAt (l ++ m) ((k : Int) - bpp) = gAt l ((k : Int) - bpp) := by
    unfold gAt
    by_cases h : 0 ≤ (k : Int) - bpp
    · rw [if_pos h, if_pos h]
      simp only [List.getD]
      rw [List.getElem?_append_left (by omega)]
    · rw [if_neg h, if_neg h]
  unfold gB
  rw [e]

/-- What lies in out after k rounds. -/
def undoF (kind bpp : Int) (prev row : List UInt8) (k : Nat) : List UInt8 := undoTo kind bpp prev row k ++ List.replicate (row.length - k) 0
theorem undoF_len (kind bpp : Int) (prev row : List UInt8) (k : Nat) (h : k ≤ row.length) : (undoF kind bpp prev row k).length = row.length := by
  simp [undoF, undoTo_len]; omega
theorem undoF_step (kind bpp : Int) (prev row : List UInt8) {k : Nat} {x : UInt8} (h : row[k]? = some x) (hb : 1 ≤ bpp) :
    undoF kind bpp prev row (k + 1) = (undoF kind bpp prev row k).set k (x + gB kind bpp k prev (undoF kind bpp prev row k)) := by
  obtain ⟨hk, hx⟩ := List.getElem?_eq_some_iff.1 h
  have e : gB kind bpp k prev (undoF kind bpp prev row k) = gB kind bpp k prev (undoTo kind bpp prev row k) := gB_front kind bpp prev _ _ k (undoTo_len kind bpp prev row k).symm hb
  rw [e]
  unfold undoF
  have h1 : row.length - k = (row.length - (k + 1)) + 1 := by omega
  rw [h1, List.replicate_succ, List.set_append_right _ _ (by rw [undoTo_len]; omega), undoTo_len, Nat.sub_self, List.set_cons_zero]
  simp only [undoTo, List.append_assoc]
  rw [show row.getD k 0 = x by simp [List.getD, h]]
  rfl

def doR (kind bpp : Int) (prev row : List UInt8) : List UInt8 × Int := if wrongV kind bpp prev.length row.length = 0 then (doB kind bpp prev row, 0) else ([], wrongV kind bpp prev.length row.length)
def undoR (kind bpp : Int) (prev row : List UInt8) : List UInt8 × Int := if wrongV kind bpp prev.length row.length = 0 then (undoB kind bpp prev row, 0) else ([], wrongV kind bpp prev.length row.length)
theorem wrong_bpp {kind bpp : Int} {n n' : Nat} (h : wrongV kind bpp n n' = 0) : 1 ≤ bpp ∧ bpp ≤ 8 := by
  unfold wrongV at h
  split at h
  · omega
  · omega

theorem do_any (kind bpp : Int) (B n c B' n' c' : Nat) (A A' : Option Addr) (prev row : List UInt8) (w : World) (hp : RdB w B A n prev) (hr : RdB w B' A' n' row)
    (hB1 : B ≤ w.heap.size) (hB2 : B' ≤ w.heap.size) (hm : n' ≤ 1000000) :
    Calls Try.prog 125 #[.int .i64 kind, .int .i64 bpp, .slice A n c, .slice A' n' c'] w fun e w' =>
      ∃ v, e = .returned (.tuple #[v, .int .i64 (doR kind bpp prev row).2]) ∧ ownB w' w.heap.size v (doR kind bpp prev row).1 ∧ Below w.heap.size w w' := by
  unfold doR
  rw [hp.len, hr.len]
  by_cases h : wrongV kind bpp n n' = 0
  · rw [if_pos h]
    exact do_ok kind bpp B n c B' n' c' A A' prev row w hp hr hB1 hB2 hm h (wrong_bpp h)
  · rw [if_neg h]
    refine (do_bad kind bpp n c n' c' A A' w _ rfl (by rw [bne_iff_ne]; exact h)).mono ?_
    rintro e w' ⟨rfl, rfl⟩
    exact ⟨_, rfl, ownB.nil_ _ _, Below.refl _ _⟩

def wB (x : UInt8) : Nat := min x.toNat (256 - x.toNat)
def weight (l : List UInt8) : Nat := (l.map wB).sum
theorem wB_le (x : UInt8) : wB x ≤ 128 := by unfold wB; omega
theorem weight_le (l : List UInt8) : weight l ≤ 128 * l.length := by
  induction l with
  | nil => simp [weight]
  | cons x l ih => have := wB_le x; simp [weight] at *; omega
theorem weight_step (l : List UInt8) {k : Nat} {x : UInt8} (h : l[k]? = some x) : weight (l.take (k + 1)) = weight (l.take k) + wB x := by
  obtain ⟨hk, rfl⟩ := List.getElem?_eq_some_iff.1 h
  rw [List.take_succ_eq_append_getElem hk]
  simp only [weight, List.map_append, List.sum_append, List.map_cons, List.map_nil, List.sum_cons, List.sum_nil]
  omega

set_option maxHeartbeats 800000 in
theorem weight_any (B n c : Nat) (A : Option Addr) (bs : List UInt8) (w : World) (h : RdB w B A n bs) (hm : n ≤ 1000000) :
    Calls Try.prog 126 #[.slice A n c] w fun e w' => e = .returned (.int .i64 (weight bs)) ∧ w = w' := by
  obtain rfl := h.len
  go_enter Try.func126, Try.ntmps126
  go_wp2
  go_loop [3, 8] (fun s i => ∃ k : Nat, k ≤ bs.length ∧ i = .int .i64 k ∧ s = .int .i64 (weight (bs.take k))) (fun _ i => bs.length - (intOf i).toNat)
  case atStart => exact ⟨0, Nat.zero_le _, rfl, rfl⟩
  case round =>
    obtain ⟨k, hk, rfl, rfl⟩ := hrel
    by_cases hlt : k < bs.length
    · obtain ⟨b, o, x, rfl, _, hx, cx⟩ := h.byte hlt
      have x8 := x.toNat_lt
      have hw := weight_le (bs.take k)
      have hl : (bs.take k).length ≤ 1000000 := by simp; omega
      have HS := Lib.hid (weight_step bs hx.out)
      clear hx
      go_wp2
      all_goals
        go_round
        case rel => exact ⟨k + 1, by omega, by go_num, by rw [HS.out]; unfold wB; congr 1; omega⟩
        case measure => simp [intOf]; omega
    · have : k = bs.length := by omega
      subst this
      go_wp2
      go_ret
      exact ⟨fret_int (by simp), rfl⟩
end Go.Proofs.Ytcancpnepfnhmaa
