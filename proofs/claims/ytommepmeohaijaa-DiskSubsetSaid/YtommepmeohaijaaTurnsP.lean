/- DiskTurns, plainly. -/
import Derived.Test.YtommepmeohaijaaDisk12
import Derived.Test.YtommepmeohaijaaOps
namespace Go.Proofs.Ytommepmeohaijaa
set_option linter.all false
open Go.RowKit Go.Maps

/-- Writes, one behind the other. -/
def wS (s : Dk) (l : List (Int × UInt8)) : Dk := l.foldl (fun s x => writeS s x.1 (fillB x.2)) s
theorem wS_snoc (s : Dk) {l : List (Int × UInt8)} {i : Nat} {x : Int × UInt8} (h : l[i]? = some x) : wS s (l.take (i + 1)) = writeS (wS s (l.take i)) x.1 (fillB x.2) := by
  have : l.take (i + 1) = l.take i ++ [x] := by rw [List.take_add_one, h]; rfl
  rw [this]
  unfold wS
  rw [List.foldl_append]
  rfl
/-- What writes leave. -/
structure Lk (s : Dk) (N k : Nat) : Prop where
  n : s.n = N
  falls : s.falls = 0
  down : s.down = false
  writes : s.writes ≤ k
  pend : s.pend.length ≤ k
theorem Lk.write {s : Dk} {N k : Nat} (h : Lk s N k) (q : Int) (bs : Bs) : Lk (writeS s q bs) N (k + 1) := by
  unfold writeS
  split
  · exact ⟨h.n, h.falls, h.down, Nat.succ_le_succ h.writes, by have := h.pend; simp; omega⟩
  · exact ⟨h.n, h.falls, h.down, Nat.le_succ_of_le h.writes, Nat.le_succ_of_le h.pend⟩
theorem Lk.writes_ {s : Dk} {N k : Nat} (h : Lk s N k) : ∀ (l : List (Int × UInt8)), Lk (wS s l) N (k + l.length) := by
  intro l
  induction l generalizing s k with
  | nil => exact h
  | cons x r ih =>
    have := ih (h.write x.1 (fillB x.2))
    rw [List.length_cons, show k + (r.length + 1) = k + 1 + r.length by omega]
    exact this
theorem Lk.new (N : Nat) : Lk (newD N) N 0 := ⟨rfl, rfl, rfl, Nat.le_refl _, Nat.le_refl _⟩
theorem Lk.flush {s : Dk} {N k : Nat} (h : Lk s N k) : Lk (flushS s) N k ∧ (flushS s).pend = [] := by
  have e : flushS s = { s with dur := layF s.dur s.pend, pend := [] } := by unfold flushS; rw [if_neg (by rw [h.down]; decide)]
  rw [e]
  exact ⟨⟨h.n, h.falls, h.down, h.writes, Nat.zero_le _⟩, rfl⟩
theorem xor_xor (a b : UInt8) : a ^^^ b ^^^ b = a := by rw [UInt8.xor_assoc, UInt8.xor_self, UInt8.xor_zero]
theorem turnB_back (bs : Bs) (j : Nat) (h : j / 8 < bs.length) : turnB (turnB bs j) j = bs := by
  unfold turnB
  rw [List.set_set]
  have e : (bs.set (j / 8) (bs.getD (j / 8) 0 ^^^ bitM (j % 8))).getD (j / 8) 0 = bs.getD (j / 8) 0 ^^^ bitM (j % 8) := by
    rw [List.getD_eq_getElem?_getD, List.getElem?_set_self h]
    rfl
  rw [e, xor_xor, List.getD_eq_getElem?_getD, List.getElem?_eq_getElem h]
  simp
theorem turnB_at {bs : Bs} {j i : Nat} {r : UInt8} (h : bs[i]? = some r) : (turnB bs j)[i]? = some (if i = j / 8 then r ^^^ bitM (j % 8) else r) := by
  unfold turnB
  by_cases hi : i = j / 8
  · subst hi
    rw [if_pos rfl, List.getElem?_set_self (List.getElem?_eq_some_iff.1 h).1, List.getD_eq_getElem?_getD, h]
    rfl
  · rw [if_neg hi, List.getElem?_set_ne (fun e => hi e.symm), h]
theorem readV_of {s : Dk} {k : Int} (h : wrongD s k = 0) : readV s k = getS s.now k.toNat := by unfold readV; rw [if_pos h]
theorem readV_no {s : Dk} {k : Int} (h : ¬ wrongD s k = 0) : readV s k = [] := by unfold readV; rw [if_neg h]
theorem wrongD_up {s : Dk} (h : s.down = false) (k : Int) : wrongD s k = if k < 0 ∨ (s.n : Int) ≤ k then 1 else 0 := by unfold wrongD; rw [h]; rfl
theorem bitM_pow {t : Nat} (ht2 : t < 8) : (2 : Int) ^ t % 256 = ((bitM t).toNat : Int) := by
  rw [bitM_nat ht2]
  match t, ht2 with
  | 0, _ => rfl
  | 1, _ => rfl
  | 2, _ => rfl
  | 3, _ => rfl
  | 4, _ => rfl
  | 5, _ => rfl
  | 6, _ => rfl
  | 7, _ => rfl
theorem getS_len {w : World} {T : Nat → Prop} {b : Nat} {f : Nat → Option Bs} (h : secs w T b f) (k : Nat) : (getS f k).length = 256 := by
  obtain ⟨r, _, _, h3⟩ := h
  unfold getS
  cases e : f k with
  | none => exact List.length_replicate
  | some bs =>
    obtain ⟨v, _, hs⟩ := h3 k bs e
    exact hs.1
theorem RowAt.own2 {w : World} {base n c : Nat} {A : Option Addr} {bs : Bs} {T : Nat → Prop} (h : ownB w base (.slice A n c) bs) (hT : ∀ z, base ≤ z → ¬ T z) : RowAt w T A n bs := by
  obtain ⟨A', c', e, hr, -, -⟩ := h.form
  injection e with e1 e2 e3
  subst e1 e2
  refine ⟨rfl, fun hn => ?_, hr⟩
  obtain ⟨-, g, rfl, hg, hlt⟩ := h.pos hn
  exact ⟨g, 0, rfl, hT g hg, hlt⟩
theorem bdrewD {B : Nat} {a w : World} (h : Below B a w) (n : Nat) : Below B a (w.drewN n) := ⟨h.os, h.tape, h.output, h.size, h.block⟩
theorem turnS_read {s : Dk} {q j : Nat} (h : wrongD s (q : Int) = 0) : wrongD (turnS s (q : Int) (j : Int)) (q : Int) = 0 ∧ readV (turnS s (q : Int) (j : Int)) (q : Int) = turnB (getS s.now q) j := by
  have h2 : wrongD (turnS s (q : Int) (j : Int)) (q : Int) = 0 := h
  refine ⟨h2, ?_⟩
  rw [readV_of h2]
  show getS (updR s.now q (turnB (getS s.now q) j)) q = _
  unfold getS
  rw [updR_same]
  rfl
theorem turnS_good {s : Dk} {q j : Nat} (h : goodT s (q : Int) (j : Int)) : goodT (turnS s (q : Int) (j : Int)) (q : Int) (j : Int) := h
theorem turnS_now {s : Dk} {q j : Nat} : getS (turnS s (q : Int) (j : Int)).now q = turnB (getS s.now q) j := by
  show getS (updR s.now q (turnB (getS s.now q) j)) q = _
  unfold getS
  rw [updR_same]
  rfl
theorem readD_ok (lo d : Nat) (h : Hn) (s : Dk) (q : Nat) (w : World) (H : DkOk w lo d h s) (h0 : wrongD s (q : Int) = 0) :
    Calls Try.prog 15 #[.pointer (some ⟨d, 0, none⟩), .int .i64 (q : Int)] w fun e w' => ∃ A c, e = .returned (.tuple #[.slice A 256 c, .int .i64 0]) ∧ ownB w' w.heap.size (.slice A 256 c) (getS s.now q) ∧ Below w.heap.size w w' := by
  refine (readD_any lo d h s q w H).mono ?_
  rintro e w' ⟨A, n, c, rfl, hn, h1, h2, ho, hb⟩
  rw [readV_of h0] at hn ho
  obtain rfl : n = 256 := hn.trans (getS_len H.now _)
  exact ⟨A, c, by rw [h0], ho, hb⟩
end Go.Proofs.Ytommepmeohaijaa
