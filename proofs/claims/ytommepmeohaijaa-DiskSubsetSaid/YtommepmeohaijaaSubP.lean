/- DiskSubset, plainly. -/
import Derived.Test.YtommepmeohaijaaDisk13
namespace Go.Proofs.Ytommepmeohaijaa
set_option linter.all false
open Go.RowKit Go.Maps

/-- What is now is what is durable and what is pending upon it. -/
def Jk (s : Dk) : Prop := s.now = layF s.dur s.pend
theorem Jk.new (N : Nat) : Jk (newD N) := rfl
theorem Jk.write {s : Dk} (h : Jk s) (k : Int) (bs : Bs) : Jk (writeS s k bs) := by
  unfold writeS
  split
  · show updR s.now k.toNat bs = layF s.dur (s.pend ++ [(k.toNat, bs)])
    unfold layF
    rw [List.foldl_append]
    have h2 : s.now = s.pend.foldl (fun f x => updR f x.1 x.2) s.dur := h
    rw [← h2]
    rfl
  · exact h
theorem Jk.writes {s : Dk} (h : Jk s) (l : List (Int × UInt8)) : Jk (wS s l) := by
  induction l generalizing s with
  | nil => exact h
  | cons x r ih => exact ih (h.write x.1 (fillB x.2))
theorem flush_eq {s : Dk} (hd : s.down = false) (h : Jk s) : (flushS s).now = s.now ∧ (flushS s).dur = s.now ∧ (flushS s).pend = [] ∧ Jk (flushS s) := by
  have e : flushS s = { s with dur := layF s.dur s.pend, pend := [] } := by unfold flushS; rw [if_neg (by rw [hd]; decide)]
  rw [e]
  have h2 : layF s.dur s.pend = s.now := h.symm
  refine ⟨rfl, h2, rfl, ?_⟩
  show s.now = layF (layF s.dur s.pend) []
  rw [h2]
  rfl
theorem write_dur (s : Dk) (k : Int) (bs : Bs) : (writeS s k bs).dur = s.dur ∧ (writeS s k bs).mask = s.mask := by
  unfold writeS
  split <;> exact ⟨rfl, rfl⟩
theorem wS_dur (s : Dk) (l : List (Int × UInt8)) : (wS s l).dur = s.dur ∧ (wS s l).mask = s.mask := by
  induction l generalizing s with
  | nil => exact ⟨rfl, rfl⟩
  | cons x r ih =>
    have h1 := ih (writeS s x.1 (fillB x.2))
    have h2 := write_dur s x.1 (fillB x.2)
    exact ⟨h1.1.trans h2.1, h1.2.trans h2.2⟩
theorem flush_mask (s : Dk) : (flushS s).mask = s.mask := by unfold flushS; split <;> rfl
/-- Whence what is pending comes. -/
theorem pend_from {s : Dk} (l : List (Int × UInt8)) {kk : Nat} {bs : Bs} (h : (kk, bs) ∈ (wS s l).pend) : (kk, bs) ∈ s.pend ∨ ∃ x ∈ l, x.1 = (kk : Int) ∧ bs = fillB x.2 := by
  induction l generalizing s with
  | nil => exact .inl h
  | cons x r ih =>
    rcases ih (s := writeS s x.1 (fillB x.2)) h with h1 | ⟨y, hy, h2⟩
    · unfold writeS at h1
      split at h1
      · rename_i h0
        rcases List.mem_append.1 h1 with h2 | h2
        · exact .inl h2
        · right
          have h3 : (kk, bs) = (x.1.toNat, fillB x.2) := by simpa using h2
          injection h3 with h4 h5
          have := (wrongD_zero h0).1
          exact ⟨x, by simp, by omega, h5⟩
      · exact .inl h1
    · exact .inr ⟨y, by simp [hy], h2⟩
theorem layM_none {m : Bs} {f : Nat → Option Bs} {p : List (Nat × Bs)} (hm : ∀ i, bitB m i = false) : ∀ n, layM m f p n = f
  | 0 => rfl
  | n + 1 => by
    show (match p[n]? with | some x => if bitB m n then updR (layM m f p n) x.1 x.2 else layM m f p n | none => layM m f p n) = f
    rw [layM_none hm n, hm n]
    split <;> rfl
theorem layM_full {m : Bs} {f : Nat → Option Bs} {p : List (Nat × Bs)} : ∀ n, n ≤ p.length → (∀ i, i < n → bitB m i = true) → layM m f p n = layF f (p.take n)
  | 0, _, _ => by rw [List.take_zero]; rfl
  | n + 1, hn, hm => by
    have e : p[n]? = some (p[n].1, p[n].2) := List.getElem?_eq_getElem (by omega)
    rw [layM_step e, hm n (by omega), if_pos rfl, layM_full n (by omega) (fun i hi => hm i (by omega)), layF_snoc f e]
theorem layM_some {m : Bs} {f : Nat → Option Bs} {p : List (Nat × Bs)} (k : Nat) : ∀ n, layM m f p n k = f k ∨ ∃ bs, (k, bs) ∈ p ∧ layM m f p n k = some bs
  | 0 => .inl rfl
  | n + 1 => by
    have ih := layM_some (m := m) (f := f) (p := p) k n
    cases e : p[n]? with
    | none =>
      have h1 : layM m f p (n + 1) = layM m f p n := by
        show (match p[n]? with | some x => if bitB m n then updR (layM m f p n) x.1 x.2 else layM m f p n | none => layM m f p n) = _
        rw [e]
      rw [h1]
      exact ih
    | some x =>
      rw [layM_step (kk := x.1) (bs := x.2) e]
      split
      · by_cases hk : k = x.1
        · right
          refine ⟨x.2, ?_, ?_⟩
          · rw [hk]; exact List.mem_of_getElem? e
          · rw [hk, updR_same]
        · rw [updR_other _ _ hk]
          exact ih
      · exact ih
def fullM : Bs := List.replicate 20 255
theorem full_bit {i : Nat} (h : i < 160) : bitB fullM i = true := by
  unfold bitB
  have h1 : i / 8 < fullM.length := by unfold fullM; rw [List.length_replicate]; omega
  have h2 : fullM.getD (i / 8) 0 = 255 := by
    unfold fullM
    rw [List.getD_eq_getElem?_getD, List.getElem?_replicate, if_pos (by omega)]
    rfl
  have h3 : i % 8 < 8 := Nat.mod_lt _ (by decide)
  rw [decide_eq_true h1, h2, Bool.true_and]
  match i % 8, h3 with
  | 0, _ => rfl
  | 1, _ => rfl
  | 2, _ => rfl
  | 3, _ => rfl
  | 4, _ => rfl
  | 5, _ => rfl
  | 6, _ => rfl
  | 7, _ => rfl
theorem nil_bit (i : Nat) : bitB [] i = false := by
  unfold bitB
  rw [decide_eq_false (by simp)]
  rfl
/-- Is it one of the rows written at k? -/
def okW (r : Bs) (k : Nat) (l : List (Int × UInt8)) : Bool := l.any fun x => (x.1 == (k : Int)) && (r == fillB x.2)
theorem okW_snoc (r : Bs) (k : Nat) {l : List (Int × UInt8)} {i : Nat} {x : Int × UInt8} (h : l[i]? = some x) : okW r k (l.take (i + 1)) = (okW r k (l.take i) || ((x.1 == (k : Int)) && (r == fillB x.2))) := by
  have : l.take (i + 1) = l.take i ++ [x] := by rw [List.take_add_one, h]; rfl
  rw [this]
  unfold okW
  rw [List.any_append]
  simp
theorem crash_row {s : Dk} (l : List (Int × UInt8)) (m : Bs) (hp : s.pend = []) (hd : s.dur = s.now) (k : Nat) :
    ((getS (layM m (wS s l).dur (wS s l).pend (wS s l).pend.length) k == getS s.now k) || okW (getS (layM m (wS s l).dur (wS s l).pend (wS s l).pend.length) k) k l) = true := by
  rcases layM_some (m := m) (f := (wS s l).dur) (p := (wS s l).pend) k (wS s l).pend.length with h | ⟨bs, h1, h2⟩
  · have e : getS (layM m (wS s l).dur (wS s l).pend (wS s l).pend.length) k = getS s.now k := by
      unfold getS
      rw [h, (wS_dur s l).1, hd]
    rw [e, beq_self_eq_true, Bool.true_or]
  · rcases pend_from l h1 with h3 | ⟨x, hx, h3, h4⟩
    · rw [hp] at h3; cases h3
    · have e : getS (layM m (wS s l).dur (wS s l).pend (wS s l).pend.length) k = bs := by unfold getS; rw [h2]; rfl
      rw [e]
      have : okW bs k l = true := by
        unfold okW
        rw [List.any_eq_true]
        exact ⟨x, hx, by rw [h3, h4, beq_self_eq_true, beq_self_eq_true]; rfl⟩
      rw [this, Bool.or_true]
theorem crash_eq {s : Dk} (m : Bs) (hd : s.down = false) : crashS s m = { s with now := layM m s.dur s.pend s.pend.length, dur := layM m s.dur s.pend s.pend.length, pend := [], down := true } := by unfold crashS; rw [if_neg (by rw [hd]; decide)]
/-- A disk that fell and is up again. -/
def upS (s : Dk) (m : Bs) : Dk := { s with now := layM m s.dur s.pend s.pend.length, dur := layM m s.dur s.pend s.pend.length, pend := [], down := false }
theorem up_eq {s : Dk} (m : Bs) (hd : s.down = false) : ({ crashS s m with down := false } : Dk) = upS s m := by rw [crash_eq m hd]; rfl
theorem up_full {s : Dk} (h : Jk s) (hp : s.pend.length ≤ 100) : (upS s fullM).now = s.now := by
  show layM fullM s.dur s.pend s.pend.length = s.now
  rw [layM_full _ (Nat.le_refl _) (fun i hi => full_bit (by omega)), List.take_length]
  exact h.symm
theorem up_none (s : Dk) : (upS s []).now = s.dur := layM_none nil_bit _
end Go.Proofs.Ytommepmeohaijaa
