/- Merged: LzP, Lz1, Lz0. -/
import Derived.Maps.OwnSet
import Derived.DeepKeys5
import Derived.Test.YtfafijhmjnkjeaaMa25
import Derived.Test.YtfafijhmjnkjeaaMa01
import Derived.Test.YtfafijhmjnkjeaaMa09
/- lz: pieces that come again, plainly. -/
namespace Go.Proofs.Ytfafijhmjnkjeaa
set_option linter.all false

theorem getD_at {bs : List UInt8} {k : Nat} {x : UInt8} (h : bs[k]? = some x) : bs.getD k 0 = x := by rw [List.getD_eq_getElem?_getD, h]; rfl
abbrev Tri := UInt8 × UInt8 × UInt8
def tri (b : List UInt8) (i : Nat) : Tri := (b.getD i 0, b.getD (i + 1) 0, b.getD (i + 2) 0)
/-- The last place of three bytes among the first i, and 1; 0: there is none. -/
def lastP (b : List UInt8) : Nat → Tri → Nat
  | 0, _ => 0
  | i + 1, t => if i + 3 ≤ b.length ∧ tri b i = t then i + 1 else lastP b i t
/-- Of a place the one ahead with the same bytes, and 1. -/
def prevP (b : List UInt8) (j : Nat) : Nat := if b.length < j + 3 then 0 else lastP b j (tri b j)
def prevL (b : List UInt8) (i : Nat) : List Int := (List.range i).map fun j => ((prevP b j : Nat) : Int)
/-- How many bytes from two places on are the same. -/
def comF (b : List UInt8) (i k : Nat) : Nat → Nat → Nat
  | 0, n => n
  | f + 1, n => if k + n < b.length ∧ b.getD (i + n) 0 = b.getD (k + n) 0 then comF b i k f (n + 1) else n
def comP (b : List UInt8) (i k : Nat) : Nat := comF b i k 258 0
def matF (b : List UInt8) (at_ : Nat) : Nat → Nat → Nat → Nat → Nat × Nat
  | 0, _, best, dist => (best, dist)
  | f + 1, p, best, dist =>
    if p = 0 ∨ 32768 < at_ - (p - 1) then (best, dist)
    else if best < comP b (p - 1) at_ then matF b at_ f (prevP b (p - 1)) (comP b (p - 1) at_) (at_ - (p - 1))
    else matF b at_ f (prevP b (p - 1)) best dist
/-- The match at a place. -/
def matP (b : List UInt8) (at_ : Nat) : Nat × Nat := if b.length < at_ + 3 then (0, 0) else matF b at_ 64 (lastP b at_ (tri b at_)) 0 0
/-- The token at a place. -/
def tokAt (b : List UInt8) (at_ : Nat) : Tok := if (matP b at_).1 = 0 then (0, 0, (b.getD at_ 0).toNat) else ((matP b at_).1, (matP b at_).2, 0)
def stepAt (b : List UInt8) (at_ : Nat) : Nat := if (matP b at_).1 = 0 then 1 else (matP b at_).1
def findF (b : List UInt8) : Nat → Nat → List Tok
  | 0, _ => []
  | f + 1, at_ => if at_ < b.length then tokAt b at_ :: findF b f (at_ + stepAt b at_) else []
/-- Bytes as tokens. -/
def findP (b : List UInt8) : List Tok := findF b b.length 0
theorem prevL_snoc (b : List UInt8) (i : Nat) : prevL b (i + 1) = prevL b i ++ [((prevP b i : Nat) : Int)] := by unfold prevL; rw [List.range_succ, List.map_append]; rfl
theorem prevL_len (b : List UInt8) (i : Nat) : (prevL b i).length = i := by simp [prevL]
theorem prevL_get (b : List UInt8) {i j : Nat} (h : j < i) : (prevL b i)[j]? = some ((prevP b j : Nat) : Int) := by
  unfold prevL
  rw [List.getElem?_map, List.getElem?_range h]
  rfl
theorem lastP_le (b : List UInt8) (t : Tri) : ∀ i, lastP b i t ≤ i ∧ (lastP b i t = 0 ∨ (lastP b i t - 1 + 3 ≤ b.length ∧ tri b (lastP b i t - 1) = t))
  | 0 => ⟨Nat.le_refl _, .inl rfl⟩
  | i + 1 => by
    unfold lastP
    split
    · rename_i h
      exact ⟨Nat.le_refl _, .inr ⟨h.1, h.2⟩⟩
    · have := lastP_le b t i
      exact ⟨by omega, this.2⟩
theorem prevP_le (b : List UInt8) (j : Nat) : prevP b j ≤ j ∧ (prevP b j = 0 ∨ (prevP b j - 1 + 3 ≤ b.length ∧ tri b (prevP b j - 1) = tri b j)) := by
  unfold prevP
  split
  · exact ⟨Nat.zero_le _, .inl rfl⟩
  · exact lastP_le b (tri b j) j
theorem comF_le (b : List UInt8) (i k : Nat) : ∀ f n, comF b i k f n ≤ n + f ∧ (k + n ≤ b.length → k + comF b i k f n ≤ b.length) ∧ n ≤ comF b i k f n
  | 0, n => ⟨Nat.le_refl _, fun h => h, Nat.le_refl _⟩
  | f + 1, n => by
    unfold comF
    split
    · rename_i h
      have := comF_le b i k f (n + 1)
      exact ⟨by omega, fun _ => this.2.1 (by omega), by omega⟩
    · exact ⟨by omega, fun h => h, Nat.le_refl _⟩
theorem comF_on {b : List UInt8} {i k f n : Nat} (h1 : k + n < b.length) (h2 : b.getD (i + n) 0 = b.getD (k + n) 0) : comF b i k (f + 1) n = comF b i k f (n + 1) := if_pos ⟨h1, h2⟩
theorem comF_off {b : List UInt8} {i k f n : Nat} (h : ¬ (k + n < b.length ∧ b.getD (i + n) 0 = b.getD (k + n) 0)) : comF b i k f n = n := by
  cases f with
  | zero => rfl
  | succ f => exact if_neg h
theorem comP_three {b : List UInt8} {i k : Nat} (h : k + 3 ≤ b.length) (ht : tri b i = tri b k) : 3 ≤ comP b i k := by
  have e0 : b.getD i 0 = b.getD k 0 := congrArg (·.1) ht
  have e1 : b.getD (i + 1) 0 = b.getD (k + 1) 0 := congrArg (·.2.1) ht
  have e2 : b.getD (i + 2) 0 = b.getD (k + 2) 0 := congrArg (·.2.2) ht
  unfold comP
  rw [show (258 : Nat) = 257 + 1 from rfl, comF_on (by omega) (by simpa using e0), show (257 : Nat) = 256 + 1 from rfl, comF_on (by omega) (by simpa using e1), show (256 : Nat) = 255 + 1 from rfl, comF_on (by omega) (by simpa using e2)]
  have := (comF_le b i k 255 (0 + 1 + 1 + 1)).2.2
  omega
theorem comP_le (b : List UInt8) (i k : Nat) (h : k ≤ b.length) : comP b i k ≤ 258 ∧ k + comP b i k ≤ b.length := by
  have := comF_le b i k 258 0
  unfold comP
  exact ⟨by omega, this.2.1 (by omega)⟩
/-- A place that a chain names. -/
def Cand (b : List UInt8) (at_ p : Nat) : Prop := p = 0 ∨ (p ≤ at_ ∧ tri b (p - 1) = tri b at_)
theorem Cand.next {b : List UInt8} {at_ p : Nat} (h : Cand b at_ p) (hp : ¬ p = 0) : Cand b at_ (prevP b (p - 1)) := by
  obtain ⟨h1, h2⟩ : p ≤ at_ ∧ tri b (p - 1) = tri b at_ := by rcases h with h | h; exact absurd h hp; exact h
  have h3 := prevP_le b (p - 1)
  rcases h3.2 with e | ⟨_, e⟩
  · exact .inl e
  · exact .inr ⟨by omega, e.trans h2⟩
theorem matF_ok {b : List UInt8} {at_ : Nat} (ha : at_ + 3 ≤ b.length) : ∀ f p best dist, Cand b at_ p → (best = 0 ∨ (3 ≤ best ∧ best ≤ 258 ∧ at_ + best ≤ b.length ∧ 1 ≤ dist ∧ dist ≤ 32768 ∧ dist ≤ at_)) →
    ((matF b at_ f p best dist).1 = 0 ∨ (3 ≤ (matF b at_ f p best dist).1 ∧ (matF b at_ f p best dist).1 ≤ 258 ∧ at_ + (matF b at_ f p best dist).1 ≤ b.length ∧ 1 ≤ (matF b at_ f p best dist).2 ∧ (matF b at_ f p best dist).2 ≤ 32768 ∧ (matF b at_ f p best dist).2 ≤ at_))
  | 0, p, best, dist, _, h => h
  | f + 1, p, best, dist, hc, h => by
    unfold matF
    split
    · exact h
    · rename_i hp
      have hp0 : ¬ p = 0 := fun e => hp (.inl e)
      have hd : at_ - (p - 1) ≤ 32768 := by omega
      obtain ⟨h1, h2⟩ : p ≤ at_ ∧ tri b (p - 1) = tri b at_ := by rcases hc with h | h; exact absurd h hp0; exact h
      split
      · have h3 := comP_three ha h2
        have h4 := comP_le b (p - 1) at_ (by omega)
        exact matF_ok ha f _ _ _ (hc.next hp0) (.inr ⟨h3, h4.1, h4.2, by omega, hd, by omega⟩)
      · exact matF_ok ha f _ _ _ (hc.next hp0) h
theorem cand_first (b : List UInt8) (at_ : Nat) : Cand b at_ (lastP b at_ (tri b at_)) := by
  have := lastP_le b (tri b at_) at_
  rcases this.2 with e | ⟨_, e⟩
  · exact .inl e
  · exact .inr ⟨this.1, e⟩
theorem matP_ok (b : List UInt8) (at_ : Nat) : (matP b at_).1 = 0 ∨ (3 ≤ (matP b at_).1 ∧ (matP b at_).1 ≤ 258 ∧ at_ + (matP b at_).1 ≤ b.length ∧ 1 ≤ (matP b at_).2 ∧ (matP b at_).2 ≤ 32768 ∧ (matP b at_).2 ≤ at_) := by
  unfold matP
  split
  · exact .inl rfl
  · exact matF_ok (by omega) _ _ _ _ (cand_first b at_) (.inl rfl)
theorem stepAt_ok {b : List UInt8} {at_ : Nat} (h : at_ < b.length) : 1 ≤ stepAt b at_ ∧ at_ + stepAt b at_ ≤ b.length ∧ stepAt b at_ = max (tokAt b at_).1 1 ∧ TokOK (tokAt b at_) := by
  unfold stepAt tokAt
  rcases matP_ok b at_ with e | ⟨h1, h2, h3, h4, h5, h6⟩
  · rw [if_pos e, if_pos e]
    exact ⟨Nat.le_refl _, h, rfl, .inl ⟨rfl, (b.getD at_ 0).toNat_lt⟩⟩
  · rw [if_neg (by omega), if_neg (by omega)]
    exact ⟨by omega, h3, by show (matP b at_).1 = max (matP b at_).1 1; omega, .inr ⟨h1, h2, h4, h5⟩⟩
theorem findF_ok (b : List UInt8) : ∀ f at_, (∀ t ∈ findF b f at_, TokOK t) ∧ (at_ ≤ b.length → tokSize (findF b f at_) ≤ b.length - at_)
  | 0, at_ => ⟨fun t ht => absurd ht (List.not_mem_nil), fun _ => Nat.zero_le _⟩
  | f + 1, at_ => by
    unfold findF
    split
    · rename_i h
      obtain ⟨h1, h2, h3, h4⟩ := stepAt_ok h
      obtain ⟨i1, i2⟩ := findF_ok b f (at_ + stepAt b at_)
      refine ⟨fun t ht => ?_, fun _ => ?_⟩
      · rw [List.mem_cons] at ht
        rcases ht with rfl | ht
        · exact h4
        · exact i1 t ht
      · have := i2 h2
        unfold tokSize at this ⊢
        rw [List.map_cons, List.sum_cons, ← h3]
        omega
    · exact ⟨fun t ht => absurd ht (by simp), fun _ => by simp [tokSize]⟩
theorem findP_ok (b : List UInt8) : (∀ t ∈ findP b, TokOK t) ∧ tokSize (findP b) ≤ b.length := ⟨(findF_ok b b.length 0).1, (findF_ok b b.length 0).2 (Nat.zero_le _)⟩
end Go.Proofs.Ytfafijhmjnkjeaa

/- lz: how many bytes from two places on are the same. -/
namespace Go.Proofs.Ytfafijhmjnkjeaa
set_option linter.all false
open Go.RowKit


set_option maxRecDepth 100000 in
set_option maxHeartbeats 1600000 in
theorem common_any (B n c i k : Nat) (A : Option Addr) (bs : List UInt8) (w : World) (h : RdB w B A n bs) (hik : i ≤ k) (hkn : k ≤ n) (hn : n ≤ 40000) :
    Calls Try.prog 97 #[.slice A n c, .int .i64 (i : Int), .int .i64 (k : Int)] w fun e w' => e = .returned (.int .i64 ((comP bs i k : Nat) : Int)) ∧ ∃ q, w' = w.drewN q := by
  have HR := Lib.hid h
  have hl := h.len
  have HC0 : Hid (comF bs i k (258 - 0) 0 = comP bs i k) := (show _ = _ from rfl)
  clear h
  go_enter Try.func97, Try.ntmps97
  go_wp2_with fail
  go_loopw [7] (fun vm wr => ∃ m : Nat, m ≤ 258 ∧ vm = .int .i64 m ∧ Hid (comF bs i k (258 - m) m = comP bs i k) ∧ Hid (∃ q, wr = w.drewN q)) (fun vm _ => 258 - (intOf vm).toNat)
  case atStart => exact ⟨0, by omega, rfl, HC0, (show ∃ q, _ from ⟨0, rfl⟩)⟩
  case round =>
    clear HC0
    obtain ⟨m, hm, rfl, HC, HW⟩ := hrel
    have HRr : Hid (RdB wr B A n bs) := (show RdB _ _ _ _ _ by obtain ⟨q, rfl⟩ := HW.out; exact Rd.drewN HR.out q)
    have HWN : ∀ nq, Hid (∃ q, wr.drewN nq = w.drewN q) := fun nq => (show ∃ q, _ by obtain ⟨q, rfl⟩ := HW.out; exact ⟨q + nq, by rw [World.drewN_drewN]⟩)
    have HS : Hid (m < 258 → comF bs i k (258 - m) m = if k + m < bs.length ∧ bs.getD (i + m) 0 = bs.getD (k + m) 0 then comF bs i k (258 - (m + 1)) (m + 1) else m) := (show _ → _ from fun h => by rw [show 258 - m = (258 - (m + 1)) + 1 by omega]; rfl)
    have hs1 : IntKind.i64.wrap ((k : Int) + (m : Int)) = ((k + m : Nat) : Int) := by have := wrap_i64_lt (k + m) (by omega); simpa using this
    have hs2 : IntKind.i64.wrap ((i : Int) + (m : Int)) = ((i + m : Nat) : Int) := by have := wrap_i64_lt (i + m) (by omega); simpa using this
    by_cases h1 : m < 258
    · have h1i : (m : Int) < 258 := by omega
      by_cases h2 : k + m < n
      · have h2i : (k : Int) + (m : Int) < (n : Int) := by omega
        have h3i : (i : Int) + (m : Int) < (n : Int) := by omega
        obtain ⟨b, o, x, rfl, hb, HX, e1⟩ := HRr.out.byte (k := i + m) (by omega)
        obtain ⟨b2, o2, y, hA2, hb2, HY, e2⟩ := HRr.out.byte (k := k + m) h2
        injection hA2 with hA2
        injection hA2 with hA2 hA3
        subst hA2 hA3
        have HS2 := Lib.hid (HS.out h1)
        rw [getD_at HX.out, getD_at HY.out] at HS2
        have x8 := x.toNat_lt
        have y8 := y.toNat_lt
        obtain ⟨p, hp⟩ : ∃ p, i + m = p := ⟨_, rfl⟩
        obtain ⟨r, hr⟩ : ∃ r, k + m = r := ⟨_, rfl⟩
        have hp2 : (i : Int) + (m : Int) = (p : Int) := by omega
        have hr2 : (k : Int) + (m : Int) = (r : Int) := by omega
        have hp3 : (p : Int) < (n : Int) := by omega
        have hr3 : (r : Int) < (n : Int) := by omega
        have hpn : p < n := by omega
        have hrn : r < n := by omega
        have hb3 : k + m < bs.length := by omega
        rw [hp] at e1 hs2
        rw [hr] at e2 hs1
        by_cases hxy : x = y
        · have d1 : ((x.toNat : Int) == (y.toNat : Int)) = true := by rw [hxy]; exact beq_self_eq_true _
          rw [if_pos ⟨hb3, hxy⟩, HC.out] at HS2
          clear HX HY HS
          go_wp2_with fail
          go_quiet (fail)
          go_wp2_with fail
          go_roundw
          case rel => exact ⟨m + 1, by omega, by go_num, HS2.out.symm, HWN _⟩
          case measure => simp [intOf]; omega
        · have d1 : ((x.toNat : Int) == (y.toNat : Int)) = false := beq_eq_false_iff_ne.2 (fun e => hxy (UInt8.toNat_inj.1 (by omega)))
          rw [if_neg (fun e => hxy e.2), HC.out] at HS2
          clear HX HY HS
          go_wp2_with fail
          go_quiet (fail)
          go_wp2_with fail
          go_ret
          exact ⟨by rw [HS2.out]; rfl, (HWN _).out⟩
      · have h2i : ¬ (k : Int) + (m : Int) < (n : Int) := by omega
        have HS2 := Lib.hid (HS.out h1)
        rw [if_neg (fun e => h2 (hl ▸ e.1)), HC.out] at HS2
        obtain ⟨r, hr⟩ : ∃ r, k + m = r := ⟨_, rfl⟩
        have hr2 : (k : Int) + (m : Int) = (r : Int) := by omega
        have hr3 : ¬ (r : Int) < (n : Int) := by omega
        have hrn : ¬ r < n := by omega
        have hrn2 : n ≤ r := by omega
        have hr4 : decide ((r : Int) < (n : Int)) = false := decide_eq_false hr3
        rw [hr] at hs1
        clear HS hs2
        go_wp2_with fail
        go_quiet (fail)
        go_wp2_with fail
        go_ret
        exact ⟨by rw [HS2.out]; rfl, (HWN _).out⟩
    · obtain rfl : m = 258 := by omega
      have h1i : ¬ (258 : Int) < 258 := by omega
      have HS2 : Hid (comP bs i k = 258) := (show _ = _ by rw [← HC.out]; rfl)
      clear HS
      go_wp2_with fail
      go_quiet (fail)
      go_wp2_with fail
      go_ret
      exact ⟨by rw [HS2.out]; rfl, (HWN _).out⟩
end Go.Proofs.Ytfafijhmjnkjeaa

/- lz: a map of places by three bytes. -/
namespace Go.Proofs.Ytfafijhmjnkjeaa
set_option linter.all false
open Go.RowKit Go.Maps Go.WideElems Go.WideShapes

abbrev MD3 := DataW Value
/-- Three bytes as a value. -/
def triV (t : UInt8 × UInt8 × UInt8) : Value := .agg #[.int .u8 (t.1.toNat : Int), .int .u8 (t.2.1.toNat : Int), .int .u8 (t.2.2.toNat : Int)]
theorem triV_inj {s t : UInt8 × UInt8 × UInt8} (h : triV s = triV t) : s = t := by
  obtain ⟨a, b, c⟩ := s
  obtain ⟨d, e, f⟩ := t
  simp only [triV, Value.agg.injEq, Array.mk.injEq, List.cons.injEq, Value.int.injEq, and_true, true_and, Int.natCast_inj, UInt8.toNat_inj] at h
  obtain ⟨h1, h2, h3⟩ := h
  subst h1 h2 h3
  rfl
/-- An element reads as itself. -/
def held3 (v : Value) : Option (MD3 × List MemPlace) := some (.held v, [])
theorem keyed3 : Keyed Try.prog 153 := Keyed.of_law (deep_law_gate (by kernel_rfl) (of_decide_eq_true (by kernel_rfl)) (of_decide_eq_true (by kernel_rfl)) (by kernel_rfl) (by kernel_rfl))
theorem zeroI0 (w : World) : (zeroValue 3).run Try.prog w = .ok (.int .i64 0) w := by kernel_rfl
theorem key3_gen {P : Program} {k e : TypeId} {n : Nat} (hu : P.underlying k = some (.array 3 e)) (he : P.underlying e = some (.int .u8)) (hk : P.keyType k = true) (hc : P.cellsOf k = 3) (hc1 : P.cellsOf e = 1) (hs : P.types.size = n + 1) (a b c : UInt8) :
    ∃ l, keyOf P k (.agg #[.int .u8 (a.toNat : Int), .int .u8 (b.toNat : Int), .int .u8 (c.toNat : Int)]) = some l := by
  have hf : Value.formed P k (.agg #[.int .u8 (a.toNat : Int), .int .u8 (b.toNat : Int), .int .u8 (c.toNat : Int)]) = true := by simp [Value.formed, hu, hc]
  have hw : ∀ a : UInt8, P.keyLits (n + 1) e [.int .u8 (a.toNat : Int)] = some [.int .u8 (a.toNat : Int)] := fun a => by
    have h1 := a.toNat_lt
    have h2 : (Lit.int .u8 (a.toNat : Int)).wf = true := by
      simp [Lit.wf, IntKind.min, IntKind.max, IntKind.bits, IntKind.signed]; omega
    rw [Program.keyLits.eq_def]
    simp [he, h2]
  have hL : P.keyLits (P.types.size + 1) k [.int .u8 (a.toNat : Int), .int .u8 (b.toNat : Int), .int .u8 (c.toNat : Int)] = some [.int .u8 (a.toNat : Int), .int .u8 (b.toNat : Int), .int .u8 (c.toNat : Int)] := by
    rw [hs]
    rw [Program.keyLits.eq_def]
    simp [hu, hc, hc1, List.range, List.range.loop, hw]
  have hL2 : keyOf P k (.agg #[.int .u8 (a.toNat : Int), .int .u8 (b.toNat : Int), .int .u8 (c.toNat : Int)]) = (P.keyLits (P.types.size + 1) k [.int .u8 (a.toNat : Int), .int .u8 (b.toNat : Int), .int .u8 (c.toNat : Int)]).map fun ls => .string (keyBytes ls) := by
    unfold keyOf
    rw [hu]
    simp only [hk, hf, Bool.and_self, if_true, Value.cells]
  exact ⟨_, by rw [hL2, hL]; rfl⟩
theorem key3_is (t : UInt8 × UInt8 × UInt8) : ∃ l, keyOf Try.prog 153 (triV t) = some l :=
  key3_gen (e := 5) (n := Try.prog.types.size - 1) (by kernel_rfl) (by kernel_rfl) (by kernel_rfl) (by kernel_rfl) (by kernel_rfl) (by kernel_rfl) t.1 t.2.1 t.2.2
/-- Block b is a map that says f of three bytes. -/
def isM3 (w : World) (b m : Nat) (f : UInt8 × UInt8 × UInt8 → Nat) : Prop :=
  ∃ D : MD3, w.ownsMap Try.prog 153 held3 b m D ∧ ∀ t l, keyOf Try.prog 153 (triV t) = some l → D.atKey l (.held (.int .i64 0)) = .held (.int .i64 ((f t : Nat) : Int))
theorem isM3.made (w : World) : isM3 (w.alloc (.map #[] 0)) w.heap.size 0 (fun _ => 0) :=
  ⟨_, World.ownsMap_made w Try.prog 153 held3, fun t l _ => rfl⟩
theorem isM3.lt {w : World} {b m : Nat} {f : UInt8 × UInt8 × UInt8 → Nat} (h : isM3 w b m f) : b < w.heap.size := by
  obtain ⟨D, h, _⟩ := h
  exact h.lt
theorem isM3.keep {w w' : World} {b m : Nat} {f : UInt8 × UInt8 × UInt8 → Nat} (h : isM3 w b m f) (hb : w'.heap[b]? = w.heap[b]?) : isM3 w' b m f := by
  obtain ⟨D, ⟨es, clock, e, F, hs, hD⟩, h2⟩ := h
  exact ⟨D, ⟨es, clock, hb.trans e, F, hs, hD⟩, h2⟩
set_option maxRecDepth 100000 in
theorem isM3.look {w : World} {b m : Nat} {f : UInt8 × UInt8 × UInt8 → Nat} (h : isM3 w b m f) (t : UInt8 × UInt8 × UInt8) :
    (Instr.lookup 116 (.map (some b)) (triV t) false).run Try.prog w = .ok (.int .i64 ((f t : Nat) : Int)) w := by
  obtain ⟨D, hD, h1⟩ := h
  obtain ⟨l, hl⟩ := key3_is t
  obtain ⟨v, ps, hrun, hv⟩ := hD.lookup keyed3 Try.underlying116 (zeroI0 w) (zd := .held (.int .i64 0)) (zp := []) rfl hl
  have e0 : DataW.held v = D.atKey l (.held (.int .i64 0)) := congrArg Prod.fst (Option.some.inj hv)
  rw [h1 t l hl] at e0
  injection e0 with e0
  rw [hrun, e0]
def updT (f : UInt8 × UInt8 × UInt8 → Nat) (t : UInt8 × UInt8 × UInt8) (v : Nat) : UInt8 × UInt8 × UInt8 → Nat := fun s => if t = s then v else f s
set_option maxRecDepth 100000 in
theorem isM3.store {w : World} {b m : Nat} {f : UInt8 × UInt8 × UInt8 → Nat} (h : isM3 w b m f) (hm : m ≤ 1000000) (t : UInt8 × UInt8 × UInt8) (v : Nat) :
    ∃ w', (Instr.mapUpdate 116 (.map (some b)) (triV t) (.int .i64 (v : Int))).run Try.prog w = .ok () w' ∧ isM3 w' b (m + 1) (updT f t v) ∧ w.grownBy w' (some b) := by
  obtain ⟨D, hD, h1⟩ := h
  obtain ⟨l, hl⟩ := key3_is t
  obtain ⟨w', hrun, hown, ht⟩ := hD.update keyed3 Try.underlying116 (by unfold maxLen; omega) hl (val := .int .i64 (v : Int)) rfl
  refine ⟨w', hrun, ⟨_, hown, fun s l2 hl2 => ?_⟩, ht⟩
  by_cases e : t = s
  · subst e
    rw [hl] at hl2
    injection hl2 with hl2
    subst hl2
    rw [Maps.atKey_put_same hD.isMap (keyed3.key hl)]
    unfold updT
    rw [if_pos rfl]
  · have hne : l2 ≠ l := fun e2 => by
      subst e2
      exact e (triV_inj (keyed3.inj hl hl2))
    rw [Maps.atKey_put_other hne, h1 s l2 hl2]
    unfold updT
    rw [if_neg e]
end Go.Proofs.Ytfafijhmjnkjeaa
