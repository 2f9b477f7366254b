/- join: Merge, Resolve, Differ, whatever the trees are. -/
import Derived.Test.YtmffmijjdpjaiaaJoinChP
namespace Go.Proofs.Ytmffmijjdpjaiaa
set_option linter.all false
open Go.RowKit

def mgS (o a b : Tr) : Sh := if wrongT [o, a, b] = 0 then a.s else ⟨0, 0, 0, 0⟩
def mgK (o a b : Tr) : List ByteArray := if wrongT [o, a, b] = 0 then upK o.ts a.ts b.ts a.n else []
def mgM (o a b : Tr) : List Bool := if wrongT [o, a, b] = 0 then upM o.ts a.ts b.ts a.n else []
def MgPost (o a b : Tr) (w : World) (e : Ending) (w' : World) : Prop :=
  ∃ A1 n1 c1 A2 n2 c2, e = .returned (.tuple #[(mgS o a b).r A1 n1 c1, .slice A2 n2 c2, .int .i64 (wrongT [o, a, b])]) ∧ ownT w' w.heap.size (.slice A1 n1 c1) (mgK o a b) ∧ ownL w' w.heap.size (.slice A2 n2 c2) (mgM o a b) ∧
    (∀ g : Nat, (Value.slice A1 n1 c1).ownBlock = some g → (Value.slice A2 n2 c2).ownBlock ≠ some g) ∧ Below w.heap.size w w'
theorem mg_ok {o a b : Tr} {w w' : World} {e : Ending} (h : wrongT [o, a, b] = 0) (hx : ∃ g1 k1 g2, e = .returned (.tuple #[a.s.r (some ⟨g1, 0, none⟩) a.n k1, .slice (some ⟨g2, 0, none⟩) a.n a.n, .int .i64 0]) ∧ g1 ≠ g2 ∧
      ownT w' w.heap.size (.slice (some ⟨g1, 0, none⟩) a.n k1) (upK o.ts a.ts b.ts a.n) ∧ ownL w' w.heap.size (.slice (some ⟨g2, 0, none⟩) a.n a.n) (upM o.ts a.ts b.ts a.n) ∧ Below w.heap.size w w') : MgPost o a b w e w' := by
  obtain ⟨g1, k1, g2, rfl, hne, h1, h2, hb⟩ := hx
  unfold MgPost mgS mgK mgM
  rw [if_pos h, if_pos h, if_pos h, h]
  exact ⟨_, _, _, _, _, _, rfl, h1, h2, fun g e e' => hne (Option.some.inj (e.trans e'.symm)), hb⟩
theorem mg_no {o a b : Tr} {w w' : World} {e : Ending} (h : ¬ wrongT [o, a, b] = 0) (hx : e = .returned (.tuple #[(⟨0, 0, 0, 0⟩ : Sh).r none 0 0, .slice none 0 0, .int .i64 (wrongT [o, a, b])]) ∧ Below w.heap.size w w') : MgPost o a b w e w' := by
  obtain ⟨rfl, hb⟩ := hx
  unfold MgPost mgS mgK mgM
  rw [if_neg h, if_neg h, if_neg h]
  exact ⟨_, _, _, _, _, _, rfl, ownT.nil_ _ _, ownL.nil_ _ _, (fun g e => by cases e), hb⟩
theorem merge_any (o a b : Tr) (B : Nat) (w : World) (ho : o.ok w B) (ha : a.ok w B) (hb : b.ok w B) (hB1 : B ≤ w.heap.size) :
    Calls Try.prog 9 #[o.s.r o.A o.n o.c, a.s.r a.A a.n a.c, b.s.r b.A b.n b.c] w (MgPost o a b w) := by
  by_cases h : wrongT [o, a, b] = 0
  · exact (merge_ok o a b B w ho ha hb hB1 h).mono fun e w' hx => mg_ok h hx
  · exact (merge_no o a b B w ho ha hb hB1 _ rfl ((wrongT_cases _).resolve_left h)).mono fun e w' hx => mg_no h hx
theorem merge17_any (o a b : Tr) (B : Nat) (w : World) (ho : o.ok w B) (ha : a.ok w B) (hb : b.ok w B) (hB1 : B ≤ w.heap.size) :
    Calls Try.prog 19 #[o.s.r o.A o.n o.c, a.s.r a.A a.n a.c, b.s.r b.A b.n b.c] w (MgPost o a b w) := by
  by_cases h : wrongT [o, a, b] = 0
  · exact (merge17_ok o a b B w ho ha hb hB1 h).mono fun e w' hx => mg_ok h hx
  · exact (merge17_no o a b B w ho ha hb hB1 _ rfl ((wrongT_cases _).resolve_left h)).mono fun e w' hx => mg_no h hx

def rsS (a b : Tr) (mn : Nat) : Sh := if resE a b mn = 0 then a.s else ⟨0, 0, 0, 0⟩
def rsL (a b : Tr) (mn : Nat) (ml : List Bool) : List ByteArray := if resE a b mn = 0 then rsK a.ts b.ts ml a.n else []
def RsPost (a b : Tr) (mn : Nat) (ml : List Bool) (w : World) (e : Ending) (w' : World) : Prop :=
  ∃ A1 n1 c1, e = .returned (.tuple #[(rsS a b mn).r A1 n1 c1, .int .i64 (resE a b mn)]) ∧ ownT w' w.heap.size (.slice A1 n1 c1) (rsL a b mn ml) ∧ Below w.heap.size w w'
theorem resolve_any (a b : Tr) (B mn mc : Nat) (mA : Option Addr) (ml : List Bool) (w : World) (ha : a.ok w B) (hb : b.ok w B) (hB1 : B ≤ w.heap.size) (hm : RdL w B mA mn ml) (hmc : mn ≤ mc) (hmm : mc ≤ maxLen) :
    Calls Try.prog 17 #[a.s.r a.A a.n a.c, .slice mA mn mc, b.s.r b.A b.n b.c] w (RsPost a b mn ml w) := by
  by_cases h : resE a b mn = 0
  · obtain ⟨h1, h2⟩ := resE_zero h
    refine (resolve_ok a b B mn mc mA ml w ha hb hB1 hm hmc hmm h1 h2).mono ?_
    rintro e w' ⟨g1, k1, rfl, ho, hb⟩
    unfold RsPost rsS rsL
    rw [if_pos h, if_pos h, h]
    exact ⟨_, _, _, rfl, ho, hb⟩
  · refine (resolve_err a b B mn mc mA ml w ha hb hB1 _ rfl ((resE_cases a b mn).resolve_left h)).mono ?_
    rintro e w' ⟨rfl, hb⟩
    unfold RsPost rsS rsL
    rw [if_neg h, if_neg h]
    exact ⟨_, _, _, rfl, ownT.nil_ _ _, hb⟩
theorem resolve17_any (a b : Tr) (B mn mc : Nat) (mA : Option Addr) (ml : List Bool) (w : World) (ha : a.ok w B) (hb : b.ok w B) (hB1 : B ≤ w.heap.size) (hm : RdL w B mA mn ml) (hmc : mn ≤ mc) (hmm : mc ≤ maxLen) :
    Calls Try.prog 20 #[a.s.r a.A a.n a.c, .slice mA mn mc, b.s.r b.A b.n b.c] w (RsPost a b mn ml w) := by
  by_cases h : resE a b mn = 0
  · obtain ⟨h1, h2⟩ := resE_zero h
    refine (resolve17_ok a b B mn mc mA ml w ha hb hB1 hm hmc hmm h1 h2).mono ?_
    rintro e w' ⟨g1, k1, rfl, ho, hb⟩
    unfold RsPost rsS rsL
    rw [if_pos h, if_pos h, h]
    exact ⟨_, _, _, rfl, ho, hb⟩
  · refine (resolve17_err a b B mn mc mA ml w ha hb hB1 _ rfl ((resE_cases a b mn).resolve_left h)).mono ?_
    rintro e w' ⟨rfl, hb⟩
    unfold RsPost rsS rsL
    rw [if_neg h, if_neg h]
    exact ⟨_, _, _, rfl, ownT.nil_ _ _, hb⟩
theorem differ_any (a b : Tr) (B : Nat) (w : World) (ha : a.ok w B) (hb : b.ok w B) (hB1 : B ≤ w.heap.size) :
    Calls Try.prog 21 #[a.s.r a.A a.n a.c, b.s.r b.A b.n b.c] w fun e w' => ∃ A n c, e = .returned (.tuple #[.slice A n c, .int .i64 (wrongT [a, b])]) ∧ n = (chgR a b).length ∧ ownI w' w.heap.size (.slice A n c) (chgR a b) ∧ Below w.heap.size w w' := by
  rcases wrongT_cases [a, b] with h | h
  · have e : chgR a b = chg a.ts b.ts a.n := by unfold chgR; rw [if_pos h]
    rw [e, h]
    refine (differ_ok a b B w ha hb hB1 h).mono ?_
    rintro e w' ⟨v, rfl, ho, hb⟩
    obtain ⟨A, c, rfl, -⟩ := ho.form
    exact ⟨A, _, c, rfl, rfl, ho, hb⟩
  · have e : chgR a b = [] := by unfold chgR; rw [if_neg (by rcases h with h | h <;> rw [h] <;> decide)]
    rw [e]
    refine (differ_no a b B w ha hb hB1 _ rfl h).mono ?_
    rintro e w' ⟨rfl, hb⟩
    exact ⟨_, _, _, rfl, rfl, ownI.nil_ _ _, hb⟩

theorem mgK_le (o a b : Tr) (la : a.ts.length = a.n) : (mgK o a b).length ≤ a.n := by
  unfold mgK
  split
  · rw [upK_len]; omega
  · simp
theorem rsL_le (a b : Tr) (mn : Nat) (ml : List Bool) (la : a.ts.length = a.n) : (rsL a b mn ml).length ≤ a.n := by
  unfold rsL
  split
  · rw [rsK_len]; omega
  · simp
theorem mgM_le (o a b : Tr) (la : a.ts.length = a.n) : (mgM o a b).length ≤ a.n := by
  unfold mgM
  split
  · rw [upM_len]; omega
  · simp
end Go.Proofs.Ytmffmijjdpjaiaa
