/- Merged: HuffBackP, PutP, Put, Fl5. -/
import Derived.Test.YteoolehdomjkkaaMb13
import Derived.Test.YteoolehdomjkkaaMb14
/- HuffBack: places written and read, plainly. -/
namespace Go.Proofs.Yteoolehdomjkkaa
set_option linter.all false
open Go.RowKit

/-- The bits of places' codes. -/
def codesB (ls : List Int) (D : List Nat) : List Nat := D.flatMap (codeB ls)
def intsN (D : List Nat) : List Int := D.map fun (x : Nat) => (x : Int)
theorem intsN_len (D : List Nat) : (intsN D).length = D.length := by simp [intsN]
/-- Places that have a code. -/
def HasC (ls : List Int) (D : List Nat) : Prop := ∀ p ∈ D, ∃ t : Nat, ls[p]? = some (t : Int) ∧ 0 < t
theorem codesB_snoc (ls : List Int) (D : List Nat) (p : Nat) : codesB ls (D ++ [p]) = codesB ls D ++ codeB ls p := by simp [codesB]
theorem codeB_at {ls : List Int} {p t : Nat} (hp : ls[p]? = some (t : Int)) (h0 : 0 < t) : codeB ls p = msb (fst ls t + cnt (ls.take p) t) t t := by
  unfold codeB
  rw [codeAt_pos hp h0]
  rfl
theorem codesB_le {ls : List Int} (hbad : badL ls = false) : ∀ D : List Nat, HasC ls D → (codesB ls D).length ≤ 15 * D.length := by
  intro D
  induction D with
  | nil => intro _; simp [codesB]
  | cons p r ih =>
    intro h
    obtain ⟨t, hp, h0⟩ := h p (by simp)
    have := good_at hbad hp
    have h2 := ih (fun q hq => h q (by simp [hq]))
    unfold codesB at h2 ⊢
    rw [List.flatMap_cons, List.length_append, codeB_at hp h0, msb_len, List.length_cons]
    omega
theorem HasC.snoc {ls : List Int} {D : List Nat} (h : HasC ls D) {p t : Nat} (hp : ls[p]? = some (t : Int)) (h0 : 0 < t) : HasC ls (D ++ [p]) := by
  intro q hq
  rw [List.mem_append, List.mem_singleton] at hq
  rcases hq with hq | rfl
  · exact h q hq
  · exact ⟨t, hp, h0⟩
theorem codesB_take {ls : List Int} {D : List Nat} {i : Nat} (hi : i < D.length) : codesB ls D = codesB ls (D.take i) ++ (codeB ls D[i] ++ codesB ls (D.drop (i + 1))) := by
  have e : D = D.take i ++ D[i] :: D.drop (i + 1) := by rw [← List.drop_eq_getElem_cons hi, List.take_append_drop]
  refine (congrArg (codesB ls) e).trans ?_
  unfold codesB
  rw [List.flatMap_append, List.flatMap_cons]
theorem codesB_next {ls : List Int} {D : List Nat} {i : Nat} (hi : i < D.length) : (codesB ls (D.take (i + 1))).length = (codesB ls (D.take i)).length + (codeB ls D[i]).length := by
  rw [List.take_succ_eq_append_getElem hi, codesB_snoc, List.length_append]
/-- What Next reads at the i-th place that was written. -/
theorem nx_back {ls : List Int} (hbad : badL ls = false) (hk : krN ls ≤ 32768) {bs : List UInt8} {D : List Nat} (hD : HasC ls D) (hW : WB bs (codesB ls D)) {i : Nat} (hi : i < D.length) :
    nx ls bs 15 1 0 (codesB ls (D.take i)).length = ((D[i] : Int), 0, (codesB ls (D.take (i + 1))).length) := by
  obtain ⟨t, hp, h0⟩ := hD D[i] (List.getElem_mem hi)
  rw [codesB_take hi] at hW
  rw [codesB_next hi]
  exact nx_place hbad hk hp h0 hW
theorem codesB_bound {ls : List Int} {bs : List UInt8} {D : List Nat} (hW : WB bs (codesB ls D)) (i : Nat) : (codesB ls (D.take i)).length ≤ 8 * bs.length := by
  have h1 := hW.1
  have h2 : (codesB ls (D.take i)).length ≤ (codesB ls D).length := by
    have e : codesB ls D = codesB ls (D.take i) ++ codesB ls (D.drop i) := by unfold codesB; rw [← List.flatMap_append, List.take_append_drop]
    rw [e, List.length_append]
    omega
  omega
theorem wbytes_any (g : Nat) (pv : Value) (bs : List UInt8) (L : List Nat) (w : World) (h : Wr w g pv bs L) (hb : L.length ≤ 1000000) :
    Calls Try.prog 55 #[.pointer (some ⟨g, 0, none⟩)] w fun e w' => ∃ v, e = .returned v ∧ ownB w' w.heap.size v bs ∧ Below w.heap.size w w' := by
  obtain ⟨h1, h2, h3⟩ := h
  obtain ⟨A, c, rfl, hr, -, -⟩ := h2.form
  have c0 := h1.cell (k := 0) rfl
  have HC := Lib.hid (cloneB2_any w.heap.size bs.length c A bs w hr (by have := h3.1; omega))
  clear h1 h2 h3 hr
  go_enter Try.func55, Try.ntmps55
  go_wp2_with (go_at_call 46; (with_reducible refine HC.out.mono ?_); go_must (rintro e w1 ⟨v, rfl, ho, hb⟩))
  go_ret
  exact ⟨_, rfl, ho, hb⟩
theorem Wr.drew {w : World} {g : Nat} {pv : Value} {bs : List UInt8} {L : List Nat} (h : Wr w g pv bs L) : Wr w.drew g pv bs L := ⟨h.1.drew, h.2.1.drew, h.2.2⟩
theorem Wr.drewN {w : World} {g : Nat} {pv : Value} {bs : List UInt8} {L : List Nat} (h : Wr w g pv bs L) (q : Nat) : Wr (w.drewN q) g pv bs L := ⟨h.1.drewN q, h.2.1.drewN q, h.2.2⟩
theorem WrFr.undrew {w w' : World} {g : Nat} {pv pv' : Value} (h : WrFr w.drew w' g pv pv') : WrFr w w' g pv pv' := ⟨h.os, h.tape, h.output, h.size, h.block, h.own⟩
/-- Two rows in unlike blocks. -/
def Dis (a b : Value) : Prop := ∀ k, a.ownBlock = some k → b.ownBlock ≠ some k
theorem ownI.same {w w' : World} {base : Nat} {v : Value} {l : List Int} (h : ownI w base v l) (hb : ∀ k, v.ownBlock = some k → w'.heap[k]? = w.heap[k]?) : ownI w' base v l := by
  refine ⟨h.1, ?_⟩
  rcases h.2 with hn | ⟨g, cap, cur, rfl, hbg, hg, rest⟩
  · exact .inl hn
  · exact .inr ⟨g, cap, cur, rfl, hbg, (hb g rfl).trans hg, rest⟩
theorem ownI.wr {w w' : World} {g : Nat} {pv pv' v : Value} {l : List Int} (h : ownI w (g + 1) v l) (hf : WrFr w w' g pv pv') (hd : Dis pv v) : ownI w' (g + 1) v l :=
  h.same fun k hk => hf.block k (World.ownsRow.lt h k hk).2 (by have := (World.ownsRow.lt h k hk).1; omega) (fun e => hd k e hk)
theorem Dis.wr {w w' : World} {g : Nat} {pv pv' v : Value} {l : List Int} (h : ownI w (g + 1) v l) (hf : WrFr w w' g pv pv') (hd : Dis pv v) : Dis pv' v := by
  intro k hk hv
  rcases hf.own with e | ⟨j, hj, e⟩
  · exact hd k (e.symm.trans hk) hv
  · rw [e] at hk
    injection hk with hk
    have := (World.ownsRow.lt h k hv).2
    omega
/-- The writer while another row grows. -/
theorem Wr.gro {w w' : World} {g : Nat} {pv v : Value} {bs : List UInt8} {L : List Nat} {l : List Int} (o : Obj) (h : Wr w g pv bs L) (hv : ownI w (g + 1) v l) (hd : Dis pv v) (hg : (w.alloc o).grownBy w' v.ownBlock) : Wr w' g pv bs L := by
  obtain ⟨h1, h2, h3⟩ := h
  refine ⟨?_, ?_, h3⟩
  · have hl := (h1.alloc o).lt
    obtain ⟨t, h1⟩ := h1.alloc o
    exact ⟨t, (hg.block g hl (fun e => by have := (World.ownsRow.lt hv g e.symm).1; omega)).trans h1⟩
  · refine ownB.kept (h2.alloc o) hg ?_
    cases e : pv.ownBlock with
    | none => exact .inl rfl
    | some k => exact .inr (fun e2 => hd k e e2.symm)
theorem Dis.gro {w : World} {g : Nat} {pv v v' : Value} {bs : List UInt8} {L : List Nat} (o : Obj) (h : Wr w g pv bs L) (hd : Dis pv v) (hat : v'.ownBlock = v.ownBlock ∨ v'.ownBlock = some (w.alloc o).heap.size) : Dis pv v' := by
  intro k hk hv
  rcases hat with e | e
  · exact hd k hk (e.symm.trans hv)
  · rw [e] at hv
    injection hv with hv
    have := (World.ownsRow.lt h.2.1 k hk).2
    simp at hv
    omega
end Go.Proofs.Yteoolehdomjkkaa

/- Writers of bits: numbers put the least bit first, alignment, plainly. -/
namespace Go.Proofs.Yteoolehdomjkkaa
set_option linter.all false
open Go.RowKit

/-- The first k bits of a number, the least first. -/
def lsb (v : Nat) : Nat → List Nat
  | 0 => []
  | k + 1 => lsb v k ++ [v / 2 ^ k % 2]
theorem lsb_len (v k : Nat) : (lsb v k).length = k := by
  induction k with
  | zero => rfl
  | succ k ih => rw [lsb, List.length_append, ih]; rfl
theorem lsb_get (v k j : Nat) (h : j < k) : (lsb v k)[j]? = some (v / 2 ^ j % 2) := by
  induction k with
  | zero => omega
  | succ k ih =>
    rw [lsb]
    by_cases e : j < k
    · rw [List.getElem?_append_left (by rw [lsb_len]; exact e)]; exact ih e
    · obtain rfl : j = k := by omega
      rw [List.getElem?_append_right (by rw [lsb_len]; exact Nat.le_refl _), lsb_len, Nat.sub_self]
      rfl
/-- Bits up to the next whole byte. -/
def alignL (L : List Nat) : List Nat := L ++ List.replicate (8 * ((L.length + 7) / 8) - L.length) 0
theorem alignL_len (L : List Nat) : (alignL L).length = 8 * ((L.length + 7) / 8) := by
  unfold alignL
  rw [List.length_append, List.length_replicate]
  omega
theorem getD_pad (L : List Nat) (k p : Nat) : (L ++ List.replicate k 0).getD p 0 = L.getD p 0 := by
  rw [List.getD_eq_getElem?_getD, List.getD_eq_getElem?_getD, List.getElem?_append]
  split
  · rfl
  · rw [List.getElem?_eq_none (l := L) (by omega), List.getElem?_replicate]
    split <;> rfl
theorem WB.align {bs : List UInt8} {L : List Nat} (h : WB bs L) : WB bs (alignL L) := by
  refine ⟨?_, fun p => ?_⟩
  · rw [alignL_len, h.1]; omega
  · rw [h.2 p]; unfold alignL; rw [getD_pad]
/-- Bits are bytes in one way. -/
theorem WB.uniq {bs cs : List UInt8} {L : List Nat} (h : WB bs L) (k : WB cs L) : bs = cs := by
  have hl : bs.length = cs.length := h.1.trans k.1.symm
  apply List.ext_getElem hl
  intro i h1 h2
  have key : ∀ t, t < 8 → bs[i].toNat / 2 ^ t % 2 = cs[i].toNat / 2 ^ t % 2 := by
    intro t ht
    have e := (h.2 (8 * i + t)).trans (k.2 (8 * i + t)).symm
    unfold bitAt at e
    rw [show (8 * i + t) / 8 = i by omega, show (8 * i + t) % 8 = t by omega, List.getD_eq_getElem?_getD, List.getD_eq_getElem?_getD, List.getElem?_eq_getElem h1, List.getElem?_eq_getElem h2] at e
    exact e
  have a := key 0 (by omega); have b := key 1 (by omega); have c := key 2 (by omega); have d := key 3 (by omega)
  have e := key 4 (by omega); have f := key 5 (by omega); have g := key 6 (by omega); have i8 := key 7 (by omega)
  have x1 := bs[i].toNat_lt
  have x2 := cs[i].toNat_lt
  apply UInt8.toNat_inj.1
  generalize bs[i].toNat = x at *
  generalize cs[i].toNat = y at *
  clear key h k hl h1 h2
  simp only [Nat.reducePow] at a b c d e f g i8 x1 x2
  omega
theorem codeAt_ok {ls : List Int} (hbad : badL ls = false) (hk : krN ls ≤ 32768) (p : Nat) (hp : p < ls.length) : ∃ t : Nat, t ≤ 15 ∧ (codeAt ls p).2 = (t : Int) ∧ (codeAt ls p).1 < 2 ^ t := by
  have hx : ls[p]? = some ls[p] := List.getElem?_eq_getElem hp
  obtain ⟨x0, x1⟩ := good_at hbad hx
  obtain ⟨t, ht⟩ := Int.eq_ofNat_of_zero_le x0
  rw [ht] at hx
  by_cases h0 : 0 < t
  · have hc := codeAt_pos hx h0
    have hh : Hit ls t (fst ls t + cnt (ls.take p) t) p := ⟨hx, rfl⟩
    have h15 : t ≤ 15 := by rw [ht] at x1; omega
    exact ⟨t, h15, by rw [hc], by rw [hc]; exact Nat.lt_of_lt_of_le (hit_bound h0 hh).2 (fst_pow ls hbad hk t h15)⟩
  · have hc := codeAt_zero hx (by omega)
    exact ⟨0, by omega, by rw [hc]; rfl, by rw [hc]; decide⟩
/-- A row beside a writer that was there ahead of it. -/
theorem Dis.new {w : World} {base b2 : Nat} {pv v : Value} {bs : List UInt8} (h : ownB w base pv bs) (hv : ∀ k, v.ownBlock = some k → b2 ≤ k) (hb : w.heap.size ≤ b2) : Dis pv v := by
  intro k hk hv2
  have h1 := hv k hv2
  have h2 := (World.ownsRow.lt h k hk).2
  omega
theorem Dis.wrC {w w' : World} {g : Nat} {pv pv' v : Value} (h : ∀ k, v.ownBlock = some k → k < w.heap.size) (hf : WrFr w w' g pv pv') (hd : Dis pv v) : Dis pv' v := by
  intro k hk hv
  rcases hf.own with e | ⟨j, hj, e⟩
  · exact hd k (e.symm.trans hk) hv
  · rw [e] at hk
    injection hk with hk
    have := h k hv
    omega
theorem ownC.wr {w w' : World} {g : Nat} {pv pv' v : Value} {l : List (Nat × Int)} (h : ownC w (g + 1) v l) (hf : WrFr w w' g pv pv') (hd : Dis pv v) : ownC w' (g + 1) v l := by
  have hb : ∀ k, v.ownBlock = some k → w'.heap[k]? = w.heap[k]? := fun k hk => hf.block k (World.ownsRow.lt h k hk).2 (by have := (World.ownsRow.lt h k hk).1; omega) (fun e => hd k e hk)
  refine ⟨h.1, ?_⟩
  rcases h.2 with hn | ⟨g, cap, cur, rfl, hbg, hg, rest⟩
  · exact .inl hn
  · exact .inr ⟨g, cap, cur, rfl, hbg, (hb g rfl).trans hg, rest⟩
end Go.Proofs.Yteoolehdomjkkaa

/- Writers of bits: Put, Align, Bits. -/
namespace Go.Proofs.Yteoolehdomjkkaa
set_option linter.all false
open Go.RowKit

set_option maxRecDepth 100000 in
set_option maxHeartbeats 3200000 in
theorem put_any (g v m : Nat) (pv : Value) (bs : List UInt8) (L : List Nat) (w : World) (h : Wr w g pv bs L) (hb : L.length + m ≤ 1000000) (hm : m ≤ 24) (hv : v < 2 ^ m) :
    Calls Try.prog 98 #[.pointer (some ⟨g, 0, none⟩), .int .u32 (v : Int), .int .i64 (m : Int)] w fun e w' => e = .returned (.int .i64 0) ∧ ∃ pv' bs', Wr w' g pv' bs' (L ++ lsb v m) ∧ WrFr w w' g pv pv' := by
  have HWG := Lib.hid (fun w => wrongBits_any v m w hm hv)
  have HW := Lib.hid h
  have hv24 : v < 16777216 := Nat.lt_of_lt_of_le hv (Nat.pow_le_pow_right (by decide) hm)
  have HM : Hid (L ++ lsb v 0 = L) := (show _ = _ by simp [lsb])
  clear h hv
  go_enter Try.func98, Try.ntmps98
  go_wp2_with (go_at_call 112; (with_reducible refine (HWG.out _).mono ?_); go_must (rintro e w1 ⟨rfl, rfl⟩))
  go_loopw [12] (fun vi wr => ∃ k : Nat, k ≤ m ∧ vi = .int .i64 k ∧ ∃ pq bq, Hid (Wr wr g pq bq (L ++ lsb v k)) ∧ Hid (WrFr w wr g pv pq)) (fun vi _ => m - (intOf vi).toNat)
  case atStart => exact ⟨0, Nat.zero_le _, rfl, pv, bs, (show Wr _ _ _ _ _ by rw [HM.out]; exact HW.out), WrFr.refl _ _ _⟩
  case round =>
    clear HW HM
    obtain ⟨k, hk, rfl, pq, bq, HW, HF⟩ := hrel
    by_cases hlt : k < m
    · have hlen : (L ++ lsb v k).length = L.length + k := by rw [List.length_append, lsb_len]
      have hdv : v / 2 ^ k < 4294967296 := Nat.lt_of_le_of_lt (Nat.div_le_self _ _) (by omega)
      have HC := Lib.hid (one_any g (L ++ lsb v k).length (v / 2 ^ k) pq bq _ wr HW.out.1 HW.out.2.1 HW.out.2.2 rfl (by omega) hdv)
      have HST : Hid (L ++ lsb v k ++ [v / 2 ^ k % 2] = L ++ lsb v (k + 1)) := (show _ = _ by rw [lsb, List.append_assoc])
      have HLN : Hid ((((L ++ lsb v k).length + 1 : Nat) : Int) = (((L ++ lsb v (k + 1)).length : Nat) : Int)) := (show _ = _ by rw [← HST.out]; congr 1; simp; omega)
      rw [HST.out, HLN.out] at HC
      have hdvI : (v : Int) / 2 ^ k = ((v / 2 ^ k : Nat) : Int) := by rw [show ((2 : Int) ^ k) = ((2 ^ k : Nat) : Int) by push_cast; rfl, ← Int.natCast_ediv]
      generalize v / 2 ^ k = u at *
      clear hlen HST HLN
      go_wp2_with (go_at_call 113; (with_reducible refine HC.out.mono ?_); go_must (rintro e w5 ⟨rfl, pv5, bs5, hA5, hO5, hW5, hF5⟩; have HF5 := Lib.hid (HF.out.trans hF5); have HW5 : Hid (Wr w5 g pv5 bs5 (L ++ lsb v (k + 1))) := ⟨hA5, hO5, hW5⟩; clear hA5 hO5 hW5 hF5))
      go_roundw
      case rel => exact ⟨k + 1, by omega, by go_num, pv5, bs5, HW5, HF5⟩
      case measure => simp [intOf]; omega
    · obtain rfl : k = m := by omega
      go_wp2_with fail
      go_ret
      exact ⟨rfl, pq, bq, HW.out, HF.out⟩
/-- On to the next whole byte. -/
theorem align_any (g : Nat) (pv : Value) (bs : List UInt8) (L : List Nat) (w : World) (h : Wr w g pv bs L) (hb : L.length ≤ 1000000) :
    Calls Try.prog 88 #[.pointer (some ⟨g, 0, none⟩)] w fun e w' => e = .returned (.tuple #[]) ∧ Wr w' g pv bs (alignL L) ∧ WrFr w w' g pv pv := by
  obtain ⟨h1, h2, h3⟩ := h
  obtain ⟨A, c, rfl, hr, -, -⟩ := h2.form
  have hbl : bs.length = (L.length + 7) / 8 := h3.1
  have hbn : bs.length ≤ 200000 := by omega
  have HLE : Hid ((8 * (bs.length : Int)) = (((alignL L).length : Nat) : Int)) := (show _ = _ by rw [alignL_len, hbl]; push_cast; rfl)
  have c0 := h1.cell (k := 0) rfl
  have c1 := h1.cell (k := 1) rfl
  have f1 := h1.frozen 1
  have HA := Lib.hid (h1.set 1 (.int .i64 (8 * (bs.length : Int))))
  have HO := Lib.hid (ownB.far h2 (g := g) (ownB_ne h2 (Nat.lt_succ_self g)) 1 (.int .i64 (8 * (bs.length : Int))))
  have HF := Lib.hid ((WrFr.refl w g (.slice A bs.length c)).setg 1 (.int .i64 (8 * (bs.length : Int))))
  have HW := Lib.hid h3.align
  rw [HLE.out] at HA
  have e : wrap64 (8 * (bs.length : Int)) = 8 * (bs.length : Int) := wrap64_id _ (by omega) (by omega)
  clear h1 h2 h3 hr hbl hb
  generalize bs.length = n at *
  go_enter Try.func88, Try.ntmps88
  go_wp2_with fail
  first | (refine bodyPost_ret (results_none rfl _ _ _) rfl ?_) | (refine bodyPost_end (results_none rfl _ _ _) rfl ?_)
  refine ⟨rfl, ⟨?_, ?_, HW.out⟩, ?_⟩
  · rw [HLE.out]; exact HA.out
  · rw [HLE.out]; rw [HLE.out] at HO; exact HO.out
  · exact HF.out
theorem bitsN_any (g : Nat) (pv : Value) (bs : List UInt8) (L : List Nat) (w : World) (h : Wr w g pv bs L) :
    Calls Try.prog 54 #[.pointer (some ⟨g, 0, none⟩)] w fun e w' => e = .returned (.int .i64 ((L.length : Nat) : Int)) ∧ w = w' := by
  have c1 := h.1.cell (k := 1) rfl
  clear h
  go_enter Try.func54, Try.ntmps54
  go_wp2_with fail
  go_ret
  exact ⟨rfl, rfl⟩
end Go.Proofs.Yteoolehdomjkkaa

/- flate: a writer's put, code; a block begun. -/
namespace Go.Proofs.Yteoolehdomjkkaa
set_option linter.all false
open Go.RowKit

/-- A block that a writer leaves as it is. -/
structure Bx (w : World) (g : Nat) (pv : Value) (b : Nat) : Prop where
  lt : b < w.heap.size
  ne : b ≠ g
  nv : pv.ownBlock ≠ some b
theorem Bx.wr {w w' : World} {g b : Nat} {pv pv' : Value} (h : Bx w g pv b) (hf : WrFr w w' g pv pv') : Bx w' g pv' b := by
  refine ⟨Nat.lt_of_lt_of_le h.lt hf.size, h.ne, ?_⟩
  rcases hf.own with e | ⟨j, hj, e⟩
  · rw [e]; exact h.nv
  · rw [e]; intro e2; injection e2 with e2; have := h.lt; omega
theorem Bx.heap {w w' : World} {g b : Nat} {pv pv' : Value} (h : Bx w g pv b) (hf : WrFr w w' g pv pv') : w'.heap[b]? = w.heap[b]? := hf.block b h.lt h.ne h.nv
theorem Bx.cell {w w' : World} {g b i : Nat} {pv pv' u : Value} (h : Bx w g pv b) (hf : WrFr w w' g pv pv') (c : w.cell? ⟨b, i, none⟩ = some u) : w'.cell? ⟨b, i, none⟩ = some u := by
  rw [← c]; unfold World.cell?; rw [h.heap hf]
theorem Bx.new {w : World} {g : Nat} {pv : Value} {bs : List UInt8} {L : List Nat} (h : Wr w g pv bs L) (o : Obj) : Bx (w.alloc o) g pv w.heap.size := by
  refine ⟨by simp, ?_, fun e => ?_⟩
  · have := h.1.lt; omega
  · have := (World.ownsRow.lt h.2.1 _ e).2; omega
theorem Bx.alloc {w : World} {g b : Nat} {pv : Value} (h : Bx w g pv b) (o : Obj) : Bx (w.alloc o) g pv b := ⟨by have := h.lt; simp; omega, h.ne, h.nv⟩
theorem Bx.drew {w : World} {g b : Nat} {pv : Value} (h : Bx w g pv b) : Bx w.drew g pv b := ⟨h.lt, h.ne, h.nv⟩
theorem Wr.alloc {w : World} {g : Nat} {pv : Value} {bs : List UInt8} {L : List Nat} (h : Wr w g pv bs L) (o : Obj) : Wr (w.alloc o) g pv bs L := ⟨h.1.alloc o, h.2.1.alloc o, h.2.2⟩
theorem WrFr.alloc0 {w w' : World} {g : Nat} {pv pv' : Value} (o : Obj) (h : WrFr (w.alloc o) w' g pv pv') : WrFr w w' g pv pv' := by
  refine ⟨h.os, h.tape, h.output, Nat.le_trans (by simp) h.size, fun k hk hg hp => ?_, ?_⟩
  · exact (h.block k (by simp; omega) hg hp).trans (heap_alloc_old w o hk)
  · rcases h.own with e | ⟨j, hj, e⟩
    · exact .inl e
    · exact .inr ⟨j, by simp at hj; omega, e⟩
theorem WrFr.alloc {w w' : World} {g : Nat} {pv pv' : Value} (o : Obj) (h : WrFr w w' g pv pv') : WrFr w (w'.alloc o) g pv pv' := by
  refine ⟨h.os, h.tape, h.output, by have := h.size; simp; omega, fun k hk hg hp => ?_, h.own⟩
  exact (heap_alloc_old w' o (Nat.lt_of_lt_of_le hk h.size)).trans (h.block k hk hg hp)
/-- A writer by value: a struct of one pointer. -/
abbrev wrV (g : Nat) : Value := .agg #[.pointer (some ⟨g, 0, none⟩)]

set_option maxHeartbeats 1600000 in
theorem fput_any (g v m : Nat) (pv : Value) (bs : List UInt8) (L : List Nat) (w : World) (h : Wr w g pv bs L) (hb : L.length + m ≤ 1000000) (hm : m ≤ 24) (hv : v < 2 ^ m) :
    Calls Try.prog 79 #[wrV g, .int .i64 (v : Int), .int .i64 (m : Int)] w fun e w' => e = .returned (.tuple #[]) ∧ ∃ pv' bs', Wr w' g pv' bs' (L ++ lsb v m) ∧ WrFr w w' g pv pv' := by
  have HP := Lib.hid (fun o => put_any g v m pv bs L (w.alloc o) (h.alloc o) hb hm hv)
  have hv24 : v < 16777216 := Nat.lt_of_lt_of_le hv (Nat.pow_le_pow_right (by decide) hm)
  have hvm : (v : Int) % 4294967296 = (v : Int) := Int.emod_eq_of_lt (by omega) (by omega)
  clear h hv
  go_enter Try.func79, Try.ntmps79
  go_wp2_with (go_at_call 98; (with_reducible refine (HP.out _).mono ?_); go_must (rintro e w1 ⟨rfl, pv1, bs1, hw1, hf1⟩; have HW1 := Lib.hid hw1; have HF1 := Lib.hid hf1.alloc0; clear hw1 hf1))
  (try simp only [Exit.inBlock, Exit.then])
  first | (refine bodyPost_ret (results_none rfl _ _ _) rfl ?_) | (refine bodyPost_end (results_none rfl _ _ _) rfl ?_)
  exact ⟨rfl, pv1, bs1, HW1.out, HF1.out⟩
set_option maxHeartbeats 1600000 in
theorem fcode_any (g v m : Nat) (pv : Value) (bs : List UInt8) (L : List Nat) (w : World) (h : Wr w g pv bs L) (hb : L.length + m ≤ 1000000) (hm : m ≤ 24) (hv : v < 2 ^ m) :
    Calls Try.prog 81 #[wrV g, .agg #[.int .u32 (v : Int), .int .i64 (m : Int)]] w fun e w' => e = .returned (.tuple #[]) ∧ ∃ pv' bs', Wr w' g pv' bs' (L ++ msb v m m) ∧ WrFr w w' g pv pv' := by
  have HP := Lib.hid (fun o p => code_any g v m pv bs L ((w.alloc o).alloc p) ((h.alloc o).alloc p) hb hm hv)
  clear h hv
  go_enter Try.func81, Try.ntmps81
  go_wp2_with (go_at_call 100; (with_reducible refine (HP.out _ _).mono ?_); go_must (rintro e w1 ⟨rfl, pv1, bs1, hw1, hf1⟩; have HW1 := Lib.hid hw1; have HF1 := Lib.hid (hf1.alloc0).alloc0; clear hw1 hf1))
  (try simp only [Exit.inBlock, Exit.then])
  first | (refine bodyPost_ret (results_none rfl _ _ _) rfl ?_) | (refine bodyPost_end (results_none rfl _ _ _) rfl ?_)
  exact ⟨rfl, pv1, bs1, HW1.out, HF1.out⟩
/-- put, its numbers as they stand in the code. -/
theorem fput_lit (g : Nat) (V M : Int) (v m : Nat) (hV : V = (v : Int)) (hM : M = (m : Int)) (pv : Value) (bs : List UInt8) (L : List Nat) (w : World) (h : Wr w g pv bs L) (hb : L.length + m ≤ 1000000) (hm : m ≤ 24) (hv : v < 2 ^ m) :
    Calls Try.prog 79 #[wrV g, .int .i64 V, .int .i64 M] w fun e w' => e = .returned (.tuple #[]) ∧ ∃ pv' bs', Wr w' g pv' bs' (L ++ lsb v m) ∧ WrFr w w' g pv pv' := by
  subst hV hM
  exact fput_any g v m pv bs L w h hb hm hv
end Go.Proofs.Yteoolehdomjkkaa
