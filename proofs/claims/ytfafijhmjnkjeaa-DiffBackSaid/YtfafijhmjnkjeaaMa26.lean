/- Merged: In1, In2, In3. -/
import Derived.Test.YtfafijhmjnkjeaaMa17
/- flate: a reader of blocks: bits got, bytes given out. -/
namespace Go.Proofs.Ytfafijhmjnkjeaa
set_option linter.all false
open Go.RowKit

/-- A reader of blocks: how far it has come, what came out, its error. -/
structure FR (w : World) (r g : Nat) (A : Option Addr) (n c P : Nat) (bs : List UInt8) (vo : Value) (out : List UInt8) (most e : Int) : Prop where
  arr : Arr w r [.pointer (some ⟨g, 0, none⟩), vo, .int .i64 most, .int .i64 e]
  rd : Arr w g (rdr A n c P)
  rb : RdB w g A n bs
  own : ownB w (r + 1) vo out
  gr : g < r
  fit : P ≤ 8 * n
  big : n ≤ 1000000
/-- What a reader changes: two blocks, its row, new blocks. -/
structure RFr (w w' : World) (r g : Nat) (pv pv' : Value) : Prop where
  os : w'.os = w.os
  tape : w'.tape = w.tape
  output : w'.output = w.output
  size : w.heap.size ≤ w'.heap.size
  block : ∀ k, k < w.heap.size → k ≠ r → k ≠ g → pv.ownBlock ≠ some k → w'.heap[k]? = w.heap[k]?
  own : pv'.ownBlock = pv.ownBlock ∨ ∃ k, w.heap.size ≤ k ∧ pv'.ownBlock = some k
section
variable {w w' w'' : World} {r g : Nat} {pv pv' pv'' : Value}
theorem RFr.refl (w : World) (r g : Nat) (pv : Value) : RFr w w r g pv pv := ⟨rfl, rfl, rfl, Nat.le_refl _, fun _ _ _ _ _ => rfl, .inl rfl⟩
theorem RFr.trans (h : RFr w w' r g pv pv') (k : RFr w' w'' r g pv' pv'') : RFr w w'' r g pv pv'' := by
  refine ⟨k.os.trans h.os, k.tape.trans h.tape, k.output.trans h.output, Nat.le_trans h.size k.size, fun i hi hr hg hp => ?_, ?_⟩
  · refine (k.block i (Nat.lt_of_lt_of_le hi h.size) hr hg ?_).trans (h.block i hi hr hg hp)
    rcases h.own with e | ⟨j, hj, e⟩
    · rw [e]; exact hp
    · rw [e]; intro e2; injection e2 with e2; omega
  · rcases k.own with e | ⟨j, hj, e⟩
    · rcases h.own with e2 | ⟨j, hj, e2⟩
      · exact .inl (e.trans e2)
      · exact .inr ⟨j, hj, e.trans e2⟩
    · exact .inr ⟨j, Nat.le_trans h.size hj, e⟩
theorem RFr.ofG (h : w.grownBy w' (some g)) (r : Nat) (pv : Value) : RFr w w' r g pv pv :=
  ⟨h.os, h.tape, h.output, h.size, fun k hk _ hg _ => h.block k hk (fun e => by injection e with e; exact hg e), .inl rfl⟩
theorem RFr.ofB (h : Below w.heap.size w w') (r g : Nat) (pv : Value) : RFr w w' r g pv pv := ⟨h.os, h.tape, h.output, h.size, fun k hk _ _ _ => h.block k hk, .inl rfl⟩
theorem RFr.drewN (h : RFr w w' r g pv pv') (q : Nat) : RFr w (w'.drewN q) r g pv pv' := ⟨h.os, h.tape, h.output, h.size, h.block, h.own⟩
theorem RFr.below {B : Nat} (h : RFr w w' r g pv pv') (hB : B ≤ w.heap.size) (hr : B ≤ r) (hg : B ≤ g) (hp : ∀ k, pv.ownBlock = some k → B ≤ k) : Below B w w' :=
  ⟨h.os, h.tape, h.output, h.size, fun k hk => h.block k (by omega) (by omega) (by omega) (fun e => by have := hp k e; omega)⟩
end
theorem FR.drewN {w : World} {r g : Nat} {A : Option Addr} {n c P : Nat} {bs : List UInt8} {vo : Value} {out : List UInt8} {most e : Int} (h : FR w r g A n c P bs vo out most e) (q : Nat) : FR (w.drewN q) r g A n c P bs vo out most e :=
  ⟨h.arr.drewN q, h.rd.drewN q, h.rb.blw ((bdrewN (Below.refl g w) q)), h.own.drewN q, h.gr, h.fit, h.big⟩
/-- The bits' reader has moved. -/
theorem FR.moved {w w' : World} {r g : Nat} {A : Option Addr} {n c P P' : Nat} {bs : List UInt8} {vo : Value} {out : List UInt8} {most e : Int} (h : FR w r g A n c P bs vo out most e) (hA : Arr w' g (rdr A n c P')) (hg : w.grownBy w' (some g)) (hf : P' ≤ 8 * n) : FR w' r g A n c P' bs vo out most e := by
  have hgr := h.gr
  refine ⟨h.arr.gro hg (by omega), hA, h.rb.blw (below_gb hg (Nat.le_of_lt h.rd.lt) (Nat.le_refl _)), World.ownsRow.kept h.own hg ?_, hgr, hf, h.big⟩
  cases e : vo.ownBlock with
  | none => exact .inl rfl
  | some k => exact .inr (fun e2 => by injection e2 with e2; have := (World.ownsRow.lt h.own k e).1; omega)
set_option maxHeartbeats 1600000 in
theorem rget_ok (r g n c P m : Nat) (A : Option Addr) (bs : List UInt8) (vo : Value) (out : List UInt8) (most : Int) (M : Int) (hM : M = (m : Int)) (w : World) (h : FR w r g A n c P bs vo out most 0) (hm : m ≤ 24) (hfit : P + m ≤ 8 * n) :
    Calls Try.prog 26 #[.pointer (some ⟨r, 0, none⟩), .int .i64 M] w fun e w' => e = .returned (.int .i64 ((getV bs P m : Nat) : Int)) ∧ FR w' r g A n c (P + m) bs vo out most 0 ∧ RFr w w' r g vo vo := by
  subst hM
  have H := Lib.hid h
  have HG := Lib.hid (get_any g g n c P m A bs w h.rd h.rb (Nat.le_refl _) (by have := h.big; omega) h.fit hm hfit)
  have c0 := h.arr.cell (k := 0) rfl
  have c3 := h.arr.cell (k := 3) rfl
  have hv := getV_lt bs P m
  have hv2 : getV bs P m < 16777216 := Nat.lt_of_lt_of_le hv (Nat.pow_le_pow_right (by decide) hm)
  clear h hv
  generalize getV bs P m = v at *
  go_enter Try.func26, Try.ntmps26
  go_wp2_with (go_at_call 56; (with_reducible refine HG.out.mono ?_); go_must (rintro e w1 ⟨rfl, ha1, hg1⟩; have HA1 := Lib.hid ha1; have HG1 := Lib.hid hg1; clear ha1 hg1))
  go_ret
  exact ⟨rfl, H.out.moved HA1.out HG1.out hfit, RFr.ofG HG1.out r vo⟩
theorem alignR_any (g n c P : Nat) (A : Option Addr) (w : World) (h : Arr w g (rdr A n c P)) (hP : P ≤ 8000000) :
    Calls Try.prog 57 #[.pointer (some ⟨g, 0, none⟩)] w fun e w' => e = .returned (.tuple #[]) ∧ Arr w' g (rdr A n c (8 * ((P + 7) / 8))) ∧ w.grownBy w' (some g) := by
  have c1 := h.cell (k := 1) rfl
  have f1 := h.frozen 1
  obtain ⟨Q, hQ⟩ : ∃ Q, (P + 7) / 8 = Q := ⟨_, rfl⟩
  rw [hQ]
  have e1 : ((P : Int) + 7).tdiv 8 = (Q : Int) := by rw [show (P : Int) + 7 = ((P + 7 : Nat) : Int) by omega, ← hQ]; rfl
  have e4 : ((P : Int) + 7) / 8 = (Q : Int) := by omega
  have e2 : (Q : Int) * 8 = ((8 * Q : Nat) : Int) := by omega
  have HA := Lib.hid (h.set 1 (.int .i64 ((8 * Q : Nat) : Int)))
  have HG := Lib.hid (gb_set (o := 1) (gb_refl w (some g)) (.int .i64 ((8 * Q : Nat) : Int)))
  have e3 : wrap64 ((Q : Int) * 8) = (Q : Int) * 8 := wrap64_id _ (by omega) (by omega)
  have hq8 : 8 * Q ≤ 8000008 := by omega
  clear h
  go_enter Try.func57, Try.ntmps57
  go_wp2_with fail
  (try simp only [Exit.inBlock, Exit.then])
  first | (refine bodyPost_ret (results_none rfl _ _ _) rfl ?_) | (refine bodyPost_end (results_none rfl _ _ _) rfl ?_)
  exact ⟨rfl, HA.out, HG.out⟩
end Go.Proofs.Ytfafijhmjnkjeaa

/- flate: a reader of blocks: a byte given out, a stored block. -/
namespace Go.Proofs.Ytfafijhmjnkjeaa
set_option linter.all false
open Go.RowKit

theorem RFr.set1 {w w' : World} {r g : Nat} {pv pv' : Value} (h : RFr w w' r g pv pv') (i : Nat) (v : Value) : RFr w (w'.setCell ⟨r, i, none⟩ v) r g pv pv' :=
  ⟨h.os, h.tape, h.output, by simp; exact h.size, fun k hk hr hg hp => (Below.heap_setCell _ _ _ _ (fun e => hr e)).trans (h.block k hk hr hg hp), h.own⟩
theorem RFr.grown {w w' : World} {r g : Nat} {pv pv2 : Value} (o : Obj) (h : (w.alloc o).grownBy w' pv.ownBlock) (hat : pv2.ownBlock = pv.ownBlock ∨ pv2.ownBlock = some (w.alloc o).heap.size) : RFr w w' r g pv pv2 := by
  refine ⟨h.os, h.tape, h.output, Nat.le_trans (by simp) h.size, fun k hk _ _ hp => ?_, ?_⟩
  · exact (h.block k (by simp; omega) (fun e => hp e.symm)).trans (heap_alloc_old w o hk)
  · rcases hat with e | e
    · exact .inl e
    · exact .inr ⟨_, by simp, e⟩
theorem RFr.drew0 {w w' : World} {r g q : Nat} {pv pv' : Value} (h : RFr (w.drewN q) w' r g pv pv') : RFr w w' r g pv pv' := ⟨h.os, h.tape, h.output, h.size, h.block, h.own⟩
set_option maxRecDepth 100000 in
set_option maxHeartbeats 1600000 in
theorem gives_ok (r g n c P : Nat) (A : Option Addr) (bs : List UInt8) (vo : Value) (out : List UInt8) (most : Int) (x : UInt8) (w : World) (h : FR w r g A n c P bs vo out most 0) (hfit : (out.length : Int) < most) (hm : most ≤ 1000000) :
    Calls Try.prog 58 #[.pointer (some ⟨r, 0, none⟩), .int .u8 (x.toNat : Int)] w fun e w' => e = .returned (.tuple #[]) ∧ ∃ vo', FR w' r g A n c P bs vo' (out ++ [x]) most 0 ∧ RFr w w' r g vo vo' := by
  obtain ⟨Ap, cp, rfl, -, -, -⟩ := h.own.form
  have H := Lib.hid h
  have HD := Lib.hid (fun q => h.drewN q)
  have c1 := h.arr.cell (k := 1) rfl
  have c2 := h.arr.cell (k := 2) rfl
  have hlt : decide ((out.length : Int) ≥ most) = false := decide_eq_false (by omega)
  have hlt2 : ¬ most ≤ (out.length : Int) := by omega
  have hrw := h.arr.lt
  clear h
  go_enter Try.func58, Try.ntmps58
  go_wp2_with fail
  go_quiet (fail)
  go_wp2_with (at_builtin; go_must (refine wpList_appendB rfl (.tmp 20) (.tmp 22) rfl (r + 1) _ out rfl (ownB.alloc (HD.out nq).own _) ((w.drewN nq).heap.size + 1) 1 1 (some ⟨(w.drewN nq).heap.size, 0, none⟩) [x] rfl (rd_one (w.drewN nq) (x.toNat : Int) x rfl) (by omega) (by rw [World.size_alloc]; show r + 1 ≤ w.heap.size + 1; omega) ?_; intro v1 w3 hown hgb hbl hat; obtain ⟨A3, c3, rfl, hr3, -, -⟩ := hown.form; clear hr3; have HF3 := Lib.hid (show RFr w w3 r g (.slice Ap out.length cp) (.slice A3 (out ++ [x]).length c3) from RFr.drew0 (RFr.grown (r := r) (g := g) _ hgb hat)); rw [show (out ++ [x]).length = out.length + 1 by simp] at hown HF3 ⊢; have HA3 := Lib.hid (((HD.out nq).arr.alloc (.cells #[Value.int .u8 (x.toNat : Int)] 5)).blw hbl (Nat.lt_succ_self r)); have HG3 := Lib.hid (((HD.out nq).rd.alloc (.cells #[Value.int .u8 (x.toNat : Int)] 5)).blw hbl (by have := H.out.gr; omega)); have HB3 := Lib.hid (RdB.blw (Rd.alloc (HD.out nq).rb (by show g ≤ w.heap.size; have := H.out.gr; omega) (.cells #[Value.int .u8 (x.toNat : Int)] 5)) (hbl.mono (by have := H.out.gr; omega))); have HO3 := Lib.hid hown; have c31 := HA3.out.cell (k := 1) rfl; have f31 := HA3.out.frozen 1; clear hown hbl hat hgb))
  (try simp only [Exit.inBlock, Exit.then])
  first | (refine bodyPost_ret (results_none rfl _ _ _) rfl ?_) | (refine bodyPost_end (results_none rfl _ _ _) rfl ?_)
  refine ⟨rfl, _, ⟨HA3.out.set 1 _, HG3.out.far (p := ⟨r, 1, none⟩) (by show r ≠ g; have := H.out.gr; omega) _, HB3.out.blw ((Below.refl g w3).setCell (p := ⟨r, 1, none⟩) (by show g ≤ r; have := H.out.gr; omega) _), ownB.far HO3.out (g := r) (ownB_ne HO3.out (Nat.lt_succ_self r)) 1 _, H.out.gr, H.out.fit, H.out.big⟩, HF3.out.set1 1 _⟩
end Go.Proofs.Ytfafijhmjnkjeaa

/- flate: a reader of blocks: a stored block. -/
namespace Go.Proofs.Ytfafijhmjnkjeaa
set_option linter.all false
open Go.RowKit

theorem bits8 (x : Nat) (h : x < 256) : x / 2 ^ 0 % 2 * 2 ^ 0 + x / 2 ^ 1 % 2 * 2 ^ 1 + x / 2 ^ 2 % 2 * 2 ^ 2 + x / 2 ^ 3 % 2 * 2 ^ 3 + x / 2 ^ 4 % 2 * 2 ^ 4 + x / 2 ^ 5 % 2 * 2 ^ 5 + x / 2 ^ 6 % 2 * 2 ^ 6 + x / 2 ^ 7 % 2 * 2 ^ 7 = x := by
  simp only [Nat.reducePow]
  omega
theorem getV_byte (bs : List UInt8) (p : Nat) : getV bs (8 * p) 8 = (bs.getD p 0).toNat := by
  have key : ∀ t, t < 8 → bitAt bs (8 * p + t) = (bs.getD p 0).toNat / 2 ^ t % 2 := fun t ht => by
    unfold bitAt
    rw [show (8 * p + t) / 8 = p by omega, show (8 * p + t) % 8 = t by omega]
  have h := (bs.getD p 0).toNat_lt
  simp only [getV]
  rw [key 0 (by omega), key 1 (by omega), key 2 (by omega), key 3 (by omega), key 4 (by omega), key 5 (by omega), key 6 (by omega), key 7 (by omega), Nat.zero_add]
  exact bits8 _ h
theorem getV_add (bs : List UInt8) (P a : Nat) : ∀ b, getV bs P (a + b) = getV bs P a + getV bs (P + a) b * 2 ^ a
  | 0 => by simp [getV]
  | b + 1 => by
    rw [← Nat.add_assoc, getV, getV_add bs P a b, getV, Nat.add_mul, Nat.add_assoc, Nat.add_assoc P a b, Nat.mul_assoc, ← Nat.pow_add, Nat.add_comm b a]
theorem getV_two (bs : List UInt8) (p : Nat) : getV bs (8 * p) 16 = (bs.getD p 0).toNat + (bs.getD (p + 1) 0).toNat * 256 := by
  rw [show (16 : Nat) = 8 + 8 from rfl, getV_add, getV_byte, show 8 * p + 8 = 8 * (p + 1) by omega, getV_byte]
/-- What a stored block holds. -/
def stB (bs : List UInt8) (Q k : Nat) : List UInt8 := (bs.drop (Q / 8 + 4)).take k
theorem stB_len {bs : List UInt8} {Q k : Nat} (h : Q / 8 + 4 + k ≤ bs.length) : (stB bs Q k).length = k := by
  unfold stB
  rw [List.length_take, List.length_drop]
  omega
theorem stB_get {bs : List UInt8} {Q k i : Nat} (hi : i < k) (h : Q / 8 + 4 + k ≤ bs.length) : ∃ x, (stB bs Q k)[i]? = some x ∧ getV bs (8 * (Q / 8 + 4 + i)) 8 = x.toNat := by
  have hl : Q / 8 + 4 + i < bs.length := by omega
  refine ⟨bs[Q / 8 + 4 + i], ?_, ?_⟩
  · unfold stB
    rw [List.getElem?_take, if_pos hi, List.getElem?_drop, List.getElem?_eq_getElem hl]
  · rw [getV_byte, List.getD_eq_getElem?_getD, List.getElem?_eq_getElem hl]
    rfl
theorem take_snoc1 {α : Type} {l : List α} {k : Nat} {x : α} (h : l[k]? = some x) : l.take (k + 1) = l.take k ++ [x] := by
  obtain ⟨hk, hx⟩ := List.getElem?_eq_some_iff.1 h
  rw [List.take_succ_eq_append_getElem hk, hx]
set_option maxRecDepth 100000 in
set_option maxHeartbeats 3200000 in
theorem rplain_ok (r g n c P k Q : Nat) (A : Option Addr) (bs : List UInt8) (vo : Value) (out : List UInt8) (most : Int) (w : World) (h : FR w r g A n c P bs vo out most 0) (hQ : 8 * ((P + 7) / 8) = Q)
    (h1 : Q + 32 ≤ 8 * n) (hk : getV bs Q 16 = k) (hk2 : getV bs (Q + 16) 16 = 65535 - k) (hfit : Q + 32 + 8 * k ≤ 8 * n) (hmost : ((out.length + k : Nat) : Int) ≤ most) (hm : most ≤ 1000000) :
    Calls Try.prog 27 #[.pointer (some ⟨r, 0, none⟩)] w fun e w' => e = .returned (.tuple #[]) ∧ ∃ vo', FR w' r g A n c (Q + 32 + 8 * k) bs vo' (out ++ stB bs Q k) most 0 ∧ RFr w w' r g vo vo' := by
  have H := Lib.hid h
  have hbl : bs.length = n := h.rb.len
  have hk16 : k < 65536 := by have := getV_lt bs Q 16; rw [hk] at this; exact this
  have HAL := Lib.hid (alignR_any g n c P A w h.rd (by have := h.fit; have := h.big; omega))
  rw [hQ] at HAL
  have hQd : Q = 8 * (Q / 8) := by omega
  have c0 := h.arr.cell (k := 0) rfl
  have HSL := Lib.hid (stB_len (bs := bs) (Q := Q) (k := k) (by omega))
  have HSG := Lib.hid (fun i (hi : i < k) => stB_get (bs := bs) (Q := Q) hi (by omega))
  have HK := Lib.hid hk
  have HK2 := Lib.hid hk2
  have HO0 : Hid (out ++ (stB bs Q k).take 0 = out) := (show _ = _ by simp)
  have hsum : (k : Int) + ((65535 - k : Nat) : Int) = 65535 := by omega
  have hQ7 : Q / 8 + 4 = Q / 8 + 4 := rfl
  clear h hk hk2 hQ hbl hQ7
  generalize stB bs Q k = D at *
  go_enter Try.func27, Try.ntmps27
  go_wp2_with (first
    | (go_at_call 57; (with_reducible refine HAL.out.mono ?_); go_must (rintro e w1 ⟨rfl, ha1, hg1⟩; have hf1 := H.out.moved ha1 hg1 (by omega); have HF1 := Lib.hid (RFr.ofG hg1 r vo); have HG1 := Lib.hid (rget_ok r g n c Q 16 A bs vo out most 16 rfl w1 hf1 (by decide) (by omega)); rw [HK.out] at HG1; clear ha1 hg1 hf1))
    | (go_at_call 26; (with_reducible refine HG1.out.mono ?_); go_must (rintro e w2 ⟨rfl, hf2, hr2⟩; have HF2 := Lib.hid (HF1.out.trans hr2); have HG2 := Lib.hid (rget_ok r g n c (Q + 16) 16 A bs vo out most 16 rfl w2 hf2 (by decide) (by omega)); rw [HK2.out] at HG2; clear hf2 hr2 HG1 HF1))
    | (go_at_call 26; (with_reducible refine HG2.out.mono ?_); go_must (rintro e w3 ⟨rfl, hf3, hr3⟩; have HF3 := Lib.hid (HF2.out.trans hr3); have HFR3 : Hid (FR w3 r g A n c (Q + 32 + 8 * 0) bs vo (out ++ D.take 0) most 0) := (show FR _ _ _ _ _ _ _ _ _ _ _ _ from by rw [HO0.out]; exact hf3); have c33 := hf3.arr.cell (k := 3) rfl; clear hf3 hr3 HG2 HF2)))
  go_loopw [4] (fun vi wr => ∃ i : Nat, i ≤ k ∧ vi = .int .i64 i ∧ ∃ vq, Hid (FR wr r g A n c (Q + 32 + 8 * i) bs vq (out ++ D.take i) most 0) ∧ Hid (RFr w wr r g vo vq)) (fun vi _ => k - (intOf vi).toNat)
  case atStart => exact ⟨0, Nat.zero_le _, rfl, vo, HFR3, HF3⟩
  case round =>
    clear HFR3 HF3
    obtain ⟨i, hi, rfl, vq, HFR, HF⟩ := hrel
    have c3 := HFR.out.arr.cell (k := 3) rfl
    by_cases hlt : i < k
    · have hlti : (i : Int) < (k : Int) := by omega
      obtain ⟨x, hx, hgx⟩ := HSG.out i hlt
      have HG := Lib.hid (rget_ok r g n c (Q + 32 + 8 * i) 8 A bs vq (out ++ D.take i) most 8 rfl wr HFR.out (by decide) (by omega))
      rw [show Q + 32 + 8 * i = 8 * (Q / 8 + 4 + i) by omega, hgx, show 8 * (Q / 8 + 4 + i) + 8 = Q + 32 + 8 * (i + 1) by omega] at HG
      have HST : Hid (out ++ D.take i ++ [x] = out ++ D.take (i + 1)) := (show _ = _ by rw [take_snoc1 hx, List.append_assoc])
      have hol : ((out ++ D.take i).length : Int) < most := by rw [List.length_append, List.length_take]; omega
      have HGV := Lib.hid (fun (w' : World) (h : FR w' r g A n c (Q + 32 + 8 * (i + 1)) bs vq (out ++ D.take i) most 0) => gives_ok r g n c _ A bs vq _ most x w' h hol hm)
      rw [HST.out] at HGV
      have hx8 := x.toNat_lt
      have hx9 : (x.toNat : Int) % 256 = (x.toNat : Int) := Int.emod_eq_of_lt (by omega) (by omega)
      clear HFR hx hgx hol HST
      go_wp2_with (first
        | (go_at_call 26; (with_reducible refine HG.out.mono ?_); go_must (rintro e w5 ⟨rfl, hf5, hr5⟩; have HF5 := Lib.hid (HF.out.trans hr5); have HGV5 := Lib.hid (HGV.out _ hf5); have c53 := hf5.arr.cell (k := 3) rfl; clear hf5 hr5))
        | (go_at_call 58; (with_reducible refine HGV5.out.mono ?_); go_must (rintro e w6 ⟨rfl, v6, hf6, hr6⟩; have HF6 := Lib.hid (HF5.out.trans hr6); have HFR6 := Lib.hid hf6; clear hf6 hr6)))
      go_roundw
      case rel => exact ⟨i + 1, by omega, by go_num, v6, HFR6, HF6⟩
      case measure => simp [intOf]; omega
    · obtain rfl : i = k := by omega
      rw [show D.take i = D from List.take_of_length_le (by have := HSL.out; omega)] at HFR
      go_wp2_with fail
      (try simp only [Exit.inBlock, Exit.then])
      first | (refine bodyPost_ret (results_none rfl _ _ _) rfl ?_) | (refine bodyPost_end (results_none rfl _ _ _) rfl ?_)
      exact ⟨rfl, vq, HFR.out, HF.out⟩
end Go.Proofs.Ytfafijhmjnkjeaa
