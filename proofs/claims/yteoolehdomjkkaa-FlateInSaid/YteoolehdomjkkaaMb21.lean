/- Merged: In2, In3, In4, First7. -/
import Derived.Test.YteoolehdomjkkaaMb20
/- flate: a reader of blocks: a byte given out, a stored block. -/
namespace Go.Proofs.Yteoolehdomjkkaa
set_option linter.all false
open Go.RowKit

theorem RFr.set1 {w w' : World} {r g : Nat} {pv pv' : Value} (h : RFr w w' r g pv pv') (i : Nat) (v : Value) : RFr w (w'.setCell ⟨r, i, none⟩ v) r g pv pv' :=
  ⟨h.os, h.tape, h.output, by simp; exact h.size, fun k hk hr hg hp => (Below.heap_setCell _ _ _ _ (fun e => hr e)).trans (h.block k hk hr hg hp), h.own⟩
theorem RFr.grown {w w' : World} {r g : Nat} {pv pv2 : Value} (o : Obj) (h : (w.alloc o).grownBy w' pv.ownBlock) (hat : pv2.ownBlock = pv.ownBlock ∨ pv2.ownBlock = some (w.alloc o).heap.size) : RFr w w' r g pv pv2 := by
  refine ⟨h.os, h.tape, h.output, Nat.le_trans (by simp) h.size, fun k hk _ _ hp => ?_, ?_⟩
  · exact (h.block k (by simp; omega) (fun e => hp e.symm)).trans (heap_alloc_old w o hk)
  · rcases hat with e | e
    · exact .inl e
    · exact .inr ⟨_, by simp, e⟩
theorem RFr.drew0 {w w' : World} {r g q : Nat} {pv pv' : Value} (h : RFr (w.drewN q) w' r g pv pv') : RFr w w' r g pv pv' := ⟨h.os, h.tape, h.output, h.size, h.block, h.own⟩
set_option maxRecDepth 100000 in
set_option maxHeartbeats 1600000 in
theorem gives_ok (r g n c P : Nat) (A : Option Addr) (bs : List UInt8) (vo : Value) (out : List UInt8) (most : Int) (x : UInt8) (w : World) (h : FR w r g A n c P bs vo out most 0) (hfit : (out.length : Int) < most) (hm : most ≤ 1000000) :
    Calls Try.prog 58 #[.pointer (some ⟨r, 0, none⟩), .int .u8 (x.toNat : Int)] w fun e w' => e = .returned (.tuple #[]) ∧ ∃ vo', FR w' r g A n c P bs vo' (out ++ [x]) most 0 ∧ RFr w w' r g vo vo' := by
  obtain ⟨Ap, cp, rfl, -, -, -⟩ := h.own.form
  have H := Lib.hid h
  have HD := Lib.hid (fun q => h.drewN q)
  have c1 := h.arr.cell (k := 1) rfl
  have c2 := h.arr.cell (k := 2) rfl
  have hlt : decide ((out.length : Int) ≥ most) = false := decide_eq_false (by omega)
  have hlt2 : ¬ most ≤ (out.length : Int) := by omega
  have hrw := h.arr.lt
  clear h
  go_enter Try.func58, Try.ntmps58
  go_wp2_with fail
  go_quiet (fail)
  go_wp2_with (at_builtin; go_must (refine wpList_appendB rfl (.tmp 20) (.tmp 22) rfl (r + 1) _ out rfl (ownB.alloc (HD.out nq).own _) ((w.drewN nq).heap.size + 1) 1 1 (some ⟨(w.drewN nq).heap.size, 0, none⟩) [x] rfl (rd_one (w.drewN nq) (x.toNat : Int) x rfl) (by omega) (by rw [World.size_alloc]; show r + 1 ≤ w.heap.size + 1; omega) ?_; intro v1 w3 hown hgb hbl hat; obtain ⟨A3, c3, rfl, hr3, -, -⟩ := hown.form; clear hr3; have HF3 := Lib.hid (show RFr w w3 r g (.slice Ap out.length cp) (.slice A3 (out ++ [x]).length c3) from RFr.drew0 (RFr.grown (r := r) (g := g) _ hgb hat)); rw [show (out ++ [x]).length = out.length + 1 by simp] at hown HF3 ⊢; have HA3 := Lib.hid (((HD.out nq).arr.alloc (.cells #[Value.int .u8 (x.toNat : Int)] 5)).blw hbl (Nat.lt_succ_self r)); have HG3 := Lib.hid (((HD.out nq).rd.alloc (.cells #[Value.int .u8 (x.toNat : Int)] 5)).blw hbl (by have := H.out.gr; omega)); have HB3 := Lib.hid (RdB.blw (Rd.alloc (HD.out nq).rb (by show g ≤ w.heap.size; have := H.out.gr; omega) (.cells #[Value.int .u8 (x.toNat : Int)] 5)) (hbl.mono (by have := H.out.gr; omega))); have HO3 := Lib.hid hown; have c31 := HA3.out.cell (k := 1) rfl; have f31 := HA3.out.frozen 1; clear hown hbl hat hgb))
  (try simp only [Exit.inBlock, Exit.then])
  first | (refine bodyPost_ret (results_none rfl _ _ _) rfl ?_) | (refine bodyPost_end (results_none rfl _ _ _) rfl ?_)
  refine ⟨rfl, _, ⟨HA3.out.set 1 _, HG3.out.far (p := ⟨r, 1, none⟩) (by show r ≠ g; have := H.out.gr; omega) _, HB3.out.blw ((Below.refl g w3).setCell (p := ⟨r, 1, none⟩) (by show g ≤ r; have := H.out.gr; omega) _), ownB.far HO3.out (g := r) (ownB_ne HO3.out (Nat.lt_succ_self r)) 1 _, H.out.gr, H.out.fit, H.out.big⟩, HF3.out.set1 1 _⟩
end Go.Proofs.Yteoolehdomjkkaa

/- flate: a reader of blocks: a stored block. -/
namespace Go.Proofs.Yteoolehdomjkkaa
set_option linter.all false
open Go.RowKit

theorem bits8 (x : Nat) (h : x < 256) : x / 2 ^ 0 % 2 * 2 ^ 0 + x / 2 ^ 1 % 2 * 2 ^ 1 + x / 2 ^ 2 % 2 * 2 ^ 2 + x / 2 ^ 3 % 2 * 2 ^ 3 + x / 2 ^ 4 % 2 * 2 ^ 4 + x / 2 ^ 5 % 2 * 2 ^ 5 + x / 2 ^ 6 % 2 * 2 ^ 6 + x / 2 ^ 7 % 2 * 2 ^ 7 = x := by
  simp only [Nat.reducePow]
  omega
theorem getV_byte (bs : List UInt8) (p : Nat) : getV bs (8 * p) 8 = (bs.getD p 0).toNat := by
  have key : ∀ t, t < 8 → bitAt bs (8 * p + t) = (bs.getD p 0).toNat / 2 ^ t % 2 := fun t ht => by
    unfold bitAt
    rw [show (8 * p + t) / 8 = p by omega, show (8 * p + t) % 8 = t by omega]
  have h := (bs.getD p 0).toNat_lt
  simp only [getV]
  rw [key 0 (by omega), key 1 (by omega), key 2 (by omega), key 3 (by omega), key 4 (by omega), key 5 (by omega), key 6 (by omega), key 7 (by omega), Nat.zero_add]
  exact bits8 _ h
theorem getV_add (bs : List UInt8) (P a : Nat) : ∀ b, getV bs P (a + b) = getV bs P a + getV bs (P + a) b * 2 ^ a
  | 0 => by simp [getV]
  | b + 1 => by
    rw [← Nat.add_assoc, getV, getV_add bs P a b, getV, Nat.add_mul, Nat.add_assoc, Nat.add_assoc P a b, Nat.mul_assoc, ← Nat.pow_add, Nat.add_comm b a]
theorem getV_two (bs : List UInt8) (p : Nat) : getV bs (8 * p) 16 = (bs.getD p 0).toNat + (bs.getD (p + 1) 0).toNat * 256 := by
  rw [show (16 : Nat) = 8 + 8 from rfl, getV_add, getV_byte, show 8 * p + 8 = 8 * (p + 1) by omega, getV_byte]
/-- What a stored block holds. -/
def stB (bs : List UInt8) (Q k : Nat) : List UInt8 := (bs.drop (Q / 8 + 4)).take k
theorem stB_len {bs : List UInt8} {Q k : Nat} (h : Q / 8 + 4 + k ≤ bs.length) : (stB bs Q k).length = k := by
  unfold stB
  rw [List.length_take, List.length_drop]
  omega
theorem stB_get {bs : List UInt8} {Q k i : Nat} (hi : i < k) (h : Q / 8 + 4 + k ≤ bs.length) : ∃ x, (stB bs Q k)[i]? = some x ∧ getV bs (8 * (Q / 8 + 4 + i)) 8 = x.toNat := by
  have hl : Q / 8 + 4 + i < bs.length := by omega
  refine ⟨bs[Q / 8 + 4 + i], ?_, ?_⟩
  · unfold stB
    rw [List.getElem?_take, if_pos hi, List.getElem?_drop, List.getElem?_eq_getElem hl]
  · rw [getV_byte, List.getD_eq_getElem?_getD, List.getElem?_eq_getElem hl]
    rfl
theorem take_snoc1 {α : Type} {l : List α} {k : Nat} {x : α} (h : l[k]? = some x) : l.take (k + 1) = l.take k ++ [x] := by
  obtain ⟨hk, hx⟩ := List.getElem?_eq_some_iff.1 h
  rw [List.take_succ_eq_append_getElem hk, hx]
set_option maxRecDepth 100000 in
set_option maxHeartbeats 3200000 in
theorem rplain_ok (r g n c P k Q : Nat) (A : Option Addr) (bs : List UInt8) (vo : Value) (out : List UInt8) (most : Int) (w : World) (h : FR w r g A n c P bs vo out most 0) (hQ : 8 * ((P + 7) / 8) = Q)
    (h1 : Q + 32 ≤ 8 * n) (hk : getV bs Q 16 = k) (hk2 : getV bs (Q + 16) 16 = 65535 - k) (hfit : Q + 32 + 8 * k ≤ 8 * n) (hmost : ((out.length + k : Nat) : Int) ≤ most) (hm : most ≤ 1000000) :
    Calls Try.prog 27 #[.pointer (some ⟨r, 0, none⟩)] w fun e w' => e = .returned (.tuple #[]) ∧ ∃ vo', FR w' r g A n c (Q + 32 + 8 * k) bs vo' (out ++ stB bs Q k) most 0 ∧ RFr w w' r g vo vo' := by
  have H := Lib.hid h
  have hbl : bs.length = n := h.rb.len
  have hk16 : k < 65536 := by have := getV_lt bs Q 16; rw [hk] at this; exact this
  have HAL := Lib.hid (alignR_any g n c P A w h.rd (by have := h.fit; have := h.big; omega))
  rw [hQ] at HAL
  have hQd : Q = 8 * (Q / 8) := by omega
  have c0 := h.arr.cell (k := 0) rfl
  have HSL := Lib.hid (stB_len (bs := bs) (Q := Q) (k := k) (by omega))
  have HSG := Lib.hid (fun i (hi : i < k) => stB_get (bs := bs) (Q := Q) hi (by omega))
  have HK := Lib.hid hk
  have HK2 := Lib.hid hk2
  have HO0 : Hid (out ++ (stB bs Q k).take 0 = out) := (show _ = _ by simp)
  have hsum : (k : Int) + ((65535 - k : Nat) : Int) = 65535 := by omega
  have hQ7 : Q / 8 + 4 = Q / 8 + 4 := rfl
  clear h hk hk2 hQ hbl hQ7
  generalize stB bs Q k = D at *
  go_enter Try.func27, Try.ntmps27
  go_wp2_with (first
    | (go_at_call 57; (with_reducible refine HAL.out.mono ?_); go_must (rintro e w1 ⟨rfl, ha1, hg1⟩; have hf1 := H.out.moved ha1 hg1 (by omega); have HF1 := Lib.hid (RFr.ofG hg1 r vo); have HG1 := Lib.hid (rget_ok r g n c Q 16 A bs vo out most 16 rfl w1 hf1 (by decide) (by omega)); rw [HK.out] at HG1; clear ha1 hg1 hf1))
    | (go_at_call 26; (with_reducible refine HG1.out.mono ?_); go_must (rintro e w2 ⟨rfl, hf2, hr2⟩; have HF2 := Lib.hid (HF1.out.trans hr2); have HG2 := Lib.hid (rget_ok r g n c (Q + 16) 16 A bs vo out most 16 rfl w2 hf2 (by decide) (by omega)); rw [HK2.out] at HG2; clear hf2 hr2 HG1 HF1))
    | (go_at_call 26; (with_reducible refine HG2.out.mono ?_); go_must (rintro e w3 ⟨rfl, hf3, hr3⟩; have HF3 := Lib.hid (HF2.out.trans hr3); have HFR3 : Hid (FR w3 r g A n c (Q + 32 + 8 * 0) bs vo (out ++ D.take 0) most 0) := (show FR _ _ _ _ _ _ _ _ _ _ _ _ from by rw [HO0.out]; exact hf3); have c33 := hf3.arr.cell (k := 3) rfl; clear hf3 hr3 HG2 HF2)))
  go_loopw [4] (fun vi wr => ∃ i : Nat, i ≤ k ∧ vi = .int .i64 i ∧ ∃ vq, Hid (FR wr r g A n c (Q + 32 + 8 * i) bs vq (out ++ D.take i) most 0) ∧ Hid (RFr w wr r g vo vq)) (fun vi _ => k - (intOf vi).toNat)
  case atStart => exact ⟨0, Nat.zero_le _, rfl, vo, HFR3, HF3⟩
  case round =>
    clear HFR3 HF3
    obtain ⟨i, hi, rfl, vq, HFR, HF⟩ := hrel
    have c3 := HFR.out.arr.cell (k := 3) rfl
    by_cases hlt : i < k
    · have hlti : (i : Int) < (k : Int) := by omega
      obtain ⟨x, hx, hgx⟩ := HSG.out i hlt
      have HG := Lib.hid (rget_ok r g n c (Q + 32 + 8 * i) 8 A bs vq (out ++ D.take i) most 8 rfl wr HFR.out (by decide) (by omega))
      rw [show Q + 32 + 8 * i = 8 * (Q / 8 + 4 + i) by omega, hgx, show 8 * (Q / 8 + 4 + i) + 8 = Q + 32 + 8 * (i + 1) by omega] at HG
      have HST : Hid (out ++ D.take i ++ [x] = out ++ D.take (i + 1)) := (show _ = _ by rw [take_snoc1 hx, List.append_assoc])
      have hol : ((out ++ D.take i).length : Int) < most := by rw [List.length_append, List.length_take]; omega
      have HGV := Lib.hid (fun (w' : World) (h : FR w' r g A n c (Q + 32 + 8 * (i + 1)) bs vq (out ++ D.take i) most 0) => gives_ok r g n c _ A bs vq _ most x w' h hol hm)
      rw [HST.out] at HGV
      have hx8 := x.toNat_lt
      have hx9 : (x.toNat : Int) % 256 = (x.toNat : Int) := Int.emod_eq_of_lt (by omega) (by omega)
      clear HFR hx hgx hol HST
      go_wp2_with (first
        | (go_at_call 26; (with_reducible refine HG.out.mono ?_); go_must (rintro e w5 ⟨rfl, hf5, hr5⟩; have HF5 := Lib.hid (HF.out.trans hr5); have HGV5 := Lib.hid (HGV.out _ hf5); have c53 := hf5.arr.cell (k := 3) rfl; clear hf5 hr5))
        | (go_at_call 58; (with_reducible refine HGV5.out.mono ?_); go_must (rintro e w6 ⟨rfl, v6, hf6, hr6⟩; have HF6 := Lib.hid (HF5.out.trans hr6); have HFR6 := Lib.hid hf6; clear hf6 hr6)))
      go_roundw
      case rel => exact ⟨i + 1, by omega, by go_num, v6, HFR6, HF6⟩
      case measure => simp [intOf]; omega
    · obtain rfl : i = k := by omega
      rw [show D.take i = D from List.take_of_length_le (by have := HSL.out; omega)] at HFR
      go_wp2_with fail
      (try simp only [Exit.inBlock, Exit.then])
      first | (refine bodyPost_ret (results_none rfl _ _ _) rfl ?_) | (refine bodyPost_end (results_none rfl _ _ _) rfl ?_)
      exact ⟨rfl, vq, HFR.out, HF.out⟩
end Go.Proofs.Yteoolehdomjkkaa

/- flate: Inflate, of blocks that are read to their ends. -/
namespace Go.Proofs.Yteoolehdomjkkaa
set_option linter.all false
open Go.RowKit

/-- A stored block that is read to its end. -/
def BlkS (bs : List UInt8) (n : Nat) (most : Int) (P : Nat) (out : List UInt8) (P' : Nat) (out' : List UInt8) : Prop :=
  ∃ k Q, 8 * ((P + 7) / 8) = Q ∧ Q + 32 ≤ 8 * n ∧ getV bs Q 16 = k ∧ getV bs (Q + 16) 16 = 65535 - k ∧ Q + 32 + 8 * k ≤ 8 * n ∧ ((out.length + k : Nat) : Int) ≤ most ∧ P' = Q + 32 + 8 * k ∧ out' = out ++ stB bs Q k
/-- What stands behind a block's first bits. -/
def Blk (bs : List UInt8) (n : Nat) (most : Int) (kind P : Nat) (out : List UInt8) (P' : Nat) (out' : List UInt8) : Prop := kind = 0 ∧ BlkS bs n most P out P' out'
/-- Blocks up to the last one. -/
inductive InfC (bs : List UInt8) (n : Nat) (most : Int) : Nat → List UInt8 → Nat → List UInt8 → Prop
  | stop {P : Nat} {out : List UInt8} {P' : Nat} {out' : List UInt8} (kind : Nat) (h : P + 3 ≤ 8 * n) (h1 : getV bs P 1 = 1) (h2 : getV bs (P + 1) 2 = kind) (hb : Blk bs n most kind (P + 3) out P' out') : InfC bs n most P out P' out'
  | more {P : Nat} {out : List UInt8} {P1 : Nat} {out1 : List UInt8} {P' : Nat} {out' : List UInt8} (kind : Nat) (h : P + 3 ≤ 8 * n) (h1 : getV bs P 1 = 0) (h2 : getV bs (P + 1) 2 = kind) (hb : Blk bs n most kind (P + 3) out P1 out1) (hr : InfC bs n most P1 out1 P' out') : InfC bs n most P out P' out'
theorem Blk.on {bs : List UInt8} {n : Nat} {most : Int} {kind P : Nat} {out : List UInt8} {P' : Nat} {out' : List UInt8} (h : Blk bs n most kind P out P' out') : P ≤ P' := by
  obtain ⟨_, k, Q, h1, _, _, _, _, _, h2, _⟩ := h
  omega
/-- The first block of blocks. -/
theorem InfC.first {bs : List UInt8} {n : Nat} {most : Int} {P : Nat} {out : List UInt8} {P' : Nat} {out' : List UInt8} (h : InfC bs n most P out P' out') :
    P + 3 ≤ 8 * n ∧ ∃ last kind P1 out1, (last = 0 ∨ last = 1) ∧ getV bs P 1 = last ∧ getV bs (P + 1) 2 = kind ∧ Blk bs n most kind (P + 3) out P1 out1 ∧ ((last = 1 ∧ P1 = P' ∧ out1 = out') ∨ (last = 0 ∧ InfC bs n most P1 out1 P' out')) := by
  cases h with
  | stop kind h h1 h2 hb => exact ⟨h, 1, kind, _, _, .inr rfl, h1, h2, hb, .inl ⟨rfl, rfl, rfl⟩⟩
  | more kind h h1 h2 hb hr => exact ⟨h, 0, kind, _, _, .inl rfl, h1, h2, hb, .inr ⟨rfl, hr⟩⟩
def posOf (w : World) (g : Nat) : Nat := match w.cell? ⟨g, 1, none⟩ with
  | some (.int _ P) => P.toNat
  | _ => 0
theorem posOf_eq {w : World} {g n c P : Nat} {A : Option Addr} (h : Arr w g (rdr A n c P)) : posOf w g = P := by
  unfold posOf
  rw [h.cell (k := 1) rfl]
  rfl
theorem blk_any (r g n c P kind P' : Nat) (A : Option Addr) (bs : List UInt8) (vo : Value) (out out' : List UInt8) (most : Int) (w : World) (h : FR w r g A n c P bs vo out most 0) (hb : BlkS bs n most P out P' out') (hm : most ≤ 1000000) :
    Calls Try.prog 27 #[.pointer (some ⟨r, 0, none⟩)] w fun e w' => e = .returned (.tuple #[]) ∧ ∃ vo', FR w' r g A n c P' bs vo' out' most 0 ∧ RFr w w' r g vo vo' := by
  obtain ⟨k, Q, hQ, h1, h2, h3, h4, h5, rfl, rfl⟩ := hb
  exact rplain_ok r g n c P k Q A bs vo out most w h hQ h1 h2 h3 h4 h5 hm
def lmeas (n g : Nat) (vi : Value) (w : World) : Nat := if intOf vi = 1 then 0 else 8 * n + 1 - posOf w g
theorem lmeas0 (n g : Nat) (w : World) : lmeas n g (.int .i64 ((0 : Nat) : Int)) w = 8 * n + 1 - posOf w g := if_neg (by decide)
theorem lmeas1 (n g : Nat) (w : World) : lmeas n g (.int .i64 ((1 : Nat) : Int)) w = 0 := if_pos (by decide)
theorem FR.fr {w w' : World} {r g : Nat} {A : Option Addr} {n c P : Nat} {bs : List UInt8} {vo vo' : Value} {out : List UInt8} {most e : Int} {B : Nat} (h : FR w r g A n c P bs vo out most e) (hf : RFr w w' r g vo vo') (hB : B ≤ g) : Below B w w' := by
  have h1 := h.gr
  have h2 := h.rd.lt
  exact hf.below (by omega) (by omega) hB (fun k hk => by have := (World.ownsRow.lt h.own k hk).1; omega)
set_option maxRecDepth 100000 in
set_option maxHeartbeats 3200000 in
theorem inflate_any (B n c Pz : Nat) (A : Option Addr) (bs outz : List UInt8) (most : Int) (w : World) (h : RdB w B A n bs) (hB : B ≤ w.heap.size) (hn : n ≤ 1000000) (h0 : 0 ≤ most) (hm : most ≤ 40000) (hc : InfC bs n most 0 [] Pz outz) :
    Calls Try.prog 9 #[.slice A n c, .int .i64 most] w fun e w' => ∃ vo, e = .returned (.tuple #[vo, .int .i64 (((Pz + 7) / 8 : Nat) : Int), .int .i64 0]) ∧ ownB w' w.heap.size vo outz ∧ Below w.heap.size w w' := by
  have HN := Lib.hid (newReader_any B n c A bs w h (by omega))
  have HC := Lib.hid hc
  have t1 : decide (most < 0) = false := decide_eq_false (by omega)
  have t2 : decide (most > 40000) = false := decide_eq_false (by omega)
  have t3 : ¬ most < 0 := by omega
  have t4 : ¬ 40000 < most := by omega
  clear h hc
  go_enter Try.func9, Try.ntmps9
  go_wp2_with (go_at_call 25; (with_reducible refine HN.out.mono ?_); go_must (rintro e w1 ⟨g, A1, c1, rfl, hg, hgw, ha1, hr1, hb1⟩; have HFR : Hid (FR (w1.alloc (.cells #[.pointer (some ⟨g, 0, none⟩), .slice none 0 0, .int .i64 most, .int .i64 0] 55)) w1.heap.size g A1 n c1 0 bs (.slice none 0 0) [] most 0) := (show FR _ _ _ _ _ _ _ _ _ _ _ _ from ⟨Arr.new w1 [.pointer (some ⟨g, 0, none⟩), .slice none 0 0, .int .i64 most, .int .i64 0] 55, ha1.alloc _, Rd.alloc hr1 (Nat.le_of_lt hgw) _, ownB.nil_ _ _, hgw, Nat.zero_le _, hn⟩); have HB1 := Lib.hid (hb1.alloc hb1.size (.cells #[.pointer (some ⟨g, 0, none⟩), .slice none 0 0, .int .i64 most, .int .i64 0] 55)); have hz1 := hb1.size; clear ha1 hr1 hb1))
  obtain ⟨r, hr⟩ : ∃ r, w1.heap.size = r := ⟨_, rfl⟩
  rw [hr] at HFR
  simp only [hr]
  have hgr : g < r := by omega
  have hwr : w.heap.size ≤ r := by omega
  have hr := Lib.hid hr
  clear hz1 hgw
  go_wp2_with fail
  have HB2 := Lib.hid (HB1.out)
  obtain ⟨w2, hw2⟩ : ∃ w2, w1.alloc (.cells #[.pointer (some ⟨g, 0, none⟩), .slice none 0 0, .int .i64 most, .int .i64 0] 55) = w2 := ⟨_, rfl⟩
  simp only [hw2]
  rw [hw2] at HB2 HFR
  clear hw2 HB1
  go_loopw [8] (fun vi wr => ∃ (last P : Nat) (vo : Value) (out : List UInt8), vi = .int .i64 last ∧ (last = 0 ∨ last = 1) ∧ Hid (FR wr r g A1 n c1 P bs vo out most 0) ∧ Hid (Below w.heap.size w wr) ∧ Hid ((last = 1 ∧ P = Pz ∧ out = outz) ∨ (last = 0 ∧ InfC bs n most P out Pz outz))) (fun vi wr => lmeas n g vi wr)
  case atStart => exact ⟨0, 0, .slice none 0 0, [], rfl, .inl rfl, HFR, HB2, (show _ ∨ _ from .inr ⟨rfl, HC.out⟩)⟩
  case round =>
    clear HFR HB2 HC
    obtain ⟨last, P, vo, out, rfl, hl, HFR, HB, HC⟩ := hrel
    have c3 := HFR.out.arr.cell (k := 3) rfl
    rcases hl with rfl | rfl
    · have HC2 : Hid (InfC bs n most P out Pz outz) := (show InfC _ _ _ _ _ _ _ from by rcases HC.out with ⟨h, _⟩ | ⟨_, h⟩; cases h; exact h)
      obtain ⟨h3, last, kind, P1, out1, hl, hv1, hv2, hb, hnx⟩ := HC2.out.first
      have hpm := posOf_eq HFR.out.rd
      have hon := hb.on
      have HNX := Lib.hid hnx
      have HG1 := Lib.hid (rget_ok r g n c1 P 1 A1 bs vo out most 1 rfl wr HFR.out (by decide) (by omega))
      rw [hv1] at HG1
      have HG2 := Lib.hid (fun (w' : World) (h : FR w' r g A1 n c1 (P + 1) bs vo out most 0) => rget_ok r g n c1 (P + 1) 2 A1 bs vo out most 2 rfl w' h (by decide) (by omega))
      rw [hv2] at HG2
      obtain ⟨rfl, hbs⟩ := hb
      have HBK := Lib.hid (fun (w' : World) (h : FR w' r g A1 n c1 (P + 1 + 2) bs vo out most 0) => blk_any r g n c1 (P + 3) 0 P1 A1 bs vo out out1 most w' h hbs (by omega))
      have hl8 : last < 8 := by omega
      clear hv1 hv2 hbs HC HC2 hnx
      have HB2 := Lib.hid HB.out
      have hd9 : w.heap.size ≤ g := hg
      go_wp2_with (first
        | (go_at_call 26; (with_reducible refine HG1.out.mono ?_); go_must (rintro e w3 ⟨rfl, hf3, hr3⟩; have HB3 := Lib.hid (HB2.out.trans (HFR.out.fr hr3 hd9)); have HG23 := Lib.hid (HG2.out _ hf3); have HF3 := Lib.hid hf3; clear hf3 hr3))
        | (go_at_call 26; (with_reducible refine HG23.out.mono ?_); go_must (rintro e w4 ⟨rfl, hf4, hr4⟩; have HB4 := Lib.hid (HB3.out.trans (HF3.out.fr hr4 hd9)); have HBK4 := Lib.hid (HBK.out _ hf4); have HF4 := Lib.hid hf4; clear hf4 hr4 HG23))
        | (go_at_call 27; (with_reducible refine HBK4.out.mono ?_); go_must (rintro e w5 ⟨rfl, v5, hf5, hr5⟩; have HB5 := Lib.hid (HB4.out.trans (HF4.out.fr hr5 hd9)); have HF5 := Lib.hid hf5; clear hf5 hr5)))
      have hpm5 := posOf_eq HF5.out.rd
      go_roundw
      case rel => exact ⟨last, P1, v5, out1, rfl, hl, HF5, HB5, HNX⟩
      case measure =>
        rcases hl with rfl | rfl
        · rw [lmeas0, lmeas0, hpm5, hpm]
          omega
        · rw [lmeas1, lmeas0, hpm]
          omega
    · obtain ⟨rfl, rfl⟩ : P = Pz ∧ out = outz := by rcases HC.out with ⟨_, h⟩ | ⟨h, _⟩; exact h; cases h
      obtain ⟨Av, cv, rfl, -, -, -⟩ := HFR.out.own.form
      have c0 := HFR.out.arr.cell (k := 0) rfl
      have c1' := HFR.out.arr.cell (k := 1) rfl
      have cg := HFR.out.rd.cell (k := 1) rfl
      have hPf := HFR.out.fit
      have e1 : IntKind.i64.wrap ((P : Int) + 7) = (P : Int) + 7 := (by have := wrap_i64_lt (P + 7) (by omega); simpa using this)
      have e2 : ((P : Int) + 7).tdiv 8 = (((P + 7) / 8 : Nat) : Int) := by rw [show (P : Int) + 7 = ((P + 7 : Nat) : Int) by omega]; rfl
      have e3 : ((P : Int) + 7) / 8 = (((P + 7) / 8 : Nat) : Int) := by omega
      obtain ⟨Q, hQ⟩ : ∃ Q, (P + 7) / 8 = Q := ⟨_, rfl⟩
      rw [hQ] at e2 e3
      have e4 : IntKind.i64.wrap (Q : Int) = (Q : Int) := wrap_i64_lt Q (by omega)
      go_wp2_with fail
      go_quiet ((go_at_call 31; exact Calls.quiet_of_same ((at_any g P _ (by exact cg)).mono fun _ _ h => ⟨h.1, h.2.symm⟩)))
      go_wp2_with fail
      go_ret3
      exact ⟨_, by rw [hQ]; rfl, (HFR.out.drewN _).own.mono (by omega), bdrewN HB.out _⟩
end Go.Proofs.Yteoolehdomjkkaa

/- flate: what the chapter's examples fix. -/
namespace Go.Proofs.Yteoolehdomjkkaa
set_option linter.all false
open Go.RowKit

theorem WB.of {bs : List UInt8} {L : List Nat} (hl : bs.length = (L.length + 7) / 8) (h : ∀ p, p < 8 * bs.length → bitAt bs p = L.getD p 0) : WB bs L := by
  refine ⟨hl, fun p => ?_⟩
  by_cases hp : p < 8 * bs.length
  · exact h p hp
  · unfold bitAt
    rw [List.getD_eq_getElem?_getD, List.getElem?_eq_none (by omega), List.getD_eq_getElem?_getD, List.getElem?_eq_none (by omega)]
    simp
theorem rdB_nil0 {w : World} {B : Nat} {A : Option Addr} : RdB w B A 0 [] := ⟨by simp [cb], fun h => absurd h (by omega)⟩
theorem fixB_nil : fixB [] = [1, 1, 0, 0, 0, 0, 0, 0, 0, 0] := by kernel_rfl
theorem ownBits_long (ts : List Tok) : 29 ≤ (ownBits ts).length := by
  unfold ownBits listsB
  rw [List.length_append, List.length_append, List.length_append, List.length_append, List.length_append, List.length_append, headL_len, lsb_len, lsb_len, lsb_len]
  have h1 := hcK_ge (lensC (runsP (dynL ts ++ dynD ts))) 19 (by omega)
  have h2 : (ordB (lensC (runsP (dynL ts ++ dynD ts))) (hcK (lensC (runsP (dynL ts ++ dynD ts))) 19)).length = 3 * (ordL.take (hcK (lensC (runsP (dynL ts ++ dynD ts))) 19)).length := ords_len _ _
  rw [h2, List.length_take]
  have : ordL.length = 19 := rfl
  omega
theorem deflB_nil : deflB [] [] = [1, 1, 0, 0, 0, 0, 0, 0, 0, 0] := by
  have h1 : best1 [] [] = fixB [] := by
    unfold best1
    rw [if_pos (by rw [plainL_len, fixB_nil]; decide)]
  unfold deflB
  rw [h1, if_neg (by have := ownBits_long []; rw [fixB_nil]; simp; omega), fixB_nil]
theorem defl_nil {bs : List UInt8} (h : WB bs (deflB [] [])) : bs = [3, 0] := by
  rw [deflB_nil] at h
  exact h.uniq (WB.of (by decide) (by decide))
theorem inf_ex : InfC [1, 1, 0, 254, 255, 65] 6 10 0 [] 48 [65] :=
  .stop 0 (by decide) (by decide) (by decide) ⟨rfl, 1, 8, by decide, by decide, by decide +kernel, by decide +kernel, by decide, by decide, by decide, by decide⟩
set_option maxRecDepth 100000 in
set_option maxHeartbeats 3200000 in
theorem first7_any (w : World) : Calls Try.prog 7 #[] w fun e w' => e = .returned (.bool true) ∧ Below w.heap.size w w' := by
  have kc := conv_const
  have HD := Lib.hid (deflate_any w.heap.size 0 0 none [] [] w rdB_nil0 (Nat.le_refl _) (by omega) (find_nil none 0 w) (by intro t ht; cases ht) (by decide))
  have HI := Lib.hid (fun (w1 : World) => inflate_any (w1.heap.size + 1) 6 6 48 (some ⟨w1.heap.size, 0, none⟩) [1, 1, 0, 254, 255, 65] [65] 10 (w1.alloc (.cells #[.int .u8 1, .int .u8 1, .int .u8 0, .int .u8 254, .int .u8 255, .int .u8 65] 5)) (rd_lit w1 5 (0, 0) [1, 1, 0, 254, 255, 65]) (by simp) (by omega) (by omega) (by omega) inf_ex)
  go_enter Try.func7, Try.ntmps7
  go_wp2_with (first
    | (go_at_call 24; (with_reducible refine HD.out.mono ?_); go_must (rintro e w1 ⟨v1, bz, rfl, ho1, hz1, hb1⟩; have hbz := defl_nil hz1; subst hbz; obtain ⟨A1, c1, rfl, hr1, -, -⟩ := ho1.form; have HR1 := Lib.hid hr1; have HB1 := Lib.hid hb1; clear ho1 hz1 hb1 hr1))
    | (go_at_call 9; (with_reducible refine (HI.out _).mono ?_); go_must (rintro e w2 ⟨v2, rfl, ho2, hb2⟩; obtain ⟨A2, c2, rfl, hr2, -, -⟩ := ho2.form; have HR12 := RdB.blw (Rd.alloc HR1.out (Nat.le_refl _) (.cells #[.int .u8 1, .int .u8 1, .int .u8 0, .int .u8 254, .int .u8 255, .int .u8 65] 5)) (hb2.mono (by simp)); have k1 := run_strB (n := 2) (c := c1) HR12; have k2 := run_strB (n := 1) (c := c2) hr2; have HB2 := Lib.hid ((HB1.out.alloc HB1.out.size (.cells #[.int .u8 1, .int .u8 1, .int .u8 0, .int .u8 254, .int .u8 255, .int .u8 65] 5)).trans (hb2.mono (by have := HB1.out.size; simp; omega))); clear ho2 hb2 hr2 HR12)))
  go_ret
  exact ⟨rfl, HB2.out⟩
end Go.Proofs.Yteoolehdomjkkaa
