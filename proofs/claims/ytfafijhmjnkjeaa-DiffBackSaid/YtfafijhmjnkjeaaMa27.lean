/- Merged: In4, First7, Frame. -/
import Derived.ProofKit
import Derived.OpenShut
import Derived.ShutString
import Derived.ChangeOld
import Derived.Test.YtfafijhmjnkjeaaMa26
import Derived.Test.YtfafijhmjnkjeaaMa25
import Derived.Test.YtfafijhmjnkjeaaMa01
/- flate: Inflate, of blocks that are read to their ends. -/
namespace Go.Proofs.Ytfafijhmjnkjeaa
set_option linter.all false
open Go.RowKit

/-- A stored block that is read to its end. -/
def BlkS (bs : List UInt8) (n : Nat) (most : Int) (P : Nat) (out : List UInt8) (P' : Nat) (out' : List UInt8) : Prop :=
  ∃ k Q, 8 * ((P + 7) / 8) = Q ∧ Q + 32 ≤ 8 * n ∧ getV bs Q 16 = k ∧ getV bs (Q + 16) 16 = 65535 - k ∧ Q + 32 + 8 * k ≤ 8 * n ∧ ((out.length + k : Nat) : Int) ≤ most ∧ P' = Q + 32 + 8 * k ∧ out' = out ++ stB bs Q k
/-- What stands behind a block's first bits. -/
def Blk (bs : List UInt8) (n : Nat) (most : Int) (kind P : Nat) (out : List UInt8) (P' : Nat) (out' : List UInt8) : Prop := kind = 0 ∧ BlkS bs n most P out P' out'
/-- Blocks up to the last one. -/
inductive InfC (bs : List UInt8) (n : Nat) (most : Int) : Nat → List UInt8 → Nat → List UInt8 → Prop
  | stop {P : Nat} {out : List UInt8} {P' : Nat} {out' : List UInt8} (kind : Nat) (h : P + 3 ≤ 8 * n) (h1 : getV bs P 1 = 1) (h2 : getV bs (P + 1) 2 = kind) (hb : Blk bs n most kind (P + 3) out P' out') : InfC bs n most P out P' out'
  | more {P : Nat} {out : List UInt8} {P1 : Nat} {out1 : List UInt8} {P' : Nat} {out' : List UInt8} (kind : Nat) (h : P + 3 ≤ 8 * n) (h1 : getV bs P 1 = 0) (h2 : getV bs (P + 1) 2 = kind) (hb : Blk bs n most kind (P + 3) out P1 out1) (hr : InfC bs n most P1 out1 P' out') : InfC bs n most P out P' out'
theorem Blk.on {bs : List UInt8} {n : Nat} {most : Int} {kind P : Nat} {out : List UInt8} {P' : Nat} {out' : List UInt8} (h : Blk bs n most kind P out P' out') : P ≤ P' := by
  obtain ⟨_, k, Q, h1, _, _, _, _, _, h2, _⟩ := h
  omega
/-- The first block of blocks. -/
theorem InfC.first {bs : List UInt8} {n : Nat} {most : Int} {P : Nat} {out : List UInt8} {P' : Nat} {out' : List UInt8} (h : InfC bs n most P out P' out') :
    P + 3 ≤ 8 * n ∧ ∃ last kind P1 out1, (last = 0 ∨ last = 1) ∧ getV bs P 1 = last ∧ getV bs (P + 1) 2 = kind ∧ Blk bs n most kind (P + 3) out P1 out1 ∧ ((last = 1 ∧ P1 = P' ∧ out1 = out') ∨ (last = 0 ∧ InfC bs n most P1 out1 P' out')) := by
  cases h with
  | stop kind h h1 h2 hb => exact ⟨h, 1, kind, _, _, .inr rfl, h1, h2, hb, .inl ⟨rfl, rfl, rfl⟩⟩
  | more kind h h1 h2 hb hr => exact ⟨h, 0, kind, _, _, .inl rfl, h1, h2, hb, .inr ⟨rfl, hr⟩⟩
def posOf (w : World) (g : Nat) : Nat := match w.cell? ⟨g, 1, none⟩ with
  | some (.int _ P) => P.toNat
  | _ => 0
theorem posOf_eq {w : World} {g n c P : Nat} {A : Option Addr} (h : Arr w g (rdr A n c P)) : posOf w g = P := by
  unfold posOf
  rw [h.cell (k := 1) rfl]
  rfl
theorem blk_any (r g n c P kind P' : Nat) (A : Option Addr) (bs : List UInt8) (vo : Value) (out out' : List UInt8) (most : Int) (w : World) (h : FR w r g A n c P bs vo out most 0) (hb : BlkS bs n most P out P' out') (hm : most ≤ 1000000) :
    Calls Try.prog 27 #[.pointer (some ⟨r, 0, none⟩)] w fun e w' => e = .returned (.tuple #[]) ∧ ∃ vo', FR w' r g A n c P' bs vo' out' most 0 ∧ RFr w w' r g vo vo' := by
  obtain ⟨k, Q, hQ, h1, h2, h3, h4, h5, rfl, rfl⟩ := hb
  exact rplain_ok r g n c P k Q A bs vo out most w h hQ h1 h2 h3 h4 h5 hm
def lmeas (n g : Nat) (vi : Value) (w : World) : Nat := if intOf vi = 1 then 0 else 8 * n + 1 - posOf w g
theorem lmeas0 (n g : Nat) (w : World) : lmeas n g (.int .i64 ((0 : Nat) : Int)) w = 8 * n + 1 - posOf w g := if_neg (by decide)
theorem lmeas1 (n g : Nat) (w : World) : lmeas n g (.int .i64 ((1 : Nat) : Int)) w = 0 := if_pos (by decide)
theorem FR.fr {w w' : World} {r g : Nat} {A : Option Addr} {n c P : Nat} {bs : List UInt8} {vo vo' : Value} {out : List UInt8} {most e : Int} {B : Nat} (h : FR w r g A n c P bs vo out most e) (hf : RFr w w' r g vo vo') (hB : B ≤ g) : Below B w w' := by
  have h1 := h.gr
  have h2 := h.rd.lt
  exact hf.below (by omega) (by omega) hB (fun k hk => by have := (World.ownsRow.lt h.own k hk).1; omega)
set_option maxRecDepth 100000 in
set_option maxHeartbeats 3200000 in
theorem inflate_any (B n c Pz : Nat) (A : Option Addr) (bs outz : List UInt8) (most : Int) (w : World) (h : RdB w B A n bs) (hB : B ≤ w.heap.size) (hn : n ≤ 1000000) (h0 : 0 ≤ most) (hm : most ≤ 40000) (hc : InfC bs n most 0 [] Pz outz) :
    Calls Try.prog 9 #[.slice A n c, .int .i64 most] w fun e w' => ∃ vo, e = .returned (.tuple #[vo, .int .i64 (((Pz + 7) / 8 : Nat) : Int), .int .i64 0]) ∧ ownB w' w.heap.size vo outz ∧ Below w.heap.size w w' := by
  have HN := Lib.hid (newReader_any B n c A bs w h (by omega))
  have HC := Lib.hid hc
  have t1 : decide (most < 0) = false := decide_eq_false (by omega)
  have t2 : decide (most > 40000) = false := decide_eq_false (by omega)
  have t3 : ¬ most < 0 := by omega
  have t4 : ¬ 40000 < most := by omega
  clear h hc
  go_enter Try.func9, Try.ntmps9
  go_wp2_with (go_at_call 25; (with_reducible refine HN.out.mono ?_); go_must (rintro e w1 ⟨g, A1, c1, rfl, hg, hgw, ha1, hr1, hb1⟩; have HFR : Hid (FR (w1.alloc (.cells #[.pointer (some ⟨g, 0, none⟩), .slice none 0 0, .int .i64 most, .int .i64 0] 55)) w1.heap.size g A1 n c1 0 bs (.slice none 0 0) [] most 0) := (show FR _ _ _ _ _ _ _ _ _ _ _ _ from ⟨Arr.new w1 [.pointer (some ⟨g, 0, none⟩), .slice none 0 0, .int .i64 most, .int .i64 0] 55, ha1.alloc _, Rd.alloc hr1 (Nat.le_of_lt hgw) _, ownB.nil_ _ _, hgw, Nat.zero_le _, hn⟩); have HB1 := Lib.hid (hb1.alloc hb1.size (.cells #[.pointer (some ⟨g, 0, none⟩), .slice none 0 0, .int .i64 most, .int .i64 0] 55)); have hz1 := hb1.size; clear ha1 hr1 hb1))
  obtain ⟨r, hr⟩ : ∃ r, w1.heap.size = r := ⟨_, rfl⟩
  rw [hr] at HFR
  simp only [hr]
  have hgr : g < r := by omega
  have hwr : w.heap.size ≤ r := by omega
  have hr := Lib.hid hr
  clear hz1 hgw
  go_wp2_with fail
  have HB2 := Lib.hid (HB1.out)
  obtain ⟨w2, hw2⟩ : ∃ w2, w1.alloc (.cells #[.pointer (some ⟨g, 0, none⟩), .slice none 0 0, .int .i64 most, .int .i64 0] 55) = w2 := ⟨_, rfl⟩
  simp only [hw2]
  rw [hw2] at HB2 HFR
  clear hw2 HB1
  go_loopw [8] (fun vi wr => ∃ (last P : Nat) (vo : Value) (out : List UInt8), vi = .int .i64 last ∧ (last = 0 ∨ last = 1) ∧ Hid (FR wr r g A1 n c1 P bs vo out most 0) ∧ Hid (Below w.heap.size w wr) ∧ Hid ((last = 1 ∧ P = Pz ∧ out = outz) ∨ (last = 0 ∧ InfC bs n most P out Pz outz))) (fun vi wr => lmeas n g vi wr)
  case atStart => exact ⟨0, 0, .slice none 0 0, [], rfl, .inl rfl, HFR, HB2, (show _ ∨ _ from .inr ⟨rfl, HC.out⟩)⟩
  case round =>
    clear HFR HB2 HC
    obtain ⟨last, P, vo, out, rfl, hl, HFR, HB, HC⟩ := hrel
    have c3 := HFR.out.arr.cell (k := 3) rfl
    rcases hl with rfl | rfl
    · have HC2 : Hid (InfC bs n most P out Pz outz) := (show InfC _ _ _ _ _ _ _ from by rcases HC.out with ⟨h, _⟩ | ⟨_, h⟩; cases h; exact h)
      obtain ⟨h3, last, kind, P1, out1, hl, hv1, hv2, hb, hnx⟩ := HC2.out.first
      have hpm := posOf_eq HFR.out.rd
      have hon := hb.on
      have HNX := Lib.hid hnx
      have HG1 := Lib.hid (rget_ok r g n c1 P 1 A1 bs vo out most 1 rfl wr HFR.out (by decide) (by omega))
      rw [hv1] at HG1
      have HG2 := Lib.hid (fun (w' : World) (h : FR w' r g A1 n c1 (P + 1) bs vo out most 0) => rget_ok r g n c1 (P + 1) 2 A1 bs vo out most 2 rfl w' h (by decide) (by omega))
      rw [hv2] at HG2
      obtain ⟨rfl, hbs⟩ := hb
      have HBK := Lib.hid (fun (w' : World) (h : FR w' r g A1 n c1 (P + 1 + 2) bs vo out most 0) => blk_any r g n c1 (P + 3) 0 P1 A1 bs vo out out1 most w' h hbs (by omega))
      have hl8 : last < 8 := by omega
      clear hv1 hv2 hbs HC HC2 hnx
      have HB2 := Lib.hid HB.out
      have hd9 : w.heap.size ≤ g := hg
      go_wp2_with (first
        | (go_at_call 26; (with_reducible refine HG1.out.mono ?_); go_must (rintro e w3 ⟨rfl, hf3, hr3⟩; have HB3 := Lib.hid (HB2.out.trans (HFR.out.fr hr3 hd9)); have HG23 := Lib.hid (HG2.out _ hf3); have HF3 := Lib.hid hf3; clear hf3 hr3))
        | (go_at_call 26; (with_reducible refine HG23.out.mono ?_); go_must (rintro e w4 ⟨rfl, hf4, hr4⟩; have HB4 := Lib.hid (HB3.out.trans (HF3.out.fr hr4 hd9)); have HBK4 := Lib.hid (HBK.out _ hf4); have HF4 := Lib.hid hf4; clear hf4 hr4 HG23))
        | (go_at_call 27; (with_reducible refine HBK4.out.mono ?_); go_must (rintro e w5 ⟨rfl, v5, hf5, hr5⟩; have HB5 := Lib.hid (HB4.out.trans (HF4.out.fr hr5 hd9)); have HF5 := Lib.hid hf5; clear hf5 hr5)))
      have hpm5 := posOf_eq HF5.out.rd
      go_roundw
      case rel => exact ⟨last, P1, v5, out1, rfl, hl, HF5, HB5, HNX⟩
      case measure =>
        rcases hl with rfl | rfl
        · rw [lmeas0, lmeas0, hpm5, hpm]
          omega
        · rw [lmeas1, lmeas0, hpm]
          omega
    · obtain ⟨rfl, rfl⟩ : P = Pz ∧ out = outz := by rcases HC.out with ⟨_, h⟩ | ⟨h, _⟩; exact h; cases h
      obtain ⟨Av, cv, rfl, -, -, -⟩ := HFR.out.own.form
      have c0 := HFR.out.arr.cell (k := 0) rfl
      have c1' := HFR.out.arr.cell (k := 1) rfl
      have cg := HFR.out.rd.cell (k := 1) rfl
      have hPf := HFR.out.fit
      have e1 : IntKind.i64.wrap ((P : Int) + 7) = (P : Int) + 7 := (by have := wrap_i64_lt (P + 7) (by omega); simpa using this)
      have e2 : ((P : Int) + 7).tdiv 8 = (((P + 7) / 8 : Nat) : Int) := by rw [show (P : Int) + 7 = ((P + 7 : Nat) : Int) by omega]; rfl
      have e3 : ((P : Int) + 7) / 8 = (((P + 7) / 8 : Nat) : Int) := by omega
      obtain ⟨Q, hQ⟩ : ∃ Q, (P + 7) / 8 = Q := ⟨_, rfl⟩
      rw [hQ] at e2 e3
      have e4 : IntKind.i64.wrap (Q : Int) = (Q : Int) := wrap_i64_lt Q (by omega)
      go_wp2_with fail
      go_quiet ((go_at_call 31; exact Calls.quiet_of_same ((at_any g P _ (by exact cg)).mono fun _ _ h => ⟨h.1, h.2.symm⟩)))
      go_wp2_with fail
      go_ret3
      exact ⟨_, by rw [hQ]; rfl, (HFR.out.drewN _).own.mono (by omega), bdrewN HB.out _⟩
end Go.Proofs.Ytfafijhmjnkjeaa

/- flate: what the chapter's examples fix. -/
namespace Go.Proofs.Ytfafijhmjnkjeaa
set_option linter.all false
open Go.RowKit

theorem WB.of {bs : List UInt8} {L : List Nat} (hl : bs.length = (L.length + 7) / 8) (h : ∀ p, p < 8 * bs.length → bitAt bs p = L.getD p 0) : WB bs L := by
  refine ⟨hl, fun p => ?_⟩
  by_cases hp : p < 8 * bs.length
  · exact h p hp
  · unfold bitAt
    rw [List.getD_eq_getElem?_getD, List.getElem?_eq_none (by omega), List.getD_eq_getElem?_getD, List.getElem?_eq_none (by omega)]
    simp
theorem rdB_nil0 {w : World} {B : Nat} {A : Option Addr} : RdB w B A 0 [] := ⟨by simp [cb], fun h => absurd h (by omega)⟩
theorem fixB_nil : fixB [] = [1, 1, 0, 0, 0, 0, 0, 0, 0, 0] := by kernel_rfl
theorem ownBits_long (ts : List Tok) : 29 ≤ (ownBits ts).length := by
  unfold ownBits listsB
  rw [List.length_append, List.length_append, List.length_append, List.length_append, List.length_append, List.length_append, headL_len, lsb_len, lsb_len, lsb_len]
  have h1 := hcK_ge (lensC (runsP (dynL ts ++ dynD ts))) 19 (by omega)
  have h2 : (ordB (lensC (runsP (dynL ts ++ dynD ts))) (hcK (lensC (runsP (dynL ts ++ dynD ts))) 19)).length = 3 * (ordL.take (hcK (lensC (runsP (dynL ts ++ dynD ts))) 19)).length := ords_len _ _
  rw [h2, List.length_take]
  have : ordL.length = 19 := rfl
  omega
theorem deflB_nil : deflB [] [] = [1, 1, 0, 0, 0, 0, 0, 0, 0, 0] := by
  have h1 : best1 [] [] = fixB [] := by
    unfold best1
    rw [if_pos (by rw [plainL_len, fixB_nil]; decide)]
  unfold deflB
  rw [h1, if_neg (by have := ownBits_long []; rw [fixB_nil]; simp; omega), fixB_nil]
theorem defl_nil {bs : List UInt8} (h : WB bs (deflB [] [])) : bs = [3, 0] := by
  rw [deflB_nil] at h
  exact h.uniq (WB.of (by decide) (by decide))
theorem inf_ex : InfC [1, 1, 0, 254, 255, 65] 6 10 0 [] 48 [65] :=
  .stop 0 (by decide) (by decide) (by decide) ⟨rfl, 1, 8, by decide, by decide, by decide +kernel, by decide +kernel, by decide, by decide, by decide, by decide⟩
set_option maxRecDepth 100000 in
set_option maxHeartbeats 3200000 in
theorem first7_any (w : World) : Calls Try.prog 7 #[] w fun e w' => e = .returned (.bool true) ∧ Below w.heap.size w w' := by
  have kc := conv_const
  have HD := Lib.hid (deflate_any w.heap.size 0 0 none [] [] w rdB_nil0 (Nat.le_refl _) (by omega) (find_nil none 0 w) (by intro t ht; cases ht) (by decide))
  have HI := Lib.hid (fun (w1 : World) => inflate_any (w1.heap.size + 1) 6 6 48 (some ⟨w1.heap.size, 0, none⟩) [1, 1, 0, 254, 255, 65] [65] 10 (w1.alloc (.cells #[.int .u8 1, .int .u8 1, .int .u8 0, .int .u8 254, .int .u8 255, .int .u8 65] 5)) (rd_lit w1 5 (0, 0) [1, 1, 0, 254, 255, 65]) (by simp) (by omega) (by omega) (by omega) inf_ex)
  go_enter Try.func7, Try.ntmps7
  go_wp2_with (first
    | (go_at_call 24; (with_reducible refine HD.out.mono ?_); go_must (rintro e w1 ⟨v1, bz, rfl, ho1, hz1, hb1⟩; have hbz := defl_nil hz1; subst hbz; obtain ⟨A1, c1, rfl, hr1, -, -⟩ := ho1.form; have HR1 := Lib.hid hr1; have HB1 := Lib.hid hb1; clear ho1 hz1 hb1 hr1))
    | (go_at_call 9; (with_reducible refine (HI.out _).mono ?_); go_must (rintro e w2 ⟨v2, rfl, ho2, hb2⟩; obtain ⟨A2, c2, rfl, hr2, -, -⟩ := ho2.form; have HR12 := RdB.blw (Rd.alloc HR1.out (Nat.le_refl _) (.cells #[.int .u8 1, .int .u8 1, .int .u8 0, .int .u8 254, .int .u8 255, .int .u8 65] 5)) (hb2.mono (by simp)); have k1 := run_strB (n := 2) (c := c1) HR12; have k2 := run_strB (n := 1) (c := c2) hr2; have HB2 := Lib.hid ((HB1.out.alloc HB1.out.size (.cells #[.int .u8 1, .int .u8 1, .int .u8 0, .int .u8 254, .int .u8 255, .int .u8 65] 5)).trans (hb2.mono (by have := HB1.out.size; simp; omega))); clear ho2 hb2 hr2 HR12)))
  go_ret
  exact ⟨rfl, HB2.out⟩
end Go.Proofs.Ytfafijhmjnkjeaa

/- What every statement's proof needs of its frame: arguments opened to bytes. -/
namespace Go.Proofs.Ytfafijhmjnkjeaa
set_option linter.all false
open Go.ChangeShapes Go.WideShapes Go.ChangeAt Go.RowKit
open Go.ChangeMaps (open_string shut_string)

theorem own : ownKnob Try.prog.godebug = none := by kernel_rfl
theorem laidOut : laidOutB Try.prog = true := by kernel_rfl

theorem u8_back (z : Int) (h : (Lit.int .u8 z).wf = true) : ((UInt8.ofNat z.toNat).toNat : Int) = z := by
  have b := bounds_u8 h
  rw [UInt8.toNat_ofNat']
  omega

theorem open_bytes {H : Type} {enc : TypeId × Value → H} {W : World} {sp : Nat → Bool} {held : Bool} {a : Option Addr} {n c : Nat} {d : DataW H} {p : List MemPlace}
    (h : DataW.Trod enc Try.prog W 0 sp held 22 (.slice a n c) d p) : ∃ bs, RdB W W.heap.size a n bs ∧ n ≤ c ∧ c ≤ maxLen := by
  obtain ⟨fuel, hf⟩ := h
  rcases open_ints Try.underlying22 Try.underlying5 (by kernel_rfl) hf with ⟨hcs, _⟩ | ⟨x, l, cc, zs, hcs, _, hl, hm, hz, _, hcell, hwz⟩
  · simp [Value.cells] at hcs
    obtain ⟨rfl, rfl, rfl⟩ := hcs
    exact ⟨[], Rd.none_, by omega, by simp⟩
  · simp [Value.cells] at hcs
    obtain ⟨rfl, rfl, rfl⟩ := hcs
    have hzn : n ≤ zs.length := by rw [hz]; split <;> omega
    refine ⟨(zs.take n).map fun z => UInt8.ofNat z.toNat, ⟨by simp [cb]; omega, fun hn => ?_⟩, hl, hm⟩
    have h0 := hcell 0 (by omega)
    obtain ⟨b, o, spot⟩ := x
    have hspot : spot = none := by simpa [Addr.add] using World.cell?_spot h0
    subst hspot
    refine ⟨b, o, rfl, ?_, fun j u hu => ?_⟩
    · have := block_lt_of_cell h0
      simpa [add_none] using this
    · have hj : j < n := by
        have := (List.getElem?_eq_some_iff.1 hu).1
        simp [cb] at this
        omega
      have hc := hcell j (by omega)
      rw [add_none] at hc
      rw [hc]
      have hw := hwz (zs[j]'(by omega)) (List.getElem_mem _)
      simp [cb, List.getElem?_take, hj, List.getElem?_eq_getElem (show j < zs.length by omega)] at hu
      rw [← hu]
      have := u8_back _ hw
      rw [UInt8.toNat_ofNat'] at this
      simp [List.getD, List.getElem?_eq_getElem (show j < zs.length by omega)]
      simpa using this.symm

end Go.Proofs.Ytfafijhmjnkjeaa
