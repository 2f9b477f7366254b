/- XMaBestD XMaPix6 XMaDec1 XMaDec2 -/
import Derived.Test.YtfafijhmjnkjeaaMae02
import Derived.Test.YtfafijhmjnkjeaaMae03
import Derived.Test.YtfafijhmjnkjeaaMa41
import Derived.Test.YtfafijhmjnkjeaaMae01
import Derived.Test.YtfafijhmjnkjeaaMa31
import Derived.Deep.RegionHeld3
namespace Go.Proofs.Ytfafijhmjnkjeaa
set_option linter.all false
open Go.RowKit

/-- A pack of bytes. -/
def PK (b l : List UInt8) : Prop := ∃ bz S, l = packL bz S ∧ WB bz (deflB b (findP b)) ∧ S = beB (adler b) 4
theorem PK.uniq {b l l' : List UInt8} (h : PK b l) (k : PK b l') : l = l' := by
  obtain ⟨bz, S, rfl, hw, rfl⟩ := h
  obtain ⟨bz', S', rfl, hw', rfl⟩ := k
  rw [hw.uniq hw']
theorem PK.len {b l : List UInt8} (h : PK b l) : l.length ≤ b.length + 11 := by
  obtain ⟨bz, S, rfl, hw, rfl⟩ := h
  have h1 := best_len hw
  rw [packL_len, beB_len]
  omega
theorem PK.back {b l : List UInt8} (h : PK b l) (hb : b.length ≤ 40000) : wholP l 40000 = (b, 0) := by
  obtain ⟨bz, S, rfl, hw, hS⟩ := h
  exact whol_back hb (by omega) (by omega) hw hS
theorem packK_any (B n c : Nat) (A : Option Addr) (bs : List UInt8) (w : World) (h : RdB w B A n bs) (hB : B ≤ w.heap.size) (hn : n ≤ 40000) (hcap : n ≤ c) :
    Calls Try.prog 13 #[.slice A n c] w fun e w' => ∃ v l, e = .returned (.tuple #[v, .int .i64 0]) ∧ ownB w' w.heap.size v l ∧ PK bs l ∧ Below w.heap.size w w' := by
  obtain ⟨S, hS, hS4⟩ := big4 (adler_lt bs)
  refine (pack_any B n c A bs S w h hB hn hcap hS hS4).mono ?_
  rintro e w' ⟨v, bz, he, ho, hw, hb⟩
  exact ⟨v, _, he, ho, ⟨bz, S, rfl, hw, big4b (adler_lt bs) hS⟩, hb⟩
/-- The better one. -/
def pickK (l1 l2 : List UInt8) : Int × List UInt8 := if l2.length < l1.length then (2, l2) else (1, l1)
def p2 (a b : Value) : Nat → Option Value
  | 0 => some a
  | 1 => some b
  | _ => none
@[go_sem] theorem p2_0 (a b : Value) : p2 a b 0 = some a := rfl
@[go_sem] theorem p2_1 (a b : Value) : p2 a b 1 = some b := rfl
theorem new2p (w : World) (a b : Value) (t : TypeId) (fr : Nat × Nat) : ∀ i, (w.alloc (.cells #[a, b] t fr)).cell? ⟨w.heap.size, i, none⟩ = p2 a b i := by
  intro i
  rw [cell_of_row (w.alloc (.cells #[a, b] t fr)) w.heap.size i #[a, b] t fr (heap_alloc_new w _)]
  match i with
  | 0 => rfl
  | 1 => rfl
  | j + 2 => simp [p2]

set_option maxRecDepth 100000 in
set_option maxHeartbeats 6400000 in
theorem best_ok (s : Sh) (B n c B' c' : Nat) (A A' : Option Addr) (bs rs : List UInt8) (w : World) (hp : RdB w B A n bs) (hr : RdB w B' A' n rs)
    (hB1 : B ≤ w.heap.size) (hB2 : B' ≤ w.heap.size) (hm : s.mayR n = true) :
    Calls Try.prog 23 #[s.r A n c, s.r A' n c'] w fun e w' =>
      ∃ v l1 l2, e = .returned (.tuple #[.int .i64 (pickK l1 l2).1, v, .int .i64 0]) ∧ ownB w' w.heap.size v (pickK l1 l2).2 ∧ PK (deltaB 1 bs rs) l1 ∧ PK (deltaB 2 bs rs) l2 ∧ Below w.heap.size w w' := by
  have hB := Below.refl w.heap.size w
  have hz : wrongR s s n n = 0 := by unfold wrongR; rw [hm]; simp
  obtain ⟨-, -, -, -, hn16⟩ := wrongR_zero hz
  have HZ := Lib.hid hz
  have H1 := Lib.hid (fun w => wrongDf_any s s n c n c' A A' w)
  have HK := Lib.hid (fun (k : Int) (hk : k = 1 ∨ k = 2) (w' : World) (hb : Below w.heap.size w w') => make_ok k s s B n c B' n c' A A' bs rs w' (hp.blw (hb.mono hB1)) (hr.blw (hb.mono hB2)) (Nat.le_trans hB1 hb.size) (Nat.le_trans hB2 hb.size) hk hz)
  have HL := Lib.hid (fun k => (deltaB_len (k := k) (bs := bs) (rs := rs) (by rw [hp.len, hr.len])).trans hr.len)
  have HP := Lib.hid (fun (b : List UInt8) (w' : World) (A : Option Addr) (c : Nat) (h : RdB w' w'.heap.size A n b) (hc : n ≤ c) => packK_any w'.heap.size n c A b w' h (Nat.le_refl _) (by omega) hc)
  clear hz hm hp hr
  obtain ⟨W, H, C, D⟩ := s
  dsimp only [Sh.r, Sh.v] at H1 HK
  show Calls _ _ #[.agg #[.int .i64 W, .int .i64 H, .int .i64 C, .int .i64 D, .slice A n c], .agg #[.int .i64 W, .int .i64 H, .int .i64 C, .int .i64 D, .slice A' n c']] w _
  go_enter Try.func23, Try.ntmps23
  go_wp2_with (first
    | (go_at_call 44; (with_reducible refine (H1.out _).mono ?_); go_must (rintro e w1 ⟨rfl, hb1⟩; rw [HZ.out]; have c2 := box5 hb1; rw [World.size_alloc] at c2; replace hb1 := bxd hb1; have c1 := box5 hb1; replace hB := bxd hb1; clear hb1)))
  go_loopw [24, 8, 9] (fun vi vk vb wr => ((vi = .int .i64 0 ∧ vk = .int .i64 0 ∧ vb = .slice none 0 0) ∨ (vi = .int .i64 1 ∧ vk = .int .i64 1 ∧ ∃ l1, Hid (PK (deltaB 1 bs rs) l1) ∧ Hid (ownB wr w.heap.size vb l1)) ∨ (vi = .int .i64 2 ∧ ∃ l1 l2, Hid (PK (deltaB 1 bs rs) l1) ∧ Hid (PK (deltaB 2 bs rs) l2) ∧ vk = .int .i64 (pickK l1 l2).1 ∧ Hid (ownB wr w.heap.size vb (pickK l1 l2).2))) ∧ (∀ i, wr.cell? ⟨w.heap.size, i, none⟩ = r5 (.int .i64 W) (.int .i64 H) (.int .i64 C) (.int .i64 D) (.slice A n c) i) ∧ (∀ i, wr.cell? ⟨w.heap.size + 1, i, none⟩ = r5 (.int .i64 W) (.int .i64 H) (.int .i64 C) (.int .i64 D) (.slice A' n c') i) ∧ (∀ i, wr.cell? ⟨w1.heap.size, i, none⟩ = p2 (.int .i64 1) (.int .i64 2) i) ∧ Below w.heap.size w wr) (fun vi _ _ _ => (2 - intOf vi).toNat)
  case atStart => exact ⟨.inl ⟨rfl, rfl, rfl⟩, keptA c1 rfl _, keptA c2 rfl _, new2p w1 _ _ _ _, hB.alloc hB.size _⟩
  case round =>
    clear c1 c2 hB
    obtain ⟨hst, c1, c2, c3, hB⟩ := hrel
    rcases hst with ⟨rfl, rfl, rfl⟩ | ⟨rfl, rfl, l1, HP1, HO1⟩ | ⟨rfl, l1, l2, HP1, HP2, rfl, HO⟩
    · go_wp2_with (first
        | (go_at_call 21; (with_reducible refine (HK.out 1 (by omega) _ hB).mono ?_); go_must (rintro e w2 ⟨v, rfl, hx, hb1⟩; obtain ⟨Ax, cx, rfl, rx, hcx, _⟩ := hx.form; clear hx; rw [HL.out 1] at rx hcx ⊢; (try (first | replace c1 := kept c1 rfl hb1 | replace c1 := keptD c1 rfl hb1 | replace c1 := keptN c1 rfl hb1)); (try (first | replace c2 := kept c2 rfl hb1 | replace c2 := keptD c2 rfl hb1 | replace c2 := keptN c2 rfl hb1)); (try (first | replace c3 := kept c3 rfl hb1 | replace c3 := keptD c3 rfl hb1 | replace c3 := keptN c3 rfl hb1)); (first | replace hB := bstep hB hb1 (Nat.le_refl _) | replace hB := bstep hB.drew hb1 (Nat.le_refl _) | replace hB := bstep (bdrewN hB _) hb1 (Nat.le_refl _)); clear hb1))
        | (go_at_call 13; (with_reducible refine (HP.out _ _ _ _ rx hcx).mono ?_); go_must (rintro e w3 ⟨v3, l1, rfl, ho3, hk3, hb1⟩; have HP1 := Lib.hid hk3; have HO1 := Lib.hid (ho3.mono hB.size); clear ho3 hk3; (try (first | replace c1 := kept c1 rfl hb1 | replace c1 := keptD c1 rfl hb1 | replace c1 := keptN c1 rfl hb1)); (try (first | replace c2 := kept c2 rfl hb1 | replace c2 := keptD c2 rfl hb1 | replace c2 := keptN c2 rfl hb1)); (try (first | replace c3 := kept c3 rfl hb1 | replace c3 := keptD c3 rfl hb1 | replace c3 := keptN c3 rfl hb1)); (first | replace hB := bstep hB hb1 (Nat.le_refl _) | replace hB := bstep hB.drew hb1 (Nat.le_refl _) | replace hB := bstep (bdrewN hB _) hb1 (Nat.le_refl _)); clear hb1)))
      go_roundw
      case rel => exact ⟨.inr (.inl ⟨rfl, rfl, l1, HP1, HO1⟩), c1, c2, c3, hB⟩
      case measure => simp [intOf]
    · obtain ⟨A1, k1, rfl, -, -, -⟩ := HO1.out.form
      go_upto_region 12 with (first
        | (go_at_call 21; (with_reducible refine (HK.out 2 (by omega) _ hB).mono ?_); go_must (rintro e w2 ⟨v, rfl, hx, hb1⟩; obtain ⟨Ax, cx, rfl, rx, hcx, _⟩ := hx.form; clear hx; rw [HL.out 2] at rx hcx ⊢; have HO1 := Lib.hid (HO1.out.later hb1); (try (first | replace c1 := kept c1 rfl hb1 | replace c1 := keptD c1 rfl hb1 | replace c1 := keptN c1 rfl hb1)); (try (first | replace c2 := kept c2 rfl hb1 | replace c2 := keptD c2 rfl hb1 | replace c2 := keptN c2 rfl hb1)); (try (first | replace c3 := kept c3 rfl hb1 | replace c3 := keptD c3 rfl hb1 | replace c3 := keptN c3 rfl hb1)); (first | replace hB := bstep hB hb1 (Nat.le_refl _) | replace hB := bstep hB.drew hb1 (Nat.le_refl _) | replace hB := bstep (bdrewN hB _) hb1 (Nat.le_refl _)); clear hb1))
        | (go_at_call 13; (with_reducible refine (HP.out _ _ _ _ rx hcx).mono ?_); go_must (rintro e w3 ⟨v3, l2, rfl, ho3, hk3, hb1⟩; have HP2 := Lib.hid hk3; have HO2 := Lib.hid (ho3.mono hB.size); have HO1 := Lib.hid (HO1.out.later hb1); clear ho3 hk3; (try (first | replace c1 := kept c1 rfl hb1 | replace c1 := keptD c1 rfl hb1 | replace c1 := keptN c1 rfl hb1)); (try (first | replace c2 := kept c2 rfl hb1 | replace c2 := keptD c2 rfl hb1 | replace c2 := keptN c2 rfl hb1)); (try (first | replace c3 := kept c3 rfl hb1 | replace c3 := keptD c3 rfl hb1 | replace c3 := keptN c3 rfl hb1)); (first | replace hB := bstep hB hb1 (Nat.le_refl _) | replace hB := bstep hB.drew hb1 (Nat.le_refl _) | replace hB := bstep (bdrewN hB _) hb1 (Nat.le_refl _)); clear hb1)))
      obtain ⟨A2, k2, rfl, -, -, -⟩ := HO2.out.form
      by_cases hlt : l2.length < l1.length
      · have hli : (l2.length : Int) < (l1.length : Int) := by omega
        have HPI : Hid (pickK l1 l2 = (2, l2)) := (show _ = _ from if_pos hlt)
        go_wp2_with fail
        go_roundw
        case rel => exact ⟨.inr (.inr ⟨rfl, l1, l2, HP1, HP2, by rw [HPI.out], by rw [HPI.out]; exact HO2⟩), c1, c2, c3, hB⟩
        case measure => simp [intOf]
      · have hli : ¬ (l2.length : Int) < (l1.length : Int) := by omega
        have HPI : Hid (pickK l1 l2 = (1, l1)) := (show _ = _ from if_neg hlt)
        go_wp2_with fail
        go_roundw
        case rel => exact ⟨.inr (.inr ⟨rfl, l1, l2, HP1, HP2, by rw [HPI.out], by rw [HPI.out]; exact HO1⟩), c1, c2, c3, hB⟩
        case measure => simp [intOf]
    · go_wp2_with fail
      go_ret3
      exact ⟨_, l1, l2, rfl, HO.out, HP1.out, HP2.out, hB⟩

end Go.Proofs.Ytfafijhmjnkjeaa

/- pix: a picture as bytes; the chapter's example. -/
namespace Go.Proofs.Ytfafijhmjnkjeaa
set_option linter.all false
open Go.RowKit

/-- A picture's bytes. -/
def Sh.bytes (s : Sh) : List UInt8 := beB s.w.toNat 2 ++ beB s.h.toNat 2 ++ [UInt8.ofNat s.c.toNat, UInt8.ofNat s.d.toNat]
def Sh.enc (s : Sh) (bs : List UInt8) : List UInt8 × Int := if s.mayR bs.length then ([82] ++ s.bytes ++ bs, 0) else ([], 4)
theorem mayR_nums' {s : Sh} {n : Nat} (h : s.mayR n = true) : s.nums = true ∧ (n : Int) ≤ 16384 := by
  unfold Sh.mayR Sh.may at h
  simp at h
  exact ⟨h.1.1, by omega⟩
theorem big2 (n : Int) (h0 : 0 ≤ n) (h1 : n ≤ 65535) : beR n 2 = (beB n.toNat 2, 0) := by
  unfold beR
  rw [if_pos]
  · rfl
  · refine ⟨by omega, by omega, h0, ?_⟩
    show n / 65536 ≤ 0
    omega

end Go.Proofs.Ytfafijhmjnkjeaa

/- pix: bytes as a picture. -/
namespace Go.Proofs.Ytfafijhmjnkjeaa
set_option linter.all false
open Go.RowKit

def sh7 (a b c d e f : UInt8) : Sh := ⟨((a.toNat * 256 + b.toNat : Nat) : Int), ((c.toNat * 256 + d.toNat : Nat) : Int), (e.toNat : Int), (f.toNat : Int)⟩
def decE : List UInt8 → Int
  | a :: b :: c :: d :: e :: f :: g :: t => if a = 82 ∧ (sh7 b c d e f g).may = true then (if (t.length : Int) < (sh7 b c d e f g).size then 2 else if (sh7 b c d e f g).size < t.length then 3 else 0) else 4
  | _ => 2
def decS (l : List UInt8) : Sh × List UInt8 := if decE l = 0 then
    (match l with
    | _ :: b :: c :: d :: e :: f :: g :: t => (sh7 b c d e f g, t)
    | _ => (⟨0, 0, 0, 0⟩, [])) else (⟨0, 0, 0, 0⟩, [])

theorem decE_short {l : List UInt8} (h : l.length < 7) : decE l = 2 := by
  match l with
  | [] => rfl
  | [_] => rfl
  | [_, _] => rfl
  | [_, _, _] => rfl
  | [_, _, _, _] => rfl
  | [_, _, _, _, _] => rfl
  | [_, _, _, _, _, _] => rfl
  | _ :: _ :: _ :: _ :: _ :: _ :: _ :: t => simp at h; omega
theorem long7 {l : List UInt8} (h : 7 ≤ l.length) : ∃ a b c d e f g t, l = a :: b :: c :: d :: e :: f :: g :: t := by
  match l with
  | a :: b :: c :: d :: e :: f :: g :: t => exact ⟨a, b, c, d, e, f, g, t, rfl⟩
  | [] => simp at h
  | [_] => simp at h
  | [_, _] => simp at h
  | [_, _, _] => simp at h
  | [_, _, _, _] => simp at h
  | [_, _, _, _, _] => simp at h
  | [_, _, _, _, _, _] => simp at h

theorem rd12 (a b c d e f g : UInt8) (t : List UInt8) : rdR beV (a :: b :: c :: d :: e :: f :: g :: t) 1 2 = (((b.toNat * 256 + c.toNat : Nat) : Int), 0) ∧ rdR beV (a :: b :: c :: d :: e :: f :: g :: t) 3 2 = (((d.toNat * 256 + e.toNat : Nat) : Int), 0) := by
  constructor <;>
  · unfold rdR
    rw [if_neg (by simp; omega), if_neg (by simp; omega)]
    simp [beV]

end Go.Proofs.Ytfafijhmjnkjeaa

/- pix: a picture's bytes, by the reference. -/
namespace Go.Proofs.Ytfafijhmjnkjeaa
set_option linter.all false
open Go.RowKit

theorem beB2 (n : Nat) : beB n 2 = [UInt8.ofNat (n / 256), UInt8.ofNat n] := by
  unfold beB leB
  rw [show List.range 2 = [0, 1] from rfl]
  simp
theorem u8_of (n : Nat) : ((UInt8.ofNat n).toNat : Int) = (n : Int) % 256 := by rw [UInt8.toNat_ofNat']; omega
theorem cb_bytes {W H C D : Int} (hn : (⟨W, H, C, D⟩ : Sh).nums = true) : (cb (⟨W, H, C, D⟩ : Sh).bytes).toArray = #[.int .u8 (W / 256), .int .u8 (W % 256), .int .u8 (H / 256), .int .u8 (H % 256), .int .u8 C, .int .u8 D] ∧ (⟨W, H, C, D⟩ : Sh).bytes.length = 6 := by
  obtain ⟨⟨w1, w2⟩, ⟨h1, h2⟩, ⟨q1, q2⟩, hd⟩ := (Sh.nums_iff _).1 hn
  dsimp only at w1 w2 h1 h2 q1 q2 hd
  unfold Sh.bytes
  dsimp only
  rw [beB2, beB2]
  constructor
  · simp only [cb, List.cons_append, List.nil_append, List.map_cons, List.map_nil, u8_of]
    have e1 : ((W.toNat / 256 : Nat) : Int) % 256 = W / 256 := by omega
    have e2 : ((W.toNat : Nat) : Int) % 256 = W % 256 := by omega
    have e3 : ((H.toNat / 256 : Nat) : Int) % 256 = H / 256 := by omega
    have e4 : ((H.toNat : Nat) : Int) % 256 = H % 256 := by omega
    have e5 : ((C.toNat : Nat) : Int) % 256 = C := by omega
    have e6 : ((D.toNat : Nat) : Int) % 256 = D := by omega
    rw [e1, e2, e3, e4, e5, e6]
  · rfl

end Go.Proofs.Ytfafijhmjnkjeaa

