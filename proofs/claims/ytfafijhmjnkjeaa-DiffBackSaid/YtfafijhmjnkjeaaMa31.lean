/- Merged: Bigs, Pack, RdP. -/
import Derived.Test.YtfafijhmjnkjeaaMa10
import Derived.Test.YtfafijhmjnkjeaaMa30
import Derived.Test.YtfafijhmjnkjeaaMa29
import Derived.Test.YtfafijhmjnkjeaaMa27
import Derived.Test.YtfafijhmjnkjeaaMa26
import Derived.Test.YtfafijhmjnkjeaaMa01
set_option linter.all false
namespace Go.Proofs.Ytfafijhmjnkjeaa
open Go.RowKit

theorem there_ok (B n c : Nat) (A : Option Addr) (bs : List UInt8) (k W : Nat) (w : World) (h : RdB w B A n bs) (hc : n ≤ c) (hm : n ≤ 140737488355328) (h1 : 1 ≤ W) (h2 : W ≤ 6) (h3 : k + W ≤ n) :
    Calls Try.prog 73 #[.slice A n c, .int .i64 k, .int .i64 W] w fun e w' => ∃ A' c', e = .returned (.tuple #[.slice A' W c', .int .i64 0]) ∧
      RdB w B A' W ((bs.drop k).take W) ∧ w = w' := by
  obtain rfl := h.len
  have d1 : decide ((W : Int) < 1) = false := by simp; omega
  have d2 : decide (6 < (W : Int)) = false := by simp; omega
  have d3 : decide ((k : Int) < 0) = false := by simp
  have d4 : decide ((bs.length : Int) < (k : Int)) = false := by simp; omega
  go_enter Try.func73, Try.ntmps73
  go_wp2
  go_ret2
  exact ⟨A.map (·.add k), c - k, ret_tup2 (show Value.slice _ (k + W - k) _ = _ by rw [Nat.add_sub_cancel_left]) rfl, h.cut (by omega) (fun _ => rfl), rfl⟩

theorem there_bad (B n c : Nat) (A : Option Addr) (bs : List UInt8) (k W : Int) (w : World) (h : RdB w B A n bs) (hm : n ≤ 140737488355328) (h1 : W < 1 ∨ 6 < W ∨ k < 0 ∨ (n : Int) < k) :
    Calls Try.prog 73 #[.slice A n c, .int .i64 k, .int .i64 W] w fun e w' => e = .returned (.tuple #[.slice none 0 0, .int .i64 1]) ∧ w = w' := by
  obtain rfl := h.len
  by_cases c1 : W < 1
  · have d1 : decide (W < 1) = true := by simp; omega
    go_enter Try.func73, Try.ntmps73
    go_wp2
    go_ret2
    exact ⟨rfl, rfl⟩
  have d1 : decide (W < 1) = false := by simp; omega
  by_cases c2 : 6 < W
  · have d2 : decide (6 < W) = true := by simp; omega
    go_enter Try.func73, Try.ntmps73
    go_wp2
    go_ret2
    exact ⟨rfl, rfl⟩
  have d2 : decide (6 < W) = false := by simp; omega
  by_cases c3 : k < 0
  · have d3 : decide (k < 0) = true := by simp; omega
    go_enter Try.func73, Try.ntmps73
    go_wp2
    go_ret2
    exact ⟨rfl, rfl⟩
  have d3 : decide (k < 0) = false := by simp; omega
  have d4 : decide ((bs.length : Int) < k) = true := by simp; omega
  go_enter Try.func73, Try.ntmps73
  go_wp2
  go_ret2
  exact ⟨rfl, rfl⟩

theorem there_short (B n c : Nat) (A : Option Addr) (bs : List UInt8) (k W : Int) (w : World) (h : RdB w B A n bs) (hm : n ≤ 140737488355328) (h1 : 1 ≤ W) (h2 : W ≤ 6) (h3 : 0 ≤ k) (h4 : k ≤ n) (h5 : n - k < W) :
    Calls Try.prog 73 #[.slice A n c, .int .i64 k, .int .i64 W] w fun e w' => e = .returned (.tuple #[.slice none 0 0, .int .i64 2]) ∧ w = w' := by
  obtain rfl := h.len
  have d1 : decide (W < 1) = false := by simp; omega
  have d2 : decide (6 < W) = false := by simp; omega
  have d3 : decide (k < 0) = false := by simp; omega
  have d4 : decide ((bs.length : Int) < k) = false := by simp; omega
  go_enter Try.func73, Try.ntmps73
  go_wp2
  go_ret2
  exact ⟨rfl, rfl⟩

def beV (l : List UInt8) : Nat := l.foldl (fun n x => n * 256 + x.toNat) 0
theorem beV_step (l : List UInt8) (k : Nat) (h : k < l.length) : beV (l.take (k + 1)) = beV (l.take k) * 256 + l[k].toNat := by
  unfold beV
  rw [List.take_succ_eq_append_getElem h, List.foldl_append]
  rfl
theorem beV_lt (l : List UInt8) : ∀ k, k ≤ l.length → beV (l.take k) < 256 ^ k
  | 0, _ => by simp [beV]
  | k + 1, h => by
    rw [beV_step l k (by omega), Nat.pow_succ]
    have := beV_lt l k (by omega)
    have := l[k].toNat_lt
    omega
theorem beV_lt6 (l : List UInt8) (k : Nat) (h : k ≤ l.length) (hk : k ≤ 6) : beV (l.take k) < 281474976710656 :=
  Nat.lt_of_lt_of_le (beV_lt l k h) (Nat.le_trans (Nat.pow_le_pow_right (by omega) hk) (by omega))
theorem or_be (y x : Nat) (hy : y < 281474976710656) (hx : x < 256) : bits .or .i64 ((y : Int) * 256) (x : Int) = ((y * 256 + x : Nat) : Int) := by
  have := i64_or_nat (y * 256) x (by omega) (by omega)
  rw [nat_join 8 _ _ (by omega) (by omega)] at this
  rw [← this]
  simp

theorem readBig_err (B n c : Nat) (A : Option Addr) (bs : List UInt8) (k W : Int) (w : World) (E : Int) (h : RdB w B A n bs)
    (ht : Calls Try.prog 73 #[.slice A n c, .int .i64 k, .int .i64 W] w fun e w' => e = .returned (.tuple #[.slice none 0 0, .int .i64 E]) ∧ w = w') :
    Calls Try.prog 41 #[.slice A n c, .int .i64 k, .int .i64 W] w fun e w' => e = .returned (.tuple #[.int .i64 0, .int .i64 E]) ∧ w = w' := by
  have HT := Lib.hid ht
  clear ht
  go_enter Try.func41, Try.ntmps41
  go_wp2_with (go_at_call 73; refine HT.out.mono ?_; rintro e w' ⟨rfl, rfl⟩)
  refine wp_loop_rounds 1 ?_
  rw [rounds_succ]
  go_wp2
  go_ret2
  exact ⟨rfl, rfl⟩

set_option maxHeartbeats 400000 in
theorem readBig_ok (B n c : Nat) (A : Option Addr) (bs : List UInt8) (k W : Nat) (w : World) (h : RdB w B A n bs) (hc : n ≤ c) (hm : n ≤ 140737488355328) (h1 : 1 ≤ W) (h2 : W ≤ 6) (h3 : k + W ≤ n) :
    Calls Try.prog 41 #[.slice A n c, .int .i64 k, .int .i64 W] w fun e w' => e = .returned (.tuple #[.int .i64 (beV ((bs.drop k).take W)), .int .i64 0]) ∧ w = w' := by
  go_enter Try.func41, Try.ntmps41
  go_wp2_with (go_at_call 73; refine (there_ok B n c A bs k W _ h hc hm h1 h2 h3).mono ?_; rintro e w' ⟨A', c', rfl, hr, rfl⟩)
  generalize hL : (bs.drop k).take W = l at hr
  have HL := Lib.hid hL
  clear hL
  obtain rfl := hr.len
  go_loop [10, 22] (fun s i => ∃ k : Nat, k ≤ l.length ∧ i = .int .i64 k ∧ s = .int .i64 (beV (l.take k))) (fun _ i => l.length - (intOf i).toNat)
  case atStart => exact ⟨0, Nat.zero_le _, rfl, rfl⟩
  case round =>
    obtain ⟨k, hk, rfl, rfl⟩ := hrel
    by_cases hlt : k < l.length
    · obtain ⟨b, o, rfl, _, hc⟩ := hr.at_ (by omega)
      have hck := hc k (by omega)
      clear hc
      have hp := beV_lt6 l k (by omega) (by omega)
      have hx := l[k].toNat_lt
      have Hs := Lib.hid (beV_step l k (by omega))
      go_wp2
      go_round
      case rel => exact ⟨k + 1, by omega, by go_num, by rw [Hs.out, or_be _ _ hp (by omega)]⟩
      case measure => simp [intOf]; omega
    · have : k = l.length := by omega
      subst this
      go_wp2
      go_ret2
      exact ⟨by rw [HL.out]; rfl, rfl⟩

def numOk (n width : Int) : Prop := 1 ≤ width ∧ width ≤ 6 ∧ 0 ≤ n ∧ n / 2 ^ (8 * width.toNat) ≤ 0
instance (n width : Int) : Decidable (numOk n width) := by unfold numOk; infer_instance
def leR (n width : Int) : List UInt8 × Int := if numOk n width then (leB n.toNat width.toNat, 0) else ([], 1)
def beR (n width : Int) : List UInt8 × Int := if numOk n width then (beB n.toNat width.toNat, 0) else ([], 1)

theorem numBad {n width : Int} (h : ¬ numOk n width) : width < 1 ∨ 6 < width ∨ n < 0 ∨ (0 ≤ n ∧ 1 ≤ width ∧ width ≤ 6 ∧ 0 < n / 2 ^ (8 * width).toNat) := by
  unfold numOk at h
  by_cases h1 : width < 1
  · exact .inl h1
  by_cases h2 : 6 < width
  · exact .inr (.inl h2)
  by_cases h3 : n < 0
  · exact .inr (.inr (.inl h3))
  refine .inr (.inr (.inr ⟨by omega, by omega, by omega, ?_⟩))
  rw [show (8 * width).toNat = 8 * width.toNat by omega]
  omega

theorem big_any (n width : Int) (w : World) :
    Calls Try.prog 39 #[.int .i64 n, .int .i64 width] w fun e w' => ∃ v, e = .returned (.tuple #[v, .int .i64 (beR n width).2]) ∧ ownB w' w.heap.size v (beR n width).1 ∧ Below w.heap.size w w' := by
  unfold beR
  by_cases h : numOk n width
  · rw [if_pos h]
    obtain ⟨h1, h2, h3, h4⟩ := h
    obtain ⟨W, rfl⟩ := Int.eq_ofNat_of_zero_le (by omega : 0 ≤ width)
    rw [Int.toNat_natCast] at h4 ⊢
    exact big_ok n W w h3 (by omega) (by omega) (by simp; omega)
  · rw [if_neg h]
    refine (big_bad n width w (numBad h)).mono ?_
    rintro e w' ⟨rfl, hb⟩
    exact ⟨_, rfl, ownB.nil_ _ _, hb⟩

/-- What a reading tells. -/
def rdR (f : List UInt8 → Nat) (bs : List UInt8) (k W : Int) : Int × Int :=
  if W < 1 ∨ 6 < W ∨ k < 0 ∨ (bs.length : Int) < k then (0, 1) else if (bs.length : Int) - k < W then (0, 2) else (f ((bs.drop k.toNat).take W.toNat), 0)

theorem readBig_any (B n c : Nat) (A : Option Addr) (bs : List UInt8) (k W : Int) (w : World) (h : RdB w B A n bs) (hc : n ≤ c) (hm : n ≤ 140737488355328) :
    Calls Try.prog 41 #[.slice A n c, .int .i64 k, .int .i64 W] w fun e w' => e = .returned (.tuple #[.int .i64 (rdR beV bs k W).1, .int .i64 (rdR beV bs k W).2]) ∧ w = w' := by
  have hl := h.len
  unfold rdR
  by_cases h1 : W < 1 ∨ 6 < W ∨ k < 0 ∨ (bs.length : Int) < k
  · rw [if_pos h1]
    exact readBig_err B n c A bs k W w 1 h (there_bad B n c A bs k W w h hm (by rw [← hl]; exact h1))
  · rw [if_neg h1]
    by_cases h2 : (bs.length : Int) - k < W
    · rw [if_pos h2]
      exact readBig_err B n c A bs k W w 2 h (there_short B n c A bs k W w h hm (by omega) (by omega) (by omega) (by omega) (by omega))
    · rw [if_neg h2]
      obtain ⟨k, rfl⟩ := Int.eq_ofNat_of_zero_le (by omega : 0 ≤ k)
      obtain ⟨W, rfl⟩ := Int.eq_ofNat_of_zero_le (by omega : 0 ≤ W)
      exact readBig_ok B n c A bs k W w h hc hm (by omega) (by omega) (by omega)

end Go.Proofs.Ytfafijhmjnkjeaa

/- flate and zlib: Deflate and Pack of any bytes. -/
namespace Go.Proofs.Ytfafijhmjnkjeaa
set_option linter.all false
open Go.RowKit

theorem deflate_all (B n c : Nat) (A : Option Addr) (bs : List UInt8) (w : World) (h : RdB w B A n bs) (hB : B ≤ w.heap.size) (hn : n ≤ 40000) (hcap : n ≤ c) :
    Calls Try.prog 24 #[.slice A n c] w fun e w' => ∃ v bz, e = .returned (.tuple #[v, .int .i64 0]) ∧ ownB w' w.heap.size v bz ∧ WB bz (deflB bs (findP bs)) ∧ Below w.heap.size w w' :=
  deflate_any B n c A bs (findP bs) w h hB hn (find_any B n c A bs w h hB hn hcap) (findP_ok bs).1 (by have := (findP_ok bs).2; have := h.len; omega)
theorem best_len {bs bz : List UInt8} (hw : WB bz (deflB bs (findP bs))) : bz.length ≤ bs.length + 5 := (best_le (findP_ok bs).1 hw).2
/-- append, behind a guard. -/
theorem wpList_appendBg {w : World} {ops : Array Oper} {rest : List Oper} {o : Oper} {a : Act} {Q : Exit → Act → World → Prop} (hw : Region.wanted o (yielded ops a.tmps) = true) (s x : Operand)
    (ho : o.op = .call { callee := .builtin .append, args := #[s, x], argTypes := #[22, 22] })
    (base : Nat) (v : Value) (bs : List UInt8) (hs : a.eval s = v) (hown : ownB w base v bs) (B m c : Nat) (A : Option Addr) (news : List UInt8) (hx : a.eval x = .slice A m c) (hr : RdB w B A m news)
    (hb : bs.length + m ≤ 140737488355328) (hbase : base ≤ w.heap.size)
    (h : ∀ v' w', ownB w' base v' (bs ++ news) → w.grownBy w' v.ownBlock → Below base w w' → (v'.ownBlock = v.ownBlock ∨ v'.ownBlock = some w.heap.size) → wpList Try.prog ops Q rest (a.put o.dst v') w') :
    wpList Try.prog ops Q (o :: rest) a w := by
  refine wpList_step fun K hK => ?_
  rw [if_pos hw]
  obtain ⟨v', w', hrun, h2, h3, h4, _⟩ := run_appendB w base o.type v bs hown B m c A news hr hb hbase
  unfold Oper.wp execOp
  simp only [ho, resolve, invoke, builtin, Sem.run_bind, Sem.run_pure, Result.andThen_ok, List.map_toArray, List.map_cons, List.map_nil, hs, hx, hrun]
  exact hK _ _ (h v' w' h2 h3 ((Below.refl _ _).grown h3 hbase (fun k hk => (World.ownsRow.lt hown k hk).1)) h4)
theorem adler_lt (bs : List UInt8) : adler bs < 4294967296 := by
  have h := adP_lt bs
  have e : adler bs = (adP bs).2 * 65536 + (adP bs).1 := rfl
  omega
theorem big4 {x : Nat} (h : x < 4294967296) : ∃ S, beR (x : Int) 4 = (S, 0) ∧ S.length = 4 := by
  have hk : numOk (x : Int) 4 := ⟨by omega, by omega, by omega, by show (x : Int) / 2 ^ (8 * 4) ≤ 0; omega⟩
  exact ⟨beB x 4, by unfold beR; rw [if_pos hk]; rfl, beB_len _ _⟩
/-- A frame's bytes. -/
def packL (bz S : List UInt8) : List UInt8 := [120, 156] ++ bz ++ S
set_option maxRecDepth 100000 in
set_option maxHeartbeats 3200000 in
theorem pack_any (B n c : Nat) (A : Option Addr) (bs S : List UInt8) (w : World) (h : RdB w B A n bs) (hB : B ≤ w.heap.size) (hn : n ≤ 40000) (hcap : n ≤ c) (hS : beR ((adler bs : Nat) : Int) 4 = (S, 0)) (hS4 : S.length = 4) :
    Calls Try.prog 13 #[.slice A n c] w fun e w' => ∃ v bz, e = .returned (.tuple #[v, .int .i64 0]) ∧ ownB w' w.heap.size v (packL bz S) ∧ WB bz (deflB bs (findP bs)) ∧ Below w.heap.size w w' := by
  have HD := Lib.hid (deflate_all B n c A bs w h hB hn hcap)
  have HR := Lib.hid h
  have hx := adler_lt bs
  have HAD := Lib.hid (fun w1 (h : RdB w1 B A n bs) => adler_any B n c A bs w1 h (by omega))
  have HBG := Lib.hid (fun w => big_any ((adler bs : Nat) : Int) 4 w)
  rw [hS] at HBG
  have hl := h.len
  generalize adler bs = x at *
  clear h hS
  go_enter Try.func13, Try.ntmps13
  go_wp2_with (first
    | (go_at_call 24; (with_reducible refine HD.out.mono ?_); go_must (rintro e w1 ⟨v1, bz, rfl, ho1, hz1, hb1⟩; have hbz := best_len hz1; obtain ⟨A1, c1, rfl, hr1, -, -⟩ := ho1.form; have HAD1 := Lib.hid (HAD.out w1 (HR.out.blw (hb1.mono hB))); have HR1 := Lib.hid hr1; have HB1 := Lib.hid hb1; have HZ1 := Lib.hid hz1; have hsz1 := hb1.size; clear ho1 hz1 hb1 hr1))
    | (go_at_call 40; (with_reducible refine HAD1.out.mono ?_); go_must (rintro e w2 ⟨rfl, rfl⟩))
    | (go_at_call 39; (with_reducible refine (HBG.out _).mono ?_); go_must (rintro e w3 ⟨v3, rfl, ho3, hb3⟩; obtain ⟨A3, c3, rfl, -, -, -⟩ := ho3.form; have hr3 := ownB.rd ho3; rw [hS4] at hr3; have HR3 := Lib.hid (Rd.alloc hr3 (Nat.le_refl _) (.cells #[Value.int .u8 120, Value.int .u8 156] 5)); have HR13 := Lib.hid (Rd.alloc (RdB.blw HR1.out hb3) hb3.size (.cells #[Value.int .u8 120, Value.int .u8 156] 5)); have hsz3 := hb3.size; have HB3 := Lib.hid (HB1.out.trans (hb3.mono hsz1)); have HOL := Lib.hid (own_lit w3 [120, 156] (by decide)); have hqa : w3.heap.size ≤ (w3.alloc (.cells #[Value.int .u8 120, Value.int .u8 156] 5)).heap.size := alloc_le _ _; have hqb : ([120, 156] : List UInt8).length + bz.length ≤ 140737488355328 := (by show 2 + bz.length ≤ _; omega); clear ho3 hb3 hr3))
    | (at_builtin; (refine wpList_appendB rfl (.tmp 25) (.tmp 26) rfl w3.heap.size v4 ([120, 156] ++ bz) rfl HO4.out _ 4 c3 A3 S rfl HR4.out hqc hqd ?_; intro v5 w5 ho5 hg5 hb5 ha5; have HB5 := Lib.hid (HB4.out.trans (hb5.mono (by omega))); have HO5 := Lib.hid (ownB.mono ho5 (by omega : w.heap.size ≤ w3.heap.size)); clear ho5 hg5 hb5 ha5))
    | (at_builtin; (refine wpList_appendB rfl (.tmp 23) (.tmp 24) rfl w3.heap.size (.slice (some ⟨w3.heap.size, 0, none⟩) 2 2) [120, 156] rfl HOL.out w1.heap.size bz.length c1 A1 bz rfl HR13.out hqb hqa ?_; intro v4 w4 ho4 hg4 hb4 ha4; have hz4 := hb4.size; have hqd : w3.heap.size ≤ w4.heap.size := (by omega); have hqc : (([120, 156] : List UInt8) ++ bz).length + 4 ≤ 140737488355328 := (by rw [List.length_append]; show 2 + bz.length + 4 ≤ _; omega); have HR4 := Lib.hid (Rd.below HR3.out hb4); have HB4 := Lib.hid ((HB3.out.alloc (by omega) (.cells #[Value.int .u8 120, Value.int .u8 156] 5)).trans (hb4.mono (by omega))); have HO4 := Lib.hid ho4; clear ho4 hg4 hb4 ha4)))
  go_ret2
  exact ⟨_, bz, rfl, HO5.out, HZ1.out, HB5.out⟩
end Go.Proofs.Ytfafijhmjnkjeaa

/- flate: what a reader of blocks does, plainly. -/
namespace Go.Proofs.Ytfafijhmjnkjeaa
set_option linter.all false

/-- How far it has come, what came out, its error. -/
structure RS where
  p : Nat
  out : List UInt8
  e : Int
def RS.fail (s : RS) (e : Int) : RS := if s.e = 0 then ⟨s.p, s.out, e⟩ else s
def getP (bs : List UInt8) (s : RS) (m : Nat) : Nat × RS := if s.e = 0 then (if s.p + m ≤ 8 * bs.length then (getV bs s.p m, ⟨s.p + m, s.out, 0⟩) else (0, ⟨s.p, s.out, 2⟩)) else (0, s)
def nextP (bs : List UInt8) (ls : List Int) (s : RS) : Int × RS := if s.e = 0 then ((nx ls bs 15 1 0 s.p).1, ⟨(nx ls bs 15 1 0 s.p).2.2, s.out, (nx ls bs 15 1 0 s.p).2.1⟩) else (0, s)
def givesP (most : Int) (s : RS) (x : UInt8) : RS := if most ≤ (s.out.length : Int) then s.fail 10 else ⟨s.p, s.out ++ [x], s.e⟩
def plnF (bs : List UInt8) (most : Int) : Nat → RS → RS
  | 0, s => s
  | k + 1, s => if s.e = 0 then (if (getP bs s 8).2.e = 0 then plnF bs most k (givesP most (getP bs s 8).2 (UInt8.ofNat (getP bs s 8).1)) else (getP bs s 8).2) else s
def cpyF (most : Int) (dist : Nat) : Nat → RS → RS
  | 0, s => s
  | k + 1, s => if s.e = 0 then cpyF most dist k (givesP most s (s.out.getD (s.out.length - dist) 0)) else s
def copiesP (most : Int) (s : RS) (len dist : Nat) : RS := cpyF most dist len (if s.out.length < dist then s.fail 1 else s)
/-- A stored block. -/
def pl0 (s : RS) : RS := ⟨8 * ((s.p + 7) / 8), s.out, s.e⟩
def pl2 (bs : List UInt8) (s : RS) : RS := (getP bs (getP bs (pl0 s) 16).2 16).2
def pl3 (bs : List UInt8) (s : RS) : RS := if (pl2 bs s).e = 0 ∧ ¬ (getP bs (pl0 s) 16).1 + (getP bs (getP bs (pl0 s) 16).2 16).1 = 65535 then (pl2 bs s).fail 4 else pl2 bs s
def plainP (bs : List UInt8) (most : Int) (s : RS) : RS := plnF bs most (getP bs (pl0 s) 16).1 (pl3 bs s)
theorem plnF_err {bs : List UInt8} {most : Int} {k : Nat} {s : RS} (h : ¬ s.e = 0) : plnF bs most k s = s := by
  cases k with
  | zero => rfl
  | succ k => exact if_neg h
theorem cpyF_err {most : Int} {dist k : Nat} {s : RS} (h : ¬ s.e = 0) : cpyF most dist k s = s := by
  cases k with
  | zero => rfl
  | succ k => exact if_neg h
theorem getP_lt (bs : List UInt8) (s : RS) {m : Nat} (hm : m ≤ 24) : (getP bs s m).1 < 2 ^ m := by
  unfold getP
  split
  · split
    · exact getV_lt bs s.p m
    · exact Nat.two_pow_pos m
  · exact Nat.two_pow_pos m
theorem nx_val (ls : List Int) (bs : List UInt8) : ∀ f t v P, ∃ p : Nat, (nx ls bs f t v P).1 = (p : Int) ∧ (p = 0 ∨ p < ls.length) ∧ (¬ (nx ls bs f t v P).2.1 = 0 → p = 0)
  | 0, t, v, P => ⟨0, rfl, .inl rfl, fun _ => rfl⟩
  | f + 1, t, v, P => by
    rw [nx]
    split
    · exact ⟨0, rfl, .inl rfl, fun _ => rfl⟩
    · split
      · rename_i p hp
        refine ⟨p, rfl, .inr ?_, fun h => absurd rfl h⟩
        have := List.mem_of_find?_eq_some hp
        exact List.mem_range.1 this
      · exact nx_val ls bs f (t + 1) (v * 2 + bitAt bs P) (P + 1)
theorem nextP_val (bs : List UInt8) (ls : List Int) (s : RS) : ∃ p : Nat, (nextP bs ls s).1 = (p : Int) ∧ (p = 0 ∨ p < ls.length) ∧ (¬ (nextP bs ls s).2.e = 0 → p = 0) := by
  unfold nextP
  split
  · exact nx_val ls bs 15 1 0 s.p
  · exact ⟨0, rfl, .inl rfl, fun _ => rfl⟩
/-- What stands behind a length: a distance, what came out copied. -/
def cpB (bs : List UInt8) (most : Int) (s : RS) (len : Nat) : Option (List Int) → RS
  | none => s.fail 1
  | some ds =>
    if (nextP bs ds s).2.e = 0 ∧ 30 ≤ (nextP bs ds s).1 then (nextP bs ds s).2.fail 4
    else copiesP most (getP bs (nextP bs ds s).2 (distOf (nextP bs ds s).1.toNat).2).2 len ((distOf (nextP bs ds s).1.toNat).1 + (getP bs (nextP bs ds s).2 (distOf (nextP bs ds s).1.toNat).2).1)
/-- What stands behind a length's symbol. -/
def copyP (bs : List UInt8) (most : Int) (s : RS) (q : Nat) (dl : Option (List Int)) : RS :=
  if 286 ≤ q then s.fail 4
  else if (getP bs s (lenOf (q - 257)).2).2.e = 0 then cpB bs most (getP bs s (lenOf (q - 257)).2).2 ((lenOf (q - 257)).1 + (getP bs s (lenOf (q - 257)).2).1) dl
  else (getP bs s (lenOf (q - 257)).2).2
theorem fail_out (s : RS) (e : Int) : (s.fail e).out = s.out := by unfold RS.fail; split <;> rfl
theorem getP_out (bs : List UInt8) (s : RS) (m : Nat) : (getP bs s m).2.out = s.out := by
  unfold getP
  split
  · split <;> rfl
  · rfl
theorem nextP_out (bs : List UInt8) (ls : List Int) (s : RS) : (nextP bs ls s).2.out = s.out := by
  unfold nextP
  split <;> rfl
theorem givesP_le {most : Int} {s : RS} {x : UInt8} (h : (s.out.length : Int) ≤ most) : ((givesP most s x).out.length : Int) ≤ most := by
  unfold givesP
  split
  · rw [fail_out]; exact h
  · rw [List.length_append]
    show ((s.out.length + 1 : Nat) : Int) ≤ most
    omega
theorem cpyF_le {most : Int} {dist : Nat} : ∀ (k : Nat) {s : RS}, (s.out.length : Int) ≤ most → ((cpyF most dist k s).out.length : Int) ≤ most
  | 0, s, h => h
  | k + 1, s, h => by
    unfold cpyF
    split
    · exact cpyF_le k (givesP_le h)
    · exact h
theorem plnF_le {bs : List UInt8} {most : Int} : ∀ (k : Nat) {s : RS}, (s.out.length : Int) ≤ most → ((plnF bs most k s).out.length : Int) ≤ most
  | 0, s, h => h
  | k + 1, s, h => by
    unfold plnF
    split
    · split
      · exact plnF_le k (givesP_le (by rw [getP_out]; exact h))
      · rw [getP_out]; exact h
    · exact h
theorem copiesP_le {most : Int} {s : RS} {len dist : Nat} (h : (s.out.length : Int) ≤ most) : ((copiesP most s len dist).out.length : Int) ≤ most := by
  unfold copiesP
  refine cpyF_le len ?_
  split
  · rw [fail_out]; exact h
  · exact h
theorem cpB_le {bs : List UInt8} {most : Int} {s : RS} {len : Nat} {dl : Option (List Int)} (h : (s.out.length : Int) ≤ most) : ((cpB bs most s len dl).out.length : Int) ≤ most := by
  cases dl with
  | none =>
    show ((s.fail 1).out.length : Int) ≤ most
    rw [fail_out]; exact h
  | some ds =>
    rw [cpB]
    split
    · rw [fail_out, nextP_out]; exact h
    · exact copiesP_le (by rw [getP_out, nextP_out]; exact h)
theorem copyP_le {bs : List UInt8} {most : Int} {s : RS} {q : Nat} {dl : Option (List Int)} (h : (s.out.length : Int) ≤ most) : ((copyP bs most s q dl).out.length : Int) ≤ most := by
  unfold copyP
  split
  · rw [fail_out]; exact h
  · split
    · exact cpB_le (by rw [getP_out]; exact h)
    · rw [getP_out]; exact h
theorem plainP_le {bs : List UInt8} {most : Int} {s : RS} (h : (s.out.length : Int) ≤ most) : ((plainP bs most s).out.length : Int) ≤ most := by
  have e2 : (pl2 bs s).out = s.out := by unfold pl2; rw [getP_out, getP_out]; rfl
  refine plnF_le _ ?_
  unfold pl3
  split
  · rw [fail_out, e2]; exact h
  · rw [e2]; exact h
/-- Tokens up to the end. -/
def toksF (bs : List UInt8) (most : Int) (ll : List Int) (dl : Option (List Int)) : Nat → RS → RS
  | 0, s => s
  | f + 1, s =>
    if s.e = 0 then
      if (nextP bs ll s).2.e = 0 then
        if (nextP bs ll s).1 = 256 then (nextP bs ll s).2
        else if (nextP bs ll s).1 < 256 then toksF bs most ll dl f (givesP most (nextP bs ll s).2 (UInt8.ofNat (nextP bs ll s).1.toNat))
        else toksF bs most ll dl f (copyP bs most (nextP bs ll s).2 (nextP bs ll s).1.toNat dl)
      else (nextP bs ll s).2
    else s
theorem toksF_err {bs : List UInt8} {most : Int} {ll : List Int} {dl : Option (List Int)} {f : Nat} {s : RS} (h : ¬ s.e = 0) : toksF bs most ll dl f s = s := by
  cases f with
  | zero => rfl
  | succ f => exact if_neg h
/-- A code is good. -/
def OkL (ls : List Int) : Prop := badL ls = false ∧ krN ls ≤ 32768 ∧ ls.length ≤ 300
theorem fail_p (s : RS) (e : Int) : (s.fail e).p = s.p := by unfold RS.fail; split <;> rfl
theorem getP_p (bs : List UInt8) (s : RS) (m : Nat) : s.p ≤ (getP bs s m).2.p := by
  unfold getP
  split
  · split
    · exact Nat.le_add_right _ _
    · exact Nat.le_refl _
  · exact Nat.le_refl _
theorem givesP_p (most : Int) (s : RS) (x : UInt8) : (givesP most s x).p = s.p := by
  unfold givesP
  split
  · exact fail_p s 10
  · rfl
theorem cpyF_p (most : Int) (dist : Nat) : ∀ (k : Nat) (s : RS), (cpyF most dist k s).p = s.p
  | 0, s => rfl
  | k + 1, s => by
    unfold cpyF
    split
    · rw [cpyF_p, givesP_p]
    · rfl
theorem copiesP_p (most : Int) (s : RS) (len dist : Nat) : (copiesP most s len dist).p = s.p := by
  unfold copiesP
  rw [cpyF_p]
  split
  · exact fail_p s 1
  · rfl
theorem nx_step (ls : List Int) (bs : List UInt8) : ∀ f t v P, (nx ls bs f t v P).2.1 = 0 → P < (nx ls bs f t v P).2.2
  | 0, t, v, P, h => absurd (show (4 : Int) = 0 from h) (by decide)
  | f + 1, t, v, P, h => by
    rw [nx] at h ⊢
    split at h
    · exact absurd (show (2 : Int) = 0 from h) (by decide)
    · rename_i h2
      rw [if_neg h2]
      split at h
      · exact Nat.lt_succ_self P
      · have := nx_step ls bs f (t + 1) (v * 2 + bitAt bs P) (P + 1) h
        omega
theorem nextP_p {bs : List UInt8} {ls : List Int} {s : RS} (h : s.e = 0) (h2 : (nextP bs ls s).2.e = 0) : s.p < (nextP bs ls s).2.p := by
  unfold nextP at h2 ⊢
  rw [if_pos h] at h2 ⊢
  exact nx_step ls bs 15 1 0 s.p h2
theorem nextP_pp (bs : List UInt8) (ls : List Int) (s : RS) (hs : s.p ≤ 8 * bs.length) : s.p ≤ (nextP bs ls s).2.p := by
  unfold nextP
  split
  · have key : ∀ f t v P, P ≤ (nx ls bs f t v P).2.2 := fun f => by
      induction f with
      | zero => intro t v P; exact Nat.le_refl _
      | succ f ih =>
        intro t v P
        rw [nx]
        split
        · exact Nat.le_refl _
        · split
          · exact Nat.le_succ P
          · have := ih (t + 1) (v * 2 + bitAt bs P) (P + 1)
            omega
    exact key 15 1 0 s.p
  · exact Nat.le_refl _
theorem getP_fit {bs : List UInt8} {s : RS} {m : Nat} (h : s.p ≤ 8 * bs.length) : (getP bs s m).2.p ≤ 8 * bs.length := by
  unfold getP
  split
  · split
    · rename_i h2; exact h2
    · exact h
  · exact h
theorem cpB_p {bs : List UInt8} {most : Int} {s : RS} {len : Nat} {dl : Option (List Int)} (h : s.p ≤ 8 * bs.length) : s.p ≤ (cpB bs most s len dl).p := by
  cases dl with
  | none =>
    show s.p ≤ (s.fail 1).p
    rw [fail_p]
    exact Nat.le_refl _
  | some ds =>
    rw [cpB]
    have h1 := nextP_pp bs ds s h
    split
    · rw [fail_p]; exact h1
    · rw [copiesP_p]
      exact Nat.le_trans h1 (getP_p bs _ _)
theorem copyP_p {bs : List UInt8} {most : Int} {s : RS} {q : Nat} {dl : Option (List Int)} (h : s.p ≤ 8 * bs.length) : s.p ≤ (copyP bs most s q dl).p := by
  have h1 := getP_p bs s (lenOf (q - 257)).2
  unfold copyP
  split
  · rw [fail_p]; exact Nat.le_refl _
  · split
    · exact Nat.le_trans h1 (cpB_p (getP_fit h))
    · exact h1
end Go.Proofs.Ytfafijhmjnkjeaa
