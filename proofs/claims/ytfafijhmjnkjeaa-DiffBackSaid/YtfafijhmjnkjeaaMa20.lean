/- Merged: Fl12, RowG. -/
import Derived.StillTailTactics
import Derived.Test.YtfafijhmjnkjeaaMa19
import Derived.Test.YtfafijhmjnkjeaaMa01
/- flate: tokens written. -/
namespace Go.Proofs.Ytfafijhmjnkjeaa
set_option linter.all false
open Go.RowKit

theorem toks_take {ll dd : List Int} {ts : List Tok} {k : Nat} {t : Tok} (h : ts[k]? = some t) : (ts.take (k + 1)).flatMap (tokB ll dd) = (ts.take k).flatMap (tokB ll dd) ++ tokB ll dd t := take_flat_snoc _ h
theorem toks_le {ll dd : List Int} (h1 : CodesOK ll) (h2 : CodesOK dd) : ∀ {ts : List Tok}, (∀ t ∈ ts, TokOK t ∧ TokIn ll dd t) → (ts.flatMap (tokB ll dd)).length ≤ 48 * ts.length := by
  intro ts
  induction ts with
  | nil => intro _; simp
  | cons t r ih =>
    intro h
    have := ih (fun u hu => h u (by simp [hu]))
    have h3 := tokB_le h1 h2 (h t (by simp)).1 (h t (by simp)).2
    rw [List.flatMap_cons, List.length_append, List.length_cons]
    split at h3 <;> omega
theorem take_sub {α : Type} {P : α → Prop} {l : List α} (h : ∀ x ∈ l, P x) (k : Nat) : ∀ x ∈ l.take k, P x := fun x hx => h x (List.mem_of_mem_take hx)
set_option maxRecDepth 100000 in
set_option maxHeartbeats 6400000 in
theorem tokens_any (B n c nl cl nd cd g : Nat) (A Al Ad : Option Addr) (ts : List Tok) (ll dd : List Int) (pv : Value) (bs : List UInt8) (L : List Nat) (w : World)
    (hW : Wr w g pv bs L) (h : RdK w B A n ts) (hll : RdI w B Al nl ll) (hdd : RdI w B Ad nd dd) (hB : B ≤ g) (hn : n ≤ 50000)
    (hok : ∀ t ∈ ts, TokOK t ∧ TokIn ll dd t) (hol : CodesOK ll) (hod : CodesOK dd) (h256 : 256 < nl) (hnd : 1 ≤ nd) (hmax : ∀ k, k ≤ n → L.length + ((ts.take k).flatMap (tokB ll dd)).length + 100 ≤ 1000000) :
    Calls Try.prog 50 #[wrV g, .slice A n c, .agg #[.slice Al nl cl, .slice Ad nd cd]] w fun e w' => e = .returned (.tuple #[]) ∧ ∃ pv' bs', Wr w' g pv' bs' (L ++ toksB ll dd ts) ∧ WrFr w w' g pv pv' := by
  have HR := Lib.hid h
  have HOK := Lib.hid hok
  have HOL := Lib.hid hol
  have HOD := Lib.hid hod
  have HMX := Lib.hid hmax
  have hl := h.len
  have hll2 := hll.len
  have hdd2 := hdd.len
  have hgw := hW.1.lt
  have HPB : Hid (∀ k, pv.ownBlock = some k → B ≤ k) := (show ∀ k, _ from fun k hk => by have := (World.ownsRow.lt hW.2.1 k hk).1; omega)
  have HC1 := Lib.hid (codes_ok B nl cl Al ll ((w.alloc (.cells #[.pointer (some ⟨g, 0, none⟩)] 89)).alloc (.cells #[.slice Al nl cl, .slice Ad nd cd] 86)) ((hll.alloc (by omega) _).alloc (by rw [World.size_alloc]; omega) _) (by rw [World.size_alloc, World.size_alloc]; omega) (by omega) hol)
  have HW2 := Lib.hid ((hW.alloc (.cells #[.pointer (some ⟨g, 0, none⟩)] 89)).alloc (.cells #[.slice Al nl cl, .slice Ad nd cd] 86))
  have HX0 := Lib.hid ((Bx.new hW (.cells #[.pointer (some ⟨g, 0, none⟩)] 89)).alloc (.cells #[.slice Al nl cl, .slice Ad nd cd] 86))
  have HA0 := Lib.hid ((Arr.new w [.pointer (some ⟨g, 0, none⟩)] 89).alloc (.cells #[.slice Al nl cl, .slice Ad nd cd] 86))
  have HA1 : Hid (Arr ((w.alloc (.cells #[.pointer (some ⟨g, 0, none⟩)] 89)).alloc (.cells #[.slice Al nl cl, .slice Ad nd cd] 86)) (w.heap.size + 1) [.slice Al nl cl, .slice Ad nd cd]) := (show Arr _ _ _ by have := Arr.new (w.alloc (.cells #[.pointer (some ⟨g, 0, none⟩)] 89)) [.slice Al nl cl, .slice Ad nd cd] 86; rwa [World.size_alloc] at this)
  have HF2 := Lib.hid (((WrFr.refl w g pv).alloc (.cells #[.pointer (some ⟨g, 0, none⟩)] 89)).alloc (.cells #[.slice Al nl cl, .slice Ad nd cd] 86))
  have HD2 := Lib.hid ((hdd.alloc (by omega) (.cells #[.pointer (some ⟨g, 0, none⟩)] 89)).alloc (by rw [World.size_alloc]; omega) (.cells #[.slice Al nl cl, .slice Ad nd cd] 86))
  have HR2 := Lib.hid ((h.alloc (by omega) (.cells #[.pointer (some ⟨g, 0, none⟩)] 89)).alloc (by rw [World.size_alloc]; omega) (.cells #[.slice Al nl cl, .slice Ad nd cd] 86))
  have HS2 : Hid (((w.alloc (.cells #[.pointer (some ⟨g, 0, none⟩)] 89)).alloc (.cells #[.slice Al nl cl, .slice Ad nd cd] 86)).heap.size = w.heap.size + 2) := (show _ = _ by rw [World.size_alloc, World.size_alloc])
  clear hW h hll hdd hok hol hod hmax
  go_enter Try.func50, Try.ntmps50
  go_upto_region 3 with (first
    | (go_at_call 80; (with_reducible refine HC1.out.mono ?_); go_must (rintro e w3 ⟨g3, c3, rfl, hg3, ho3, hb3⟩; have hz3 := hb3.size; rw [HS2.out] at hz3 hg3; have hg3w := (World.ownsRow.lt ho3 g3 rfl).2; have HCC3 := Lib.hid (CodeCells.of ho3 hll2.symm); have HW3 := Lib.hid (HW2.out.later hb3); have HX3 := Lib.hid (Bx.of HW2.out (w' := w3) (b := g3) (by rw [HS2.out]; omega) hg3w); have hf3 := (WrFr.of (g := g) (pv := pv) hb3); have HX03 := Lib.hid (HX0.out.wr hf3); have HA03 := Lib.hid (HA0.out.wr HX0.out hf3); have HA13 := HA1.out.later hb3; have c31 := HA13.cell (k := 1) rfl; have HF3 := Lib.hid (HF2.out.trans hf3); have HC2 := Lib.hid (codes_ok B nd cd Ad dd w3 (RdI.blw HD2.out (hb3.mono (by rw [HS2.out]; omega))) (by omega) hnd HOD.out); have HR3 := Lib.hid (RdK.blw HR2.out (hb3.mono (by rw [HS2.out]; omega))); clear ho3 hb3 hf3 HC1 HW2 HX0 HA0 HA1 HF2 HD2 HR2 HA13))
    | (go_at_call 80; (with_reducible refine HC2.out.mono ?_); go_must (rintro e w4 ⟨g4, c4, rfl, hg4, ho4, hb4⟩; have hz4 := hb4.size; have hg4w := (World.ownsRow.lt ho4 g4 rfl).2; have HDD4 := Lib.hid (CodeCells.of ho4 hdd2.symm); have HCC4 := Lib.hid (HCC3.out.later hg3w hb4); have HW4 := Lib.hid (HW3.out.later hb4); have hf4 := (WrFr.of (g := g) (pv := pv) hb4); have HX4 := Lib.hid (HX3.out.wr hf4); have HY4 := Lib.hid (Bx.of HW3.out (w' := w4) (b := g4) hg4 hg4w); have HX04 := Lib.hid (HX03.out.wr hf4); have HA04 := Lib.hid (HA03.out.wr HX03.out hf4); have HF4 := Lib.hid (HF3.out.trans hf4); have HR4 := Lib.hid (RdK.blw HR3.out (hb4.mono (by omega))); clear ho4 hb4 hf4 HC2 HCC3 HW3 HX3 HX03 HA03 HF3 HR3 c31)))
  clear HS2
  have HL0 : Hid (L ++ (ts.take 0).flatMap (tokB ll dd) = L) := (show _ = _ by simp)
  go_wp2_with fail
  go_loopw [29] (fun vi wr => ∃ k : Nat, k ≤ n ∧ vi = .int .i64 k ∧ ∃ pq bq, Hid (Wr wr g pq bq (L ++ (ts.take k).flatMap (tokB ll dd))) ∧ Hid (WrFr w4 wr g pv pq)) (fun vi _ => n - (intOf vi).toNat)
  case atStart => exact ⟨0, Nat.zero_le _, rfl, pv, bs, (show Wr _ _ _ _ _ by rw [HL0.out]; exact HW4.out), WrFr.refl _ _ _⟩
  case round =>
    clear HW4 HL0
    obtain ⟨k, hk, rfl, pq, bq, HW, HF⟩ := hrel
    have hszr := HF.out.size
    by_cases hlt : k < n
    · have hlti : (k : Int) < (n : Int) := by omega
      obtain ⟨b, o, ⟨a, d, y⟩, rfl, hb, HX, e1, e2, e3⟩ := (HR4.out.blw (HF.out.below (B := B) (by omega) hB HPB.out)).one hlt
      have hok := HOK.out _ (List.mem_of_getElem? HX.out)
      have HST : Hid (L ++ (ts.take (k + 1)).flatMap (tokB ll dd) = L ++ (ts.take k).flatMap (tokB ll dd) ++ tokB ll dd (a, d, y)) := (show _ = _ by rw [toks_take HX.out, List.append_assoc])
      have hmx := HMX.out k hk
      have hlenk : (L ++ (ts.take k).flatMap (tokB ll dd)).length + 100 ≤ 1000000 := by rw [List.length_append]; omega
      generalize L ++ (ts.take k).flatMap (tokB ll dd) = LL at *
      have hbN : ¬ b = wr.heap.size := by omega
      obtain ⟨w5, hw5⟩ : ∃ w5, wr.alloc (.cells #[.int .i64 (a : Int), .int .i64 (d : Int), .int .i64 (y : Int)] 121) = w5 := ⟨_, rfl⟩
      obtain ⟨b5, hb5⟩ : ∃ b5, wr.heap.size = b5 := ⟨_, rfl⟩
      have HW5 : Hid (Wr w5 g pq bq LL) := (show Wr _ _ _ _ _ by rw [← hw5]; exact HW.out.alloc _)
      have HF5 : Hid (WrFr w4 w5 g pv pq) := (show WrFr _ _ _ _ _ by rw [← hw5]; exact HF.out.alloc _)
      have HT5 : Hid (Arr w5 b5 [.int .i64 (a : Int), .int .i64 (d : Int), .int .i64 (y : Int)]) := (show Arr _ _ _ by rw [← hw5, ← hb5]; exact Arr.new wr [.int .i64 (a : Int), .int .i64 (d : Int), .int .i64 (y : Int)] _)
      have HXT5 : Hid (Bx w5 g pq b5) := (show Bx _ _ _ _ by rw [← hw5, ← hb5]; exact Bx.new HW.out _)
      have HX05 := Lib.hid (HX04.out.wr HF5.out)
      have c50 := (HA04.out.wr HX04.out HF5.out).cell (k := 0) rfl
      have t50 := HT5.out.cell (k := 0) rfl
      have t51 := HT5.out.cell (k := 1) rfl
      have t52 := HT5.out.cell (k := 2) rfl
      clear HW HF
      by_cases ha : a = 0
      · have d1 : ((a : Int) == 0) = true := by rw [ha]; rfl
        have hw5z : wr.alloc (.cells #[.int .i64 0, .int .i64 (d : Int), .int .i64 (y : Int)] 121) = w5 := by rw [← hw5, ha]; rfl
        have hy : y < ll.length := by have := hok.2.1; unfold symT at this; rw [if_pos ha] at this; exact this
        have hyn : (y : Int) < (nl : Int) := by omega
        have htk : tokB ll dd (a, d, y) = codeB ll y := if_pos ha
        rw [htk] at HST
        obtain ⟨q1, q2⟩ := HCC4.out.bx HX4.out HF5.out y hy
        have HC := Lib.hid (fcode_at g ll y hy HOL.out _ _ _ _ HW5.out.drew (by omega))
        generalize codeAt ll y = cv at *
        go_wp2_with fail
        go_still_tail 6, (by kernel_rfl)
        go_wp2_with ((go_at_call 81; (with_reducible refine HC.out.mono ?_); go_must (rintro e w6 ⟨rfl, p6, bs6, hw6, hf6⟩; rw [← HST.out] at hw6; have HW6 := Lib.hid hw6; have HF6 := Lib.hid (HF5.out.drew.trans hf6); clear hw6 hf6)))
        go_roundw
        case rel => exact ⟨k + 1, by omega, by go_num, p6, bs6, HW6, HF6⟩
        case measure => simp [intOf]; omega
      · have d1 : ((a : Int) == 0) = false := beq_eq_false_iff_ne.2 (by omega)
        obtain ⟨h3, h4, h5, h6⟩ : 3 ≤ a ∧ a ≤ 258 ∧ 1 ≤ d ∧ d ≤ 32768 := by rcases hok.1 with ⟨h, _⟩ | h; exact absurd h ha; exact h
        have hs9 : 257 + lenS a < ll.length := by have := hok.2.1; unfold symT at this; rw [if_neg ha] at this; exact this
        have hd9 : distS d < dd.length := hok.2.2 (distS d) (by unfold dstT; rw [if_neg ha]; simp)
        have htk : tokB ll dd (a, d, y) = codeB ll (257 + lenS a) ++ lsb (a - (lenOf (lenS a)).1) (lenOf (lenS a)).2 ++ codeB dd (distS d) ++ lsb (d - (distOf (distS d)).1) (distOf (distS d)).2 := if_neg ha
        rw [htk] at HST
        have hfit1 := lenS_fit h3 h4
        have hfit2 := distS_fit h5 h6
        have hb1 := (lenOf_le (lenS_spec h3).1).2
        have hb2 := (distOf_le (distS_spec h5).1).2
        obtain ⟨s, hs⟩ : ∃ s, 257 + lenS a = s := ⟨_, rfl⟩
        obtain ⟨q, hq⟩ : ∃ q, distS d = q := ⟨_, rfl⟩
        obtain ⟨m1, hm1⟩ : ∃ m1, (lenOf (lenS a)).2 = m1 := ⟨_, rfl⟩
        obtain ⟨m2, hm2⟩ : ∃ m2, (distOf (distS d)).2 = m2 := ⟨_, rfl⟩
        obtain ⟨r1, hr1⟩ : ∃ r1, a - (lenOf (lenS a)).1 = r1 := ⟨_, rfl⟩
        obtain ⟨r2, hr2⟩ : ∃ r2, d - (distOf (distS d)).1 = r2 := ⟨_, rfl⟩
        have HS1 := Lib.hid (fun w => symbol_at a s m1 r1 h3 h4 hs hm1 hr1 w)
        have HS2 := Lib.hid (fun w => distance_at d q m2 r2 h5 h6 hq hm2 hr2 w)
        rw [hs] at hs9 HST
        rw [hm1] at hfit1 hb1 HST
        rw [hr1] at hfit1 HST
        rw [hm2] at hfit2 hb2 HST
        rw [hr2] at hfit2 HST
        rw [hq] at hd9 HST
        rw [← List.append_assoc, ← List.append_assoc, ← List.append_assoc] at HST
        clear hs hq hm1 hm2 hr1 hr2 htk hok
        have hsn : (s : Int) < (nl : Int) := by omega
        have hqn : (q : Int) < (nd : Int) := by omega
        obtain ⟨q1, q2⟩ := HCC4.out.bx HX4.out HF5.out s hs9
        have hcl1 := codeB_le hs9 HOL.out
        have hcl2 := codeB_le hd9 HOD.out
        have HC := Lib.hid (fcode_at g ll s hs9 HOL.out _ _ _ _ HW5.out.drew (by omega))
        generalize codeAt ll s = cv at *
        go_wp2_with (go_at_call 82; (with_reducible refine (HS1.out _).mono ?_); go_must (rintro e w9 ⟨rfl, rfl⟩))
        go_still_tail 5, (by kernel_rfl)
        go_wp2_with (first
          | (go_at_call 81; (with_reducible refine HC.out.mono ?_); go_must (rintro e w6 ⟨rfl, p6, bs6, hw6, hf6⟩; have HT6 := Lib.hid (HT5.out.drew.wr HXT5.out.drew hf6); have HXT6 := Lib.hid (HXT5.out.drew.wr hf6); have HF6 := Lib.hid (HF5.out.drew.trans hf6); have c60 := (HA04.out.wr HX04.out HF6.out).cell (k := 0) rfl; have t61 := HT6.out.cell (k := 1) rfl; have HP := Lib.hid (fput_lit g (r1 : Int) (m1 : Int) r1 m1 rfl rfl _ _ _ _ hw6 (by rw [List.length_append]; omega) (by omega) hfit1); clear hw6 hf6))
          | (go_at_call 79; (with_reducible refine HP.out.mono ?_); go_must (rintro e w7 ⟨rfl, p7, bs7, hw7, hf7⟩; have HW7 := Lib.hid hw7; have HT7 := Lib.hid (HT6.out.wr HXT6.out hf7); have HXT7 := Lib.hid (HXT6.out.wr hf7); have HF7 := Lib.hid (HF6.out.trans hf7); have c70 := (HA04.out.wr HX04.out HF7.out).cell (k := 0) rfl; have t71 := HT7.out.cell (k := 1) rfl; clear hw7 hf7))
          | (go_at_call 83; (with_reducible refine (HS2.out _).mono ?_); go_must (rintro e w9 ⟨rfl, rfl⟩)))
        obtain ⟨k1, k2⟩ := HDD4.out.bx HY4.out HF7.out q hd9
        have HC2 := Lib.hid (fcode_at g dd q hd9 HOD.out _ _ _ _ HW7.out.drew (by rw [List.length_append, List.length_append, lsb_len]; omega))
        generalize codeAt dd q = cu at *
        go_still_tail 5, (by kernel_rfl)
        go_wp2_with (first
          | (go_at_call 81; (with_reducible refine HC2.out.mono ?_); go_must (rintro e w8 ⟨rfl, p8, bs8, hw8, hf8⟩; have HF8 := Lib.hid (HF7.out.drew.trans hf8); have c80 := (HA04.out.wr HX04.out HF8.out).cell (k := 0) rfl; have HP2 := Lib.hid (fput_lit g (r2 : Int) (m2 : Int) r2 m2 rfl rfl _ _ _ _ hw8 (by rw [List.length_append, List.length_append, List.length_append, lsb_len]; omega) (by omega) hfit2); clear hw8 hf8))
          | (go_at_call 79; (with_reducible refine HP2.out.mono ?_); go_must (rintro e w9 ⟨rfl, p9, bs9, hw9, hf9⟩; rw [← HST.out] at hw9; have HW9 := Lib.hid hw9; have HF9 := Lib.hid (HF8.out.trans hf9); clear hw9 hf9)))
        go_roundw
        case rel => exact ⟨k + 1, by omega, by go_num, p9, bs9, HW9, HF9⟩
        case measure => simp [intOf]; omega
    · obtain rfl : k = n := by omega
      have HT : Hid (L ++ (ts.take k).flatMap (tokB ll dd) ++ codeB ll 256 = L ++ toksB ll dd ts) := (show _ = _ by rw [List.take_of_length_le (by omega), List.append_assoc]; rfl)
      have hmx := HMX.out k (Nat.le_refl _)
      have hlen : (L ++ (ts.take k).flatMap (tokB ll dd)).length + 100 ≤ 1000000 := by rw [List.length_append]; omega
      generalize L ++ (ts.take k).flatMap (tokB ll dd) = LL at *
      have HW5 := Lib.hid HW.out
      have HF5 := Lib.hid HF.out
      obtain ⟨w5, rfl⟩ : ∃ w5 : World, w5 = wr := ⟨_, rfl⟩
      have c50 := (HA04.out.wr HX04.out HF5.out).cell (k := 0) rfl
      obtain ⟨q1, q2⟩ := HCC4.out.bx HX4.out HF5.out 256 (by omega)
      have q1 : w5.cell? ⟨g3, 512, none⟩ = _ := q1
      have q2 : w5.cell? ⟨g3, 513, none⟩ = _ := q2
      have hsn : (256 : Int) < (nl : Int) := by omega
      have HC := Lib.hid (fcode_at g ll 256 (by omega) HOL.out _ _ _ _ HW5.out.drew (by omega))
      generalize codeAt ll 256 = cv at *
      go_wp2_with fail
      go_still_tail 4, (by kernel_rfl)
      go_wp2_with (go_at_call 81; (with_reducible refine HC.out.mono ?_); go_must (rintro e w6 ⟨rfl, p6, bs6, hw6, hf6⟩; rw [HT.out] at hw6; have HW6 := Lib.hid hw6; have HF6 := Lib.hid (HF5.out.drew.trans hf6); clear hw6 hf6))
      (try simp only [Exit.inBlock, Exit.then])
      first | (refine bodyPost_ret (results_none rfl _ _ _) rfl ?_) | (refine bodyPost_end (results_none rfl _ _ _) rfl ?_)
      exact ⟨rfl, p6, bs6, HW6.out, HF4.out.trans HF6.out⟩
end Go.Proofs.Ytfafijhmjnkjeaa

/- Rows of flate.sign: 3 cells an element. -/
namespace Go.Proofs.Ytfafijhmjnkjeaa
set_option linter.all false
open Go.RowKit

def eG (x : (Nat × Nat × Nat)) : List Value := [Value.int .i64 (x.1 : Int), Value.int .i64 (x.2.1 : Int), Value.int .i64 (x.2.2 : Int)]
theorem eG_len (x : (Nat × Nat × Nat)) : (eG x).length = 3 := rfl
/-- The cells of a list. -/
def cG (l : List (Nat × Nat × Nat)) : List Value := l.flatMap eG
theorem cG_length : ∀ l : List (Nat × Nat × Nat), (cG l).length = l.length * 3
  | [] => rfl
  | x :: l => by
    have := cG_length l
    unfold cG at this ⊢
    rw [List.flatMap_cons, List.length_append, this, eG_len, List.length_cons]
    omega
theorem cG_append (a b : List (Nat × Nat × Nat)) : cG (a ++ b) = cG a ++ cG b := by simp [cG]
theorem cG_single (x : (Nat × Nat × Nat)) : cG [x] = eG x := by simp [cG]
theorem cG_get : ∀ (l : List (Nat × Nat × Nat)) (k j : Nat) (hk : k < l.length), j < 3 → (cG l)[k * 3 + j]? = (eG l[k])[j]?
  | x :: l, 0, j, _, hj => by
    unfold cG
    rw [List.flatMap_cons, List.getElem?_append_left (by rw [eG_len]; omega)]
    simp
  | x :: l, i + 1, j, hi, hj => by
    have := cG_get l i j (by simpa using hi) hj
    unfold cG at this ⊢
    rw [List.flatMap_cons, List.getElem?_append_right (by rw [eG_len]; omega), eG_len, List.getElem_cons_succ, ← this]
    congr 1
    omega
theorem cG_one (l : List (Nat × Nat × Nat)) : ∀ u ∈ cG l, u.oneCell' = true := by
  intro u hu
  simp only [cG, List.mem_flatMap] at hu
  obtain ⟨x, _, hx⟩ := hu
  simp only [eG, List.mem_cons, List.not_mem_nil, or_false] at hx
  rcases hx with rfl | rfl | rfl <;> rfl
theorem cG_set (l : List (Nat × Nat × Nat)) (k : Nat) (x : (Nat × Nat × Nat)) (hk : k < l.length) : cG (l.set k x) = (((cG l).set (k * 3) (Value.int .i64 (x.1 : Int))).set (k * 3 + 1) (Value.int .i64 (x.2.1 : Int))).set (k * 3 + 2) (Value.int .i64 (x.2.2 : Int)) := by
  have e1 : l = l.take k ++ l[k] :: l.drop (k + 1) := by rw [← List.drop_eq_getElem_cons hk, List.take_append_drop]
  have e2 : l.set k x = l.take k ++ x :: l.drop (k + 1) := by rw [List.set_eq_take_append_cons_drop, if_pos hk]
  rw [e2]
  have hl : (cG (l.take k)).length = k * 3 := by rw [cG_length, List.length_take, Nat.min_eq_left (by omega)]
  have e3 : cG l = cG (l.take k) ++ (eG l[k] ++ cG (l.drop (k + 1))) := by
    conv => lhs; rw [e1]
    rw [cG_append]
    simp only [cG, List.flatMap_cons]
  have e4 : cG (l.take k ++ x :: l.drop (k + 1)) = cG (l.take k) ++ (eG x ++ cG (l.drop (k + 1))) := by
    rw [cG_append]
    simp only [cG, List.flatMap_cons]
  rw [e3, e4]
  generalize cG (l.take k) = P at *
  rw [← hl]
  simp [eG, List.set_append]
theorem Try.info_G : (Try.prog.info? 139).map (fun i => (i.zero, i.size, i.bytes)) = some (some (.agg #[.int .i64 0, .int .i64 0, .int .i64 0]), 3, 24) := by kernel_rfl
def ownG (w : World) (base : Nat) (v : Value) (l : List (Nat × Nat × Nat)) : Prop := w.ownsRow base 139 3 v l.length (cG l)
def RdG (w : World) (B : Nat) (A : Option Addr) (n : Nat) (l : List (Nat × Nat × Nat)) : Prop := Rd w B 3 A n (cG l)
theorem RdG.len {w : World} {B n : Nat} {A : Option Addr} {l : List (Nat × Nat × Nat)} (h : RdG w B A n l) : l.length = n := by
  have := h.1; rw [cG_length] at this; omega
theorem RdG.one {w : World} {B n : Nat} {A : Option Addr} {l : List (Nat × Nat × Nat)} (h : RdG w B A n l) {k : Nat} (hk : k < n) :
    ∃ b o x, A = some ⟨b, o, none⟩ ∧ b < B ∧ Hid (l[k]? = some x) ∧ w.cell? ⟨b, o + k * 3, none⟩ = some (Value.int .i64 (x.1 : Int)) ∧ w.cell? ⟨b, o + k * 3 + 1, none⟩ = some (Value.int .i64 (x.2.1 : Int)) ∧ w.cell? ⟨b, o + k * 3 + 2, none⟩ = some (Value.int .i64 (x.2.2 : Int)) := by
  obtain ⟨b, o, e, hb, hc⟩ := h.2 (by omega)
  have hl := h.len
  have hk' : k < l.length := by omega
  refine ⟨b, o, l[k], e, hb, List.getElem?_eq_getElem hk', ?_, ?_, ?_⟩
  · exact hc (k * 3) _ ((cG_get l k 0 hk' (by omega)).trans rfl)
  · exact hc (k * 3 + 1) _ ((cG_get l k 1 hk' (by omega)).trans rfl)
  · exact hc (k * 3 + 2) _ ((cG_get l k 2 hk' (by omega)).trans rfl)
theorem RdG.blw {w w' : World} {B n : Nat} {A : Option Addr} {l : List (Nat × Nat × Nat)} (h : RdG w B A n l) (hb : Below B w w') : RdG w' B A n l := Rd.below h hb
theorem RdG.more {w : World} {B B' n : Nat} {A : Option Addr} {l : List (Nat × Nat × Nat)} (h : RdG w B A n l) (hB : B ≤ B') : RdG w B' A n l := Rd.more h hB
theorem RdG.here {w : World} {B n : Nat} {A : Option Addr} {l : List (Nat × Nat × Nat)} (h : RdG w B A n l) : RdG w w.heap.size A n l :=
  ⟨h.1, fun hn => by
    obtain ⟨b, o, e, hb, hc⟩ := h.2 hn
    have hl := h.1
    exact ⟨b, o, e, block_lt_of_cell (a := ⟨b, o + 0, none⟩) (hc 0 (cG l)[0] (List.getElem?_eq_getElem (by omega))), hc⟩⟩
theorem RdG.later {w w' : World} {n : Nat} {A : Option Addr} {l : List (Nat × Nat × Nat)} (h : RdG w w.heap.size A n l) (hb : Below w.heap.size w w') : RdG w' w'.heap.size A n l := RdG.here (RdG.blw h hb)
theorem RdG.alloc {w : World} {B n : Nat} {A : Option Addr} {l : List (Nat × Nat × Nat)} (h : RdG w B A n l) (hB : B ≤ w.heap.size) (o : Obj) : RdG (w.alloc o) B A n l := Rd.alloc h hB o
theorem RdG.nil_ {w : World} {B : Nat} {A : Option Addr} : RdG w B A 0 [] := ⟨by simp [cG], fun h => absurd h (by omega)⟩
theorem RdG.cut {w : World} {B n : Nat} {A : Option Addr} {l : List (Nat × Nat × Nat)} (h : RdG w B A n l) {k m : Nat} (hk : k + m ≤ n) {A' : Option Addr} (hA : 0 < m → A' = A.map (·.add (k * 3))) :
    RdG w B A' m ((l.drop k).take m) := by
  have := Rd.cut h hk (A' := A') hA
  unfold RdG
  have e1 : ∀ (q : Nat) (l : List (Nat × Nat × Nat)), cG (l.take q) = (cG l).take (q * 3) := fun q l => by
    rcases Nat.lt_or_ge q l.length with hq | hq
    · conv => rhs; rw [← List.take_append_drop q l, cG_append]
      rw [List.take_left' (by rw [cG_length, List.length_take, Nat.min_eq_left (by omega)])]
    · rw [List.take_of_length_le hq, List.take_of_length_le (by rw [cG_length]; exact Nat.mul_le_mul_right _ hq)]
  have e2 : ∀ (q : Nat) (l : List (Nat × Nat × Nat)), cG (l.drop q) = (cG l).drop (q * 3) := fun q l => by
    rcases Nat.lt_or_ge q l.length with hq | hq
    · conv => rhs; rw [← List.take_append_drop q l, cG_append]
      rw [List.drop_left' (by rw [cG_length, List.length_take, Nat.min_eq_left (by omega)])]
    · rw [List.drop_eq_nil_of_le hq, List.drop_eq_nil_of_le (by rw [cG_length]; exact Nat.mul_le_mul_right _ hq)]
      rfl
  rw [e1, e2]
  exact this
theorem ownG.nil_ (w : World) (base : Nat) : ownG w base (.slice none 0 0) [] := World.ownsRow_nil _ _ _ _
theorem ownG.mono {w : World} {base base' : Nat} {v : Value} {l : List (Nat × Nat × Nat)} (h : ownG w base v l) (hb : base' ≤ base) : ownG w base' v l := by
  refine ⟨h.1, ?_⟩
  rcases h.2 with hn | ⟨g, cap, cur, rfl, hbg, rest⟩
  · exact .inl hn
  · exact .inr ⟨g, cap, cur, rfl, by omega, rest⟩
theorem ownG.later {w w' : World} {base : Nat} {v : Value} {l : List (Nat × Nat × Nat)} (h : ownG w base v l) (hb : Below w.heap.size w w') : ownG w' base v l :=
  Below.ownsRow h hb (fun g hg => (World.ownsRow.lt h g hg).2)
theorem ownG.laterD {w w' : World} {base : Nat} {v : Value} {l : List (Nat × Nat × Nat)} (h : ownG w base v l) (hb : Below w.drew.heap.size w.drew w') : ownG w' base v l := ownG.later (w := w.drew) h hb
theorem ownG.alloc {w : World} {base : Nat} {v : Value} {l : List (Nat × Nat × Nat)} (h : ownG w base v l) (o : Obj) : ownG (w.alloc o) base v l := World.ownsRow.alloc h o
theorem ownG.drew {w : World} {base : Nat} {v : Value} {l : List (Nat × Nat × Nat)} (h : ownG w base v l) : ownG w.drew base v l := h
theorem ownG.drewN {w : World} {base : Nat} {v : Value} {l : List (Nat × Nat × Nat)} (h : ownG w base v l) (n : Nat) : ownG (w.drewN n) base v l := h
theorem ownG.form {w : World} {base : Nat} {v : Value} {l : List (Nat × Nat × Nat)} (h : ownG w base v l) :
    ∃ A c, v = .slice A l.length c ∧ RdG w w.heap.size A l.length l ∧ l.length ≤ c ∧ c ≤ maxLen := by
  rcases h.2 with ⟨rfl, h0⟩ | ⟨g, cap, cur, rfl, _, _, h1, h2, _⟩
  · have : l = [] := List.eq_nil_of_length_eq_zero h0
    subst this
    exact ⟨none, 0, rfl, Rd.none_, by simp, by simp⟩
  · exact ⟨_, _, rfl, Rd.of_own h, h1, h2⟩
theorem ownG.kept {w w' : World} {base : Nat} {v : Value} {l : List (Nat × Nat × Nat)} {row : Option Nat} (h : ownG w base v l) (hg : w.grownBy w' row) (hne : v.ownBlock = none ∨ v.ownBlock ≠ row) : ownG w' base v l :=
  World.ownsRow.kept h hg hne
theorem ownG.far {w : World} {base g : Nat} {v : Value} {l : List (Nat × Nat × Nat)} (h : ownG w base v l) (hg : v.ownBlock ≠ some g) (o : Nat) (u : Value) :
    ownG (w.setCell ⟨g, o, none⟩ u) base v l := by
  refine ⟨h.1, ?_⟩
  rcases h.2 with hn | ⟨g', cap, cur, rfl, hb, hgg, rest⟩
  · exact .inl hn
  · refine .inr ⟨g', cap, cur, rfl, hb, ?_, rest⟩
    rw [Below.heap_setCell _ _ _ _ (by intro e; apply hg; simp [Value.ownBlock]; exact e)]
    exact hgg
theorem ownG.ne {w : World} {base g : Nat} {v : Value} {l : List (Nat × Nat × Nat)} (h : ownG w base v l) (hg : g < base) : v.ownBlock ≠ some g := by
  intro e
  have := (World.ownsRow.lt h g e).1
  omega
theorem ownG.pos {w : World} {base n c : Nat} {A : Option Addr} {l : List (Nat × Nat × Nat)} (h : ownG w base (.slice A n c) l) (hn : 0 < n) : n = l.length ∧ ∃ g, A = some ⟨g, 0, none⟩ ∧ base ≤ g ∧ g < w.heap.size := by
  rcases h.2 with ⟨h', _⟩ | ⟨g, cap, cur, h', hb, hg, _⟩
  · injection h' with _ h2; omega
  · injection h' with h1 h2
    exact ⟨h2, g, h1, hb, (World.ownsRow.lt h g (by rw [h1]; rfl)).2⟩
theorem ownG.cell {w : World} {base g n c : Nat} {l : List (Nat × Nat × Nat)} (h : ownG w base (.slice (some ⟨g, 0, none⟩) n c) l) (hn : n = l.length) {k : Nat} (hk : k < l.length) :
    w.cell? ⟨g, k * 3, none⟩ = some ((fun x : (Nat × Nat × Nat) => Value.int .i64 (x.1 : Int)) l[k]) ∧ w.cell? ⟨g, k * 3 + 1, none⟩ = some ((fun x : (Nat × Nat × Nat) => Value.int .i64 (x.2.1 : Int)) l[k]) ∧ w.cell? ⟨g, k * 3 + 2, none⟩ = some ((fun x : (Nat × Nat × Nat) => Value.int .i64 (x.2.2 : Int)) l[k]) := by
  subst hn
  refine ⟨?_, ?_, ?_⟩
  · exact (World.ownsRow.cellAt h (k * 3) (by have := hk; omega)).trans ((cG_get l k 0 hk (by omega)).trans rfl)
  · exact (World.ownsRow.cellAt h (k * 3 + 1) (by have := hk; omega)).trans ((cG_get l k 1 hk (by omega)).trans rfl)
  · exact (World.ownsRow.cellAt h (k * 3 + 2) (by have := hk; omega)).trans ((cG_get l k 2 hk (by omega)).trans rfl)
theorem ownG.frozen {w : World} {base g n c : Nat} {l : List (Nat × Nat × Nat)} (h : ownG w base (.slice (some ⟨g, 0, none⟩) n c) l) (hn : n = l.length) (k : Nat) :
    w.frozen? ⟨g, k, none⟩ = false := by
  subst hn
  exact World.ownsRow.frozenAt h k
theorem ownG.store {w : World} {base g n c : Nat} {l : List (Nat × Nat × Nat)} (h : ownG w base (.slice (some ⟨g, 0, none⟩) n c) l) (hn : n = l.length) (k : Nat) (x : (Nat × Nat × Nat)) (hk : k < l.length) :
    ownG (((w.setCell ⟨g, k * 3, none⟩ (Value.int .i64 (x.1 : Int))).setCell ⟨g, k * 3 + 1, none⟩ (Value.int .i64 (x.2.1 : Int))).setCell ⟨g, k * 3 + 2, none⟩ (Value.int .i64 (x.2.2 : Int))) base (.slice (some ⟨g, 0, none⟩) n c) (l.set k x) := by
  subst hn
  have h0 : w.ownsRow base 139 3 (.slice (some ⟨g, 0, none⟩) l.length c) l.length (cG l) := h
  have h1 := (World.ownsRow.stored h0 (k * 3) (Value.int .i64 (x.1 : Int))).1
  have h2 := (World.ownsRow.stored h1 (k * 3 + 1) (Value.int .i64 (x.2.1 : Int))).1
  have h3 := (World.ownsRow.stored h2 (k * 3 + 2) (Value.int .i64 (x.2.2 : Int))).1
  unfold ownG
  rw [List.length_set, cG_set l k x hk]
  exact h3
theorem ownG.rd {w : World} {base n c : Nat} {A : Option Addr} {l : List (Nat × Nat × Nat)} (h : ownG w base (.slice A n c) l) : RdG w w.heap.size A n l := by
  obtain ⟨A4, c4, e5, hd4, _, _⟩ := h.form
  injection e5 with e1 e2 e3
  rw [e1, e2]
  exact hd4
/-- make of n zeros, in a new block. -/
theorem wpList_makeG {w : World} {ops : Array Oper} {rest : List Oper} {o : Oper} {a : Act} {Q : Exit → Act → World → Prop}
    (hg : o.guard = none) (l c : Operand) (hop : o.op = Op.makeSlice 136 l c) (n : Nat) (L : Int) (hl : a.eval l = .int .i64 L) (hc : a.eval c = .int .i64 L)
    (hL : L = (n : Int)) (hn : n ≤ 1099511627776)
    (hK : ∀ w', ownG w' w.heap.size (.slice (some ⟨w.heap.size, 0, none⟩) n n) (List.replicate n ((0, 0, 0) : Nat × Nat × Nat)) → Below w.heap.size w w' → w.heap.size < w'.heap.size →
      wpList Try.prog ops Q rest (a.put o.dst (.slice (some ⟨w.heap.size, 0, none⟩) n n)) w') :
    wpList Try.prog ops Q (o :: rest) a w := by
  obtain ⟨i0, hi, hz0, hz1, hz2⟩ := info_parts Try.info_G
  refine wpList_make_full w hg l c 136 hop w.heap.size 139 i0 _ 3 Try.underlying136 hi hz0 hz1 _ _ _ _ n hl hc hL hL (by rw [hz2]; omega) (by unfold maxLen; omega) (Nat.le_refl _) ?_
  intro w' h1 h2
  have h3 : ownG w' w.heap.size (.slice (some ⟨w.heap.size, 0, none⟩) n n) (List.replicate n ((0, 0, 0) : Nat × Nat × Nat)) := by
    unfold ownG
    have e1 : (madeCells (.agg #[.int .i64 0, .int .i64 0, .int .i64 0] : Value).cells (n * 3)).toList = cG (List.replicate n ((0, 0, 0) : Nat × Nat × Nat)) := by
      apply List.ext_getElem?
      intro j
      by_cases hj : j < n * 3
      · have hq : j / 3 < n := by omega
        have ej : j = j / 3 * 3 + j % 3 := by omega
        have hg := cG_get (List.replicate n ((0, 0, 0) : Nat × Nat × Nat)) (j / 3) (j % 3) (by simpa using hq) (by omega)
        rw [← ej] at hg
        rw [hg, List.getElem_replicate]
        have hm : j % 3 < 3 := by omega
        rw [Array.getElem?_toList]
        rw [madeCells, Array.getElem?_map, Array.getElem?_range, if_pos hj]
        show some ((#[.int .i64 0, .int .i64 0, .int .i64 0] : Array Value)[j % 3]!) = _
        match j % 3, hm with
        | 0, _ => rfl
        | 1, _ => rfl
        | 2, _ => rfl
      · rw [List.getElem?_eq_none (by simp [madeCells]; omega), List.getElem?_eq_none (by rw [cG_length]; simp; omega)]
    rw [e1] at h1
    rw [List.length_replicate]
    exact h1
  exact hK w' h3 ((Below.refl _ _).grown h2 (Nat.le_refl _) (by simp)) (World.ownsRow.lt h3 _ rfl).2
/-- One element that lies in a block, whole. -/
theorem rd_oneG (w : World) (x : (Nat × Nat × Nat)) (t : TypeId) (fr : Nat × Nat) : RdG (w.alloc (.cells (eG x).toArray t fr)) (w.heap.size + 1) (some ⟨w.heap.size, 0, none⟩) 1 [x] := by
  refine ⟨by rw [cG_length]; rfl, fun _ => ⟨_, _, rfl, by omega, fun j u hu => ?_⟩⟩
  rw [Nat.zero_add]
  have := cell_of_row (w.alloc (.cells (eG x).toArray t fr)) w.heap.size j (eG x).toArray t fr (heap_alloc_new w _)
  rw [this]
  rw [cG_single] at hu
  simpa using hu

set_option maxRecDepth 100000 in
theorem run_appendG (w : World) (base : Nat) (t2 : TypeId) (v : Value) (l : List (Nat × Nat × Nat)) (hown : ownG w base v l) (B m c : Nat) (A : Option Addr) (news : List (Nat × Nat × Nat)) (hr : RdG w B A m news)
    (hb : l.length + m ≤ 1099511627776) (hbase : base ≤ w.heap.size) :
    ∃ v' w', (Builtin.append_ #[136, 136] t2 #[v, .slice A m c]).run Try.prog w = .ok v' w' ∧ ownG w' base v' (l ++ news) ∧ w.grownBy w' v.ownBlock ∧
      (v'.ownBlock = v.ownBlock ∨ v'.ownBlock = some w.heap.size) ∧ (v' = .slice none 0 0 ↔ v = .slice none 0 0 ∧ m = 0) := by
  obtain ⟨i0, hi, hz0, hz1, hz2⟩ := info_parts Try.info_G
  have hl := hr.len
  subst hl
  unfold ownG
  rw [List.length_append, cG_append]
  rcases A with _ | ad
  · have hn : news = [] := by
      rcases Nat.eq_zero_or_pos news.length with h0 | h0
      · exact List.eq_nil_of_length_eq_zero h0
      · obtain ⟨b, o, h, _⟩ := hr.2 h0
        cases h
    subst hn
    refine ⟨v, w, ?_, by simpa [cG, ownG] using hown, World.grownBy.refl w _, .inl rfl, by simp⟩
    rcases hown.2 with ⟨rfl, h0⟩ | ⟨g, cap, cur, rfl, _, _, hnc, _⟩
    · simp [Builtin.append_, run_underlying Try.underlying136, sizeOf, typeInfo, hi, Builtin.lenOf, Builtin.firstCells]
    · simp [Builtin.append_, run_underlying Try.underlying136, sizeOf, typeInfo, hi, Builtin.lenOf, Builtin.firstCells, hnc, storeCells]
  · have hcells : ∀ j u, (cG news)[j]? = some u → w.cell? (ad.add j) = some u := by
      intro j u hu
      rcases Nat.eq_zero_or_pos news.length with h0 | h0
      · have hn : news = [] := List.eq_nil_of_length_eq_zero h0
        subst hn
        simp [cG] at hu
      · obtain ⟨b, o, h, _, hc⟩ := hr.2 h0
        injection h with h
        subst h
        rw [add_none]
        exact hc j u hu
    obtain ⟨v', w', hrun, h2, h3, h4, h5⟩ := run_append_own_at (P := Try.prog) w base 136 t2 139 i0 _ 3 24 Try.underlying136 hi hz0 hz1 hz2 rfl (by omega) v l.length (cG l) hown ad news.length c (cG news) (by rw [cG_length]) hcells (cG_one _) (by unfold maxLen; omega) (by omega) hbase
    exact ⟨v', w', hrun, h2, h3, h5, h4⟩

/-- append(v, x...): v the call's own, x whatever. -/
theorem wpList_appendG {w : World} {ops : Array Oper} {rest : List Oper} {o : Oper} {a : Act} {Q : Exit → Act → World → Prop} (hgd : o.guard = none) (s x : Operand)
    (ho : o.op = .call { callee := .builtin .append, args := #[s, x], argTypes := #[136, 136] })
    (base : Nat) (v : Value) (l : List (Nat × Nat × Nat)) (hs : a.eval s = v) (hown : ownG w base v l) (B m c : Nat) (A : Option Addr) (news : List (Nat × Nat × Nat)) (hx : a.eval x = .slice A m c) (hr : RdG w B A m news)
    (hb : l.length + m ≤ 1099511627776) (hbase : base ≤ w.heap.size)
    (h : ∀ v' w', ownG w' base v' (l ++ news) → w.grownBy w' v.ownBlock → Below base w w' → (v'.ownBlock = v.ownBlock ∨ v'.ownBlock = some w.heap.size) → wpList Try.prog ops Q rest (a.put o.dst v') w') :
    wpList Try.prog ops Q (o :: rest) a w := by
  refine wpList_plain hgd fun K hK => ?_
  obtain ⟨v', w', hrun, h2, h3, h4, _⟩ := run_appendG w base o.type v l hown B m c A news hr hb hbase
  unfold Oper.wp execOp
  simp only [ho, resolve, invoke, builtin, Sem.run_bind, Sem.run_pure, Result.andThen_ok, List.map_toArray, List.map_cons, List.map_nil, hs, hx, hrun]
  exact hK _ _ (h v' w' h2 h3 ((Below.refl _ _).grown h3 hbase (fun k hk => (World.ownsRow.lt hown k hk).1)) h4)
/-- append of bytes as a step of a region that draws its order. -/
theorem step_appendG {w : World} {ops : Array Oper} {o : Oper} {a : Act} {K : Act → World → Prop} {Q : Exit → Act → World → Prop} {E : Prop} (hgd : o.guard = none) (s x : Operand)
    (ho : o.op = .call { callee := .builtin .append, args := #[s, x], argTypes := #[136, 136] })
    (base : Nat) (v : Value) (bs : List (Nat × Nat × Nat)) (hs : a.eval s = v) (hown : ownG w base v bs) (B m c : Nat) (A : Option Addr) (news : List (Nat × Nat × Nat)) (hx : a.eval x = .slice A m c) (hr : RdG w B A m news)
    (hb : bs.length + m ≤ 1099511627776) (hbase : base ≤ w.heap.size)
    (h : ∀ v' w', ownG w' base v' (bs ++ news) → w.grownBy w' v.ownBlock → Below base w w' → (v'.ownBlock = v.ownBlock ∨ v'.ownBlock = some w.heap.size) → K (a.put o.dst v') w') :
    if Region.wanted o (yielded ops a.tmps) = true then Oper.wp Try.prog o a w K Q else E := by
  have hw : Region.wanted o (yielded ops a.tmps) = true := by simp [Region.wanted, hgd]
  rw [if_pos hw]
  obtain ⟨v', w', hrun, h2, h3, h4, _⟩ := run_appendG w base o.type v bs hown B m c A news hr hb hbase
  unfold Oper.wp execOp
  simp only [ho, resolve, invoke, builtin, Sem.run_bind, Sem.run_pure, Result.andThen_ok, List.map_toArray, List.map_cons, List.map_nil, hs, hx, hrun]
  exact h v' w' h2 h3 ((Below.refl _ _).grown h3 hbase (fun k hk => (World.ownsRow.lt hown k hk).1)) h4
end Go.Proofs.Ytfafijhmjnkjeaa
