/- HuffMore: places without weight change no other length. -/
import Derived.Test.YtpbegikdohafbaaFirst5
import Derived.Test.YtpbegikdohafbaaHuffU
import Derived.Deep.RegionHeld3
namespace Go.Proofs.Ytpbegikdohafbaa
set_option linter.all false
open Go.RowKit

theorem own_nilAt {W : World} {g base : Nat} (hg : g = W.heap.size) (hb : base ≤ g) : ownI (W.alloc (.cells #[] 3)) base (.slice (some ⟨g, 0, none⟩) 0 0) [] := by
  subst hg
  exact (own_litI W [] (by simp)).mono hb
theorem rd_oneAt {W : World} {g B : Nat} {x : Int} (hg : g = W.heap.size) (hB : g < B) : RdI (W.alloc (.cells #[.int .i64 x] 3)) B (some ⟨g, 0, none⟩) 1 [x] := by
  subst hg
  exact (rd_oneI W x).more hB
theorem rdI_far {w w' : World} {B n : Nat} {A : Option Addr} {l : List Int} {row : Option Nat} (h : RdI w B A n l) (hg : w.grownBy w' row) (hB : B ≤ w.heap.size) (hA : ∀ a, A = some a → row ≠ some a.block) : RdI w' B A n l :=
  ⟨h.1, fun hn => by
    obtain ⟨b, o, e, hb, hc⟩ := h.2 hn
    refine ⟨b, o, e, hb, fun j u hu => ?_⟩
    exact (World.cell?_of_block (hg.block b (by omega) (fun e' => hA _ e e'.symm))).trans (hc j u hu)⟩

theorem rdI_drew {w : World} {B n : Nat} {A : Option Addr} {l : List Int} (h : RdI w B A n l) : RdI w.drew B A n l := h
theorem more_len {ws : List Int} {n p : Nat} (h : ws.length = n) (hp : p ≤ n) : (ws.take p ++ [0] ++ ws.drop p).length = n + 1 := by
  simp
  omega

theorem step_appendIg {w : World} {ops : Array Oper} {o : Oper} {a : Act} {K : Act → World → Prop} {Q : Exit → Act → World → Prop} {E : Prop} (hw : Region.wanted o (yielded ops a.tmps) = true) (s x : Operand)
    (ho : o.op = .call { callee := .builtin .append, args := #[s, x], argTypes := #[22, 22] })
    (base : Nat) (v : Value) (bs : List Int) (hs : a.eval s = v) (hown : ownI w base v bs) (B m c : Nat) (A : Option Addr) (news : List Int) (hx : a.eval x = .slice A m c) (hr : RdI w B A m news)
    (hb : bs.length + m ≤ 1099511627776) (hbase : base ≤ w.heap.size)
    (h : ∀ v' w', ownI w' base v' (bs ++ news) → w.grownBy w' v.ownBlock → Below base w w' → (v'.ownBlock = v.ownBlock ∨ v'.ownBlock = some w.heap.size) → K (a.put o.dst v') w') :
    if Region.wanted o (yielded ops a.tmps) = true then Oper.wp Try.prog o a w K Q else E := by
  rw [if_pos hw]
  obtain ⟨v', w', hrun, h2, h3, h4, _⟩ := run_appendI w base o.type v bs hown B m c A news hr hb hbase
  unfold Oper.wp execOp
  simp only [ho, resolve, invoke, builtin, Sem.run_bind, Sem.run_pure, Result.andThen_ok, List.map_toArray, List.map_cons, List.map_nil, hs, hx, hrun]
  exact h v' w' h2 h3 ((Below.refl _ _).grown h3 hbase (fun k hk => (World.ownsRow.lt hown k hk).1)) h4

theorem alloc_le (w : World) (o : Obj) : w.heap.size ≤ (w.alloc o).heap.size := by simp
theorem below_undrew {w w' : World} (h : Below w.drew.heap.size w.drew w') : Below w.heap.size w w' := ⟨h.os, h.tape, h.output, h.size, h.block⟩
theorem cell_alloc2 {w : World} {b i : Nat} {v : Value} (h : w.cell? ⟨b, i, none⟩ = some v) (o : Obj) : (w.alloc o).cell? ⟨b, i, none⟩ = some v := (World.cell?_alloc_lt w o _ (block_lt_of_cell (a := ⟨b, i, none⟩) h)).trans h
theorem cell_blw {w w' : World} {b i : Nat} {v : Value} {B : Nat} (hb : Below B w w') (hl : b < B) (h : w.cell? ⟨b, i, none⟩ = some v) : w'.cell? ⟨b, i, none⟩ = some v := (hb.cell (p := ⟨b, i, none⟩) hl).trans h

set_option maxRecDepth 100000 in
set_option maxHeartbeats 6400000 in
theorem huffMore_walk (n c : Nat) (A : Option Addr) (ws : List Int) (most at_ : Int) (w : World) (h : RdI w w.heap.size A n ws) (hnc : n ≤ c) (hcm : c ≤ maxLen) :
    Calls Try.prog 8 #[.slice A n c, .int .i64 most, .int .i64 at_] w fun e w' => e = .returned (.bool true) ∧ Below w.heap.size w w' := by
  unfold maxLen at hcm
  have hB := Below.refl w.heap.size w
  by_cases hbad : n < 1 ∨ 150 < n ∨ at_ < 0 ∨ (n : Int) < at_
  · clear h
    by_cases h1 : n < 1
    · go_enter Try.func8, Try.ntmps8
      go_wp2_with (go_at_call 11; (with_reducible refine (first5_any _).mono ?_); go_must (rintro e wf ⟨rfl, hb1⟩; replace hB := bstep hB hb1 (Nat.le_refl _); clear hb1))
      go_ret
      exact ⟨rfl, hB⟩
    · by_cases h2 : 150 < n
      · go_enter Try.func8, Try.ntmps8
        go_wp2_with (go_at_call 11; (with_reducible refine (first5_any _).mono ?_); go_must (rintro e wf ⟨rfl, hb1⟩; replace hB := bstep hB hb1 (Nat.le_refl _); clear hb1))
        go_ret
        exact ⟨rfl, hB⟩
      · by_cases h3 : at_ < 0
        · go_enter Try.func8, Try.ntmps8
          go_wp2_with (go_at_call 11; (with_reducible refine (first5_any _).mono ?_); go_must (rintro e wf ⟨rfl, hb1⟩; replace hB := bstep hB hb1 (Nat.le_refl _); clear hb1))
          go_ret
          exact ⟨rfl, hB⟩
        · have h4 : (n : Int) < at_ := by omega
          have d4 : decide (at_ > (n : Int)) = true := decide_eq_true h4
          go_enter Try.func8, Try.ntmps8
          go_wp2_with (go_at_call 11; (with_reducible refine (first5_any _).mono ?_); go_must (rintro e wf ⟨rfl, hb1⟩; replace hB := bstep hB hb1 (Nat.le_refl _); clear hb1))
          go_ret
          exact ⟨rfl, hB⟩
  · obtain ⟨p, rfl⟩ := Int.eq_ofNat_of_zero_le (show 0 ≤ at_ by omega)
    have g1 : 1 ≤ n := by omega
    have g2 : n ≤ 150 := by omega
    have g3 : p ≤ n := by omega
    clear hbad
    obtain ⟨b, o, -, rfl, -⟩ := h.one (show 0 < n by omega)
    by_cases hpc0 : p = c
    · subst hpc0
      obtain rfl : n = p := by omega
      have HC := Lib.hid (fun (w' : World) (hb : Below w.heap.size w w') => lengths_any w.heap.size n n (some ⟨b, o, none⟩) ws most w' (h.blw hb) hb.size (by omega))
      have HL := Lib.hid h.len
      have HP := Lib.hid (show RdI w w.heap.size (some ⟨b, o, none⟩) n (ws.take n) from by
        have := h.cut (k := 0) (m := n) (by omega) (A' := some ⟨b, o, none⟩) (fun _ => by simp [add_none])
        simpa using this)
      have HQ := Lib.hid (show RdI w w.heap.size (if n = n then some ⟨b, o, none⟩ else some ⟨b, o + n, none⟩) (n - n) (ws.drop n) from by
        have := h.cut (k := n) (m := n - n) (by omega) (A' := if n = n then some ⟨b, o, none⟩ else some ⟨b, o + n, none⟩) (fun _ => by rw [if_neg (by omega)]; simp [add_none])
        rwa [List.take_of_length_le (by have := h.len; rw [List.length_drop]; omega)] at this)
      rw [if_pos rfl, Nat.sub_self] at HQ
      clear h
      have e1 : decide ((n : Int) < 1) = false := decide_eq_false (by omega)
      have e2 : decide ((n : Int) > 150) = false := decide_eq_false (by omega)
      have e3 : decide ((n : Int) < 0) = false := decide_eq_false (by omega)
      have e4 : decide ((n : Int) > (n : Int)) = false := decide_eq_false (by omega)
      go_enter Try.func8, Try.ntmps8
      go_upto_region 6 with (first
        | (go_at_call 11; (with_reducible refine (first5_any _).mono ?_); go_must (rintro e wf ⟨rfl, hb1⟩; replace hB := bstep hB hb1 (Nat.le_refl _); clear hb1))
        | (go_at_call 13; (with_reducible refine (HC.out _ hB).mono ?_); go_must (rintro e w1 ⟨A1, n1, c1, rfl, hn1, ho1, hb1⟩; replace hB := bstep hB hb1 (Nat.le_refl _); have HO := Lib.hid (RdI.here ho1.rd); have HN := Lib.hid hn1; clear ho1 hb1 hn1)))
      go_cut [9] (fun q wc => ∃ A9 c9, q = .slice A9 (n + 1) c9 ∧ Hid (RdI wc wc.heap.size A9 (n + 1) (ws.take n ++ 0 :: ws.drop n)) ∧ Below w1.heap.size w1 wc)
      case first =>
        have HP1 := Lib.hid (HP.out.blw hB)
        have HQ1 := Lib.hid (HQ.out.blw hB)
        clear HC HP HQ HO
        have hpc : n ≤ n := by omega
        have z1 := hB.size
        go_region_law (first
          | (refine step_appendI rfl (.tmp 39) (.tmp 42) rfl w1.heap.size (.slice (some ⟨w1.heap.size, 0, none⟩) 0 0) [] rfl (by ((repeat (first | (with_reducible exact own_nilAt (by first | omega | (simp; done) | (simp; omega)) (by first | omega | (simp; done) | (simp; omega))) | (with_reducible refine ownI.drew ?_) | (with_reducible refine ownI.alloc ?_ _))); first | done | fail)) w.heap.size n _ _ (ws.take n) rfl (RdI.blw HP1.out (Below.mono (by ((repeat (first | (with_reducible exact Below.refl _ _) | (with_reducible refine Below.drew ?_) | (with_reducible refine Below.alloc ?_ (by first | omega | (simp; done) | (simp; omega)) _))); first | done | fail) : Below w1.heap.size w1 _) z1)) (by first | omega | (simp; omega) | (simp; done)) (by first | omega | (simp; done) | (simp; omega)) ?_; intro v3 w3 h3 hg3 hb3 hat3; (have hX3 : Below w1.heap.size w1 w3 := Below.trans (by ((repeat (first | (with_reducible exact Below.refl _ _) | (with_reducible refine Below.drew ?_) | (with_reducible refine Below.alloc ?_ (by first | omega | (simp; done) | (simp; omega)) _))); first | done | fail)) hb3); have z3 := hX3.size; (first | (have hz3 : RdI w3 (w1.heap.size + 2) (some ⟨w1.heap.size + 1, 0, none⟩) 1 [0] := rdI_far (hg := hg3) (h := by ((repeat (first | (with_reducible exact rd_oneAt (by first | omega | (simp; done) | (simp; omega)) (by first | omega | (simp; done) | (simp; omega))) | (with_reducible refine rdI_drew ?_) | (with_reducible refine RdI.alloc ?_ (by first | omega | (simp; done) | (simp; omega)) _))); first | done | fail)) (by first | omega | (simp; done) | (simp; omega)) (by intro a ha; injection ha with ha; subst ha; simp [Value.ownBlock])) | skip); clear hg3 hb3 hat3)
          | (refine step_appendI rfl (.tmp 39) (.tmp 42) rfl w1.heap.size (.slice (some ⟨w1.heap.size + 1, 0, none⟩) 0 0) [] rfl (by ((repeat (first | (with_reducible exact own_nilAt (by first | omega | (simp; done) | (simp; omega)) (by first | omega | (simp; done) | (simp; omega))) | (with_reducible refine ownI.drew ?_) | (with_reducible refine ownI.alloc ?_ _))); first | done | fail)) w.heap.size n _ _ (ws.take n) rfl (RdI.blw HP1.out (Below.mono (by ((repeat (first | (with_reducible exact Below.refl _ _) | (with_reducible refine Below.drew ?_) | (with_reducible refine Below.alloc ?_ (by first | omega | (simp; done) | (simp; omega)) _))); first | done | fail) : Below w1.heap.size w1 _) z1)) (by first | omega | (simp; omega) | (simp; done)) (by first | omega | (simp; done) | (simp; omega)) ?_; intro v3 w3 h3 hg3 hb3 hat3; (have hX3 : Below w1.heap.size w1 w3 := Below.trans (by ((repeat (first | (with_reducible exact Below.refl _ _) | (with_reducible refine Below.drew ?_) | (with_reducible refine Below.alloc ?_ (by first | omega | (simp; done) | (simp; omega)) _))); first | done | fail)) hb3); have z3 := hX3.size; (first | (have hz3 : RdI w3 (w1.heap.size + 1) (some ⟨w1.heap.size, 0, none⟩) 1 [0] := rdI_far (hg := hg3) (h := by ((repeat (first | (with_reducible exact rd_oneAt (by first | omega | (simp; done) | (simp; omega)) (by first | omega | (simp; done) | (simp; omega))) | (with_reducible refine rdI_drew ?_) | (with_reducible refine RdI.alloc ?_ (by first | omega | (simp; done) | (simp; omega)) _))); first | done | fail)) (by first | omega | (simp; done) | (simp; omega)) (by intro a ha; injection ha with ha; subst ha; simp [Value.ownBlock])) | skip); clear hg3 hb3 hat3)
          | (refine step_appendI rfl (.tmp 45) (.tmp 48) rfl w1.heap.size v5 _ rfl h5 w.heap.size _ _ _ (ws.drop n) rfl (RdI.blw HQ1.out (Below.mono (by ((repeat (first | (with_reducible exact hX5) | (with_reducible refine Below.drew ?_) | (with_reducible refine Below.alloc ?_ (by first | omega | (simp; omega) | (simp; done)) _))); first | done | fail) : Below w1.heap.size w1 _) z1)) (by have := HL.out; first | (simp; omega) | (simp; done)) (by first | omega | (simp; omega) | (simp; done)) ?_; intro v7 w7 h7 hg7 hb7 hat7; (have hX7 : Below w1.heap.size w1 w7 := Below.trans (by ((repeat (first | (with_reducible exact hX5) | (with_reducible refine Below.drew ?_) | (with_reducible refine Below.alloc ?_ (by first | omega | (simp; omega) | (simp; done)) _))); first | done | fail)) hb7); clear hg7 hb7 hat7)
          | (refine step_appendI rfl (.tmp 43) (.tmp 44) rfl w1.heap.size v3 ([] ++ ws.take n) rfl (by ((repeat (first | (with_reducible exact h3) | (with_reducible refine ownI.drew ?_) | (with_reducible refine ownI.alloc ?_ _))); first | done | fail)) _ 1 1 _ [0] rfl (by ((repeat (first | (with_reducible exact hz3) | (with_reducible refine rdI_drew ?_))); first | done | fail)) (by first | omega | (simp; omega) | (simp; done)) (by first | omega | (simp; omega) | (simp; done)) ?_; intro v5 w5 h5 hg5 hb5 hat5; (have hX5 : Below w1.heap.size w1 w5 := Below.trans (by ((repeat (first | (with_reducible exact hX3) | (with_reducible refine Below.drew ?_) | (with_reducible refine Below.alloc ?_ (by first | omega | (simp; omega) | (simp; done)) _))); first | done | fail)) hb5); have z5 := hX5.size; clear hg5 hb5 hat5)
          | (refine step_appendI rfl (.tmp 43) (.tmp 44) rfl w1.heap.size v3 ([] ++ ws.take n) rfl (by ((repeat (first | (with_reducible exact h3) | (with_reducible refine ownI.drew ?_) | (with_reducible refine ownI.alloc ?_ _))); first | done | fail)) (w3.heap.size + 1) 1 1 _ [0] rfl (by ((repeat (first | (with_reducible exact rd_oneAt (by first | omega | (simp; done) | (simp; omega)) (by first | omega | (simp; done) | (simp; omega))) | (with_reducible refine rdI_drew ?_))); first | done | fail)) (by first | omega | (simp; omega) | (simp; done)) (by first | omega | (simp; omega) | (simp; done)) ?_; intro v5 w5 h5 hg5 hb5 hat5; (have hX5 : Below w1.heap.size w1 w5 := Below.trans (by ((repeat (first | (with_reducible exact hX3) | (with_reducible refine Below.drew ?_) | (with_reducible refine Below.alloc ?_ (by first | omega | (simp; omega) | (simp; done)) _))); first | done | fail)) hb5); have z5 := hX5.size; clear hg5 hb5 hat5))
        all_goals
          go_simp
          go_wp2_with fail
          go_meet
          case rel =>
            rw [List.nil_append] at h7
            obtain ⟨A9, c9, rfl, hr, -, -⟩ := h7.form
            rw [more_len HL.out g3] at hr ⊢
            refine ⟨A9, c9, rfl, ?_, ?_⟩
            · rw [List.append_assoc] at hr
              exact hr
            · exact hX7
      case rest =>
        obtain ⟨A9, c9, rfl, HM, hBc⟩ := hcut
        have z1 := hB.size
        have hB9 : Below w.heap.size w wc := hB.trans (hBc.mono z1)
        have HO2 := Lib.hid (HO.out.blw hBc)
        have HSP := Lib.hid (List.take_append_drop n ws)
        have HLP : Hid ((ws.take n).length = n) := (show _ = _ by rw [List.length_take, HL.out]; omega)
        have HC2 := Lib.hid (fun (w' : World) (hb : Below wc.heap.size wc w') => lengths_any wc.heap.size (n + 1) c9 A9 (ws.take n ++ 0 :: ws.drop n) most w' (HM.out.blw hb) hb.size (by omega))
        have HWM : Hid (wrongH (ws.take n ++ 0 :: ws.drop n) most = wrongH ws most) := (show _ = _ by
          have := wrong_more (ws.take n) (ws.drop n) most (by rw [HSP.out, HL.out]; omega) (by rw [HSP.out, HL.out]; omega)
          rwa [HSP.out] at this)
        clear HC HM
        cases hw : wrongH ws most with
        | true =>
          have hE : lenE ws most = 1 ∧ lenR ws most = [] := by unfold lenE lenR; rw [hw]; exact ⟨rfl, rfl⟩
          have hE2 : lenE (ws.take n ++ 0 :: ws.drop n) most = 1 ∧ lenR (ws.take n ++ 0 :: ws.drop n) most = [] := by unfold lenE lenR; rw [HWM.out, hw]; exact ⟨rfl, rfl⟩
          have HE2 := Lib.hid hE2
          rw [hE.1]
          clear hE hE2 hw HO2
          go_wp2_with (first
            | (go_at_call 11; (with_reducible refine (first5_any _).mono ?_); go_must (rintro e wf ⟨rfl, hb1⟩; replace hB9 := bstep hB9 hb1 (Nat.le_refl _); clear hb1))
            | (go_at_call 13; (with_reducible refine (HC2.out _ (Below.refl _ _)).mono ?_); go_must (rintro e w2 ⟨A2, n2, c2, rfl, hn2, ho2, hb2⟩; rw [HE2.out.1]; rw [HE2.out.2] at hn2; obtain rfl : n2 = 0 := hn2; replace hB9 := bstep hB9 hb2 (Nat.le_refl _); clear ho2 hb2)))
          go_ret
          exact ⟨rfl, hB9⟩
        | false =>
          obtain ⟨-, -, q3, q4, -, -⟩ := wrongH_false hw
          obtain ⟨m, rfl⟩ := Int.eq_ofNat_of_zero_le (show 0 ≤ most by omega)
          have hE : lenE ws (m : Int) = 0 ∧ lenR ws (m : Int) = lensOf ws m := by unfold lenE lenR; rw [hw]; exact ⟨rfl, rfl⟩
          have hE2 : lenE (ws.take n ++ 0 :: ws.drop n) (m : Int) = 0 ∧ lenR (ws.take n ++ 0 :: ws.drop n) (m : Int) = lensOf (ws.take n ++ 0 :: ws.drop n) m := by unfold lenE lenR; rw [HWM.out, hw]; exact ⟨rfl, rfl⟩
          have HE2 := Lib.hid hE2
          rw [hE.1]
          have hoo := HO2.out
          have hnn := HN.out
          rw [hE.2] at hoo
          rw [hE.2, lensOf_len, HL.out] at hnn
          obtain rfl : n = n1 := hnn.symm
          have HO4 := Lib.hid hoo
          have HX1 : Hid ((lensOf (ws.take n ++ 0 :: ws.drop n) m)[n]? = some 0) := (show _ = _ by
            have := lens_new (ws.take n) (ws.drop n) m
            rwa [HLP.out] at this)
          have HX2 : Hid ((lensOf (ws.take n ++ 0 :: ws.drop n) m).take n ++ (lensOf (ws.take n ++ 0 :: ws.drop n) m).drop (n + 1) = lensOf ws m) := (show _ = _ by
            have := lens_less (ws.take n) (ws.drop n) m
            rwa [HLP.out, HSP.out] at this)
          have HLM : Hid ((lensOf (ws.take n ++ 0 :: ws.drop n) m).length = n + 1) := (show _ = _ by
            have h1 := HLP.out
            have h2 := HL.out
            rw [lensOf_len, List.length_append, List.length_cons, List.length_drop]
            omega)
          have z2 := hBc.size
          clear hE hE2 hw hnn hoo HO2 HO HN HWM
          generalize lensOf (ws.take n ++ 0 :: ws.drop n) m = M at *
          go_upto_region 12 with (first
            | (go_at_call 11; (with_reducible refine (first5_any _).mono ?_); go_must (rintro e wf ⟨rfl, hb1⟩; replace hB9 := bstep hB9 hb1 (Nat.le_refl _); clear hb1))
            | (go_at_call 13; (with_reducible refine (HC2.out _ (Below.refl _ _)).mono ?_); go_must (rintro e w2 ⟨A2, n2, c2, rfl, hn2, ho2, hb2⟩; rw [HE2.out.1]; rw [HE2.out.2] at hn2 ho2; obtain rfl : n2 = n + 1 := hn2.trans HLM.out; clear hn2; replace hB9 := bstep hB9 hb2 (Nat.le_refl _); have HM2 := Lib.hid (RdI.here ho2.rd); obtain ⟨_, _, ev, -, hc2, hc3⟩ := ho2.form; injection ev with ev1 ev2 ev3; have hc4 : n + 1 ≤ c2 := (by omega); have HO3 := Lib.hid (HO4.out.blw (hb2.mono z2)); clear ho2 hc2 hc3 ev1 ev2 ev3; obtain ⟨b2, o2, y2, rfl, hbl, HY, f2⟩ := HM2.out.one (k := n) (by omega); obtain rfl : y2 = 0 := Option.some.inj (HY.out.symm.trans HX1.out); clear HY; have z3 := hb2.size; clear hb2)))
          have HP2 := Lib.hid (show RdI w2 w2.heap.size (some ⟨b2, o2, none⟩) n (M.take n) from by
            have := HM2.out.cut (k := 0) (m := n) (by omega) (A' := some ⟨b2, o2, none⟩) (fun _ => by simp [add_none])
            simpa using this)
          have hdl : (M.drop (n + 1)).take (n - n) = M.drop (n + 1) := List.take_of_length_le (by have := HLM.out; rw [List.length_drop]; omega)
          have HQa := Lib.hid (show c2 = n + 1 → RdI w2 w2.heap.size (some ⟨b2, o2, none⟩) 0 (M.drop (n + 1)) from fun e => by
            have := HM2.out.cut (k := n + 1) (m := n - n) (by omega) (A' := some ⟨b2, o2, none⟩) (fun _ => by omega)
            rw [hdl] at this
            simpa using this)
          have HQb := Lib.hid (show RdI w2 w2.heap.size (some ⟨b2, o2 + (n + 1), none⟩) 0 (M.drop (n + 1)) from by
            have := HM2.out.cut (k := n + 1) (m := n - n) (by omega) (A' := some ⟨b2, o2 + (n + 1), none⟩) (fun _ => by simp [add_none])
            rw [hdl] at this
            simpa using this)
          have hpi : (n : Int) < (n : Int) + 1 := by omega
          have hpi2 : (n : Int) + 1 ≤ (n : Int) + 1 := by omega
          have hpi3 : (n : Int) ≤ (n : Int) := by omega
          have hpc2 : n ≤ c2 := by omega
          have hpc3 : n + 1 ≤ c2 := by omega
          have hpc4 : (n : Int) + 1 ≤ c2 := by omega
          have hpn : n < n + 1 := by omega
          have hpm : n + 1 ≤ n + 1 := by omega
          clear hdl HM2
          by_cases hce : c2 = n + 1
          · subst hce
            have HQ2 := Lib.hid (HQa.out rfl)
            clear HQa HQb
            have hq1 : ([] : List Int).length + n ≤ 1099511627776 := by show 0 + n ≤ _; omega
            have hq2 : ([] ++ M.take n).length + 0 ≤ 1099511627776 := by rw [List.nil_append, List.length_take]; omega
            have hq3 : (lensOf ws m).length ≤ 1099511627776 := by have h1 := HO3.out.len; omega
            have q1 : (0 : Int) ≤ (n : Int) + 1 := by omega
            have q2 : ((n : Int) + 1).toNat = n + 1 := by omega
            have q3 : (n : Int) ≤ (n : Int) + 1 := by omega
            have q4 : n ≤ n + 1 := by omega
            have q6 : IntKind.i64.wrap ((n : Int) + 1) = (n : Int) + 1 := (by have := wrap_i64_lt (n + 1) (by omega); simpa using this)
            go_region_held3 (fun w' => w'.cell? ⟨b2, o2 + n, none⟩ = some (.int .i64 0))
              (first | (with_reducible exact f2) | (with_reducible exact f5) | (with_reducible exact f6) | (with_reducible exact f7) | (with_reducible exact f8) | (with_reducible exact cell_alloc2 f5 _) | go_keep)
              (first
              | (go_at_call 11; (with_reducible refine (first5_any _).mono ?_); go_must (rintro e w5 ⟨rfl, hbf⟩; have hF : Below w2.heap.size w2 w5 := (by first | (with_reducible exact hbf) | (with_reducible exact below_undrew hbf)); have f5 := bsame hF hbl f2; have z5 := hF.size; have hn5 := own_nilAt (W := w5) rfl (Nat.le_refl _); clear hbf))
              | (refine step_appendIg (by rfl) (.tmp 95) (.tmp 98) rfl w5.heap.size (.slice (some ⟨w5.heap.size, 0, none⟩) 0 0) [] rfl hn5 w2.heap.size n _ _ (M.take n) rfl (RdI.blw HP2.out (hF.alloc z5 _)) hq1 (alloc_le _ _) ?_; intro v6 w6 h6 hg6 hb6 hat6; have hX6 : Below w5.heap.size w5 w6 := Below.trans ((Below.refl _ _).alloc (Nat.le_refl _) _) hb6; have z6 := hX6.size; have f6 := cell_blw hX6 (Nat.lt_of_lt_of_le hbl z5) f5; clear hg6 hb6 hat6)
              | (refine step_appendIg (by rfl) (.tmp 99) (.tmp 103) rfl w5.heap.size v6 ([] ++ M.take n) rfl h6 w2.heap.size _ _ _ (M.drop (n + 1)) rfl (RdI.blw HQ2.out (Below.trans hF (hX6.mono z5))) hq2 z6 ?_; intro v7 w7 h7 hg7 hb7 hat7; have hX7 : Below w5.heap.size w5 w7 := Below.trans hX6 hb7; clear hg7 hb7 hat7; rw [List.nil_append, HX2.out] at h7; obtain ⟨A7, c7, rfl, hr7, -, -⟩ := h7.form; have f7 := cell_blw hX7 (Nat.lt_of_lt_of_le hbl z5) f5)
              | (go_at_call 15; (with_reducible refine (ints_any _ _ _ _ _ _ _ _ _ _ _ hr7 (RdI.blw HO3.out ((hF.trans (hX7.mono z5)).mono (Nat.le_trans z2 z3))) hq3).mono ?_); go_must (rintro e w8 ⟨rfl, hb8⟩; have f8 := cell_blw hb8 (Nat.lt_of_lt_of_le hbl (Nat.le_trans z5 hX7.size)) f7)))
            all_goals
              go_wp2_with fail
              go_ret
              exact ⟨rfl, hB9.trans (((hF.trans (hX7.mono z5)).trans (hb8.mono (by have := hX7.size; omega))).mono hB9.size)⟩
          · have HQ2 := Lib.hid HQb.out
            have hce2 : ¬ n + 1 = c2 := fun e => hce e.symm
            clear HQa HQb
            have hq1 : ([] : List Int).length + n ≤ 1099511627776 := by show 0 + n ≤ _; omega
            have hq2 : ([] ++ M.take n).length + 0 ≤ 1099511627776 := by rw [List.nil_append, List.length_take]; omega
            have hq3 : (lensOf ws m).length ≤ 1099511627776 := by have h1 := HO3.out.len; omega
            have q1 : (0 : Int) ≤ (n : Int) + 1 := by omega
            have q2 : ((n : Int) + 1).toNat = n + 1 := by omega
            have q6 : IntKind.i64.wrap ((n : Int) + 1) = (n : Int) + 1 := (by have := wrap_i64_lt (n + 1) (by omega); simpa using this)
            go_region_held3 (fun w' => w'.cell? ⟨b2, o2 + n, none⟩ = some (.int .i64 0))
              (first | (with_reducible exact f2) | (with_reducible exact f5) | (with_reducible exact f6) | (with_reducible exact f7) | (with_reducible exact f8) | (with_reducible exact cell_alloc2 f5 _) | go_keep)
              (first
              | (go_at_call 11; (with_reducible refine (first5_any _).mono ?_); go_must (rintro e w5 ⟨rfl, hbf⟩; have hF : Below w2.heap.size w2 w5 := (by first | (with_reducible exact hbf) | (with_reducible exact below_undrew hbf)); have f5 := bsame hF hbl f2; have z5 := hF.size; have hn5 := own_nilAt (W := w5) rfl (Nat.le_refl _); clear hbf))
              | (refine step_appendIg (by rfl) (.tmp 95) (.tmp 98) rfl w5.heap.size (.slice (some ⟨w5.heap.size, 0, none⟩) 0 0) [] rfl hn5 w2.heap.size n _ _ (M.take n) rfl (RdI.blw HP2.out (hF.alloc z5 _)) hq1 (alloc_le _ _) ?_; intro v6 w6 h6 hg6 hb6 hat6; have hX6 : Below w5.heap.size w5 w6 := Below.trans ((Below.refl _ _).alloc (Nat.le_refl _) _) hb6; have z6 := hX6.size; have f6 := cell_blw hX6 (Nat.lt_of_lt_of_le hbl z5) f5; clear hg6 hb6 hat6)
              | (refine step_appendIg (by rfl) (.tmp 99) (.tmp 103) rfl w5.heap.size v6 ([] ++ M.take n) rfl h6 w2.heap.size _ _ _ (M.drop (n + 1)) rfl (RdI.blw HQ2.out (Below.trans hF (hX6.mono z5))) hq2 z6 ?_; intro v7 w7 h7 hg7 hb7 hat7; have hX7 : Below w5.heap.size w5 w7 := Below.trans hX6 hb7; clear hg7 hb7 hat7; rw [List.nil_append, HX2.out] at h7; obtain ⟨A7, c7, rfl, hr7, -, -⟩ := h7.form; have f7 := cell_blw hX7 (Nat.lt_of_lt_of_le hbl z5) f5)
              | (go_at_call 15; (with_reducible refine (ints_any _ _ _ _ _ _ _ _ _ _ _ hr7 (RdI.blw HO3.out ((hF.trans (hX7.mono z5)).mono (Nat.le_trans z2 z3))) hq3).mono ?_); go_must (rintro e w8 ⟨rfl, hb8⟩; have f8 := cell_blw hb8 (Nat.lt_of_lt_of_le hbl (Nat.le_trans z5 hX7.size)) f7)))
            all_goals
              go_wp2_with fail
              go_ret
              exact ⟨rfl, hB9.trans (((hF.trans (hX7.mono z5)).trans (hb8.mono (by have := hX7.size; omega))).mono hB9.size)⟩
    · have hcp : ¬ c = p := fun e => hpc0 e.symm
      have HC := Lib.hid (fun (w' : World) (hb : Below w.heap.size w w') => lengths_any w.heap.size n c (some ⟨b, o, none⟩) ws most w' (h.blw hb) hb.size (by omega))
      have HL := Lib.hid h.len
      have HP := Lib.hid (show RdI w w.heap.size (some ⟨b, o, none⟩) p (ws.take p) from by
        have := h.cut (k := 0) (m := p) (by omega) (A' := some ⟨b, o, none⟩) (fun _ => by simp [add_none])
        simpa using this)
      have HQ := Lib.hid (show RdI w w.heap.size (if c = p then some ⟨b, o, none⟩ else some ⟨b, o + p, none⟩) (n - p) (ws.drop p) from by
        have := h.cut (k := p) (m := n - p) (by omega) (A' := if c = p then some ⟨b, o, none⟩ else some ⟨b, o + p, none⟩) (fun _ => by rw [if_neg (by omega)]; simp [add_none])
        rwa [List.take_of_length_le (by have := h.len; rw [List.length_drop]; omega)] at this)
      rw [if_neg hcp] at HQ
      clear h
      have e1 : decide ((n : Int) < 1) = false := decide_eq_false (by omega)
      have e2 : decide ((n : Int) > 150) = false := decide_eq_false (by omega)
      have e3 : decide ((p : Int) < 0) = false := decide_eq_false (by omega)
      have e4 : decide ((p : Int) > (n : Int)) = false := decide_eq_false (by omega)
      go_enter Try.func8, Try.ntmps8
      go_upto_region 6 with (first
        | (go_at_call 11; (with_reducible refine (first5_any _).mono ?_); go_must (rintro e wf ⟨rfl, hb1⟩; replace hB := bstep hB hb1 (Nat.le_refl _); clear hb1))
        | (go_at_call 13; (with_reducible refine (HC.out _ hB).mono ?_); go_must (rintro e w1 ⟨A1, n1, c1, rfl, hn1, ho1, hb1⟩; replace hB := bstep hB hb1 (Nat.le_refl _); have HO := Lib.hid (RdI.here ho1.rd); have HN := Lib.hid hn1; clear ho1 hb1 hn1)))
      go_cut [9] (fun q wc => ∃ A9 c9, q = .slice A9 (n + 1) c9 ∧ Hid (RdI wc wc.heap.size A9 (n + 1) (ws.take p ++ 0 :: ws.drop p)) ∧ Below w1.heap.size w1 wc)
      case first =>
        have HP1 := Lib.hid (HP.out.blw hB)
        have HQ1 := Lib.hid (HQ.out.blw hB)
        clear HC HP HQ HO
        have hpc : p ≤ c := by omega
        have z1 := hB.size
        go_region_law (first
          | (refine step_appendI rfl (.tmp 39) (.tmp 42) rfl w1.heap.size (.slice (some ⟨w1.heap.size, 0, none⟩) 0 0) [] rfl (by ((repeat (first | (with_reducible exact own_nilAt (by first | omega | (simp; done) | (simp; omega)) (by first | omega | (simp; done) | (simp; omega))) | (with_reducible refine ownI.drew ?_) | (with_reducible refine ownI.alloc ?_ _))); first | done | fail)) w.heap.size p _ _ (ws.take p) rfl (RdI.blw HP1.out (Below.mono (by ((repeat (first | (with_reducible exact Below.refl _ _) | (with_reducible refine Below.drew ?_) | (with_reducible refine Below.alloc ?_ (by first | omega | (simp; done) | (simp; omega)) _))); first | done | fail) : Below w1.heap.size w1 _) z1)) (by first | omega | (simp; omega) | (simp; done)) (by first | omega | (simp; done) | (simp; omega)) ?_; intro v3 w3 h3 hg3 hb3 hat3; (have hX3 : Below w1.heap.size w1 w3 := Below.trans (by ((repeat (first | (with_reducible exact Below.refl _ _) | (with_reducible refine Below.drew ?_) | (with_reducible refine Below.alloc ?_ (by first | omega | (simp; done) | (simp; omega)) _))); first | done | fail)) hb3); have z3 := hX3.size; (first | (have hz3 : RdI w3 (w1.heap.size + 2) (some ⟨w1.heap.size + 1, 0, none⟩) 1 [0] := rdI_far (hg := hg3) (h := by ((repeat (first | (with_reducible exact rd_oneAt (by first | omega | (simp; done) | (simp; omega)) (by first | omega | (simp; done) | (simp; omega))) | (with_reducible refine rdI_drew ?_) | (with_reducible refine RdI.alloc ?_ (by first | omega | (simp; done) | (simp; omega)) _))); first | done | fail)) (by first | omega | (simp; done) | (simp; omega)) (by intro a ha; injection ha with ha; subst ha; simp [Value.ownBlock])) | skip); clear hg3 hb3 hat3)
          | (refine step_appendI rfl (.tmp 39) (.tmp 42) rfl w1.heap.size (.slice (some ⟨w1.heap.size + 1, 0, none⟩) 0 0) [] rfl (by ((repeat (first | (with_reducible exact own_nilAt (by first | omega | (simp; done) | (simp; omega)) (by first | omega | (simp; done) | (simp; omega))) | (with_reducible refine ownI.drew ?_) | (with_reducible refine ownI.alloc ?_ _))); first | done | fail)) w.heap.size p _ _ (ws.take p) rfl (RdI.blw HP1.out (Below.mono (by ((repeat (first | (with_reducible exact Below.refl _ _) | (with_reducible refine Below.drew ?_) | (with_reducible refine Below.alloc ?_ (by first | omega | (simp; done) | (simp; omega)) _))); first | done | fail) : Below w1.heap.size w1 _) z1)) (by first | omega | (simp; omega) | (simp; done)) (by first | omega | (simp; done) | (simp; omega)) ?_; intro v3 w3 h3 hg3 hb3 hat3; (have hX3 : Below w1.heap.size w1 w3 := Below.trans (by ((repeat (first | (with_reducible exact Below.refl _ _) | (with_reducible refine Below.drew ?_) | (with_reducible refine Below.alloc ?_ (by first | omega | (simp; done) | (simp; omega)) _))); first | done | fail)) hb3); have z3 := hX3.size; (first | (have hz3 : RdI w3 (w1.heap.size + 1) (some ⟨w1.heap.size, 0, none⟩) 1 [0] := rdI_far (hg := hg3) (h := by ((repeat (first | (with_reducible exact rd_oneAt (by first | omega | (simp; done) | (simp; omega)) (by first | omega | (simp; done) | (simp; omega))) | (with_reducible refine rdI_drew ?_) | (with_reducible refine RdI.alloc ?_ (by first | omega | (simp; done) | (simp; omega)) _))); first | done | fail)) (by first | omega | (simp; done) | (simp; omega)) (by intro a ha; injection ha with ha; subst ha; simp [Value.ownBlock])) | skip); clear hg3 hb3 hat3)
          | (refine step_appendI rfl (.tmp 45) (.tmp 48) rfl w1.heap.size v5 _ rfl h5 w.heap.size (n - p) _ _ (ws.drop p) rfl (RdI.blw HQ1.out (Below.mono (by ((repeat (first | (with_reducible exact hX5) | (with_reducible refine Below.drew ?_) | (with_reducible refine Below.alloc ?_ (by first | omega | (simp; omega) | (simp; done)) _))); first | done | fail) : Below w1.heap.size w1 _) z1)) (by have := HL.out; first | (simp; omega) | (simp; done)) (by first | omega | (simp; omega) | (simp; done)) ?_; intro v7 w7 h7 hg7 hb7 hat7; (have hX7 : Below w1.heap.size w1 w7 := Below.trans (by ((repeat (first | (with_reducible exact hX5) | (with_reducible refine Below.drew ?_) | (with_reducible refine Below.alloc ?_ (by first | omega | (simp; omega) | (simp; done)) _))); first | done | fail)) hb7); clear hg7 hb7 hat7)
          | (refine step_appendI rfl (.tmp 43) (.tmp 44) rfl w1.heap.size v3 ([] ++ ws.take p) rfl (by ((repeat (first | (with_reducible exact h3) | (with_reducible refine ownI.drew ?_) | (with_reducible refine ownI.alloc ?_ _))); first | done | fail)) _ 1 1 _ [0] rfl (by ((repeat (first | (with_reducible exact hz3) | (with_reducible refine rdI_drew ?_))); first | done | fail)) (by first | omega | (simp; omega) | (simp; done)) (by first | omega | (simp; omega) | (simp; done)) ?_; intro v5 w5 h5 hg5 hb5 hat5; (have hX5 : Below w1.heap.size w1 w5 := Below.trans (by ((repeat (first | (with_reducible exact hX3) | (with_reducible refine Below.drew ?_) | (with_reducible refine Below.alloc ?_ (by first | omega | (simp; omega) | (simp; done)) _))); first | done | fail)) hb5); have z5 := hX5.size; clear hg5 hb5 hat5)
          | (refine step_appendI rfl (.tmp 43) (.tmp 44) rfl w1.heap.size v3 ([] ++ ws.take p) rfl (by ((repeat (first | (with_reducible exact h3) | (with_reducible refine ownI.drew ?_) | (with_reducible refine ownI.alloc ?_ _))); first | done | fail)) (w3.heap.size + 1) 1 1 _ [0] rfl (by ((repeat (first | (with_reducible exact rd_oneAt (by first | omega | (simp; done) | (simp; omega)) (by first | omega | (simp; done) | (simp; omega))) | (with_reducible refine rdI_drew ?_))); first | done | fail)) (by first | omega | (simp; omega) | (simp; done)) (by first | omega | (simp; omega) | (simp; done)) ?_; intro v5 w5 h5 hg5 hb5 hat5; (have hX5 : Below w1.heap.size w1 w5 := Below.trans (by ((repeat (first | (with_reducible exact hX3) | (with_reducible refine Below.drew ?_) | (with_reducible refine Below.alloc ?_ (by first | omega | (simp; omega) | (simp; done)) _))); first | done | fail)) hb5); have z5 := hX5.size; clear hg5 hb5 hat5))
        all_goals
          go_simp
          go_wp2_with fail
          go_meet
          case rel =>
            rw [List.nil_append] at h7
            obtain ⟨A9, c9, rfl, hr, -, -⟩ := h7.form
            rw [more_len HL.out g3] at hr ⊢
            refine ⟨A9, c9, rfl, ?_, ?_⟩
            · rw [List.append_assoc] at hr
              exact hr
            · exact hX7
      case rest =>
        obtain ⟨A9, c9, rfl, HM, hBc⟩ := hcut
        have z1 := hB.size
        have hB9 : Below w.heap.size w wc := hB.trans (hBc.mono z1)
        have HO2 := Lib.hid (HO.out.blw hBc)
        have HSP := Lib.hid (List.take_append_drop p ws)
        have HLP : Hid ((ws.take p).length = p) := (show _ = _ by rw [List.length_take, HL.out]; omega)
        have HC2 := Lib.hid (fun (w' : World) (hb : Below wc.heap.size wc w') => lengths_any wc.heap.size (n + 1) c9 A9 (ws.take p ++ 0 :: ws.drop p) most w' (HM.out.blw hb) hb.size (by omega))
        have HWM : Hid (wrongH (ws.take p ++ 0 :: ws.drop p) most = wrongH ws most) := (show _ = _ by
          have := wrong_more (ws.take p) (ws.drop p) most (by rw [HSP.out, HL.out]; omega) (by rw [HSP.out, HL.out]; omega)
          rwa [HSP.out] at this)
        clear HC HM
        cases hw : wrongH ws most with
        | true =>
          have hE : lenE ws most = 1 ∧ lenR ws most = [] := by unfold lenE lenR; rw [hw]; exact ⟨rfl, rfl⟩
          have hE2 : lenE (ws.take p ++ 0 :: ws.drop p) most = 1 ∧ lenR (ws.take p ++ 0 :: ws.drop p) most = [] := by unfold lenE lenR; rw [HWM.out, hw]; exact ⟨rfl, rfl⟩
          have HE2 := Lib.hid hE2
          rw [hE.1]
          clear hE hE2 hw HO2
          go_wp2_with (first
            | (go_at_call 11; (with_reducible refine (first5_any _).mono ?_); go_must (rintro e wf ⟨rfl, hb1⟩; replace hB9 := bstep hB9 hb1 (Nat.le_refl _); clear hb1))
            | (go_at_call 13; (with_reducible refine (HC2.out _ (Below.refl _ _)).mono ?_); go_must (rintro e w2 ⟨A2, n2, c2, rfl, hn2, ho2, hb2⟩; rw [HE2.out.1]; rw [HE2.out.2] at hn2; obtain rfl : n2 = 0 := hn2; replace hB9 := bstep hB9 hb2 (Nat.le_refl _); clear ho2 hb2)))
          go_ret
          exact ⟨rfl, hB9⟩
        | false =>
          obtain ⟨-, -, q3, q4, -, -⟩ := wrongH_false hw
          obtain ⟨m, rfl⟩ := Int.eq_ofNat_of_zero_le (show 0 ≤ most by omega)
          have hE : lenE ws (m : Int) = 0 ∧ lenR ws (m : Int) = lensOf ws m := by unfold lenE lenR; rw [hw]; exact ⟨rfl, rfl⟩
          have hE2 : lenE (ws.take p ++ 0 :: ws.drop p) (m : Int) = 0 ∧ lenR (ws.take p ++ 0 :: ws.drop p) (m : Int) = lensOf (ws.take p ++ 0 :: ws.drop p) m := by unfold lenE lenR; rw [HWM.out, hw]; exact ⟨rfl, rfl⟩
          have HE2 := Lib.hid hE2
          rw [hE.1]
          have hoo := HO2.out
          have hnn := HN.out
          rw [hE.2] at hoo
          rw [hE.2, lensOf_len, HL.out] at hnn
          obtain rfl : n = n1 := hnn.symm
          have HO4 := Lib.hid hoo
          have HX1 : Hid ((lensOf (ws.take p ++ 0 :: ws.drop p) m)[p]? = some 0) := (show _ = _ by
            have := lens_new (ws.take p) (ws.drop p) m
            rwa [HLP.out] at this)
          have HX2 : Hid ((lensOf (ws.take p ++ 0 :: ws.drop p) m).take p ++ (lensOf (ws.take p ++ 0 :: ws.drop p) m).drop (p + 1) = lensOf ws m) := (show _ = _ by
            have := lens_less (ws.take p) (ws.drop p) m
            rwa [HLP.out, HSP.out] at this)
          have HLM : Hid ((lensOf (ws.take p ++ 0 :: ws.drop p) m).length = n + 1) := (show _ = _ by
            have h1 := HLP.out
            have h2 := HL.out
            rw [lensOf_len, List.length_append, List.length_cons, List.length_drop]
            omega)
          have z2 := hBc.size
          clear hE hE2 hw hnn hoo HO2 HO HN HWM
          generalize lensOf (ws.take p ++ 0 :: ws.drop p) m = M at *
          go_upto_region 12 with (first
            | (go_at_call 11; (with_reducible refine (first5_any _).mono ?_); go_must (rintro e wf ⟨rfl, hb1⟩; replace hB9 := bstep hB9 hb1 (Nat.le_refl _); clear hb1))
            | (go_at_call 13; (with_reducible refine (HC2.out _ (Below.refl _ _)).mono ?_); go_must (rintro e w2 ⟨A2, n2, c2, rfl, hn2, ho2, hb2⟩; rw [HE2.out.1]; rw [HE2.out.2] at hn2 ho2; obtain rfl : n2 = n + 1 := hn2.trans HLM.out; clear hn2; replace hB9 := bstep hB9 hb2 (Nat.le_refl _); have HM2 := Lib.hid (RdI.here ho2.rd); obtain ⟨_, _, ev, -, hc2, hc3⟩ := ho2.form; injection ev with ev1 ev2 ev3; have hc4 : n + 1 ≤ c2 := (by omega); have HO3 := Lib.hid (HO4.out.blw (hb2.mono z2)); clear ho2 hc2 hc3 ev1 ev2 ev3; obtain ⟨b2, o2, y2, rfl, hbl, HY, f2⟩ := HM2.out.one (k := p) (by omega); obtain rfl : y2 = 0 := Option.some.inj (HY.out.symm.trans HX1.out); clear HY; have z3 := hb2.size; clear hb2)))
          have HP2 := Lib.hid (show RdI w2 w2.heap.size (some ⟨b2, o2, none⟩) p (M.take p) from by
            have := HM2.out.cut (k := 0) (m := p) (by omega) (A' := some ⟨b2, o2, none⟩) (fun _ => by simp [add_none])
            simpa using this)
          have hdl : (M.drop (p + 1)).take (n - p) = M.drop (p + 1) := List.take_of_length_le (by have := HLM.out; rw [List.length_drop]; omega)
          have HQa := Lib.hid (show c2 = p + 1 → RdI w2 w2.heap.size (some ⟨b2, o2, none⟩) (n - p) (M.drop (p + 1)) from fun e => by
            have := HM2.out.cut (k := p + 1) (m := n - p) (by omega) (A' := some ⟨b2, o2, none⟩) (fun _ => by omega)
            rw [hdl] at this
            simpa using this)
          have HQb := Lib.hid (show RdI w2 w2.heap.size (some ⟨b2, o2 + (p + 1), none⟩) (n - p) (M.drop (p + 1)) from by
            have := HM2.out.cut (k := p + 1) (m := n - p) (by omega) (A' := some ⟨b2, o2 + (p + 1), none⟩) (fun _ => by simp [add_none])
            rw [hdl] at this
            simpa using this)
          have hpi : (p : Int) < (n : Int) + 1 := by omega
          have hpi2 : (p : Int) + 1 ≤ (n : Int) + 1 := by omega
          have hpi3 : (p : Int) ≤ (n : Int) := by omega
          have hpc2 : p ≤ c2 := by omega
          have hpc3 : p + 1 ≤ c2 := by omega
          have hpc4 : (p : Int) + 1 ≤ c2 := by omega
          have hpn : p < n + 1 := by omega
          have hpm : p + 1 ≤ n + 1 := by omega
          clear hdl HM2
          by_cases hce : c2 = p + 1
          · obtain rfl : p = n := by omega
            subst hce
            have HQ2 := Lib.hid (show RdI w2 w2.heap.size (some ⟨b2, o2, none⟩) 0 (M.drop (p + 1)) from by have := HQa.out rfl; rwa [Nat.sub_self] at this)
            clear HQa HQb
            have hq1 : ([] : List Int).length + p ≤ 1099511627776 := by show 0 + p ≤ _; omega
            have hq2 : ([] ++ M.take p).length + 0 ≤ 1099511627776 := by rw [List.nil_append, List.length_take]; omega
            have hq3 : (lensOf ws m).length ≤ 1099511627776 := by have h1 := HO3.out.len; omega
            have q1 : (0 : Int) ≤ (p : Int) + 1 := by omega
            have q2 : ((p : Int) + 1).toNat = p + 1 := by omega
            have q3 : (p : Int) ≤ (p : Int) + 1 := by omega
            have q4 : p ≤ p + 1 := by omega
            have q6 : IntKind.i64.wrap ((p : Int) + 1) = (p : Int) + 1 := (by have := wrap_i64_lt (p + 1) (by omega); simpa using this)
            go_region_held3 (fun w' => w'.cell? ⟨b2, o2 + p, none⟩ = some (.int .i64 0))
              (first | (with_reducible exact f2) | (with_reducible exact f5) | (with_reducible exact f6) | (with_reducible exact f7) | (with_reducible exact f8) | (with_reducible exact cell_alloc2 f5 _) | go_keep)
              (first
              | (go_at_call 11; (with_reducible refine (first5_any _).mono ?_); go_must (rintro e w5 ⟨rfl, hbf⟩; have hF : Below w2.heap.size w2 w5 := (by first | (with_reducible exact hbf) | (with_reducible exact below_undrew hbf)); have f5 := bsame hF hbl f2; have z5 := hF.size; have hn5 := own_nilAt (W := w5) rfl (Nat.le_refl _); clear hbf))
              | (refine step_appendIg (by rfl) (.tmp 95) (.tmp 98) rfl w5.heap.size (.slice (some ⟨w5.heap.size, 0, none⟩) 0 0) [] rfl hn5 w2.heap.size p _ _ (M.take p) rfl (RdI.blw HP2.out (hF.alloc z5 _)) hq1 (alloc_le _ _) ?_; intro v6 w6 h6 hg6 hb6 hat6; have hX6 : Below w5.heap.size w5 w6 := Below.trans ((Below.refl _ _).alloc (Nat.le_refl _) _) hb6; have z6 := hX6.size; have f6 := cell_blw hX6 (Nat.lt_of_lt_of_le hbl z5) f5; clear hg6 hb6 hat6)
              | (refine step_appendIg (by rfl) (.tmp 99) (.tmp 103) rfl w5.heap.size v6 ([] ++ M.take p) rfl h6 w2.heap.size _ _ _ (M.drop (p + 1)) rfl (RdI.blw HQ2.out (Below.trans hF (hX6.mono z5))) hq2 z6 ?_; intro v7 w7 h7 hg7 hb7 hat7; have hX7 : Below w5.heap.size w5 w7 := Below.trans hX6 hb7; clear hg7 hb7 hat7; rw [List.nil_append, HX2.out] at h7; obtain ⟨A7, c7, rfl, hr7, -, -⟩ := h7.form; have f7 := cell_blw hX7 (Nat.lt_of_lt_of_le hbl z5) f5)
              | (go_at_call 15; (with_reducible refine (ints_any _ _ _ _ _ _ _ _ _ _ _ hr7 (RdI.blw HO3.out ((hF.trans (hX7.mono z5)).mono (Nat.le_trans z2 z3))) hq3).mono ?_); go_must (rintro e w8 ⟨rfl, hb8⟩; have f8 := cell_blw hb8 (Nat.lt_of_lt_of_le hbl (Nat.le_trans z5 hX7.size)) f7)))
            all_goals
              go_wp2_with fail
              go_ret
              exact ⟨rfl, hB9.trans (((hF.trans (hX7.mono z5)).trans (hb8.mono (by have := hX7.size; omega))).mono hB9.size)⟩
          · have HQ2 := Lib.hid HQb.out
            have hce2 : ¬ p + 1 = c2 := fun e => hce e.symm
            clear HQa HQb
            have hq1 : ([] : List Int).length + p ≤ 1099511627776 := by show 0 + p ≤ _; omega
            have hq2 : ([] ++ M.take p).length + (n - p) ≤ 1099511627776 := by rw [List.nil_append, List.length_take]; omega
            have hq3 : (lensOf ws m).length ≤ 1099511627776 := by have h1 := HO3.out.len; omega
            have q1 : (0 : Int) ≤ (p : Int) + 1 := by omega
            have q2 : ((p : Int) + 1).toNat = p + 1 := by omega
            have q6 : IntKind.i64.wrap ((p : Int) + 1) = (p : Int) + 1 := (by have := wrap_i64_lt (p + 1) (by omega); simpa using this)
            go_region_held3 (fun w' => w'.cell? ⟨b2, o2 + p, none⟩ = some (.int .i64 0))
              (first | (with_reducible exact f2) | (with_reducible exact f5) | (with_reducible exact f6) | (with_reducible exact f7) | (with_reducible exact f8) | (with_reducible exact cell_alloc2 f5 _) | go_keep)
              (first
              | (go_at_call 11; (with_reducible refine (first5_any _).mono ?_); go_must (rintro e w5 ⟨rfl, hbf⟩; have hF : Below w2.heap.size w2 w5 := (by first | (with_reducible exact hbf) | (with_reducible exact below_undrew hbf)); have f5 := bsame hF hbl f2; have z5 := hF.size; have hn5 := own_nilAt (W := w5) rfl (Nat.le_refl _); clear hbf))
              | (refine step_appendIg (by rfl) (.tmp 95) (.tmp 98) rfl w5.heap.size (.slice (some ⟨w5.heap.size, 0, none⟩) 0 0) [] rfl hn5 w2.heap.size p _ _ (M.take p) rfl (RdI.blw HP2.out (hF.alloc z5 _)) hq1 (alloc_le _ _) ?_; intro v6 w6 h6 hg6 hb6 hat6; have hX6 : Below w5.heap.size w5 w6 := Below.trans ((Below.refl _ _).alloc (Nat.le_refl _) _) hb6; have z6 := hX6.size; have f6 := cell_blw hX6 (Nat.lt_of_lt_of_le hbl z5) f5; clear hg6 hb6 hat6)
              | (refine step_appendIg (by rfl) (.tmp 99) (.tmp 103) rfl w5.heap.size v6 ([] ++ M.take p) rfl h6 w2.heap.size _ _ _ (M.drop (p + 1)) rfl (RdI.blw HQ2.out (Below.trans hF (hX6.mono z5))) hq2 z6 ?_; intro v7 w7 h7 hg7 hb7 hat7; have hX7 : Below w5.heap.size w5 w7 := Below.trans hX6 hb7; clear hg7 hb7 hat7; rw [List.nil_append, HX2.out] at h7; obtain ⟨A7, c7, rfl, hr7, -, -⟩ := h7.form; have f7 := cell_blw hX7 (Nat.lt_of_lt_of_le hbl z5) f5)
              | (go_at_call 15; (with_reducible refine (ints_any _ _ _ _ _ _ _ _ _ _ _ hr7 (RdI.blw HO3.out ((hF.trans (hX7.mono z5)).mono (Nat.le_trans z2 z3))) hq3).mono ?_); go_must (rintro e w8 ⟨rfl, hb8⟩; have f8 := cell_blw hb8 (Nat.lt_of_lt_of_le hbl (Nat.le_trans z5 hX7.size)) f7)))
            all_goals
              go_wp2_with fail
              go_ret
              exact ⟨rfl, hB9.trans (((hF.trans (hX7.mono z5)).trans (hb8.mono (by have := hX7.size; omega))).mono hB9.size)⟩
end Go.Proofs.Ytpbegikdohafbaa
