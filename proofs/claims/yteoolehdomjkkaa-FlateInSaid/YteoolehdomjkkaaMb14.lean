/- Merged: New, Next, Next5, HuffReads. -/
import Derived.Laws.CopyRow
import Derived.Lib.LazyBuf
import Derived.Test.YteoolehdomjkkaaMb10
import Derived.Test.YteoolehdomjkkaaMb11
import Derived.Test.YteoolehdomjkkaaMb13
/- Decoders: made. -/
namespace Go.Proofs.Yteoolehdomjkkaa
set_option linter.all false
open Go.RowKit

/-- A part of a block stored whole. -/
theorem wpList_storePart {P : Program} {w : World} {ops : Array Oper} {rest : List Oper} {o : Oper} {a : Act} {Q : Exit → Act → World → Prop} (hgd : o.guard = none) (ty : TypeId) (x y : Operand) (ho : o.op = .store ty x y)
    (g off : Nat) (cs ds es : List Value) (hx : a.eval x = .pointer (some ⟨g, off, none⟩)) (hy : a.eval y = .agg ds.toArray) (h : Arr w g cs) (hi : (P.info? ty).map (·.size) = some ds.length) (hl : off + ds.length ≤ cs.length) (h1 : ∀ v ∈ ds, v.oneCell' = true)
    (he : cs.take off ++ ds ++ cs.drop (off + ds.length) = es)
    (hK : wpList P ops Q rest (a.put o.dst undef) (w.setRow g es.toArray)) : wpList P ops Q (o :: rest) a w := by
  refine wpList_plain hgd fun K hk => ?_
  obtain ⟨t, h⟩ := h
  have := run_storeCells_at P g off t ds 0 cs.toArray w h (by simpa using hl) h1
  unfold Oper.wp execOp
  cases hq : P.info? ty with
  | none => simp [hq] at hi
  | some i =>
    have hs : ds.length = i.size := by simp [hq] at hi; omega
    have hrun : (storeVar ty ⟨g, off, none⟩ (.agg ds.toArray)).run P w = .ok () (w.setRow g es.toArray) := by
      simp only [Nat.add_zero] at this
      simp [storeVar, sizeOf, typeInfo, hq, Value.cells, hs, this]
      rw [← he, hs]
      simp
    simp only [ho, hx, hy, Instr.storeAt, Instr.sureAddr, Sem.run_bind, Sem.run_pure, Result.andThen_ok, hrun]
    exact hk _ _ hK
theorem ofs0 (g o : Nat) : (⟨g, 0 + o, none⟩ : Addr) = ⟨g, o, none⟩ := by rw [Nat.zero_add]
def decM (ls : List Int) : List Value := cU (nextL ls 16) ++ (cI (List.replicate 16 0) ++ (cI (List.replicate 16 0) ++ [Value.slice none 0 0]))
theorem decM_len (ls : List Int) : (decM ls).length = 49 := by unfold decM; simp [cU, cI, nextL]
/-- A decoder that lies below B. -/
def DecR (w : World) (B g : Nat) (ls : List Int) : Prop := ∃ A c, Arr w g (decL ls 16 (.slice A (allP ls 15).length c)) ∧ RdI w B A (allP ls 15).length (allP ls 15) ∧ g < B
theorem DecR.blw {w w' : World} {B g : Nat} {ls : List Int} (h : DecR w B g ls) (hb : Below B w w') : DecR w' B g ls := by
  obtain ⟨A, c, h1, h2, h3⟩ := h
  exact ⟨A, c, h1.blw hb h3, h2.blw hb, h3⟩
theorem DecR.more {w : World} {B B' g : Nat} {ls : List Int} (h : DecR w B g ls) (hB : B ≤ B') : DecR w B' g ls := by
  obtain ⟨A, c, h1, h2, h3⟩ := h
  exact ⟨A, c, h1, h2.more hB, by omega⟩
def NewPost (w : World) (ls : List Int) (e : Ending) (w' : World) : Prop :=
  ∃ v, e = .returned (.tuple #[v, .int .i64 (nwE ls)]) ∧ (nwE ls = 0 → ∃ g, v = .pointer (some ⟨g, 0, none⟩) ∧ DecR w' w'.heap.size g ls) ∧ (nwE ls ≠ 0 → v = .pointer none) ∧ Below w.heap.size w w'
theorem cdE_zero {ls : List Int} (h : cdE ls = 0) : badL ls = false ∧ krN ls ≤ 32768 ∧ ls.length ≤ 300 := by
  unfold cdE at h
  split at h
  · rename_i h0
    split at h
    · cases h
    · obtain ⟨a, b, c⟩ := krE_zero h0
      exact ⟨b, by omega, a⟩
  · cases h

set_option maxRecDepth 100000 in
set_option maxHeartbeats 3200000 in
theorem new_any (B n c : Nat) (A : Option Addr) (ls : List Int) (w : World) (h : RdI w B A n ls) (hB1 : B ≤ w.heap.size) (hn : n ≤ 1099511627776) :
    Calls Try.prog 92 #[.slice A n c] w fun e w' => NewPost w ls e w' := by
  have HC := Lib.hid (codes_any B n c A ls w h hB1 hn)
  by_cases hE : cdE ls = 0
  · obtain ⟨g1, g2, g3⟩ := cdE_zero hE
    have HL := Lib.hid h.len
    have hn3 : n ≤ 300 := by have := h.len; omega
    have HBAD := Lib.hid g1
    have HNW : Hid (nwE ls = if (allP ls 15).length = 0 then 4 else 0) := (show _ = _ by unfold nwE; rw [if_pos hE])
    have HBG := Lib.hid (fun (w' : World) (hb : Below w.heap.size w w') => begins_any B n c A ls w' (h.blw (hb.mono hB1)) (Nat.le_trans hB1 hb.size) hn3 g1 g2)
    have H := Lib.hid h
    rw [hE] at HC
    clear h hE g1 g2 g3
    go_enter Try.func92, Try.ntmps92
    go_wp2_with (first
      | (go_at_call 80; (with_reducible refine HC.out.mono ?_); go_must (rintro e w1 ⟨A1, n1, c1, rfl, -, -, hb1⟩; have HB1 := Lib.hid hb1; have hz1 := hb1.size; clear hb1))
      | (go_at_call 99; (with_reducible refine (HBG.out _ (HB1.out.alloc hz1 _)).mono ?_); go_must (rintro e w2 ⟨rfl, hb2⟩; have hz2 := hb2.size; simp only [World.size_alloc] at hz2; have HA0 := Lib.hid (show Arr w2 w1.heap.size decZ from Arr.later (Arr.new w1 decZ 173) hb2); have HB2 := Lib.hid ((HB1.out.alloc hz1 (.cells decZ.toArray 173)).trans (hb2.mono (by simp; omega))); clear hb2))
      | (refine wpList_storePart rfl 156 (.tmp 28) (.tmp 25) rfl w1.heap.size 0 decZ (cU (nextL ls 16)) (decM ls) rfl rfl HA0.out (Try.size_u16.trans (by simp [cU, nextL])) (by rw [nextL_len]; decide) (cU_one _) (splice0 _ _ _ (by simp [cU, nextL])) ?_; have HA1 := Lib.hid (HA0.out.row (decM ls)); have HB3 := Lib.hid (below_setRow HB2.out (g := w1.heap.size) hz1 (decM ls).toArray))
      | (refine wpList_storePart rfl 157 (.tmp 30) (.tmp 26) rfl w1.heap.size 16 (decM ls) (cI (cntZ ls)) (decL ls 1 (.slice none 0 0)) rfl rfl HA1.out (Try.size_i16.trans (by simp [cI, cntZ, cntL])) (by rw [cntZ_len, decM_len]; decide) (cI_one _) (by unfold decL; rw [frL_one]; exact splice1 _ _ _ _ 16 (by rw [nextL_len]) (by simp [cI, cntZ, cntL])) ?_; have HA2 := Lib.hid (HA1.out.row (decL ls 1 (.slice none 0 0))); have HB4 := Lib.hid (below_setRow HB3.out (g := w1.heap.size) hz1 (decL ls 1 (.slice none 0 0)).toArray)))
    clear HA0 HA1 HB1 HB2 HB3 HC HBG
    generalize hg : w1.heap.size = g at *
    generalize (w2.setRow g (decM ls).toArray).setRow g (decL ls 1 (.slice none 0 0)).toArray = wa at *
    have hsa := HA2.out.lt
    go_loopw [7] (fun vi wr => ∃ l : Nat, 1 ≤ l ∧ l ≤ 16 ∧ vi = .int .i64 l ∧ ∃ A c, Hid (Arr wr g (decL ls l (.slice A (allP ls (l - 1)).length c))) ∧ Hid (ownI wr (g + 1) (.slice A (allP ls (l - 1)).length c) (allP ls (l - 1))) ∧ Hid (Below w.heap.size w wr))
      (fun vi _ => 17 - (intOf vi).toNat)
    case atStart => exact ⟨1, by omega, by omega, rfl, none, 0, HA2, ownI.nil_ _ _, HB4⟩
    case round =>
      clear HA2 HB4
      obtain ⟨l, hl1, hl2, rfl, Ap, cp, HA, HO, HB⟩ := hrel
      by_cases hlt : l ≤ 15
      · have hlI : (l : Int) ≤ 15 := by omega
        have hlI2 : (l : Int) < 16 := by omega
        have c3 := HA.out.cell (decL_3 ls l _)
        have c2 := HA.out.cell ((decL_2' ls l _ (t := l) (by omega)).trans (frL_zero ls (Nat.le_refl l) (by omega)))
        have f2 := HA.out.frozen (32 + l)
        have hap := allP_le ls (l - 1)
        have hap2 : (allP ls (l - 1)).length ≤ 4500 := Nat.le_trans hap (by have := HL.out; rw [this]; exact Nat.le_trans (Nat.mul_le_mul (show l - 1 ≤ 15 by omega) hn3) (by decide))
        clear hap
        have HAS := Lib.hid (show Arr (wr.setCell ⟨g, 32 + l, none⟩ (.int .i64 ((allP ls (l - 1)).length : Int))).drew g (decL ls (l + 1) (.slice Ap (allP ls (l - 1)).length cp)) from by
          rw [← decL_from ls _ hl1 (by omega)]
          exact (HA.out.set (32 + l) _).drew)
        have HOS := Lib.hid (ownI.drew (ownI.far HO.out (ownI.ne HO.out (show g < g + 1 by omega)) (32 + l) (.int .i64 ((allP ls (l - 1)).length : Int))))
        have HBS := Lib.hid (Below.drew (HB.out.setCell (p := ⟨g, 32 + l, none⟩) (by show w.heap.size ≤ g; omega) (.int .i64 ((allP ls (l - 1)).length : Int))))
        clear HA HO HB
        go_wp2_with fail
        go_region_law (fail)
        go_simp
        go_wp2_with fail
        have HEND : Hid (allP ls (l - 1) ++ plc ls l n = allP ls (l + 1 - 1)) := (show _ = _ by
          obtain ⟨q, rfl⟩ : ∃ q, l = q + 1 := ⟨l - 1, by omega⟩
          rw [Nat.add_sub_cancel, Nat.add_sub_cancel, allP, HL.out])
        have HST : Hid (allP ls (l - 1) = allP ls (l - 1) ++ plc ls l 0) := (show _ = _ by simp [plc])
        generalize hU : allP ls (l - 1) = U at *
        go_loopw [47] (fun vi wr => ∃ k : Nat, k ≤ n ∧ vi = .int .i64 k ∧ ∃ A c, Hid (Arr wr g (decL ls (l + 1) (.slice A (U ++ plc ls l k).length c))) ∧ Hid (ownI wr (g + 1) (.slice A (U ++ plc ls l k).length c) (U ++ plc ls l k)) ∧ Hid (Below w.heap.size w wr))
          (fun vi _ => n - (intOf vi).toNat)
        case atStart => exact ⟨0, Nat.zero_le _, rfl, Ap, cp, by rw [← HST.out]; exact HAS, by rw [← HST.out]; exact HOS, HBS⟩
        case round =>
          clear HAS HOS HBS HST c3 c2 f2
          obtain ⟨k, hk, rfl, Aq, cq, HA, HO, HB⟩ := hrel
          by_cases hlt2 : k < n
          · obtain ⟨b, o, x, rfl, hb, HX, e1⟩ := (H.out.blw (HB.out.mono hB1)).one hlt2
            have hpl : (U ++ plc ls l k).length ≤ 4800 := by
              rw [List.length_append, plc_len]
              have := cnt_take ls k l
              have h2 := cnt_le ls l
              have h3 := HL.out
              omega
            by_cases hxl : x = (l : Int)
            · subst hxl
              have HSP : Hid (U ++ plc ls l (k + 1) = U ++ plc ls l k ++ [(k : Int)]) := (show _ = _ by rw [plc, if_pos HX.out, List.append_assoc])
              have hsg := HA.out.lt
              have c3 := HA.out.cell (decL_3 ls (l + 1) _)
              have dxl : ((l : Int) == (l : Int)) = true := by simp
              generalize hLK : U ++ plc ls l k = LK at *
              clear hLK
              go_wp2_with (at_builtin; go_must (refine wpList_appendI rfl (.tmp 59) (.tmp 61) rfl (g + 1) _ LK rfl (ownI.alloc HO.out _) (wr.heap.size + 1) 1 1 (some ⟨wr.heap.size, 0, none⟩) [(k : Int)] rfl (rd_oneI wr (k : Int)) (by omega) (by simp; omega) ?_; intro v1 w3 hown hgb hbl hat; obtain ⟨A3, c3, rfl, hr3, -, -⟩ := hown.form; rw [show (LK ++ [(k : Int)]).length = LK.length + 1 by simp] at hown ⊢; have HA3 := Lib.hid ((HA.out.alloc (.cells #[.int .i64 (k : Int)] 3)).blw hbl (Nat.lt_succ_self g)); have HO3 := Lib.hid hown; have HB3 := Lib.hid ((HB.out.alloc (by omega) (.cells #[.int .i64 (k : Int)] 3)).trans (hbl.mono (by omega))); have c48 := HA3.out.cell (decL_3 ls (l + 1) _); have f48 := HA3.out.frozen 48; clear hown hgb hbl hat hr3 HA HO HB))
              have HA4 := Lib.hid (HA3.out.set 48 (.slice A3 (LK.length + 1) c3))
              rw [decL_place] at HA4
              have HO4 := Lib.hid (ownI.far HO3.out (ownI.ne HO3.out (show g < g + 1 by omega)) 48 (.slice A3 (LK.length + 1) c3))
              have HB4 := Lib.hid (HB3.out.setCell (p := ⟨g, 48, none⟩) (by show w.heap.size ≤ g; omega) (.slice A3 (LK.length + 1) c3))
              have HLE : Hid (LK.length + 1 = (U ++ plc ls l (k + 1)).length) := (show _ = _ by rw [HSP.out]; simp)
              rw [← HSP.out, HLE.out] at HO4
              rw [HLE.out] at HA4 HB4
              go_roundw
              case rel => exact ⟨k + 1, by omega, by go_num, A3, c3, by rw [HLE.out]; exact HA4, by rw [HLE.out]; exact HO4, by rw [HLE.out]; exact HB4⟩
              case measure => simp [intOf]; omega
            · have HSP : Hid (plc ls l (k + 1) = plc ls l k) := (show _ = _ by rw [plc, if_neg (by rw [HX.out]; simp; exact hxl)])
              have dxl : (x == (l : Int)) = false := beq_eq_false_iff_ne.2 hxl
              go_wp2_with fail
              go_roundw
              case rel => exact ⟨k + 1, by omega, by go_num, Aq, cq, by rw [HSP.out]; exact HA, by rw [HSP.out]; exact HO, HB⟩
              case measure => simp [intOf]; omega
          · obtain rfl : k = n := by omega
            rw [HEND.out] at HA HO
            go_wp2_with fail
            go_roundw
            case rel => exact ⟨l + 1, by omega, by omega, by go_num, Aq, cq, HA, HO, HB⟩
            case measure => simp [intOf]; omega
      · obtain rfl : l = 16 := by omega
        have c3 := HA.out.cell (decL_3 ls 16 _)
        have HD : Hid (DecR wr wr.heap.size g ls) := (show DecR _ _ _ _ from ⟨Ap, cp, HA.out, RdI.here HO.out.rd, HA.out.lt⟩)
        have hap : (allP ls (16 - 1)).length ≤ 4500 := Nat.le_trans (allP_le ls 15) (by have := HL.out; omega)
        by_cases hz : (allP ls 15).length = 0
        · have HE : Hid (nwE ls = 4) := (show _ = _ by rw [HNW.out, if_pos hz])
          rw [show 16 - 1 = 15 from rfl, hz] at c3
          clear HA HO HNW hap hz
          go_wp2_with fail
          go_ret2
          exact ⟨_, ret_tup2 rfl (by rw [HE.out]; rfl), fun h => absurd (HE.out.symm.trans h) (by decide), fun _ => rfl, HB.out⟩
        · have HE : Hid (nwE ls = 0) := (show _ = _ by rw [HNW.out, if_neg hz])
          rw [show 16 - 1 = 15 from rfl] at c3 hap
          clear HA HO HNW
          generalize (allP ls 15).length = m at *
          have dm : ((m : Int) == 0) = false := beq_eq_false_iff_ne.2 (by omega)
          go_wp2_with fail
          go_ret2
          exact ⟨_, ret_tup2 rfl (by rw [HE.out]; rfl), fun _ => ⟨g, rfl, HD.out⟩, fun h => absurd HE.out h, HB.out⟩
  · have HE : Hid (nwE ls = cdE ls ∧ cdE ls ≠ 0) := (show _ ∧ _ by unfold nwE; rw [if_neg hE]; exact ⟨rfl, hE⟩)
    have de : (cdE ls != 0) = true := by simp [bne]; exact hE
    clear h hE
    generalize cdE ls = E at *
    go_enter Try.func92, Try.ntmps92
    go_wp2_with (go_at_call 80; (with_reducible refine HC.out.mono ?_); go_must (rintro e w1 ⟨A1, n1, c1, rfl, -, -, hb1⟩))
    go_ret2
    exact ⟨_, ret_tup2 rfl (by rw [HE.out.1]; rfl), fun h => absurd (HE.out.1.symm.trans h) HE.out.2, fun _ => rfl, hb1⟩
end Go.Proofs.Yteoolehdomjkkaa

/- Decoders: a code read. -/
namespace Go.Proofs.Yteoolehdomjkkaa
set_option linter.all false
open Go.RowKit

theorem get1_any {B g n c P : Nat} {A : Option Addr} {bs : List UInt8} {w : World} (h : Arr w g (rdr A n c P)) (hr : RdB w B A n bs) (hg : B ≤ g) (hn : n ≤ 1099511627776) (hfit : P + 1 ≤ 8 * n) :
    Calls Try.prog 56 #[.pointer (some ⟨g, 0, none⟩), .int .i64 1] w fun e w' => e = .returned (.tuple #[.int .u32 (bitAt bs P : Nat), .int .i64 0]) ∧ Arr w' g (rdr A n c (P + 1)) ∧ w.grownBy w' (some g) := by
  have := get_any B g n c P 1 A bs w h hr hg hn (by omega) (by omega) hfit
  rw [getV_one] at this
  exact this
theorem get1_short {g n c P : Nat} {A : Option Addr} {w : World} (h : Arr w g (rdr A n c P)) (hn : n ≤ 1099511627776) (hP : P ≤ 8 * n) (hfit : 8 * n < P + 1) :
    Calls Try.prog 56 #[.pointer (some ⟨g, 0, none⟩), .int .i64 1] w fun e w' => e = .returned (.tuple #[.int .u32 0, .int .i64 2]) ∧ w.grownBy w' none :=
  get_short g n c P 1 A w h hn hP (by omega) hfit
theorem getR1_any {B g n c P : Nat} {A : Option Addr} {bs : List UInt8} {w : World} (h : Arr w g (rdr A n c P)) (hr : RdB w B A n bs) (hg : B ≤ g) (hn : n ≤ 1099511627776) (hfit : P + 1 ≤ 8 * n) :
    Calls Try.prog 64 #[.pointer (some ⟨g, 0, none⟩), .int .i64 1] w fun e w' => e = .returned (.tuple #[.int .u32 (bitAt bs P : Nat), .int .i64 0]) ∧ Arr w' g (rdr A n c (P + 1)) ∧ w.grownBy w' (some g) := by
  have := getR_any B g n c P 1 A bs w h hr hg hn (by omega) (by omega) hfit
  rw [getV_one] at this
  exact this
theorem getR1_short {g n c P : Nat} {A : Option Addr} {w : World} (h : Arr w g (rdr A n c P)) (hn : n ≤ 1099511627776) (hP : P ≤ 8 * n) (hfit : 8 * n < P + 1) :
    Calls Try.prog 64 #[.pointer (some ⟨g, 0, none⟩), .int .i64 1] w fun e w' => e = .returned (.tuple #[.int .u32 0, .int .i64 2]) ∧ w.grownBy w' none :=
  getR_short g n c P 1 A w h hn hP (by omega) hfit
def NextPost (ls : List Int) (bs : List UInt8) (A : Option Addr) (n c P gr : Nat) (w : World) (e : Ending) (w' : World) : Prop :=
  e = .returned (.tuple #[.int .i64 (nx ls bs 15 1 0 P).1, .int .i64 (nx ls bs 15 1 0 P).2.1]) ∧ Arr w' gr (rdr A n c (nx ls bs 15 1 0 P).2.2) ∧ w.grownBy w' (some gr)
theorem nextPost {ls : List Int} {bs : List UInt8} {A : Option Addr} {n c P gr : Nat} {w w' : World} {e : Ending} {R : Int × Int × Nat} (h : R = nx ls bs 15 1 0 P)
    (h1 : e = .returned (.tuple #[.int .i64 R.1, .int .i64 R.2.1])) (h2 : Arr w' gr (rdr A n c R.2.2)) (h3 : w.grownBy w' (some gr)) : NextPost ls bs A n c P gr w e w' := by
  subst h
  exact ⟨h1, h2, h3⟩
theorem pow_step {v t V b : Nat} (h : v < 2 ^ (t - 1)) (h1 : 1 ≤ t) (h2 : t ≤ 15) (hb : b < 2) (hV : v * 2 + b = V) : V < 2 ^ t ∧ V ≤ 32768 ∧ v < 65536 := by
  have e : 2 ^ t = 2 ^ (t - 1) * 2 := by rw [← Nat.pow_succ]; congr 1; omega
  have e2 : 2 ^ (t - 1) ≤ 2 ^ 14 := Nat.pow_le_pow_right (by decide) (by omega)
  omega

set_option maxRecDepth 100000 in
set_option maxHeartbeats 3200000 in
theorem next_any (B n c gd gr P : Nat) (A : Option Addr) (ls : List Int) (bs : List UInt8) (w : World) (hd : DecR w B gd ls) (hr : Arr w gr (rdr A n c P)) (hb : RdB w B A n bs) (hg : B ≤ gr) (hP : P ≤ 8 * n) (hn : n ≤ 1099511627776)
    (hbad : badL ls = false) (hkr : krN ls ≤ 32768) (hl3 : ls.length ≤ 300) :
    Calls Try.prog 110 #[.pointer (some ⟨gd, 0, none⟩), .pointer (some ⟨gr, 0, none⟩)] w fun e w' => NextPost ls bs A n c P gr w e w' := by
  obtain ⟨Ad, cd, hd1, hd2, hd3⟩ := hd
  have HBAD := Lib.hid hbad
  have HKR := Lib.hid hkr
  have HL3 := Lib.hid hl3
  have HD := Lib.hid hd1
  have HDR := Lib.hid hd2
  have HR := Lib.hid hr
  have HRB := Lib.hid hb
  have hgs := hr.lt
  have HBL := Lib.hid hb.len
  clear hbad hkr hd1 hd2 hr hb hl3
  go_enter Try.func110, Try.ntmps110
  go_wp2_with fail
  go_loopw [7, 6] (fun vt vv wr => ∃ t v Q : Nat, 1 ≤ t ∧ t ≤ 16 ∧ vt = .int .i64 t ∧ vv = .int .u32 v ∧ Hid (v < 2 ^ (t - 1)) ∧ Hid (Q ≤ 8 * n) ∧ Hid (Arr wr gr (rdr A n c Q)) ∧ Hid (w.grownBy wr (some gr)) ∧ Hid (nx ls bs (16 - t) t v Q = nx ls bs 15 1 0 P))
    (fun vt _ _ => 17 - (intOf vt).toNat)
  case atStart => exact ⟨1, 0, P, by omega, by omega, rfl, rfl, (show 0 < 2 ^ (1 - 1) by decide), hP, HR, gb_refl _ _, (show _ = _ from rfl)⟩
  case round =>
    clear HR
    obtain ⟨t, v, Q, ht1, ht2, rfl, rfl, HV, HQ, HA, HG, HN⟩ := hrel
    have hQ := HQ.out
    by_cases hlt : t ≤ 15
    · have htI : (t : Int) ≤ 15 := by omega
      have htI2 : (t : Int) < 16 := by omega
      have HN1 : Hid (nx ls bs (15 - t + 1) t v Q = nx ls bs 15 1 0 P) := (show _ = _ by
        have := HN.out
        rwa [show 16 - t = 15 - t + 1 by omega] at this)
      by_cases hfit : 8 * n < Q + 1
      · have HC := Lib.hid (get1_short HA.out hn hQ hfit)
        have HE : Hid ((0, 2, Q) = nx ls bs 15 1 0 P) := (show _ = _ by rw [← HN1.out, nx_short (by rw [HBL.out]; omega)])
        go_wp2_with (go_at_call 56; (with_reducible refine HC.out.mono ?_); go_must (rintro e w5 ⟨rfl, hb5⟩))
        go_ret2
        exact nextPost HE.out rfl (HA.out.gbN hb5) (gb_trans HG.out (gb_none hb5 gr))
      · have HC := Lib.hid (get1_any HA.out (HRB.out.blw (below_gb HG.out (by omega) hg)) hg hn (by omega))
        have hbt := bitAt_lt bs Q
        obtain ⟨V, hV⟩ : ∃ V, v * 2 + bitAt bs Q = V := ⟨_, rfl⟩
        obtain ⟨p1, p2, p3⟩ := pow_step HV.out ht1 hlt hbt hV
        have HP1 := Lib.hid p1
        have hor := or_code v (bitAt bs Q) p3 hbt
        rw [hV] at hor
        have HVV := Lib.hid hV
        have hns : ¬ 8 * bs.length ≤ Q := by rw [HBL.out]; omega
        have HNS := Lib.hid hns
        have hfs := fst_small ls HBAD.out HKR.out t hlt
        have HBB := Lib.hid (fun (h : Hit ls t V V) => h)
        clear p1 hV hns
        generalize hbq : bitAt bs Q = bq at *
        have ed := decL_0 ls 16 (.slice Ad (allP ls 15).length cd) (t := t) (by omega)
        have ec := decL_1 ls 16 (.slice Ad (allP ls 15).length cd) (t := t) (by omega)
        have ef := (decL_2' ls 16 (.slice Ad (allP ls 15).length cd) (t := t) (by omega)).trans (frL_get ls (l := 16) ht1 (by omega) (by omega))
        have ep := decL_3 ls 16 (.slice Ad (allP ls 15).length cd)
        have HED := Lib.hid (fun (wx : World) (k : w.grownBy wx (some gr)) => HD.out.blw (below_gb k (by omega) hg) hd3)
        by_cases h1 : V < fst ls t
        · have HH : Hid (hitN ls t (v * 2 + bq) = none) := (show _ = _ by rw [HVV.out]; exact hit_none (fun p h => by have := hit_bound ht1 h; omega))
          have HN2 : Hid (nx ls bs (16 - (t + 1)) (t + 1) V (Q + 1) = nx ls bs 15 1 0 P) := (show _ = _ by
            rw [← HN1.out, nx_on HNS.out (by rw [hbq]; exact HH.out), hbq, HVV.out, show 16 - (t + 1) = 15 - t by omega])
          generalize fst ls t = F at *
          generalize cz ls t = Z at *
          have dge : decide ((V : Int) - (F : Int) ≥ 0) = false := decide_eq_false (by omega)
          clear HN HN1 HH hbq HV
          go_wp2_with (go_at_call 56; (with_reducible refine HC.out.mono ?_); go_must (rintro e w5 ⟨rfl, hA5, hG5⟩; have HA5 := Lib.hid hA5; have HG5 := Lib.hid (gb_trans HG.out hG5); have c0 := (HED.out w5 HG5.out).cell ed; have c1 := (HED.out w5 HG5.out).cell ec; clear hA5 hG5))
          go_roundw
          case rel => exact ⟨t + 1, V, Q + 1, by omega, by omega, by go_num, rfl, HP1, (show Q + 1 ≤ 8 * n by omega), HA5, HG5, HN2⟩
          case measure => simp [intOf]; omega
        · obtain ⟨j, hj⟩ : ∃ j, V = fst ls t + j := ⟨V - fst ls t, by omega⟩
          have hvf : (V : Int) - (fst ls t : Int) = (j : Int) := by omega
          by_cases h2 : j < cz ls t
          · obtain ⟨p, hhit, hpl, hpp⟩ := hit_at ht1 (show fst ls t ≤ V by omega) (show V < fst ls t + cz ls t by omega)
            have hpx := allP_get ht1 hpl 15 hlt
            rw [show V - fst ls t = j by omega] at hpx
            have hpm := (List.getElem?_eq_some_iff.1 hpx).1
            have HPX := Lib.hid hpx
            have HN2 : Hid (((p : Int), 0, Q + 1) = nx ls bs 15 1 0 P) := (show _ = _ by
              rw [← HN1.out, nx_hit HNS.out (by rw [hbq, HVV.out]; exact hit_some hhit)])
            have hal := allP_le ls 15
            have hal2 : (allP ls 15).length ≤ 4500 := by have := HL3.out; omega
            generalize fst ls t = F at *
            generalize cz ls t = Z at *
            generalize (allP ls (t - 1)).length = fr at *
            have dge : decide ((j : Int) ≥ 0) = true := decide_eq_true (by omega)
            have djz : decide ((j : Int) < (Z : Int)) = true := decide_eq_true (by omega)
            clear HN HN1 hbq HV hhit hpl hpx hal hj h1
            go_wp2_with (go_at_call 56; (with_reducible refine HC.out.mono ?_); go_must (rintro e w5 ⟨rfl, hA5, hG5⟩; have HA5 := Lib.hid hA5; have HG5 := Lib.hid (gb_trans HG.out hG5); have c0 := (HED.out w5 HG5.out).cell ed; have c1 := (HED.out w5 HG5.out).cell ec; have c2 := (HED.out w5 HG5.out).cell ef; have c3 := (HED.out w5 HG5.out).cell ep; obtain ⟨b7, o7, x7, rfl, hb7, HX7, e7⟩ := (HDR.out.blw (below_gb HG5.out (by omega) hg)).one hpm; obtain rfl : x7 = (p : Int) := Option.some.inj (HX7.out.symm.trans HPX.out); clear hA5 hG5))
            go_quiet (fail)
            go_wp2_with fail
            go_ret2
            exact nextPost HN2.out rfl (HA5.out.drewN _) (gb_drewN HG5.out _)
          · have HH : Hid (hitN ls t (v * 2 + bq) = none) := (show _ = _ by rw [HVV.out]; exact hit_none (fun p h => by have := hit_bound ht1 h; omega))
            have HN2 : Hid (nx ls bs (16 - (t + 1)) (t + 1) V (Q + 1) = nx ls bs 15 1 0 P) := (show _ = _ by
              rw [← HN1.out, nx_on HNS.out (by rw [hbq]; exact HH.out), hbq, HVV.out, show 16 - (t + 1) = 15 - t by omega])
            generalize fst ls t = F at *
            generalize cz ls t = Z at *
            have dge : decide ((j : Int) ≥ 0) = true := decide_eq_true (by omega)
            have djz : decide ((j : Int) < (Z : Int)) = false := decide_eq_false (by omega)
            clear HN HN1 HH hbq HV hj h1
            go_wp2_with (go_at_call 56; (with_reducible refine HC.out.mono ?_); go_must (rintro e w5 ⟨rfl, hA5, hG5⟩; have HA5 := Lib.hid hA5; have HG5 := Lib.hid (gb_trans HG.out hG5); have c0 := (HED.out w5 HG5.out).cell ed; have c1 := (HED.out w5 HG5.out).cell ec; clear hA5 hG5))
            go_roundw
            case rel => exact ⟨t + 1, V, Q + 1, by omega, by omega, by go_num, rfl, HP1, (show Q + 1 ≤ 8 * n by omega), HA5, HG5, HN2⟩
            case measure => simp [intOf]; omega
    · obtain rfl : t = 16 := by omega
      have HE : Hid ((0, 4, Q) = nx ls bs 15 1 0 P) := (show _ = _ by rw [← HN.out]; rfl)
      go_wp2_with fail
      go_ret2
      exact nextPost HE.out rfl HA.out HG.out
end Go.Proofs.Yteoolehdomjkkaa

/- The document's decoders. -/
namespace Go.Proofs.Yteoolehdomjkkaa
set_option linter.all false
open Go.RowKit

theorem plc_empty {ls : List Int} {t : Nat} (h1 : 1 ≤ t) (h : ∀ (k : Nat) (x : Int), ls[k]? = some x → ¬ 0 < x) (k : Nat) : plc ls t k = [] := by
  cases e : plc ls t k with
  | nil => rfl
  | cons a r =>
    obtain ⟨p, -, -, hp, -⟩ := plc_of (ls := ls) (t := t) (i := 0) (x := a) k (by rw [e]; rfl)
    exact absurd (show (0 : Int) < (t : Int) by omega) (h p _ hp)
theorem allP_empty {ls : List Int} (h : ∀ (k : Nat) (x : Int), ls[k]? = some x → ¬ 0 < x) (l : Nat) : allP ls l = [] := by
  induction l with
  | zero => rfl
  | succ l ih => rw [allP, ih, plc_empty (by omega) h]; rfl
theorem codesL_at {ls : List Int} {i : Nat} {y : Nat × Int} (h : (codesL ls)[i]? = some y) : y = codeAt ls i := by
  unfold codesL at h
  rw [List.getElem?_map] at h
  cases hr : (List.range ls.length)[i]? with
  | none => rw [hr] at h; cases h
  | some j =>
    obtain ⟨hj, e⟩ := List.getElem?_eq_some_iff.1 hr
    rw [List.getElem_range] at e
    rw [hr] at h
    injection h with h
    rw [← h, e]
theorem codesL_len (ls : List Int) : (codesL ls).length = ls.length := by simp [codesL]
/-- The document's decoder, below B. -/
def Dec5 (w : World) (B g : Nat) (ls : List Int) : Prop := ∃ A c, Arr w g [.slice A ls.length c] ∧ RdD w B A ls.length (codesL ls) ∧ g < B
theorem Dec5.blw {w w' : World} {B g : Nat} {ls : List Int} (h : Dec5 w B g ls) (hb : Below B w w') : Dec5 w' B g ls := by
  obtain ⟨A, c, h1, h2, h3⟩ := h
  exact ⟨A, c, h1.blw hb h3, h2.blw hb, h3⟩
theorem Dec5.more {w : World} {B B' g : Nat} {ls : List Int} (h : Dec5 w B g ls) (hB : B ≤ B') : Dec5 w B' g ls := by
  obtain ⟨A, c, h1, h2, h3⟩ := h
  exact ⟨A, c, h1, h2.more hB, by omega⟩
def New5Post (w : World) (ls : List Int) (e : Ending) (w' : World) : Prop :=
  ∃ v, e = .returned (.tuple #[v, .int .i64 (nwE ls)]) ∧ (nwE ls = 0 → ∃ g, v = .pointer (some ⟨g, 0, none⟩) ∧ Dec5 w' w'.heap.size g ls) ∧ (nwE ls ≠ 0 → v = .pointer none) ∧ Below w.heap.size w w'

set_option maxRecDepth 100000 in
set_option maxHeartbeats 3200000 in
theorem new5_any (B n c : Nat) (A : Option Addr) (ls : List Int) (w : World) (h : RdI w B A n ls) (hB1 : B ≤ w.heap.size) (hn : n ≤ 1099511627776) :
    Calls Try.prog 66 #[.slice A n c] w fun e w' => New5Post w ls e w' := by
  have HC := Lib.hid (codes5_any B n c A ls w h hB1 hn)
  by_cases hE : cdE ls = 0
  · obtain ⟨g1, g2, g3⟩ := cdE_zero hE
    have hL : cdL ls = codesL ls := by unfold cdL; rw [if_pos hE]
    have HL := Lib.hid h.len
    have hn3 : n ≤ 300 := by have := h.len; omega
    have HBAD := Lib.hid g1
    have HNW : Hid (nwE ls = if (allP ls 15).length = 0 then 4 else 0) := (show _ = _ by unfold nwE; rw [if_pos hE])
    rw [hE, hL, codesL_len, h.len] at HC
    clear h hE g1 g2 g3 hL
    go_enter Try.func66, Try.ntmps66
    go_wp2_with (go_at_call 96; (with_reducible refine HC.out.mono ?_); go_must (rintro e w1 ⟨A1, n1, c1, rfl, rfl, ho1, hb1⟩; have HB1 := Lib.hid hb1; have hz1 := hb1.size; have HR1 := Lib.hid (RdD.here ho1.rd); clear hb1 ho1))
    go_loopw [6] (fun vi wr => ∃ k : Nat, k ≤ n1 ∧ vi = .int .i64 k ∧ Hid (∀ (i : Nat) (x : Int), i < k → ls[i]? = some x → ¬ 0 < x) ∧ Hid (wr = w1)) (fun vi _ => n1 - (intOf vi).toNat)
    case atStart => exact ⟨0, Nat.zero_le _, rfl, (show ∀ (i : Nat) (x : Int), i < 0 → _ from fun i x hi => absurd hi (by omega)), (show _ = _ from rfl)⟩
    case round =>
      obtain ⟨k, hk, rfl, HS, HW⟩ := hrel
      obtain rfl : wr = w1 := HW.out
      by_cases hlt : k < n1
      · obtain ⟨b, o, y, rfl, hb, HY, e1, e2⟩ := HR1.out.one hlt
        have hy := codesL_at HY.out
        obtain ⟨x, hx⟩ : ∃ x, ls[k]? = some x := ⟨_, List.getElem?_eq_getElem (by rw [HL.out]; exact hlt)⟩
        by_cases h0 : 0 < x
        · obtain ⟨x0, x1⟩ := good_at HBAD.out hx
          obtain ⟨t, rfl⟩ := Int.eq_ofNat_of_zero_le x0
          rw [codeAt_pos hx (by omega)] at hy
          subst hy
          have HE : Hid (nwE ls = 0) := (show _ = _ by rw [HNW.out, if_neg (allP_some HBAD.out hx h0)])
          have HAN := Lib.hid (Arr.new wr [Value.slice (some ⟨b, o, none⟩) n1 c1] 152)
          have HRN := Lib.hid (RdD.alloc HR1.out (Nat.le_refl _) (.cells #[Value.slice (some ⟨b, o, none⟩) n1 c1] 152))
          have HBN := Lib.hid (HB1.out.alloc hz1 (.cells #[Value.slice (some ⟨b, o, none⟩) n1 c1] 152))
          have d0 : decide ((t : Int) > 0) = true := decide_eq_true h0
          have HD : Hid (Dec5 (wr.alloc (.cells #[Value.slice (some ⟨b, o, none⟩) n1 c1] 152)) (wr.alloc (.cells #[Value.slice (some ⟨b, o, none⟩) n1 c1] 152)).heap.size wr.heap.size ls) := (show Dec5 _ _ _ _ by
            refine ⟨some ⟨b, o, none⟩, c1, ?_, ?_, by simp⟩
            · rw [HL.out]; exact HAN.out
            · rw [HL.out]; exact HRN.out.more (by simp))
          clear HY HS HAN HRN hx e1
          go_wp2_with fail
          go_ret2
          exact ⟨_, ret_tup2 rfl (by rw [HE.out]; rfl), fun _ => ⟨_, rfl, HD.out⟩, fun h => absurd HE.out h, HBN.out⟩
        · rw [codeAt_zero hx h0] at hy
          subst hy
          have HS2 : Hid (∀ (i : Nat) (x : Int), i < k + 1 → ls[i]? = some x → ¬ 0 < x) := (show ∀ (i : Nat) (x : Int), i < k + 1 → _ from fun i x' hi hx' => by
            by_cases e : i = k
            · subst e
              rw [hx] at hx'
              injection hx' with e
              rw [← e]
              exact h0
            · exact HS.out i x' (by omega) hx')
          clear HY HS hx e1
          go_wp2_with fail
          go_roundw
          case rel => exact ⟨k + 1, by omega, by go_num, HS2, (by first | exact Lib.hid trivial | exact Lib.hid rfl)⟩
          case measure => simp [intOf]; omega
      · obtain rfl : k = n1 := by omega
        have HE : Hid (nwE ls = 4) := (show _ = _ by
          have h0 : ∀ (i : Nat) (x : Int), ls[i]? = some x → ¬ 0 < x := fun i x hx => HS.out i x (by have := (List.getElem?_eq_some_iff.1 hx).1; have := HL.out; omega) hx
          rw [HNW.out, if_pos (by rw [allP_empty h0]; rfl)])
        go_wp2_with fail
        go_ret2
        exact ⟨_, ret_tup2 rfl (by rw [HE.out]; rfl), fun h => absurd (HE.out.symm.trans h) (by decide), fun _ => rfl, HB1.out⟩
  · have HE : Hid (nwE ls = cdE ls ∧ cdE ls ≠ 0) := (show _ ∧ _ by unfold nwE; rw [if_neg hE]; exact ⟨rfl, hE⟩)
    have de : (cdE ls != 0) = true := by simp [bne]; exact hE
    clear h hE
    generalize cdE ls = E at *
    go_enter Try.func66, Try.ntmps66
    go_wp2_with (go_at_call 96; (with_reducible refine HC.out.mono ?_); go_must (rintro e w1 ⟨A1, n1, c1, rfl, -, -, hb1⟩))
    go_ret2
    exact ⟨_, ret_tup2 rfl (by rw [HE.out.1]; rfl), fun h => absurd (HE.out.1.symm.trans h) HE.out.2, fun _ => rfl, hb1⟩

set_option maxRecDepth 100000 in
set_option maxHeartbeats 3200000 in
theorem next5_any (B n c gd gr P : Nat) (A : Option Addr) (ls : List Int) (bs : List UInt8) (w : World) (hd : Dec5 w B gd ls) (hr : Arr w gr (rdr A n c P)) (hb : RdB w B A n bs) (hg : B ≤ gr) (hP : P ≤ 8 * n) (hn : n ≤ 1099511627776)
    (hbad : badL ls = false) (hkr : krN ls ≤ 32768) (hl3 : ls.length ≤ 300) :
    Calls Try.prog 67 #[.pointer (some ⟨gd, 0, none⟩), .pointer (some ⟨gr, 0, none⟩)] w fun e w' => NextPost ls bs A n c P gr w e w' := by
  obtain ⟨Ad, cd, hd1, hd2, hd3⟩ := hd
  have HBAD := Lib.hid hbad
  have HKR := Lib.hid hkr
  obtain ⟨m, hm⟩ : ∃ m, ls.length = m := ⟨_, rfl⟩
  rw [hm] at hd1 hd2 hl3
  have HLM := Lib.hid hm
  have HD := Lib.hid hd1
  have HDR := Lib.hid hd2
  have HR := Lib.hid hr
  have HRB := Lib.hid hb
  have hgs := hr.lt
  have HBL := Lib.hid hb.len
  clear hbad hkr hd1 hd2 hr hb hm
  go_enter Try.func67, Try.ntmps67
  go_wp2_with fail
  go_loopw [7, 6] (fun vt vv wr => ∃ t v Q : Nat, 1 ≤ t ∧ t ≤ 16 ∧ vt = .int .i64 t ∧ vv = .int .u32 v ∧ Hid (v < 2 ^ (t - 1)) ∧ Hid (Q ≤ 8 * n) ∧ Hid (Arr wr gr (rdr A n c Q)) ∧ Hid (w.grownBy wr (some gr)) ∧ Hid (nx ls bs (16 - t) t v Q = nx ls bs 15 1 0 P))
    (fun vt _ _ => 17 - (intOf vt).toNat)
  case atStart => exact ⟨1, 0, P, by omega, by omega, rfl, rfl, (show 0 < 2 ^ (1 - 1) by decide), hP, HR, gb_refl _ _, (show _ = _ from rfl)⟩
  case round =>
    clear HR
    obtain ⟨t, v, Q, ht1, ht2, rfl, rfl, HV, HQ, HA, HG, HN⟩ := hrel
    have hQ := HQ.out
    by_cases hlt : t ≤ 15
    · have htI : (t : Int) ≤ 15 := by omega
      have HN1 : Hid (nx ls bs (15 - t + 1) t v Q = nx ls bs 15 1 0 P) := (show _ = _ by
        have := HN.out
        rwa [show 16 - t = 15 - t + 1 by omega] at this)
      by_cases hfit : 8 * n < Q + 1
      · have HC := Lib.hid (getR1_short HA.out hn hQ hfit)
        have HE : Hid ((0, 2, Q) = nx ls bs 15 1 0 P) := (show _ = _ by rw [← HN1.out, nx_short (by rw [HBL.out]; omega)])
        go_wp2_with (go_at_call 64; (with_reducible refine HC.out.mono ?_); go_must (rintro e w5 ⟨rfl, hb5⟩))
        go_ret2
        exact nextPost HE.out rfl (HA.out.gbN hb5) (gb_trans HG.out (gb_none hb5 gr))
      · have HC := Lib.hid (getR1_any HA.out (HRB.out.blw (below_gb HG.out (by omega) hg)) hg hn (by omega))
        have hbt := bitAt_lt bs Q
        obtain ⟨V, hV⟩ : ∃ V, v * 2 + bitAt bs Q = V := ⟨_, rfl⟩
        obtain ⟨p1, p2, p3⟩ := pow_step HV.out ht1 hlt hbt hV
        have HP1 := Lib.hid p1
        have hor := or_code v (bitAt bs Q) p3 hbt
        rw [hV] at hor
        have HVV := Lib.hid hV
        have hns : ¬ 8 * bs.length ≤ Q := by rw [HBL.out]; omega
        have HNS := Lib.hid hns
        clear p1 hV hns
        generalize hbq : bitAt bs Q = bq at *
        have HBQ := Lib.hid hbq
        clear hbq HN HV
        go_wp2_with (go_at_call 64; (with_reducible refine HC.out.mono ?_); go_must (rintro e w5 ⟨rfl, hA5, hG5⟩; have HA5 := Lib.hid hA5; have HG5 := Lib.hid (gb_trans HG.out hG5); clear hA5 hG5))
        have HD5 := Lib.hid (HD.out.blw (below_gb HG5.out (by omega) hg) hd3)
        have HDR5 := Lib.hid (HDR.out.blw (below_gb HG5.out (by omega) hg))
        clear HA HG HC
        obtain ⟨wo, rfl⟩ : ∃ wo : World, wo = wr := ⟨_, rfl⟩
        go_loopw [10] (fun vk wr => ∃ k : Nat, k ≤ m ∧ vk = .int .i64 k ∧ Hid (∀ p, p < k → ¬ Hit ls t V p) ∧ Hid (wr = w5)) (fun vk _ => m - (intOf vk).toNat)
        case atStart => exact ⟨0, Nat.zero_le _, rfl, (show ∀ p, p < 0 → _ from fun p hp => absurd hp (by omega)), (show _ = _ from rfl)⟩
        case round =>
          obtain ⟨k, hk, rfl, HS, HW⟩ := hrel
          obtain rfl : wr = w5 := HW.out
          have c0 := HD5.out.cell (k := 0) rfl
          by_cases hlt2 : k < m
          · obtain ⟨b, o, y, rfl, hb, HY, e1, e2⟩ := HDR5.out.one hlt2
            have hy := codesL_at HY.out
            obtain ⟨x, hx⟩ : ∃ x, ls[k]? = some x := ⟨_, List.getElem?_eq_getElem (by rw [HLM.out]; exact hlt2)⟩
            obtain ⟨x0, x1⟩ := good_at HBAD.out hx
            obtain ⟨u, rfl⟩ := Int.eq_ofNat_of_zero_le x0
            have hnext : ¬ Hit ls t V k → ∀ p, p < k + 1 → ¬ Hit ls t V p := fun h p hp => by
              by_cases e : p = k
              · rw [e]; exact h
              · exact HS.out p (by omega)
            by_cases hut : u = t
            · subst hut
              rw [codeAt_pos hx (by omega)] at hy
              have HX := Lib.hid hx
              have hvb : fst ls u + cnt (ls.take k) u ≤ 32768 := by
                have := fst_small ls HBAD.out HKR.out u hlt
                have := cnt_take ls k u
                have := cz_cnt ls ht1
                omega
              have dut : ((u : Int) == (u : Int)) = true := by simp
              by_cases hv : fst ls u + cnt (ls.take k) u = V
              · have HE : Hid (((k : Int), 0, Q + 1) = nx ls bs 15 1 0 P) := (show _ = _ by
                  rw [← HN1.out, nx_hit HNS.out (by rw [HBQ.out, HVV.out]; exact hit_some ⟨hx, hv⟩)])
                rw [hv] at hy
                subst hy
                have dvv : ((V : Int) == (V : Int)) = true := by simp
                clear hnext HS hx HX HY hv
                go_wp2_with fail
                go_ret2
                exact nextPost HE.out rfl HA5.out HG5.out
              · have HS2 := Lib.hid (hnext (fun h => hv h.2))
                generalize fst ls u + cnt (ls.take k) u = V2 at *
                subst hy
                have dvv : ((V2 : Int) == (V : Int)) = false := beq_eq_false_iff_ne.2 (by omega)
                clear hnext HS hx HX HY hv
                go_wp2_with fail
                go_roundw
                case rel => exact ⟨k + 1, by omega, by go_num, HS2, (by first | exact Lib.hid trivial | exact Lib.hid rfl)⟩
                case measure => simp [intOf]; omega
            · have HS2 := Lib.hid (hnext (fun h => hut (by have := h.1; rw [hx] at this; injection this with e; omega)))
              have hy2 : y.2 = (u : Int) := by
                by_cases h0 : 0 < u
                · rw [hy, codeAt_pos hx h0]
                · obtain rfl : u = 0 := by omega
                  rw [hy, codeAt_zero hx (by omega)]; rfl
              rw [hy2] at e2
              have dut : ((u : Int) == (t : Int)) = false := beq_eq_false_iff_ne.2 (by omega)
              clear hnext HS hx HY hy hy2
              go_wp2_with fail
              go_roundw
              case rel => exact ⟨k + 1, by omega, by go_num, HS2, (by first | exact Lib.hid trivial | exact Lib.hid rfl)⟩
              case measure => simp [intOf]; omega
          · obtain rfl : k = m := by omega
            have HN2 : Hid (nx ls bs (16 - (t + 1)) (t + 1) V (Q + 1) = nx ls bs 15 1 0 P) := (show _ = _ by
              have hh : hitN ls t (v * 2 + bitAt bs Q) = none := by
                rw [HBQ.out, HVV.out]
                exact hit_none (fun p h => HS.out p (by have := (List.getElem?_eq_some_iff.1 h.1).1; have := HLM.out; omega) h)
              rw [← HN1.out, nx_on HNS.out hh, HBQ.out, HVV.out, show 16 - (t + 1) = 15 - t by omega])
            go_wp2_with fail
            go_roundw
            case rel => exact ⟨t + 1, V, Q + 1, by omega, by omega, by go_num, rfl, HP1, (show Q + 1 ≤ 8 * n by omega), HA5, HG5, HN2⟩
            case measure => simp [intOf]; omega
    · obtain rfl : t = 16 := by omega
      have HE : Hid ((0, 4, Q) = nx ls bs 15 1 0 P) := (show _ = _ by rw [← HN.out]; rfl)
      go_wp2_with fail
      go_ret2
      exact nextPost HE.out rfl HA.out HG.out
end Go.Proofs.Yteoolehdomjkkaa

/- HuffReads: any lengths, any bytes: what is read, up to the first error. -/
namespace Go.Proofs.Yteoolehdomjkkaa
set_option linter.all false
open Go.RowKit

theorem cloneB2_any (B n c : Nat) (A : Option Addr) (bs : List UInt8) (w : World) (h : RdB w B A n bs) (hm : n ≤ 1099511627776) :
    Calls Try.prog 46 #[.slice A n c] w fun e w' => ∃ v, e = .returned v ∧ ownB w' w.heap.size v bs ∧ Below w.heap.size w w' := by
  have kn := fun w => Go.run_eql_slice_nil (P := Try.prog) w 22 _ A n c Try.underlying22
  cases A with
  | none =>
    have h0 : bs = [] := by
      cases bs with
      | nil => rfl
      | cons x l => have h2 := h.len; obtain ⟨b, o, e, _⟩ := h.at_ (by rw [← h2]; simp); cases e
    subst h0
    have hn : n = 0 := by have := h.len; simpa using this.symm
    subst hn
    go_enter Try.func46, Try.ntmps46
    go_wp2
    go_ret
    exact ⟨_, rfl, ownB.nil_ _ _, Below.refl _ _⟩
  | some a =>
    go_enter Try.func46, Try.ntmps46
    go_wp2_with (at_builtin; go_loud (refine wpList_appendB rfl (.tmp 5) (.tmp 6) rfl w.heap.size _ [] rfl (own_lit w [] (by simp)) w.heap.size n c (some a) bs rfl (Rd.alloc (Rd.here h) (Nat.le_refl _) _) (by simp; omega) (by simp) ?_); intro v1 w1 hown hg hb hat)
    go_ret
    exact ⟨_, rfl, hown, ((Below.refl w.heap.size w).alloc (Nat.le_refl _) _).trans (hb)⟩
theorem newReader_any (B n c : Nat) (A : Option Addr) (bs : List UInt8) (w : World) (h : RdB w B A n bs) (hm : n ≤ 1099511627776) :
    Calls Try.prog 25 #[.slice A n c] w fun e w' => ∃ g A' c', e = .returned (.pointer (some ⟨g, 0, none⟩)) ∧ w.heap.size ≤ g ∧ g < w'.heap.size ∧ Arr w' g (rdr A' n c' 0) ∧ RdB w' g A' n bs ∧ Below w.heap.size w w' := by
  have HC := Lib.hid (cloneB2_any B n c A bs w h hm)
  have hl := h.len
  clear h
  go_enter Try.func25, Try.ntmps25
  go_wp2_with (go_at_call 46; (with_reducible refine HC.out.mono ?_); go_must (rintro e w1 ⟨v, rfl, ho, hb⟩; obtain ⟨A1, c1, rfl, hr, -, -⟩ := ho.form; rw [hl] at hr ⊢; have HR := Lib.hid hr; have HB := Lib.hid hb; clear ho hr hb))
  go_ret
  exact ⟨_, A1, c1, rfl, HB.out.size, by simp, Arr.new w1 (rdr A1 n c1 0) _, Rd.alloc HR.out (Nat.le_refl _) _, HB.out.alloc HB.out.size _⟩
theorem RdB.more' {w : World} {B B' n : Nat} {A : Option Addr} {l : List UInt8} (h : RdB w B A n l) (hB : B ≤ B') : RdB w B' A n l := Rd.more h hB
theorem at_any (g P : Nat) (w : World) (h : w.cell? ⟨g, 1, none⟩ = some (.int .i64 (P : Int))) :
    Calls Try.prog 31 #[.pointer (some ⟨g, 0, none⟩)] w fun e w' => e = .returned (.int .i64 (P : Int)) ∧ w = w' := by
  go_enter Try.func31, Try.ntmps31
  go_wp2_with fail
  go_ret
  exact ⟨rfl, rfl⟩

end Go.Proofs.Yteoolehdomjkkaa
