/- Decoders: made. -/
import Derived.Test.YtpbegikdohafbaaDecP
import Derived.Test.YtpbegikdohafbaaGet
import Derived.Test.YtpbegikdohafbaaCode5
import Derived.Laws.CopyRow
namespace Go.Proofs.Ytpbegikdohafbaa
set_option linter.all false
open Go.RowKit

/-- A part of a block stored whole. -/
theorem wpList_storePart {P : Program} {w : World} {ops : Array Oper} {rest : List Oper} {o : Oper} {a : Act} {Q : Exit → Act → World → Prop} (hgd : o.guard = none) (ty : TypeId) (x y : Operand) (ho : o.op = .store ty x y)
    (g off : Nat) (cs ds es : List Value) (hx : a.eval x = .pointer (some ⟨g, off, none⟩)) (hy : a.eval y = .agg ds.toArray) (h : Arr w g cs) (hi : (P.info? ty).map (·.size) = some ds.length) (hl : off + ds.length ≤ cs.length) (h1 : ∀ v ∈ ds, v.oneCell' = true)
    (he : cs.take off ++ ds ++ cs.drop (off + ds.length) = es)
    (hK : wpList P ops Q rest (a.put o.dst undef) (w.setRow g es.toArray)) : wpList P ops Q (o :: rest) a w := by
  refine wpList_plain hgd fun K hk => ?_
  obtain ⟨t, h⟩ := h
  have := run_storeCells_at P g off t ds 0 cs.toArray w h (by simpa using hl) h1
  unfold Oper.wp execOp
  cases hq : P.info? ty with
  | none => simp [hq] at hi
  | some i =>
    have hs : ds.length = i.size := by simp [hq] at hi; omega
    have hrun : (storeVar ty ⟨g, off, none⟩ (.agg ds.toArray)).run P w = .ok () (w.setRow g es.toArray) := by
      simp only [Nat.add_zero] at this
      simp [storeVar, sizeOf, typeInfo, hq, Value.cells, hs, this]
      rw [← he, hs]
      simp
    simp only [ho, hx, hy, Instr.storeAt, Instr.sureAddr, Sem.run_bind, Sem.run_pure, Result.andThen_ok, hrun]
    exact hk _ _ hK
theorem ofs0 (g o : Nat) : (⟨g, 0 + o, none⟩ : Addr) = ⟨g, o, none⟩ := by rw [Nat.zero_add]
def decM (ls : List Int) : List Value := cU (nextL ls 16) ++ (cI (List.replicate 16 0) ++ (cI (List.replicate 16 0) ++ [Value.slice none 0 0]))
theorem decM_len (ls : List Int) : (decM ls).length = 49 := by unfold decM; simp [cU, cI, nextL]
/-- A decoder that lies below B. -/
def DecR (w : World) (B g : Nat) (ls : List Int) : Prop := ∃ A c, Arr w g (decL ls 16 (.slice A (allP ls 15).length c)) ∧ RdI w B A (allP ls 15).length (allP ls 15) ∧ g < B
theorem DecR.blw {w w' : World} {B g : Nat} {ls : List Int} (h : DecR w B g ls) (hb : Below B w w') : DecR w' B g ls := by
  obtain ⟨A, c, h1, h2, h3⟩ := h
  exact ⟨A, c, h1.blw hb h3, h2.blw hb, h3⟩
theorem DecR.more {w : World} {B B' g : Nat} {ls : List Int} (h : DecR w B g ls) (hB : B ≤ B') : DecR w B' g ls := by
  obtain ⟨A, c, h1, h2, h3⟩ := h
  exact ⟨A, c, h1, h2.more hB, by omega⟩
def NewPost (w : World) (ls : List Int) (e : Ending) (w' : World) : Prop :=
  ∃ v, e = .returned (.tuple #[v, .int .i64 (nwE ls)]) ∧ (nwE ls = 0 → ∃ g, v = .pointer (some ⟨g, 0, none⟩) ∧ DecR w' w'.heap.size g ls) ∧ (nwE ls ≠ 0 → v = .pointer none) ∧ Below w.heap.size w w'
theorem cdE_zero {ls : List Int} (h : cdE ls = 0) : badL ls = false ∧ krN ls ≤ 32768 ∧ ls.length ≤ 300 := by
  unfold cdE at h
  split at h
  · rename_i h0
    split at h
    · cases h
    · obtain ⟨a, b, c⟩ := krE_zero h0
      exact ⟨b, by omega, a⟩
  · cases h

set_option maxRecDepth 100000 in
set_option maxHeartbeats 3200000 in
theorem new_any (B n c : Nat) (A : Option Addr) (ls : List Int) (w : World) (h : RdI w B A n ls) (hB1 : B ≤ w.heap.size) (hn : n ≤ 1099511627776) :
    Calls Try.prog 20 #[.slice A n c] w fun e w' => NewPost w ls e w' := by
  have HC := Lib.hid (codes_any B n c A ls w h hB1 hn)
  by_cases hE : cdE ls = 0
  · obtain ⟨g1, g2, g3⟩ := cdE_zero hE
    have HL := Lib.hid h.len
    have hn3 : n ≤ 300 := by have := h.len; omega
    have HBAD := Lib.hid g1
    have HNW : Hid (nwE ls = if (allP ls 15).length = 0 then 4 else 0) := (show _ = _ by unfold nwE; rw [if_pos hE])
    have HBG := Lib.hid (fun (w' : World) (hb : Below w.heap.size w w') => begins_any B n c A ls w' (h.blw (hb.mono hB1)) (Nat.le_trans hB1 hb.size) hn3 g1 g2)
    have H := Lib.hid h
    rw [hE] at HC
    clear h hE g1 g2 g3
    go_enter Try.func20, Try.ntmps20
    go_wp2_with (first
      | (go_at_call 18; (with_reducible refine HC.out.mono ?_); go_must (rintro e w1 ⟨A1, n1, c1, rfl, -, -, hb1⟩; have HB1 := Lib.hid hb1; have hz1 := hb1.size; clear hb1))
      | (go_at_call 35; (with_reducible refine (HBG.out _ (HB1.out.alloc hz1 _)).mono ?_); go_must (rintro e w2 ⟨rfl, hb2⟩; have hz2 := hb2.size; simp only [World.size_alloc] at hz2; have HA0 := Lib.hid (show Arr w2 w1.heap.size decZ from Arr.later (Arr.new w1 decZ 83) hb2); have HB2 := Lib.hid ((HB1.out.alloc hz1 (.cells decZ.toArray 83)).trans (hb2.mono (by simp; omega))); clear hb2))
      | (refine wpList_storePart rfl 78 (.tmp 28) (.tmp 25) rfl w1.heap.size 0 decZ (cU (nextL ls 16)) (decM ls) rfl rfl HA0.out (Try.size_u16.trans (by simp [cU, nextL])) (by rw [nextL_len]; decide) (cU_one _) (splice0 _ _ _ (by simp [cU, nextL])) ?_; have HA1 := Lib.hid (HA0.out.row (decM ls)); have HB3 := Lib.hid (below_setRow HB2.out (g := w1.heap.size) hz1 (decM ls).toArray))
      | (refine wpList_storePart rfl 79 (.tmp 30) (.tmp 26) rfl w1.heap.size 16 (decM ls) (cI (cntZ ls)) (decL ls 1 (.slice none 0 0)) rfl rfl HA1.out (Try.size_i16.trans (by simp [cI, cntZ, cntL])) (by rw [cntZ_len, decM_len]; decide) (cI_one _) (by unfold decL; rw [frL_one]; exact splice1 _ _ _ _ 16 (by rw [nextL_len]) (by simp [cI, cntZ, cntL])) ?_; have HA2 := Lib.hid (HA1.out.row (decL ls 1 (.slice none 0 0))); have HB4 := Lib.hid (below_setRow HB3.out (g := w1.heap.size) hz1 (decL ls 1 (.slice none 0 0)).toArray)))
    clear HA0 HA1 HB1 HB2 HB3 HC HBG
    generalize hg : w1.heap.size = g at *
    generalize (w2.setRow g (decM ls).toArray).setRow g (decL ls 1 (.slice none 0 0)).toArray = wa at *
    have hsa := HA2.out.lt
    go_loopw [7] (fun vi wr => ∃ l : Nat, 1 ≤ l ∧ l ≤ 16 ∧ vi = .int .i64 l ∧ ∃ A c, Hid (Arr wr g (decL ls l (.slice A (allP ls (l - 1)).length c))) ∧ Hid (ownI wr (g + 1) (.slice A (allP ls (l - 1)).length c) (allP ls (l - 1))) ∧ Hid (Below w.heap.size w wr))
      (fun vi _ => 17 - (intOf vi).toNat)
    case atStart => exact ⟨1, by omega, by omega, rfl, none, 0, HA2, ownI.nil_ _ _, HB4⟩
    case round =>
      clear HA2 HB4
      obtain ⟨l, hl1, hl2, rfl, Ap, cp, HA, HO, HB⟩ := hrel
      by_cases hlt : l ≤ 15
      · have hlI : (l : Int) ≤ 15 := by omega
        have hlI2 : (l : Int) < 16 := by omega
        have c3 := HA.out.cell (decL_3 ls l _)
        have c2 := HA.out.cell ((decL_2' ls l _ (t := l) (by omega)).trans (frL_zero ls (Nat.le_refl l) (by omega)))
        have f2 := HA.out.frozen (32 + l)
        have hap := allP_le ls (l - 1)
        have hap2 : (allP ls (l - 1)).length ≤ 4500 := Nat.le_trans hap (by have := HL.out; rw [this]; exact Nat.le_trans (Nat.mul_le_mul (show l - 1 ≤ 15 by omega) hn3) (by decide))
        clear hap
        have HAS := Lib.hid (show Arr (wr.setCell ⟨g, 32 + l, none⟩ (.int .i64 ((allP ls (l - 1)).length : Int))).drew g (decL ls (l + 1) (.slice Ap (allP ls (l - 1)).length cp)) from by
          rw [← decL_from ls _ hl1 (by omega)]
          exact (HA.out.set (32 + l) _).drew)
        have HOS := Lib.hid (ownI.drew (ownI.far HO.out (ownI.ne HO.out (show g < g + 1 by omega)) (32 + l) (.int .i64 ((allP ls (l - 1)).length : Int))))
        have HBS := Lib.hid (Below.drew (HB.out.setCell (p := ⟨g, 32 + l, none⟩) (by show w.heap.size ≤ g; omega) (.int .i64 ((allP ls (l - 1)).length : Int))))
        clear HA HO HB
        go_wp2_with fail
        go_region_law (fail)
        go_simp
        go_wp2_with fail
        have HEND : Hid (allP ls (l - 1) ++ plc ls l n = allP ls (l + 1 - 1)) := (show _ = _ by
          obtain ⟨q, rfl⟩ : ∃ q, l = q + 1 := ⟨l - 1, by omega⟩
          rw [Nat.add_sub_cancel, Nat.add_sub_cancel, allP, HL.out])
        have HST : Hid (allP ls (l - 1) = allP ls (l - 1) ++ plc ls l 0) := (show _ = _ by simp [plc])
        generalize hU : allP ls (l - 1) = U at *
        go_loopw [47] (fun vi wr => ∃ k : Nat, k ≤ n ∧ vi = .int .i64 k ∧ ∃ A c, Hid (Arr wr g (decL ls (l + 1) (.slice A (U ++ plc ls l k).length c))) ∧ Hid (ownI wr (g + 1) (.slice A (U ++ plc ls l k).length c) (U ++ plc ls l k)) ∧ Hid (Below w.heap.size w wr))
          (fun vi _ => n - (intOf vi).toNat)
        case atStart => exact ⟨0, Nat.zero_le _, rfl, Ap, cp, by rw [← HST.out]; exact HAS, by rw [← HST.out]; exact HOS, HBS⟩
        case round =>
          clear HAS HOS HBS HST c3 c2 f2
          obtain ⟨k, hk, rfl, Aq, cq, HA, HO, HB⟩ := hrel
          by_cases hlt2 : k < n
          · obtain ⟨b, o, x, rfl, hb, HX, e1⟩ := (H.out.blw (HB.out.mono hB1)).one hlt2
            have hpl : (U ++ plc ls l k).length ≤ 4800 := by
              rw [List.length_append, plc_len]
              have := cnt_take ls k l
              have h2 := cnt_le ls l
              have h3 := HL.out
              omega
            by_cases hxl : x = (l : Int)
            · subst hxl
              have HSP : Hid (U ++ plc ls l (k + 1) = U ++ plc ls l k ++ [(k : Int)]) := (show _ = _ by rw [plc, if_pos HX.out, List.append_assoc])
              have hsg := HA.out.lt
              have c3 := HA.out.cell (decL_3 ls (l + 1) _)
              have dxl : ((l : Int) == (l : Int)) = true := by simp
              generalize hLK : U ++ plc ls l k = LK at *
              clear hLK
              go_wp2_with (at_builtin; go_must (refine wpList_appendI rfl (.tmp 59) (.tmp 61) rfl (g + 1) _ LK rfl (ownI.alloc HO.out _) (wr.heap.size + 1) 1 1 (some ⟨wr.heap.size, 0, none⟩) [(k : Int)] rfl (rd_oneI wr (k : Int)) (by omega) (by simp; omega) ?_; intro v1 w3 hown hgb hbl hat; obtain ⟨A3, c3, rfl, hr3, -, -⟩ := hown.form; rw [show (LK ++ [(k : Int)]).length = LK.length + 1 by simp] at hown ⊢; have HA3 := Lib.hid ((HA.out.alloc (.cells #[.int .i64 (k : Int)] 3)).blw hbl (Nat.lt_succ_self g)); have HO3 := Lib.hid hown; have HB3 := Lib.hid ((HB.out.alloc (by omega) (.cells #[.int .i64 (k : Int)] 3)).trans (hbl.mono (by omega))); have c48 := HA3.out.cell (decL_3 ls (l + 1) _); have f48 := HA3.out.frozen 48; clear hown hgb hbl hat hr3 HA HO HB))
              have HA4 := Lib.hid (HA3.out.set 48 (.slice A3 (LK.length + 1) c3))
              rw [decL_place] at HA4
              have HO4 := Lib.hid (ownI.far HO3.out (ownI.ne HO3.out (show g < g + 1 by omega)) 48 (.slice A3 (LK.length + 1) c3))
              have HB4 := Lib.hid (HB3.out.setCell (p := ⟨g, 48, none⟩) (by show w.heap.size ≤ g; omega) (.slice A3 (LK.length + 1) c3))
              have HLE : Hid (LK.length + 1 = (U ++ plc ls l (k + 1)).length) := (show _ = _ by rw [HSP.out]; simp)
              rw [← HSP.out, HLE.out] at HO4
              rw [HLE.out] at HA4 HB4
              go_roundw
              case rel => exact ⟨k + 1, by omega, by go_num, A3, c3, by rw [HLE.out]; exact HA4, by rw [HLE.out]; exact HO4, by rw [HLE.out]; exact HB4⟩
              case measure => simp [intOf]; omega
            · have HSP : Hid (plc ls l (k + 1) = plc ls l k) := (show _ = _ by rw [plc, if_neg (by rw [HX.out]; simp; exact hxl)])
              have dxl : (x == (l : Int)) = false := beq_eq_false_iff_ne.2 hxl
              go_wp2_with fail
              go_roundw
              case rel => exact ⟨k + 1, by omega, by go_num, Aq, cq, by rw [HSP.out]; exact HA, by rw [HSP.out]; exact HO, HB⟩
              case measure => simp [intOf]; omega
          · obtain rfl : k = n := by omega
            rw [HEND.out] at HA HO
            go_wp2_with fail
            go_roundw
            case rel => exact ⟨l + 1, by omega, by omega, by go_num, Aq, cq, HA, HO, HB⟩
            case measure => simp [intOf]; omega
      · obtain rfl : l = 16 := by omega
        have c3 := HA.out.cell (decL_3 ls 16 _)
        have HD : Hid (DecR wr wr.heap.size g ls) := (show DecR _ _ _ _ from ⟨Ap, cp, HA.out, RdI.here HO.out.rd, HA.out.lt⟩)
        have hap : (allP ls (16 - 1)).length ≤ 4500 := Nat.le_trans (allP_le ls 15) (by have := HL.out; omega)
        by_cases hz : (allP ls 15).length = 0
        · have HE : Hid (nwE ls = 4) := (show _ = _ by rw [HNW.out, if_pos hz])
          rw [show 16 - 1 = 15 from rfl, hz] at c3
          clear HA HO HNW hap hz
          go_wp2_with fail
          go_ret2
          exact ⟨_, ret_tup2 rfl (by rw [HE.out]; rfl), fun h => absurd (HE.out.symm.trans h) (by decide), fun _ => rfl, HB.out⟩
        · have HE : Hid (nwE ls = 0) := (show _ = _ by rw [HNW.out, if_neg hz])
          rw [show 16 - 1 = 15 from rfl] at c3 hap
          clear HA HO HNW
          generalize (allP ls 15).length = m at *
          have dm : ((m : Int) == 0) = false := beq_eq_false_iff_ne.2 (by omega)
          go_wp2_with fail
          go_ret2
          exact ⟨_, ret_tup2 rfl (by rw [HE.out]; rfl), fun _ => ⟨g, rfl, HD.out⟩, fun h => absurd HE.out h, HB.out⟩
  · have HE : Hid (nwE ls = cdE ls ∧ cdE ls ≠ 0) := (show _ ∧ _ by unfold nwE; rw [if_neg hE]; exact ⟨rfl, hE⟩)
    have de : (cdE ls != 0) = true := by simp [bne]; exact hE
    clear h hE
    generalize cdE ls = E at *
    go_enter Try.func20, Try.ntmps20
    go_wp2_with (go_at_call 18; (with_reducible refine HC.out.mono ?_); go_must (rintro e w1 ⟨A1, n1, c1, rfl, -, -, hb1⟩))
    go_ret2
    exact ⟨_, ret_tup2 rfl (by rw [HE.out.1]; rfl), fun h => absurd (HE.out.1.symm.trans h) HE.out.2, fun _ => rfl, hb1⟩
end Go.Proofs.Ytpbegikdohafbaa
