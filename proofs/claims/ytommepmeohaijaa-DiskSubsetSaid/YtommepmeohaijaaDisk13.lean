/- A disk: Copy. -/
import Derived.Test.YtommepmeohaijaaTurnsP
namespace Go.Proofs.Ytommepmeohaijaa
set_option linter.all false
open Go.RowKit Go.Maps

theorem own_litH (w : World) (t : TypeId) (fr : Nat × Nat) : ownH (w.alloc (.cells #[] 75)) w.heap.size (.slice (some ⟨w.heap.size, 0, none⟩) 0 0) [] := by
  have := World.ownsRow_lit (base := w.heap.size) (size := 2) (e := 75) w #[] 0 (Nat.le_refl _) (by unfold maxLen; omega) (by simp)
  exact this
set_option maxRecDepth 100000 in
theorem cloneH_any (B n c : Nat) (A : Option Addr) (l : List CH) (w : World) (h : RdH w B A n l) (hm : n ≤ 1099511627776) :
    Calls Try.prog 39 #[.slice A n c] w fun e w' => ∃ A' n' c', e = .returned (.slice A' n' c') ∧ ownH w' w.heap.size (.slice A' n' c') l ∧ Below w.heap.size w w' := by
  have kn := fun w => Go.run_eql_slice_nil (P := Try.prog) w 69 _ A n c Try.underlying69
  cases A with
  | none =>
    have hl := h.len
    have h0 : l = [] := by
      cases l with
      | nil => rfl
      | cons x r =>
        obtain ⟨b, o, e, _⟩ := h.2 (by rw [← hl]; simp)
        cases e
    subst h0
    have hn : n = 0 := by simpa using hl.symm
    subst hn
    go_enter Try.func39, Try.ntmps39
    go_wp2
    go_ret
    exact ⟨_, _, _, rfl, ownH.nil_ _ _, Below.refl _ _⟩
  | some a =>
    go_enter Try.func39, Try.ntmps39
    go_wp2_with (at_builtin; go_loud (refine wpList_appendH rfl (.tmp 5) (.tmp 6) rfl w.heap.size _ [] rfl (own_litH w 0 (0, 0)) w.heap.size n c (some a) l rfl (RdH.alloc (RdH.here h) (Nat.le_refl _) _) (by simp; omega) (by simp) ?_); intro v1 w1 hown hg hb hat)
    go_ret
    obtain ⟨A1, c1, rfl, -⟩ := hown.form
    exact ⟨_, _, _, rfl, hown, ((Below.refl w.heap.size w).alloc (Nat.le_refl _) _).trans (hb)⟩

/-- What another disk does leaves this one. -/
theorem ownH.frame {w w' : World} {base : Nat} {v : Value} {l : List CH} {T2 : Nat → Prop} (h : ownH w base v l) (F : Fr T2 w w') (hv : ∀ g, v.ownBlock = some g → ¬ T2 g) : ownH w' base v l := by
  have hlt := World.ownsRow.lt h
  refine ⟨h.1, ?_⟩
  rcases h.2 with hn | ⟨g, cap, cur, rfl, hb, hgg, rest⟩
  · exact .inl hn
  · exact .inr ⟨g, cap, cur, rfl, hb, (F.block g (hlt g rfl).2 (hv g rfl)).trans hgg, rest⟩
theorem DkOk.keep {w w' : World} {lo d : Nat} {h : Hn} {s : Dk} {T2 : Nat → Prop} (k : DkOk w lo d h s) (F : Fr T2 w w') (h1 : ∀ g, T2 g → h.U g) (h2 : ∀ g, h.T d g → ¬ T2 g) : DkOk w' lo d h s := by
  have FS : Fr (h.S d) w w' := F.mono (fun g hg => .inr (h1 g hg))
  exact { k with
    arr := k.arr.fr F (h2 _ (.inl rfl))
    now := k.now.fr FS (TT.refl _ _) (F.block _ k.now.lt (h2 _ (.inr (.inl rfl))))
    dur := k.dur.fr FS (TT.refl _ _) (F.block _ k.dur.lt (h2 _ (.inr (.inr (.inl rfl)))))
    own := k.own.frame F (fun g e => h2 g (.inr (.inr (.inr e))))
    pr := k.pr.fr FS (TT.refl _ _)
    mask := k.mask.fr FS (TT.refl _ _) }
/-- Its rows avoid all that comes. -/
theorem DkOk.setU {w : World} {lo d : Nat} {h : Hn} {s : Dk} (k : DkOk w lo d h s) : DkOk w lo d { h with U := fun g => w.heap.size ≤ g } s := by
  have hS : TT w (h.S d) (Hn.S { h with U := fun g => w.heap.size ≤ g } d) := by
    rintro g (hg | hg)
    · exact .inl (.inl hg)
    · exact .inr hg
  exact { k with
    now := k.now.setT hS
    dur := k.dur.setT hS
    pr := k.pr.fr (Fr.refl _ _) hS
    mask := k.mask.fr (Fr.refl _ _) hS }

set_option maxRecDepth 100000 in
set_option maxHeartbeats 3200000 in
theorem copyD_any (lo d : Nat) (h : Hn) (s : Dk) (w : World) (H : DkOk w lo d h s) (hm : s.mask = []) (hp : s.pend.length ≤ 1000000) :
    Calls Try.prog 17 #[.pointer (some ⟨d, 0, none⟩)] w fun e w' => ∃ h', e = .returned (.pointer (some ⟨w.heap.size, 0, none⟩)) ∧ DkOk w' w.heap.size w.heap.size h' s ∧ (∀ g, h'.U g ↔ h.S d g ∨ w.heap.size ≤ g) ∧ Below w.heap.size w w' := by
  have HB1 := (Below.refl _ w).alloc (Nat.le_refl _) (.cells (h.cells s).toArray 71)
  have AN := Arr.new w (h.cells s) 71
  have AO := H.arr.later HB1
  obtain ⟨r1, hm1, hr1, hs1⟩ := H.now
  obtain ⟨r2, hm2, hr2, hs2⟩ := H.dur
  have HM1 := Lib.hid (hm1.later HB1)
  have HM2 := Lib.hid (hm2.later HB1)
  have c0 := H.arr.cell (k := 0) rfl
  have c1 := H.arr.cell (k := 1) rfl
  have c2 := H.arr.cell (k := 2) rfl
  have c3 := H.arr.cell (k := 3) rfl
  have c4 := H.arr.cell (k := 4) rfl
  have c5 := H.arr.cell (k := 5) rfl
  have c6 := H.arr.cell (k := 6) rfl
  have c7 := H.arr.cell (k := 7) rfl
  have hdl := H.arr.lt
  have hdn := Nat.ne_of_lt hdl
  have HH := Lib.hid H
  have HHB1 := Lib.hid HB1
  have HAN := Lib.hid AN
  have HAO := Lib.hid AO
  have HR1 := Lib.hid hr1
  have HS1 := Lib.hid hs1
  have HR2 := Lib.hid hr2
  have HS2 := Lib.hid hs2
  clear HB1 AN AO hm1 hm2 hr1 hr2 hs1 hs2 H
  go_enter Try.func17, Try.ntmps17
  go_upto_region 2 with fail
  obtain ⟨W1, hW1⟩ : ∃ W1, W1 = w.alloc (.cells (h.cells s).toArray 71) := ⟨_, rfl⟩
  have hW2 : w.alloc (.cells #[.int .i64 (s.n : Int), .map (some h.nb), .map (some h.db), .slice h.pA h.pn h.pc, .int .i64 (s.writes : Int), .int .i64 (s.falls : Int), .slice h.mA h.mn h.mc, .bool s.down] 71) = W1 := hW1.symm
  rw [hW2]
  rw [← hW1] at HHB1 HAN HAO HM1 HM2
  have hs1 : W1.heap.size = w.heap.size + 1 := by rw [hW1]; simp
  obtain ⟨D, hD⟩ : ∃ D, D = w.heap.size := ⟨_, rfl⟩
  rw [← hD] at HAN hs1
  rw [← hD]
  have HDD := Lib.hid hD
  have HSZ := Lib.hid hs1
  clear hD hs1
  clear hW1 hW2 c0 c1 c2 c3 c4 c5 c6 c7
  have HC1 := Lib.hid (fun (w' : World) (hb : Below W1.heap.size W1 w') => cloneM_any h.nb r1 w' (HM1.out.later hb))
  have HC2 := Lib.hid (fun (w' : World) (hb : Below W1.heap.size W1 w') => cloneM_any h.db r2 w' (HM2.out.later hb))
  have c1 := HAO.out.cell (k := 1) rfl
  have c2 := HAO.out.cell (k := 2) rfl
  go_cut [] (fun wx => ∃ g1 g2, Arr wx D [.int .i64 (s.n : Int), .map (some g1), .map (some g2), .slice h.pA h.pn h.pc, .int .i64 (s.writes : Int), .int .i64 (s.falls : Int), .slice h.mA h.mn h.mc, .bool s.down] ∧ isMap wx g1 r1 ∧ isMap wx g2 r2 ∧ Below D w wx ∧ D < g1 ∧ D < g2 ∧ g1 ≠ g2)
  case first =>
    have hX := Below.refl W1.heap.size W1
    go_region_law (first
      | (go_simp; go_at_call 38; (with_reducible refine (HC1.out _ ?_).mono ?_); (first | exact hX | exact Below.drew hX); go_must (rintro e w2 ⟨rfl, hm1, hz1, hb1⟩; have HX2 := Lib.hid (show Below W1.heap.size W1 w2 by first | exact bstep hX hb1 (Nat.le_refl _) | exact bstep (Below.drew hX) hb1 (Nat.le_refl _)); have HMA := Lib.hid hm1; have c12 := (HAO.out.later HX2.out).cell (k := 1) rfl; have c22 := (HAO.out.later HX2.out).cell (k := 2) rfl; clear hb1 hm1))
      | (go_simp; go_at_call 38; (with_reducible refine (HC2.out _ HX2.out).mono ?_); go_must (rintro e w3 ⟨rfl, hm2, hz2, hb2⟩; have HMB := Lib.hid hm2; have HMA3 := Lib.hid (HMA.out.later hb2); have HX3 := Lib.hid (bstep HX2.out hb2 (Nat.le_refl _)); have d13 := (HAN.out.later HX3.out).cell (k := 1) rfl; have d23 := (HAN.out.later HX3.out).cell (k := 2) rfl; have e13 := (HAN.out.later HX3.out).frozen 1; have e23 := (HAN.out.later HX3.out).frozen 2; clear hb2 hm2)))
    all_goals
      go_wp2_with fail
      go_meet
      case rel =>
        have hD := HDD.out
        have hs1 := HSZ.out
        have q1 := ((HAN.out.later HX3.out).set 1 (.map (some W1.heap.size))).set 2 (.map (some w2.heap.size))
        refine ⟨W1.heap.size, w2.heap.size, q1, ?_, ?_, ?_, by omega, by have := HX2.out.size; omega, by have := hz1; have h2 : W1.drew.heap.size = W1.heap.size := rfl; omega⟩
        · exact HMA3.out.keep ((Below.heap_setCell _ _ _ _ (show W1.heap.size ≠ D by omega)).trans (Below.heap_setCell _ _ _ _ (show W1.heap.size ≠ D by omega)))
        · exact HMB.out.keep ((Below.heap_setCell _ _ _ _ (show w2.heap.size ≠ D by have := HX2.out.size; omega)).trans (Below.heap_setCell _ _ _ _ (show w2.heap.size ≠ D by have := HX2.out.size; omega)))
        · have b1 : Below D w w3 := (HHB1.out.mono (by omega)).trans (HX3.out.mono (by omega))
          exact (b1.setCell (p := ⟨D, 1, none⟩) (Nat.le_refl _) _).setCell (p := ⟨D, 2, none⟩) (Nat.le_refl _) _
  case rest =>
  obtain ⟨g1, g2, hAc, hma, hmb, hBx, l1, l2, l3⟩ := hcut
  have HBX : Hid (Below w.heap.size w wc) := (show Below _ _ _ by rw [← HDD.out]; exact hBx)
  have HK := Lib.hid (HH.out.later HBX.out)
  have HAC := Lib.hid hAc
  have HMA := Lib.hid hma
  have HMB := Lib.hid hmb
  have c3 := HK.out.arr.cell (k := 3) rfl
  have c6 := HK.out.arr.cell (k := 6) rfl
  have hpn : h.pn = h.pl.length := by
    obtain ⟨A0, cc0, e0, -⟩ := HK.out.own.form
    unfold Hn.pv at e0
    injection e0
  have hpl2 := HK.out.pr.1
  have hmn : h.mn = 0 := by rw [← HK.out.mask.1, hm]; rfl
  have HCP := Lib.hid (fun (w' : World) (hb : Below wc.heap.size wc w') => cloneH_any w'.heap.size h.pn h.pc h.pA h.pl w' (ownH.rd (show ownH w' lo (.slice h.pA h.pn h.pc) h.pl from HK.out.own.later hb)) (by omega))
  have HMK : Hid (RdB wc wc.heap.size h.mA h.mn []) := (show RdB _ _ _ _ _ by have := HK.out.mask.2.2; rw [hm] at this; exact this)
  have HCM := Lib.hid (fun (w' : World) (hb : Below wc.heap.size wc w') => cloneB3_any w'.heap.size h.mn h.mc h.mA [] w' (HMK.out.later hb) (by omega))
  have hDl : D < wc.heap.size := HAC.out.lt
  have hg1 := HMA.out.lt
  have hg2 := HMB.out.lt
  clear hAc hma hmb hBx HC1 HC2 HM1 HM2 HAN HAO HHB1 c1 c2
  have HNN := Lib.hid hmn
  have HPN := Lib.hid hpn
  clear hmn hpn hpl2
  go_upto_region 3 with fail
  have hX := Below.refl wc.heap.size wc
  go_region_law (first
    | (go_simp; go_at_call 39; (with_reducible refine (HCP.out _ ?_).mono ?_); (first | exact hX | exact Below.drew hX); go_must (rintro e w5 ⟨A5, n5, c5, rfl, ho5, hb5⟩; have HX5 := Lib.hid (show Below wc.heap.size wc w5 by first | exact bstep hX hb5 (Nat.le_refl _) | exact bstep (Below.drew hX) hb5 (Nat.le_refl _)); have HO5 := Lib.hid (show ownH w5 wc.heap.size (.slice A5 n5 c5) h.pl from ho5); have c65 := (HK.out.arr.later HX5.out).cell (k := 6) rfl; clear hb5 ho5))
    | (go_simp; go_at_call 36; (with_reducible refine (HCM.out _ HX5.out).mono ?_); go_must (rintro e w6 ⟨v6, rfl, ho6, hb6⟩; obtain ⟨A6, k6, e6, -⟩ := ho6.form; subst e6; have HX6 := Lib.hid (bstep HX5.out hb6 (Nat.le_refl _)); have HO6 := Lib.hid (HO5.out.later hb6); have d36 := (HAC.out.later HX6.out).cell (k := 3) rfl; have d66 := (HAC.out.later HX6.out).cell (k := 6) rfl; have f36 := (HAC.out.later HX6.out).frozen 3; have f66 := (HAC.out.later HX6.out).frozen 6; clear hb6 ho6)))
  all_goals
    go_wp2_with fail
    go_ret
    have hD := HDD.out
    have hsz6 := HX6.out.size
    have hbl : ∀ g, g ≠ D → ((w6.setCell ⟨D, 3, none⟩ (.slice A5 n5 c5)).setCell ⟨D, 6, none⟩ (.slice A6 0 k6)).heap[g]? = w6.heap[g]? := fun g hg => (Below.heap_setCell _ _ _ _ hg).trans (Below.heap_setCell _ _ _ _ hg)
    have hBf : Below w.heap.size w ((w6.setCell ⟨D, 3, none⟩ (.slice A5 n5 c5)).setCell ⟨D, 6, none⟩ (.slice A6 0 k6)) := ((HBX.out.trans (HX6.out.mono HBX.out.size)).setCell (p := ⟨D, 3, none⟩) (show w.heap.size ≤ D by omega) _).setCell (p := ⟨D, 6, none⟩) (show w.heap.size ≤ D by omega) _
    have hlt5 := World.ownsRow.lt HO6.out
    have hTS : TT w (h.S d) (Hn.S ⟨g1, g2, A5, n5, c5, h.pl, A6, 0, k6, fun g => h.S d g ∨ D ≤ g⟩ D) := by
      rintro g ((e | e | e | e) | e)
      · exact .inr (by have e2 : g = D := e; omega)
      · exact .inr (by have e2 : g = g1 := e; omega)
      · exact .inr (by have e2 : g = g2 := e; omega)
      · exact .inr (by have := (hlt5 g e).1; have := HBX.out.size; omega)
      · rw [← hD]; exact e
    refine ⟨⟨g1, g2, A5, n5, c5, h.pl, A6, 0, k6, fun g => h.S d g ∨ D ≤ g⟩, by rw [← hD]; rfl, ?_, fun g => by rw [← hD], hBf⟩
    rw [← hD]
    refine ⟨((HAC.out.later HX6.out).set 3 _).set 6 _, (show D ≠ g1 by omega), (show D ≠ g2 by omega), l3, Nat.le_refl _, (show D ≤ g1 by omega), (show D ≤ g2 by omega), fun g e => ?_, ?_, ?_, ?_, HH.out.pr.fr (Fr.of _ hBf) hTS, ?_, HH.out.size⟩
    · have := (hlt5 g e).1
      exact ⟨by omega, (show g ≠ g1 by omega), (show g ≠ g2 by omega)⟩
    · refine ⟨r1, (HMA.out.later HX6.out).keep (hbl _ (by omega)), HR1.out, fun k bs e => ?_⟩
      obtain ⟨v, e1, e2⟩ := HS1.out k bs e
      exact ⟨v, e1, e2.fr (Fr.of _ hBf) hTS⟩
    · refine ⟨r2, (HMB.out.later HX6.out).keep (hbl _ (by omega)), HR2.out, fun k bs e => ?_⟩
      obtain ⟨v, e1, e2⟩ := HS2.out k bs e
      exact ⟨v, e1, e2.fr (Fr.of _ hBf) hTS⟩
    · have hne : (Value.slice A5 n5 c5).ownBlock ≠ some D := fun e => by have := (hlt5 D e).1; omega
      exact ((HO6.out.far hne 3 _).far hne 6 _).mono (by omega)
    · show RowAt _ _ A6 0 s.mask
      rw [hm]
      exact ⟨rfl, fun h => absurd h (by omega), ⟨by simp [cb], fun h => absurd h (by simp [cb])⟩⟩
end Go.Proofs.Ytommepmeohaijaa
