/- huff: wrong, items. -/
import Derived.Test.YtpbegikdohafbaaSort6
import Derived.Test.YtpbegikdohafbaaRowI
namespace Go.Proofs.Ytpbegikdohafbaa
set_option linter.all false
open Go.RowKit

theorem ret_bool {a b : Bool} (h : a = b) : Ending.returned (.bool a) = .returned (.bool b) := by rw [h]
theorem posn_snoc {ws : List Int} {k : Nat} {x : Int} (h : ws[k]? = some x) : posn (ws.take (k + 1)) = posn (ws.take k) + if 0 < x then 1 else 0 := by
  obtain ⟨hk, rfl⟩ := List.getElem?_eq_some_iff.1 h
  rw [List.take_succ_eq_append_getElem hk]
  unfold posn
  rw [List.filter_append, List.length_append]
  by_cases h : 0 < ws[k] <;> simp [h]
theorem posn_le (ws : List Int) : posn ws ≤ ws.length := List.length_filter_le _ _
theorem badW_snoc {ws : List Int} {k : Nat} {x : Int} (h : ws[k]? = some x) : badW (ws.take (k + 1)) = (badW (ws.take k) || (decide (x < 0) || decide (1073741824 < x))) := by
  obtain ⟨hk, rfl⟩ := List.getElem?_eq_some_iff.1 h
  rw [List.take_succ_eq_append_getElem hk]
  unfold badW
  rw [List.any_append]
  simp
theorem badW_of {ws : List Int} {k : Nat} {x : Int} (h : ws[k]? = some x) (hb : x < 0 ∨ 1073741824 < x) : badW ws = true := by
  unfold badW
  rw [List.any_eq_true]
  exact ⟨x, List.mem_of_getElem? h, by simpa using hb⟩

theorem shl_lt (q t : Nat) (h : t ≤ 15) : decide (wrap64 (2 ^ t) < (q : Int)) = decide (2 ^ t < q) := by
  have e : wrap64 (2 ^ t) = ((2 ^ t : Nat) : Int) := by
    have h2 : (2 : Nat) ^ t ≤ 2 ^ 15 := Nat.pow_le_pow_right (by omega) h
    rw [show ((2 : Int) ^ t) = ((2 ^ t : Nat) : Int) by push_cast; rfl]
    generalize 2 ^ t = u at *
    exact wrap64_id _ (by omega) (by omega)
  rw [e]
  simp only [Int.ofNat_lt]

set_option maxRecDepth 100000 in
set_option maxHeartbeats 1600000 in
theorem wrong_any (B n c : Nat) (A : Option Addr) (ws : List Int) (most : Int) (w : World) (h : RdI w B A n ws) (hn : n ≤ 1099511627776) :
    Calls Try.prog 29 #[.slice A n c, .int .i64 most] w fun e w' => e = .returned (.bool (wrongH ws most)) ∧ w = w' := by
  have hl := h.len
  have hw : ∀ r : Bool, wrongH ws most = r → Hid (wrongH ws most = r) := fun _ h => h
  by_cases hgood : (1 ≤ n ∧ n ≤ 300) ∧ (1 ≤ most ∧ most ≤ 15)
  · obtain ⟨⟨g1, g2⟩, g3, g4⟩ := hgood
    have HW : Hid (wrongH ws most = (badW ws || decide (2 ^ most.toNat < posn ws))) := (show _ = _ by
      unfold wrongH
      rw [decide_eq_false (show ¬ ws.length < 1 by omega), decide_eq_false (show ¬ 300 < ws.length by omega), decide_eq_false (show ¬ most < 1 by omega), decide_eq_false (show ¬ 15 < most by omega)]
      simp)
    have H := Lib.hid h
    have HL := Lib.hid hl
    clear h hl hw
    go_enter Try.func29, Try.ntmps29
    go_wp2
    go_loop [26, 5] (fun i p => ∃ k : Nat, k ≤ n ∧ i = .int .i64 k ∧ p = .int .i64 (posn (ws.take k) : Nat) ∧ Hid (badW (ws.take k) = false)) (fun i _ => n - (intOf i).toNat)
    case atStart => exact ⟨0, Nat.zero_le _, rfl, rfl, rfl⟩
    case round =>
      obtain ⟨k, hk, rfl, rfl, HB⟩ := hrel
      have pl : posn (ws.take k) ≤ 300 := by have := posn_le (ws.take k); have := HL.out; simp at *; omega
      by_cases hlt : k < n
      · obtain ⟨b, o, x, rfl, hb, HX, e1⟩ := H.out.one hlt
        have HP := Lib.hid (posn_snoc HX.out)
        have HQ := Lib.hid (badW_snoc HX.out)
        by_cases hbad : x < 0 ∨ 1073741824 < x
        · have HT : Hid (wrongH ws most = true) := (show _ = _ by rw [HW.out, badW_of HX.out hbad]; rfl)
          rcases hbad with hx | hx
          · go_wp2
            go_ret
            exact ⟨ret_bool HT.out.symm, rfl⟩
          · have hx' : ¬ x < 0 := by omega
            go_wp2
            go_ret
            exact ⟨ret_bool HT.out.symm, rfl⟩
        · have hx1 : 0 ≤ x := by omega
          have hx2 : x ≤ 1073741824 := by omega
          have HB2 : Hid (badW (ws.take (k + 1)) = false) := (show _ = _ by rw [HQ.out, HB.out, decide_eq_false (show ¬ x < 0 by omega), decide_eq_false (show ¬ 1073741824 < x by omega)]; rfl)
          clear hbad
          by_cases hp : 0 < x
          · have HP2 : Hid (posn (ws.take (k + 1)) = posn (ws.take k) + 1) := (show _ = _ by rw [HP.out, if_pos hp])
            generalize posn (ws.take k) = q at *
            go_wp2
            go_round
            case rel => exact ⟨k + 1, by omega, by go_num, by rw [HP2.out]; go_num, HB2⟩
            case measure => simp [intOf]; omega
          · have HP2 : Hid (posn (ws.take (k + 1)) = posn (ws.take k)) := (show _ = _ by rw [HP.out, if_neg hp]; rfl)
            generalize posn (ws.take k) = q at *
            go_wp2
            go_round
            case rel => exact ⟨k + 1, by omega, by go_num, by rw [HP2.out], HB2⟩
            case measure => simp [intOf]; omega
      · obtain rfl : k = n := by omega
        have HT : Hid (wrongH ws most = decide (2 ^ most.toNat < posn (ws.take k))) := (show _ = _ by
          have e : ws.take k = ws := List.take_of_length_le (by rw [HL.out]; exact Nat.le_refl _)
          rw [HW.out]
          have := HB.out
          rw [e] at this ⊢
          rw [this]; rfl)
        generalize posn (ws.take k) = q at *
        go_wp2
        go_ret
        exact ⟨ret_bool (by rw [HT.out]; exact shl_lt q _ (by omega)), rfl⟩
  · have HT : Hid (wrongH ws most = true) := (show _ = _ by
      unfold wrongH
      by_cases q1 : ws.length < 1
      · simp [q1]
      by_cases q2 : 300 < ws.length
      · simp [q2]
      by_cases q3 : most < 1
      · simp [q3]
      have q4 : 15 < most := by omega
      simp [q4])
    clear h hl hw
    by_cases q1 : n < 1
    · go_enter Try.func29, Try.ntmps29
      go_wp2
      go_ret
      exact ⟨ret_bool HT.out.symm, rfl⟩
    by_cases q2 : 300 < n
    · go_enter Try.func29, Try.ntmps29
      go_wp2
      go_ret
      exact ⟨ret_bool HT.out.symm, rfl⟩
    by_cases q3 : most < 1
    · go_enter Try.func29, Try.ntmps29
      go_wp2
      go_ret
      exact ⟨ret_bool HT.out.symm, rfl⟩
    have q4 : 15 < most := by omega
    clear hgood
    go_enter Try.func29, Try.ntmps29
    go_wp2
    go_ret
    exact ⟨ret_bool HT.out.symm, rfl⟩

theorem grown_refl0 (w : World) (row : Option Nat) : w.grownBy w row := ⟨rfl, rfl, rfl, Nat.le_refl _, fun _ _ _ => rfl⟩
/-- A member just laid. -/
theorem leaf_new (w : World) (lo : Nat) (v : Value) (x : Int) (p : Nat) (t : TypeId) (hv : ∀ g, v.ownBlock = some g → g < w.heap.size) (hlo : lo ≤ w.heap.size) :
    isM (w.alloc (.cells #[.int .i64 x, .int .i64 p, .slice none 0 0] t)) (Out lo (w.alloc (.cells #[.int .i64 x, .int .i64 p, .slice none 0 0] t)) v) w.heap.size (.leaf x p) := by
  have hc : ∀ i u, (#[Value.int .i64 x, .int .i64 p, .slice none 0 0] : Array Value)[i]? = some u → (w.alloc (.cells #[.int .i64 x, .int .i64 p, .slice none 0 0] t)).cell? ⟨w.heap.size, i, none⟩ = some u := fun i u h => by
    rw [cell_of_row _ w.heap.size i _ t (0, 0) (heap_alloc_new w _)]
    exact h
  exact ⟨⟨hlo, by simp, fun e => by have := hv _ e; omega⟩, hc 0 _ rfl, hc 1 _ rfl, hc 2 _ rfl⟩

theorem rd_oneP1 (w : World) (o : Obj) (z : MP) : RdP ((w.alloc o).alloc (.cells #[.pointer (some ⟨z.1, 0, none⟩)] 70)) (w.heap.size + 1 + 1) (some ⟨w.heap.size + 1, 0, none⟩) 1 [z] := by
  have h := rd_oneP (w.alloc o) z
  rw [World.size_alloc] at h
  exact h
theorem stab_map {α β : Type} (f : α → β) (wt : β → Int) (l : List α) : (stab (fun x => wt (f x)) l).map f = stab wt (l.map f) := by
  refine SS.eq_stab ⟨?_, ?_⟩
  · unfold Srt
    rw [List.pairwise_map]
    exact (stab_ss (wt := fun x => wt (f x)) l).1
  · intro v
    rw [List.filter_map, List.filter_map]
    exact congrArg (List.map f) ((stab_ss (wt := fun x => wt (f x)) l).2 v)
theorem items_step {ws : List Int} {k : Nat} {x : Int} (h : ws[k]? = some x) : leaves (ws.take (k + 1)) = leaves (ws.take k) ++ if 0 < x then [.leaf x k] else [] := by
  obtain ⟨hk, rfl⟩ := List.getElem?_eq_some_iff.1 h
  rw [List.take_succ_eq_append_getElem hk, leaves_snoc]
  rw [List.length_take, Nat.min_eq_left (by omega)]

set_option maxRecDepth 100000 in
set_option maxHeartbeats 3200000 in
theorem items_any (B n c : Nat) (A : Option Addr) (ws : List Int) (w : World) (h : RdI w B A n ws) (hB1 : B ≤ w.heap.size) (hn : n ≤ 1099511627776) :
    Calls Try.prog 30 #[.slice A n c] w fun e w' => ∃ A' n' c' zs, e = .returned (.slice A' n' c') ∧ n' = zs.length ∧ ownP w' w.heap.size (.slice A' n' c') zs ∧
      zs.map Prod.snd = stab Mem.w (leaves ws) ∧ (∀ z ∈ zs, isM w' (Rng w.heap.size w'.heap.size) z.1 z.2) ∧ Below w.heap.size w w' := by
  have hB := Below.refl w.heap.size w
  have H := Lib.hid h
  have HL := Lib.hid h.len
  clear h
  go_enter Try.func30, Try.ntmps30
  go_wp2
  go_loopw [8, 3] (fun i v wr => ∃ (k : Nat) (zs : List MP), k ≤ n ∧ i = .int .i64 k ∧ zs.length ≤ k ∧ Hid (zs = [] → v = .slice none 0 0) ∧ Hid (ownP wr w.heap.size v zs) ∧ Hid (zs.map Prod.snd = leaves (ws.take k)) ∧ Hid (∀ z ∈ zs, isM wr (Out w.heap.size wr v) z.1 z.2) ∧ Below w.heap.size w wr)
    (fun i _ _ => n - (intOf i).toNat)
  case atStart => exact ⟨0, [], Nat.zero_le _, rfl, Nat.zero_le _, (fun _ => rfl), ownP.nil_ _ _, rfl, (fun z hz => by cases hz), hB⟩
  case round =>
    clear hB
    obtain ⟨k, zs, hk, rfl, hzk, HNL, HO, HZ, HM, hB⟩ := hrel
    have hsz := hB.size
    by_cases hlt : k < n
    · obtain ⟨b, o, x, rfl, hb, HX, e1⟩ := (H.out.blw (hB.mono hB1)).one hlt
      have HST := Lib.hid (items_step HX.out)
      by_cases hp : 0 < x
      · have hbz : b < wr.heap.size := by omega
        have HO1 := Lib.hid ((HO.out.alloc (.cells #[.int .i64 x, .int .i64 k, .slice none 0 0] 69)).alloc (.cells #[.pointer (some ⟨wr.heap.size, 0, none⟩)] 70))
        have hvlt : ∀ g, u3.ownBlock = some g → g < wr.heap.size := fun g hg => (World.ownsRow.lt HO.out g hg).2
        have HN := Lib.hid ((leaf_new wr w.heap.size u3 x k 69 hvlt hsz).alloc (.cells #[.pointer (some ⟨wr.heap.size, 0, none⟩)] 70))
        have HM1 := Lib.hid (fun z hz => ((HM.out z hz).alloc (.cells #[.int .i64 x, .int .i64 k, .slice none 0 0] 69)).alloc (.cells #[.pointer (some ⟨wr.heap.size, 0, none⟩)] 70))
        have HR := Lib.hid (rd_oneP1 wr (.cells #[.int .i64 x, .int .i64 k, .slice none 0 0] 69) (wr.heap.size, Mem.leaf x k))
        clear hvlt
        have HBB := Lib.hid ((hB.alloc hsz (.cells #[.int .i64 x, .int .i64 k, .slice none 0 0] 69)).alloc (by simp; omega) (.cells #[.pointer (some ⟨wr.heap.size, 0, none⟩)] 70))
        go_wp2_with (at_builtin; go_must (refine wpList_appendP rfl (.tmp 15) (.tmp 20) rfl w.heap.size _ zs rfl HO1.out _ 1 1 _ [(wr.heap.size, Mem.leaf x k)] rfl HR.out (by omega) (by simp; omega) ?_; intro v' w2 ho hg hb2 hv; have HO2 := Lib.hid ho; have HG := Lib.hid hg; have HV := Lib.hid hv; have HB2 := Lib.hid (HBB.out.trans hb2); clear ho hg hb2 hv))
        go_roundw
        case rel =>
          refine ⟨k + 1, zs ++ [(wr.heap.size, Mem.leaf x k)], by omega, by go_num, by simp; omega, (show _ → _ from fun e => by simp at e), HO2, (show _ = _ by rw [HST.out, if_pos hp, ← HZ.out]; simp), ?_, HB2.out⟩
          show ∀ z ∈ _, _
          intro z hz
          rcases List.mem_append.1 hz with hz | hz
          · exact (HM1.out z hz).app HG.out HV.out
          · have : z = (wr.heap.size, Mem.leaf x k) := by simpa using hz
            subst this
            exact HN.out.app HG.out HV.out
        case measure => simp [intOf]; omega
      · have HST2 : Hid (leaves (ws.take (k + 1)) = leaves (ws.take k)) := (show _ = _ by rw [HST.out, if_neg hp, List.append_nil])
        go_wp2
        go_roundw
        case rel => exact ⟨k + 1, zs, by omega, by go_num, by omega, HNL, HO, (show _ = _ by rw [HST2.out, HZ.out]), HM, hB⟩
        case measure => simp [intOf]; omega
    · obtain rfl : k = n := by omega
      have HE : Hid (zs.map Prod.snd = leaves ws) := (show _ = _ by rw [HZ.out, List.take_of_length_le (by rw [HL.out]; exact Nat.le_refl _)])
      by_cases hnil : zs = []
      · subst hnil
        have e := HNL.out rfl
        clear HO HM HNL
        subst e
        have HO2 := Lib.hid (ownP.nil_ wr w.heap.size)
        go_wp2_with (go_at_call 41; (with_reducible refine (sort_nil _ _).mono ?_); go_must (rintro e w3 ⟨rfl, rfl⟩))
        go_ret
        exact ⟨_, _, _, [], rfl, rfl, HO2.out, by rw [← HE.out]; rfl, (fun z hz => by cases hz), hB⟩
      · obtain ⟨A', c', rfl, hrd, hlc, hcm⟩ := HO.out.form
        obtain ⟨g, rfl⟩ : ∃ g, A' = some ⟨g, 0, none⟩ := by
          obtain ⟨_, g, e, _, _⟩ := HO.out.pos (List.length_pos_iff.2 hnil)
          exact ⟨g, e⟩
        have HSW : Hid (SortW wr w.heap.size g zs.length c' zs wr) := (show SortW _ _ _ _ _ _ _ from ⟨HO.out, rfl, grown_refl0 _ _, fun z hz => ⟨fun e => (HM.out z hz).root.2.2 (by rw [e]; rfl), (HM.out z hz).weight⟩⟩)
        have HC := Lib.hid (sort_any wr wr w.heap.size g zs.length c' zs HSW.out (by omega))
        have hg : w.heap.size ≤ g := by
          obtain ⟨_, g', e, h1, _⟩ := HO.out.pos (List.length_pos_iff.2 hnil)
          injection e with e; injection e with e; omega
        clear hrd hlc hcm HSW
        go_wp2_with (go_at_call 41; (with_reducible refine HC.out.mono ?_); go_must (rintro e w3 ⟨rfl, hS3⟩; have HS3 := Lib.hid hS3; clear hS3))
        go_ret
        have hm : ∀ z ∈ stab mw zs, isM w3 (Out w.heap.size w3 (.slice (some ⟨g, 0, none⟩) zs.length c')) z.1 z.2 := fun z hz =>
          (HM.out z (((stab_ss (wt := mw) zs).2.mem z).1 hz)).app HS3.out.gro (.inl rfl)
        exact ⟨_, _, _, stab mw zs, rfl, (stab_len zs).symm, HS3.out.own, by rw [← HE.out, stab_map], (fun z hz => (hm z hz).rng), hB.grown HS3.out.gro hsz (fun q hq => by injection hq with hq; omega)⟩
end Go.Proofs.Ytpbegikdohafbaa
