/- lz: Find. -/
import Derived.Test.YtcancpnepfnhmaaMaLz3
namespace Go.Proofs.Ytcancpnepfnhmaa
set_option linter.all false
open Go.RowKit

theorem Ch.grown {w w' : World} {c m i : Nat} {vp : Value} {bs : List UInt8} {row : Option Nat} (h : Ch w c m i vp bs) (hg : w.grownBy w' row) (h1 : row ≠ some c) (h2 : row ≠ some m) (h3 : vp.ownBlock = none ∨ vp.ownBlock ≠ row) : Ch w' c m i vp bs := by
  refine ⟨?_, h.map.keep (hg.block m h.map.lt (fun e => h2 e.symm)), World.ownsRow.kept h.own hg h3, h.lt⟩
  have hl := h.arr.lt
  obtain ⟨t, ht⟩ := h.arr
  exact ⟨t, (hg.block c hl (fun e => h1 e.symm)).trans ht⟩
theorem ownK.rfr {w w' : World} {r g : Nat} {pv pv' v : Value} {l : List (Nat × Nat × Nat)} (h : ownK w (r + 1) v l) (hf : RFr w w' r g pv pv') (hgr : g < r) (hd : Dis pv v) : ownK w' (r + 1) v l := by
  have hb : ∀ k, v.ownBlock = some k → w'.heap[k]? = w.heap[k]? := fun k hk => by
    have := World.ownsRow.lt h k hk
    exact hf.block k this.2 (by omega) (by omega) (fun e => hd k e hk)
  refine ⟨h.1, ?_⟩
  rcases h.2 with hn | ⟨g, cap, cur, rfl, hbg, hg, rest⟩
  · exact .inl hn
  · exact .inr ⟨g, cap, cur, rfl, hbg, (hb g rfl).trans hg, rest⟩
theorem Dis.rfr {w w' : World} {r g : Nat} {pv pv' v : Value} (h : ∀ k, v.ownBlock = some k → k < w.heap.size) (hf : RFr w w' r g pv pv') (hd : Dis pv v) : Dis pv' v := by
  intro k hk hv
  rcases hf.own with e | ⟨j, hj, e⟩
  · exact hd k (e.symm.trans hk) hv
  · rw [e] at hk
    injection hk with hk
    have := h k hv
    omega
theorem Dis.app {n : Nat} {vp v v' : Value} (hd : Dis vp v) (hp : ∀ k, vp.ownBlock = some k → k < n) (ha : v'.ownBlock = v.ownBlock ∨ v'.ownBlock = some n) : Dis vp v' := by
  intro k hk hv
  rcases ha with e | e
  · exact hd k hk (e.symm.trans hv)
  · rw [e] at hv
    injection hv with hv
    have := hp k hk
    omega
theorem findF_at {b : List UInt8} {f i : Nat} (h : i < b.length) : findF b (f + 1) i = tokAt b i :: findF b f (i + stepAt b i) := if_pos h
theorem findF_past {b : List UInt8} {i : Nat} (h : b.length ≤ i) : ∀ f, findF b f i = []
  | 0 => rfl
  | f + 1 => if_neg (by omega)
theorem RFr.below3 {w w' : World} {r g B : Nat} {pv pv' : Value} {i : Nat} {bs : List UInt8} (hf : RFr w w' r g pv pv') (h : Ch w r g i pv bs) (hB : B ≤ g) : Below B w w' := by
  have h1 := h.map.lt
  have h2 := h.lt
  exact hf.below (by omega) (by omega) hB (fun k hk => by have := (World.ownsRow.lt h.own k hk).1; omega)
theorem find_step {w w2 : World} {c m i nv : Nat} {vp : Value} {Av : Option Addr} {bs : List UInt8} {D : List Tok} (h : Ch w2 c m i vp bs) (hk : ownK w2 (c + 1) (.slice Av D.length nv) D) (hd : Dis vp (.slice Av D.length nv)) (hb : Below m w w2) (o1 o2 : Obj) :
    ownK ((w2.alloc o1).alloc o2) (c + 1) (.slice Av D.length nv) D ∧ c + 1 ≤ ((w2.alloc o1).alloc o2).heap.size ∧
      ∀ (v5 : Value) (w5 : World), ((w2.alloc o1).alloc o2).grownBy w5 (Value.slice Av D.length nv).ownBlock → Below (c + 1) ((w2.alloc o1).alloc o2) w5 → (v5.ownBlock = (Value.slice Av D.length nv).ownBlock ∨ v5.ownBlock = some ((w2.alloc o1).alloc o2).heap.size) →
        Ch w5 c m i vp bs ∧ Dis vp v5 ∧ Below m w w5 := by
  have hc := h.arr.lt
  have hmc := h.lt
  have hs := hb.size
  have hm := h.map.lt
  have hmw : m ≤ w2.heap.size := by omega
  refine ⟨(hk.alloc _).alloc _, by rw [World.size_alloc, World.size_alloc]; omega, fun v5 w5 hg hb5 ha => ?_⟩
  refine ⟨((h.alloc o1).alloc o2).grown hg (ownK.ne hk (by omega)) (ownK.ne hk (by omega)) ?_, Dis.app hd (fun k hk => ?_) ha, ?_⟩
  · cases e : vp.ownBlock with
    | none => exact .inl rfl
    | some k => exact .inr (fun e2 => hd k e e2.symm)
  · have := (World.ownsRow.lt h.own k hk).2
    rw [World.size_alloc, World.size_alloc]
    omega
  · exact ((hb.alloc hmw o1).alloc (by rw [World.size_alloc]; omega) o2).trans (hb5.mono (by omega))
set_option maxRecDepth 100000 in
set_option maxHeartbeats 3200000 in
theorem find_any (B n c0 : Nat) (A : Option Addr) (bs : List UInt8) (w : World) (h : RdB w B A n bs) (hB : B ≤ w.heap.size) (hn : n ≤ 40000) (hcap : n ≤ c0) :
    Calls Try.prog 23 #[.slice A n c0] w (FindPost (findP bs) w) := by
  have HR := Lib.hid h
  have hl := h.len
  have hmm : ∀ (t : TypeId) (w : World), (Instr.makeMap t none).run Try.prog w = .ok (.map (some w.heap.size)) (w.alloc (.map #[] 0)) := fun _ _ => rfl
  have hn4 : ¬ (40000 : Int) < (n : Int) := by omega
  clear h
  go_enter Try.func23, Try.ntmps23
  go_wp2_with fail
  generalize hw1 : (w.alloc _).alloc _ = w1
  obtain ⟨m, hm⟩ : ∃ m, w.heap.size = m := ⟨_, rfl⟩
  obtain ⟨c, hc⟩ : ∃ c, w.heap.size + 1 = c := ⟨_, rfl⟩
  simp only [hc]
  have HC1 : Hid (Ch w1 c m 0 (.slice none 0 0) bs) := (show Ch _ _ _ _ _ _ by
    rw [← hw1, ← hc, ← hm]
    refine ⟨?_, ?_, ?_, Nat.lt_succ_self _⟩
    · have := Arr.new (w.alloc (.map #[] 0)) [.map (some w.heap.size), .slice none 0 0] 99
      rw [World.size_alloc] at this
      exact this
    · have e : lastP bs 0 = fun _ => 0 := rfl
      rw [e]
      exact (isM3.made w).alloc _
    · exact ownI.nil_ _ _)
  have HB1 : Hid (Below m w w1) := (show Below _ _ _ by rw [← hw1, ← hm]; exact ((Below.refl w.heap.size w).alloc (Nat.le_refl _) (.map #[] 0)).alloc (by simp) _)
  have HK1 : Hid (ownK w1 (c + 1) (.slice none 0 0) []) := ownK.nil_ _ _
  have HD1 : Hid (Dis (.slice none 0 0) (.slice none 0 0)) := (show Dis _ _ from fun k hk => by cases hk)
  have HE1 : Hid ([] ++ findF bs n 0 = findP bs) := (show _ = _ by rw [← hl]; rfl)
  have hmc : m < c := by omega
  clear hw1 hmm
  rw [hm] at hB hc
  have HBB := Lib.hid hB
  go_loopw [6, 5] (fun vi vl wr => ∃ (i f : Nat) (D : List Tok) (vp : Value), i ≤ n ∧ vi = .int .i64 i ∧ n ≤ i + f ∧ D.length ≤ i ∧ Hid (D ++ findF bs f i = findP bs) ∧ Hid (Ch wr c m i vp bs) ∧ Hid (ownK wr (c + 1) vl D) ∧ Hid (Dis vp vl) ∧ Hid (Below m w wr)) (fun vi _ _ => n - (intOf vi).toNat)
  case atStart => exact ⟨0, n, [], .slice none 0 0, Nat.zero_le _, rfl, by omega, Nat.le_refl _, HE1, HC1, HK1, HD1, HB1⟩
  case round =>
    clear HE1 HC1 HK1 HD1 HB1
    obtain ⟨i, f, D, vp, hi, rfl, hf, hDi, HE, HC, HK, HD, HB⟩ := hrel
    obtain ⟨Av, nv, rfl, -⟩ := HK.out.form
    obtain ⟨wo, rfl⟩ : ∃ wo : World, wo = wr := ⟨_, rfl⟩
    by_cases hlt : i < n
    · have hlti : (i : Int) < (n : Int) := by omega
      obtain ⟨f, rfl⟩ : ∃ g, f = g + 1 := ⟨f - 1, by omega⟩
      rw [findF_at (by omega)] at HE
      have hst := stepAt_ok (b := bs) (at_ := i) (by omega)
      have HSA : Hid (stepAt bs i = if (matP bs i).1 = 0 then 1 else (matP bs i).1) := (show _ = _ from rfl)
      have HTA : Hid (tokAt bs i = if (matP bs i).1 = 0 then (0, 0, (bs.getD i 0).toNat) else ((matP bs i).1, (matP bs i).2, 0)) := (show _ = _ from rfl)
      have HRo : Hid (RdB wo B A n bs) := HR.out.blw (HB.out.mono HBB.out)
      have HMA := Lib.hid (match_any B n c0 c m i A bs vp wo HC.out HRo.out hlt hn hcap)
      have hmo := matP_ok bs i
      generalize (matP bs i).1 = a at *
      generalize (matP bs i).2 = d at *
      have HX : Hid (∀ w2, (∃ q, w2 = wo.drewN q) → Ch w2 c m i vp bs ∧ ownK w2 (c + 1) (.slice Av D.length nv) D ∧ Below m w w2 ∧ RdB w2 B A n bs) := (show ∀ w2, _ by
        rintro w2 ⟨q, rfl⟩
        exact ⟨HC.out.drewN q, HK.out.drewN q, bdrewN HB.out q, Rd.drewN HRo.out q⟩)
      by_cases ha : a = 0
      · have d1 : ((a : Int) == 0) = true := by rw [ha]; rfl
        obtain ⟨b, o, x, rfl, hb, HXX, e1⟩ := HRo.out.byte hlt
        have x8 := x.toNat_lt
        rw [if_pos ha] at HSA HTA
        rw [HSA.out, HTA.out, getD_at HXX.out] at HE
        clear hmo HSA HTA hst
        have HAP := Lib.hid (fun w2 (h1 : Ch w2 c m i vp bs) (h2 : ownK w2 (c + 1) (.slice Av D.length nv) D) (h3 : Below m w w2) => find_step h1 h2 HD.out h3 (.cells #[.int .i64 0, .int .i64 0, .int .i64 (x.toNat : Int)] 51) (.cells #[.int .i64 0, .int .i64 0, .int .i64 (x.toNat : Int)] 51))
        have hLn : (D ++ [(0, 0, x.toNat)]).length = D.length + 1 := by simp
        have hq1 : D.length + 1 ≤ 1099511627776 := by omega
        go_wp2_with (first
          | (go_at_call 56; (with_reducible refine HMA.out.mono ?_); go_must (rintro e w2 ⟨rfl, hq2⟩; obtain ⟨hc2, hk2, hb2, hr2⟩ := HX.out w2 hq2; have e12 : w2.cell? ⟨b, o + i, none⟩ = some (.int .u8 (x.toNat : Int)) := (by obtain ⟨q, rfl⟩ := hq2; exact e1); have hz2 := hb2.size; have hbw : b < w2.heap.size := (by omega); have hbN : ¬ b = w2.heap.size := (by omega); obtain ⟨hk3, hz3, hn3⟩ := HAP.out w2 hc2 hk2 hb2; have HK3 := Lib.hid hk3; have HN3 := Lib.hid hn3; have HR3 : Hid (RdK ((w2.alloc (.cells #[.int .i64 0, .int .i64 0, .int .i64 (x.toNat : Int)] 51)).alloc (.cells #[.int .i64 0, .int .i64 0, .int .i64 (x.toNat : Int)] 51)) (w2.heap.size + 1 + 1) (some ⟨w2.heap.size + 1, 0, none⟩) 1 [(0, 0, x.toNat)]) := (show RdK _ _ _ _ _ by have := rd_oneK (w2.alloc (.cells #[.int .i64 0, .int .i64 0, .int .i64 (x.toNat : Int)] 51)) (0, 0, x.toNat) 51 (0, 0); rw [World.size_alloc] at this; exact this); clear hq2 hc2 hk2 hb2 hr2 hk3 hn3))
          | (at_builtin; go_must (refine wpList_appendK rfl (.tmp 38) (.tmp 40) rfl (c + 1) (.slice Av D.length nv) D rfl HK3.out (w2.heap.size + 1 + 1) 1 1 (some ⟨w2.heap.size + 1, 0, none⟩) [(0, 0, x.toNat)] rfl HR3.out hq1 hz3 ?_; intro v5 w5 ho5 hg5 hb5 ha5; obtain ⟨hc5, hd5, hw5⟩ := HN3.out v5 w5 hg5 hb5 ha5; obtain ⟨A5, c5, rfl, -⟩ := ho5.form; rw [hLn] at ho5 hd5; have HC5 := Lib.hid hc5; have HD5 := Lib.hid hd5; have HB5 := Lib.hid hw5; have HK5 := Lib.hid ho5; clear ho5 hg5 hb5 ha5 hc5 hd5 hw5)))
        have HZ5 : Hid (RFr w5 w5 c m vp vp) := RFr.refl _ _ _ _
        have HC50 : Hid (Ch w5 c m (i + 0) vp bs) := (show Ch _ _ _ _ _ _ from HC5.out)
        go_loopw [43] (fun vj wr => ∃ (j : Nat) (vq : Value), j ≤ 1 ∧ vj = .int .i64 j ∧ Hid (Ch wr c m (i + j) vq bs) ∧ Hid (RFr w5 wr c m vp vq)) (fun vj _ => 1 - (intOf vj).toNat)
        case atStart => exact ⟨0, vp, Nat.zero_le _, rfl, HC50, HZ5⟩
        case round =>
          clear HZ5 HC50
          obtain ⟨j, vq, hja, rfl, HCj, HFj⟩ := hrel
          have HBj : Hid (Below m w wr) := (show Below _ _ _ from HB5.out.trans (HFj.out.below3 HC5.out (Nat.le_refl _)))
          by_cases hj : j < 1
          · have hji : (j : Int) < 1 := by omega
            have HAD := Lib.hid (adds_any B n c0 c m (i + j) _ bs vq wr HCj.out (HR.out.blw (HBj.out.mono HBB.out)) HBB.out (by omega) hn hcap)
            go_wp2_with ((go_at_call 57; (with_reducible refine HAD.out.mono ?_); go_must (rintro e w6 ⟨rfl, vr, hc6, hf6⟩; have HC6 := Lib.hid hc6; have HF6 := Lib.hid (RFr.trans HFj.out hf6); clear hc6 hf6)))
            go_roundw
            case rel => exact ⟨j + 1, vr, by omega, by go_num, HC6, HF6⟩
            case measure => simp [intOf]; omega
          · obtain rfl : j = 1 := by omega
            have hji : ¬ (1 : Int) < 1 := by omega
            have hq5 := fun k hk => (World.ownsRow.lt HK5.out k hk).2
            have HKj := Lib.hid (ownK.rfr HK5.out HFj.out hmc HD5.out)
            have HDj := Lib.hid (Dis.rfr hq5 HFj.out HD5.out)
            have HEj : Hid (D ++ [(0, 0, x.toNat)] ++ findF bs f (i + 1) = findP bs) := (show _ = _ by rw [← HE.out]; simp)
            clear hq5
            go_wp2_with fail
            go_roundw
            case rel => exact ⟨i + 1, by omega, by go_num, f, by omega, D ++ [(0, 0, x.toNat)], by rw [hLn]; omega, HEj, vq, HCj, HKj, HDj⟩
            case measure => simp [intOf]; omega
      · have d1 : ((a : Int) == 0) = false := beq_eq_false_iff_ne.2 (by omega)
        obtain ⟨g3, g4, g5, g6, g7, g8⟩ : 3 ≤ a ∧ a ≤ 258 ∧ i + a ≤ bs.length ∧ 1 ≤ d ∧ d ≤ 32768 ∧ d ≤ i := by rcases hmo with h | h; exact absurd h ha; exact h
        rw [if_neg ha] at HSA HTA
        rw [HSA.out, HTA.out] at HE
        clear hmo HSA HTA hst
        have HAP := Lib.hid (fun w2 (h1 : Ch w2 c m i vp bs) (h2 : ownK w2 (c + 1) (.slice Av D.length nv) D) (h3 : Below m w w2) => find_step h1 h2 HD.out h3 (.cells #[.int .i64 (a : Int), .int .i64 (d : Int), .int .i64 0] 51) (.cells #[.int .i64 (a : Int), .int .i64 (d : Int), .int .i64 0] 51))
        have hLn : (D ++ [(a, d, 0)]).length = D.length + 1 := by simp
        have hq1 : D.length + 1 ≤ 1099511627776 := by omega
        go_wp2_with (first
          | (go_at_call 56; (with_reducible refine HMA.out.mono ?_); go_must (rintro e w2 ⟨rfl, hq2⟩; obtain ⟨hc2, hk2, hb2, hr2⟩ := HX.out w2 hq2; obtain ⟨hk3, hz3, hn3⟩ := HAP.out w2 hc2 hk2 hb2; have HK3 := Lib.hid hk3; have HN3 := Lib.hid hn3; have HR3 : Hid (RdK ((w2.alloc (.cells #[.int .i64 (a : Int), .int .i64 (d : Int), .int .i64 0] 51)).alloc (.cells #[.int .i64 (a : Int), .int .i64 (d : Int), .int .i64 0] 51)) (w2.heap.size + 1 + 1) (some ⟨w2.heap.size + 1, 0, none⟩) 1 [(a, d, 0)]) := (show RdK _ _ _ _ _ by have := rd_oneK (w2.alloc (.cells #[.int .i64 (a : Int), .int .i64 (d : Int), .int .i64 0] 51)) (a, d, 0) 51 (0, 0); rw [World.size_alloc] at this; exact this); clear hq2 hc2 hk2 hb2 hr2 hk3 hn3))
          | (at_builtin; go_must (refine wpList_appendK rfl (.tmp 38) (.tmp 40) rfl (c + 1) (.slice Av D.length nv) D rfl HK3.out (w2.heap.size + 1 + 1) 1 1 (some ⟨w2.heap.size + 1, 0, none⟩) [(a, d, 0)] rfl HR3.out hq1 hz3 ?_; intro v5 w5 ho5 hg5 hb5 ha5; obtain ⟨hc5, hd5, hw5⟩ := HN3.out v5 w5 hg5 hb5 ha5; obtain ⟨A5, c5, rfl, -⟩ := ho5.form; rw [hLn] at ho5 hd5; have HC5 := Lib.hid hc5; have HD5 := Lib.hid hd5; have HB5 := Lib.hid hw5; have HK5 := Lib.hid ho5; clear ho5 hg5 hb5 ha5 hc5 hd5 hw5)))
        have HZ5 : Hid (RFr w5 w5 c m vp vp) := RFr.refl _ _ _ _
        have HC50 : Hid (Ch w5 c m (i + 0) vp bs) := (show Ch _ _ _ _ _ _ from HC5.out)
        go_loopw [43] (fun vj wr => ∃ (j : Nat) (vq : Value), j ≤ a ∧ vj = .int .i64 j ∧ Hid (Ch wr c m (i + j) vq bs) ∧ Hid (RFr w5 wr c m vp vq)) (fun vj _ => a - (intOf vj).toNat)
        case atStart => exact ⟨0, vp, Nat.zero_le _, rfl, HC50, HZ5⟩
        case round =>
          clear HZ5 HC50
          obtain ⟨j, vq, hja, rfl, HCj, HFj⟩ := hrel
          have HBj : Hid (Below m w wr) := (show Below _ _ _ from HB5.out.trans (HFj.out.below3 HC5.out (Nat.le_refl _)))
          by_cases hj : j < a
          · have hji : (j : Int) < (a : Int) := by omega
            have HAD := Lib.hid (adds_any B n c0 c m (i + j) _ bs vq wr HCj.out (HR.out.blw (HBj.out.mono HBB.out)) HBB.out (by omega) hn hcap)
            go_wp2_with ((go_at_call 57; (with_reducible refine HAD.out.mono ?_); go_must (rintro e w6 ⟨rfl, vr, hc6, hf6⟩; have HC6 := Lib.hid hc6; have HF6 := Lib.hid (RFr.trans HFj.out hf6); clear hc6 hf6)))
            go_roundw
            case rel => exact ⟨j + 1, vr, by omega, by go_num, HC6, HF6⟩
            case measure => simp [intOf]; omega
          · obtain rfl : j = a := by omega
            have hji : ¬ (j : Int) < (j : Int) := by omega
            have hq5 := fun k hk => (World.ownsRow.lt HK5.out k hk).2
            have HKj := Lib.hid (ownK.rfr HK5.out HFj.out hmc HD5.out)
            have HDj := Lib.hid (Dis.rfr hq5 HFj.out HD5.out)
            have HEj : Hid (D ++ [(j, d, 0)] ++ findF bs f (i + j) = findP bs) := (show _ = _ by rw [← HE.out]; simp)
            clear hq5
            go_wp2_with fail
            go_roundw
            case rel => exact ⟨i + j, by omega, by go_num, f, by omega, D ++ [(j, d, 0)], by rw [hLn]; omega, HEj, vq, HCj, HKj, HDj⟩
            case measure => simp [intOf]; omega
    · obtain rfl : i = n := by omega
      have HE2 : Hid (D = findP bs) := (show _ = _ by rw [← HE.out, findF_past (by omega), List.append_nil])
      go_wp2_with fail
      go_ret2
      refine ⟨Av, D.length, nv, rfl, by rw [HE2.out], ?_, by rw [hm]; exact HB.out⟩
      rw [← HE2.out]
      exact ownK.rd HK.out
end Go.Proofs.Ytcancpnepfnhmaa
