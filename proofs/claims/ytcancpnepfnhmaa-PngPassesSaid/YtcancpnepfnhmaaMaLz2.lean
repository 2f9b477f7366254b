/- lz: the places of all three bytes: the next place added. -/
import Derived.Test.YtcancpnepfnhmaaMaLz0
import Derived.Test.YtcancpnepfnhmaaMaLzP
import Derived.Test.YtcancpnepfnhmaaMa26
namespace Go.Proofs.Ytcancpnepfnhmaa
set_option linter.all false
open Go.RowKit

theorem isM3.far {w : World} {b m : Nat} {f : UInt8 × UInt8 × UInt8 → Nat} (h : isM3 w b m f) {p : Addr} (hp : p.block ≠ b) (v : Value) : isM3 (w.setCell p v) b m f := h.keep (Below.heap_setCell _ _ _ _ (fun e => hp e.symm))
theorem isM3.alloc {w : World} {b m : Nat} {f : UInt8 × UInt8 × UInt8 → Nat} (h : isM3 w b m f) (o : Obj) : isM3 (w.alloc o) b m f := h.keep (heap_alloc_old w o h.lt)
theorem isM3.more {w : World} {b m m' : Nat} {f : UInt8 × UInt8 × UInt8 → Nat} (h : isM3 w b m f) (hm : m ≤ m') : isM3 w b m' f := by
  obtain ⟨D, h, h2⟩ := h
  exact ⟨D, h.mono hm, h2⟩
/-- Of a block c the map and the places. -/
structure Ch (w : World) (c m i : Nat) (vp : Value) (bs : List UInt8) : Prop where
  arr : Arr w c [.map (some m), vp]
  map : isM3 w m i (lastP bs i)
  own : ownI w (c + 1) vp (prevL bs i)
  lt : m < c
section
variable {w w' : World} {c m i : Nat} {vp : Value} {bs : List UInt8}
theorem Ch.drewN (h : Ch w c m i vp bs) (q : Nat) : Ch (w.drewN q) c m i vp bs := ⟨h.arr.drewN q, h.map.keep rfl, h.own.drewN q, h.lt⟩
theorem Ch.alloc (h : Ch w c m i vp bs) (o : Obj) : Ch (w.alloc o) c m i vp bs := ⟨h.arr.alloc o, h.map.alloc o, ownI.alloc h.own o, h.lt⟩
end
/-- m[k] as a region's operation. -/
theorem step_look3 {w : World} {ops : Array Oper} {o : Oper} {a : Act} {K : Act → World → Prop} {Q : Exit → Act → World → Prop} {E : Prop} (hgd : o.guard = none) (m x : Operand) (ho : o.op = Op.lookup 97 m x false)
    (b cnt : Nat) (f : UInt8 × UInt8 × UInt8 → Nat) (t : UInt8 × UInt8 × UInt8) (hm : a.eval m = .map (some b)) (hx : a.eval x = triV t) (hM : isM3 w b cnt f)
    (hK : K (a.put o.dst (.int .i64 ((f t : Nat) : Int))) w) :
    if Region.wanted o (yielded ops a.tmps) = true then Oper.wp Try.prog o a w K Q else E := by
  have hw : Region.wanted o (yielded ops a.tmps) = true := by simp [Region.wanted, hgd]
  rw [if_pos hw]
  have hrun := hM.look t
  unfold Oper.wp
  simp [execOp, ho, hm, hx, hrun, Result.andThen]
  exact hK
/-- m[k] = v as a region's operation. -/
theorem step_put3 {w : World} {ops : Array Oper} {o : Oper} {a : Act} {K : Act → World → Prop} {Q : Exit → Act → World → Prop} {E : Prop} (hgd : o.guard = none) (m x v : Operand) (ho : o.op = Op.mapUpdate 97 m x v)
    (b cnt j : Nat) (J : Int) (f : UInt8 × UInt8 × UInt8 → Nat) (t : UInt8 × UInt8 × UInt8) (hm : a.eval m = .map (some b)) (hx : a.eval x = triV t) (hJ : J = (j : Int)) (hv : a.eval v = .int .i64 J) (hM : isM3 w b cnt f) (hcnt : cnt ≤ 1000000)
    (hK : ∀ w', isM3 w' b (cnt + 1) (updT f t j) → w.grownBy w' (some b) → K (a.put o.dst undef) w') :
    if Region.wanted o (yielded ops a.tmps) = true then Oper.wp Try.prog o a w K Q else E := by
  have hw : Region.wanted o (yielded ops a.tmps) = true := by simp [Region.wanted, hgd]
  rw [if_pos hw]
  subst hJ
  obtain ⟨w', hrun, h2, h3⟩ := hM.store hcnt t j
  unfold Oper.wp
  simp [execOp, ho, hm, hx, hv, hrun, Result.andThen]
  exact hK w' h2 h3
theorem last_past {bs : List UInt8} {i : Nat} (h : bs.length < i + 3) : lastP bs (i + 1) = lastP bs i := by
  funext t
  show (if i + 3 ≤ bs.length ∧ tri bs i = t then i + 1 else lastP bs i t) = _
  rw [if_neg (by omega)]
theorem last_upd {bs : List UInt8} {i : Nat} (h : i + 3 ≤ bs.length) : lastP bs (i + 1) = updT (lastP bs i) (tri bs i) (i + 1) := by
  funext t
  show (if i + 3 ≤ bs.length ∧ tri bs i = t then i + 1 else lastP bs i t) = if tri bs i = t then i + 1 else lastP bs i t
  by_cases e : tri bs i = t
  · rw [if_pos ⟨h, e⟩, if_pos e]
  · rw [if_neg (fun a => e a.2), if_neg e]
set_option maxRecDepth 100000 in
set_option maxHeartbeats 3200000 in
theorem adds_short (B n c0 c m i : Nat) (A : Option Addr) (bs : List UInt8) (vp : Value) (w : World) (h : Ch w c m i vp bs) (hr : RdB w B A n bs) (hB : B ≤ m) (hi : i < n) (hn : n ≤ 40000) (hi3 : n < i + 3) :
    Calls Try.prog 57 #[.pointer (some ⟨c, 0, none⟩), .slice A n c0] w fun e w' => e = .returned (.tuple #[]) ∧ ∃ vp', Ch w' c m (i + 1) vp' bs ∧ RFr w w' c m vp vp' := by
  have hf := h.own.form
  rw [prevL_len] at hf
  obtain ⟨Ap, cp, rfl, -, -, -⟩ := hf
  have H := Lib.hid h
  have e0 := h.arr.cell (k := 0) rfl
  have e1 := h.arr.cell (k := 1) rfl
  have f1 := h.arr.frozen 1
  have hcw := h.arr.lt
  have hmw := h.map.lt
  have hmc := h.lt
  have hl := hr.len
  have hi3i : (n : Int) < (i : Int) + 3 := by omega
  have HPV : Hid (prevL bs i ++ [0] = prevL bs (i + 1)) := (show _ = _ by rw [prevL_snoc]; unfold prevP; rw [if_pos (by omega)]; rfl)
  have HLS : Hid (lastP bs (i + 1) = lastP bs i) := (show _ = _ from last_past (by omega))
  have HPL := Lib.hid (prevL_len bs i)
  clear h hr
  go_enter Try.func57, Try.ntmps57
  go_wp2_with (at_builtin; go_must (refine wpList_appendI rfl (.tmp 20) (.tmp 21) rfl (c + 1) _ (prevL bs i) rfl (ownI.alloc H.out.own _) (w.heap.size + 1) 1 1 (some ⟨w.heap.size, 0, none⟩) [0] rfl (rd_oneI w 0) (by rw [HPL.out]; omega) (by rw [World.size_alloc]; omega) ?_; intro v1 w3 hown hgb hbl hat; rw [HPV.out] at hown; obtain ⟨A3, c3, rfl, hr3, -, -⟩ := hown.form; clear hr3; have HF3 := Lib.hid (show RFr w w3 c m (.slice Ap i cp) (.slice A3 (prevL bs (i + 1)).length c3) from RFr.grown _ hgb hat); have HA3 := Lib.hid (show Arr w3 c [.map (some m), .slice Ap i cp] from (H.out.arr.alloc _).blw hbl (by omega)); have HM3 := Lib.hid (show isM3 w3 m i (lastP bs i) from H.out.map.keep ((hbl.block m (by omega)).trans (heap_alloc_old w _ hmw))); have HO3 := Lib.hid hown; have e31 := HA3.out.cell (k := 1) rfl; have f31 := HA3.out.frozen 1; have hcw3 := HA3.out.lt; clear hown hgb hbl hat))
  (try simp only [Exit.inBlock, Exit.then])
  first | (refine bodyPost_ret (results_none rfl _ _ _) rfl ?_) | (refine bodyPost_end (results_none rfl _ _ _) rfl ?_)
  refine ⟨rfl, _, ⟨HA3.out.set 1 _, ?_, ownI.far HO3.out (ownI.ne HO3.out (by omega)) 1 _, hmc⟩, HF3.out.set1 1 _⟩
  rw [HLS.out]
  exact (HM3.out.far (by show c ≠ m; omega) _).more (Nat.le_succ i)
set_option maxRecDepth 100000 in
set_option maxHeartbeats 3200000 in
theorem adds_full (B n c0 c m i : Nat) (A : Option Addr) (bs : List UInt8) (vp : Value) (w : World) (h : Ch w c m i vp bs) (hr : RdB w B A n bs) (hB : B ≤ m) (hi : i < n) (hn : n ≤ 40000) (hcap : n ≤ c0) (hi3 : i + 3 ≤ n) :
    Calls Try.prog 57 #[.pointer (some ⟨c, 0, none⟩), .slice A n c0] w fun e w' => e = .returned (.tuple #[]) ∧ ∃ vp', Ch w' c m (i + 1) vp' bs ∧ RFr w w' c m vp vp' := by
  have hf := h.own.form
  rw [prevL_len] at hf
  obtain ⟨Ap, cp, rfl, -, -, -⟩ := hf
  have H := Lib.hid h
  have e0 := h.arr.cell (k := 0) rfl
  have e1 := h.arr.cell (k := 1) rfl
  have f1 := h.arr.frozen 1
  have hcw := h.arr.lt
  have hmw := h.map.lt
  have hmc := h.lt
  have hl := hr.len
  obtain ⟨b, o, rfl, hb, hcell⟩ := hr.at_ (by omega)
  have k0 := hcell i (by omega)
  have k1 := hcell (i + 1) (by omega)
  have k2 := hcell (i + 2) (by omega)
  rw [← Nat.add_assoc] at k1 k2
  have HT : Hid (tri bs i = (bs[i], bs[i + 1], bs[i + 2])) := (show _ = _ by unfold tri; rw [getD_at (List.getElem?_eq_getElem (by omega)), getD_at (List.getElem?_eq_getElem (by omega)), getD_at (List.getElem?_eq_getElem (by omega))])
  generalize bs[i] = x at *
  generalize bs[i + 1] = y at *
  generalize bs[i + 2] = z at *
  have hi3i : ¬ (n : Int) < (i : Int) + 3 := by omega
  have hi4 : (0 : Int) ≤ (i : Int) + 3 ∧ (i : Int) + 3 ≤ (c0 : Int) := by omega
  have hi5 : ¬ c0 = i := by omega
  have HPV : Hid (prevL bs i ++ [((lastP bs i (x, y, z) : Nat) : Int)] = prevL bs (i + 1)) := (show _ = _ by rw [prevL_snoc]; unfold prevP; rw [if_neg (by omega), HT.out])
  have HLS : Hid (lastP bs (i + 1) = updT (lastP bs i) (x, y, z) (i + 1)) := (show _ = _ by rw [last_upd (by omega), HT.out])
  have HPL := Lib.hid (prevL_len bs i)
  have hat : ∀ (w : World) (a : Option Addr) (l c : Nat), 3 ≤ l → (Instr.arrayAt 142 (.slice a l c)).run Try.prog w = .ok (.pointer a) w := fun w a l c hl => run_arrayAt w 142 _ 3 a l c Try.underlying142 hl
  clear h hr hcell
  go_enter Try.func57, Try.ntmps57
  go_upto_region 4 with (simp only [hat])
  generalize hw1 : w.alloc _ = w1
  obtain ⟨k5, hk5⟩ : ∃ b, w.heap.size = b := ⟨_, rfl⟩
  simp only [hk5]
  have HCH : Hid (Ch w1 c m i (.slice Ap i cp) bs) := (show Ch _ _ _ _ _ _ by rw [← hw1]; exact H.out.alloc _)
  have HK : Hid (Arr w1 k5 [.int .u8 (x.toNat : Int), .int .u8 (y.toNat : Int), .int .u8 (z.toNat : Int)]) := (show Arr _ _ _ by rw [← hw1, ← hk5]; exact Arr.new w [.int .u8 (x.toNat : Int), .int .u8 (y.toNat : Int), .int .u8 (z.toNat : Int)] _)
  have HFW : Hid (RFr w w1 c m (.slice Ap i cp) (.slice Ap i cp)) := (show RFr _ _ _ _ _ _ by rw [← hw1]; exact RFr.ofB ((Below.refl w.heap.size w).alloc (Nat.le_refl _) _) _ _ _)
  have hsz1 : w1.heap.size = k5 + 1 := by rw [← hw1, World.size_alloc, hk5]
  have hck : c < k5 := by omega
  have HPB : Hid (∀ q, (Value.slice Ap i cp).ownBlock = some q → q < k5) := (show ∀ q, _ from fun q hq => by have := (World.ownsRow.lt H.out.own q hq).2; omega)
  clear hw1 e0 e1 f1 k0 k1 k2 hat hk5 H
  have e0 := HCH.out.arr.cell (k := 0) rfl
  have e1 := HCH.out.arr.cell (k := 1) rfl
  have k0 := HK.out.cell (k := 0) rfl
  have k1 := HK.out.cell (k := 1) rfl
  have k2 := HK.out.cell (k := 2) rfl
  have HMD : Hid (isM3 w1.drew m i (lastP bs i)) := (show isM3 _ _ _ _ from HCH.out.map)
  have hq1 : (prevL bs i).length + 1 ≤ 1099511627776 := by rw [HPL.out]; omega
  have hckN : ¬ c = k5 := by omega
  have hc1 : c < w1.heap.size := by omega
  have hc1N : ¬ c = w1.heap.size := by omega
  have hk1 : k5 < w1.heap.size := by omega
  have hk1N : ¬ k5 = w1.heap.size := by omega
  generalize hL : lastP bs i (x, y, z) = L at *
  have hrun : (Instr.lookup 97 (.map (some m)) (.agg #[.int .u8 (x.toNat : Int), .int .u8 (y.toNat : Int), .int .u8 (z.toNat : Int)]) false).run Try.prog w1.drew = .ok (.int .i64 (L : Int)) w1.drew := by rw [← hL]; exact HMD.out.look (x, y, z)
  clear hL
  have HOD : Hid (ownI (w1.alloc (.cells #[Value.int .i64 (L : Int)] 3)).drew (c + 1) (.slice Ap i cp) (prevL bs i)) := (show ownI _ _ _ _ from HCH.out.own.alloc _)
  have HRD : Hid (RdI (w1.alloc (.cells #[Value.int .i64 (L : Int)] 3)).drew (k5 + 1 + 1) (some ⟨k5 + 1, 0, none⟩) 1 [(L : Int)]) := (show RdI _ _ _ _ _ by have := rd_oneI w1 (L : Int); rw [hsz1] at this; exact this)
  have HAD : Hid (Arr (w1.alloc (.cells #[Value.int .i64 (L : Int)] 3)).drew c [.map (some m), .slice Ap i cp]) := (show Arr _ _ _ from HCH.out.arr.alloc _)
  have HND : Hid (isM3 (w1.alloc (.cells #[Value.int .i64 (L : Int)] 3)).drew m i (lastP bs i)) := (show isM3 _ _ _ _ from HCH.out.map.alloc _)
  have HKD : Hid (Arr (w1.alloc (.cells #[Value.int .i64 (L : Int)] 3)).drew k5 [.int .u8 (x.toNat : Int), .int .u8 (y.toNat : Int), .int .u8 (z.toNat : Int)]) := (show Arr _ _ _ from HK.out.alloc _)
  have hq2 : c + 1 ≤ (w1.alloc (.cells #[Value.int .i64 (L : Int)] 3)).drew.heap.size := by show c + 1 ≤ (w1.alloc _).heap.size; rw [World.size_alloc]; omega
  have hq3 : k5 < (w1.alloc (.cells #[Value.int .i64 (L : Int)] 3)).drew.heap.size := by show k5 < (w1.alloc _).heap.size; rw [World.size_alloc]; omega
  have hq4 : (Value.slice Ap i cp).ownBlock ≠ some k5 := fun e => absurd (HPB.out _ e) (Nat.lt_irrefl _)
  have HGR : Hid (∀ (w3 : World) (v : Value), (w1.alloc (.cells #[Value.int .i64 (L : Int)] 3)).drew.grownBy w3 (Value.slice Ap i cp).ownBlock → (v.ownBlock = (Value.slice Ap i cp).ownBlock ∨ v.ownBlock = some (w1.alloc (.cells #[Value.int .i64 (L : Int)] 3)).drew.heap.size) → RFr w w3 c m (.slice Ap i cp) v) := (show ∀ w3 v, _ from fun w3 v hg ha => RFr.trans HFW.out (by
    have h := RFr.grown (r := c) (g := m) (w := w1.drew) (.cells #[Value.int .i64 (L : Int)] 3) hg ha
    exact ⟨h.os, h.tape, h.output, h.size, h.block, h.own⟩))
  go_cut [5] (fun v wc => v = .pointer (some ⟨k5, 0, none⟩) ∧ ∃ vp', Hid (Arr wc k5 [.int .u8 (x.toNat : Int), .int .u8 (y.toNat : Int), .int .u8 (z.toNat : Int)]) ∧ Hid (Arr wc c [.map (some m), vp']) ∧ Hid (isM3 wc m i (lastP bs i)) ∧ Hid (ownI wc (c + 1) vp' (prevL bs (i + 1))) ∧ Hid (RFr w wc c m (.slice Ap i cp) vp'))
  case first =>
    go_region_law (first
      | (refine step_appendI rfl (.tmp 36) (.tmp 43) rfl (c + 1) _ (prevL bs i) rfl HOD.out (k5 + 1 + 1) 1 1 (some ⟨k5 + 1, 0, none⟩) [(L : Int)] rfl HRD.out hq1 hq2 ?_; intro v1 w3 hown hgb hbl hat; rw [HPV.out] at hown; obtain ⟨A3, c3, rfl, hr3, -, -⟩ := hown.form; clear hr3; have HF3 := Lib.hid (HGR.out w3 _ hgb hat); have HA3 := Lib.hid (HAD.out.blw hbl (Nat.lt_succ_self c)); have HM3 := Lib.hid (HND.out.keep (hbl.block m (Nat.lt_succ_of_lt hmc))); have HK3 := Lib.hid (show Arr w3 k5 [.int .u8 (x.toNat : Int), .int .u8 (y.toNat : Int), .int .u8 (z.toNat : Int)] from by obtain ⟨ty, hty⟩ := HKD.out; exact ⟨ty, (hgb.block k5 hq3 (fun e => hq4 e.symm)).trans hty⟩); have HO3 := Lib.hid hown; have e31 := HA3.out.cell (k := 1) rfl; have f31 := HA3.out.frozen 1; have hcw3 := HA3.out.lt; clear hown hgb hbl hat))
    all_goals
      go_wp2_with fail
      go_meet
      case rel => exact ⟨rfl, _, HK3.out.far (p := ⟨c, 1, none⟩) hckN _, HA3.out.set 1 _, HM3.out.far (p := ⟨c, 1, none⟩) (fun e => by have : c = m := e; omega) _, ownI.far HO3.out (ownI.ne HO3.out (Nat.lt_succ_self c)) 1 _, HF3.out.set1 1 _⟩
  case rest =>
    obtain ⟨rfl, vp', HKC, HAC, HMC, HOC, HFC⟩ := hcut
    clear hrun HOD HRD HAD HND HKD hq2 hq3 hq4 HGR HMD HCH HK HFW e0 e1 k0 k1 k2 hq1
    have e0 := HAC.out.cell (k := 0) rfl
    have k0 := HKC.out.cell (k := 0) rfl
    have k1 := HKC.out.cell (k := 1) rfl
    have k2 := HKC.out.cell (k := 2) rfl
    have HMD : Hid (isM3 wc.drew m i (lastP bs i)) := (show isM3 _ _ _ _ from HMC.out)
    have hq1 : i ≤ 1000000 := by omega
    have hq2 : IntKind.i64.wrap ((i : Int) + 1) = (i : Int) + 1 := (by have := wrap_i64_lt (i + 1) (by omega); simpa using this)
    obtain ⟨w8, hrun0, hm8, hg8⟩ := HMD.out.store hq1 (x, y, z) (i + 1)
    have hrun : (Instr.mapUpdate 97 (.map (some m)) (.agg #[.int .u8 (x.toNat : Int), .int .u8 (y.toNat : Int), .int .u8 (z.toNat : Int)]) (.int .i64 ((i : Int) + 1))).run Try.prog wc.drew = .ok () w8 := hrun0
    have HM8 := Lib.hid hm8
    have HG8 : Hid (wc.grownBy w8 (some m)) := (show World.grownBy _ _ _ from ⟨hg8.os, hg8.tape, hg8.output, hg8.size, hg8.block⟩)
    clear hrun0 hm8 hg8
    go_upto_region 5 with fail
    go_region_law (fail)
    all_goals
      go_wp2_with fail
      (try simp only [Exit.inBlock, Exit.then])
      first | (refine bodyPost_ret (results_none rfl _ _ _) rfl ?_) | (refine bodyPost_end (results_none rfl _ _ _) rfl ?_)
      have hm8 := HM8.out
      have hg8 := HG8.out
      rw [← HLS.out] at hm8
      refine ⟨rfl, vp', ⟨HAC.out.gro hg8 (by omega), hm8, World.ownsRow.kept HOC.out hg8 ?_, hmc⟩, RFr.trans HFC.out (RFr.ofG hg8 c vp')⟩
      have := ownI.ne HOC.out (show m < c + 1 by omega)
      exact .inr this
theorem adds_any (B n c0 c m i : Nat) (A : Option Addr) (bs : List UInt8) (vp : Value) (w : World) (h : Ch w c m i vp bs) (hr : RdB w B A n bs) (hB : B ≤ m) (hi : i < n) (hn : n ≤ 40000) (hcap : n ≤ c0) :
    Calls Try.prog 57 #[.pointer (some ⟨c, 0, none⟩), .slice A n c0] w fun e w' => e = .returned (.tuple #[]) ∧ ∃ vp', Ch w' c m (i + 1) vp' bs ∧ RFr w w' c m vp vp' := by
  by_cases h3 : i + 3 ≤ n
  · exact adds_full B n c0 c m i A bs vp w h hr hB hi hn hcap h3
  · exact adds_short B n c0 c m i A bs vp w h hr hB hi hn (by omega)
end Go.Proofs.Ytcancpnepfnhmaa
