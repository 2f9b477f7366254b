/- Merged: Rb4, Rb5, Rx. -/
import Derived.Test.YtfafijhmjnkjeaaMa38
import Derived.Test.YtfafijhmjnkjeaaMa37
import Derived.Test.YtfafijhmjnkjeaaMa32
/- flate: what is written is read back, plainly: a block of its own codes; all that Deflate gives. -/
namespace Go.Proofs.Ytfafijhmjnkjeaa
set_option linter.all false

theorem posn_app (a b : List Int) : posn (a ++ b) = posn a + posn b := by unfold posn; rw [List.filter_append, List.length_append]
theorem posn_one {ws : List Int} {x : Int} (h : x ∈ ws) (h0 : 0 < x) : 1 ≤ posn ws := by
  unfold posn
  exact List.length_pos_of_mem (List.mem_filter.2 ⟨h, by simpa using h0⟩)
theorem posn_two {ws : List Int} {i j : Nat} {x y : Int} (hi : ws[i]? = some x) (hj : ws[j]? = some y) (hx : 0 < x) (hy : 0 < y) (hij : i ≠ j) : 2 ≤ posn ws := by
  have key : ∀ {i j : Nat} {x y : Int}, ws[i]? = some x → ws[j]? = some y → 0 < x → 0 < y → i < j → 2 ≤ posn ws := fun {i j x y} hi hj hx hy h => by
    have h1 : posn ws = posn (ws.take j) + posn (ws.drop j) := by rw [← posn_app, List.take_append_drop]
    have h2 : 1 ≤ posn (ws.take j) := posn_one (x := x) (List.mem_iff_getElem?.2 ⟨i, by rw [List.getElem?_take, if_pos h]; exact hi⟩) hx
    have h3 : 1 ≤ posn (ws.drop j) := posn_one (x := y) (List.mem_iff_getElem?.2 ⟨0, by rw [List.getElem?_drop]; exact hj⟩) hy
    omega
  rcases Nat.lt_or_gt_of_ne hij with h | h
  · exact key hi hj hx hy h
  · exact key hj hi hy hx h
theorem lens_full {ws : List Int} {m : Nat} (hm : 1 ≤ m) (hm2 : m ≤ 15) (hq : ws.length ≤ 2 ^ m) (h2 : 2 ≤ posn ws) : krN (lensOf ws m) = 32768 := by
  rw [lens_kraft hm hm2 (by rw [leaves_length]; exact Nat.le_trans (List.length_filter_le _ _) hq), leaves_length, if_neg (by omega), if_neg (by omega)]
theorem cutK_zero (ls : List Int) (least : Nat) : ∀ k j, cutK ls least k ≤ j → j < k → ls.getD j 0 = 0
  | 0, j, h, h2 => by omega
  | k + 1, j, h, h2 => by
    unfold cutK at h
    split at h
    · rename_i hh
      by_cases e : j = k
      · subst e; exact hh.2
      · exact cutK_zero ls least k j h (by omega)
    · omega
theorem cut_rest {ls : List Int} {least : Nat} : ∀ x ∈ ls.drop (cutK ls least ls.length), x = 0 := by
  intro x hx
  obtain ⟨i, hi⟩ := List.getElem?_of_mem hx
  rw [List.getElem?_drop] at hi
  have hlt := (List.getElem?_eq_some_iff.1 hi).1
  have := cutK_zero ls least ls.length _ (Nat.le_add_right _ i) hlt
  rw [List.getD_eq_getElem?_getD, hi] at this
  exact this
theorem sum_zero {α : Type} (f : α → Nat) : ∀ l : List α, (∀ x ∈ l, f x = 0) → (l.map f).sum = 0
  | [], _ => rfl
  | x :: r, h => by rw [List.map_cons, List.sum_cons, h x (List.mem_cons_self ..), sum_zero f r (fun y hy => h y (List.mem_cons_of_mem _ hy))]
theorem cut_krN (ls : List Int) (least : Nat) : krN (cutL ls least) = krN ls := by
  have e : krN ls = krN (ls.take (cutK ls least ls.length)) + krN (ls.drop (cutK ls least ls.length)) := by
    unfold krN
    rw [← List.sum_append, ← List.map_append, List.take_append_drop]
  have h0 : krN (ls.drop (cutK ls least ls.length)) = 0 := sum_zero _ _ (fun x hx => by rw [cut_rest x hx]; rfl)
  rw [h0] at e
  exact e.symm
theorem cut_cPos (ls : List Int) (least : Nat) : cPos (cutL ls least) = cPos ls := by
  have e : cPos ls = cPos (ls.take (cutK ls least ls.length)) + cPos (ls.drop (cutK ls least ls.length)) := by
    unfold cPos
    rw [← List.countP_append, List.take_append_drop]
  have h0 : cPos (ls.drop (cutK ls least ls.length)) = 0 := List.countP_eq_zero.2 (fun x hx => by rw [cut_rest x hx]; decide)
  rw [h0] at e
  exact e.symm
theorem cut_cOne (ls : List Int) (least : Nat) : cOne (cutL ls least) = cOne ls := by
  have e : cOne ls = cOne (ls.take (cutK ls least ls.length)) + cOne (ls.drop (cutK ls least ls.length)) := by
    unfold cOne
    rw [← List.countP_append, List.take_append_drop]
  have h0 : cOne (ls.drop (cutK ls least ls.length)) = 0 := List.countP_eq_zero.2 (fun x hx => by rw [cut_rest x hx]; decide)
  rw [h0] at e
  exact e.symm
theorem lens_map (ws : List Int) (m : Nat) : lensOf ws m = (List.range ws.length).map fun i => (lnat ws m i : Int) := by
  refine List.ext_getElem? fun i => ?_
  by_cases h : i < ws.length
  · rw [lensOf_get ws m h, List.getElem?_map, List.getElem?_range h]; rfl
  · rw [List.getElem?_eq_none (by rw [lensOf_len]; omega), List.getElem?_eq_none (by simp; omega)]
theorem ws_map (ws : List Int) : ws = (List.range ws.length).map fun i => wOf ws i := by
  refine List.ext_getElem? fun i => ?_
  by_cases h : i < ws.length
  · rw [List.getElem?_map, List.getElem?_range h, List.getElem?_eq_getElem h]
    show _ = some (wOf ws i)
    rw [wOf_get (List.getElem?_eq_getElem h)]
  · rw [List.getElem?_eq_none (by omega), List.getElem?_eq_none (by simp; omega)]
theorem lens_cPos {ws : List Int} {m : Nat} (hm : 1 ≤ m) (hq : ws.length ≤ 2 ^ m) : cPos (lensOf ws m) = posn ws := by
  have hq2 : (leaves ws).length ≤ 2 ^ m := by rw [leaves_length]; exact Nat.le_trans (List.length_filter_le _ _) hq
  have e1 : posn ws = (List.range ws.length).countP fun i => decide (0 < wOf ws i) := by
    unfold posn
    rw [← List.countP_eq_length_filter]
    have := congrArg (List.countP fun x : Int => decide (0 < x)) (ws_map ws)
    rw [this, List.countP_map]
    rfl
  rw [e1, lens_map]
  unfold cPos
  rw [List.countP_map]
  refine List.countP_congr fun i hi => ?_
  rw [List.mem_range] at hi
  show decide (0 < (lnat ws m i : Int)) = true ↔ decide (0 < wOf ws i) = true
  rw [decide_eq_true_iff, decide_eq_true_iff]
  refine ⟨fun h => Decidable.byContradiction fun hn => ?_, fun h => ?_⟩
  · rw [lnat_zero hn] at h
    omega
  · have := lnat_pos hm hq2 hi h
    omega
theorem lens_one {ws : List Int} {m : Nat} (h1 : posn ws = 1) : cOne (lensOf ws m) = 1 := by
  have hl1 : (leaves ws).length = 1 := by rw [leaves_length]; exact h1
  have e1 : posn ws = (List.range ws.length).countP fun i => decide (0 < wOf ws i) := by
    unfold posn
    rw [← List.countP_eq_length_filter]
    have := congrArg (List.countP fun x : Int => decide (0 < x)) (ws_map ws)
    rw [this, List.countP_map]
    rfl
  rw [← h1, e1, lens_map]
  unfold cOne
  rw [List.countP_map]
  refine List.countP_congr fun i hi => ?_
  rw [List.mem_range] at hi
  show decide ((lnat ws m i : Int) = 1) = true ↔ decide (0 < wOf ws i) = true
  rw [decide_eq_true_iff, decide_eq_true_iff]
  refine ⟨fun h => Decidable.byContradiction fun hn => ?_, fun h => ?_⟩
  · rw [lnat_zero hn] at h
    omega
  · rw [lnat_one hl1 h hi]
    rfl
theorem nwE_zero {ls : List Int} (hok : CodesOK ls) {k : Nat} {x : Int} (hx : ls[k]? = some x) (h0 : 0 < x) : nwE ls = 0 := by
  unfold nwE
  rw [if_pos hok.cd.1, if_neg (allP_some hok.2.1 hx h0)]
theorem krV_ok {ls : List Int} (hok : CodesOK ls) : krV ls = (krN ls : Int) := by
  unfold krV
  rw [if_neg]
  rintro (h | h)
  · have := hok.1; omega
  · rw [hok.2.1] at h; cases h
theorem dec_full {ls : List Int} (hok : CodesOK ls) {k : Nat} {x : Int} (hx : ls[k]? = some x) (h0 : 0 < x) (hk : krN ls = 32768) (a : Bool) {s : RS} (he : s.e = 0) : decP ls a s = s ∧ decD ls s = some ls := by
  have hn := nwE_zero hok hx h0
  refine ⟨?_, if_pos ⟨he, hn⟩⟩
  unfold decP
  rw [if_pos he, if_pos hn, if_neg]
  intro h
  have := h.1
  rw [krV_ok hok, hk] at this
  omega
theorem dec_alone {ls : List Int} (hok : CodesOK ls) {k : Nat} {x : Int} (hx : ls[k]? = some x) (h0 : 0 < x) (h1 : cPos ls = 1) (h2 : cOne ls = 1) {s : RS} (he : s.e = 0) : decP ls true s = s ∧ decD ls s = some ls := by
  have hn := nwE_zero hok hx h0
  refine ⟨?_, if_pos ⟨he, hn⟩⟩
  unfold decP
  rw [if_pos he, if_pos hn, if_neg (fun h => h.2 ⟨rfl, h1, h2⟩)]
theorem cPos_pos {ls : List Int} {k : Nat} {x : Int} (hx : ls[k]? = some x) (h0 : 0 < x) : 1 ≤ cPos ls := by
  unfold cPos
  exact List.countP_pos_iff.2 ⟨x, List.mem_iff_getElem?.2 ⟨k, hx⟩, by simpa using h0⟩
theorem pos_cPos {ls : List Int} (h : 1 ≤ cPos ls) : ∃ (k : Nat) (x : Int), ls[k]? = some x ∧ 0 < x := by
  unfold cPos at h
  obtain ⟨x, hx, h0⟩ := List.countP_pos_iff.1 h
  obtain ⟨k, hk⟩ := List.getElem?_of_mem hx
  exact ⟨k, x, hk, by simpa using h0⟩
/-- The weights of the end. -/
theorem weigh_256 (ts : List Tok) : ∃ x, (weighL ts)[256]? = some x ∧ 0 < x := by
  have hl : 256 < (weighL ts).length := by rw [weighL_len]; omega
  refine ⟨_, List.getElem?_eq_getElem hl, ?_⟩
  have h1 := bumps_get ((List.replicate 286 (0 : Int)).set 256 1) (ts.map symT) 256 (by rw [List.length_set, List.length_replicate]; omega)
  have h2 : (weighL ts).getD 256 0 = (weighL ts)[256] := by rw [List.getD_eq_getElem?_getD, List.getElem?_eq_getElem hl]; rfl
  have h3 : (((List.replicate 286 (0 : Int)).set 256 1)).getD 256 0 = 1 := by decide +kernel
  unfold weighL at h2 ⊢
  rw [h1, h3] at h2
  omega
theorem weigh_sym {ts : List Tok} {t : Tok} (h : ∀ t ∈ ts, TokOK t) (ht : t ∈ ts) : ∃ x, (weighL ts)[symT t]? = some x ∧ 0 < x :=
  bumps_pos (xs := (List.replicate 286 (0 : Int)).set 256 1) (ps := ts.map symT) (p := symT t) (fun x hx => (w286_rng x hx).1) (List.mem_map.2 ⟨t, ht, rfl⟩) (by rw [List.length_set, List.length_replicate]; exact symT_lt (h t ht))
theorem weigh_dst {ts : List Tok} {t : Tok} (h : ∀ t ∈ ts, TokOK t) (ht : t ∈ ts) {p : Nat} (hp : p ∈ dstT t) : ∃ x, (weighD ts)[p]? = some x ∧ 0 < x :=
  bumps_pos (xs := List.replicate 30 (0 : Int)) (ps := ts.flatMap dstT) (p := p) (fun x hx => (w30_rng x hx).1) (List.mem_flatMap.2 ⟨t, ht, hp⟩) (by rw [List.length_replicate]; exact dstT_lt (h t ht) p hp)
theorem lens_nat {ws : List Int} {m p : Nat} (hm : 1 ≤ m) (hq : ws.length ≤ 2 ^ m) {x : Int} (hx : ws[p]? = some x) (h0 : 0 < x) : ∃ k : Nat, (lensOf ws m)[p]? = some (k : Int) ∧ 0 < k := by
  have hp := (List.getElem?_eq_some_iff.1 hx).1
  exact ⟨_, lensOf_get ws m hp, lnat_pos hm (by rw [leaves_length]; exact Nat.le_trans (List.length_filter_le _ _) hq) hp (by rw [wOf_get hx]; exact h0)⟩
theorem cut_get {ls : List Int} {least p : Nat} {k : Nat} (h : ls[p]? = some (k : Int)) (h0 : 0 < k) : (cutL ls least)[p]? = some (k : Int) := by
  unfold cutL
  rw [List.getElem?_take, if_pos (cutK_pos h (by omega) ls.length (List.getElem?_eq_some_iff.1 h).1)]
  exact h
theorem dynL_at {ts : List Tok} {p : Nat} {x : Int} (hx : (weighL ts)[p]? = some x) (h0 : 0 < x) : ∃ k : Nat, (dynL ts)[p]? = some (k : Int) ∧ 0 < k := by
  obtain ⟨k, hk, hk0⟩ := lens_nat (m := 15) (by omega) (by rw [weighL_len]; decide) hx h0
  exact ⟨k, cut_get hk hk0, hk0⟩
theorem dynL_full {ts : List Tok} (h : ∀ t ∈ ts, TokOK t) (hne : ts ≠ []) : krN (dynL ts) = 32768 := by
  unfold dynL
  rw [cut_krN]
  obtain ⟨t, ht⟩ := List.exists_mem_of_ne_nil ts hne
  obtain ⟨x, hx, hx0⟩ := weigh_256 ts
  obtain ⟨y, hy, hy0⟩ := weigh_sym h ht
  refine lens_full (by omega) (by omega) (by rw [weighL_len]; decide) (posn_two hx hy hx0 hy0 ?_)
  have hk := h t ht
  unfold symT
  split
  · rcases hk with ⟨_, hk⟩ | ⟨hk, _⟩
    · omega
    · omega
  · omega
/-- The lengths of distances are whole, or one alone. -/
theorem dynD_dec (ts : List Tok) {s : RS} (he : s.e = 0) : decP (dynD ts) true s = s ∧ decD (dynD ts) s = some (dynD ts) ∧ noneP (dynD ts) = false := by
  have hnone : ∀ {k : Nat} {x : Int}, (dynD ts)[k]? = some x → 0 < x → noneP (dynD ts) = false := fun {k x} hx h0 => by
    have := cPos_pos hx h0
    unfold noneP
    exact beq_eq_false_iff_ne.2 (by omega)
  by_cases hc : (lensOf (weighD ts) 15).getD 0 0 = 0 ∧ cutK (lensOf (weighD ts) 15) 1 30 = 1
  · have e : dynD ts = [1] := if_pos hc
    have hok := dynD_ok ts
    rw [e] at hnone hok ⊢
    have := dec_alone hok (k := 0) (x := 1) rfl (by decide) (by decide) (by decide) he
    exact ⟨this.1, this.2, hnone (k := 0) (x := 1) rfl (by decide)⟩
  · have e : dynD ts = cutL (lensOf (weighD ts) 15) 1 := if_neg hc
    have hok := dynD_ok ts
    rw [e] at hnone hok ⊢
    have hcp : cPos (cutL (lensOf (weighD ts) 15) 1) = posn (weighD ts) := by rw [cut_cPos, lens_cPos (by omega) (by rw [weighD_len]; decide)]
    by_cases h0 : posn (weighD ts) = 0
    · exfalso
      apply hc
      have hz : ∀ x ∈ lensOf (weighD ts) 15, x = 0 := fun x hx => Decidable.byContradiction fun hn => by
        have h1 : cPos (lensOf (weighD ts) 15) = 0 := by rw [lens_cPos (by omega) (by rw [weighD_len]; decide), h0]
        obtain ⟨k, hk⟩ := List.getElem?_of_mem hx
        have hxr := (lensOf_le (ws := weighD ts) (m := 15) (by omega) (by rw [weighD_len]; decide) x hx).1
        have := cPos_pos hk (by omega)
        omega
      have hd : ∀ k, (lensOf (weighD ts) 15).getD k 0 = 0 := fun k => by
        rw [List.getD_eq_getElem?_getD]
        cases hk : (lensOf (weighD ts) 15)[k]? with
        | none => rfl
        | some x => exact hz x (List.mem_iff_getElem?.2 ⟨k, hk⟩)
      refine ⟨hd 0, ?_⟩
      have : ∀ k, 1 ≤ k → cutK (lensOf (weighD ts) 15) 1 k = 1 := fun k hk => by
        induction k with
        | zero => omega
        | succ k ih =>
          unfold cutK
          by_cases h1 : k = 0
          · subst h1; rfl
          · rw [if_pos ⟨by omega, hd k⟩]
            exact ih (by omega)
      exact this 30 (by omega)
    · obtain ⟨k, x, hx, hx0⟩ := pos_cPos (ls := cutL (lensOf (weighD ts) 15) 1) (by omega)
      have hn := hnone hx hx0
      by_cases h1 : posn (weighD ts) = 1
      · have := dec_alone hok hx hx0 (by omega) (by rw [cut_cOne, lens_one h1]) he
        exact ⟨this.1, this.2, hn⟩
      · have := dec_full hok hx hx0 (by rw [cut_krN]; exact lens_full (by omega) (by omega) (by rw [weighD_len]; decide) (by omega)) true he
        exact ⟨this.1, this.2, hn⟩
theorem dynD_at {ts : List Tok} {p : Nat} {x : Int} (hx : (weighD ts)[p]? = some x) (h0 : 0 < x) : ∃ k : Nat, (dynD ts)[p]? = some (k : Int) ∧ 0 < k := by
  obtain ⟨k, hk, hk0⟩ := lens_nat (m := 15) (by omega) (by rw [weighD_len]; decide) hx h0
  have hp : p < 30 := by have := (List.getElem?_eq_some_iff.1 hx).1; rw [weighD_len] at this; exact this
  have e : dynD ts = cutL (lensOf (weighD ts) 15) 1 := by
    refine if_neg fun hh => ?_
    have hc := cutK_pos (least := 1) hk (show ¬ (k : Int) = 0 by omega) 30 hp
    obtain rfl : p = 0 := by omega
    have := hh.1
    rw [List.getD_eq_getElem?_getD, hk] at this
    have h2 : (k : Int) = 0 := this
    omega
  rw [e]
  exact ⟨k, cut_get hk hk0, hk0⟩
theorem dyn_tokC {ts : List Tok} (h : ∀ t ∈ ts, TokOK t) : ∀ t ∈ ts, TokC (dynL ts) (dynD ts) t := by
  intro t ht
  refine ⟨?_, fun p hp => ?_⟩
  · obtain ⟨x, hx, hx0⟩ := weigh_sym h ht
    exact dynL_at hx hx0
  · obtain ⟨x, hx, hx0⟩ := weigh_dst h ht hp
    exact dynD_at hx hx0
end Go.Proofs.Ytfafijhmjnkjeaa

/- flate: what is written is read back, plainly: all that Deflate gives. -/
namespace Go.Proofs.Ytfafijhmjnkjeaa
set_option linter.all false

theorem wgt_at {ss : List Sgn} (h : ∀ s ∈ ss, SgnOK s) {s : Sgn} (hs : s ∈ ss) : ∃ x, (wgtC ss)[s.1]? = some x ∧ 0 < x :=
  bumps_pos (xs := List.replicate 19 (0 : Int)) (ps := ss.map (fun y : Sgn => y.1)) (p := s.1) (fun x hx => by rw [List.mem_replicate] at hx; omega) (List.mem_map.2 ⟨s, hs, rfl⟩) (by rw [List.length_replicate]; exact (h s hs).1)
theorem lensC_at {ss : List Sgn} (h : ∀ s ∈ ss, SgnOK s) {s : Sgn} (hs : s ∈ ss) : ∃ k : Nat, (lensC ss)[s.1]? = some (k : Int) ∧ 0 < k := by
  obtain ⟨x, hx, hx0⟩ := wgt_at h hs
  exact lens_nat (m := 7) (by omega) (by rw [wgtC_len]; decide) hx hx0
theorem lensC_full {ss : List Sgn} (h : ∀ s ∈ ss, SgnOK s) (h2 : ∃ s ∈ ss, ∃ t ∈ ss, s.1 ≠ t.1) : krN (lensC ss) = 32768 := by
  obtain ⟨s, hs, t, ht, hne⟩ := h2
  obtain ⟨x, hx, hx0⟩ := wgt_at h hs
  obtain ⟨y, hy, hy0⟩ := wgt_at h ht
  exact lens_full (by omega) (by omega) (by rw [wgtC_len]; decide) (posn_two hx hy hx0 hy0 hne)
/-- Lists of lengths, read. -/
theorem lists_back {bs : List UInt8} {ll dd : List Int} {s : RS} (hl : CodesOK ll) (hd : CodesOK dd) (hl1 : 257 ≤ ll.length ∧ ll.length ≤ 286) (hd1 : 1 ≤ dd.length ∧ dd.length ≤ 30) (hp : ∃ y ∈ ll, 0 < y) (he : s.e = 0) (h : Bits bs s.p (listsB ll dd)) :
    hdN bs s = ll.length ∧ hdM bs s = dd.length ∧ ownLs bs s = (ll ++ dd, ⟨s.p + (listsB ll dd).length, s.out, 0⟩) := by
  have hrr : ∀ y ∈ ll ++ dd, 0 ≤ y ∧ y ≤ 15 := fun y hy => by
    rw [List.mem_append] at hy
    rcases hy with hy | hy
    · exact hl.rng y hy
    · exact hd.rng y hy
  have hlen : (ll ++ dd).length = ll.length + dd.length := List.length_append
  have hok : ∀ x ∈ runsP (ll ++ dd), SgnOK x := runsF_ok _ _ hrr
  have hexp := exp_runs (ll ++ dd).length (ll ++ dd) [] (Nat.le_refl _) hrr
  rw [List.nil_append] at hexp
  have h2s := two_signs (l := ll ++ dd) (by omega) hrr (by obtain ⟨y, hy, hy0⟩ := hp; exact ⟨y, List.mem_append_left _ hy, hy0⟩)
  have hcf := lensC_full hok h2s
  have hca : ∀ x ∈ runsP (ll ++ dd), ∃ k : Nat, (lensC (runsP (ll ++ dd)))[x.1]? = some (k : Int) ∧ 0 < k := fun x hx => lensC_at hok hx
  have hco := lensC_ok (runsP (ll ++ dd))
  have hcl := lensC_len (runsP (ll ++ dd))
  have hcr : ∀ k, 0 ≤ (lensC (runsP (ll ++ dd))).getD k 0 ∧ (lensC (runsP (ll ++ dd))).getD k 0 ≤ 7 := fun k => by
    rw [List.getD_eq_getElem?_getD]
    cases hk : (lensC (runsP (ll ++ dd)))[k]? with
    | none => exact ⟨Int.le_refl _, by decide⟩
    | some x => exact lensC_rng _ x (List.mem_iff_getElem?.2 ⟨k, hk⟩)
  have hrl : (runsP (ll ++ dd)).length ≤ (ll ++ dd).length := runsF_len _ _
  have hL : listsB ll dd = lsb (ll.length - 257) 5 ++ lsb (dd.length - 1) 5 ++ lsb (hcK (lensC (runsP (ll ++ dd))) 19 - 4) 4 ++ ordB (lensC (runsP (ll ++ dd))) (hcK (lensC (runsP (ll ++ dd))) 19) ++ (runsP (ll ++ dd)).flatMap (sgnB (lensC (runsP (ll ++ dd)))) := rfl
  have hq1 := hcK_ge (lensC (runsP (ll ++ dd))) 19 (by omega)
  have hq2 := hcK_le (lensC (runsP (ll ++ dd))) 19
  obtain ⟨sx, hsx, -⟩ := h2s
  obtain ⟨kx, hkx, hkx0⟩ := hca sx hsx
  have hexp2 : Exp [] (runsP (ll ++ dd)) (ll ++ dd) := hexp
  rw [hL] at h ⊢
  clear hL hok hexp hsx
  have hsf := setF_all hcl
  unfold ordB at h ⊢
  generalize hcK (lensC (runsP (ll ++ dd))) 19 = q at *
  generalize lensC (runsP (ll ++ dd)) = cl at *
  generalize runsP (ll ++ dd) = sgs at *
  have b1 := h.left.left.left.left
  have b2 := h.left.left.left.right
  have b3 := h.left.left.right
  have b4 := h.left.right
  have b5 := h.right
  rw [lsb_len] at b2
  rw [List.length_append, lsb_len, lsb_len] at b3
  rw [List.length_append, List.length_append, lsb_len, lsb_len, lsb_len] at b4
  rw [List.length_append, List.length_append, List.length_append, lsb_len, lsb_len, lsb_len] at b5
  have g1 := getP_bits b1 (show ll.length - 257 < 2 ^ 5 by omega) he
  have hN : hdN bs s = ll.length := by unfold hdN; rw [g1]; show 257 + (ll.length - 257) = _; omega
  have hA : hdA bs s = ⟨s.p + 5, s.out, 0⟩ := by unfold hdA; rw [hN, if_neg (by omega), g1]
  have g2 := getP_bits (s := ⟨s.p + 5, s.out, 0⟩) b2 (show dd.length - 1 < 2 ^ 5 by omega) rfl
  have hM : hdM bs s = dd.length := by unfold hdM; rw [hA, g2]; show 1 + (dd.length - 1) = _; omega
  have hB : hdB bs s = ⟨s.p + (5 + 5), s.out, 0⟩ := by unfold hdB; rw [hM, if_neg (by omega), hA, g2]
  have g3 := getP_bits (s := ⟨s.p + (5 + 5), s.out, 0⟩) b3 (show q - 4 < 2 ^ 4 by omega) rfl
  have hQ : hdQ bs s = q := by unfold hdQ; rw [hB, g3]; show 4 + (q - 4) = _; omega
  have g4 := ords_back hcr (ordL.take q) (List.replicate 19 0) ⟨s.p + (5 + 5 + 4), s.out, 0⟩ rfl b4
  have hD : hdL bs s = (cl, ⟨s.p + (5 + 5 + 4) + ((ordL.take q).flatMap fun k => lsb (cl.getD k 0).toNat 3).length, s.out, 0⟩) := by
    unfold hdL
    rw [hQ, hB, g3]
    show lenRd bs (ordL.take q) (List.replicate 19 0) ⟨s.p + (5 + 5 + 4), s.out, 0⟩ = _
    rw [g4, hsf]
  obtain ⟨d1, d2⟩ := dec_full hco hkx (show (0 : Int) < (kx : Int) by omega) hcf false (s := ⟨s.p + (5 + 5 + 4) + ((ordL.take q).flatMap fun k => lsb (cl.getD k 0).toNat 3).length, s.out, 0⟩) rfl
  refine ⟨hN, hM, ?_⟩
  unfold ownLs
  rw [hD, hN, hM]
  show listD bs (decD cl _) _ (decP cl false _) = _
  rw [d1, d2, ← hlen]
  have g5 := signs_back hco sgs [] ⟨s.p + (5 + 5 + 4) + ((ordL.take q).flatMap fun k => lsb (cl.getD k 0).toNat 3).length, s.out, 0⟩ ((ll ++ dd).length + 1) (by omega) hexp2 hca rfl (by rw [Nat.add_assoc]; exact b5)
  show listF bs cl (ll ++ dd).length ((ll ++ dd).length + 1) [] _ = _
  rw [g5, List.length_append, List.length_append, List.length_append, List.length_append, lsb_len, lsb_len, lsb_len]
  congr 2
  show s.p + (5 + 5 + 4) + _ + _ = _
  omega
theorem own_back {bz b : List UInt8} {most : Int} (hne : findP b ≠ []) (hm : ((b.length : Nat) : Int) ≤ most) (hw : WB bz (ownBits (findP b))) {f : Nat} (hf : 8 * bz.length + 1 ≤ f) :
    blk0 bz ⟨0, [], 0⟩ = 1 ∧ blkP bz most f ⟨0, [], 0⟩ = ⟨(ownBits (findP b)).length, b, 0⟩ := by
  have h := hw.bits
  unfold ownBits at h
  obtain ⟨h0, h1, h2⟩ := head_bits (s := ⟨0, [], 0⟩) h.left.left (by decide) rfl
  refine ⟨h0, ?_⟩
  unfold blkP
  rw [h1, h2]
  have hok := (findP_ok b).1
  have hr := h.left.right
  rw [headL_len] at hr
  have hr2 := h.right
  rw [List.length_append, headL_len] at hr2
  obtain ⟨x, hx, hx0⟩ := weigh_256 (findP b)
  obtain ⟨k2, hk2, hk20⟩ := dynL_at hx hx0
  have hyl := List.mem_iff_getElem?.2 ⟨256, hk2⟩
  obtain ⟨e1, e2, e3⟩ := lists_back (s := ⟨3, [], 0⟩) (dynL_ok (findP b)) (dynD_ok (findP b)) (dynL_rng _) (dynD_rng _) ⟨_, hyl, by omega⟩ rfl hr
  have hlr := dynL_rng (findP b)
  show rownP bz most f ⟨3, [], 0⟩ = _
  unfold rownP
  rw [e1, e3]
  have hO : ownBits (findP b) = headL 2 ++ listsB (dynL (findP b)) (dynD (findP b)) ++ toksB (dynL (findP b)) (dynD (findP b)) (findP b) := rfl
  have hfull := dynL_full hok hne
  have hLo := dynL_ok (findP b)
  have hDo := dynD_ok (findP b)
  have hdd := fun {s : RS} (he : s.e = 0) => dynD_dec (findP b) he
  have htc := dyn_tokC hok
  rw [hO]
  generalize dynL (findP b) = ll at *
  generalize dynD (findP b) = dd at *
  have g256 : (ll ++ dd).getD 256 0 = (k2 : Int) := by rw [List.getD_eq_getElem?_getD, List.getElem?_append_left (by omega), hk2]; rfl
  have o1 : own1 (ll ++ dd) ⟨3 + (listsB ll dd).length, [], 0⟩ = ⟨3 + (listsB ll dd).length, [], 0⟩ := by unfold own1; rw [g256, if_neg (by omega)]
  have ht : (ll ++ dd).take ll.length = ll := by rw [List.take_left']; rfl
  have hdp : (ll ++ dd).drop ll.length = dd := by rw [List.drop_left']; rfl
  have o2 : own2 (ll ++ dd) ll.length ⟨3 + (listsB ll dd).length, [], 0⟩ = ⟨3 + (listsB ll dd).length, [], 0⟩ := by
    unfold own2
    rw [o1, ht]
    exact (dec_full hLo hk2 (by omega) hfull false rfl).1
  obtain ⟨q1, q2, q3⟩ := hdd (s := ⟨3 + (listsB ll dd).length, [], 0⟩) rfl
  have o3 : own3 (ll ++ dd) ll.length ⟨3 + (listsB ll dd).length, [], 0⟩ = ⟨3 + (listsB ll dd).length, [], 0⟩ := by
    unfold own3
    rw [hdp, q3, if_neg (by decide), o2]
    exact q1
  have o4 : ownDD (ll ++ dd) ll.length ⟨3 + (listsB ll dd).length, [], 0⟩ = some dd := by
    unfold ownDD
    rw [hdp, q3, if_neg (by decide), o2]
    exact q2
  show ownT bz most (ll ++ dd) ll.length f ⟨3 + (listsB ll dd).length, [], 0⟩ = _
  unfold ownT
  rw [if_pos rfl, o3, if_pos rfl, o4, ht]
  have hl9 := hr2.1
  rw [toks_back (b := b) hLo hDo hm ⟨k2, hk2, hk20⟩ b.length 0 f ⟨3 + (listsB ll dd).length, [], 0⟩ (Nat.zero_le _) (by omega) rfl rfl htc (by rw [Nat.zero_add] at hr2; exact hr2) (by show (toksB ll dd (findP b)).length ≤ f; omega)]
  rw [List.length_append, List.length_append, headL_len]
  rfl
theorem ownBits_min (ts : List Tok) : 17 ≤ (ownBits ts).length := by
  unfold ownBits listsB
  rw [List.length_append, List.length_append, List.length_append, List.length_append, List.length_append, List.length_append, headL_len, lsb_len, lsb_len, lsb_len]
  omega
theorem fixB_nil10 : (fixB []).length = 10 := by decide +kernel
/-- What is compressed comes out as it was, and all of it is used. -/
theorem z_back {bz b : List UInt8} {most : Int} (hb : b.length ≤ 40000) (hm : ((b.length : Nat) : Int) ≤ most) (hw : WB bz (deflB b (findP b))) : infS bz most = ⟨(deflB b (findP b)).length, b, 0⟩ := by
  have key : blk0 bz ⟨0, [], 0⟩ = 1 ∧ blkP bz most (8 * bz.length + 1) ⟨0, [], 0⟩ = ⟨(deflB b (findP b)).length, b, 0⟩ := by
    unfold deflB at hw ⊢
    by_cases h1 : (ownBits (findP b)).length < (best1 b (findP b)).length
    · rw [if_pos h1] at hw ⊢
      refine own_back (fun e => ?_) hm hw (Nat.le_refl _)
      rw [e] at h1
      have h2 := ownBits_min []
      have h3 : (best1 b []).length ≤ 10 := by
        unfold best1
        split
        · rw [fixB_nil10]; exact Nat.le_refl _
        · rename_i hh
          rw [fixB_nil10] at hh
          omega
      omega
    · rw [if_neg h1] at hw ⊢
      unfold best1 at hw ⊢
      by_cases h2 : (fixB (findP b)).length < (plainL b).length
      · rw [if_pos h2] at hw ⊢
        exact fixed_back hm hw (Nat.le_refl _)
      · rw [if_neg h2] at hw ⊢
        exact stored_back hb hm hw _
  unfold infS
  show infF bz most (8 * bz.length + 1) (8 * bz.length + 1) ⟨0, [], 0⟩ = _
  rw [infF, if_pos (show (RS.mk 0 [] 0).e = 0 from rfl), key.1, if_neg (by decide)]
  exact key.2
theorem z_infl {bz b : List UInt8} {most : Int} (hb : b.length ≤ 40000) (hm : ((b.length : Nat) : Int) ≤ most) (hm2 : most ≤ 40000) (hw : WB bz (deflB b (findP b))) : inflP bz most = (b, bz.length, 0) := by
  unfold inflP
  rw [if_neg (by omega), z_back hb hm hw, if_pos rfl]
  show (b, ((deflB b (findP b)).length + 7) / 8, (0 : Int)) = _
  rw [← hw.1]
end Go.Proofs.Ytfafijhmjnkjeaa

/- flate: more bytes behind, more room: the same comes out, plainly. -/
namespace Go.Proofs.Ytfafijhmjnkjeaa
set_option linter.all false

section
variable {bs more : List UInt8} {most most' : Int}
theorem bitAt_app {p : Nat} (h : p < 8 * bs.length) : bitAt (bs ++ more) p = bitAt bs p := by
  unfold bitAt
  rw [List.getD_eq_getElem?_getD, List.getD_eq_getElem?_getD, List.getElem?_append_left (by omega)]
theorem getV_app {p : Nat} : ∀ m, p + m ≤ 8 * bs.length → getV (bs ++ more) p m = getV bs p m
  | 0, _ => rfl
  | m + 1, h => by rw [getV, getV, getV_app m (by omega), bitAt_app (by omega)]
theorem getP_ext {s : RS} {m : Nat} (h : (getP bs s m).2.e = 0) : getP (bs ++ more) s m = getP bs s m := by
  unfold getP at h ⊢
  by_cases he : s.e = 0
  · rw [if_pos he] at h ⊢
    rw [if_pos he]
    by_cases h2 : s.p + m ≤ 8 * bs.length
    · rw [if_pos h2, if_pos (by rw [List.length_append]; omega), getV_app m h2]
    · rw [if_neg h2] at h
      exact absurd h (show ¬ (2 : Int) = 0 by decide)
  · rw [if_neg he, if_neg he]
theorem nx_ext (ls : List Int) : ∀ f t v P, (nx ls bs f t v P).2.1 = 0 → nx ls (bs ++ more) f t v P = nx ls bs f t v P
  | 0, t, v, P, h => rfl
  | f + 1, t, v, P, h => by
    rw [nx] at h ⊢
    rw [nx]
    by_cases h1 : 8 * bs.length ≤ P
    · rw [if_pos h1] at h
      exact absurd h (show ¬ (2 : Int) = 0 by decide)
    · rw [if_neg h1] at h ⊢
      rw [if_neg (by rw [List.length_append]; omega), bitAt_app (by omega)]
      cases hh : hitN ls t (v * 2 + bitAt bs P) with
      | none =>
        rw [hh] at h
        exact nx_ext ls f (t + 1) _ (P + 1) h
      | some p => rfl
theorem nextP_ext {s : RS} {ls : List Int} (h : (nextP bs ls s).2.e = 0) : nextP (bs ++ more) ls s = nextP bs ls s := by
  unfold nextP at h ⊢
  by_cases he : s.e = 0
  · rw [if_pos he] at h
    rw [if_pos he, if_pos he, nx_ext ls 15 1 0 s.p h]
  · rw [if_neg he, if_neg he]
theorem nextP_e0 {s : RS} {ls : List Int} (h : (nextP bs ls s).2.e = 0) : s.e = 0 := by
  unfold nextP at h
  by_cases he : s.e = 0
  · exact he
  · rw [if_neg he] at h
    exact h
theorem nextP_lt {s : RS} {ls : List Int} (h : (nextP bs ls s).2.e = 0) : s.p < (nextP bs ls s).2.p := nextP_p (nextP_e0 h) h
theorem nextP_fit {s : RS} {ls : List Int} (h : (nextP bs ls s).2.e = 0) : s.p < 8 * bs.length := by
  have he := nextP_e0 h
  unfold nextP at h
  rw [if_pos he] at h
  refine Decidable.byContradiction fun hn => ?_
  have h2 : (nx ls bs 15 1 0 s.p).2.1 = 2 := by
    rw [nx, if_pos (by omega)]
  have h3 : (nx ls bs 15 1 0 s.p).2.1 = 0 := h
  omega
theorem givesP_e0 {s : RS} {x : UInt8} (h : (givesP most s x).e = 0) : s.e = 0 ∧ ¬ most ≤ (s.out.length : Int) := by
  unfold givesP at h
  split at h
  · exact absurd h (fail_e (by decide))
  · rename_i hh
    exact ⟨h, hh⟩
theorem givesP_ext (hm : most ≤ most') {s : RS} {x : UInt8} (h : (givesP most s x).e = 0) : givesP most' s x = givesP most s x := by
  have := (givesP_e0 h).2
  unfold givesP
  rw [if_neg this, if_neg (by omega)]
theorem cpyF_e0 {dist k : Nat} {s : RS} (h : (cpyF most dist k s).e = 0) : s.e = 0 := Decidable.byContradiction fun hn => by
  rw [cpyF_err hn] at h
  exact hn h
theorem cpyF_ext (hm : most ≤ most') {dist : Nat} : ∀ (k : Nat) (s : RS), (cpyF most dist k s).e = 0 → cpyF most' dist k s = cpyF most dist k s
  | 0, s, h => rfl
  | k + 1, s, h => by
    have he := cpyF_e0 h
    rw [cpyF, if_pos he] at h
    rw [cpyF, cpyF, if_pos he, if_pos he, givesP_ext hm (cpyF_e0 h)]
    exact cpyF_ext hm k _ h
theorem copiesP_ext (hm : most ≤ most') {s : RS} {len dist : Nat} (h : (copiesP most s len dist).e = 0) : copiesP most' s len dist = copiesP most s len dist := cpyF_ext hm _ _ h
theorem copiesP_e0 {s : RS} {len dist : Nat} (h : (copiesP most s len dist).e = 0) : s.e = 0 := by
  have := cpyF_e0 h
  split at this
  · exact fail_e0 this
  · exact this
theorem cpB_ext (hm : most ≤ most') {s : RS} {len : Nat} {dl : Option (List Int)} (h : (cpB bs most s len dl).e = 0) : cpB (bs ++ more) most' s len dl = cpB bs most s len dl := by
  cases dl with
  | none => rfl
  | some ds =>
    rw [cpB] at h
    have hn : (nextP bs ds s).2.e = 0 := by
      split at h
      · rename_i hh; exact hh.1
      · exact (getP_e0 (copiesP_e0 h)).1
    rw [cpB, cpB, nextP_ext hn]
    by_cases h1 : (nextP bs ds s).2.e = 0 ∧ 30 ≤ (nextP bs ds s).1
    · rw [if_pos h1, if_pos h1]
    · rw [if_neg h1] at h
      rw [if_neg h1, if_neg h1, getP_ext (copiesP_e0 h)]
      exact copiesP_ext hm h
theorem cpB_e0 {s : RS} {len : Nat} {dl : Option (List Int)} (h : (cpB bs most s len dl).e = 0) : s.e = 0 := by
  cases dl with
  | none => exact fail_e0 h
  | some ds =>
    rw [cpB] at h
    split at h
    · rename_i hh; exact nextP_e0 hh.1
    · exact nextP_e0 (getP_e0 (copiesP_e0 h)).1
theorem copyP_e0 {s : RS} {q : Nat} {dl : Option (List Int)} (h : (copyP bs most s q dl).e = 0) : s.e = 0 := by
  unfold copyP at h
  split at h
  · exact fail_e0 h
  · split at h
    · exact (getP_e0 (cpB_e0 h)).1
    · exact (getP_e0 h).1
theorem copyP_ext (hm : most ≤ most') {s : RS} {q : Nat} {dl : Option (List Int)} (h : (copyP bs most s q dl).e = 0) : copyP (bs ++ more) most' s q dl = copyP bs most s q dl := by
  unfold copyP at h ⊢
  by_cases h1 : 286 ≤ q
  · rw [if_pos h1, if_pos h1]
  · rw [if_neg h1] at h ⊢
    rw [if_neg h1]
    by_cases h2 : (getP bs s (lenOf (q - 257)).2).2.e = 0
    · rw [if_pos h2] at h ⊢
      rw [getP_ext h2, if_pos h2]
      exact cpB_ext hm h
    · rw [if_neg h2] at h
      exact absurd h h2
/-- How far a reader comes: within the bytes. -/
theorem nextP_fit2 {s : RS} {ls : List Int} (h : s.p ≤ 8 * bs.length) : (nextP bs ls s).2.p ≤ 8 * bs.length := by
  unfold nextP
  split
  · exact (nx_le ls bs 15 1 0 s.p h).1
  · exact h
theorem copyP_fit {s : RS} {q : Nat} {dl : Option (List Int)} (h : s.p ≤ 8 * bs.length) : (copyP bs most s q dl).p ≤ 8 * bs.length := by
  have h1 : (getP bs s (lenOf (q - 257)).2).2.p ≤ 8 * bs.length := getP_fit h
  unfold copyP
  split
  · rw [fail_p]; exact h
  · split
    · cases dl with
      | none =>
        show (RS.fail _ 1).p ≤ _
        rw [fail_p]; exact h1
      | some ds =>
        rw [cpB]
        split
        · rw [fail_p]; exact nextP_fit2 h1
        · rw [copiesP_p]; exact getP_fit (nextP_fit2 h1)
    · exact h1
theorem toksF_fit {ll : List Int} {dl : Option (List Int)} : ∀ (f : Nat) {s : RS}, s.p ≤ 8 * bs.length → (toksF bs most ll dl f s).p ≤ 8 * bs.length
  | 0, s, h => h
  | f + 1, s, h => by
    have h1 : (nextP bs ll s).2.p ≤ 8 * bs.length := nextP_fit2 h
    rw [toksF]
    split
    · split
      · split
        · exact h1
        · split
          · exact toksF_fit f (by rw [givesP_p]; exact h1)
          · exact toksF_fit f (copyP_fit h1)
      · exact h1
    · exact h
theorem plnF_fit : ∀ (k : Nat) {s : RS}, s.p ≤ 8 * bs.length → (plnF bs most k s).p ≤ 8 * bs.length
  | 0, s, h => h
  | k + 1, s, h => by
    rw [plnF]
    split
    · split
      · exact plnF_fit k (by rw [givesP_p]; exact getP_fit h)
      · exact getP_fit h
    · exact h
theorem plainP_fit {s : RS} (h : s.p ≤ 8 * bs.length) : (plainP bs most s).p ≤ 8 * bs.length := by
  have h0 : (pl0 s).p ≤ 8 * bs.length := by show 8 * ((s.p + 7) / 8) ≤ _; omega
  have h1 : (pl2 bs s).p ≤ 8 * bs.length := getP_fit (getP_fit h0)
  have h2 : (pl3 bs s).p = (pl2 bs s).p := by
    unfold pl3
    split
    · exact fail_p _ _
    · rfl
  exact plnF_fit _ (by rw [h2]; exact h1)
theorem lenRd_fit : ∀ (ks : List Nat) (l : List Int) {s : RS}, s.p ≤ 8 * bs.length → (lenRd bs ks l s).2.p ≤ 8 * bs.length
  | [], l, s, h => h
  | k :: ks, l, s, h => lenRd_fit ks _ (getP_fit h)
theorem listF_fit {ls : List Int} {all : Nat} : ∀ (f : Nat) (l : List Int) {s : RS}, s.p ≤ 8 * bs.length → (listF bs ls all f l s).2.p ≤ 8 * bs.length
  | 0, l, s, h => h
  | f + 1, l, s, h => by
    have h1 : (nextP bs ls s).2.p ≤ 8 * bs.length := nextP_fit2 h
    have rp : ∀ (x : Int) (k m : Nat), (listF bs ls all f (repP l x k all (getP bs (nextP bs ls s).2 m).2).1 (repP l x k all (getP bs (nextP bs ls s).2 m).2).2).2.p ≤ 8 * bs.length := fun x k m => listF_fit f _ (by rw [repP_p]; exact getP_fit h1)
    rw [listF]
    split
    · split
      · split
        · exact listF_fit f _ h1
        · split
          · split
            · show (RS.fail _ 4).p ≤ _
              rw [fail_p]; exact h1
            · exact rp _ _ _
          · split
            · exact rp _ _ _
            · exact rp _ _ _
      · exact h1
    · exact h
theorem ownLs_fit {s : RS} (h : s.p ≤ 8 * bs.length) : (ownLs bs s).2.p ≤ 8 * bs.length := by
  have hA : (hdA bs s).p ≤ 8 * bs.length := by
    unfold hdA
    split
    · rw [fail_p]; exact getP_fit h
    · exact getP_fit h
  have hB : (hdB bs s).p ≤ 8 * bs.length := by
    unfold hdB
    split
    · rw [fail_p]; exact getP_fit hA
    · exact getP_fit hA
  have hL : (hdL bs s).2.p ≤ 8 * bs.length := lenRd_fit _ _ (getP_fit hB)
  unfold ownLs
  cases decD (hdL bs s).1 (hdL bs s).2 with
  | none =>
    show (decP _ _ _).p ≤ _
    rw [decP_p]; exact hL
  | some ls => exact listF_fit _ [] (by rw [decP_p]; exact hL)
theorem rownP_fit {f : Nat} {s : RS} (h : s.p ≤ 8 * bs.length) : (rownP bs most f s).p ≤ 8 * bs.length := by
  have h1 := ownLs_fit h
  unfold rownP ownT
  split
  · split
    · exact toksF_fit f (by rw [own3_p]; exact h1)
    · rw [own3_p]; exact h1
  · exact h1
theorem kindP_fit {f k : Nat} {s : RS} (h : s.p ≤ 8 * bs.length) : (kindP bs most f k s).p ≤ 8 * bs.length := by
  unfold kindP
  split
  · exact plainP_fit h
  · split
    · exact toksF_fit f h
    · split
      · exact rownP_fit h
      · rw [fail_p]; exact h
theorem blkP_fit {f : Nat} {s : RS} (h : s.p ≤ 8 * bs.length) : (blkP bs most f s).p ≤ 8 * bs.length := kindP_fit (getP_fit (getP_fit h))
theorem infF_fit {f : Nat} : ∀ (k : Nat) {s : RS}, s.p ≤ 8 * bs.length → (infF bs most f k s).p ≤ 8 * bs.length
  | 0, s, h => h
  | k + 1, s, h => by
    rw [infF]
    split
    · split
      · exact infF_fit k (blkP_fit h)
      · exact blkP_fit h
    · exact h
theorem infS_fit : (infS bs most).p ≤ 8 * bs.length := infF_fit _ (Nat.zero_le _)
theorem toksF_e0 {ll : List Int} {dl : Option (List Int)} {f : Nat} {s : RS} (h : (toksF bs most ll dl f s).e = 0) : s.e = 0 := Decidable.byContradiction fun hn => by
  rw [toksF_err hn] at h
  exact hn h
theorem toksF_ext (hm : most ≤ most') {ll : List Int} {dl : Option (List Int)} : ∀ (f f' : Nat) (s : RS), f ≤ f' → 8 * bs.length + 1 ≤ s.p + f → s.p ≤ 8 * bs.length → (toksF bs most ll dl f s).e = 0 → toksF (bs ++ more) most' ll dl f' s = toksF bs most ll dl f s
  | 0, f', s, hf, hp, hfit, h => by omega
  | f + 1, f', s, hf, hp, hfit, h => by
    obtain ⟨f', rfl⟩ : ∃ g, f' = g + 1 := ⟨f' - 1, by omega⟩
    have he := toksF_e0 h
    rw [toksF, if_pos he] at h
    have hn : (nextP bs ll s).2.e = 0 := Decidable.byContradiction fun hn => by
      rw [if_neg hn] at h
      exact hn h
    have hlt := nextP_lt hn
    rw [toksF, toksF, if_pos he, if_pos he, nextP_ext hn]
    rw [if_pos hn] at h
    rw [if_pos hn, if_pos hn]
    by_cases h1 : (nextP bs ll s).1 = 256
    · rw [if_pos h1, if_pos h1]
    · rw [if_neg h1] at h
      rw [if_neg h1, if_neg h1]
      have hnf : (nextP bs ll s).2.p ≤ 8 * bs.length := nextP_fit2 hfit
      have hgo : ∀ u : RS, s.p < u.p → u.p ≤ 8 * bs.length → (toksF bs most ll dl f u).e = 0 → toksF (bs ++ more) most' ll dl f' u = toksF bs most ll dl f u := fun u hu hz hh => toksF_ext hm f f' u (by omega) (by omega) hz hh
      by_cases h2 : (nextP bs ll s).1 < 256
      · rw [if_pos h2] at h
        rw [if_pos h2, if_pos h2, givesP_ext hm (toksF_e0 h)]
        exact hgo _ (by rw [givesP_p]; exact hlt) (by rw [givesP_p]; exact hnf) h
      · rw [if_neg h2] at h
        rw [if_neg h2, if_neg h2, copyP_ext hm (toksF_e0 h)]
        exact hgo _ (Nat.lt_of_lt_of_le hlt (copyP_m bs most _ _ dl)) (copyP_fit hnf) h
theorem plnF_e0 {k : Nat} {s : RS} (h : (plnF bs most k s).e = 0) : s.e = 0 := Decidable.byContradiction fun hn => by
  rw [plnF_err hn] at h
  exact hn h
theorem plnF_ext (hm : most ≤ most') : ∀ (k : Nat) (s : RS), (plnF bs most k s).e = 0 → plnF (bs ++ more) most' k s = plnF bs most k s
  | 0, s, h => rfl
  | k + 1, s, h => by
    have he := plnF_e0 h
    rw [plnF, if_pos he] at h
    have hg : (getP bs s 8).2.e = 0 := Decidable.byContradiction fun hn => by
      rw [if_neg hn] at h
      exact hn h
    rw [if_pos hg] at h
    rw [plnF, plnF, if_pos he, if_pos he, getP_ext hg, if_pos hg, if_pos hg, givesP_ext hm (plnF_e0 h)]
    exact plnF_ext hm k _ h
theorem plainP_ext (hm : most ≤ most') {s : RS} (h : (plainP bs most s).e = 0) : plainP (bs ++ more) most' s = plainP bs most s := by
  unfold plainP at h
  have h3 := plnF_e0 h
  have h2 : (pl2 bs s).e = 0 := by
    unfold pl3 at h3
    split at h3
    · exact fail_e0 h3
    · exact h3
  have h1 := (getP_e0 h2).1
  have e1 : getP (bs ++ more) (pl0 s) 16 = getP bs (pl0 s) 16 := getP_ext h1
  have e2 : getP (bs ++ more) (getP bs (pl0 s) 16).2 16 = getP bs (getP bs (pl0 s) 16).2 16 := getP_ext h2
  have e3 : pl2 (bs ++ more) s = pl2 bs s := by unfold pl2; rw [e1, e2]
  have e4 : pl3 (bs ++ more) s = pl3 bs s := by unfold pl3; rw [e3, e1, e2]
  unfold plainP
  rw [e4, e1]
  exact plnF_ext hm _ _ h
theorem lenRd_ext : ∀ (ks : List Nat) (l : List Int) (s : RS), (lenRd bs ks l s).2.e = 0 → lenRd (bs ++ more) ks l s = lenRd bs ks l s
  | [], l, s, h => rfl
  | k :: ks, l, s, h => by
    rw [lenRd] at h
    rw [lenRd, lenRd, getP_ext (lenRd_e0 bs ks _ _ h)]
    exact lenRd_ext ks _ _ h
theorem repP_e0 {l : List Int} {x : Int} {n all : Nat} {s : RS} (h : (repP l x n all s).2.e = 0) : s.e = 0 := by
  have key : (rep0 l n all s).e = 0 → s.e = 0 := fun h => by
    unfold rep0 at h
    split at h
    · exact fail_e0 h
    · exact h
  unfold repP at h
  split at h
  · exact key h
  · exact key h
theorem listF_e0 {ls : List Int} {all f : Nat} {l : List Int} {s : RS} (h : (listF bs ls all f l s).2.e = 0) : s.e = 0 := Decidable.byContradiction fun hn => by
  rw [listF_stop (fun hh => hn hh.2)] at h
  exact hn h
theorem listF_ext {ls : List Int} {all : Nat} : ∀ (f : Nat) (l : List Int) (s : RS), (listF bs ls all f l s).2.e = 0 → listF (bs ++ more) ls all f l s = listF bs ls all f l s
  | 0, l, s, h => rfl
  | f + 1, l, s, h => by
    by_cases h1 : l.length < all ∧ s.e = 0
    · rw [listF, if_pos h1] at h
      have hn : (nextP bs ls s).2.e = 0 := Decidable.byContradiction fun hn => by
        rw [if_neg hn] at h
        exact hn h
      rw [if_pos hn] at h
      rw [listF, listF, if_pos h1, if_pos h1, nextP_ext hn, if_pos hn, if_pos hn]
      have rp : ∀ (x : Int) (k m : Nat), (listF bs ls all f (repP l x (k + (getP bs (nextP bs ls s).2 m).1) all (getP bs (nextP bs ls s).2 m).2).1 (repP l x (k + (getP bs (nextP bs ls s).2 m).1) all (getP bs (nextP bs ls s).2 m).2).2).2.e = 0 → listF (bs ++ more) ls all f (repP l x (k + (getP (bs ++ more) (nextP bs ls s).2 m).1) all (getP (bs ++ more) (nextP bs ls s).2 m).2).1 (repP l x (k + (getP (bs ++ more) (nextP bs ls s).2 m).1) all (getP (bs ++ more) (nextP bs ls s).2 m).2).2 = listF bs ls all f (repP l x (k + (getP bs (nextP bs ls s).2 m).1) all (getP bs (nextP bs ls s).2 m).2).1 (repP l x (k + (getP bs (nextP bs ls s).2 m).1) all (getP bs (nextP bs ls s).2 m).2).2 := fun x k m hh => by
        rw [getP_ext (repP_e0 (listF_e0 hh))]
        exact listF_ext f _ _ hh
      by_cases h2 : (nextP bs ls s).1 < 16
      · rw [if_pos h2] at h
        rw [if_pos h2, if_pos h2]
        exact listF_ext f _ _ h
      · rw [if_neg h2] at h
        rw [if_neg h2, if_neg h2]
        by_cases h3 : (nextP bs ls s).1 = 16
        · rw [if_pos h3] at h
          rw [if_pos h3, if_pos h3]
          by_cases h4 : l.length = 0
          · rw [if_pos h4, if_pos h4]
          · rw [if_neg h4] at h
            rw [if_neg h4, if_neg h4]
            exact rp _ 3 2 h
        · rw [if_neg h3] at h
          rw [if_neg h3, if_neg h3]
          by_cases h4 : (nextP bs ls s).1 = 17
          · rw [if_pos h4] at h
            rw [if_pos h4, if_pos h4]
            exact rp _ 3 3 h
          · rw [if_neg h4] at h
            rw [if_neg h4, if_neg h4]
            exact rp _ 11 7 h
    · rw [listF_stop h1, listF_stop h1]
theorem ownLs_ext {s : RS} (h : (ownLs bs s).2.e = 0) : hdN (bs ++ more) s = hdN bs s ∧ ownLs (bs ++ more) s = ownLs bs s := by
  have h1 := decP_e0 (listD_e0 h)
  have h2 := lenRd_e0 bs _ _ _ h1
  have h3 := (getP_e0 h2).1
  have h4 : (getP bs (hdA bs s) 5).2.e = 0 := by
    unfold hdB at h3
    split at h3
    · exact fail_e0 h3
    · exact h3
  have h5 := (getP_e0 h4).1
  have h6 : (getP bs s 5).2.e = 0 := by
    unfold hdA at h5
    split at h5
    · exact fail_e0 h5
    · exact h5
  have eN : hdN (bs ++ more) s = hdN bs s := by unfold hdN; rw [getP_ext h6]
  have eA : hdA (bs ++ more) s = hdA bs s := by unfold hdA; rw [eN, getP_ext h6]
  have eM : hdM (bs ++ more) s = hdM bs s := by unfold hdM; rw [eA, getP_ext h4]
  have eB : hdB (bs ++ more) s = hdB bs s := by unfold hdB; rw [eM, eA, getP_ext h4]
  have eQ : hdQ (bs ++ more) s = hdQ bs s := by unfold hdQ; rw [eB, getP_ext h2]
  have eL : hdL (bs ++ more) s = hdL bs s := by
    unfold hdL
    rw [eQ, eB, getP_ext h2]
    exact lenRd_ext _ _ _ h1
  refine ⟨eN, ?_⟩
  unfold ownLs at h ⊢
  rw [eL, eN, eM]
  cases hD : decD (hdL bs s).1 (hdL bs s).2 with
  | none => rfl
  | some ls =>
    rw [hD] at h
    exact listF_ext _ _ _ h
theorem rownP_e0 {f : Nat} {s : RS} (h : (rownP bs most f s).e = 0) : s.e = 0 := Decidable.byContradiction fun hn => rownP_err hn h
theorem own3_e0 {all : List Int} {n : Nat} {s : RS} (h : (own3 all n s).e = 0) : own3 all n s = s := (own3_zero h).1
theorem rownP_ext (hm : most ≤ most') {f f' : Nat} {s : RS} (hf : f ≤ f') (hfu : 8 * bs.length + 1 ≤ f) (h : (rownP bs most f s).e = 0) : rownP (bs ++ more) most' f' s = rownP bs most f s := by
  unfold rownP ownT at h
  have h1 : (ownLs bs s).2.e = 0 := Decidable.byContradiction fun hn => by
    rw [if_neg hn] at h
    exact hn h
  rw [if_pos h1] at h
  have h2 : (own3 (ownLs bs s).1 (hdN bs s) (ownLs bs s).2).e = 0 := Decidable.byContradiction fun hn => by
    rw [if_neg hn] at h
    exact hn h
  rw [if_pos h2] at h
  obtain ⟨e1, e2⟩ := ownLs_ext (more := more) h1
  unfold rownP ownT
  rw [e1, e2, if_pos h1, if_pos h1, if_pos h2, if_pos h2]
  have hfit : (own3 (ownLs bs s).1 (hdN bs s) (ownLs bs s).2).p ≤ 8 * bs.length := by
    refine Decidable.byContradiction fun hn => ?_
    cases f with
    | zero => omega
    | succ f =>
      rw [toksF, if_pos h2] at h
      have : (nextP bs ((ownLs bs s).1.take (hdN bs s)) (own3 (ownLs bs s).1 (hdN bs s) (ownLs bs s).2)).2.e = 0 := Decidable.byContradiction fun hn => by
        rw [if_neg hn] at h
        exact hn h
      have := nextP_fit this
      omega
  exact toksF_ext hm f f' _ hf (by omega) hfit h
theorem kindP_ext (hm : most ≤ most') {f f' k : Nat} {s : RS} (hf : f ≤ f') (hfu : 8 * bs.length + 1 ≤ f) (hfit : s.p ≤ 8 * bs.length) (h : (kindP bs most f k s).e = 0) : kindP (bs ++ more) most' f' k s = kindP bs most f k s := by
  unfold kindP at h ⊢
  split
  · rename_i e
    rw [if_pos e] at h
    exact plainP_ext hm h
  · rename_i e
    rw [if_neg e] at h
    split
    · rename_i e2
      rw [if_pos e2] at h
      exact toksF_ext hm f f' s hf (by omega) hfit h
    · rename_i e2
      rw [if_neg e2] at h
      split
      · rename_i e3
        rw [if_pos e3] at h
        exact rownP_ext hm hf hfu h
      · rfl
theorem blk2_e0 {f : Nat} {s : RS} (h : (blkP bs most f s).e = 0) : (blk2 bs s).e = 0 := Decidable.byContradiction fun hh => kindP_err hh h
theorem blkP_ext (hm : most ≤ most') {f f' : Nat} {s : RS} (hf : f ≤ f') (hfu : 8 * bs.length + 1 ≤ f) (h : (blkP bs most f s).e = 0) : blk0 (bs ++ more) s = blk0 bs s ∧ blkP (bs ++ more) most' f' s = blkP bs most f s := by
  have h1 := blk2_e0 h
  have h2 := (getP_e0 h1).1
  have e1 := getP_ext (more := more) h2
  have e2 := getP_ext (more := more) h1
  have hfit : (blk2 bs s).p ≤ 8 * bs.length := by
    have h3 := (getP_e0 h2).1
    have h4 : (getP bs s 1).2.p ≤ 8 * bs.length := by
      unfold getP at h2 ⊢
      rw [if_pos h3] at h2 ⊢
      split at h2
      · rename_i hh; rw [if_pos hh]; exact hh
      · exact absurd h2 (show ¬ (2 : Int) = 0 by decide)
    exact getP_fit h4
  refine ⟨by unfold blk0; rw [e1], ?_⟩
  unfold blkP
  rw [show blk1 (bs ++ more) s = blk1 bs s by unfold blk1; rw [e1, e2], show blk2 (bs ++ more) s = blk2 bs s by unfold blk2; rw [e1, e2]]
  exact kindP_ext hm hf hfu hfit h
theorem infF_ext (hm : most ≤ most') {f f' : Nat} (hf : f ≤ f') (hfu : 8 * bs.length + 1 ≤ f) : ∀ (k k' : Nat) (s : RS), k ≤ k' → 8 * bs.length + 1 ≤ s.p + k → s.p ≤ 8 * bs.length → (infF bs most f k s).e = 0 → infF (bs ++ more) most' f' k' s = infF bs most f k s
  | 0, k', s, hk, hp, hfit, h => by omega
  | k + 1, k', s, hk, hp, hfit, h => by
    obtain ⟨k', rfl⟩ : ∃ g, k' = g + 1 := ⟨k' - 1, by omega⟩
    have he : s.e = 0 := Decidable.byContradiction fun hn => by
      rw [infF_err hn] at h
      exact hn h
    rw [infF, if_pos he] at h
    have hb : (blkP bs most f s).e = 0 := by
      split at h
      · exact Decidable.byContradiction fun hn => by
          rw [infF_err hn] at h
          exact hn h
      · exact h
    obtain ⟨e1, e2⟩ := blkP_ext (more := more) hm hf hfu hb
    have hp3 := blkP_p hb
    rw [infF, infF, if_pos he, if_pos he, e1, e2]
    split
    · rename_i h0
      rw [if_pos h0] at h
      exact infF_ext hm hf hfu k k' _ (by omega) (by omega) (blkP_fit hfit) h
    · rfl
/-- More bytes behind and more room change nothing. -/
theorem infS_ext (hm : most ≤ most') (h : (infS bs most).e = 0) : infS (bs ++ more) most' = infS bs most := by
  unfold infS at h ⊢
  exact infF_ext hm (by rw [List.length_append]; omega) (Nat.le_refl _) _ _ _ (by rw [List.length_append]; omega) (by show 8 * bs.length + 1 ≤ 0 + _; omega) (Nat.zero_le _) h
/-- What is read lies within. -/
theorem infF_le {f : Nat} : ∀ (k : Nat) (s : RS), (s.out.length : Int) ≤ most → ((infF bs most f k s).out.length : Int) ≤ most
  | 0, s, h => h
  | k + 1, s, h => by
    have hb : ((blkP bs most f s).out.length : Int) ≤ most := kindP_le (by rw [blk2_out]; exact h)
    rw [infF]
    split
    · split
      · exact infF_le k _ hb
      · exact hb
    · exact h
theorem infS_le (h0 : 0 ≤ most) : ((infS bs most).out.length : Int) ≤ most := infF_le _ _ (by show (((0 : Nat)) : Int) ≤ most; exact h0)
end
end Go.Proofs.Ytfafijhmjnkjeaa
