/- Merged: Fl7, Fl15, Fl16, In1. -/
import Derived.Test.YteoolehdomjkkaaMb16
import Derived.Test.YteoolehdomjkkaaMb19
import Derived.Test.YteoolehdomjkkaaMb15
/- flate: a stored block. -/
namespace Go.Proofs.Yteoolehdomjkkaa
set_option linter.all false
open Go.RowKit

def bytesB (bs : List UInt8) : List Nat := bs.flatMap fun x => lsb x.toNat 8
/-- The bits of a stored block. -/
def plainL (bs : List UInt8) : List Nat := alignL (headL 0) ++ lsb bs.length 16 ++ lsb (65535 - bs.length) 16 ++ bytesB bs
theorem bytesB_len (bs : List UInt8) : (bytesB bs).length = 8 * bs.length := by
  induction bs with
  | nil => rfl
  | cons x r ih =>
    unfold bytesB at ih ⊢
    rw [List.flatMap_cons, List.length_append, lsb_len, ih, List.length_cons]
    omega
theorem bytesB_snoc {bs : List UInt8} {k : Nat} {x : UInt8} (h : bs[k]? = some x) : bytesB (bs.take (k + 1)) = bytesB (bs.take k) ++ lsb x.toNat 8 := by
  obtain ⟨hk, hx⟩ := List.getElem?_eq_some_iff.1 h
  rw [List.take_succ_eq_append_getElem hk, hx]
  simp [bytesB]
theorem plainL_len (bs : List UInt8) : (plainL bs).length = 40 + 8 * bs.length := by
  unfold plainL
  rw [List.length_append, List.length_append, List.length_append, alignL_len, headL_len, lsb_len, lsb_len, bytesB_len]
set_option maxRecDepth 100000 in
set_option maxHeartbeats 3200000 in
theorem plain_any (B n c : Nat) (A : Option Addr) (bs : List UInt8) (w : World) (h : RdB w B A n bs) (hB : B ≤ w.heap.size) (hn : n ≤ 40000) :
    Calls Try.prog 53 #[.slice A n c] w fun e w' => ∃ g pv bz, e = .returned (.pointer (some ⟨g, 0, none⟩)) ∧ w.heap.size ≤ g ∧ Wr w' g pv bz (plainL bs) ∧ Below w.heap.size w w' ∧ (∀ k, pv.ownBlock = some k → w.heap.size ≤ k) := by
  have HR := Lib.hid h
  have hl := h.len
  have HN := Lib.hid (begin_lit 0 0 rfl (by decide) w)
  have hal : (alignL (headL 0)).length = 8 := by rw [alignL_len, headL_len]
  have hn2 : (65535 : Int) - (n : Int) = ((65535 - n : Nat) : Int) := by omega
  have HL0 : Hid (alignL (headL 0) ++ lsb n 16 ++ lsb (65535 - n) 16 ++ bytesB (bs.take 0) = alignL (headL 0) ++ lsb n 16 ++ lsb (65535 - n) 16) := (show _ = _ by simp [bytesB])
  have hlen : ∀ k, k ≤ n → (alignL (headL 0) ++ lsb n 16 ++ lsb (65535 - n) 16 ++ bytesB (bs.take k)).length = 40 + 8 * k := fun k hk => by
    rw [List.length_append, List.length_append, List.length_append, lsb_len, lsb_len, bytesB_len, List.length_take, hal, Nat.min_eq_left (by omega)]
  have HLN := Lib.hid hlen
  have HPL : Hid (alignL (headL 0) ++ lsb n 16 ++ lsb (65535 - n) 16 ++ bytesB (bs.take n) = plainL bs) := (show _ = _ by unfold plainL; rw [← hl, List.take_length])
  clear h hlen
  go_enter Try.func53, Try.ntmps53
  go_wp2_with (first
    | (go_at_call 49; (with_reducible refine HN.out.mono ?_); go_must (rintro e w1 ⟨g, pv, bz, rfl, hg, hw1, hb1, hpv⟩; have HPV := Lib.hid hpv; have HX := Lib.hid (Bx.new hw1 (.cells #[Value.pointer (some ⟨g, 0, none⟩)] 89)); have HA := Lib.hid (Arr.new w1 [.pointer (some ⟨g, 0, none⟩)] 89); have HB1 := Lib.hid (hb1.alloc hb1.size (.cells #[Value.pointer (some ⟨g, 0, none⟩)] 89)); have hwa := hw1.alloc (.cells #[Value.pointer (some ⟨g, 0, none⟩)] 89); have HAL := Lib.hid (align_any g _ _ _ _ hwa (by rw [headL_len]; omega)); have hsz1 := hb1.size; obtain ⟨b3, hb3⟩ : ∃ b, w1.heap.size = b := ⟨_, rfl⟩; rw [hb3] at HX HA; simp only [hb3]; clear hw1 hb1 hwa hpv))
    | (go_at_call 88; (with_reducible refine HAL.out.mono ?_); go_must (rintro e w2 ⟨rfl, hw2, hf2⟩; have HF2 := Lib.hid hf2; have HX2 := Lib.hid (HX.out.wr hf2); have HA2 := Lib.hid (HA.out.wr HX.out hf2); have HP1 := Lib.hid (fput_lit g (n : Int) 16 n 16 rfl rfl _ _ _ _ hw2 (by rw [hal]; omega) (by decide) (by omega)); have c2 := HA2.out.cell (k := 0) rfl; clear hw2 hf2 HX HA HAL))
    | (go_at_call 79; (with_reducible refine HP1.out.mono ?_); go_must (rintro e w3 ⟨rfl, pv3, bs3, hw3, hf3⟩; have HF3 := Lib.hid (HF2.out.trans hf3); have HX3 := Lib.hid (HX2.out.wr hf3); have HA3 := Lib.hid (HA2.out.wr HX2.out hf3); have HP2 := Lib.hid (fput_lit g ((65535 - n : Nat) : Int) 16 (65535 - n) 16 rfl rfl _ _ _ _ hw3 (by rw [List.length_append, lsb_len, hal]; omega) (by decide) (by omega)); have c3 := HA3.out.cell (k := 0) rfl; clear hw3 hf3 HX2 HA2 HP1 HF2))
    | (go_at_call 79; (with_reducible refine HP2.out.mono ?_); go_must (rintro e w4 ⟨rfl, pv4, bs4, hw4, hf4⟩; have HF4 := Lib.hid (HF3.out.trans hf4); have HX4 := Lib.hid (HX3.out.wr hf4); have HA4 := Lib.hid (HA3.out.wr HX3.out hf4); rw [← HL0.out] at hw4; have HW4 := Lib.hid hw4; clear hw4 hf4 HX3 HA3 HP2 HF3)))
  go_loopw [21] (fun vi wr => ∃ k : Nat, k ≤ n ∧ vi = .int .i64 k ∧ ∃ pq bq, Hid (Wr wr g pq bq (alignL (headL 0) ++ lsb n 16 ++ lsb (65535 - n) 16 ++ bytesB (bs.take k))) ∧ Hid (WrFr (w1.alloc (.cells #[Value.pointer (some ⟨g, 0, none⟩)] 89)) wr g pv pq) ∧ Hid (Bx wr g pq b3) ∧ Hid (Arr wr b3 [.pointer (some ⟨g, 0, none⟩)])) (fun vi _ => n - (intOf vi).toNat)
  case atStart => exact ⟨0, Nat.zero_le _, rfl, pv4, bs4, HW4, HF4, HX4, HA4⟩
  case round =>
    clear HW4 HF4 HX4 HA4
    obtain ⟨k, hk, rfl, pq, bq, HW, HF, HX, HA⟩ := hrel
    have hBW : Below w.heap.size w wr := HB1.out.trans (HF.out.below (by rw [World.size_alloc]; omega) hg HPV.out)
    have c3 := HA.out.cell (k := 0) rfl
    by_cases hlt : k < n
    · have hlti : (k : Int) < (n : Int) := by omega
      obtain ⟨b, o, x, rfl, hb, HXX, e1⟩ := (HR.out.blw (hBW.mono hB)).byte hlt
      have HS := Lib.hid (bytesB_snoc HXX.out)
      have hx := x.toNat_lt
      have HP := Lib.hid (fput_lit g (x.toNat : Int) 8 x.toNat 8 rfl rfl _ _ _ _ HW.out (by rw [HLN.out k hk]; omega) (by decide) (by simpa using hx))
      have HST : Hid (alignL (headL 0) ++ lsb n 16 ++ lsb (65535 - n) 16 ++ bytesB (bs.take k) ++ lsb x.toNat 8 = alignL (headL 0) ++ lsb n 16 ++ lsb (65535 - n) 16 ++ bytesB (bs.take (k + 1))) := (show _ = _ by rw [HS.out, List.append_assoc, List.append_assoc])
      rw [HST.out] at HP
      clear HS HST
      go_wp2_with (go_at_call 79; (with_reducible refine HP.out.mono ?_); go_must (rintro e w5 ⟨rfl, pv5, bs5, hw5, hf5⟩; have HW5 := Lib.hid hw5; have HF5 := Lib.hid (HF.out.trans hf5); have HX5 := Lib.hid (HX.out.wr hf5); have HA5 := Lib.hid (HA.out.wr HX.out hf5); clear hw5 hf5))
      go_roundw
      case rel => exact ⟨k + 1, by omega, by go_num, pv5, bs5, HW5, HF5, HX5, HA5⟩
      case measure => simp [intOf]; omega
    · obtain rfl : k = n := by omega
      go_wp2_with fail
      go_ret
      refine ⟨g, pq, bq, rfl, hg, (by rw [← HPL.out]; exact HW.out), hBW, fun q hq => ?_⟩
      have := (World.ownsRow.lt HW.out.2.1 q hq).1
      omega
end Go.Proofs.Yteoolehdomjkkaa

/- flate: Deflate, plainly; Find of no bytes. -/
namespace Go.Proofs.Yteoolehdomjkkaa
set_option linter.all false
open Go.RowKit

/-- So many bytes do tokens stand for. -/
def tokSize (ts : List Tok) : Nat := (ts.map fun t => max t.1 1).sum
theorem tokSize_take (ts : List Tok) (k : Nat) : tokSize (ts.take k) ≤ tokSize ts := by
  have : tokSize ts = tokSize (ts.take k) + tokSize (ts.drop k) := by
    unfold tokSize
    rw [← List.sum_append, ← List.map_append, List.take_append_drop]
  omega
theorem tokSize_len (ts : List Tok) : ts.length ≤ tokSize ts := by
  induction ts with
  | nil => simp
  | cons t r ih =>
    unfold tokSize at ih ⊢
    rw [List.map_cons, List.sum_cons, List.length_cons]
    omega
theorem toks_size {ll dd : List Int} (h1 : CodesOK ll) (h2 : CodesOK dd) : ∀ {ts : List Tok}, (∀ t ∈ ts, TokOK t ∧ TokIn ll dd t) → (ts.flatMap (tokB ll dd)).length ≤ 16 * tokSize ts := by
  intro ts
  induction ts with
  | nil => intro _; simp
  | cons t r ih =>
    intro h
    have h5 := ih (fun u hu => h u (by simp [hu]))
    have h3 := tokB_le h1 h2 (h t (by simp)).1 (h t (by simp)).2
    have h4 := (h t (by simp)).1
    unfold tokSize at h5 ⊢
    rw [List.flatMap_cons, List.length_append, List.map_cons, List.sum_cons]
    split at h3
    · omega
    · have : 3 ≤ t.1 := by rcases h4 with ⟨e, _⟩ | ⟨e, _⟩; omega; exact e
      omega
theorem fixL_len : fixL.length = 288 := by simp [fixL]
theorem fixD_len : fixD.length = 32 := by simp [fixD]
theorem fixL_ok : CodesOK fixL := ⟨by rw [fixL_len]; omega, by decide +kernel, by decide +kernel⟩
theorem fixD_ok : CodesOK fixD := ⟨by rw [fixD_len]; omega, by decide +kernel, by decide +kernel⟩
theorem dstT_lt {t : Tok} (h : TokOK t) : ∀ p ∈ dstT t, p < 30 := by
  intro p hp
  unfold dstT at hp
  split at hp
  · cases hp
  · rename_i e
    rw [List.mem_singleton] at hp
    obtain ⟨h3, h4, h5, h6⟩ : 3 ≤ t.1 ∧ t.1 ≤ 258 ∧ 1 ≤ t.2.1 ∧ t.2.1 ≤ 32768 := by rcases h with ⟨h, _⟩ | h; exact absurd h e; exact h
    have := (distS_spec h5).1
    omega
theorem fix_in {t : Tok} (h : TokOK t) : TokIn fixL fixD t := ⟨by rw [fixL_len]; have := symT_lt h; omega, fun p hp => by rw [fixD_len]; have := dstT_lt h p hp; omega⟩
theorem cutK_pos {ls : List Int} {least p : Nat} {x : Int} (hx : ls[p]? = some x) (h0 : ¬ x = 0) : ∀ k, p < k → p < cutK ls least k
  | 0, h => absurd h (by omega)
  | k + 1, h => by
    unfold cutK
    split
    · rename_i e
      by_cases hk : p = k
      · subst hk
        exact absurd (by have := e.2; rw [List.getD_eq_getElem?_getD, hx] at this; exact this) h0
      · exact cutK_pos hx h0 k (by omega)
    · exact h
theorem lens_pos {ws : List Int} {m p : Nat} (hm : 1 ≤ m) (hq : ws.length ≤ 2 ^ m) {x : Int} (hx : ws[p]? = some x) (h0 : 0 < x) : ∃ y, (lensOf ws m)[p]? = some y ∧ ¬ y = 0 := by
  have hp := (List.getElem?_eq_some_iff.1 hx).1
  have := lnat_pos (ws := ws) hm (by rw [leaves_length]; exact Nat.le_trans (List.length_filter_le _ _) hq) hp (by rw [wOf_get hx]; exact h0)
  exact ⟨_, lensOf_get ws m hp, by omega⟩
theorem bumps_pos {xs : List Int} {ps : List Nat} {p : Nat} (h0 : ∀ x ∈ xs, 0 ≤ x) (hp : p ∈ ps) (hl : p < xs.length) : ∃ x, (bumps xs ps)[p]? = some x ∧ 0 < x := by
  have hl2 : p < (bumps xs ps).length := by rw [bumps_len]; exact hl
  refine ⟨_, List.getElem?_eq_getElem hl2, ?_⟩
  have h1 := bumps_get xs ps p hl
  rw [List.getD_eq_getElem?_getD, List.getElem?_eq_getElem hl2, List.getD_eq_getElem?_getD, List.getElem?_eq_getElem hl] at h1
  have h2 : (bumps xs ps)[p] = xs[p] + (ps.count p : Int) := h1
  have h3 := h0 _ (List.getElem_mem hl)
  have h4 := List.count_pos_iff.2 hp
  rw [h2]
  omega
theorem dyn_in {ts : List Tok} (h : ∀ t ∈ ts, TokOK t) : ∀ t ∈ ts, TokIn (dynL ts) (dynD ts) t := by
  intro t ht
  refine ⟨?_, fun p hp => ?_⟩
  · rw [dynL_len]
    have hs := symT_lt (h t ht)
    obtain ⟨x, hx, h0⟩ := bumps_pos (xs := (List.replicate 286 (0 : Int)).set 256 1) (ps := ts.map symT) (p := symT t) (fun x hx => (w286_rng x hx).1) (List.mem_map.2 ⟨t, ht, rfl⟩) (by rw [List.length_set, List.length_replicate]; exact hs)
    obtain ⟨y, hy, hy0⟩ := lens_pos (ws := weighL ts) (m := 15) (by omega) (by rw [weighL_len]; decide) hx h0
    exact cutK_pos hy hy0 286 hs
  · have hs := dstT_lt (h t ht) p hp
    obtain ⟨x, hx, h0⟩ := bumps_pos (xs := List.replicate 30 (0 : Int)) (ps := ts.flatMap dstT) (p := p) (fun x hx => (w30_rng x hx).1) (List.mem_flatMap.2 ⟨t, ht, hp⟩) (by rw [List.length_replicate]; exact hs)
    obtain ⟨y, hy, hy0⟩ := lens_pos (ws := weighD ts) (m := 15) (by omega) (by rw [weighD_len]; decide) hx h0
    have hc := cutK_pos (least := 1) hy hy0 30 hs
    unfold dynD
    split
    · rename_i e
      have hp0 : p = 0 := by omega
      subst hp0
      exact absurd (by have := e.1; rw [List.getD_eq_getElem?_getD, hy] at this; exact this) hy0
    · rw [cutL_len, lensOf_len, weighD_len]; exact hc
def fixB (ts : List Tok) : List Nat := headL 1 ++ toksB fixL fixD ts
def ownBits (ts : List Tok) : List Nat := headL 2 ++ listsB (dynL ts) (dynD ts) ++ toksB (dynL ts) (dynD ts) ts
def best1 (bs : List UInt8) (ts : List Tok) : List Nat := if (fixB ts).length < (plainL bs).length then fixB ts else plainL bs
/-- The bits of the one block. -/
def deflB (bs : List UInt8) (ts : List Tok) : List Nat := if (ownBits ts).length < (best1 bs ts).length then ownBits ts else best1 bs ts
theorem listsB_le {ll dd : List Int} (h1 : ll.length ≤ 286) (h2 : dd.length ≤ 30) (hl : CodesOK ll) (hd : CodesOK dd) : (listsB ll dd).length ≤ 8000 := by
  have hs : ∀ s ∈ runsP (ll ++ dd), SgnOK s := runsF_ok (ll ++ dd).length (ll ++ dd) (fun x hx => by
    rw [List.mem_append] at hx
    rcases hx with h | h
    · exact hl.rng x h
    · exact hd.rng x h)
  have hn : (runsP (ll ++ dd)).length ≤ 316 := by
    have := runsF_len (ll ++ dd).length (ll ++ dd)
    have h3 : (ll ++ dd).length ≤ 316 := by rw [List.length_append]; omega
    exact Nat.le_trans this h3
  have h5 := sgns_le (lensC_ok (runsP (ll ++ dd))) (lensC_len _) hs
  have h6 := ordB_len (lensC (runsP (ll ++ dd))) (hcK (lensC (runsP (ll ++ dd))) 19)
  have h7 := hcK_le (lensC (runsP (ll ++ dd))) 19
  unfold listsB
  rw [List.length_append, List.length_append, List.length_append, List.length_append, lsb_len, lsb_len, lsb_len]
  omega
/-- What Find gives. -/
def FindPost (ts : List Tok) (w : World) (e : Ending) (w' : World) : Prop := ∃ A n c, e = .returned (.tuple #[.slice A n c, .int .i64 0]) ∧ n = ts.length ∧ RdK w' w'.heap.size A n ts ∧ Below w.heap.size w w'
set_option maxRecDepth 100000 in
theorem find_nil (A : Option Addr) (c : Nat) (w : World) : Calls Try.prog 47 #[.slice A 0 c] w (FindPost [] w) := by
  have hmm : ∀ (t : TypeId) (w : World), (Instr.makeMap t none).run Try.prog w = .ok (.map (some w.heap.size)) (w.alloc (.map #[] 0)) := fun _ _ => rfl
  have HB0 := Lib.hid (fun o => ((Below.refl w.heap.size w).alloc (Nat.le_refl _) (.map #[] 0)).alloc (by simp) o)
  go_enter Try.func47, Try.ntmps47
  go_wp2_with fail
  go_loopw [6, 5] (fun vi vl wr => vi = .int .i64 0 ∧ vl = .slice none 0 0 ∧ Hid (Below w.heap.size w wr)) (fun vi _ _ => 0)
  case atStart => exact ⟨rfl, rfl, HB0.out _⟩
  case round =>
    obtain ⟨rfl, rfl, HB⟩ := hrel
    go_wp2_with fail
    go_ret2
    exact ⟨none, 0, 0, rfl, rfl, RdK.nil_, HB.out⟩
end Go.Proofs.Yteoolehdomjkkaa

/- flate: Deflate. -/
namespace Go.Proofs.Yteoolehdomjkkaa
set_option linter.all false
open Go.RowKit

theorem WrFr.blw {w w' : World} {g B : Nat} {pv pv' : Value} {bs : List UInt8} {L : List Nat} (hf : WrFr w w' g pv pv') (h : Wr w g pv bs L) (hB : B ≤ g) (hs : B ≤ w.heap.size) : Below B w w' :=
  hf.below hs hB (fun k hk => by have := (World.ownsRow.lt h.2.1 k hk).1; omega)
theorem WrFr.later {w w' : World} {g B : Nat} {pv pv' : Value} {bs : List UInt8} {L : List Nat} (hf : WrFr w w' g pv pv') (h : Wr w g pv bs L) : Below g w w' := hf.blw h (Nat.le_refl _) (Nat.le_of_lt h.1.lt)
def bestK (bs : List UInt8) (ts : List Tok) : Nat → List Nat
  | 0 => plainL bs
  | 1 => best1 bs ts
  | _ => deflB bs ts
theorem bestK_len (bs : List UInt8) (ts : List Tok) (k : Nat) : (bestK bs ts k).length ≤ (plainL bs).length := by
  have h1 : (best1 bs ts).length ≤ (plainL bs).length := by unfold best1; split <;> omega
  have h2 : (deflB bs ts).length ≤ (plainL bs).length := by unfold deflB; split <;> omega
  match k with
  | 0 => exact Nat.le_refl _
  | 1 => exact h1
  | _ + 2 => exact h2
set_option maxRecDepth 100000 in
set_option maxHeartbeats 6400000 in
theorem deflate_any (B n c : Nat) (A : Option Addr) (bs : List UInt8) (ts : List Tok) (w : World) (h : RdB w B A n bs) (hB : B ≤ w.heap.size) (hn : n ≤ 40000)
    (hfind : Calls Try.prog 47 #[.slice A n c] w (FindPost ts w)) (hok : ∀ t ∈ ts, TokOK t) (hsz : tokSize ts ≤ 40000) :
    Calls Try.prog 24 #[.slice A n c] w fun e w' => ∃ v bz, e = .returned (.tuple #[v, .int .i64 0]) ∧ ownB w' w.heap.size v bz ∧ WB bz (deflB bs ts) ∧ Below w.heap.size w w' := by
  have HR := Lib.hid h
  have HFI := Lib.hid hfind
  have HOK := Lib.hid hok
  have htn : ts.length ≤ 40000 := Nat.le_trans (tokSize_len ts) hsz
  have HFIX := Lib.hid (fun w => fixed_any w)
  have HBG1 := Lib.hid (fun w => begin_lit 1 1 rfl (by decide) w)
  have HBG2 := Lib.hid (fun w => begin_lit 2 2 rfl (by decide) w)
  have HMX1 : Hid (∀ k, k ≤ ts.length → (headL 1).length + ((ts.take k).flatMap (tokB fixL fixD)).length + 100 ≤ 1000000) := (show ∀ k, _ from fun k hk => by
    have h1 := toks_size fixL_ok fixD_ok (ts := ts.take k) (fun t ht => ⟨hok t (List.mem_of_mem_take ht), fix_in (hok t (List.mem_of_mem_take ht))⟩)
    have h2 := tokSize_take ts k
    rw [headL_len]
    omega)
  have HLS : Hid ((listsB (dynL ts) (dynD ts)).length ≤ 8000) := (show _ ≤ _ from listsB_le (dynL_rng ts).2 (dynD_rng ts).2 (dynL_ok ts) (dynD_ok ts))
  have HMX2 : Hid (∀ k, k ≤ ts.length → (headL 2 ++ listsB (dynL ts) (dynD ts)).length + ((ts.take k).flatMap (tokB (dynL ts) (dynD ts))).length + 100 ≤ 1000000) := (show ∀ k, _ from fun k hk => by
    have h1 := toks_size (dynL_ok ts) (dynD_ok ts) (ts := ts.take k) (fun t ht => ⟨hok t (List.mem_of_mem_take ht), dyn_in hok t (List.mem_of_mem_take ht)⟩)
    have h2 := tokSize_take ts k
    have h3 := HLS.out
    rw [List.length_append, headL_len]
    omega)
  have HIN1 : Hid (∀ t ∈ ts, TokOK t ∧ TokIn fixL fixD t) := (show ∀ t ∈ _, _ from fun t ht => ⟨hok t ht, fix_in (hok t ht)⟩)
  have HIN2 : Hid (∀ t ∈ ts, TokOK t ∧ TokIn (dynL ts) (dynD ts) t) := (show ∀ t ∈ _, _ from fun t ht => ⟨hok t ht, dyn_in hok t ht⟩)
  have HLO := Lib.hid (dynL_ok ts)
  have HDO := Lib.hid (dynD_ok ts)
  have HLR := Lib.hid (dynL_rng ts)
  have HDR := Lib.hid (dynD_rng ts)
  have HPN := Lib.hid (plainL_len bs)
  have hl := h.len
  clear h hfind hok
  obtain ⟨N, hN⟩ : ∃ N, ts.length = N := ⟨_, rfl⟩
  obtain ⟨N1, hN1⟩ : ∃ N, (dynL ts).length = N := ⟨_, rfl⟩
  obtain ⟨N2, hN2⟩ : ∃ N, (dynD ts).length = N := ⟨_, rfl⟩
  rw [hN1] at HLR
  rw [hN2] at HDR
  rw [hN] at HMX1 HMX2 htn
  have HN := Lib.hid hN
  have HN1 := Lib.hid hN1
  have HN2 := Lib.hid hN2
  obtain ⟨q1, q2⟩ := HLR.out
  obtain ⟨q3, q4⟩ := HDR.out
  have HPL : Hid (bestK bs ts 0 = plainL bs) := (show _ = _ from rfl)
  clear hN hN1 hN2 HLR HDR hl
  go_enter Try.func24, Try.ntmps24
  go_wp2_with (first
    | (go_at_call 47; (with_reducible refine HFI.out.mono ?_); go_must (rintro e w1 ⟨At, nt, ct, rfl, hnt, hr1, hb1⟩; have hnt2 := hnt.trans HN.out; subst hnt2; have HT1 := Lib.hid hr1; have HB1 := Lib.hid hb1; have hz1 := hb1.size; obtain ⟨b6, hb6⟩ : ∃ b, w1.heap.size = b := ⟨_, rfl⟩; have HA6 := Lib.hid (Arr.new w1 [.slice none 0 0, .slice none 0 0] 86); rw [hb6] at HA6; simp only [hb6]; have HB1a := Lib.hid ((Below.refl w1.heap.size w1).alloc (Nat.le_refl _) (.cells #[Value.slice none 0 0, Value.slice none 0 0] 86)); have hs1a : (w1.alloc (.cells #[Value.slice none 0 0, Value.slice none 0 0] 86)).heap.size = b6 + 1 := (by rw [World.size_alloc, hb6]); have HS1a := Lib.hid hs1a; have hb6 := Lib.hid hb6; clear hr1 hnt hb1 HFI hs1a))
    | (go_at_call 48; (with_reducible refine (HFIX.out _).mono ?_); go_must (rintro e w2 ⟨gl, cl, gd, cd, rfl, hgl, hgd, hrl, hrd, hb2⟩; rw [HS1a.out] at hgl hgd; have ha2 := HA6.out.later hb2; have c60 := ha2.cell (k := 0) rfl; have c61 := ha2.cell (k := 1) rfl; have f60 := ha2.frozen 0; have f61 := ha2.frozen 1; obtain ⟨w3, hw3⟩ : ∃ w3, (w2.setCell ⟨b6, 0, none⟩ (.slice (some ⟨gl, 0, none⟩) 288 cl)).setCell ⟨b6, 1, none⟩ (.slice (some ⟨gd, 0, none⟩) 32 cd) = w3 := ⟨_, rfl⟩; have hz3 : w3.heap.size = w2.heap.size := (by rw [← hw3]; simp); have HA3 : Hid (Arr w3 b6 [.slice (some ⟨gl, 0, none⟩) 288 cl, .slice (some ⟨gd, 0, none⟩) 32 cd]) := (show Arr _ _ _ from by rw [← hw3]; exact (ha2.set 0 _).set 1 _); have HL3 : Hid (RdI w3 w3.heap.size (some ⟨gl, 0, none⟩) 288 fixL) := (show RdI _ _ _ _ _ from by rw [hz3, ← hw3]; exact RdI.far (RdI.far hrl (p := ⟨b6, 0, none⟩) (by show gl ≠ b6; omega) _) (p := ⟨b6, 1, none⟩) (by show gl ≠ b6; omega) _); have HD3 : Hid (RdI w3 w3.heap.size (some ⟨gd, 0, none⟩) 32 fixD) := (show RdI _ _ _ _ _ from by rw [hz3, ← hw3]; exact RdI.far (RdI.far hrd (p := ⟨b6, 0, none⟩) (by show gd ≠ b6; omega) _) (p := ⟨b6, 1, none⟩) (by show gd ≠ b6; omega) _); have HB3 : Hid (Below w1.heap.size w1 w3) := (show Below _ _ _ from by rw [← hw3]; exact ((HB1a.out.trans (hb2.mono (by rw [HS1a.out, hb6.out]; omega))).setCell (p := ⟨b6, 0, none⟩) (by show w1.heap.size ≤ b6; rw [hb6.out]; exact Nat.le_refl _) _).setCell (p := ⟨b6, 1, none⟩) (by show w1.heap.size ≤ b6; rw [hb6.out]; exact Nat.le_refl _) _); have hz3b : b6 < w3.heap.size := HA3.out.lt; clear hz3 ha2 hrl hrd hb2 HA6 HB1a HS1a HFIX))
    | (go_at_call 49; (with_reducible refine (HBG1.out _).mono ?_); go_must (rintro e w4 ⟨g1, p4, z4, rfl, hg1, hw4, hb4, hp4⟩; have HX4 := Lib.hid (Bx.new hw4 (.cells #[Value.pointer (some ⟨g1, 0, none⟩)] 89)); have HA4 := Lib.hid (Arr.new w4 [.pointer (some ⟨g1, 0, none⟩)] 89); have HB4 := Lib.hid (hb4.alloc hb4.size (.cells #[Value.pointer (some ⟨g1, 0, none⟩)] 89)); have HA34 := Lib.hid ((HA3.out.later hb4).alloc (.cells #[Value.pointer (some ⟨g1, 0, none⟩)] 89)); have c70 := HA34.out.cell (k := 0) rfl; have c71 := HA34.out.cell (k := 1) rfl; have HP4 := Lib.hid hp4; have hz4 := hb4.size; obtain ⟨b7, hb7⟩ : ∃ b, w4.heap.size = b := ⟨_, rfl⟩; rw [hb7] at HX4 HA4; have HTK := Lib.hid (tokens_any w3.heap.size nt ct 288 cl 32 cd g1 At (some ⟨gl, 0, none⟩) (some ⟨gd, 0, none⟩) ts fixL fixD p4 z4 (headL 1) _ (hw4.alloc (.cells #[Value.pointer (some ⟨g1, 0, none⟩)] 89)) ((RdK.more (RdK.blw HT1.out HB3.out) HB3.out.size).blw HB4.out) (HL3.out.blw HB4.out) (HD3.out.blw HB4.out) hg1 (by omega) HIN1.out fixL_ok fixD_ok (by omega) (by omega) HMX1.out); simp only [hb7]; have hb7 := Lib.hid hb7; have HW4 := Lib.hid (hw4.alloc (.cells #[Value.pointer (some ⟨g1, 0, none⟩)] 89)); clear hw4 hb4 hp4 HL3 HD3 HIN1 HMX1 HBG1))
    | (go_at_call 50; (with_reducible refine HTK.out.mono ?_); go_must (rintro e w6 ⟨rfl, p6, z6, hw6, hf6⟩; have HW6 : Hid (Wr w6 g1 p6 z6 (fixB ts)) := hw6; have HB6 := Lib.hid (HB4.out.trans (hf6.blw HW4.out hg1 HB4.out.size)); have HA46 := Lib.hid (HA4.out.wr HX4.out hf6); have HX46 := Lib.hid (HX4.out.wr hf6); have HA36 := Lib.hid (HA3.out.blw HB6.out hz3b); have hz6 := HB6.out.size; have HT6 := Lib.hid ((RdK.blw HT1.out HB3.out).blw (HB6.out.mono HB3.out.size)); have HX36 : Hid (Bx w6 g1 p6 b6) := (show Bx _ _ _ _ from ⟨by omega, by omega, fun e => by have := (World.ownsRow.lt hw6.2.1 _ e).1; omega⟩); have HDY := Lib.hid (dynamic_any w1.heap.size nt ct At ts w6 HT6.out (by rw [hb6.out]; omega) (by omega) HOK.out); clear hw6 hf6 HTK HW4 HA34 HA4 HX4 HB4 HA3 c70 c71))
    | (go_at_call 51; (with_reducible refine HDY.out.mono ?_); go_must (rintro e w7 ⟨ga, na, ca, gb, nb, cb, rfl, hga, hgb, hna, hnb, hra, hrb, hb7b⟩; have hna2 := hna.trans HN1.out; subst hna2; have hnb2 := hnb.trans HN2.out; subst hnb2; have ha7 := HA36.out.later hb7b; have c80 := ha7.cell (k := 0) rfl; have c81 := ha7.cell (k := 1) rfl; have f80 := ha7.frozen 0; have f81 := ha7.frozen 1; obtain ⟨w8, hw8⟩ : ∃ w8, (w7.setCell ⟨b6, 0, none⟩ (.slice (some ⟨ga, 0, none⟩) na ca)).setCell ⟨b6, 1, none⟩ (.slice (some ⟨gb, 0, none⟩) nb cb) = w8 := ⟨_, rfl⟩; have hz8 : w8.heap.size = w7.heap.size := (by rw [← hw8]; simp); have HA8 : Hid (Arr w8 b6 [.slice (some ⟨ga, 0, none⟩) na ca, .slice (some ⟨gb, 0, none⟩) nb cb]) := (show Arr _ _ _ from by rw [← hw8]; exact (ha7.set 0 _).set 1 _); have HL8 : Hid (RdI w8 w8.heap.size (some ⟨ga, 0, none⟩) na (dynL ts)) := (show RdI _ _ _ _ _ from by rw [hz8, ← hw8]; exact RdI.far (RdI.far hra (p := ⟨b6, 0, none⟩) (by show ga ≠ b6; omega) _) (p := ⟨b6, 1, none⟩) (by show ga ≠ b6; omega) _); have HD8 : Hid (RdI w8 w8.heap.size (some ⟨gb, 0, none⟩) nb (dynD ts)) := (show RdI _ _ _ _ _ from by rw [hz8, ← hw8]; exact RdI.far (RdI.far hrb (p := ⟨b6, 0, none⟩) (by show gb ≠ b6; omega) _) (p := ⟨b6, 1, none⟩) (by show gb ≠ b6; omega) _); have hx7 : Bx w7 g1 p6 b6 := HX36.out.wr (WrFr.of (pv := p6) hb7b); have HW8 : Hid (Wr w8 g1 p6 z6 (fixB ts)) := (show Wr _ _ _ _ _ from by rw [← hw8]; exact ((HW6.out.later hb7b).far hx7 0 _).far ⟨by rw [World.size_setCell]; exact hx7.lt, hx7.ne, hx7.nv⟩ 1 _); have HB8 : Hid (Below w1.heap.size w1 w8) := (show Below _ _ _ from by rw [← hw8]; exact (((HB3.out.trans (HB6.out.mono HB3.out.size)).trans (hb7b.mono (by rw [hb6.out]; omega))).setCell (p := ⟨b6, 0, none⟩) (by show w1.heap.size ≤ b6; rw [hb6.out]; exact Nat.le_refl _) _).setCell (p := ⟨b6, 1, none⟩) (by show w1.heap.size ≤ b6; rw [hb6.out]; exact Nat.le_refl _) _); have HA78 : Hid (Arr w8 b7 [.pointer (some ⟨g1, 0, none⟩)]) := (show Arr _ _ _ from by rw [← hw8]; exact ((HA46.out.later hb7b).far (p := ⟨b6, 0, none⟩) (by show b6 ≠ b7; rw [← hb7.out]; omega) _).far (p := ⟨b6, 1, none⟩) (by show b6 ≠ b7; rw [← hb7.out]; omega) _); have hz8b := HA8.out.lt; have hz8c := HA78.out.lt; have hz8d : w6.heap.size ≤ w8.heap.size := (by rw [hz8]; exact hb7b.size); clear hz8 ha7 hra hrb hb7b hna hnb HDY HA36 HA46 HX46 HX36 HW6 hx7))
    | (go_at_call 49; (with_reducible refine (HBG2.out _).mono ?_); go_must (rintro e w9 ⟨g2, p9, z9, rfl, hg2, hw9, hb9, hp9⟩; have HX9 := Lib.hid (Bx.new hw9 (.cells #[Value.pointer (some ⟨g2, 0, none⟩)] 89)); have HA9 := Lib.hid (Arr.new w9 [.pointer (some ⟨g2, 0, none⟩)] 89); have HB9 := Lib.hid (hb9.alloc hb9.size (.cells #[Value.pointer (some ⟨g2, 0, none⟩)] 89)); have HA89 := Lib.hid ((HA8.out.later hb9).alloc (.cells #[Value.pointer (some ⟨g2, 0, none⟩)] 89)); have c90 := HA89.out.cell (k := 0) rfl; have c91 := HA89.out.cell (k := 1) rfl; have hz9 := hb9.size; obtain ⟨b8, hb8⟩ : ∃ b, w9.heap.size = b := ⟨_, rfl⟩; rw [hb8] at HX9 HA9; have HLI := Lib.hid (lists_any w8.heap.size na ca nb cb g2 (some ⟨ga, 0, none⟩) (some ⟨gb, 0, none⟩) (dynL ts) (dynD ts) p9 z9 (headL 2) _ (hw9.alloc (.cells #[Value.pointer (some ⟨g2, 0, none⟩)] 89)) (HL8.out.blw HB9.out) (HD8.out.blw HB9.out) hg2 q2 q1 q3 q4 HLO.out HDO.out (by rw [headL_len]; omega)); have HX69 : Hid (Bx (w9.alloc (.cells #[Value.pointer (some ⟨g2, 0, none⟩)] 89)) g2 p9 b6) := (show Bx _ _ _ _ from ⟨by rw [World.size_alloc]; omega, by omega, fun e => by have := (World.ownsRow.lt hw9.2.1 _ e).1; omega⟩); simp only [hb8]; have hb8 := Lib.hid hb8; have HW9 := Lib.hid (hw9.alloc (.cells #[Value.pointer (some ⟨g2, 0, none⟩)] 89)); clear hw9 hb9 hp9 HBG2))
    | (go_at_call 52; (with_reducible refine HLI.out.mono ?_); go_must (rintro e w10 ⟨rfl, p10, z10, hw10, hf10⟩; have HA910 := Lib.hid (HA9.out.wr HX9.out hf10); have HX910 := Lib.hid (HX9.out.wr hf10); have HB10 := Lib.hid (HB9.out.trans (hf10.blw HW9.out hg2 HB9.out.size)); have ha10 := HA89.out.wr HX69.out hf10; have ca0 := ha10.cell (k := 0) rfl; have ca1 := ha10.cell (k := 1) rfl; have ca2 := HA910.out.cell (k := 0) rfl; have hz10 := HB10.out.size; have HTK2 := Lib.hid (tokens_any w8.heap.size nt ct na ca nb cb g2 At (some ⟨ga, 0, none⟩) (some ⟨gb, 0, none⟩) ts (dynL ts) (dynD ts) p10 z10 (headL 2 ++ listsB (dynL ts) (dynD ts)) _ hw10 ((RdK.more (RdK.blw HT1.out HB8.out) HB8.out.size).blw HB10.out) (HL8.out.blw HB10.out) (HD8.out.blw HB10.out) hg2 (by omega) HIN2.out HLO.out HDO.out (by omega) q3 HMX2.out); have HW10 := Lib.hid hw10; clear hw10 hf10 ha10 HLI HW9 HA89 HX69 HA9 HX9))
    | (go_at_call 50; (with_reducible refine HTK2.out.mono ?_); go_must (rintro e w12 ⟨rfl, p12, z12, hw12, hf12⟩; have HW12 : Hid (Wr w12 g2 p12 z12 (ownBits ts)) := hw12; have HB12 := Lib.hid (HB10.out.trans (hf12.blw HW10.out hg2 HB10.out.size)); have HA912 := Lib.hid (HA910.out.wr HX910.out hf12); have hz12 := HB12.out.size; have HPA := Lib.hid (plain_any B n c A bs w12 (HR.out.blw ((HB1.out.trans (HB8.out.mono hz1)).trans (HB12.out.mono (by have := HB8.out.size; omega)) |>.mono hB)) (by have := HB8.out.size; omega) hn); clear hw12 hf12 HTK2 HW10 HA910 HX910))
    | (go_at_call 53; (with_reducible refine HPA.out.mono ?_); go_must (rintro e w13 ⟨g3, p13, z13, rfl, hg3, hw13, hb13, hp13⟩; have HW13 := Lib.hid hw13; have HW2 := Lib.hid (HW12.out.later hb13); have HW1 := Lib.hid (HW8.out.later (HB12.out.trans (hb13.mono hz12))); have HB13 := Lib.hid ((HB12.out.trans (hb13.mono hz12))); have c20 := (HA78.out.later HB13.out).cell (k := 0) rfl; have c21 := (HA912.out.later hb13).cell (k := 0) rfl; clear hw13 hb13 hp13 HPA HW8 HW12)))
  generalize hw14 : w13.alloc _ = w14
  obtain ⟨b14, hb14⟩ : ∃ b, w13.heap.size = b := ⟨_, rfl⟩
  simp only [hb14]
  have HX14 : Hid (Arr w14 b14 [.pointer (some ⟨g1, 0, none⟩), .pointer (some ⟨g2, 0, none⟩)]) := (show Arr _ _ _ by rw [← hw14, ← hb14]; exact Arr.new w13 [.pointer (some ⟨g1, 0, none⟩), .pointer (some ⟨g2, 0, none⟩)] _)
  have HV1 : Hid (Wr w14 g1 p6 z6 (fixB ts)) := (show Wr _ _ _ _ _ by rw [← hw14]; exact HW1.out.alloc _)
  have HV2 : Hid (Wr w14 g2 p12 z12 (ownBits ts)) := (show Wr _ _ _ _ _ by rw [← hw14]; exact HW2.out.alloc _)
  have HV3 : Hid (Wr w14 g3 p13 z13 (bestK bs ts 0)) := (show Wr _ _ _ _ _ by rw [← hw14]; exact HW13.out.alloc _)
  have HB14 : Hid (Below w.heap.size w w14) := (show Below _ _ _ by rw [← hw14]; exact Below.alloc ((HB1.out.trans (HB8.out.mono hz1)).trans (HB13.out.mono (by have := HB8.out.size; omega))) (by have := HB8.out.size; have := HB13.out.size; omega) _)
  have cc0 := HX14.out.cell (k := 0) rfl
  have cc1 := HX14.out.cell (k := 1) rfl
  have HBK1 : Hid (bestK bs ts 1 = if (fixB ts).length < (bestK bs ts 0).length then fixB ts else bestK bs ts 0) := (show _ = _ from rfl)
  have HBK2 : Hid (bestK bs ts 2 = if (ownBits ts).length < (bestK bs ts 1).length then ownBits ts else bestK bs ts 1) := (show _ = _ from rfl)
  have HBD : Hid (bestK bs ts 2 = deflB bs ts) := (show _ = _ from rfl)
  have HBL : Hid ((bestK bs ts 2).length ≤ 400000) := (show _ ≤ _ by have h1 := bestK_len bs ts 2; have h2 := HPN.out; have h3 := HR.out.len; omega)
  clear hw14 hb14 HW1 HW2 HW13 HB1 HB8 HB13 HB12 HB10 HB6 HB3 HL8 HD8 HA8 HA78 HA912 HT1 HT6 HR HOK HIN2 HLO HDO HMX2 HLS HPN hw3 hw8 c20 c21 c80 c81 f80 f81 c60 c61 f60 f61 c90 c91 ca0 ca1 ca2 HPL
  generalize fixB ts = F1 at *
  generalize ownBits ts = F2 at *
  go_loopw [49, 9] (fun vi vb wr => ∃ k : Nat, k ≤ 2 ∧ vi = .int .i64 k ∧ wr = w14 ∧ ∃ gx px zx, vb = .pointer (some ⟨gx, 0, none⟩) ∧ Hid (Wr w14 gx px zx (bestK bs ts k))) (fun vi _ _ => 2 - (intOf vi).toNat)
  case atStart => exact ⟨0, by omega, rfl, rfl, g3, p13, z13, rfl, HV3⟩
  case round =>
    clear HV3
    obtain ⟨k, hk, rfl, rfl, gx, px, zx, rfl, HVX⟩ := hrel
    have HBX := Lib.hid (bitsN_any gx px zx _ wr HVX.out)
    by_cases hlt : k < 2
    · rcases (show k = 0 ∨ k = 1 by omega) with rfl | rfl
      · have HBF := Lib.hid (bitsN_any g1 p6 z6 _ wr HV1.out)
        by_cases hl : F1.length < (bestK bs ts 0).length
        · have hli : ((F1.length : Nat) : Int) < (((bestK bs ts 0).length : Nat) : Int) := by omega
          rw [if_pos hl] at HBK1
          have HV1' : Hid (Wr wr g1 p6 z6 (bestK bs ts 1)) := (show Wr _ _ _ _ _ by rw [HBK1.out]; exact HV1.out)
          clear HBK1
          generalize bestK bs ts 0 = X0 at *
          generalize F1.length = l1 at *
          generalize X0.length = l0 at *
          go_wp2_with (first
            | (go_at_call 54; (with_reducible refine HBF.out.mono ?_); go_must (rintro e w15 ⟨rfl, rfl⟩))
            | (go_at_call 54; (with_reducible refine HBX.out.mono ?_); go_must (rintro e w15 ⟨rfl, rfl⟩)))
          go_roundw
          case rel => exact ⟨1, by omega, rfl, trivial, g1, p6, z6, rfl, HV1'⟩
          case measure => simp [intOf]
        · have hli : ¬ ((F1.length : Nat) : Int) < (((bestK bs ts 0).length : Nat) : Int) := by omega
          rw [if_neg hl] at HBK1
          have HV1' : Hid (Wr wr gx px zx (bestK bs ts 1)) := (show Wr _ _ _ _ _ by rw [HBK1.out]; exact HVX.out)
          clear HBK1
          generalize bestK bs ts 0 = X0 at *
          generalize F1.length = l1 at *
          generalize X0.length = l0 at *
          go_wp2_with (first
            | (go_at_call 54; (with_reducible refine HBF.out.mono ?_); go_must (rintro e w15 ⟨rfl, rfl⟩))
            | (go_at_call 54; (with_reducible refine HBX.out.mono ?_); go_must (rintro e w15 ⟨rfl, rfl⟩)))
          go_roundw
          case rel => exact ⟨1, by omega, rfl, trivial, gx, px, zx, rfl, HV1'⟩
          case measure => simp [intOf]
      · have HBF := Lib.hid (bitsN_any g2 p12 z12 _ wr HV2.out)
        by_cases hl : F2.length < (bestK bs ts 1).length
        · have hli : ((F2.length : Nat) : Int) < (((bestK bs ts 1).length : Nat) : Int) := by omega
          rw [if_pos hl] at HBK2
          have HV1' : Hid (Wr wr g2 p12 z12 (bestK bs ts 2)) := (show Wr _ _ _ _ _ by rw [HBK2.out]; exact HV2.out)
          clear HBK2 HBK1
          generalize bestK bs ts 1 = X1 at *
          generalize F2.length = l1 at *
          generalize X1.length = l0 at *
          go_wp2_with (first
            | (go_at_call 54; (with_reducible refine HBF.out.mono ?_); go_must (rintro e w15 ⟨rfl, rfl⟩))
            | (go_at_call 54; (with_reducible refine HBX.out.mono ?_); go_must (rintro e w15 ⟨rfl, rfl⟩)))
          go_roundw
          case rel => exact ⟨2, by omega, rfl, trivial, g2, p12, z12, rfl, HV1'⟩
          case measure => simp [intOf]
        · have hli : ¬ ((F2.length : Nat) : Int) < (((bestK bs ts 1).length : Nat) : Int) := by omega
          rw [if_neg hl] at HBK2
          have HV1' : Hid (Wr wr gx px zx (bestK bs ts 2)) := (show Wr _ _ _ _ _ by rw [HBK2.out]; exact HVX.out)
          clear HBK2 HBK1
          generalize bestK bs ts 1 = X1 at *
          generalize F2.length = l1 at *
          generalize X1.length = l0 at *
          go_wp2_with (first
            | (go_at_call 54; (with_reducible refine HBF.out.mono ?_); go_must (rintro e w15 ⟨rfl, rfl⟩))
            | (go_at_call 54; (with_reducible refine HBX.out.mono ?_); go_must (rintro e w15 ⟨rfl, rfl⟩)))
          go_roundw
          case rel => exact ⟨2, by omega, rfl, trivial, gx, px, zx, rfl, HV1'⟩
          case measure => simp [intOf]
    · obtain rfl : k = 2 := by omega
      have HBY := Lib.hid (wbytes_any gx px zx _ wr HVX.out (by have := HBL.out; omega))
      have HWZ : Hid (WB zx (deflB bs ts)) := (show WB _ _ by rw [← HBD.out]; exact HVX.out.2.2)
      clear HBK1 HBK2
      go_wp2_with (go_at_call 55; (with_reducible refine HBY.out.mono ?_); go_must (rintro e w16 ⟨v16, rfl, ho16, hb16⟩; have HO16 := Lib.hid (ownB.mono ho16 HB14.out.size); have HB16 := Lib.hid (HB14.out.trans (hb16.mono HB14.out.size)); clear ho16 hb16))
      go_ret2
      exact ⟨v16, zx, rfl, HO16.out, HWZ.out, HB16.out⟩
end Go.Proofs.Yteoolehdomjkkaa

/- flate: a reader of blocks: bits got, bytes given out. -/
namespace Go.Proofs.Yteoolehdomjkkaa
set_option linter.all false
open Go.RowKit

/-- A reader of blocks: how far it has come, what came out, its error. -/
structure FR (w : World) (r g : Nat) (A : Option Addr) (n c P : Nat) (bs : List UInt8) (vo : Value) (out : List UInt8) (most e : Int) : Prop where
  arr : Arr w r [.pointer (some ⟨g, 0, none⟩), vo, .int .i64 most, .int .i64 e]
  rd : Arr w g (rdr A n c P)
  rb : RdB w g A n bs
  own : ownB w (r + 1) vo out
  gr : g < r
  fit : P ≤ 8 * n
  big : n ≤ 1000000
/-- What a reader changes: two blocks, its row, new blocks. -/
structure RFr (w w' : World) (r g : Nat) (pv pv' : Value) : Prop where
  os : w'.os = w.os
  tape : w'.tape = w.tape
  output : w'.output = w.output
  size : w.heap.size ≤ w'.heap.size
  block : ∀ k, k < w.heap.size → k ≠ r → k ≠ g → pv.ownBlock ≠ some k → w'.heap[k]? = w.heap[k]?
  own : pv'.ownBlock = pv.ownBlock ∨ ∃ k, w.heap.size ≤ k ∧ pv'.ownBlock = some k
section
variable {w w' w'' : World} {r g : Nat} {pv pv' pv'' : Value}
theorem RFr.refl (w : World) (r g : Nat) (pv : Value) : RFr w w r g pv pv := ⟨rfl, rfl, rfl, Nat.le_refl _, fun _ _ _ _ _ => rfl, .inl rfl⟩
theorem RFr.trans (h : RFr w w' r g pv pv') (k : RFr w' w'' r g pv' pv'') : RFr w w'' r g pv pv'' := by
  refine ⟨k.os.trans h.os, k.tape.trans h.tape, k.output.trans h.output, Nat.le_trans h.size k.size, fun i hi hr hg hp => ?_, ?_⟩
  · refine (k.block i (Nat.lt_of_lt_of_le hi h.size) hr hg ?_).trans (h.block i hi hr hg hp)
    rcases h.own with e | ⟨j, hj, e⟩
    · rw [e]; exact hp
    · rw [e]; intro e2; injection e2 with e2; omega
  · rcases k.own with e | ⟨j, hj, e⟩
    · rcases h.own with e2 | ⟨j, hj, e2⟩
      · exact .inl (e.trans e2)
      · exact .inr ⟨j, hj, e.trans e2⟩
    · exact .inr ⟨j, Nat.le_trans h.size hj, e⟩
theorem RFr.ofG (h : w.grownBy w' (some g)) (r : Nat) (pv : Value) : RFr w w' r g pv pv :=
  ⟨h.os, h.tape, h.output, h.size, fun k hk _ hg _ => h.block k hk (fun e => by injection e with e; exact hg e), .inl rfl⟩
theorem RFr.ofB (h : Below w.heap.size w w') (r g : Nat) (pv : Value) : RFr w w' r g pv pv := ⟨h.os, h.tape, h.output, h.size, fun k hk _ _ _ => h.block k hk, .inl rfl⟩
theorem RFr.drewN (h : RFr w w' r g pv pv') (q : Nat) : RFr w (w'.drewN q) r g pv pv' := ⟨h.os, h.tape, h.output, h.size, h.block, h.own⟩
theorem RFr.below {B : Nat} (h : RFr w w' r g pv pv') (hB : B ≤ w.heap.size) (hr : B ≤ r) (hg : B ≤ g) (hp : ∀ k, pv.ownBlock = some k → B ≤ k) : Below B w w' :=
  ⟨h.os, h.tape, h.output, h.size, fun k hk => h.block k (by omega) (by omega) (by omega) (fun e => by have := hp k e; omega)⟩
end
theorem FR.drewN {w : World} {r g : Nat} {A : Option Addr} {n c P : Nat} {bs : List UInt8} {vo : Value} {out : List UInt8} {most e : Int} (h : FR w r g A n c P bs vo out most e) (q : Nat) : FR (w.drewN q) r g A n c P bs vo out most e :=
  ⟨h.arr.drewN q, h.rd.drewN q, h.rb.blw ((bdrewN (Below.refl g w) q)), h.own.drewN q, h.gr, h.fit, h.big⟩
/-- The bits' reader has moved. -/
theorem FR.moved {w w' : World} {r g : Nat} {A : Option Addr} {n c P P' : Nat} {bs : List UInt8} {vo : Value} {out : List UInt8} {most e : Int} (h : FR w r g A n c P bs vo out most e) (hA : Arr w' g (rdr A n c P')) (hg : w.grownBy w' (some g)) (hf : P' ≤ 8 * n) : FR w' r g A n c P' bs vo out most e := by
  have hgr := h.gr
  refine ⟨h.arr.gro hg (by omega), hA, h.rb.blw (below_gb hg (Nat.le_of_lt h.rd.lt) (Nat.le_refl _)), World.ownsRow.kept h.own hg ?_, hgr, hf, h.big⟩
  cases e : vo.ownBlock with
  | none => exact .inl rfl
  | some k => exact .inr (fun e2 => by injection e2 with e2; have := (World.ownsRow.lt h.own k e).1; omega)
set_option maxHeartbeats 1600000 in
theorem rget_ok (r g n c P m : Nat) (A : Option Addr) (bs : List UInt8) (vo : Value) (out : List UInt8) (most : Int) (M : Int) (hM : M = (m : Int)) (w : World) (h : FR w r g A n c P bs vo out most 0) (hm : m ≤ 24) (hfit : P + m ≤ 8 * n) :
    Calls Try.prog 26 #[.pointer (some ⟨r, 0, none⟩), .int .i64 M] w fun e w' => e = .returned (.int .i64 ((getV bs P m : Nat) : Int)) ∧ FR w' r g A n c (P + m) bs vo out most 0 ∧ RFr w w' r g vo vo := by
  subst hM
  have H := Lib.hid h
  have HG := Lib.hid (get_any g g n c P m A bs w h.rd h.rb (Nat.le_refl _) (by have := h.big; omega) h.fit hm hfit)
  have c0 := h.arr.cell (k := 0) rfl
  have c3 := h.arr.cell (k := 3) rfl
  have hv := getV_lt bs P m
  have hv2 : getV bs P m < 16777216 := Nat.lt_of_lt_of_le hv (Nat.pow_le_pow_right (by decide) hm)
  clear h hv
  generalize getV bs P m = v at *
  go_enter Try.func26, Try.ntmps26
  go_wp2_with (go_at_call 56; (with_reducible refine HG.out.mono ?_); go_must (rintro e w1 ⟨rfl, ha1, hg1⟩; have HA1 := Lib.hid ha1; have HG1 := Lib.hid hg1; clear ha1 hg1))
  go_ret
  exact ⟨rfl, H.out.moved HA1.out HG1.out hfit, RFr.ofG HG1.out r vo⟩
theorem alignR_any (g n c P : Nat) (A : Option Addr) (w : World) (h : Arr w g (rdr A n c P)) (hP : P ≤ 8000000) :
    Calls Try.prog 57 #[.pointer (some ⟨g, 0, none⟩)] w fun e w' => e = .returned (.tuple #[]) ∧ Arr w' g (rdr A n c (8 * ((P + 7) / 8))) ∧ w.grownBy w' (some g) := by
  have c1 := h.cell (k := 1) rfl
  have f1 := h.frozen 1
  obtain ⟨Q, hQ⟩ : ∃ Q, (P + 7) / 8 = Q := ⟨_, rfl⟩
  rw [hQ]
  have e1 : ((P : Int) + 7).tdiv 8 = (Q : Int) := by rw [show (P : Int) + 7 = ((P + 7 : Nat) : Int) by omega, ← hQ]; rfl
  have e4 : ((P : Int) + 7) / 8 = (Q : Int) := by omega
  have e2 : (Q : Int) * 8 = ((8 * Q : Nat) : Int) := by omega
  have HA := Lib.hid (h.set 1 (.int .i64 ((8 * Q : Nat) : Int)))
  have HG := Lib.hid (gb_set (o := 1) (gb_refl w (some g)) (.int .i64 ((8 * Q : Nat) : Int)))
  have e3 : wrap64 ((Q : Int) * 8) = (Q : Int) * 8 := wrap64_id _ (by omega) (by omega)
  have hq8 : 8 * Q ≤ 8000008 := by omega
  clear h
  go_enter Try.func57, Try.ntmps57
  go_wp2_with fail
  (try simp only [Exit.inBlock, Exit.then])
  first | (refine bodyPost_ret (results_none rfl _ _ _) rfl ?_) | (refine bodyPost_end (results_none rfl _ _ _) rfl ?_)
  exact ⟨rfl, HA.out, HG.out⟩
end Go.Proofs.Yteoolehdomjkkaa
