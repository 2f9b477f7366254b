/- join: the bytes of a tree: there are some just where it may be. -/
import Derived.Test.YtmffmijjdpjaiaaTreeMay
import Derived.Test.YtmffmijjdpjaiaaBigs
import Derived.Deep.RegionHeld3
import Derived.Deep.RegionLaw
namespace Go.Proofs.Ytmffmijjdpjaiaa
set_option linter.all false
open Go.RowKit

theorem beR_le (n wd : Int) : (beR n wd).1.length ≤ 6 := by
  unfold beR
  by_cases h : numOk n wd
  · rw [if_pos h]
    have h2 := h.2.1
    have : (beB n.toNat wd.toNat).length = wd.toNat := by simp [beB, leB]
    show (beB n.toNat wd.toNat).length ≤ 6
    omega
  · rw [if_neg h]
    simp
theorem kBl5 {B b : Nat} {w w' : World} {a0 a1 a2 a3 a4 : Value} (h : Below B w w') (hb : b < B) (c : ∀ i, w.cell? ⟨b, i, none⟩ = r5 a0 a1 a2 a3 a4 i) : ∀ i, w'.cell? ⟨b, i, none⟩ = r5 a0 a1 a2 a3 a4 i := keptBl c h hb
theorem kDBl5 {B b : Nat} {w w' : World} {a0 a1 a2 a3 a4 : Value} (h : Below B w.drew w') (hb : b < B) (c : ∀ i, w.cell? ⟨b, i, none⟩ = r5 a0 a1 a2 a3 a4 i) : ∀ i, w'.cell? ⟨b, i, none⟩ = r5 a0 a1 a2 a3 a4 i := keptBl (w := w.drew) c h hb

set_option maxHeartbeats 800000 in
theorem number_any (base : Nat) (v : Value) (bs : List UInt8) (n wd : Int) (w : World) (hown : ownB w base v bs) (hbase : base ≤ w.heap.size) (hlen : bs.length ≤ 100000) :
    Calls Try.prog 35 #[v, .int .i64 n, .int .i64 wd] w fun e w' => ∃ v' bs', e = .returned v' ∧ ownB w' base v' bs' ∧ bs.length ≤ bs'.length ∧ bs'.length ≤ bs.length + 6 ∧ Below base w w' := by
  have hB := Below.refl w.heap.size w
  have HB := Lib.hid (fun w => big_any n wd w)
  obtain ⟨A, c, rfl, -⟩ := hown.form
  have HO := Lib.hid hown
  have hle := beR_le n wd
  generalize (beR n wd).1 = xs at HB hle
  generalize (beR n wd).2 = E at HB
  clear hown
  go_enter Try.func35, Try.ntmps35
  go_wp2_with (first
    | (go_at_call 42; (with_reducible refine (HB.out _).mono ?_); go_must (rintro e w1 ⟨v1, rfl, ho1, hb1⟩; obtain ⟨A1, c1, rfl, hr1, -⟩ := ho1.form; have HO1 := Lib.hid (HO.out.later hb1); replace hB := bstep hB hb1 (Nat.le_refl _); have hs1 := hb1.size; clear hb1 ho1))
    | (at_builtin; go_must (refine wpList_appendB rfl (.tmp 15) (.tmp 16) rfl base _ bs rfl HO1.out _ xs.length c1 A1 xs rfl hr1 (by omega) (by omega) ?_; intro v2 w2 hown2 hg hb2 hat)))
  go_ret
  exact ⟨_, _, rfl, hown2, by simp, by simp; omega, (hB.mono hbase).trans hb2⟩

set_option maxHeartbeats 1600000 in
theorem keys_any (base : Nat) (v : Value) (bs : List UInt8) (B n c : Nat) (A : Option Addr) (l : List ByteArray) (w : World) (hown : ownB w base v bs) (hbase : base ≤ w.heap.size) (hlen : bs.length ≤ 100000)
    (hr : RdT w B A n l) (hBb : B ≤ base) (hc : n ≤ c) (hm : c ≤ maxLen) (hs : shortT l) (hok : allOk l = true) (hn : n ≤ 1024) :
    Calls Try.prog 36 #[v, .slice A n c] w fun e w' => ∃ v' bs', e = .returned v' ∧ ownB w' base v' bs' ∧ bs.length ≤ bs'.length ∧ Below base w w' := by
  have hB := Below.refl base w
  have HR := Lib.hid hr
  have HL := Lib.hid hr.len
  have HS := Lib.hid hs
  have HK := Lib.hid hok
  unfold maxLen at hm
  clear hr hs hok
  go_enter Try.func36, Try.ntmps36
  go_wp2_with fail
  go_loopw [0, 11] (fun q i wr => ∃ (k : Nat) (out : List UInt8), k ≤ n ∧ i = .int .i64 k ∧ Hid (ownB wr base q out) ∧ bs.length ≤ out.length ∧ out.length ≤ bs.length + 32 * k ∧ Below base w wr) (fun _ i _ => n - (intOf i).toNat)
  case atStart => exact ⟨0, bs, Nat.zero_le _, rfl, hown, Nat.le_refl _, by omega, hB⟩
  case round =>
    clear hB hown
    obtain ⟨k, out, hk, rfl, HO, h1, h2, hB⟩ := hrel
    have hbs := hB.size
    by_cases hlt : k < n
    · obtain ⟨b, o, x, rfl, hb, HX, hcell⟩ := (HR.out.blw (hB.mono hBb)).one hlt
      have hx : keyOk x = true := by
        have := HK.out
        unfold allOk at this
        rw [List.all_eq_true] at this
        obtain ⟨q1, q2⟩ := List.getElem?_eq_some_iff.1 HX.out
        exact this x (by rw [← q2]; exact List.getElem_mem _)
      obtain ⟨r, hr1, hr2⟩ : ∃ r, unhexL x.data.toList = some r ∧ r.length = 32 := by
        unfold keyOk at hx
        cases e : unhexL x.data.toList with
        | none => rw [e] at hx; cases hx
        | some r => rw [e] at hx; exact ⟨r, rfl, by simpa using hx⟩
      have HU := Lib.hid (fun w => unhex_some x r w (HS.out.at_ HX.out) hr1)
      have HR2 := Lib.hid hr2
      clear hx hr1 hr2 HX
      obtain ⟨A0, c0, rfl, -⟩ := HO.out.form
      go_wp2_with (first
        | (go_at_call 43; (with_reducible refine (HU.out _).mono ?_); go_must (rintro e w1 ⟨A1, c1, rfl, ho1, hb1⟩; rw [HR2.out] at ho1 ⊢; have HR1 := Lib.hid ho1.rd; have HO1 := Lib.hid (HO.out.later hb1); replace hB := hB.trans (hb1.mono (Nat.le_trans hbase hbs)); have hs1 := hb1.size; clear hb1 ho1))
        | (at_builtin; go_must (refine wpList_appendB rfl (.tmp 20) (.tmp 21) rfl base _ out rfl HO1.out _ 32 c1 A1 r rfl HR1.out (by omega) (by omega) ?_; intro v2 w2 hown2 hg hb2 hat; replace hB := hB.trans hb2; clear hg hb2 hat; have HO2 := Lib.hid hown2; clear hown2)))
      go_roundw
      case rel => exact ⟨k + 1, _, by omega, by go_num, HO2, by simp; omega, by simp; have := HR2.out; omega, hB⟩
      case measure => simp [intOf]; omega
    · obtain rfl : k = n := by omega
      go_wp2_with fail
      go_ret
      exact ⟨_, _, rfl, HO.out, h1, hB⟩

theorem treeBytes_no (s : Sh) (B n c : Nat) (A : Option Addr) (l : List ByteArray) (w : World) (hr : RdT w B A n l) (hB1 : B ≤ w.heap.size) (hc : n ≤ c) (hm : c ≤ maxLen) (hs : shortT l) (hv : mayT s l = false) :
    Calls Try.prog 30 #[s.r A n c] w fun e w' => e = .returned (.slice none 0 0) ∧ Below w.heap.size w w' := by
  have hB := Below.refl w.heap.size w
  have HM := Lib.hid (fun (w' : World) (hb : Below w.heap.size w w') => treeMay_any s B n c A l w' (hr.blw (hb.mono hB1)) (Nat.le_trans hB1 hb.size) hc hm hs)
  have HV := Lib.hid hv
  clear hv hr hs hm
  dsimp only [Sh.r] at *
  go_enter Try.func30, Try.ntmps30
  go_wp2_with (go_at_call 34; (with_reducible refine (HM.out _ (hB.alloc hB.size _)).mono ?_); go_must (rintro e w1 ⟨rfl, hb1⟩; rw [HV.out]; have cb := box5 hb1; replace hB := bxd hb1; clear hb1))
  go_ret
  exact ⟨rfl, hB⟩

set_option maxHeartbeats 3200000 in
theorem treeBytes_ok (s : Sh) (B n c : Nat) (A : Option Addr) (l : List ByteArray) (w : World) (hr : RdT w B A n l) (hB1 : B ≤ w.heap.size) (hc : n ≤ c) (hm : c ≤ maxLen) (hs : shortT l) (hv : mayT s l = true) :
    Calls Try.prog 30 #[s.r A n c] w fun e w' => ∃ A' n' c', e = .returned (.slice A' n' c') ∧ 0 < n' ∧ Below w.heap.size w w' := by
  have hB := Below.refl w.heap.size w
  have HM := Lib.hid (fun (w' : World) (hb : Below w.heap.size w w') => treeMay_any s B n c A l w' (hr.blw (hb.mono hB1)) (Nat.le_trans hB1 hb.size) hc hm hs)
  have HV := Lib.hid hv
  obtain ⟨n1, n2, -, hok⟩ := mayT_len hv
  have HL := hr.len
  have HKY := Lib.hid (fun (w' : World) (hb : Below w.heap.size w w') (v : Value) (bs : List UInt8) (ho : ownB w' (w.heap.size + 1) v bs) (hlen : bs.length ≤ 100000) (hz : w.heap.size + 1 ≤ w'.heap.size) => keys_any (w.heap.size + 1) v bs B n c A l w' ho hz hlen (hr.blw (hb.mono hB1)) (by omega) hc hm hs hok (by omega))
  clear hv hr hs hm hok
  dsimp only [Sh.r] at *
  go_enter Try.func30, Try.ntmps30
  go_upto_region 3 with (go_at_call 34; (with_reducible refine (HM.out _ (hB.alloc hB.size _)).mono ?_); go_must (rintro e w1 ⟨rfl, hb1⟩; rw [HV.out]; have cb := box5 hb1; replace hB := bxd hb1; clear hb1))
  have hz1 : w.heap.size < w1.heap.size := ltOf cb rfl
  go_cut [3] (fun q wc => ∃ (A3 : Option Addr) (c3 : Nat) (b3 : List UInt8), q = .slice A3 b3.length c3 ∧ Hid (ownB wc (w.heap.size + 1) (.slice A3 b3.length c3) b3) ∧ 1 ≤ b3.length ∧ b3.length ≤ 13 ∧ (∀ i, wc.cell? ⟨w.heap.size, i, none⟩ = r5 (.int .i64 s.w) (.int .i64 s.h) (.int .i64 s.c) (.int .i64 s.d) (.slice A n c) i) ∧ Below w.heap.size w wc)
  case first =>
    have hlit : ownB (w1.alloc (.cells #[.int .u8 2] 5)) (w.heap.size + 1) (.slice (some ⟨w1.heap.size, 0, none⟩) 1 1) [2] := (own_lit w1 [2] (by simp)).mono (by omega)
    have HLIT := Lib.hid hlit
    clear hlit
    go_region_held3 (fun w' => ∀ i, w'.cell? ⟨w.heap.size, i, none⟩ = r5 (.int .i64 s.w) (.int .i64 s.h) (.int .i64 s.c) (.int .i64 s.d) (.slice A n c) i)
      (first | (with_reducible exact cb) | (repeat (first | with_reducible exact cb | (with_reducible refine kD5 ?_) | (with_reducible refine kA5 ?_ _) | ((with_reducible refine kDBl5 hb3 ?_ ?_); omega) | ((with_reducible refine kBl5 hb3 ?_ ?_); omega) | ((with_reducible refine kDBl5 hb4 ?_ ?_); omega) | ((with_reducible refine kBl5 hb4 ?_ ?_); omega) | ((with_reducible refine kDBl5 hb5 ?_ ?_); omega) | ((with_reducible refine kBl5 hb5 ?_ ?_); omega))))
      (first
        | (go_at_call 35; (with_reducible refine (number_any (w.heap.size + 1) _ _ _ _ _ HO3.out (by first | omega | (simp; omega)) (by omega)).mono ?_); go_must (rintro e w4 ⟨v4, b4, rfl, ho4, q3, q4, hb4⟩))
        | (go_at_call 35; (first | (with_reducible refine (number_any (w.heap.size + 1) _ [2] _ _ _ HLIT.out (by simp; omega) (by simp)).mono ?_) | (with_reducible refine (number_any (w.heap.size + 1) _ [2] _ _ _ (ownB.drew HLIT.out) (by simp; omega) (by simp)).mono ?_)); go_must (rintro e w3 ⟨v3, b3, rfl, ho3, q1, q2, hb3⟩; have HO3 := Lib.hid ho3; simp only [List.length_cons, List.length_nil, Nat.zero_add] at q1 q2; have z3 := hb3.size; simp only [World.size_alloc, World.size_drew] at z3; clear ho3)))
    all_goals
      go_wp2_with fail
      go_meet
      case rel =>
        obtain ⟨A4, c4, rfl, -⟩ := ho4.form
        refine ⟨A4, c4, b4, rfl, ho4, ?_, ?_, ?_, ?_⟩
        · omega
        · omega
        · (first | (with_reducible exact cb) | (repeat (first | with_reducible exact cb | (with_reducible refine kD5 ?_) | (with_reducible refine kA5 ?_ _) | ((with_reducible refine kDBl5 hb3 ?_ ?_); omega) | ((with_reducible refine kBl5 hb3 ?_ ?_); omega) | ((with_reducible refine kDBl5 hb4 ?_ ?_); omega) | ((with_reducible refine kBl5 hb4 ?_ ?_); omega) | ((with_reducible refine kDBl5 hb5 ?_ ?_); omega) | ((with_reducible refine kBl5 hb5 ?_ ?_); omega))))
        · have hB3 : Below w.heap.size w w3 := (by first | exact (hB.alloc hB.size _).trans (hb3.mono (Nat.le_succ _)) | exact (Below.drew (hB.alloc hB.size _)).trans (hb3.mono (Nat.le_succ _)))
          exact hB3.trans (hb4.mono (Nat.le_succ _))
  case rest =>
    clear cb hB hz1
    obtain ⟨A3, c3, b3, rfl, HO3, q1, q2, cb, hB⟩ := hcut
    have hz1 : w.heap.size < wc.heap.size := ltOf cb rfl
    have HC : Hid (s.c % 256 = ((UInt8.ofNat (s.c % 256).toNat).toNat : Int)) := (show _ = _ by rw [UInt8.toNat_ofNat']; omega)
    have HD : Hid (s.d % 256 = ((UInt8.ofNat (s.d % 256).toNat).toNat : Int)) := (show _ = _ by rw [UInt8.toNat_ofNat']; omega)
    go_upto_region 4 with (fail)
    go_region_held3 (fun w' => ∀ i, w'.cell? ⟨w.heap.size, i, none⟩ = r5 (.int .i64 s.w) (.int .i64 s.h) (.int .i64 s.c) (.int .i64 s.d) (.slice A n c) i)
      (first | (with_reducible exact cb) | (repeat (first | with_reducible exact cb | (with_reducible refine kD5 ?_) | (with_reducible refine kA5 ?_ _) | ((with_reducible refine kDBl5 hb3 ?_ ?_); omega) | ((with_reducible refine kBl5 hb3 ?_ ?_); omega) | ((with_reducible refine kDBl5 hb4 ?_ ?_); omega) | ((with_reducible refine kBl5 hb4 ?_ ?_); omega) | ((with_reducible refine kDBl5 hb5 ?_ ?_); omega) | ((with_reducible refine kBl5 hb5 ?_ ?_); omega))))
      (first
        | (go_at_call 36; (with_reducible refine (HKY.out _ hB4 _ _ ho4 (by simp; omega) (by omega)).mono ?_); go_must (rintro e w5 ⟨v5, b5, rfl, ho5, q5, hb5⟩))
        | (refine step_appendB rfl (.tmp 16) (.tmp 25) rfl (w.heap.size + 1) _ b3 rfl (ownB.drew (ownB.alloc HO3.out _)) _ 2 2 _ [UInt8.ofNat (s.c % 256).toNat, UInt8.ofNat (s.d % 256).toNat] rfl (RdB.drew (rd_two _ _ _ _ _ HC.out HD.out)) (by omega) (by simp; omega) ?_; intro v4 w4 ho4 hg4 hb4 hat4; have hB4 : Below w.heap.size w w4 := (Below.drew (hB.alloc hB.size _)).trans (hb4.mono (Nat.le_succ _)); have z4 := hb4.size; simp only [World.size_alloc, World.size_drew] at z4))
    all_goals
      go_wp2_with fail
      obtain ⟨A5, c5, rfl, -⟩ := ho5.form
      go_ret
      exact ⟨_, _, _, rfl, by simp at q5; omega, hB4.trans (hb5.mono (Nat.le_succ _))⟩

end Go.Proofs.Ytmffmijjdpjaiaa
