/- pix: a number set. -/
import Derived.Test.YtcgpeijmmongoaaPix5
import Derived.Test.YtcgpeijmmongoaaBox
namespace Go.Proofs.Ytcgpeijmmongoaa
set_option linter.all false
open Go.RowKit

theorem cb_splice (bs : List UInt8) (p : Nat) (l : List UInt8) : cb (splice bs p l) = splice (cb bs) p (cb l) := by
  simp [cb, splice, List.map_take, List.map_drop]
theorem splice_len {bs : List UInt8} {p : Nat} {l : List UInt8} (h : p + l.length ≤ bs.length) : (splice bs p l).length = bs.length := length_splice _ _ _ h

theorem wpList_copyB {w : World} {ops : Array Oper} {rest : List Oper} {o : Oper} {a : Act} {Q : Exit → Act → World → Prop} (hgd : o.guard = none) (d s : Operand)
    (ho : o.op = .call { callee := .builtin .copy, args := #[d, s], argTypes := #[31, 31] })
    (base g n c : Nat) (bs : List UInt8) (hown : ownB w base (.slice (some ⟨g, 0, none⟩) n c) bs) (hn : n = bs.length) (p dl dc : Nat) (hd : a.eval d = .slice (some ⟨g, p, none⟩) dl dc)
    (B m sc : Nat) (A : Option Addr) (news : List UInt8) (hs : a.eval s = .slice A m sc) (hr : RdB w B A m news) (hml : m ≤ dl) (hfit : p + m ≤ n)
    (h : ∀ w', ownB w' base (.slice (some ⟨g, 0, none⟩) n c) (splice bs p news) → Below base w w' → wpList Try.prog ops Q rest (a.put o.dst (.int .i64 (m : Int))) w') :
    wpList Try.prog ops Q (o :: rest) a w := by
  have hm := hr.len
  subst hn
  rcases hown.2 with ⟨hv, h0⟩ | ⟨g', cap, cur, hv, hbg, hgg, h1, h2, h3, h4⟩
  · cases hv
  · injection hv with e1 e2 e3
    injection e1 with e1
    injection e1 with e1
    subst e1 e3
    rw [Nat.mul_one] at h3 h4
    have hcl : cur.toList.length = cur.size := by simp
    refine wpList_copy_splice hgd d s 31 31 ho 5 Try.underlying31 (by kernel_rfl) _ A dl dc m sc hd hs g p cur.toList 5 (by simpa using hgg) (cb news) (by rw [cb_length, hm]; exact (Nat.min_eq_left hml).symm) ?_ (by rw [cb_length, hm]; omega) (cb_one _) base w (Below.refl _ _) hbg ?_
    · intro hpos
      refine ⟨rfl, ?_⟩
      obtain ⟨b, o', e, _, hc⟩ := hr.2 (by rw [cb_length] at hpos; omega)
      exact ⟨_, e, fun j v hj => by rw [add_none]; exact hc j v hj⟩
    · intro w' hg' hb'
      have hlen : (cb news).length = m := by rw [cb_length, hm]
      rw [hlen]
      refine h w' ?_ hb'
      refine ⟨by rw [cb_length, splice_len (by omega)]; omega, .inr ⟨g, c, (splice cur.toList p (cb news)).toArray, ?_, hbg, hg', by rw [splice_len (by omega)]; exact h1, h2, ?_, ?_⟩⟩
      · rw [splice_len (by omega)]
      · rw [List.size_toArray, length_splice _ _ _ (by rw [hlen]; omega)]
        simpa using h3
      · rw [Nat.mul_one, splice_len (by omega), cb_splice, ← h4]
        unfold splice
        rw [List.take_append, List.length_take, hlen, Nat.min_eq_left (by omega), List.take_append, hlen, List.take_take, List.take_take, List.drop_take]
        rw [List.take_of_length_le (l := cb news) (by rw [hlen]; omega)]
        rw [Nat.min_eq_right (by omega), Nat.min_eq_left (by omega)]
        congr 3
        omega

/-- A picture with a number set, or why not. -/
def Sh.setE (s : Sh) (n : Nat) (x y c v : Int) : Int := if (s.place n x y c).2 = 0 then (beR v (s.d / 8)).2 else (s.place n x y c).2
def Sh.setR (s : Sh) (bs : List UInt8) (x y c v : Int) : Sh × List UInt8 :=
  if s.setE bs.length x y c v = 0 then (s, splice bs (s.place bs.length x y c).1.toNat (beR v (s.d / 8)).1) else (⟨0, 0, 0, 0⟩, [])

theorem beR_len {v wd : Int} (h : (beR v wd).2 = 0) : ((beR v wd).1.length : Int) = wd := by
  unfold beR at h ⊢
  split at h
  · rename_i hn
    rw [if_pos hn]
    show ((beB v.toNat wd.toNat).length : Int) = wd
    rw [beB_len]
    unfold numOk at hn
    omega
  · cases h

set_option maxRecDepth 100000 in
set_option maxHeartbeats 3200000 in
theorem set_ok (s : Sh) (B : Nat) (A : Option Addr) (n cc : Nat) (bs : List UInt8) (x y c v : Int) (w : World) (h : RdB w B A n bs) (hBw : B ≤ w.heap.size) (he : s.setE n x y c v = 0) :
    Calls Try.prog 49 #[s.r A n cc, .int .i64 x, .int .i64 y, .int .i64 c, .int .i64 v] w fun e w' =>
      ∃ A1 n1 c1, e = .returned (.tuple #[s.r A1 n1 c1, .int .i64 0]) ∧ ownB w' w.heap.size (.slice A1 n1 c1) (splice bs (s.place n x y c).1.toNat (beR v (s.d / 8)).1) ∧ Below w.heap.size w w' := by
  have hB := Below.refl w.heap.size w
  have hl := h.len
  have he0 : (s.place n x y c).2 = 0 := by unfold Sh.setE at he; split at he <;> assumption
  have he1 : (beR v (s.d / 8)).2 = 0 := by unfold Sh.setE at he; rwa [if_pos he0] at he
  obtain ⟨hm, -, p0, p1, p2, hd⟩ := Sh.place_ok he0
  have hlb := beR_len he1
  obtain ⟨p, hp⟩ := Int.eq_ofNat_of_zero_le p0
  have HP := Lib.hid (show s.place n x y c = ((p : Int), 0) from Prod.ext hp he0)
  rw [HP.out] at p1 ⊢
  have HB := Lib.hid (fun w => big_any v (s.d / 8) w)
  have HV := Lib.hid (fun w => place_any s A n cc x y c w)
  rw [HP.out] at HV
  rw [he1] at HB
  show Calls _ _ _ _ (fun e w' => ∃ A1 n1 c1, e = .returned (.tuple #[s.r A1 n1 c1, .int .i64 0]) ∧ ownB w' w.heap.size (.slice A1 n1 c1) (splice bs p (beR v (s.d / 8)).1) ∧ Below w.heap.size w w')
  generalize (beR v (s.d / 8)).1 = X at HB hlb ⊢
  have e8 : s.d.tdiv 8 = s.d / 8 := Int.tdiv_eq_ediv_of_nonneg (by omega)
  have hpn : p + X.length ≤ n ∧ 1 ≤ X.length := by rcases hd with e | e <;> rw [e] at p1 hlb <;> dsimp only at p1 <;> omega
  have HN := Lib.hid hl
  have HX := Lib.hid (rfl : X.length = X.length)
  have HC := Lib.hid (fun (w' : World) (hb : Below w.heap.size w w') => cloneB_any w.heap.size n cc A bs w' ((h.blw (hb.mono hBw)).more hBw) (by omega))
  clear hm hl he he0 he1 hp p0 p1 HP h hlb
  obtain ⟨W, H, C, D⟩ := s
  dsimp only [Sh.r] at e8 hd HB HV ⊢
  generalize hD8 : D / 8 = d8 at HB e8
  have hd8 : 0 ≤ d8 ∧ d8 ≤ 2 := by omega
  clear hD8 hd
  go_enter Try.func49, Try.ntmps49
  obtain ⟨hpn1, hpn2⟩ := hpn
  have hpl : p ≤ n := by omega
  have hplt : p < n := by omega
  go_wp2_with (first
    | (go_at_call 62; (with_reducible refine (HV.out _).mono ?_); go_must (rintro e w1 ⟨rfl, hb1⟩; have rr := box5 hb1; rw [World.size_alloc] at rr; have ff := boxF hb1; rw [World.size_alloc] at ff; replace hb1 := bxd hb1; have cc1 := box5 hb1; have fc := boxF hb1; replace hB := bxd hb1; clear hb1))
    | (go_at_call 67; (with_reducible refine (HB.out _).mono ?_); go_must (rintro e w2 ⟨v2, rfl, hx, hb1⟩; replace hx := hx.mono (base' := w.heap.size + 2) (ltOf rr rfl); replace ff := keptF (ltOf rr rfl) ff hb1; replace fc := keptF (ltOf cc1 rfl) fc hb1; replace rr := kept rr rfl hb1; replace cc1 := kept cc1 rfl hb1; replace hB := bstep hB hb1 (Nat.le_refl _); clear hb1; obtain ⟨Ax, cx, rfl, _, _, _⟩ := hx.form))
    | (go_at_call 65; (with_reducible refine (HC.out _ hB).mono ?_); go_must (rintro e w3 ⟨v3, rfl, hy, hb1⟩; replace hy := hy.mono (base' := w.heap.size + 2) (ltOf rr rfl); replace hx := hx.later hb1; replace ff := keptF (ltOf rr rfl) ff hb1; replace fc := keptF (ltOf cc1 rfl) fc hb1; replace rr := kept rr rfl hb1; replace cc1 := kept cc1 rfl hb1; replace hB := bstep hB hb1 (Nat.le_refl _); clear hb1; obtain ⟨A3, c3, rfl, r3, l3, m3⟩ := hy.form; rw [HN.out] at hy l3 ⊢; obtain ⟨-, g, rfl, hg1, hg2⟩ := hy.pos (by omega); have hcp : ¬ c3 = p := (by omega); clear r3; unfold maxLen at m3))
    | (with_reducible refine wpList_copyB rfl (.tmp 47) (.tmp 48) rfl (w.heap.size + 2) g n c3 bs (hy.far (ownB_ne hy (g := w.heap.size) (by omega)) _ _) HN.out.symm p _ _ rfl _ _ _ _ X rfl (ownB.rd (hx.far (ownB_ne hx (g := w.heap.size) (by omega)) _ _)) (by omega) hpn1 ?_))
  intro w4 hz hb4
  have cc2 := keptBl (setR cc1 rfl (.slice (some ⟨g, 0, none⟩) n c3) (r5_set4 _ _ _ _ _ _)) hb4 (show w.heap.size < w.heap.size + 2 by omega)
  replace rr := keptBl (keptS rr (p := ⟨w.heap.size, 4, none⟩) (by simp) (.slice (some ⟨g, 0, none⟩) n c3)) hb4 (show w.heap.size + 1 < w.heap.size + 2 by omega)
  replace ff := fun i => (hb4.frozen (p := ⟨w.heap.size + 1, i, none⟩) (show w.heap.size + 1 < w.heap.size + 2 by omega)).trans (keptFS ff ⟨w.heap.size, 4, none⟩ (.slice (some ⟨g, 0, none⟩) n c3) i)
  replace hB := (hB.setCell (p := ⟨w.heap.size, 4, none⟩) (Nat.le_refl _) (.slice (some ⟨g, 0, none⟩) n c3)).trans (hb4.mono (by omega))
  clear hx hy cc1 fc hb4
  go_wp2
  refine bodyPost_ret (v := .tuple #[.agg #[.int .i64 W, .int .i64 H, .int .i64 C, .int .i64 D, .slice (some ⟨g, 0, none⟩) n c3], .int .i64 0]) ?_ rfl ?_
  · unfold results
    go_simp
  · exact ⟨_, _, _, rfl, (hz.far5 (ownB_ne hz (g := w.heap.size + 1) (by omega)) _ _ _ _ _).mono (by omega), Below.set5 hB (Nat.le_succ _) _ _ _ _ _⟩

end Go.Proofs.Ytcgpeijmmongoaa
