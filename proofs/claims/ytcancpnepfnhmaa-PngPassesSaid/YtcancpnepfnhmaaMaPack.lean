/- flate and zlib: Deflate and Pack of any bytes. -/
import Derived.Test.YtcancpnepfnhmaaMaLz4
import Derived.Test.YtcancpnepfnhmaaMaBestP
import Derived.Test.YtcancpnepfnhmaaMa27
import Derived.Test.YtcancpnepfnhmaaMaNum2
import Derived.Test.YtcancpnepfnhmaaMaBigs
namespace Go.Proofs.Ytcancpnepfnhmaa
set_option linter.all false
open Go.RowKit

theorem deflate_all (B n c : Nat) (A : Option Addr) (bs : List UInt8) (w : World) (h : RdB w B A n bs) (hB : B ≤ w.heap.size) (hn : n ≤ 40000) (hcap : n ≤ c) :
    Calls Try.prog 18 #[.slice A n c] w fun e w' => ∃ v bz, e = .returned (.tuple #[v, .int .i64 0]) ∧ ownB w' w.heap.size v bz ∧ WB bz (deflB bs (findP bs)) ∧ Below w.heap.size w w' :=
  deflate_any B n c A bs (findP bs) w h hB hn (find_any B n c A bs w h hB hn hcap) (findP_ok bs).1 (by have := (findP_ok bs).2; have := h.len; omega)
theorem best_len {bs bz : List UInt8} (hw : WB bz (deflB bs (findP bs))) : bz.length ≤ bs.length + 5 := (best_le (findP_ok bs).1 hw).2
/-- append, behind a guard. -/
theorem wpList_appendBg {w : World} {ops : Array Oper} {rest : List Oper} {o : Oper} {a : Act} {Q : Exit → Act → World → Prop} (hw : Region.wanted o (yielded ops a.tmps) = true) (s x : Operand)
    (ho : o.op = .call { callee := .builtin .append, args := #[s, x], argTypes := #[22, 22] })
    (base : Nat) (v : Value) (bs : List UInt8) (hs : a.eval s = v) (hown : ownB w base v bs) (B m c : Nat) (A : Option Addr) (news : List UInt8) (hx : a.eval x = .slice A m c) (hr : RdB w B A m news)
    (hb : bs.length + m ≤ 140737488355328) (hbase : base ≤ w.heap.size)
    (h : ∀ v' w', ownB w' base v' (bs ++ news) → w.grownBy w' v.ownBlock → Below base w w' → (v'.ownBlock = v.ownBlock ∨ v'.ownBlock = some w.heap.size) → wpList Try.prog ops Q rest (a.put o.dst v') w') :
    wpList Try.prog ops Q (o :: rest) a w := by
  refine wpList_step fun K hK => ?_
  rw [if_pos hw]
  obtain ⟨v', w', hrun, h2, h3, h4, _⟩ := run_appendB w base o.type v bs hown B m c A news hr hb hbase
  unfold Oper.wp execOp
  simp only [ho, resolve, invoke, builtin, Sem.run_bind, Sem.run_pure, Result.andThen_ok, List.map_toArray, List.map_cons, List.map_nil, hs, hx, hrun]
  exact hK _ _ (h v' w' h2 h3 ((Below.refl _ _).grown h3 hbase (fun k hk => (World.ownsRow.lt hown k hk).1)) h4)
theorem adler_lt (bs : List UInt8) : adler bs < 4294967296 := by
  have h := adP_lt bs
  have e : adler bs = (adP bs).2 * 65536 + (adP bs).1 := rfl
  omega
theorem big4 {x : Nat} (h : x < 4294967296) : ∃ S, beR (x : Int) 4 = (S, 0) ∧ S.length = 4 := by
  have hk : numOk (x : Int) 4 := ⟨by omega, by omega, by omega, by show (x : Int) / 2 ^ (8 * 4) ≤ 0; omega⟩
  exact ⟨beB x 4, by unfold beR; rw [if_pos hk]; rfl, beB_len _ _⟩
/-- A frame's bytes. -/
def packL (bz S : List UInt8) : List UInt8 := [120, 156] ++ bz ++ S
set_option maxRecDepth 100000 in
set_option maxHeartbeats 3200000 in
theorem pack_any (B n c : Nat) (A : Option Addr) (bs S : List UInt8) (w : World) (h : RdB w B A n bs) (hB : B ≤ w.heap.size) (hn : n ≤ 40000) (hcap : n ≤ c) (hS : beR ((adler bs : Nat) : Int) 4 = (S, 0)) (hS4 : S.length = 4) :
    Calls Try.prog 25 #[.slice A n c] w fun e w' => ∃ v bz, e = .returned (.tuple #[v, .int .i64 0]) ∧ ownB w' w.heap.size v (packL bz S) ∧ WB bz (deflB bs (findP bs)) ∧ Below w.heap.size w w' := by
  have HD := Lib.hid (deflate_all B n c A bs w h hB hn hcap)
  have HR := Lib.hid h
  have hx := adler_lt bs
  have HAD := Lib.hid (fun w1 (h : RdB w1 B A n bs) => adler_any B n c A bs w1 h (by omega))
  have HBG := Lib.hid (fun w => big_any ((adler bs : Nat) : Int) 4 w)
  rw [hS] at HBG
  have hl := h.len
  generalize adler bs = x at *
  clear h hS
  go_enter Try.func25, Try.ntmps25
  go_wp2_with (first
    | (go_at_call 18; (with_reducible refine HD.out.mono ?_); go_must (rintro e w1 ⟨v1, bz, rfl, ho1, hz1, hb1⟩; have hbz := best_len hz1; obtain ⟨A1, c1, rfl, hr1, -, -⟩ := ho1.form; have HAD1 := Lib.hid (HAD.out w1 (HR.out.blw (hb1.mono hB))); have HR1 := Lib.hid hr1; have HB1 := Lib.hid hb1; have HZ1 := Lib.hid hz1; have hsz1 := hb1.size; clear ho1 hz1 hb1 hr1))
    | (go_at_call 27; (with_reducible refine HAD1.out.mono ?_); go_must (rintro e w2 ⟨rfl, rfl⟩))
    | (go_at_call 26; (with_reducible refine (HBG.out _).mono ?_); go_must (rintro e w3 ⟨v3, rfl, ho3, hb3⟩; obtain ⟨A3, c3, rfl, -, -, -⟩ := ho3.form; have hr3 := ownB.rd ho3; rw [hS4] at hr3; have HR3 := Lib.hid (Rd.alloc hr3 (Nat.le_refl _) (.cells #[Value.int .u8 120, Value.int .u8 156] 5)); have HR13 := Lib.hid (Rd.alloc (RdB.blw HR1.out hb3) hb3.size (.cells #[Value.int .u8 120, Value.int .u8 156] 5)); have hsz3 := hb3.size; have HB3 := Lib.hid (HB1.out.trans (hb3.mono hsz1)); have HOL := Lib.hid (own_lit w3 [120, 156] (by decide)); have hqa : w3.heap.size ≤ (w3.alloc (.cells #[Value.int .u8 120, Value.int .u8 156] 5)).heap.size := alloc_le _ _; have hqb : ([120, 156] : List UInt8).length + bz.length ≤ 140737488355328 := (by show 2 + bz.length ≤ _; omega); clear ho3 hb3 hr3))
    | (at_builtin; (refine wpList_appendB rfl (.tmp 25) (.tmp 26) rfl w3.heap.size v4 ([120, 156] ++ bz) rfl HO4.out _ 4 c3 A3 S rfl HR4.out hqc hqd ?_; intro v5 w5 ho5 hg5 hb5 ha5; have HB5 := Lib.hid (HB4.out.trans (hb5.mono (by omega))); have HO5 := Lib.hid (ownB.mono ho5 (by omega : w.heap.size ≤ w3.heap.size)); clear ho5 hg5 hb5 ha5))
    | (at_builtin; (refine wpList_appendB rfl (.tmp 23) (.tmp 24) rfl w3.heap.size (.slice (some ⟨w3.heap.size, 0, none⟩) 2 2) [120, 156] rfl HOL.out w1.heap.size bz.length c1 A1 bz rfl HR13.out hqb hqa ?_; intro v4 w4 ho4 hg4 hb4 ha4; have hz4 := hb4.size; have hqd : w3.heap.size ≤ w4.heap.size := (by omega); have hqc : (([120, 156] : List UInt8) ++ bz).length + 4 ≤ 140737488355328 := (by rw [List.length_append]; show 2 + bz.length + 4 ≤ _; omega); have HR4 := Lib.hid (Rd.below HR3.out hb4); have HB4 := Lib.hid ((HB3.out.alloc (by omega) (.cells #[Value.int .u8 120, Value.int .u8 156] 5)).trans (hb4.mono (by omega))); have HO4 := Lib.hid ho4; clear ho4 hg4 hb4 ha4)))
  go_ret2
  exact ⟨_, bz, rfl, HO5.out, HZ1.out, HB5.out⟩
end Go.Proofs.Ytcancpnepfnhmaa
