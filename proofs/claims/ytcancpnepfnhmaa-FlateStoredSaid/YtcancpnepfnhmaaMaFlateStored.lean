/- FlateStored. -/
import Derived.Test.YtcancpnepfnhmaaMa40
import Derived.Test.YtcancpnepfnhmaaMa37
import Derived.Test.YtcancpnepfnhmaaMa31
import Derived.Test.YtcancpnepfnhmaaMa10
import Derived.Deep.RegionHeld3
namespace Go.Proofs.Ytcancpnepfnhmaa
set_option linter.all false
open Go.RowKit

theorem stoAll_snoc {ls : List (List UInt8)} {i : Nat} {l : List UInt8} (h : ls[i]? = some l) : stoAll (ls.take (i + 1)) = stoAll (ls.take i) ++ stoH l.length ++ l := by
  obtain ⟨hk, hx⟩ := List.getElem?_eq_some_iff.1 h
  rw [List.take_succ_eq_append_getElem hk, hx]
  unfold stoAll stoL
  rw [List.flatMap_append, List.append_assoc]
  simp
theorem flat_snoc {ls : List (List UInt8)} {i : Nat} {l : List UInt8} (h : ls[i]? = some l) : (ls.take (i + 1)).flatten = (ls.take i).flatten ++ l := by
  obtain ⟨hk, hx⟩ := List.getElem?_eq_some_iff.1 h
  rw [List.take_succ_eq_append_getElem hk, hx, List.flatten_append]
  simp
theorem Dis.ne {a b : Value} (h : Dis a b) : b.ownBlock = none ∨ b.ownBlock ≠ a.ownBlock := by
  cases e : b.ownBlock with
  | none => exact .inl rfl
  | some k => exact .inr (fun e2 => h k e2.symm e)
theorem Dis.symm {a b : Value} (h : Dis a b) : Dis b a := fun k hk hk2 => h k hk2 hk
theorem Dis.grow {a a' b : Value} {k : Nat} (h : Dis a b) (hat : a'.ownBlock = a.ownBlock ∨ a'.ownBlock = some k) (hb : ∀ j, b.ownBlock = some j → j < k) : Dis a' b := by
  intro j hj hj2
  rcases hat with e | e
  · exact h j (e.symm.trans hj) hj2
  · rw [e] at hj
    injection hj with hj
    have := hb j hj2
    omega
theorem xor_lo (x : Nat) (h : x < 256) : 255 ^^^ x = 255 - x := by
  have : ∀ x : Fin 256, 255 ^^^ x.val = 255 - x.val := by decide +kernel
  exact this ⟨x, h⟩
theorem stoH_cells {m lo hi nlo nhi : Nat} (hm : m ≤ 500) (h1 : m % 256 = lo) (h2 : m / 256 = hi) (h3 : 255 - lo = nlo) (h4 : 255 - hi = nhi) : (cb (stoH m)).toArray = #[.int .u8 0, .int .u8 (lo : Int), .int .u8 (hi : Int), .int .u8 (nlo : Int), .int .u8 (nhi : Int)] := by
  show #[Value.int .u8 ((0 : UInt8).toNat : Int), Value.int .u8 ((UInt8.ofNat m).toNat : Int), Value.int .u8 ((UInt8.ofNat (m / 256)).toNat : Int), Value.int .u8 ((UInt8.ofNat (65535 - m)).toNat : Int), Value.int .u8 ((UInt8.ofNat ((65535 - m) / 256)).toNat : Int)] = _
  rw [lo8_nat, lo8_nat, lo8_nat, lo8_nat, h1, h2, show hi % 256 = hi by omega, show (65535 - m) % 256 = nlo by omega, show (65535 - m) / 256 % 256 = nhi by omega]
  rfl
set_option maxRecDepth 100000 in
set_option maxHeartbeats 6400000 in
theorem flateStored_walk (n c : Nat) (A : Option Addr) (ls : List (List UInt8)) (w : World) (ha : RowsB w w.heap.size A n ls) (hcap : n ≤ c) :
    Calls Try.prog 8 #[.slice A n c] w fun e w' => e = .returned (.bool true) ∧ Below w.heap.size w w' := by
  have HR := Lib.hid ha
  have hl := ha.1
  clear ha
  by_cases h1 : 20 < n
  · have h1i : (20 : Int) < (n : Int) := by omega
    go_enter Try.func8, Try.ntmps8
    go_wp2_with (go_at_call 13; (with_reducible refine (first7_any _).mono ?_); go_must (rintro e w1 ⟨rfl, hb1⟩; first | (have HB9 := Lib.hid (HB1.out.trans (hb1.mono HB1.out.size))) | (have HB1 := Lib.hid hb1); clear hb1))
    go_ret
    exact ⟨rfl, HB9.out⟩
  · have h1i : ¬ (20 : Int) < (n : Int) := by omega
    go_enter Try.func8, Try.ntmps8
    go_upto_region 7 with (go_at_call 13; (with_reducible refine (first7_any _).mono ?_); go_must (rintro e w1 ⟨rfl, hb1⟩; have HB1 := Lib.hid hb1; clear hb1))
    have HZ0 := Lib.hid (ownB.nil_ w1 w.heap.size)
    have HD0 : Hid (Dis (.slice none 0 0) (.slice none 0 0)) := (show Dis _ _ from fun k hk => by cases hk)
    have HL0 : Hid (∀ l ∈ ls.take 0, l.length ≤ 500) := (show ∀ l ∈ _, _ from fun l hl => by cases hl)
    go_loopw [3, 4, 5] (fun vz va vi wr => ∃ i : Nat, i ≤ n ∧ vi = .int .i64 i ∧ Hid (ownB wr w.heap.size vz (stoAll (ls.take i))) ∧ Hid (ownB wr w.heap.size va (ls.take i).flatten) ∧ Hid (Dis vz va) ∧ Hid (∀ l ∈ ls.take i, l.length ≤ 500) ∧ (stoAll (ls.take i)).length ≤ 505 * i ∧ (ls.take i).flatten.length ≤ 500 * i ∧ Hid (Below w.heap.size w wr)) (fun _ _ vi _ => n - (intOf vi).toNat)
    case atStart => exact ⟨0, Nat.zero_le _, rfl, (show ownB _ _ _ _ from HZ0.out), (show ownB _ _ _ _ from HZ0.out), HD0, HL0, Nat.zero_le _, Nat.zero_le _, HB1⟩
    case round =>
      clear HZ0 HD0 HL0 HB1
      obtain ⟨i, hi, rfl, HZ, HA, HD, HL, hz9, ha9, HB⟩ := hrel
      obtain ⟨Az, cz, rfl, -, -, -⟩ := HZ.out.form
      obtain ⟨Aa, ca, rfl, -, -, -⟩ := HA.out.form
      have hsr := HB.out.size
      by_cases hlt : i < n
      · have hlti : (i : Int) < (n : Int) := by omega
        obtain ⟨b, o, A', c', l, rfl, hb, hx, hc, hr, hc9⟩ := (HR.out.blw HB.out).row hlt
        by_cases h500 : 500 < l.length
        · have h500i : (500 : Int) < (l.length : Int) := by omega
          go_wp2_with (go_at_call 13; (with_reducible refine (first7_any _).mono ?_); go_must (rintro e w2 ⟨rfl, hb2⟩; have HB2 := Lib.hid (HB.out.trans (hb2.mono hsr)); clear hb2))
          go_ret
          exact ⟨rfl, HB2.out⟩
        · have h500i : ¬ (500 : Int) < (l.length : Int) := by omega
          have HSN := Lib.hid (stoAll_snoc hx)
          have HFN := Lib.hid (flat_snoc hx)
          have HRL := Lib.hid hr
          obtain ⟨m, hm⟩ : ∃ m, l.length = m := ⟨_, rfl⟩
          rw [hm] at hc hr hc9 h500i h500 HSN HRL
          obtain ⟨zs, hzs⟩ : ∃ zs, stoAll (ls.take i) = zs := ⟨_, rfl⟩
          obtain ⟨al, hal⟩ : ∃ al, (ls.take i).flatten = al := ⟨_, rfl⟩
          rw [hzs] at HZ hz9 HSN HD
          rw [hal] at HA ha9 HFN HD
          simp only [hzs, hal]
          clear hzs hal
          obtain ⟨Zn, hZn⟩ : ∃ Zn, zs.length = Zn := ⟨_, rfl⟩
          obtain ⟨an, han⟩ : ∃ an, al.length = an := ⟨_, rfl⟩
          have HZl := Lib.hid hZn
          have HAl := Lib.hid han
          rw [hZn] at HZ hz9 HD
          rw [han] at HA ha9 HD
          simp only [hZn, han]
          clear hZn han
          obtain ⟨lo, hlo⟩ : ∃ q, m % 256 = q := ⟨_, rfl⟩
          obtain ⟨hi8, hhi⟩ : ∃ q, m / 256 = q := ⟨_, rfl⟩
          obtain ⟨nlo, hnlo⟩ : ∃ q, 255 - lo = q := ⟨_, rfl⟩
          obtain ⟨nhi, hnhi⟩ : ∃ q, 255 - hi8 = q := ⟨_, rfl⟩
          have hcb := stoH_cells (m := m) (by omega) hlo hhi hnlo hnhi
          have f1 : (m : Int) % 256 = (lo : Int) := by omega
          have f2 : (m : Int) / 256 = (hi8 : Int) := by omega
          have hlo9 : lo < 256 := by omega
          have hhi9 : hi8 < 256 := by omega
          have f0 : IntKind.u8.wrap (m : Int) = (lo : Int) := by show (m : Int) % 256 = _; omega
          have f3 : IntKind.u8.wrap (hi8 : Int) = (hi8 : Int) := by show (hi8 : Int) % 256 = _; omega
          have f4 : bits .xor .u8 (if IntKind.u8.signed = true then -1 else IntKind.u8.max) (lo : Int) = (nlo : Int) := by
            have := u8_xor_nat 255 lo (by omega) hlo9
            rw [xor_lo lo hlo9, hnlo] at this
            exact this
          have f5 : bits .xor .u8 (if IntKind.u8.signed = true then -1 else IntKind.u8.max) (hi8 : Int) = (nhi : Int) := by
            have := u8_xor_nat 255 hi8 (by omega) hhi9
            rw [xor_lo hi8 hhi9, hnhi] at this
            exact this
          clear hlo hhi hnlo hnhi hlo9 hhi9
          obtain ⟨O5, hO5⟩ : ∃ O, Obj.cells #[Value.int .u8 0, Value.int .u8 (lo : Int), Value.int .u8 (hi8 : Int), Value.int .u8 (nlo : Int), Value.int .u8 (nhi : Int)] 5 = O := ⟨_, rfl⟩
          have HRZ : Hid (RdB (wr.alloc O5).drew (wr.heap.size + 1) (some ⟨wr.heap.size, 0, none⟩) 5 (stoH m)) := (show RdB _ _ _ _ _ from by
            have := rd_lit wr 5 (0, 0) (stoH m)
            rw [hcb, hO5] at this
            exact this)
          rw [← hO5] at HRZ
          have HOZ : Hid (ownB (wr.alloc O5).drew w.heap.size (.slice Az Zn cz) zs) := (show ownB _ _ _ _ from ownB.alloc HZ.out O5)
          have HOA : Hid (ownB (wr.alloc O5).drew w.heap.size (.slice Aa an ca) al) := (show ownB _ _ _ _ from ownB.alloc HA.out O5)
          have HB5 : Hid (Below w.heap.size w (wr.alloc O5).drew) := (show Below _ _ _ from Below.drew (HB.out.alloc hsr O5))
          have hc5 : (wr.alloc O5).drew.cell? ⟨b, o + i, none⟩ = some (.slice A' m c') := (World.cell?_alloc_lt wr O5 ⟨b, o + i, none⟩ (Nat.lt_of_lt_of_le hb hsr)).trans hc
          have HL5 : Hid (RdB (wr.alloc O5).drew w.heap.size A' m l) := (show RdB _ _ _ _ _ from Rd.alloc HRL.out hsr O5)
          have hs5 : w.heap.size ≤ (wr.alloc O5).drew.heap.size := Nat.le_trans hsr (alloc_le _ _)
          rw [← hO5] at HOZ HOA HB5 hc5 HL5 hs5
          have hab : zs.length + 5 ≤ 140737488355328 := by have := HZl.out; omega
          have hab2 : (zs ++ stoH m).length + m ≤ 140737488355328 := by rw [List.length_append, HZl.out]; show Zn + 5 + m ≤ _; omega
          clear hcb hO5 O5
          go_upto_region 12 with fail
          go_region_held3 (fun w' => w'.cell? ⟨b, o + i, none⟩ = some (.slice A' m c'))
            (first | (with_reducible exact hc) | (with_reducible exact hc6) | (with_reducible exact hc7) | go_keep)
            (first
            | (refine step_appendB rfl (.tmp 30) (.tmp 43) rfl w.heap.size (.slice Az Zn cz) zs rfl HOZ.out (wr.heap.size + 1) 5 5 (some ⟨wr.heap.size, 0, none⟩) (stoH m) rfl HRZ.out hab hs5 ?_; intro v6 w6 ho6 hg6 hb6 hat6; have hs6 := hb6.size; have hc6 : w6.cell? ⟨b, o + i, none⟩ = some (.slice A' m c') := (hb6.cell (p := ⟨b, o + i, none⟩) hb).trans hc5; have HO6 := Lib.hid ho6; have HA6 := Lib.hid (ownB.kept HOA.out hg6 (Dis.ne HD.out)); have HD6 := Lib.hid (Dis.grow HD.out hat6 (fun j hj => (World.ownsRow.lt HOA.out j hj).2)); have HB6 := Lib.hid (HB5.out.trans hb6); have HR6 := Lib.hid (HR.out.blw HB6.out); have HL6 : Hid (RdB w6 w.heap.size A' m l) := (show RdB _ _ _ _ _ from (RdB.blw HL5.out hb6)); have hsr6 := HB6.out.size; clear ho6 hg6 hb6 hat6)
            | (refine step_appendB rfl (.tmp 44) (.tmp 48) rfl w.heap.size v6 (zs ++ stoH m) rfl HO6.out w.heap.size m c' A' l rfl HL6.out hab2 hsr6 ?_; intro v7 w7 ho7 hg7 hb7 hat7; have hc7 : w7.cell? ⟨b, o + i, none⟩ = some (.slice A' m c') := (hb7.cell (p := ⟨b, o + i, none⟩) hb).trans hc6; have HO7 := Lib.hid ho7; have HA7 := Lib.hid (ownB.kept HA6.out hg7 (Dis.ne HD6.out)); have HD7 := Lib.hid (Dis.grow HD6.out hat7 (fun j hj => (World.ownsRow.lt HA6.out j hj).2)); have HB7 := Lib.hid (HB6.out.trans hb7); have HL7 := Lib.hid (RdB.blw HL6.out hb7); have hsr7 := HB7.out.size; clear ho7 hg7 hb7 hat7))
          all_goals
            go_simp
            have hab3 : al.length + m ≤ 140737488355328 := by rw [HAl.out]; omega
            have HZN : Hid (stoAll (ls.take (i + 1)) = zs ++ stoH m ++ l) := HSN
            have HLN : Hid (∀ y ∈ ls.take (i + 1), y.length ≤ 500) := (show ∀ y ∈ _, _ from fun y hy => by
              rw [List.take_succ_eq_append_getElem (List.getElem?_eq_some_iff.1 hx).1, (List.getElem?_eq_some_iff.1 hx).2, List.mem_append, List.mem_singleton] at hy
              rcases hy with hy | rfl
              · exact HL.out y hy
              · omega)
            have hzl : (stoAll (ls.take (i + 1))).length ≤ 505 * (i + 1) := by rw [HSN.out, List.length_append, List.length_append, HZl.out, hm]; show Zn + 5 + m ≤ _; omega
            have hfl : (ls.take (i + 1)).flatten.length ≤ 500 * (i + 1) := by rw [HFN.out, List.length_append, HAl.out, hm]; omega
            clear hx hm f0 f1 f2 f3 f4 f5
            go_wp2_with (at_builtin; (refine wpList_appendB rfl (.tmp 50) (.tmp 54) rfl w.heap.size (.slice Aa an ca) al rfl HA7.out w.heap.size m c' A' l rfl HL7.out hab3 hsr7 ?_; intro v8 w8 ho8 hg8 hb8 hat8; have HO8 := Lib.hid ho8; have HZ8 := Lib.hid (ownB.kept HO7.out hg8 (Dis.ne HD7.out.symm)); have HD8 := Lib.hid ((Dis.grow HD7.out.symm hat8 (fun j hj => (World.ownsRow.lt HO7.out j hj).2)).symm); have HB8 := Lib.hid (HB7.out.trans hb8); clear ho8 hg8 hb8 hat8))
            go_roundw
            case rel => exact ⟨i + 1, by omega, by go_num, (show ownB _ _ _ _ by rw [HSN.out]; exact HZ8.out), (show ownB _ _ _ _ by rw [HFN.out]; exact HO8.out), HD8, HLN, hzl, hfl, HB8⟩
            case measure => simp [intOf]; omega
      · obtain rfl : i = n := by omega
        have hlti : ¬ (i : Int) < (i : Int) := by omega
        have hti : ls.take i = ls := List.take_of_length_le (by omega)
        rw [hti] at HZ HA HL hz9 ha9 HD
        simp only [hti]
        obtain ⟨Zn, hZn⟩ : ∃ Zn, (stoAll ls).length = Zn := ⟨_, rfl⟩
        obtain ⟨an, han⟩ : ∃ an, ls.flatten.length = an := ⟨_, rfl⟩
        have HINF := Lib.hid (sto_infl (ls := ls) HL.out (by omega))
        have hzt : (stoAll ls ++ [3, 0]).length = Zn + 2 := by rw [List.length_append, hZn]; rfl
        rw [hzt] at HINF
        have HZT := Lib.hid hzt
        have HAl := Lib.hid han
        have HZl := Lib.hid hZn
        rw [hZn] at HZ hz9 HD
        rw [han] at HA ha9 HD
        simp only [hZn, han]
        have HA2 : Hid (ownB (wr.alloc (.cells #[Value.int .u8 3, Value.int .u8 0] 5)) w.heap.size (.slice Aa an ca) ls.flatten) := (show ownB _ _ _ _ from ownB.alloc HA.out _)
        have HZ2 : Hid (ownB (wr.alloc (.cells #[Value.int .u8 3, Value.int .u8 0] 5)) w.heap.size (.slice Az Zn cz) (stoAll ls)) := (show ownB _ _ _ _ from ownB.alloc HZ.out _)
        have HR2 := Lib.hid (rd_lit wr 5 (0, 0) [3, 0])
        have hab : (stoAll ls).length + 2 ≤ 140737488355328 := by rw [HZl.out]; omega
        have hs2 : w.heap.size ≤ (wr.alloc (.cells #[Value.int .u8 3, Value.int .u8 0] 5)).heap.size := Nat.le_trans hsr (alloc_le _ _)
        have HB2 := Lib.hid (HB.out.alloc hsr (.cells #[Value.int .u8 3, Value.int .u8 0] 5))
        clear hti hZn han hzt
        generalize hzs : stoAll ls = zs at *
        generalize hal : ls.flatten = al at *
        go_wp2_with (first
          | (at_builtin; (refine wpList_appendB rfl (.tmp 56) (.tmp 57) rfl w.heap.size (.slice Az Zn cz) zs rfl HZ2.out (wr.heap.size + 1) 2 2 (some ⟨wr.heap.size, 0, none⟩) [3, 0] rfl HR2.out hab hs2 ?_; intro v3 w3 ho3 hg3 hb3 hat3; obtain ⟨A3, c3, hv3, -, -, -⟩ := ho3.form; have hr3 := ownB.rd (hv3 ▸ ho3); rw [HZT.out] at hv3 hr3; subst hv3; have HA3 := Lib.hid (ownB.rd (ownB.kept HA2.out hg3 (Dis.ne HD.out))); have HB3 := Lib.hid (HB2.out.trans hb3); have HI3 := Lib.hid (inflate_all w3.heap.size (Zn + 2) c3 A3 (zs ++ [3, 0]) 40000 w3 hr3 (Nat.le_refl _) (by omega)); rw [HINF.out] at HI3; clear ho3 hg3 hb3 hat3 hr3))
          | (go_at_call 15; (with_reducible refine HI3.out.mono ?_); go_must (rintro e w4 ⟨v4, rfl, ho4, hb4⟩; obtain ⟨A4, c4, hv4, -, -, -⟩ := ho4.form; have hr4 := ownB.rd (hv4 ▸ ho4); rw [HAl.out] at hv4 hr4; subst hv4; have HX4 := Lib.hid hr4; have hs4 := hb4.size; have HA4 := Lib.hid (RdB.blw HA3.out hb4); have HB4 := Lib.hid (HB3.out.trans (hb4.mono HB3.out.size)); clear ho4 hb4 hr4))
          | (go_at_call 13; (with_reducible refine (first7_any _).mono ?_); go_must (rintro e w5 ⟨rfl, hb5⟩; have HX5 := RdB.blw HX4.out hb5; have HA5 := RdB.blw HA4.out (hb5.mono hs4); have HB5 := Lib.hid (HB4.out.trans (hb5.mono HB4.out.size)); have HBX := Lib.hid (bytes_any w4.heap.size an c4 w3.heap.size an ca A4 Aa al al w5 HX5 HA5); rw [beq_self_eq_true] at HBX; clear hb5 HX5 HA5))
          | (go_at_call 17; (with_reducible refine HBX.out.mono ?_); go_must (rintro e w6 ⟨rfl, rfl⟩)))
        go_ret
        exact ⟨rfl, HB5.out⟩
end Go.Proofs.Ytcancpnepfnhmaa
