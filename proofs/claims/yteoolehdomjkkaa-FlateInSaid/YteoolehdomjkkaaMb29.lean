/- Merged: Blk5, Sto5, Rd9, Rd10. -/
import Derived.Deep.RegionHeld3
import Derived.Test.YteoolehdomjkkaaMb27
import Derived.Test.YteoolehdomjkkaaMb28
import Derived.Test.YteoolehdomjkkaaMb16
import Derived.Test.YteoolehdomjkkaaMb20
import Derived.Test.YteoolehdomjkkaaMb24
/- flate: the document's tokens written. -/
namespace Go.Proofs.Yteoolehdomjkkaa
set_option linter.all false
open Go.RowKit

theorem RWr.alloc {w : World} {g : Nat} {pv : Value} {L : List Nat} (h : RWr w g pv L) (o : Obj) : RWr (w.alloc o) g pv L := ⟨h.1.alloc o, h.2.1.alloc o, h.2.2⟩
theorem RWr.drew {w : World} {g : Nat} {pv : Value} {L : List Nat} (h : RWr w g pv L) : RWr w.drew g pv L := h.drewN 1
theorem RWr.later {w w' : World} {g : Nat} {pv : Value} {L : List Nat} (h : RWr w g pv L) (hb : Below w.heap.size w w') : RWr w' g pv L := ⟨h.1.later hb, h.2.1.later hb, h.2.2⟩
theorem Bx.newR {w : World} {g : Nat} {pv : Value} {L : List Nat} (h : RWr w g pv L) (o : Obj) : Bx (w.alloc o) g pv w.heap.size := by
  refine ⟨by simp, ?_, fun e => ?_⟩
  · have := h.1.lt; omega
  · have := (World.ownsRow.lt h.2.1 _ e).2; omega
theorem Bx.ofR {w w' : World} {g b : Nat} {pv : Value} {L : List Nat} (h : RWr w g pv L) (hb : w.heap.size ≤ b) (hlt : b < w'.heap.size) : Bx w' g pv b := by
  refine ⟨hlt, ?_, fun e => ?_⟩
  · have := h.1.lt; omega
  · have := (World.ownsRow.lt h.2.1 _ e).2; omega
theorem CodeCells.ofD {w : World} {base g1 n c : Nat} {ls : List Int} (h : ownD w base (.slice (some ⟨g1, 0, none⟩) n c) (codesL ls)) (hn : n = ls.length) : CodeCells w g1 ls := by
  intro p hp
  have hp' : p < (codesL ls).length := by rw [codesL_len]; exact hp
  have := ownD.cell h (by rw [codesL_len]; exact hn) (k := p) hp'
  rw [codesL_get hp'] at this
  exact this
theorem codes5_ok (B n c : Nat) (A : Option Addr) (ls : List Int) (w : World) (h : RdI w B A n ls) (hB : B ≤ w.heap.size) (hn : 1 ≤ n) (hok : CodesOK ls) :
    Calls Try.prog 96 #[.slice A n c] w fun e w' => ∃ g c', e = .returned (.tuple #[.slice (some ⟨g, 0, none⟩) n c', .int .i64 0]) ∧ w.heap.size ≤ g ∧ g < w'.heap.size ∧ CodeCells w' g ls ∧ Below w.heap.size w w' := by
  have hl := h.len
  refine (codes5_any B n c A ls w h hB (by have := hok.1; omega)).mono ?_
  rintro e w' ⟨A', n', c', rfl, hn', ho, hb⟩
  rw [hok.cd.2] at ho hn'
  rw [codesL_len, hl] at hn'
  subst hn'
  obtain ⟨_, g, rfl, hg, hg2⟩ := ho.pos (by omega)
  exact ⟨g, c', by rw [hok.cd.1], hg, hg2, CodeCells.ofD ho hl.symm, hb⟩
end Go.Proofs.Yteoolehdomjkkaa

/- flate: the document's fixed lengths; a stored block; lengths cut. -/
namespace Go.Proofs.Yteoolehdomjkkaa
set_option linter.all false
open Go.RowKit

/-- A list's first k, behind them 0. -/
def fillI (l : List Int) (k : Nat) : List Int := l.take k ++ List.replicate (l.length - k) 0
theorem fillI_len (l : List Int) (k : Nat) (h : k ≤ l.length) : (fillI l k).length = l.length := by unfold fillI; rw [List.length_append, List.length_take, List.length_replicate]; omega
theorem fillI_zero (l : List Int) : fillI l 0 = List.replicate l.length 0 := by unfold fillI; simp
theorem fillI_all (l : List Int) : fillI l l.length = l := by unfold fillI; simp
theorem fillI_set {l : List Int} {k : Nat} {x : Int} (h : l[k]? = some x) : (fillI l k).set k x = fillI l (k + 1) := by
  obtain ⟨hk, hx⟩ := List.getElem?_eq_some_iff.1 h
  unfold fillI
  have e1 : l.length - k = (l.length - (k + 1)) + 1 := by omega
  have e2 : (l.take k).length = k := by rw [List.length_take]; omega
  rw [e1, List.replicate_succ, List.set_append, if_neg (by omega), e2, Nat.sub_self, List.set_cons_zero, List.take_succ_eq_append_getElem hk, hx, List.append_assoc]
  rfl
theorem order5_any (w : World) : Calls Try.prog 70 #[] w fun e w' => e = .returned (.slice (some ⟨w.heap.size, 0, none⟩) 19 19) ∧ ownI w' w.heap.size (.slice (some ⟨w.heap.size, 0, none⟩) 19 19) (ordL.map fun (x : Nat) => (x : Int)) ∧ Below w.heap.size w w' := by
  have HO := Lib.hid (own_litI w [16, 17, 18, 0, 8, 7, 9, 6, 10, 5, 11, 4, 12, 3, 13, 2, 14, 1, 15] (by decide))
  go_enter Try.func70, Try.ntmps70
  go_wp2_with fail
  go_ret
  exact ⟨rfl, HO.out, (Below.refl _ _).alloc (Nat.le_refl _) _⟩
set_option maxRecDepth 100000 in
set_option maxHeartbeats 3200000 in
theorem fixed5L_any (w : World) : Calls Try.prog 34 #[] w fun e w' => ∃ ga gb, e = .returned (.tuple #[.slice (some ⟨ga, 0, none⟩) 288 288, .slice (some ⟨gb, 0, none⟩) 32 32]) ∧ RdI w' w'.heap.size (some ⟨ga, 0, none⟩) 288 fixL ∧ RdI w' w'.heap.size (some ⟨gb, 0, none⟩) 32 fixD ∧ Below w.heap.size w w' := by
  have hm1 : ∀ w, (Instr.makeSlice 67 (.int .i64 288) (.int .i64 288)).run Try.prog w = .ok (.slice (some ⟨w.heap.size, 0, none⟩) 288 288) (w.alloc (zeroI 288)) := fun w => run_makeI w 288 (by omega)
  have hm2 : ∀ w, (Instr.makeSlice 67 (.int .i64 32) (.int .i64 32)).run Try.prog w = .ok (.slice (some ⟨w.heap.size, 0, none⟩) 32 32) (w.alloc (zeroI 32)) := fun w => run_makeI w 32 (by omega)
  go_enter Try.func34, Try.ntmps34
  go_upto_region 1 with fail
  go_cut [2, 3] (fun u v wc => ∃ ga gb, u = .slice (some ⟨ga, 0, none⟩) 288 288 ∧ v = .slice (some ⟨gb, 0, none⟩) 32 32 ∧ (ga ≠ gb ∧ w.heap.size ≤ ga ∧ w.heap.size ≤ gb) ∧ ownI wc w.heap.size (.slice (some ⟨ga, 0, none⟩) 288 288) (List.replicate 288 0) ∧ ownI wc w.heap.size (.slice (some ⟨gb, 0, none⟩) 32 32) (List.replicate 32 0) ∧ Below w.heap.size w wc)
  case first =>
    go_region
    all_goals
      go_wp2_with fail
      go_meet
      case rel =>
        first
          | exact ⟨w.heap.size, w.heap.size + 1, rfl, rfl, ⟨by omega, by omega, by omega⟩, ((own_zeroI w 288 (by omega)).alloc _).drew, (by have := (own_zeroI (w.alloc (zeroI 288)) 32 (by omega)).mono (base' := w.heap.size) (by simp); simpa only [World.size_alloc] using this.drew), (((Below.refl w.heap.size w).alloc (Nat.le_refl _) _).alloc (by simp) _).drew⟩
          | exact ⟨w.heap.size + 1, w.heap.size, rfl, rfl, ⟨by omega, by omega, by omega⟩, (by have := (own_zeroI (w.alloc (zeroI 32)) 288 (by omega)).mono (base' := w.heap.size) (by simp); simpa only [World.size_alloc] using this.drew), ((own_zeroI w 32 (by omega)).alloc _).drew, (((Below.refl w.heap.size w).alloc (Nat.le_refl _) _).alloc (by simp) _).drew⟩
  case rest =>
    clear hm1 hm2
    obtain ⟨ga, gb, rfl, rfl, ⟨hgab, hga, hgb⟩, hoa, hob, hbw⟩ := hcut
    have hfl : fixL.length = 288 := by unfold fixL; rw [List.length_map, List.length_range]
    have hfd : fixD.length = 32 := by unfold fixD; rw [List.length_replicate]
    have HOA : Hid (ownI wc w.heap.size (.slice (some ⟨ga, 0, none⟩) 288 288) (fillI fixL 0)) := (show ownI _ _ _ _ by rw [fillI_zero, hfl]; exact hoa)
    have HOB : Hid (ownI wc w.heap.size (.slice (some ⟨gb, 0, none⟩) 32 32) (fillI fixD 0)) := (show ownI _ _ _ _ by rw [fillI_zero, hfd]; exact hob)
    have HBW := Lib.hid hbw
    have HFL := Lib.hid hfl
    have HFD := Lib.hid hfd
    clear hoa hob hbw hfl hfd
    go_wp2_with fail
    go_loopw [4] (fun vi wr => ∃ k : Nat, k ≤ 288 ∧ vi = .int .i64 k ∧ Hid (ownI wr w.heap.size (.slice (some ⟨ga, 0, none⟩) 288 288) (fillI fixL k)) ∧ Hid (ownI wr w.heap.size (.slice (some ⟨gb, 0, none⟩) 32 32) (fillI fixD 0)) ∧ Hid (Below w.heap.size w wr)) (fun vi _ => 288 - (intOf vi).toNat)
    case atStart => exact ⟨0, by omega, rfl, HOA, HOB, HBW⟩
    case round =>
      clear HOA HOB HBW
      obtain ⟨k, hk, rfl, HOA, HOB, HBW⟩ := hrel
      by_cases hlt : k < 288
      · have hlti : (k : Int) < 288 := by omega
        have hlen : (fillI fixL k).length = 288 := by rw [fillI_len _ _ (by rw [HFL.out]; omega), HFL.out]
        have hx : fixL[k]? = some (fixO k) := by unfold fixL; rw [List.getElem?_map, List.getElem?_range hlt]; rfl
        have HST : Hid (∀ x, x = fixO k → ownI (wr.setCell ⟨ga, k, none⟩ (.int .i64 x)) w.heap.size (.slice (some ⟨ga, 0, none⟩) 288 288) (fillI fixL (k + 1))) := (show ∀ x, _ from fun x e => by
          have := HOA.out.store hlen.symm k x
          rw [e] at this ⊢
          rw [fillI_set hx] at this
          exact this)
        have f7 := HOA.out.frozen hlen.symm k
        obtain ⟨z7, c7⟩ : ∃ z, wr.cell? ⟨ga, k, none⟩ = some (.int .i64 z) := ⟨_, HOA.out.cell hlen.symm (k := k) (by rw [hlen]; exact hlt)⟩
        have HOB2 : Hid (∀ x, ownI (wr.setCell ⟨ga, k, none⟩ (.int .i64 x)) w.heap.size (.slice (some ⟨gb, 0, none⟩) 32 32) (fillI fixD 0)) := (show ∀ x, _ from fun x => HOB.out.far (g := ga) (by intro e; injection e with e; exact hgab e.symm) k (.int .i64 x))
        have HBW2 : Hid (∀ x, Below w.heap.size w (wr.setCell ⟨ga, k, none⟩ (.int .i64 x))) := (show ∀ x, _ from fun x => HBW.out.setCell (p := ⟨ga, k, none⟩) hga (.int .i64 x))
        clear hlen hx HOA HOB HBW
        by_cases h144 : k < 144
        · have h144i : (k : Int) < 144 := by omega
          have hfo : (8 : Int) = fixO k := by unfold fixO; rw [if_pos h144]
          have HFO := Lib.hid hfo
          clear hfo
          go_wp2_with fail
          go_roundw
          case rel => exact ⟨k + 1, by omega, by go_num, HST.out _ HFO.out, HOB2.out _, HBW2.out _⟩
          case measure => simp [intOf] <;> omega
        · have h144i : ¬ (k : Int) < 144 := by omega
          by_cases h279 : 279 < k
          · have h279i : (k : Int) > 279 := by omega
            have hfo : (8 : Int) = fixO k := by unfold fixO; rw [if_neg h144, if_neg (by omega), if_neg (by omega)]
            have HFO := Lib.hid hfo
            clear hfo
            go_wp2_with fail
            go_roundw
            case rel => exact ⟨k + 1, by omega, by go_num, HST.out _ HFO.out, HOB2.out _, HBW2.out _⟩
            case measure => simp [intOf] <;> omega
          · have h279i : ¬ (k : Int) > 279 := by omega
            by_cases h256 : k < 256
            · have h256i : (k : Int) < 256 := by omega
              have hfo : (9 : Int) = fixO k := by unfold fixO; rw [if_neg h144, if_pos h256]
              have HFO := Lib.hid hfo
              clear hfo
              go_wp2_with fail
              go_roundw
              case rel => exact ⟨k + 1, by omega, by go_num, HST.out _ HFO.out, HOB2.out _, HBW2.out _⟩
              case measure => simp [intOf] <;> omega
            · have h256i : ¬ (k : Int) < 256 := by omega
              have hfo : (7 : Int) = fixO k := by unfold fixO; rw [if_neg h144, if_neg h256, if_pos (by omega)]
              have HFO := Lib.hid hfo
              clear hfo
              go_wp2_with fail
              go_roundw
              case rel => exact ⟨k + 1, by omega, by go_num, HST.out _ HFO.out, HOB2.out _, HBW2.out _⟩
              case measure => simp [intOf] <;> omega
      · obtain rfl : k = 288 := by omega
        have HA9 : Hid (ownI wr w.heap.size (.slice (some ⟨ga, 0, none⟩) 288 288) fixL) := (show ownI _ _ _ _ by have := HOA.out; rw [← HFL.out, fillI_all, HFL.out] at this; exact this)
        obtain ⟨wo, rfl⟩ : ∃ wo : World, wo = wr := ⟨_, rfl⟩
        clear HOA
        go_wp2_with fail
        go_loopw [5] (fun vi wr => ∃ k : Nat, k ≤ 32 ∧ vi = .int .i64 k ∧ Hid (ownI wr w.heap.size (.slice (some ⟨ga, 0, none⟩) 288 288) fixL) ∧ Hid (ownI wr w.heap.size (.slice (some ⟨gb, 0, none⟩) 32 32) (fillI fixD k)) ∧ Hid (Below w.heap.size w wr)) (fun vi _ => 32 - (intOf vi).toNat)
        case atStart => exact ⟨0, by omega, rfl, HA9, HOB, HBW⟩
        case round =>
          clear HA9 HOB HBW
          obtain ⟨k, hk, rfl, HOA, HOB, HBW⟩ := hrel
          by_cases hlt : k < 32
          · have hlti : (k : Int) < 32 := by omega
            have hlen : (fillI fixD k).length = 32 := by rw [fillI_len _ _ (by rw [HFD.out]; omega), HFD.out]
            have hx : fixD[k]? = some 5 := by unfold fixD; rw [List.getElem?_replicate, if_pos hlt]
            have hst := HOB.out.store hlen.symm k 5
            rw [fillI_set hx] at hst
            have HST := Lib.hid hst
            have f7 := HOB.out.frozen hlen.symm k
            obtain ⟨z7, c7⟩ : ∃ z, wr.cell? ⟨gb, k, none⟩ = some (.int .i64 z) := ⟨_, HOB.out.cell hlen.symm (k := k) (by rw [hlen]; exact hlt)⟩
            have HOA2 := Lib.hid (HOA.out.far (g := gb) (by intro e; injection e with e; exact hgab e) k (.int .i64 5))
            have HBW2 := Lib.hid (HBW.out.setCell (p := ⟨gb, k, none⟩) hgb (.int .i64 5))
            clear hlen hx hst HOA HOB HBW
            go_wp2_with fail
            go_roundw
            case rel => exact ⟨k + 1, by omega, by go_num, HOA2, HST, HBW2⟩
            case measure => simp [intOf] <;> omega
          · obtain rfl : k = 32 := by omega
            have HB9 : Hid (ownI wr w.heap.size (.slice (some ⟨gb, 0, none⟩) 32 32) fixD) := (show ownI _ _ _ _ by have := HOB.out; rw [← HFD.out, fillI_all, HFD.out] at this; exact this)
            go_wp2_with fail
            go_ret2
            exact ⟨ga, gb, rfl, HOA.out.rd, HB9.out.rd, HBW.out⟩
end Go.Proofs.Yteoolehdomjkkaa

/- flate: the reader of blocks, whatever comes: lists of lengths. -/
namespace Go.Proofs.Yteoolehdomjkkaa
set_option linter.all false
open Go.RowKit

def errOf (w : World) (r : Nat) : Int := match w.cell? ⟨r, 3, none⟩ with
  | some (.int _ e) => e
  | _ => 0
theorem errOf_eq {w : World} {r : Nat} {e : Int} (h : w.cell? ⟨r, 3, none⟩ = some (.int .i64 e)) : errOf w r = e := by unfold errOf; rw [h]
def lenV (v : Value) : Nat := match v with
  | .slice _ n _ => n
  | _ => 0
def lmeasG (all r : Nat) (v : Value) (w : World) : Nat := if errOf w r = 0 then all + 1 - lenV v else 0
section
variable (r g n c : Nat) (A : Option Addr) (bs : List UInt8) (most : Int) (vo : Value) (s : RS) (w : World)
set_option maxRecDepth 100000 in
theorem rlist_err (dv : Value) (all : Nat) (h : FS w r g A n c bs most vo s) (he : ¬ s.e = 0) :
    Calls Try.prog 62 #[.pointer (some ⟨r, 0, none⟩), dv, .int .i64 (all : Int)] w fun e w' => e = .returned (.slice none 0 0) ∧ w = w' := by
  have c3 := (FR.arr h).cell (k := 3) rfl
  have d1 : (s.e == 0) = false := beq_eq_false_iff_ne.2 he
  clear h
  go_enter Try.func62, Try.ntmps62
  go_wp2_with fail
  go_loopw [7] (fun v7 wr => v7 = .slice none 0 0 ∧ wr = w) (fun _ _ => 0)
  case atStart => exact ⟨rfl, rfl⟩
  case round =>
    obtain ⟨rfl, rfl⟩ := hrel
    by_cases ha : 0 < all
    · have hai : (0 : Int) < (all : Int) := by omega
      go_wp2_with fail
      go_ret
      exact ⟨rfl, rfl⟩
    · have hai : ¬ (0 : Int) < (all : Int) := by omega
      go_wp2_with fail
      go_ret
      exact ⟨rfl, rfl⟩
set_option maxRecDepth 100000 in
set_option maxHeartbeats 6400000 in
theorem rlist_any (gd : Nat) (ls : List Int) (all f : Nat) (h : FS w r g A n c bs most vo s) (hd : DK w r g vo gd ls) (hok : OkL ls) (hall : all ≤ 1000) (hf : all + 1 ≤ f) :
    Calls Try.prog 62 #[.pointer (some ⟨r, 0, none⟩), .pointer (some ⟨gd, 0, none⟩), .int .i64 (all : Int)] w fun e w' => ∃ lv, e = .returned lv ∧ FS w' r g A n c bs most vo (listF bs ls all f [] s).2 ∧ ownI w' w.heap.size lv (listF bs ls all f [] s).1 ∧ (listF bs ls all f [] s).1.length ≤ all ∧ RFr w w' r g vo vo := by
  have H := Lib.hid h
  have HDK := Lib.hid hd
  have HOK := Lib.hid hok
  have hrw := (FR.arr h).lt
  have hgr := FR.gr h
  have HVO : Hid (∀ k, vo.ownBlock = some k → k < w.heap.size) := (show ∀ k, _ from fun k hk => (World.ownsRow.lt (FR.own h) k hk).2)
  have HR0 := Lib.hid (RFr.refl w r g vo)
  have HL0 := Lib.hid (ownI.nil_ w w.heap.size)
  obtain ⟨R, hR⟩ : ∃ R, listF bs ls all f [] s = R := ⟨_, rfl⟩
  rw [hR]
  have HE0 := Lib.hid hR
  have HFU : Hid (s.e = 0 → all + 1 ≤ ([] : List Int).length + f) := (show _ → _ from fun _ => by simp; omega)
  clear h hd hok hf hR
  go_enter Try.func62, Try.ntmps62
  go_wp2_with fail
  go_loopw [7] (fun v7 wr => ∃ (l : List Int) (cur : RS) (f : Nat), l.length ≤ all ∧ Hid (FS wr r g A n c bs most vo cur) ∧ Hid (RFr w wr r g vo vo) ∧ Hid (ownI wr w.heap.size v7 l) ∧ Hid (listF bs ls all f l cur = R) ∧ Hid (cur.e = 0 → all + 1 ≤ l.length + f)) (fun v7 wr => lmeasG all r v7 wr)
  case atStart => exact ⟨[], s, f, Nat.zero_le _, H, HR0, HL0, HE0, HFU⟩
  case round =>
    clear H HR0 HL0 HE0 HFU
    obtain ⟨l, cur, f, hla, HF, HR, HL, HE, HFU⟩ := hrel
    have e3 := (FR.arr HF.out).cell (k := 3) rfl
    have herr := errOf_eq e3
    obtain ⟨Al, cl, rfl, -, -, -⟩ := HL.out.form
    by_cases hlt : l.length < all
    · have hlti : (l.length : Int) < (all : Int) := by omega
      by_cases he : cur.e = 0
      · have d1 : (cur.e == 0) = true := by rw [he]; rfl
        obtain ⟨f, rfl⟩ : ∃ f', f = f' + 1 := ⟨f - 1, by have := HFU.out he; omega⟩
        have hfu := HFU.out he
        have HM0 : Hid (lmeasG all r (.slice Al l.length cl) wr = all + 1 - l.length) := (show _ = _ by unfold lmeasG; rw [herr, if_pos he]; rfl)
        have HN := Lib.hid (rnext_any r g n c A bs most vo cur wr gd ls HF.out (HDK.out.fr HR.out) HOK.out.1 HOK.out.2.1 HOK.out.2.2)
        have HST := Lib.hid (HE.out)
        rw [listF, if_pos ⟨hlt, he⟩] at HST
        obtain ⟨q, hq1, hq2, hq3⟩ := nextP_val bs ls cur
        have hq300 : q ≤ 300 := by have := HOK.out.2.2; omega
        rw [hq1] at HN HST
        clear hq1 hq2 hq3 HE HFU
        generalize (nextP bs ls cur).2 = t1 at *
        by_cases ht : t1.e = 0
        · have d2 : (t1.e == 0) = true := by rw [ht]; rfl
          have d2b : (t1.e != 0) = false := by rw [ht]; rfl
          rw [if_pos ht] at HST
          by_cases h16 : q < 16
          · have h16i : (q : Int) < 16 := by omega
            rw [if_pos h16i] at HST
            have HLN : Hid ((l ++ [(q : Int)]).length = l.length + 1) := (show _ = _ by simp)
            have hq9 : l.length + 1 ≤ 1099511627776 := by omega
            go_wp2_with (first
              | (go_at_call 90; (with_reducible refine HN.out.mono ?_); go_must (rintro e w5 ⟨rfl, hf5, hr5⟩; have e53 := (FR.arr hf5).cell (k := 3) rfl; have HR5 := Lib.hid (HR.out.trans hr5); have HL5 : Hid (ownI w5 w.heap.size (.slice Al l.length cl) l) := (show ownI _ _ _ _ from ownI.rfr HL.out hr5 hrw (by omega) (fun k hk hk2 => by have h1 := HVO.out k hk; have h2 := (World.ownsRow.lt HL.out k hk2).1; omega)); have HLA := Lib.hid (ownI.alloc HL5.out (.cells #[Value.int .i64 (q : Int)] 3)); have HFA := Lib.hid (FR.later hf5 ((Below.refl w5.heap.size w5).alloc (Nat.le_refl _) (.cells #[Value.int .i64 (q : Int)] 3))); have HRA := Lib.hid (HR5.out.allocd (.cells #[Value.int .i64 (q : Int)] 3)); have hqs : w.heap.size ≤ (w5.alloc (.cells #[Value.int .i64 (q : Int)] 3)).heap.size := HRA.out.size; have HLO : Hid (∀ k, (Value.slice Al l.length cl).ownBlock = some k → w.heap.size ≤ k) := (show ∀ k, _ from fun k hk => (World.ownsRow.lt HL5.out k hk).1); clear hf5 hr5))
              | (at_builtin; go_must (refine wpList_appendI rfl (.tmp 39) (.tmp 41) rfl w.heap.size _ l rfl HLA.out (w5.heap.size + 1) 1 1 (some ⟨w5.heap.size, 0, none⟩) [(q : Int)] rfl (rd_oneI w5 (q : Int)) hq9 hqs ?_; intro v6 w6 ho6 hg6 hb6 ha6; obtain ⟨A6, c6, rfl, -, -, -⟩ := ho6.form; rw [HLN.out] at ho6; have HL6 := Lib.hid ho6; have HF6 := Lib.hid (FR.side HFA.out hrw HVO.out HLO.out hg6); have HR6 := Lib.hid (RFr.side (l := l) HRA.out HLO.out hg6); clear ho6 hg6 hb6 ha6)))
            have e63 := (FR.arr HF6.out).cell (k := 3) rfl
            have herr6 := errOf_eq e63
            have HF6 : Hid (FS w6 r g A n c bs most vo t1) := HF6
            have HFU2 : Hid (t1.e = 0 → all + 1 ≤ (l ++ [(q : Int)]).length + f) := (show _ → _ from fun _ => by rw [HLN.out]; omega)
            go_roundw
            case rel => exact ⟨l ++ [(q : Int)], t1, f, by rw [HLN.out]; omega, HF6, HR6, HL6, HST, HFU2⟩
            case measure =>
              rw [HM0.out]
              unfold lmeasG
              rw [herr6, if_pos ht]
              show all + 1 - (l.length + 1) < _
              omega
          · have h16i : ¬ (q : Int) < 16 := by omega
            rw [if_neg h16i] at HST
            by_cases hq16 : q = 16
            · subst hq16
              rw [if_pos (show ((16 : Nat) : Int) = 16 from rfl)] at HST
              by_cases hl0 : l.length = 0
              · rw [if_pos hl0] at HST
                have hl0i : (l.length : Int) = 0 := by omega
                have hl0b : ((l.length : Int) == 0) = true := by rw [hl0]; rfl
                have HFL := Lib.hid (fun w5 (h : FS w5 r g A n c bs most vo t1) => rfail_any r g n c A bs most vo t1 w5 4 h)
                have hfe : (t1.fail 4).e = 4 := by unfold RS.fail; rw [if_pos ht]
                have HS2 : Hid (listF bs ls all f l (t1.fail 4) = R) := (show _ = _ by rw [← HST.out, listF_stop (fun h => by rw [hfe] at h; exact absurd h.2 (by decide))])
                have HFU2 : Hid ((t1.fail 4).e = 0 → all + 1 ≤ l.length + f) := (show _ → _ from fun h => by rw [hfe] at h; exact absurd h (by decide))
                clear hl0 hl0i
                go_wp2_with (first
                  | (go_at_call 90; (with_reducible refine HN.out.mono ?_); go_must (rintro e w5 ⟨rfl, hf5, hr5⟩; have e53 := (FR.arr hf5).cell (k := 3) rfl; have HR5 := Lib.hid (HR.out.trans hr5); have HL5 : Hid (ownI w5 w.heap.size (.slice Al l.length cl) l) := (show ownI _ _ _ _ from ownI.rfr HL.out hr5 hrw (by omega) (fun k hk hk2 => by have h1 := HVO.out k hk; have h2 := (World.ownsRow.lt HL.out k hk2).1; omega)); have HFL5 := Lib.hid (HFL.out w5 hf5); clear hf5 hr5))
                  | (go_at_call 30; (with_reducible refine HFL5.out.mono ?_); go_must (rintro e w6 ⟨rfl, hf6, hr6⟩; have HF6 := Lib.hid hf6; have HR6 := Lib.hid (HR5.out.trans hr6); have HL6 : Hid (ownI w6 w.heap.size (.slice Al l.length cl) l) := (show ownI _ _ _ _ from ownI.rfr HL5.out hr6 hrw (by omega) (fun k hk hk2 => by have h1 := HVO.out k hk; have h2 := (World.ownsRow.lt HL5.out k hk2).1; omega)); clear hf6 hr6)))
                have e63 := (FR.arr HF6.out).cell (k := 3) rfl
                have herr6 := errOf_eq e63
                go_roundw
                case rel => exact ⟨l, t1.fail 4, f, hla, HF6, HR6, HL6, HS2, HFU2⟩
                case measure =>
                  rw [HM0.out]
                  unfold lmeasG
                  rw [herr6, hfe, if_neg (by decide)]
                  omega
              · rw [if_neg hl0] at HST
                have hl0b : ((l.length : Int) == 0) = false := beq_eq_false_iff_ne.2 (by omega)
                have hlD : l.length - 1 < l.length := by omega
                have hgd : l.getD (l.length - 1) 0 = l[l.length - 1] := by rw [List.getD_eq_getElem?_getD, List.getElem?_eq_getElem hlD]; rfl
                rw [hgd] at HST
                obtain ⟨-, gq, rfl, hgq1, hgq2⟩ := ownI.pos HL.out (show 0 < l.length by omega)
                have HCL : Hid (∀ w', ownI w' w.heap.size (.slice (some ⟨gq, 0, none⟩) l.length cl) l → w'.cell? ⟨gq, l.length - 1, none⟩ = some (.int .i64 l[l.length - 1])) := (show ∀ w', _ from fun w' h => ownI.cell h rfl hlD)
                generalize l[l.length - 1] = x at *
                have HG := Lib.hid (fun w5 (h : FS w5 r g A n c bs most vo t1) => rget_any r g n c A bs most vo t1 w5 2 2 rfl h (by omega))
                have hv := getP_lt bs t1 (m := 2) (by omega)
                generalize (getP bs t1 2).1 = v at *
                generalize (getP bs t1 2).2 = t2 at *
                have hvb : v < 200 := Nat.lt_of_lt_of_le hv (by decide)
                obtain ⟨N, hN⟩ : ∃ N, 3 + v = N := ⟨_, rfl⟩
                have hNi : (3 : Int) + (v : Int) = (N : Int) := by omega
                have hN3 : 3 ≤ N := by omega
                rw [hN] at HST
                have HRP := Lib.hid (fun w6 lv (h : FS w6 r g A n c bs most vo t2) (hf : RFr w w6 r g vo vo) (hl : ownI w6 w.heap.size lv l) => rrepeat_any r g n c A bs most vo t2 w w6 lv l x N all h hf hl hrw HVO.out (by omega) hall (by omega))
                have hrl := repP_len l x N all t2 hla
                generalize repP l x N all t2 = PP at *
                clear hv hN
                obtain ⟨L, hL⟩ : ∃ L, l.length = L := ⟨_, rfl⟩
                obtain ⟨D, hD⟩ : ∃ D, l.length - 1 = D := ⟨_, rfl⟩
                rw [hD] at HCL
                have hDi : (l.length : Int) - 1 = (D : Int) := by omega
                have hDw : IntKind.i64.wrap (D : Int) = (D : Int) := wrap_i64_lt D (by omega)
                have hDw2 : IntKind.i64.wrap ((l.length : Int) - 1) = (D : Int) := by rw [hDi]; exact hDw
                have hNw : IntKind.i64.wrap (N : Int) = (N : Int) := wrap_i64_lt N (by omega)
                have hNw2 : IntKind.i64.wrap ((3 : Int) + (v : Int)) = (N : Int) := by rw [hNi]; exact hNw
                have hDl : D < l.length := by omega
                clear hL hD
                go_upto_region 11 with ((go_at_call 90; (with_reducible refine HN.out.mono ?_); go_must (rintro e w5 ⟨rfl, hf5, hr5⟩; have e53 := (FR.arr hf5).cell (k := 3) rfl; have HR5 := Lib.hid (HR.out.trans hr5); have HL5 : Hid (ownI w5 w.heap.size (.slice (some ⟨gq, 0, none⟩) l.length cl) l) := (show ownI _ _ _ _ from ownI.rfr HL.out hr5 hrw (by omega) (fun k hk hk2 => by have h1 := HVO.out k hk; have h2 := (World.ownsRow.lt HL.out k hk2).1; omega)); have HG5d := Lib.hid (HG.out w5.drew (show FS w5.drew r g A n c bs most vo t1 from FR.drewN hf5 1)); have hc5 := HCL.out w5 HL5.out; clear hf5 hr5)))
                go_region_with (first
                  | (go_at_call 26; (with_reducible refine HG5d.out.mono ?_); go_must (rintro e w6 ⟨rfl, hf6, hr6⟩; have HR6 := Lib.hid ((show RFr w w5.drew r g vo vo from RFr.drewN HR5.out 1).trans hr6); have HL6 : Hid (ownI w6 w.heap.size (Value.slice (some ⟨gq, 0, none⟩) l.length cl) l) := (show ownI _ _ _ _ from ownI.rfr HL5.out.drew hr6 hrw (by have := HR5.out.size; omega) (fun k hk hk2 => by have h1 := HVO.out k hk; have h2 := (World.ownsRow.lt HL5.out k hk2).1; omega)); have hc6 := HCL.out w6 HL6.out; have HRP6 := Lib.hid (HRP.out w6 (Value.slice (some ⟨gq, 0, none⟩) l.length cl) hf6 HR6.out HL6.out); clear hf6 hr6))
                  | (go_at_call 94; (with_reducible refine HRP6.out.mono ?_); go_must (rintro e w7 ⟨v7, rfl, hf7, hl7, hr7⟩; have HF7 := Lib.hid hf7; have HL7 := Lib.hid hl7; have HR7 := Lib.hid hr7; clear hf7 hl7 hr7)))
                all_goals
                  go_simp
                  go_wp2_with fail
                  have e73 := (FR.arr HF7.out).cell (k := 3) rfl
                  have herr7 := errOf_eq e73
                  obtain ⟨A7, c7, rfl, -, -, -⟩ := HL7.out.form
                  have HFU2 : Hid (PP.2.e = 0 → all + 1 ≤ PP.1.length + f) := (show _ → _ from fun h0 => by rw [hrl.2 h0]; omega)
                  have HRL := Lib.hid hrl
                  clear hrl
                  go_roundw
                  case rel => exact ⟨PP.1, PP.2, f, HRL.out.1, HF7, HR7, HL7, HST, HFU2⟩
                  case measure =>
                    rw [HM0.out]
                    unfold lmeasG
                    rw [herr7]
                    by_cases h0 : PP.2.e = 0
                    · rw [if_pos h0]
                      have := HRL.out.2 h0
                      show all + 1 - PP.1.length < _
                      omega
                    · rw [if_neg h0]
                      omega
            · have hq16b : ((q : Int) == 16) = false := beq_eq_false_iff_ne.2 (by omega)
              rw [if_neg (by omega : ¬ (q : Int) = 16)] at HST
              by_cases hq17 : q = 17
              · subst hq17
                rw [if_pos (show ((17 : Nat) : Int) = 17 from rfl)] at HST
                have HG := Lib.hid (fun w5 (h : FS w5 r g A n c bs most vo t1) => rget_any r g n c A bs most vo t1 w5 3 3 rfl h (by omega))
                have hv := getP_lt bs t1 (m := 3) (by omega)
                generalize (getP bs t1 3).1 = v at *
                generalize (getP bs t1 3).2 = t2 at *
                have hvb : v < 200 := Nat.lt_of_lt_of_le hv (by decide)
                obtain ⟨N, hN⟩ : ∃ N, 3 + v = N := ⟨_, rfl⟩
                have hNi : (3 : Int) + (v : Int) = (N : Int) := by omega
                have hN3 : 3 ≤ N := by omega
                rw [hN] at HST
                have HRP := Lib.hid (fun w6 lv (h : FS w6 r g A n c bs most vo t2) (hf : RFr w w6 r g vo vo) (hl : ownI w6 w.heap.size lv l) => rrepeat_any r g n c A bs most vo t2 w w6 lv l 0 N all h hf hl hrw HVO.out (by omega) hall (by omega))
                have hrl := repP_len l 0 N all t2 hla
                generalize repP l 0 N all t2 = PP at *
                clear hv hN
                go_wp2_with (first
                  | (go_at_call 90; (with_reducible refine HN.out.mono ?_); go_must (rintro e w5 ⟨rfl, hf5, hr5⟩; have e53 := (FR.arr hf5).cell (k := 3) rfl; have HR5 := Lib.hid (HR.out.trans hr5); have HL5 : Hid (ownI w5 w.heap.size (.slice Al l.length cl) l) := (show ownI _ _ _ _ from ownI.rfr HL.out hr5 hrw (by omega) (fun k hk hk2 => by have h1 := HVO.out k hk; have h2 := (World.ownsRow.lt HL.out k hk2).1; omega)); have HG5 := Lib.hid (HG.out w5 hf5); clear hf5 hr5))
                  | (go_at_call 26; (with_reducible refine HG5.out.mono ?_); go_must (rintro e w6 ⟨rfl, hf6, hr6⟩; have HR6 := Lib.hid (HR5.out.trans hr6); have HL6 : Hid (ownI w6 w.heap.size (.slice Al l.length cl) l) := (show ownI _ _ _ _ from ownI.rfr HL5.out hr6 hrw (by omega) (fun k hk hk2 => by have h1 := HVO.out k hk; have h2 := (World.ownsRow.lt HL5.out k hk2).1; omega)); have HRP6 := Lib.hid (HRP.out w6 (.slice Al l.length cl) hf6 HR6.out HL6.out); clear hf6 hr6))
                  | (go_at_call 94; (with_reducible refine HRP6.out.mono ?_); go_must (rintro e w7 ⟨v7, rfl, hf7, hl7, hr7⟩; have HF7 := Lib.hid hf7; have HL7 := Lib.hid hl7; have HR7 := Lib.hid hr7; clear hf7 hl7 hr7)))
                have e73 := (FR.arr HF7.out).cell (k := 3) rfl
                have herr7 := errOf_eq e73
                obtain ⟨A7, c7, rfl, -, -, -⟩ := HL7.out.form
                have HFU2 : Hid (PP.2.e = 0 → all + 1 ≤ PP.1.length + f) := (show _ → _ from fun h0 => by rw [hrl.2 h0]; omega)
                have HRL := Lib.hid hrl
                clear hrl
                go_roundw
                case rel => exact ⟨PP.1, PP.2, f, HRL.out.1, HF7, HR7, HL7, HST, HFU2⟩
                case measure =>
                  rw [HM0.out]
                  unfold lmeasG
                  rw [herr7]
                  by_cases h0 : PP.2.e = 0
                  · rw [if_pos h0]
                    have := HRL.out.2 h0
                    show all + 1 - PP.1.length < _
                    omega
                  · rw [if_neg h0]
                    omega
              · have hq17b : ((q : Int) == 17) = false := beq_eq_false_iff_ne.2 (by omega)
                rw [if_neg (by omega : ¬ (q : Int) = 17)] at HST
                have HG := Lib.hid (fun w5 (h : FS w5 r g A n c bs most vo t1) => rget_any r g n c A bs most vo t1 w5 7 7 rfl h (by omega))
                have hv := getP_lt bs t1 (m := 7) (by omega)
                generalize (getP bs t1 7).1 = v at *
                generalize (getP bs t1 7).2 = t2 at *
                have hvb : v < 200 := Nat.lt_of_lt_of_le hv (by decide)
                obtain ⟨N, hN⟩ : ∃ N, 11 + v = N := ⟨_, rfl⟩
                have hNi : (11 : Int) + (v : Int) = (N : Int) := by omega
                have hN3 : 3 ≤ N := by omega
                rw [hN] at HST
                have HRP := Lib.hid (fun w6 lv (h : FS w6 r g A n c bs most vo t2) (hf : RFr w w6 r g vo vo) (hl : ownI w6 w.heap.size lv l) => rrepeat_any r g n c A bs most vo t2 w w6 lv l 0 N all h hf hl hrw HVO.out (by omega) hall (by omega))
                have hrl := repP_len l 0 N all t2 hla
                generalize repP l 0 N all t2 = PP at *
                clear hv hN
                go_wp2_with (first
                  | (go_at_call 90; (with_reducible refine HN.out.mono ?_); go_must (rintro e w5 ⟨rfl, hf5, hr5⟩; have e53 := (FR.arr hf5).cell (k := 3) rfl; have HR5 := Lib.hid (HR.out.trans hr5); have HL5 : Hid (ownI w5 w.heap.size (.slice Al l.length cl) l) := (show ownI _ _ _ _ from ownI.rfr HL.out hr5 hrw (by omega) (fun k hk hk2 => by have h1 := HVO.out k hk; have h2 := (World.ownsRow.lt HL.out k hk2).1; omega)); have HG5 := Lib.hid (HG.out w5 hf5); clear hf5 hr5))
                  | (go_at_call 26; (with_reducible refine HG5.out.mono ?_); go_must (rintro e w6 ⟨rfl, hf6, hr6⟩; have HR6 := Lib.hid (HR5.out.trans hr6); have HL6 : Hid (ownI w6 w.heap.size (.slice Al l.length cl) l) := (show ownI _ _ _ _ from ownI.rfr HL5.out hr6 hrw (by omega) (fun k hk hk2 => by have h1 := HVO.out k hk; have h2 := (World.ownsRow.lt HL5.out k hk2).1; omega)); have HRP6 := Lib.hid (HRP.out w6 (.slice Al l.length cl) hf6 HR6.out HL6.out); clear hf6 hr6))
                  | (go_at_call 94; (with_reducible refine HRP6.out.mono ?_); go_must (rintro e w7 ⟨v7, rfl, hf7, hl7, hr7⟩; have HF7 := Lib.hid hf7; have HL7 := Lib.hid hl7; have HR7 := Lib.hid hr7; clear hf7 hl7 hr7)))
                have e73 := (FR.arr HF7.out).cell (k := 3) rfl
                have herr7 := errOf_eq e73
                obtain ⟨A7, c7, rfl, -, -, -⟩ := HL7.out.form
                have HFU2 : Hid (PP.2.e = 0 → all + 1 ≤ PP.1.length + f) := (show _ → _ from fun h0 => by rw [hrl.2 h0]; omega)
                have HRL := Lib.hid hrl
                clear hrl
                go_roundw
                case rel => exact ⟨PP.1, PP.2, f, HRL.out.1, HF7, HR7, HL7, HST, HFU2⟩
                case measure =>
                  rw [HM0.out]
                  unfold lmeasG
                  rw [herr7]
                  by_cases h0 : PP.2.e = 0
                  · rw [if_pos h0]
                    have := HRL.out.2 h0
                    show all + 1 - PP.1.length < _
                    omega
                  · rw [if_neg h0]
                    omega
        · have d2 : (t1.e == 0) = false := beq_eq_false_iff_ne.2 ht
          have d2b : (t1.e != 0) = true := by rw [bne_iff_ne]; exact ht
          rw [if_neg ht] at HST
          have HS2 : Hid (listF bs ls all f l t1 = R) := (show _ = _ by rw [← HST.out, listF_stop (fun h => ht h.2)])
          have HFU2 : Hid (t1.e = 0 → all + 1 ≤ l.length + f) := (show _ → _ from fun h => absurd h ht)
          go_wp2_with (go_at_call 90; (with_reducible refine HN.out.mono ?_); go_must (rintro e w5 ⟨rfl, hf5, hr5⟩; have e53 := (FR.arr hf5).cell (k := 3) rfl; have HR5 := Lib.hid (HR.out.trans hr5); have HL5 : Hid (ownI w5 w.heap.size (.slice Al l.length cl) l) := (show ownI _ _ _ _ from ownI.rfr HL.out hr5 hrw (by omega) (fun k hk hk2 => by have h1 := HVO.out k hk; have h2 := (World.ownsRow.lt HL.out k hk2).1; omega)); have HF5 := Lib.hid hf5; clear hf5 hr5))
          have herr5 := errOf_eq e53
          go_roundw
          case rel => exact ⟨l, t1, f, hla, HF5, HR5, HL5, HS2, HFU2⟩
          case measure =>
            rw [HM0.out]
            unfold lmeasG
            rw [herr5, if_neg ht]
            omega
      · have d1 : (cur.e == 0) = false := beq_eq_false_iff_ne.2 he
        have HS : Hid ((l, cur) = R) := (show _ = _ by rw [← HE.out, listF_stop (fun h => he h.2)])
        go_wp2_with fail
        go_ret
        exact ⟨_, rfl, by rw [← HS.out]; exact HF.out, by rw [← HS.out]; exact HL.out, by rw [← HS.out]; exact hla, HR.out⟩
    · have hlti : ¬ (l.length : Int) < (all : Int) := by omega
      have HS : Hid ((l, cur) = R) := (show _ = _ by rw [← HE.out, listF_stop (fun h => hlt h.1)])
      go_wp2_with fail
      go_ret
      exact ⟨_, rfl, by rw [← HS.out]; exact HF.out, by rw [← HS.out]; exact HL.out, by rw [← HS.out]; exact hla, HR.out⟩
end
end Go.Proofs.Yteoolehdomjkkaa

/- flate: the reader of blocks, whatever comes: are all lengths 0; lists by a decoder or none. -/
namespace Go.Proofs.Yteoolehdomjkkaa
set_option linter.all false
open Go.RowKit

set_option maxRecDepth 100000 in
theorem none_any (B nl cl : Nat) (Al : Option Addr) (ls : List Int) (w : World) (hr : RdI w B Al nl ls) (hn : nl ≤ 1000) :
    Calls Try.prog 63 #[.slice Al nl cl] w fun e w' => e = .returned (.bool (noneP ls)) ∧ w = w' := by
  have HRD := Lib.hid hr
  have HL := Lib.hid hr.len
  clear hr
  go_enter Try.func63, Try.ntmps63
  go_wp2_with fail
  go_loopw [7] (fun vk wr => ∃ k : Nat, k ≤ nl ∧ vk = .int .i64 k ∧ Hid (cPos (ls.take k) = 0) ∧ wr = w) (fun vk _ => nl - (intOf vk).toNat)
  case atStart => exact ⟨0, Nat.zero_le _, rfl, (show cPos (ls.take 0) = 0 from rfl), rfl⟩
  case round =>
    obtain ⟨k, hk, rfl, HC, rfl⟩ := hrel
    by_cases hlt : k < nl
    · have hlti : (k : Int) < (nl : Int) := by omega
      obtain ⟨b, o, x, rfl, hb, HX, e1⟩ := HRD.out.one hlt
      by_cases hx0 : 0 < x
      · have HN : Hid (noneP ls = false) := (show _ = _ by
          have h1 : cPos (ls.take (k + 1)) = 1 := by rw [take_snoc1 HX.out, cPos_snoc, HC.out, if_pos hx0]
          have h2 : cPos ls = cPos (ls.take (k + 1)) + cPos (ls.drop (k + 1)) := by
            unfold cPos
            rw [← List.countP_append, List.take_append_drop]
          unfold noneP
          rw [h2, h1]
          exact beq_eq_false_iff_ne.2 (by omega))
        go_wp2_with fail
        go_ret
        exact ⟨by rw [HN.out]; rfl, rfl⟩
      · have HP1 : Hid (cPos (ls.take (k + 1)) = 0) := (show _ = _ by rw [take_snoc1 HX.out, cPos_snoc, HC.out, if_neg hx0])
        go_wp2_with fail
        go_roundw
        case rel => exact ⟨k + 1, by omega, by go_num, HP1, trivial⟩
        case measure => simp [intOf]; omega
    · obtain rfl : k = nl := by omega
      have hlti : ¬ (k : Int) < (k : Int) := by omega
      have HN : Hid (noneP ls = true) := (show _ = _ by
        have h1 := HC.out
        rw [List.take_of_length_le (by rw [HL.out]; exact Nat.le_refl _)] at h1
        unfold noneP
        rw [h1]
        rfl)
      go_wp2_with fail
      go_ret
      exact ⟨by rw [HN.out]; rfl, rfl⟩
section
variable (r g n c : Nat) (A : Option Addr) (bs : List UInt8) (most : Int) (vo : Value) (s : RS) (w : World)
theorem rlistD_any (dv : Value) (D : Option (List Int)) (all : Nat) (h : FS w r g A n c bs most vo s) (hd : DV w r g vo dv D) (hD : D = none → ¬ s.e = 0) (hall : all ≤ 1000) :
    Calls Try.prog 62 #[.pointer (some ⟨r, 0, none⟩), dv, .int .i64 (all : Int)] w fun e w' => ∃ lv, e = .returned lv ∧ FS w' r g A n c bs most vo (listD bs D all s).2 ∧ ownI w' w.heap.size lv (listD bs D all s).1 ∧ RFr w w' r g vo vo := by
  rcases hd with ⟨rfl, rfl⟩ | ⟨gd, ds, rfl, rfl, h1, h2⟩
  · refine (rlist_err r g n c A bs most vo s w (.pointer none) all h (hD rfl)).mono ?_
    rintro e w' ⟨rfl, rfl⟩
    exact ⟨_, rfl, h, ownI.nil_ _ _, RFr.refl _ _ _ _⟩
  · refine (rlist_any r g n c A bs most vo s w gd ds all (all + 1) h h1 h2 hall (Nat.le_refl _)).mono ?_
    rintro e w' ⟨lv, rfl, h3, h4, -, h5⟩
    exact ⟨lv, rfl, h3, h4, h5⟩
end
end Go.Proofs.Yteoolehdomjkkaa
