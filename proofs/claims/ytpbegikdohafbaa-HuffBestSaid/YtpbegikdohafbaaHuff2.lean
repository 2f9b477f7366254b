/- huff: packages, merged, counts. -/
import Derived.Test.YtpbegikdohafbaaHuff1
import Derived.StillTailTactics
namespace Go.Proofs.Ytpbegikdohafbaa
set_option linter.all false
open Go.RowKit

theorem node_new (w : World) (lo B base b o c : Nat) (v : Value) (x y : MP) (t : TypeId) (h1 : w.cell? ⟨b, o, none⟩ = some (.pointer (some ⟨x.1, 0, none⟩))) (h2 : w.cell? ⟨b, o + 1, none⟩ = some (.pointer (some ⟨y.1, 0, none⟩)))
    (hx : isM w (Rng lo B) x.1 x.2) (hy : isM w (Rng lo B) y.1 y.2) (hb : b < B) (hlb : lo ≤ b) (hB : B ≤ base) (hbase : base ≤ w.heap.size) (hv : ∀ g, v.ownBlock = some g → base ≤ g ∧ g < w.heap.size) (hlo : lo ≤ w.heap.size) (hc : 2 ≤ c) (hcm : c ≤ maxLen) :
    isM (w.alloc (.cells #[.int .i64 (x.2.w + y.2.w), .int .i64 0, .slice (some ⟨b, o, none⟩) 2 c] t)) (Out lo (w.alloc (.cells #[.int .i64 (x.2.w + y.2.w), .int .i64 0, .slice (some ⟨b, o, none⟩) 2 c] t)) v) w.heap.size (.node x.2 y.2) := by
  have hcell : ∀ i u, (#[Value.int .i64 (x.2.w + y.2.w), .int .i64 0, .slice (some ⟨b, o, none⟩) 2 c] : Array Value)[i]? = some u → (w.alloc (.cells #[.int .i64 (x.2.w + y.2.w), .int .i64 0, .slice (some ⟨b, o, none⟩) 2 c] t)).cell? ⟨w.heap.size, i, none⟩ = some u := fun i u h => by
    rw [cell_of_row _ w.heap.size i _ t (0, 0) (heap_alloc_new w _)]
    exact h
  have hin : ∀ a, lo ≤ a → a < B → Out lo (w.alloc (.cells #[.int .i64 (x.2.w + y.2.w), .int .i64 0, .slice (some ⟨b, o, none⟩) 2 c] t)) v a := fun a h h' => ⟨h, by simp; omega, fun e => by have := hv _ e; omega⟩
  exact ⟨⟨hlo, by simp, fun e => by have := hv _ e; omega⟩, hcell 0 _ rfl, hcell 1 _ rfl, b, o, c, x.1, y.1, hcell 2 _ rfl, hin b hlb hb, hc, hcm,
    (World.cell?_alloc_lt w _ ⟨b, o, none⟩ (by show b < _; omega)).trans h1, (World.cell?_alloc_lt w _ ⟨b, o + 1, none⟩ (by show b < _; omega)).trans h2,
    hx.keep (fun p hp => World.cell?_alloc_lt w _ p (by have := hp.2; omega)) (fun a ha => hin a ha.1 ha.2), hy.keep (fun p hp => World.cell?_alloc_lt w _ p (by have := hp.2; omega)) (fun a ha => hin a ha.1 ha.2)⟩
theorem packs_drop {l : List Mem} {k : Nat} {x y : Mem} (h1 : l[k]? = some x) (h2 : l[k + 1]? = some y) : packs (l.drop k) = .node x y :: packs (l.drop (k + 2)) := by
  obtain ⟨a1, rfl⟩ := List.getElem?_eq_some_iff.1 h1
  obtain ⟨a2, rfl⟩ := List.getElem?_eq_some_iff.1 h2
  rw [List.drop_eq_getElem_cons a1, List.drop_eq_getElem_cons a2, packs]
theorem packs_short {l : List Mem} (h : l.length ≤ 1) : packs l = [] := by
  match l, h with
  | [], _ => rfl
  | [x], _ => rfl

set_option maxRecDepth 100000 in
set_option maxHeartbeats 3200000 in
theorem packages_any (lo B n c : Nat) (A : Option Addr) (zs : List MP) (w : World) (h : RdP w B A n zs) (hnc : n ≤ c) (hcm : c ≤ maxLen) (hB1 : B ≤ w.heap.size) (hn : n ≤ 1099511627776) (hA : ∀ a, A = some a → lo ≤ a.block) (hlo : lo ≤ w.heap.size)
    (hM : ∀ z ∈ zs, isM w (Rng lo B) z.1 z.2) (hW : ∀ z ∈ zs, 0 ≤ z.2.w ∧ z.2.w ≤ 1125899906842624) :
    Calls Try.prog 32 #[.slice A n c] w fun e w' => ∃ A' n' c' zs', e = .returned (.slice A' n' c') ∧ n' = zs'.length ∧ ownP w' w.heap.size (.slice A' n' c') zs' ∧
      zs'.map Prod.snd = packs (zs.map Prod.snd) ∧ (∀ z ∈ zs', isM w' (Rng lo w'.heap.size) z.1 z.2) ∧ Below w.heap.size w w' := by
  have hB := Below.refl w.heap.size w
  have H := Lib.hid h
  have HL := Lib.hid h.len
  have HM0 := Lib.hid hM
  have HW := Lib.hid hW
  have HA := Lib.hid hA
  unfold maxLen at hcm
  clear h hM hW hA
  go_enter Try.func32, Try.ntmps32
  go_wp2
  go_loopw [4, 3] (fun i v wr => ∃ (k : Nat) (out : List MP), i = .int .i64 k ∧ k ≤ n + 1 ∧ out.length ≤ k ∧ Hid (ownP wr w.heap.size v out) ∧ Hid (out.map Prod.snd ++ packs ((zs.map Prod.snd).drop k) = packs (zs.map Prod.snd)) ∧ Hid (∀ z ∈ out, isM wr (Out lo wr v) z.1 z.2) ∧ Below w.heap.size w wr)
    (fun i _ _ => n + 1 - (intOf i).toNat)
  case atStart => exact ⟨0, [], rfl, Nat.zero_le _, Nat.zero_le _, ownP.nil_ _ _, rfl, (fun z hz => by cases hz), hB⟩
  case round =>
    clear hB
    obtain ⟨k, out, rfl, hk, hok, HO, HZ, HM, hB⟩ := hrel
    have hsz := hB.size
    by_cases hlt : k + 1 < n
    · obtain ⟨b, o, x, rfl, hb, HX, e1⟩ := (H.out.blw (hB.mono hB1)).one (show k < n by omega)
      obtain ⟨b', o', y, eA, hb', HY, e2⟩ := (H.out.blw (hB.mono hB1)).one (show k + 1 < n by omega)
      injection eA with eA
      injection eA with eb eo
      subst eb eo
      have wx := ((HM0.out x (List.mem_of_getElem? HX.out)).blw (hB.mono hB1) (Nat.le_refl _)).weight
      have wy := ((HM0.out y (List.mem_of_getElem? HY.out)).blw (hB.mono hB1) (Nat.le_refl _)).weight
      obtain ⟨wx0, wx1⟩ := HW.out x (List.mem_of_getElem? HX.out)
      obtain ⟨wy0, wy1⟩ := HW.out y (List.mem_of_getElem? HY.out)
      have m1 : IntKind.i64.wrap ((k : Int) + 1) = (k : Int) + 1 := by rw [IntKind.wrap_i64]; omega
      have m2 : IntKind.i64.wrap ((k : Int) + 2) = (k : Int) + 2 := by rw [IntKind.wrap_i64]; omega
      have m3 : IntKind.i64.wrap (x.2.w + y.2.w) = x.2.w + y.2.w := by rw [IntKind.wrap_i64]; omega
      have g1 : ((k : Int) + 1).toNat = k + 1 := by omega
      have g2 : ((k : Int) + 2).toNat = k + 2 := by omega
      have p1 : (0 : Int) ≤ (k : Int) + 1 := by omega
      have p2 : (k : Int) + 1 < n := by omega
      have p3 : (k : Int) < n := by omega
      have p4 : (k : Int) + 2 ≤ c := by omega
      have p5 : (k : Int) ≤ (k : Int) + 2 := by omega
      have p6 : (0 : Int) ≤ (k : Int) + 2 := by omega
      have hck : ¬ c = k := by omega
      have e2' : wr.cell? ⟨b, o + k + 1, none⟩ = some (.pointer (some ⟨y.1, 0, none⟩)) := e2
      have HN := Lib.hid (node_new wr lo B w.heap.size b (o + k) (c - k) u3 x y 69 e1 e2' ((HM0.out x (List.mem_of_getElem? HX.out)).blw (hB.mono hB1) (Nat.le_refl _)) ((HM0.out y (List.mem_of_getElem? HY.out)).blw (hB.mono hB1) (Nat.le_refl _)) hb (HA.out _ rfl) hB1 hsz (fun g hg => World.ownsRow.lt HO.out g hg) (by omega) (by omega) (by unfold maxLen; omega))
      have HM1 := Lib.hid (fun z hz => ((HM.out z hz).alloc (.cells #[.int .i64 (x.2.w + y.2.w), .int .i64 0, .slice (some ⟨b, o + k, none⟩) 2 (c - k)] 69)).alloc (.cells #[.pointer (some ⟨wr.heap.size, 0, none⟩)] 70))
      have HBB := Lib.hid ((hB.alloc hsz (.cells #[.int .i64 (x.2.w + y.2.w), .int .i64 0, .slice (some ⟨b, o + k, none⟩) 2 (c - k)] 69)).alloc (by simp; omega) (.cells #[.pointer (some ⟨wr.heap.size, 0, none⟩)] 70))
      have HN1 := Lib.hid (HN.out.alloc (.cells #[.pointer (some ⟨wr.heap.size, 0, none⟩)] 70))
      have HPD := Lib.hid (packs_drop (l := zs.map Prod.snd) (k := k) (x := x.2) (y := y.2) (by rw [List.getElem?_map, HX.out]; rfl) (by rw [List.getElem?_map, HY.out]; rfl))
      clear HN
      go_wp2_with fail
      go_region_law (go_must (refine step_appendP rfl (.tmp 12) (.tmp 36) rfl w.heap.size u3 out rfl ((ownP.drew HO.out).alloc _ |>.alloc _) _ 1 1 _ [(wr.heap.size, Mem.node x.2 y.2)] rfl (rd_oneP1 wr.drew _ (wr.heap.size, Mem.node x.2 y.2)) (by omega) (by simp; omega) ?_; intro v' w2 ho hg hb2 hv; have HO2 := Lib.hid ho; have HG := Lib.hid hg; have HV := Lib.hid hv; have HB2 := Lib.hid hb2; clear ho hg hb2 hv))
      all_goals
        go_wp2_with fail
        go_roundw
        case rel =>
          refine ⟨k + 2, out ++ [(wr.heap.size, Mem.node x.2 y.2)], by go_num, by omega, by simp; omega, HO2, (show _ = _ by rw [← HZ.out, HPD.out]; simp), ?_, ?_⟩
          · show ∀ z ∈ _, _
            intro z hz
            rcases List.mem_append.1 hz with hz | hz
            · exact ((HM1.out z hz).drewO 1).app HG.out HV.out
            · have : z = (wr.heap.size, Mem.node x.2 y.2) := by simpa using hz
              subst this
              exact (HN1.out.drewO 1).app HG.out HV.out
          · exact (bdrewN HBB.out 1).trans HB2.out
        case measure => simp [intOf]; omega
    · have HE : Hid (out.map Prod.snd = packs (zs.map Prod.snd)) := (show _ = _ by rw [← HZ.out, packs_short (l := (zs.map Prod.snd).drop k) (by have := HL.out; simp; omega), List.append_nil])
      obtain ⟨A', c', rfl, hrd, hlc, hcm'⟩ := HO.out.form
      clear hrd hlc hcm'
      go_wp2_with fail
      go_ret
      exact ⟨A', out.length, c', out, rfl, rfl, HO.out, HE.out, (fun z hz => (HM.out z hz).keep (fun _ _ => rfl) (fun b hb => ⟨hb.1, hb.2.1⟩)), hB⟩
end Go.Proofs.Ytpbegikdohafbaa
