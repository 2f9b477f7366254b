/- The maps of a disk: a store in two steps, a clone, a look. -/
import Derived.Test.YtommepmeohaijaaDisk1
import Derived.WideKeyEntry
namespace Go.Proofs.Ytommepmeohaijaa
set_option linter.all false
open Go.RowKit Go.Maps Go.WideElems Go.WideShapes Go.ChangeMaps Go.MapKept

/-- m[k] = v in two steps. -/
theorem isMap.entry {w : World} {b : Nat} {r : Nat → Option (Nat × Nat)} (h : isMap w b r) {k : Nat} (hk : k < 4096) :
    ∃ (v0 : Value) (st : Nat) (w1 : World), (Instr.mapEntry 68 (.map (some b)) (.int .i64 (k : Int))).run Try.prog w = .ok (.tuple #[v0, goInt st]) w1 ∧ w.grownBy w1 (some b) ∧
      ∀ (w2 : World), w2.heap[b]? = w1.heap[b]? → ∀ v : Nat × Nat, ∃ w3, (Instr.entryStore 68 (.map (some b)) (goInt st) (sv v)).run Try.prog w2 = .ok () w3 ∧ isMap w3 b (updR r k v) ∧ w2.grownBy w3 (some b) := by
  have hst := fun v => h.store hk v
  obtain ⟨D, ⟨es, clock, hb, F, hs, hD⟩, h123⟩ := h
  have hkey := keyN hk
  have ht := Try.underlying68
  have grow : ∀ (u : World) (es0 : Array MapEntry) (c0 : Nat) (X : Obj), u.heap[b]? = some (.map es0 c0) → u.grownBy (setBlock u b X) (some b) := fun u es0 c0 X hu =>
    ⟨rfl, rfl, rfl, by simp [setBlock], fun i _ hi => heap_setBlock_other hu _ (fun e => hi (by rw [e]))⟩
  have fin : ∀ (v : Nat × Nat) (w2 : World) (es1 es' : Array MapEntry) (c1 clock' : Nat), w2.heap[b]? = some (.map es1 c1) → (Instr.mapUpdate 68 (.map (some b)) (.int .i64 (k : Int)) (sv v)).run Try.prog w = .ok () (setBlock w b (.map es' clock')) →
      isMap (setBlock w2 b (.map es' clock')) b (updR r k v) := fun v w2 es1 es' c1 clock' h2 hrun => by
    obtain ⟨w', h3, h4, _⟩ := hst v
    rw [hrun] at h3
    injection h3 with _ h3
    subst h3
    exact h4.keep (by rw [heap_setBlock_same h2, heap_setBlock_same hb])
  obtain ⟨s1, s2, _⟩ := F.stamped
  rcases intK.find w hkey es.toList F.keys with ⟨h1, h2⟩ | ⟨j, e0, h1, h2, h3⟩
  · refine ⟨.slice none 0 0, clock, setBlock w b (.map (es.push ⟨.int .i64 (k : Int), .slice none 0 0, clock⟩) (clock + 1)), ?_, grow w es clock _ hb, fun w2 hw2 v => ?_⟩
    · simp [Instr.mapEntry, run_underlying ht, MapKept.run_getObj_map hb, intK.check w false hkey, h1, zeroS, MapKept.run_setObj_map _ hb, Result.andThen, setBlock]
    · rw [heap_setBlock_same hb] at hw2
      have hidx : (es.push ⟨.int .i64 (k : Int), .slice none 0 0, clock⟩).findIdx? (fun e => ((e.born : Nat) : Int) == ((clock : Nat) : Int)) = some es.size := by
        rw [findIdx_arr]
        have := findIdx_born (l := (es.push ⟨.int .i64 (k : Int), .slice none 0 0, clock⟩).toList) (j := es.size) (e0 := ⟨.int .i64 (k : Int), .slice none 0 0, clock⟩) (by
          simp only [Array.toList_push, List.map_append, List.map_cons, List.map_nil]
          refine List.nodup_append.2 ⟨s2, by simp, fun a ha c hc e1 => ?_⟩
          simp only [List.mem_singleton] at hc
          obtain ⟨x, hx, rfl⟩ := List.mem_map.1 ha
          have := s1 x hx
          omega) (by simp)
        exact this
      have hmod : (es.push ⟨.int .i64 (k : Int), .slice none 0 0, clock⟩).modify es.size (fun e => { e with val := sv v }) = es.push ⟨.int .i64 (k : Int), sv v, clock⟩ := by
        apply Array.ext'
        rw [Array.toList_modify, Array.toList_push, Array.toList_push, ← Array.length_toList, modify_last]
      refine ⟨setBlock w2 b (.map (es.push ⟨.int .i64 (k : Int), sv v, clock⟩) (clock + 1)), ?_, ?_, grow w2 _ _ _ hw2⟩
      · simp [Instr.entryStore, MapKept.run_getObj_map hw2, asInt, asIntOf, goInt, hidx, hmod, MapKept.run_setObj_map _ hw2, Result.andThen, setBlock]
      · refine fin v w2 _ _ _ _ hw2 ?_
        simp [Instr.mapUpdate, run_underlying ht, MapKept.run_getObj_map hb, intK.check w false hkey, h1, MapKept.run_setObj_map _ hb, Result.andThen, setBlock]
  · have hj : es[j]? = some e0 := by simpa using h2
    have hsame : es.modify j (fun e => { e with key := .int .i64 (k : Int) }) = es := by
      apply Array.ext'
      rw [Array.toList_modify, modify_eq_set _ _ _ _ h2]
      have : ({ e0 with key := .int .i64 (k : Int) } : MapEntry) = e0 := by rw [← h3]
      rw [this]
      exact set_self _ _ _ h2
    refine ⟨e0.val, e0.born, setBlock w b (.map es clock), ?_, grow w es clock _ hb, fun w2 hw2 v => ?_⟩
    · simp [Instr.mapEntry, run_underlying ht, MapKept.run_getObj_map hb, intK.check w false hkey, h1, hj, h3, intK.stays w hkey, hsame, MapKept.run_setObj_map _ hb, Result.andThen, setBlock]
    · rw [heap_setBlock_same hb] at hw2
      have hidx : es.findIdx? (fun e => ((e.born : Nat) : Int) == ((e0.born : Nat) : Int)) = some j := by
        rw [findIdx_arr]
        exact findIdx_born s2 h2
      have hmod : es.modify j (fun e => { e with val := sv v }) = es.modify j (fun e' => { e' with key := .int .i64 (k : Int), val := sv v }) := by
        apply Array.ext'
        rw [Array.toList_modify, Array.toList_modify, modify_eq_set _ _ _ _ h2, modify_eq_set _ _ _ _ h2, ← h3]
      refine ⟨setBlock w2 b (.map (es.modify j (fun e' => { e' with key := .int .i64 (k : Int), val := sv v })) clock), ?_, ?_, grow w2 _ _ _ hw2⟩
      · simp [Instr.entryStore, MapKept.run_getObj_map hw2, asInt, asIntOf, goInt, hidx, hmod, MapKept.run_setObj_map _ hw2, Result.andThen, setBlock]
      · refine fin v w2 _ _ _ _ hw2 ?_
        simp [Instr.mapUpdate, run_underlying ht, MapKept.run_getObj_map hb, intK.check w false hkey, h1, hj, h3, intK.stays w hkey, MapKept.run_setObj_map _ hb, Result.andThen, setBlock]

set_option maxRecDepth 100000 in
set_option maxHeartbeats 2000000 in
theorem cloneM_any (b : Nat) (r : Nat → Option (Nat × Nat)) (w : World) (h : isMap w b r) :
    Calls Try.prog 38 #[.map (some b)] w fun e w' => e = .returned (.map (some w.heap.size)) ∧ isMap w' w.heap.size r ∧ w.heap.size < w'.heap.size ∧ Below w.heap.size w w' := by
  obtain ⟨D, ⟨es, clock, hb, F, hs, hD⟩, h2⟩ := h
  have hq := fun w => run_eql_map_nil_sl (P := Try.prog) w 68 _ _ (some b) Try.underlying68
  go_enter Try.func38, Try.ntmps38
  go_wp2
  rw [run_callFunc_extern Try.func52 (by kernel_rfl) (by kernel_rfl) (by kernel_rfl) (e := Extern.MapsClone.clone) (by kernel_rfl), run_maps_clone_sl w 68 hb]
  simp only [Result.andThen]
  rw [Oper.upon_value]
  go_wp2
  rw [run_typeAssert_map_sl _ 68 20 _ _ _ Try.underlying68]
  simp only [Result.andThen]
  rw [Oper.upon_value]
  go_wp2
  go_ret
  exact ⟨rfl, ⟨D, ⟨es, clock, (MapKept.heap_alloc w _).1, F, hs, hD⟩, h2⟩, by simp, (Below.refl _ w).alloc (Nat.le_refl _) _⟩
end Go.Proofs.Ytommepmeohaijaa
