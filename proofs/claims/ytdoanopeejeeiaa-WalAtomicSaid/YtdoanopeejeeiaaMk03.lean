/- XDisk1 XDisk2 -/
import Derived.Test.YtdoanopeejeeiaaMk02
import Derived.Maps.OwnSet
import Derived.Shelf.SlMaps.Clone
import Derived.WideKeyEntry
namespace Go.Proofs.Ytdoanopeejeeiaa
set_option linter.all false
open Go.RowKit Go.Maps Go.WideElems Go.WideShapes
abbrev MD:=DataW Value
/-- An element reads as itself. -/
def heldR (v:Value):Option (MD × List MemPlace):=some (.held v,[])
theorem intK:Keyed Try.prog 3:=int_keyed Try.underlying3
theorem zeroS (w:World):(zeroValue 36).run Try.prog w=.ok (.slice none 0 0) w:=by kernel_rfl
theorem keyN {k:Nat} (hk:k < 4096):keyOf Try.prog 3 (.int .i64 (k:Int))=some (.int .i64 k):=keyOf_int_mk Try.underlying3 (by simp [Lit.wf,IntKind.min,IntKind.max,IntKind.bits,IntKind.signed];omega)
theorem litN {k:Nat} (hk:k < 4096):WideAt.IsKeyLit (.int .i64 (k:Int)):=intK.key (keyN hk)
/-- A row of a sector, as a value: its block, its room. -/
def sv (v:Nat × Nat):Value:=.slice (some ⟨v.1,0,none⟩) 256 v.2
def updR {α:Type} (r:Nat→Option α) (k:Nat) (v:α):Nat→Option α:=fun j=>if j=k then some v else r j
theorem updR_same {α:Type} (r:Nat→Option α) (k:Nat) (v:α):updR r k v k=some v:=if_pos rfl
theorem updR_other {α:Type} (r:Nat→Option α) {k j:Nat} (v:α) (h:j ≠ k):updR r k v j=r j:=if_neg h
/-- Block b is a map that holds just r. -/
def isMap (w:World) (b:Nat) (r:Nat→Option (Nat × Nat)):Prop :=
 ∃ D:MD,w.ownsMap Try.prog 3 heldR b 4096 D∧(∀ kl,Maps.has D kl=true→∃ k:Nat,k < 4096∧kl=.int .i64 (k:Int)) ∧
  (∀ k:Nat,r k=none→Maps.has D (.int .i64 (k:Int))=false)∧∀ (k:Nat) v,r k=some v→k < 4096∧∀ z,D.atKey (.int .i64 (k:Int)) z=.held (sv v)
theorem nodup_le:∀ (n:Nat) (l:List Nat),l.Nodup→(∀ x ∈ l,x < n)→l.length≤n
 | 0,l,_,h=>by
  cases l with
  | nil=>exact Nat.le_refl _
  | cons x r=>exact absurd (h x (by simp)) (Nat.not_lt_zero _)
 | n+1,l,hd,h=>by
  have h1:=nodup_le n (l.filter fun x=>decide (x ≠ n)) (List.Pairwise.filter _ hd) (fun x hx=>by
   have:=List.mem_filter.1 hx
   have h2:=h x this.1
   have h3:x ≠ n:=by simpa using this.2
   omega)
  have h2:∀ l:List Nat,l.Nodup→l.length≤(l.filter fun x=>decide (x ≠ n)).length+1:=fun l=>by
   induction l with
   | nil=>intro _;simp
   | cons x r ih =>
    intro hd
    have hd2:=List.nodup_cons.1 hd
    by_cases e:x=n
    ·subst e
     have:(r.filter fun y=>decide (y ≠ x))=r:=List.filter_eq_self.2 (fun y hy=>by
      have:y ≠ x:=fun e=>hd2.1 (e ▸ hy)
      simpa using this)
     rw [List.filter_cons_of_neg (by simp),this]
     simp
    ·rw [List.filter_cons_of_pos (by simpa using e)]
     have:=ih hd2.2
     simp only [List.length_cons]
     omega
  have:=h2 l hd
  omega
def litNat:Lit→Nat
 | .int _ q=>q.toNat
 | _=>0
theorem owns_keys {w:World} {b n:Nat} {D:MD} (h:w.ownsMap Try.prog 3 heldR b n D):∃ es,D=.map es∧es.Pairwise (fun p q=>p.1 ≠ q.1)∧∀ p ∈ es,WideAt.IsKeyLit p.1:=by
 obtain ⟨es,clock,_,F,_,rfl⟩:=h
 refine ⟨_,rfl,((sorted_perm _).pairwise_iff (fun {_ _} hne=>Ne.symm hne)).2 (Maps.fit_apart intK F),fun p hp=>?_⟩
 obtain ⟨v,hv⟩:=Maps.keys_perm (sorted_perm _).symm (Maps.fit_keys F) p hp
 exact intK.key hv
theorem keys_few {w:World} {b n:Nat} {D:MD} (h:w.ownsMap Try.prog 3 heldR b n D) (hk:∀ kl,Maps.has D kl=true→∃ k:Nat,k < 4096∧kl=.int .i64 (k:Int)):Maps.size D≤4096:=by
 obtain ⟨es,rfl,hp,hl⟩:=owns_keys h
 have hm:∀ p ∈ es,∃ k:Nat,k < 4096∧p.1=.int .i64 (k:Int):=fun p hpm =>
  hk p.1 (by rw [Maps.has_eq,List.any_eq_true];exact ⟨p,hpm,WideAt.sameKey_self (hl p hpm)⟩)
 have h1:=nodup_le 4096 (es.map fun p=>litNat p.1) (by
  have:(es.map fun p=>litNat p.1).Pairwise (· ≠ ·):=by
   rw [List.pairwise_map]
   refine List.Pairwise.imp_of_mem ?_ hp
   intro a b ha hb hne e
   obtain ⟨i,_,ei⟩:=hm a ha
   obtain ⟨j,_,ej⟩:=hm b hb
   apply hne
   rw [ei,ej] at e ⊢
   have:i=j:=by simpa [litNat] using e
   rw [this]
  exact this) (fun x hx=>by
   obtain ⟨p,hpm,rfl⟩:=List.mem_map.1 hx
   obtain ⟨k,hk2,e⟩:=hm p hpm
   rw [e]
   simpa [litNat] using hk2)
 rw [Maps.size_eq]
 simpa using h1
theorem owns_few {w:World} {b n m:Nat} {D:MD} (h:w.ownsMap Try.prog 3 heldR b n D) (hm:Maps.size D≤m):w.ownsMap Try.prog 3 heldR b m D:=by
 obtain ⟨es,clock,hb,F,hs,rfl⟩:=h
 refine ⟨es,clock,hb,F,?_,rfl⟩
 rw [Maps.size_eq,length_read] at hm
 exact hm
theorem isMap.made (w:World):isMap (w.alloc (.map #[] 0)) w.heap.size (fun _=>none) :=
 ⟨_,(World.ownsMap_made w Try.prog 3 heldR).mono (by omega),fun kl h=>by simp [Maps.has] at h,fun _ _=>rfl,fun _ _ h=>by cases h⟩
theorem isMap.lt {w:World} {b:Nat} {r:Nat→Option (Nat × Nat)} (h:isMap w b r):b < w.heap.size:=by
 obtain ⟨D,h,_⟩:=h
 exact h.lt
theorem isMap.keep {w w':World} {b:Nat} {r:Nat→Option (Nat × Nat)} (h:isMap w b r) (hb:w'.heap[b]?=w.heap[b]?):isMap w' b r:=by
 obtain ⟨D,⟨es,clock,e,F,hs,hD⟩,h2⟩:=h
 exact ⟨D,⟨es,clock,hb.trans e,F,hs,hD⟩,h2⟩
theorem isMap.has {w:World} {b:Nat} {r:Nat→Option (Nat × Nat)} {D:MD} {k:Nat} {v:Nat × Nat} (h:∀ (k:Nat) v,r k=some v→k < 4096∧∀ z,D.atKey (.int .i64 (k:Int)) z=.held (sv v)) (e:r k=some v):Maps.has D (.int .i64 (k:Int))=true :=
 Maps.has_true_of_atKey (h k v e).2
/-- v, ok := m[k]. -/
def lookV (o:Option (Nat × Nat)):Value:=match o with
 | none=>.slice none 0 0
 | some v=>sv v
theorem isMap.look {w:World} {b:Nat} {r:Nat→Option (Nat × Nat)} (h:isMap w b r) {k:Nat} (hk:k < 4096) :
  (Instr.lookup 58 (.map (some b)) (.int .i64 (k:Int)) true).run Try.prog w=.ok (.tuple #[lookV (r k),.bool (r k).isSome]) w:=by
 obtain ⟨D,hD,h1,h2,h3⟩:=h
 obtain ⟨v,ps,hrun,hv⟩:=hD.look_ok intK Try.underlying58 (zeroS w) (zd:=.held (.slice none 0 0)) (zp:=[]) rfl (keyN hk)
 have hv2:v=lookV (r k)∧Maps.has D (.int .i64 (k:Int))=(r k).isSome:=by
  have e0:DataW.held v=D.atKey (.int .i64 (k:Int)) (.held (.slice none 0 0)):=by
   have:=Option.some.inj hv
   exact congrArg Prod.fst this
  cases hr:r k with
  | none =>
   refine ⟨?_,h2 k hr⟩
   rw [Maps.atKey_of_not_has (h2 k hr)] at e0
   injection e0
  | some x =>
   refine ⟨?_,isMap.has (w:=w) (b:=b) h3 hr⟩
   rw [(h3 k x hr).2] at e0
   injection e0
 rw [hrun,hv2.1,hv2.2]
theorem isMap.put {D:MD} {r:Nat→Option (Nat × Nat)} {k:Nat} (hk:k < 4096) (v:Nat × Nat) (hM:IsMap D)
  (h1:∀ kl,Maps.has D kl=true→∃ k:Nat,k < 4096∧kl=.int .i64 (k:Int)) (h2:∀ k:Nat,r k=none→Maps.has D (.int .i64 (k:Int))=false) (h3:∀ (k:Nat) v,r k=some v→k < 4096∧∀ z,D.atKey (.int .i64 (k:Int)) z=.held (sv v)) :
  (∀ kl,Maps.has (D.put (.int .i64 (k:Int)) (.held (sv v))) kl=true→∃ k:Nat,k < 4096∧kl=.int .i64 (k:Int))∧(∀ j:Nat,updR r k v j=none→Maps.has (D.put (.int .i64 (k:Int)) (.held (sv v))) (.int .i64 (j:Int))=false) ∧
   ∀ (j:Nat) u,updR r k v j=some u→j < 4096∧∀ z,(D.put (.int .i64 (k:Int)) (.held (sv v))).atKey (.int .i64 (j:Int)) z=.held (sv u):=by
 have hne:∀ j:Nat,j ≠ k→(Lit.int .i64 (j:Int)) ≠ .int .i64 (k:Int):=fun j hj e=>hj (by injection e;omega)
 refine ⟨fun kl hkl=>?_,fun j hj=>?_,fun j u hj=>?_⟩
 ·by_cases e:kl=.int .i64 (k:Int)
  ·exact ⟨k,hk,e⟩
  ·rw [Maps.has_put_other e] at hkl
   exact h1 kl hkl
 ·by_cases e:j=k
  ·subst e;rw [updR_same] at hj;cases hj
  ·rw [updR_other _ _ e] at hj
   rw [Maps.has_put_other (hne j e)]
   exact h2 j hj
 ·by_cases e:j=k
  ·subst e
   rw [updR_same] at hj
   injection hj with hj
   subst hj
   exact ⟨hk,fun z=>Maps.atKey_put_same hM (litN hk) _ z⟩
  ·rw [updR_other _ _ e] at hj
   exact ⟨(h3 j u hj).1,fun z=>by rw [Maps.atKey_put_other (hne j e)];exact (h3 j u hj).2 z⟩
/-- m[k] = v. -/
theorem isMap.store {w:World} {b:Nat} {r:Nat→Option (Nat × Nat)} (h:isMap w b r) {k:Nat} (hk:k < 4096) (v:Nat × Nat) :
  ∃ w',(Instr.mapUpdate 58 (.map (some b)) (.int .i64 (k:Int)) (sv v)).run Try.prog w=.ok () w'∧isMap w' b (updR r k v)∧w.grownBy w' (some b):=by
 obtain ⟨D,hD,h1,h2,h3⟩:=h
 obtain ⟨w',hrun,hown,ht⟩:=hD.update intK Try.underlying58 (by unfold maxLen;omega) (keyN hk) (val:=sv v) rfl
 obtain ⟨g1,g2,g3⟩:=isMap.put hk v hD.isMap h1 h2 h3
 exact ⟨w',hrun,⟨_,owns_few hown (keys_few hown g1),g1,g2,g3⟩,ht⟩
end Go.Proofs.Ytdoanopeejeeiaa

/- The maps of a disk: a store in two steps, a clone, a look. -/
namespace Go.Proofs.Ytdoanopeejeeiaa
set_option linter.all false
open Go.RowKit Go.Maps Go.WideElems Go.WideShapes Go.ChangeMaps Go.MapKept
set_option maxRecDepth 100000 in
set_option maxHeartbeats 2000000 in
theorem cloneM_any (b:Nat) (r:Nat→Option (Nat × Nat)) (w:World) (h:isMap w b r) :
  Calls Try.prog 41 #[.map (some b)] w fun e w'=>e=.returned (.map (some w.heap.size))∧isMap w' w.heap.size r∧w.heap.size < w'.heap.size∧Below w.heap.size w w':=by
 obtain ⟨D,⟨es,clock,hb,F,hs,hD⟩,h2⟩:=h
 have hq:=fun w=>run_eql_map_nil_sl (P:=Try.prog) w 58 _ _ (some b) Try.underlying58
 go_enter Try.func41,Try.ntmps41
 go_wp2
 rw [run_callFunc_extern Try.func56 (by kernel_rfl) (by kernel_rfl) (by kernel_rfl) (e:=Extern.MapsClone.clone) (by kernel_rfl),run_maps_clone_sl w 58 hb]
 simp only [Result.andThen]
 rw [Oper.upon_value]
 go_wp2
 rw [run_typeAssert_map_sl _ 58 20 _ _ _ Try.underlying58]
 simp only [Result.andThen]
 rw [Oper.upon_value]
 go_wp2
 go_ret
 exact ⟨rfl,⟨D,⟨es,clock,(MapKept.heap_alloc w _).1,F,hs,hD⟩,h2⟩,by simp,(Below.refl _ w).alloc (Nat.le_refl _) _⟩
end Go.Proofs.Ytdoanopeejeeiaa

