/- XStab XMem -/
import Derived.Test.YteoolehdomjkkaaGreatMe01
namespace Go.Proofs.YteoolehdomjkkaaGreat
set_option linter.all false
section
variable {α : Type} (wt : α → Int)
/-- The same elements of each weight, in the same order. -/
def FEq (l l':List α):Prop:=∀ v:Int,l'.filter (fun x=>wt x == v)=l.filter (fun x=>wt x == v)
def Srt (l:List α):Prop:=l.Pairwise (fun x y=>wt x≤wt y)
/-- l' is l, sorted stably. -/
def SS (l l':List α):Prop:=Srt wt l'∧FEq wt l l'
variable {wt}
theorem FEq.refl (l:List α):FEq wt l l:=fun _=>rfl
theorem FEq.trans {a b c:List α} (h:FEq wt a b) (k:FEq wt b c):FEq wt a c:=fun v=>(k v).trans (h v)
theorem FEq.symm {a b:List α} (h:FEq wt a b):FEq wt b a:=fun v=>(h v).symm
theorem FEq.append {a b a' b':List α} (h:FEq wt a a') (k:FEq wt b b'):FEq wt (a ++ b) (a' ++ b'):=fun v=>by
 rw [List.filter_append,List.filter_append,h v,k v]
theorem FEq.swap {U V:List α} (h:∀ x ∈ U,∀ y ∈ V,wt y < wt x):FEq wt (U ++ V) (V ++ U):=fun v=>by
 rw [List.filter_append,List.filter_append]
 by_cases hU:U.filter (fun x=>wt x == v)=[]
 ·rw [hU,List.append_nil,List.nil_append]
 ·have hV:V.filter (fun x=>wt x == v)=[]:=by
   obtain ⟨x,hx⟩:=List.exists_mem_of_ne_nil _ hU
   rw [List.mem_filter,beq_iff_eq] at hx
   rw [List.filter_eq_nil_iff]
   intro y hy e
   rw [beq_iff_eq] at e
   have:=h x hx.1 y hy
   omega
  rw [hV,List.append_nil,List.nil_append]
theorem FEq.mem {a b:List α} (h:FEq wt a b) (x:α):x ∈ b ↔ x ∈ a:=by
 have e:=h (wt x)
 have h1:∀ l:List α,x ∈ l ↔ x ∈ l.filter (fun y=>wt y == wt x):=fun l=>by simp [List.mem_filter]
 rw [h1 a,h1 b,e]
theorem FEq.perm [DecidableEq α] {a b:List α} (h:FEq wt a b):a.Perm b:=by
 rw [List.perm_iff_count]
 intro x
 have h1:∀ l:List α,l.count x=(l.filter (fun y=>wt y == wt x)).count x:=fun l=>by rw [List.count_filter (by simp)]
 rw [h1 a,h1 b,h (wt x)]
theorem FEq.length {a b:List α} (h:FEq wt a b):b.length=a.length:=by
 classical
 exact h.perm.length_eq.symm
theorem Srt.uniq {l:List α}:∀ {l':List α},Srt wt l→Srt wt l'→FEq wt l l'→l=l':=by
 induction l with
 | nil =>
  intro l' _ _ h
  have:=h.length
  exact (List.eq_nil_of_length_eq_zero (by simpa using this)).symm
 | cons x t ih =>
  intro l' h1 h2 h
  cases l' with
  | nil=>have:=h.length;simp at this
  | cons y s =>
   unfold Srt at h1 h2
   rw [List.pairwise_cons] at h1 h2
   have hxy:wt x=wt y:=by
    have hx:x ∈ y :: s:=(h.mem x).2 (by simp)
    have hy:y ∈ x :: t:=(h.mem y).1 (by simp)
    rw [List.mem_cons] at hx hy
    rcases hx with rfl | hx
    ·rfl
    rcases hy with rfl | hy
    ·rfl
    have:=h1.1 y hy
    have:=h2.1 x hx
    omega
   have e:=h (wt x)
   rw [List.filter_cons_of_pos (by simp [hxy]),List.filter_cons_of_pos (by simp)] at e
   injection e with e1 e2
   subst e1
   congr 1
   refine ih h1.2 h2.2 (fun v=>?_)
   by_cases hv:wt y=v
   ·subst hv;exact e2
   ·have e:=h v
    rwa [List.filter_cons_of_neg (by simpa using hv),List.filter_cons_of_neg (by simpa using hv)] at e
theorem SS.uniq {l a b:List α} (h:SS wt l a) (k:SS wt l b):a=b:=Srt.uniq h.1 k.1 (h.2.symm.trans k.2)
theorem SS.of {l:List α} (h:Srt wt l):SS wt l l:=⟨h,FEq.refl l⟩
theorem Srt.append {a b:List α}:Srt wt (a ++ b) ↔ Srt wt a∧Srt wt b∧∀ x ∈ a,∀ y ∈ b,wt x≤wt y:=List.pairwise_append
theorem Srt.one (x:α):Srt wt [x]:=List.pairwise_singleton _ _
theorem Srt.nil_:Srt wt []:=List.Pairwise.nil
/-- Two runs with a gap between them, each sorted. -/
theorem SS.join {U V M N:List α} (h:SS wt U M) (k:SS wt V N) (hg:∀ x ∈ U,∀ y ∈ V,wt x≤wt y):SS wt (U ++ V) (M ++ N) :=
 ⟨Srt.append.2 ⟨h.1,k.1,fun x hx y hy=>hg x ((h.2.mem x).1 hx) y ((k.2.mem y).1 hy)⟩,h.2.append k.2⟩
theorem SS.feq {l l' m:List α} (h:FEq wt l l') (k:SS wt l' m):SS wt l m:=⟨k.1,h.trans k.2⟩
/-- An element set behind all that are no heavier. -/
def insR (wt:α→Int) (acc:List α) (x:α):List α:=acc.takeWhile (fun y=>decide (wt y≤wt x)) ++ x :: acc.dropWhile (fun y=>decide (wt y≤wt x))
def stab (wt:α→Int) (l:List α):List α:=l.foldl (insR wt) []
theorem Srt.drop_gt {l:List α} {v:Int} (h:Srt wt l):∀ y ∈ l.dropWhile (fun y=>decide (wt y≤v)),v < wt y:=by
 induction l with
 | nil=>simp
 | cons x t ih =>
  unfold Srt at h
  rw [List.pairwise_cons] at h
  rw [List.dropWhile_cons]
  split
  ·exact ih h.2
  ·rename_i hx
   intro y hy
   rw [List.mem_cons] at hy
   have hx':v < wt x:=by simpa using hx
   rcases hy with rfl | hy
   ·exact hx'
   ·have:=h.1 y hy;omega
theorem takeWhile_le {l:List α} {v:Int}:∀ y ∈ l.takeWhile (fun y=>decide (wt y≤v)),wt y≤v:=by
 induction l with
 | nil=>simp
 | cons x t ih =>
  intro y hy
  rw [List.takeWhile_cons] at hy
  split at hy
  ·rename_i hx
   rw [List.mem_cons] at hy
   rcases hy with rfl | hy
   ·simpa using hx
   ·exact ih y hy
  ·cases hy
theorem SS.insert {l m:List α} (h:SS wt l m) {a b:List α} (hm:m=a ++ b) (x:α) (ha:∀ y ∈ a,wt y≤wt x) (hb:∀ y ∈ b,wt x < wt y):SS wt (l ++ [x]) (a ++ x :: b):=by
 subst hm
 obtain ⟨h1,h2,h3⟩:=Srt.append.1 h.1
 refine ⟨Srt.append.2 ⟨h1,?_,?_⟩,?_⟩
 ·unfold Srt
  rw [List.pairwise_cons]
  exact ⟨fun y hy=>by have:=hb y hy;omega,h2⟩
 ·intro y hy z hz
  rw [List.mem_cons] at hz
  rcases hz with rfl | hz
  ·exact ha y hy
  ·exact h3 y hy z hz
 ·have e1:FEq wt (l ++ [x]) ((a ++ b) ++ [x]):=h.2.append (FEq.refl _)
  refine e1.trans ?_
  rw [List.append_assoc]
  refine (FEq.refl a).append ?_
  exact FEq.swap (fun y hy z hz=>by
   have:z=x:=by simpa using hz
   subst this
   exact hb y hy)
theorem stab_ss (l:List α):SS wt l (stab wt l):=by
 induction l using snoc_ind with
 | h0=>exact SS.of Srt.nil_
 | h1 l x ih =>
  unfold stab at ih ⊢
  rw [List.foldl_append]
  exact ih.insert (List.takeWhile_append_dropWhile).symm x takeWhile_le (Srt.drop_gt ih.1)
theorem SS.eq_stab {l m:List α} (h:SS wt l m):m=stab wt l:=h.uniq (stab_ss l)
theorem stab_snoc {l a b:List α} {x:α} (hm:stab wt l=a ++ b) (ha:∀ y ∈ a,wt y≤wt x) (hb:∀ y ∈ b,wt x < wt y):stab wt (l ++ [x])=a ++ x :: b :=
 ((stab_ss l).insert hm x ha hb).eq_stab.symm
end
end Go.Proofs.YteoolehdomjkkaaGreat

/- Items and packages, plainly: a tree each. -/
namespace Go.Proofs.YteoolehdomjkkaaGreat
set_option linter.all false
open Go.RowKit
inductive Mem where
 | leaf (w:Int) (p:Nat)
 | node (l r:Mem)
instance:Inhabited Mem:=⟨.leaf 0 0⟩
/-- How heavy. -/
def Mem.w:Mem→Int
 | .leaf x _=>x
 | .node l r=>l.w+r.w
/-- Which items, in their order. -/
def Mem.items:Mem→List Nat
 | .leaf _ p=>[p]
 | .node l r=>l.items ++ r.items
/-- A member and where it stands. -/
abbrev MP:=Nat × Mem
/-- Block a holds t; every block of it is in S. -/
def isM (w:World) (S:Nat→Prop):Nat→Mem→Prop
 | a,.leaf x p=>S a∧w.cell? ⟨a,0,none⟩=some (.int .i64 x)∧w.cell? ⟨a,1,none⟩=some (.int .i64 p)∧w.cell? ⟨a,2,none⟩=some (.slice none 0 0)
 | a,.node l r=>S a∧w.cell? ⟨a,0,none⟩=some (.int .i64 (l.w+r.w))∧w.cell? ⟨a,1,none⟩=some (.int .i64 0) ∧
   ∃ g o c x y,w.cell? ⟨a,2,none⟩=some (.slice (some ⟨g,o,none⟩) 2 c)∧S g∧2≤c∧c≤maxLen∧w.cell? ⟨g,o,none⟩=some (.pointer (some ⟨x,0,none⟩))∧w.cell? ⟨g,o+1,none⟩=some (.pointer (some ⟨y,0,none⟩))∧isM w S x l∧isM w S y r
theorem isM.keep {w w':World} {S S':Nat→Prop} (hk:∀ p:Addr,S p.block→w'.cell? p=w.cell? p) (hS:∀ b,S b→S' b):∀ {t:Mem} {a:Nat},isM w S a t→isM w' S' a t:=by
 intro t
 induction t with
 | leaf x p =>
  intro a h
  obtain ⟨h0,h1,h2,h3⟩:=h
  exact ⟨hS _ h0,(hk ⟨a,0,none⟩ h0).trans h1,(hk ⟨a,1,none⟩ h0).trans h2,(hk ⟨a,2,none⟩ h0).trans h3⟩
 | node l r ihl ihr =>
  intro a h
  obtain ⟨h0,h1,h2,g,o,c,x,y,h3,h4,h5,h6,h7,h8,h9,h10⟩:=h
  exact ⟨hS _ h0,(hk ⟨a,0,none⟩ h0).trans h1,(hk ⟨a,1,none⟩ h0).trans h2,g,o,c,x,y,(hk ⟨a,2,none⟩ h0).trans h3,hS _ h4,h5,h6,(hk ⟨g,o,none⟩ h4).trans h7,(hk ⟨g,o+1,none⟩ h4).trans h8,ihl h9,ihr h10⟩
theorem isM.root {w:World} {S:Nat→Prop} {t:Mem} {a:Nat} (h:isM w S a t):S a:=by
 cases t with
 | leaf x p=>exact h.1
 | node l r=>exact h.1
theorem isM.weight {w:World} {S:Nat→Prop} {t:Mem} {a:Nat} (h:isM w S a t):w.cell? ⟨a,0,none⟩=some (.int .i64 t.w):=by
 cases t with
 | leaf x p=>exact h.2.1
 | node l r=>exact h.2.1
/-- The blocks from lo on, but for v's own. -/
def Out (lo:Nat) (w:World) (v:Value):Nat→Prop:=fun b=>lo≤b∧b < w.heap.size∧v.ownBlock ≠ some b
/-- The blocks from lo on, below hi. -/
def Rng (lo hi:Nat):Nat→Prop:=fun b=>lo≤b∧b < hi
theorem isM.alloc {lo:Nat} {w:World} {v:Value} {a:Nat} {t:Mem} (h:isM w (Out lo w v) a t) (o:Obj):isM (w.alloc o) (Out lo (w.alloc o) v) a t :=
 h.keep (fun p hp=>World.cell?_alloc_lt w o p hp.2.1) (fun b hb=>⟨hb.1,by have:=hb.2.1;simp;omega,hb.2.2⟩)
theorem isM.drewN {w:World} {S:Nat→Prop} {a:Nat} {t:Mem} (h:isM w S a t) (k:Nat):isM (w.drewN k) S a t:=isM.keep (w:=w) (w':=w.drewN k) (S:=S) (S':=S) (fun _ _=>rfl) (fun _ hb=>hb) h
theorem isM.drewO {lo:Nat} {w:World} {v:Value} {a:Nat} {t:Mem} (h:isM w (Out lo w v) a t) (k:Nat):isM (w.drewN k) (Out lo (w.drewN k) v) a t:=isM.keep (w:=w) (w':=w.drewN k) (S:=Out lo w v) (S':=Out lo (w.drewN k) v) (fun _ _=>rfl) (fun _ hb=>hb) h
theorem isM.app {lo:Nat} {w w':World} {v v':Value} {a:Nat} {t:Mem} (h:isM w (Out lo w v) a t) (hg:w.grownBy w' v.ownBlock) (hv:v'.ownBlock=v.ownBlock∨v'.ownBlock=some w.heap.size):isM w' (Out lo w' v') a t :=
 h.keep (fun p hp=>World.cell?_of_block (hg.block p.block hp.2.1 (fun e=>hp.2.2 e.symm))) (fun b hb=>⟨hb.1,by have:=hb.2.1;have:=hg.size;omega,by
  rcases hv with e | e
  ·rw [e];exact hb.2.2
  ·rw [e];intro e';injection e' with e';have:=hb.2.1;omega⟩)
theorem isM.rng {lo:Nat} {w:World} {v:Value} {a:Nat} {t:Mem} (h:isM w (Out lo w v) a t):isM w (Rng lo w.heap.size) a t:=h.keep (fun _ _=>rfl) (fun b hb=>⟨hb.1,hb.2.1⟩)
theorem isM.blw {w w':World} {lo hi B:Nat} {t:Mem} {a:Nat} (h:isM w (Rng lo hi) a t) (hb:Below B w w') (hB:hi≤B):isM w' (Rng lo hi) a t:=h.keep (fun p hp=>hb.cell (by have:=hp.2;omega)) (fun _ h=>h)
theorem isM.more {w:World} {lo lo' hi hi':Nat} {t:Mem} {a:Nat} (h:isM w (Rng lo hi) a t) (h1:lo'≤lo) (h2:hi≤hi'):isM w (Rng lo' hi') a t:=h.keep (fun _ _=>rfl) (fun b hb=>⟨by have:=hb.1;omega,by have:=hb.2;omega⟩)
/-- The items of weights, with their places. -/
def leaves (ws:List Int):List Mem:=ws.zipIdx.filterMap fun x=>if 0 < x.1 then some (.leaf x.1 x.2) else none
theorem leaves_snoc (ws:List Int) (x:Int):leaves (ws ++ [x])=leaves ws ++ if 0 < x then [.leaf x ws.length] else []:=by
 unfold leaves
 rw [List.zipIdx_append,List.filterMap_append]
 by_cases h:0 < x
 ·simp [h]
 ·simp [h]
/-- What is packed two by two. -/
def packs:List Mem→List Mem
 | a :: b :: r=>.node a b :: packs r
 | _=>[]
/-- Two lists as one, the first one's ahead of the second's as heavy. -/
def mrgBy {α:Type} (wt:α→Int):List α→List α→List α
 | [],b=>b
 | a :: r,[]=>a :: r
 | a :: r,b :: s=>if wt b < wt a then b :: mrgBy wt (a :: r) s else a :: mrgBy wt r (b :: s)
termination_by a b=>a.length+b.length
/-- So many rounds. -/
def pmL (first:List Mem):Nat→List Mem
 | 0=>first
 | k+1=>mrgBy Mem.w first (packs (pmL first k))
def bump (xs:List Int) (p:Nat):List Int:=xs.set p (xs.getD p 0+1)
def bumps (xs:List Int) (ps:List Nat):List Int:=ps.foldl bump xs
/-- The lengths that weights have. -/
def lensOf (ws:List Int) (m:Nat):List Int :=
 if (leaves ws).length=1 then bumps (List.replicate ws.length 0) ((leaves ws).flatMap Mem.items)
 else bumps (List.replicate ws.length 0) (((pmL (stab Mem.w (leaves ws)) (m - 1)).take (2 * (leaves ws).length - 2)).flatMap Mem.items)
def posn (ws:List Int):Nat:=(ws.filter fun x=>decide (0 < x)).length
def badW (ws:List Int):Bool:=ws.any fun x=>decide (x < 0) || decide (1073741824 < x)
/-- May weights not be? -/
def wrongH (ws:List Int) (most:Int):Bool:=decide (ws.length < 1) || decide (300 < ws.length) || decide (most < 1) || decide (15 < most) || badW ws || decide (2 ^ most.toNat < posn ws)
theorem leaves_length (ws:List Int):(leaves ws).length=posn ws:=by
 induction ws using snoc_ind with
 | h0=>rfl
 | h1 l x ih =>
  rw [leaves_snoc,List.length_append,ih]
  unfold posn
  rw [List.filter_append,List.length_append]
  by_cases h:0 < x <;> simp [h]
end Go.Proofs.YteoolehdomjkkaaGreat

