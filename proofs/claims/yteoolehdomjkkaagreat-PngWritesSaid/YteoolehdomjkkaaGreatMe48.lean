/- XLen5P -/
import Derived.Test.YteoolehdomjkkaaGreatMe47
import Derived.Test.YteoolehdomjkkaaGreatMe12
namespace Go.Proofs.YteoolehdomjkkaaGreat
set_option linter.all false
open Go.RowKit
theorem rdI_far2 {w w':World} {B n:Nat} {A:Option Addr} {l:List Int} {row:Option Nat} (h:RdI w B A n l) (hg:w.grownBy w' row) (hB:B≤w.heap.size) (hA:∀ a,A=some a→row ≠ some a.block):RdI w' B A n l :=
 ⟨h.1,fun hn=>by
  obtain ⟨b,o,e,hb,hc⟩:=h.2 hn
  refine ⟨b,o,e,hb,fun j u hu=>?_⟩
  exact (World.cell?_of_block (hg.block b (by omega) (fun e'=>hA _ e e'.symm))).trans (hc j u hu)⟩
theorem rdE_far {w w':World} {B n:Nat} {A:Option Addr} {l:List MX} {row:Option Nat} (h:RdE w B A n l) (hg:w.grownBy w' row) (hB:B≤w.heap.size) (hA:∀ a,A=some a→row ≠ some a.block):RdE w' B A n l :=
 ⟨h.1,fun hn=>by
  obtain ⟨b,o,e,hb,hc⟩:=h.2 hn
  refine ⟨b,o,e,hb,fun j u hu=>?_⟩
  exact (World.cell?_of_block (hg.block b (by omega) (fun e'=>hA _ e e'.symm))).trans (hc j u hu)⟩
theorem gb_set2 {g o:Nat} {w w':World} (h:w.grownBy w' (some g)) (v:Value):w.grownBy (w'.setCell ⟨g,o,none⟩ v) (some g) :=
 ⟨h.os,h.tape,h.output,by simp;exact h.size,fun k hk hne=>(Below.heap_setCell _ _ _ _ (fun e=>hne (by rw [e]))).trans (h.block k hk hne)⟩
theorem gb_refl2 (w:World) (r:Option Nat):w.grownBy w r:=⟨rfl,rfl,rfl,Nat.le_refl _,fun _ _ _=>rfl⟩
theorem plI_get {l:List Nat} {e:Nat} {y:Int} (h:(plI l)[e]?=some y):∃ p:Nat,y=p∧l[e]?=some p:=by
 unfold plI at h
 rw [List.getElem?_map] at h
 cases hl:l[e]? with
 | none=>rw [hl] at h;cases h
 | some p=>rw [hl] at h;exact ⟨p,(Option.some.inj h).symm,rfl⟩
/-- Each member's places lie in a row of its own, not in the block of v. -/
def MO (w:World) (v:Value) (l:List MX):Prop:=∀ x ∈ l,RdI w w.heap.size x.2.1 x.2.2.1 (plI x.1.items)∧(∀ a,x.2.1=some a→v.ownBlock ≠ some a.block∧a.block < w.heap.size)
theorem MO.nil (w:World) (v:Value):MO w v []:=fun x hx=>by cases hx
theorem MO.alloc {w:World} {v:Value} {l:List MX} (h:MO w v l) (o:Obj):MO (w.alloc o) v l:=fun x hx =>
 ⟨(((h x hx).1.alloc (Nat.le_refl _) o).more (by simp)),fun a ha=>⟨((h x hx).2 a ha).1,by have:=((h x hx).2 a ha).2;simp;omega⟩⟩
theorem MO.drewN {w:World} {v:Value} {l:List MX} (h:MO w v l) (q:Nat):MO (w.drewN q) v l:=h
theorem MO.drew {w:World} {v:Value} {l:List MX} (h:MO w v l):MO w.drew v l:=h
theorem MO.later {w w':World} {v:Value} {l:List MX} (h:MO w v l) (hb:Below w.heap.size w w'):MO w' v l:=fun x hx =>
 ⟨RdI.later (h x hx).1 hb,fun a ha=>⟨((h x hx).2 a ha).1,by have:=((h x hx).2 a ha).2;have:=hb.size;omega⟩⟩
/-- The row v grows. -/
theorem MO.app {w w':World} {v v':Value} {l:List MX} (h:MO w v l) (hg:w.grownBy w' v.ownBlock) (hat:v'.ownBlock=v.ownBlock∨v'.ownBlock=some w.heap.size):MO w' v' l:=fun x hx=>by
 refine ⟨(rdI_far2 (h x hx).1 hg (Nat.le_refl _) (fun a ha=>((h x hx).2 a ha).1)).more hg.size,fun a ha=>⟨?_,by have:=((h x hx).2 a ha).2;have:=hg.size;omega⟩⟩
 rcases hat with e | e
 ·rw [e];exact ((h x hx).2 a ha).1
 ·rw [e]
  intro e2
  injection e2 with e2
  have:=((h x hx).2 a ha).2
  omega
/-- Another row grows, which lies in none of the members' blocks. -/
theorem MO.gro {w w':World} {v:Value} {l:List MX} {r:Option Nat} (h:MO w v l) (hg:w.grownBy w' r) (hr:∀ k,r=some k→w.heap.size≤k∨∀ x ∈ l,∀ a,x.2.1=some a→a.block ≠ k):MO w' v l:=fun x hx=>by
 refine ⟨(rdI_far2 (h x hx).1 hg (Nat.le_refl _) (fun a ha e=>?_)).more hg.size,fun a ha=>⟨((h x hx).2 a ha).1,by have:=((h x hx).2 a ha).2;have:=hg.size;omega⟩⟩
 rcases hr _ e with h1 | h1
 ·have:=((h x hx).2 a ha).2;omega
 ·exact h1 x hx a ha rfl
theorem MO.perm {w:World} {v:Value} {l l':List MX} (h:MO w v l) (hs:∀ x ∈ l',x ∈ l):MO w v l':=fun x hx=>h x (hs x hx)
theorem MO.ok {w:World} {v:Value} {l:List MX} (h:MO w v l):MOk w w.heap.size l:=fun x hx=>(h x hx).1
/-- An item put in its place: the members' rows are as they were. -/
theorem ins_mo {W2 w3 w4:World} {gi ci k s:Nat} {L:List MX} {x':MX} {v4:Value}
  (hM:MO W2 (.slice (some ⟨gi,0,none⟩) L.length ci) L) (hlt:∀ y ∈ L,∀ a,y.2.1=some a→a.block < s) (hG3:W2.grownBy w3 (some (s+1)))
  (hR:RdI w3 w3.heap.size x'.2.1 x'.2.2.1 (plI x'.1.items)) (hA:x'.2.1=some ⟨s,0,none⟩) (hs:s < w3.heap.size) (hgs:gi < s)
  (hG4:w3.grownBy w4 (some gi)) (hat:v4.ownBlock=some gi∨v4.ownBlock=some w3.heap.size):MO w4 v4 (L.take k ++ ([x'] ++ L.drop k)):=by
 have h3:MO w3 (.slice (some ⟨gi,0,none⟩) L.length ci) L:=hM.gro hG3 (fun j hj=>.inr (fun y hy a ha=>by
  injection hj with hj
  have:=hlt y hy a ha
  omega))
 have h4:MO w3 (.slice (some ⟨gi,0,none⟩) L.length ci) (L.take k ++ ([x'] ++ L.drop k)):=by
  intro y hy
  rw [List.mem_append,List.mem_append,List.mem_singleton] at hy
  rcases hy with hy | rfl | hy
  ·exact h3 y (List.mem_of_mem_take hy)
  ·refine ⟨hR,fun a ha=>?_⟩
   rw [hA] at ha
   injection ha with ha
   subst ha
   refine ⟨fun e=>?_,hs⟩
   have e2:some gi=some s:=e
   injection e2 with e2
   omega
  ·exact h3 y (List.mem_of_mem_drop hy)
 exact h4.app (v':=v4) hG4 hat
/-- A shorter row of the same block. -/
theorem ownE.take {w:World} {base n c:Nat} {A:Option Addr} {l:List MX} (h:ownE w base (.slice A n c) l) {k:Nat} (hk:k≤n) (hn:0 < n):ownE w base (.slice A k c) (l.take k):=by
 have hpos:=h.pos hn
 obtain ⟨hl,-⟩:=hpos
 unfold ownE at h ⊢
 obtain ⟨h1,h2⟩:=h
 have hlk:(l.take k).length=k:=by rw [List.length_take];omega
 have hck:cE (l.take k)=(cE l).take (k * 2):=by
  rcases Nat.lt_or_ge k l.length with hq | hq
  ·conv=>rhs;rw [← List.take_append_drop k l,cE_append]
   rw [List.take_left' (by rw [cE_length,hlk])]
  ·rw [List.take_of_length_le hq,List.take_of_length_le (by rw [cE_length];exact Nat.mul_le_mul_right _ hq)]
 refine ⟨by rw [cE_length],?_⟩
 rcases h2 with ⟨h',h0⟩ | ⟨g,cap,cur,h',hb,hg,h3,h4,h5,h6⟩
 ·injection h' with _ e _
  omega
 ·injection h' with e1 e2 e3
  subst e1 e3
  right
  refine ⟨g,c,cur,by rw [hlk],hb,hg,by omega,h4,h5,?_⟩
  rw [hlk,hck,← h6,List.take_take,Nat.min_eq_left (Nat.mul_le_mul_right _ (by omega))]
theorem own_oneE (w:World) (x:MX):ownE (w.alloc (.cells (eE x).toArray 203)) w.heap.size (.slice (some ⟨w.heap.size,0,none⟩) 1 1) [x]:=by
 have:=World.ownsRow_lit (base:=w.heap.size) (size:=2) (e:=203) w (eE x).toArray 1 (Nat.le_refl _) (by unfold maxLen;omega) (by simp [eE])
 simp only [List.toList_toArray] at this
 unfold ownE
 rw [cE_single]
 exact this
/-- A new item in its place. -/
theorem ins_ok {ws:List Int} {i k:Nat} {x:Int} {L:List MX} {x':MX} (hx:ws[i]?=some x) (h0:0 < x) (hm:L.map (·.1)=stab Mem.w (leaves (ws.take i))) (hk:k≤L.length)
  (hb:∀ y ∈ L.drop k,x < mxw y) (ha:k=0∨∃ y,L[k - 1]?=some y∧mxw y≤x) (hx':x'.1=.leaf x i):(L.take k ++ x' :: L.drop k).map (·.1)=stab Mem.w (leaves (ws.take (i+1))):=by
 obtain ⟨hi,e⟩:=List.getElem?_eq_some_iff.1 hx
 rw [List.take_succ_eq_append_getElem hi,e,leaves_snoc,if_pos h0,show (ws.take i).length=i by rw [List.length_take];omega]
 have hs:Srt Mem.w (L.map (·.1)):=by rw [hm];exact (stab_ss _).1
 have hspl:stab Mem.w (leaves (ws.take i))=(L.take k).map (·.1) ++ (L.drop k).map (·.1):=by rw [← hm,← List.map_append,List.take_append_drop]
 rw [stab_snoc hspl ?_ ?_]
 ·rw [List.map_append,List.map_cons,hx']
 ·intro y hy
  obtain ⟨z,hz,rfl⟩:=List.mem_map.1 hy
  rcases ha with rfl | ⟨y0,hy0,hle⟩
  ·simp at hz
  ·obtain ⟨hk0,ey0⟩:=List.getElem?_eq_some_iff.1 hy0
   obtain ⟨j,hj,ez⟩:=List.mem_iff_getElem.1 hz
   rw [List.getElem_take] at ez
   rw [List.length_take] at hj
   have hjk:j < k:=by omega
   show z.1.w≤x
   by_cases hjk1:j=k - 1
   ·subst hjk1
    rw [← ez,ey0]
    exact hle
   ·unfold Srt at hs
    rw [List.pairwise_map,List.pairwise_iff_getElem] at hs
    have:=hs j (k - 1) (by omega) hk0 (by omega)
    rw [ez,ey0] at this
    exact Int.le_trans this hle
 ·intro y hy
  obtain ⟨z,hz,rfl⟩:=List.mem_map.1 hy
  exact hb z hz
theorem packs_two {Z:List MX} {d:Nat} {x y:MX} (hx:Z[d]?=some x) (hy:Z[d+1]?=some y):packs ((Z.drop d).map (·.1))=.node x.1 y.1 :: packs ((Z.drop (d+2)).map (·.1)):=by
 obtain ⟨h1,e1⟩:=List.getElem?_eq_some_iff.1 hx
 obtain ⟨h2,e2⟩:=List.getElem?_eq_some_iff.1 hy
 rw [List.drop_eq_getElem_cons h1,e1,List.drop_eq_getElem_cons h2,e2]
 rfl
theorem packs_end {Z:List MX} {d:Nat} (h:Z.length≤d+1):packs ((Z.drop d).map (·.1))=[]:=by
 have:(Z.drop d).length≤1:=by rw [List.length_drop];omega
 match hz:Z.drop d,this with
 | [],_=>rfl
 | [x],_=>rfl
/-- Four cells that a round of packages reads. -/
abbrev Cs4 (w:World) (bl o d:Nat) (x y:MX):Prop :=
 w.cell? ⟨bl,o+d * 2,none⟩=some (.int .i64 x.1.w)∧w.cell? ⟨bl,o+d * 2+1,none⟩=some (.slice x.2.1 x.2.2.1 x.2.2.2)∧w.cell? ⟨bl,o+(d+1) * 2,none⟩=some (.int .i64 y.1.w)∧w.cell? ⟨bl,o+(d+1) * 2+1,none⟩=some (.slice y.2.1 y.2.2.1 y.2.2.2)
theorem Cs4.blw {w w':World} {bl o d B:Nat} {x y:MX} (h:Cs4 w bl o d x y) (hb:Below B w w') (hl:bl < B):Cs4 w' bl o d x y:=by
 obtain ⟨a,b,c,e⟩:=h
 exact ⟨(hb.cell (p:=⟨bl,_,none⟩) hl).trans a,(hb.cell (p:=⟨bl,_,none⟩) hl).trans b,(hb.cell (p:=⟨bl,_,none⟩) hl).trans c,(hb.cell (p:=⟨bl,_,none⟩) hl).trans e⟩
/-- A package put behind the others. -/
theorem pack_mo {w5 w7:World} {vP vP':Value} {P:List MX} {x':MX} {o:Obj} (hM:MO w5 vP P) (hx:RdI w5 w5.heap.size x'.2.1 x'.2.2.1 (plI x'.1.items)) (hA:∀ a,x'.2.1=some a→vP.ownBlock ≠ some a.block∧a.block < w5.heap.size)
  (hG:(w5.alloc o).grownBy w7 vP.ownBlock) (hat:vP'.ownBlock=vP.ownBlock∨vP'.ownBlock=some (w5.alloc o).heap.size):MO w7 vP' (P ++ [x']):=by
 have h5:MO w5 vP (P ++ [x']):=fun y hy=>by
  rw [List.mem_append,List.mem_singleton] at hy
  rcases hy with hy | rfl
  ·exact hM y hy
  ·exact ⟨hx,hA⟩
 exact (h5.alloc o).app (v':=vP') hG hat
end Go.Proofs.YteoolehdomjkkaaGreat

