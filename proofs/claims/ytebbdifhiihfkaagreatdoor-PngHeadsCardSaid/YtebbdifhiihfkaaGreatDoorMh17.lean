/- XRowC -/
import Derived.Test.YtebbdifhiihfkaaGreatDoorMh01
namespace Go.Proofs.YtebbdifhiihfkaaGreatDoor
set_option linter.all false
open Go.RowKit
def eC (x:(Nat × Int)):List Value:=[Value.int .u32 (x.1:Int),Value.int .i64 x.2]
theorem eC_len (x:(Nat × Int)):(eC x).length=2:=rfl
/-- The cells of a list. -/
def cC (l:List (Nat × Int)):List Value:=l.flatMap eC
theorem cC_length:∀ l:List (Nat × Int),(cC l).length=l.length * 2
 | []=>rfl
 | x :: l=>by
  have:=cC_length l
  unfold cC at this ⊢
  rw [List.flatMap_cons,List.length_append,this,eC_len,List.length_cons]
  omega
theorem cC_append (a b:List (Nat × Int)):cC (a ++ b)=cC a ++ cC b:=by simp [cC]
theorem cC_get:∀ (l:List (Nat × Int)) (k j:Nat) (hk:k < l.length),j < 2→(cC l)[k * 2+j]?=(eC l[k])[j]?
 | x :: l,0,j,_,hj=>by
  unfold cC
  rw [List.flatMap_cons,List.getElem?_append_left (by rw [eC_len];omega)]
  simp
 | x :: l,i+1,j,hi,hj=>by
  have:=cC_get l i j (by simpa using hi) hj
  unfold cC at this ⊢
  rw [List.flatMap_cons,List.getElem?_append_right (by rw [eC_len];omega),eC_len,List.getElem_cons_succ,← this]
  congr 1
  omega
theorem cC_set (l:List (Nat × Int)) (k:Nat) (x:(Nat × Int)) (hk:k < l.length):cC (l.set k x)=((cC l).set (k * 2) (Value.int .u32 (x.1:Int))).set (k * 2+1) (Value.int .i64 x.2):=by
 have e1:l=l.take k ++ l[k] :: l.drop (k+1):=by rw [← List.drop_eq_getElem_cons hk,List.take_append_drop]
 have e2:l.set k x=l.take k ++ x :: l.drop (k+1):=by rw [List.set_eq_take_append_cons_drop,if_pos hk]
 rw [e2]
 have hl:(cC (l.take k)).length=k * 2:=by rw [cC_length,List.length_take,Nat.min_eq_left (by omega)]
 have e3:cC l=cC (l.take k) ++ (eC l[k] ++ cC (l.drop (k+1))):=by
  conv=>lhs;rw [e1]
  rw [cC_append]
  simp only [cC,List.flatMap_cons]
 have e4:cC (l.take k ++ x :: l.drop (k+1))=cC (l.take k) ++ (eC x ++ cC (l.drop (k+1))):=by
  rw [cC_append]
  simp only [cC,List.flatMap_cons]
 rw [e3,e4]
 generalize cC (l.take k)=P at *
 rw [← hl]
 simp [eC,List.set_append]
theorem Tryz.info_C:(Tryz.prog.info? 192).map (fun i=>(i.zero,i.size,i.bytes))=some (some (.agg #[.int .u32 0,.int .i64 0]),2,16):=by kernel_rfl
def ownC (w:World) (base:Nat) (v:Value) (l:List (Nat × Int)):Prop:=w.ownsRow base 192 2 v l.length (cC l)
def RdC (w:World) (B:Nat) (A:Option Addr) (n:Nat) (l:List (Nat × Int)):Prop:=Rd w B 2 A n (cC l)
theorem RdC.len {w:World} {B n:Nat} {A:Option Addr} {l:List (Nat × Int)} (h:RdC w B A n l):l.length=n:=by
 have:=h.1;rw [cC_length] at this;omega
theorem RdC.one {w:World} {B n:Nat} {A:Option Addr} {l:List (Nat × Int)} (h:RdC w B A n l) {k:Nat} (hk:k < n) :
  ∃ b o x,A=some ⟨b,o,none⟩∧b < B∧Hid (l[k]?=some x)∧w.cell? ⟨b,o+k * 2,none⟩=some (Value.int .u32 (x.1:Int))∧w.cell? ⟨b,o+k * 2+1,none⟩=some (Value.int .i64 x.2):=by
 obtain ⟨b,o,e,hb,hc⟩:=h.2 (by omega)
 have hl:=h.len
 have hk':k < l.length:=by omega
 refine ⟨b,o,l[k],e,hb,List.getElem?_eq_getElem hk',?_,?_⟩
 ·exact hc (k * 2) _ ((cC_get l k 0 hk' (by omega)).trans rfl)
 ·exact hc (k * 2+1) _ ((cC_get l k 1 hk' (by omega)).trans rfl)
theorem RdC.blw {w w':World} {B n:Nat} {A:Option Addr} {l:List (Nat × Int)} (h:RdC w B A n l) (hb:Below B w w'):RdC w' B A n l:=Rd.below h hb
theorem RdC.more {w:World} {B B' n:Nat} {A:Option Addr} {l:List (Nat × Int)} (h:RdC w B A n l) (hB:B≤B'):RdC w B' A n l:=Rd.more h hB
theorem RdC.here {w:World} {B n:Nat} {A:Option Addr} {l:List (Nat × Int)} (h:RdC w B A n l):RdC w w.heap.size A n l :=
 ⟨h.1,fun hn=>by
  obtain ⟨b,o,e,hb,hc⟩:=h.2 hn
  have hl:=h.1
  exact ⟨b,o,e,block_lt_of_cell (a:=⟨b,o+0,none⟩) (hc 0 (cC l)[0] (List.getElem?_eq_getElem (by omega))),hc⟩⟩
theorem RdC.later {w w':World} {n:Nat} {A:Option Addr} {l:List (Nat × Int)} (h:RdC w w.heap.size A n l) (hb:Below w.heap.size w w'):RdC w' w'.heap.size A n l:=RdC.here (RdC.blw h hb)
theorem RdC.alloc {w:World} {B n:Nat} {A:Option Addr} {l:List (Nat × Int)} (h:RdC w B A n l) (hB:B≤w.heap.size) (o:Obj):RdC (w.alloc o) B A n l:=Rd.alloc h hB o
theorem RdC.nil_ {w:World} {B:Nat} {A:Option Addr}:RdC w B A 0 []:=⟨by simp [cC],fun h=>absurd h (by omega)⟩
theorem RdC.cut {w:World} {B n:Nat} {A:Option Addr} {l:List (Nat × Int)} (h:RdC w B A n l) {k m:Nat} (hk:k+m≤n) {A':Option Addr} (hA:0 < m→A'=A.map (·.add (k * 2))) :
  RdC w B A' m ((l.drop k).take m):=by
 have:=Rd.cut h hk (A':=A') hA
 unfold RdC
 have e1:∀ (q:Nat) (l:List (Nat × Int)),cC (l.take q)=(cC l).take (q * 2):=fun q l=>by
  rcases Nat.lt_or_ge q l.length with hq | hq
  ·conv=>rhs;rw [← List.take_append_drop q l,cC_append]
   rw [List.take_left' (by rw [cC_length,List.length_take,Nat.min_eq_left (by omega)])]
  ·rw [List.take_of_length_le hq,List.take_of_length_le (by rw [cC_length];exact Nat.mul_le_mul_right _ hq)]
 have e2:∀ (q:Nat) (l:List (Nat × Int)),cC (l.drop q)=(cC l).drop (q * 2):=fun q l=>by
  rcases Nat.lt_or_ge q l.length with hq | hq
  ·conv=>rhs;rw [← List.take_append_drop q l,cC_append]
   rw [List.drop_left' (by rw [cC_length,List.length_take,Nat.min_eq_left (by omega)])]
  ·rw [List.drop_eq_nil_of_le hq,List.drop_eq_nil_of_le (by rw [cC_length];exact Nat.mul_le_mul_right _ hq)]
   rfl
 rw [e1,e2]
 exact this
theorem ownC.nil_ (w:World) (base:Nat):ownC w base (.slice none 0 0) []:=World.ownsRow_nil _ _ _ _
theorem ownC.mono {w:World} {base base':Nat} {v:Value} {l:List (Nat × Int)} (h:ownC w base v l) (hb:base'≤base):ownC w base' v l:=by
 refine ⟨h.1,?_⟩
 rcases h.2 with hn | ⟨g,cap,cur,rfl,hbg,rest⟩
 ·exact .inl hn
 ·exact .inr ⟨g,cap,cur,rfl,by omega,rest⟩
theorem ownC.later {w w':World} {base:Nat} {v:Value} {l:List (Nat × Int)} (h:ownC w base v l) (hb:Below w.heap.size w w'):ownC w' base v l :=
 Below.ownsRow h hb (fun g hg=>(World.ownsRow.lt h g hg).2)
theorem ownC.alloc {w:World} {base:Nat} {v:Value} {l:List (Nat × Int)} (h:ownC w base v l) (o:Obj):ownC (w.alloc o) base v l:=World.ownsRow.alloc h o
theorem ownC.drew {w:World} {base:Nat} {v:Value} {l:List (Nat × Int)} (h:ownC w base v l):ownC w.drew base v l:=h
theorem ownC.drewN {w:World} {base:Nat} {v:Value} {l:List (Nat × Int)} (h:ownC w base v l) (n:Nat):ownC (w.drewN n) base v l:=h
theorem ownC.form {w:World} {base:Nat} {v:Value} {l:List (Nat × Int)} (h:ownC w base v l) :
  ∃ A c,v=.slice A l.length c∧RdC w w.heap.size A l.length l∧l.length≤c∧c≤maxLen:=by
 rcases h.2 with ⟨rfl,h0⟩ | ⟨g,cap,cur,rfl,_,_,h1,h2,_⟩
 ·have:l=[]:=List.eq_nil_of_length_eq_zero h0
  subst this
  exact ⟨none,0,rfl,Rd.none_,by simp,by simp⟩
 ·exact ⟨_,_,rfl,Rd.of_own h,h1,h2⟩
theorem ownC.kept {w w':World} {base:Nat} {v:Value} {l:List (Nat × Int)} {row:Option Nat} (h:ownC w base v l) (hg:w.grownBy w' row) (hne:v.ownBlock=none∨v.ownBlock ≠ row):ownC w' base v l :=
 World.ownsRow.kept h hg hne
theorem ownC.far {w:World} {base g:Nat} {v:Value} {l:List (Nat × Int)} (h:ownC w base v l) (hg:v.ownBlock ≠ some g) (o:Nat) (u:Value) :
  ownC (w.setCell ⟨g,o,none⟩ u) base v l:=by
 refine ⟨h.1,?_⟩
 rcases h.2 with hn | ⟨g',cap,cur,rfl,hb,hgg,rest⟩
 ·exact .inl hn
 ·refine .inr ⟨g',cap,cur,rfl,hb,?_,rest⟩
  rw [Below.heap_setCell _ _ _ _ (by intro e;apply hg;simp [Value.ownBlock];exact e)]
  exact hgg
theorem ownC.ne {w:World} {base g:Nat} {v:Value} {l:List (Nat × Int)} (h:ownC w base v l) (hg:g < base):v.ownBlock ≠ some g:=by
 intro e
 have:=(World.ownsRow.lt h g e).1
 omega
theorem ownC.pos {w:World} {base n c:Nat} {A:Option Addr} {l:List (Nat × Int)} (h:ownC w base (.slice A n c) l) (hn:0 < n):n=l.length∧∃ g,A=some ⟨g,0,none⟩∧base≤g∧g < w.heap.size:=by
 rcases h.2 with ⟨h',_⟩ | ⟨g,cap,cur,h',hb,hg,_⟩
 ·injection h' with _ h2;omega
 ·injection h' with h1 h2
  exact ⟨h2,g,h1,hb,(World.ownsRow.lt h g (by rw [h1];rfl)).2⟩
theorem ownC.cell {w:World} {base g n c:Nat} {l:List (Nat × Int)} (h:ownC w base (.slice (some ⟨g,0,none⟩) n c) l) (hn:n=l.length) {k:Nat} (hk:k < l.length) :
  w.cell? ⟨g,k * 2,none⟩=some ((fun x:(Nat × Int)=>Value.int .u32 (x.1:Int)) l[k])∧w.cell? ⟨g,k * 2+1,none⟩=some ((fun x:(Nat × Int)=>Value.int .i64 x.2) l[k]):=by
 subst hn
 refine ⟨?_,?_⟩
 ·exact (World.ownsRow.cellAt h (k * 2) (by have:=hk;omega)).trans ((cC_get l k 0 hk (by omega)).trans rfl)
 ·exact (World.ownsRow.cellAt h (k * 2+1) (by have:=hk;omega)).trans ((cC_get l k 1 hk (by omega)).trans rfl)
theorem ownC.frozen {w:World} {base g n c:Nat} {l:List (Nat × Int)} (h:ownC w base (.slice (some ⟨g,0,none⟩) n c) l) (hn:n=l.length) (k:Nat) :
  w.frozen? ⟨g,k,none⟩=false:=by
 subst hn
 exact World.ownsRow.frozenAt h k
theorem ownC.store {w:World} {base g n c:Nat} {l:List (Nat × Int)} (h:ownC w base (.slice (some ⟨g,0,none⟩) n c) l) (hn:n=l.length) (k:Nat) (x:(Nat × Int)) (hk:k < l.length) :
  ownC ((w.setCell ⟨g,k * 2,none⟩ (Value.int .u32 (x.1:Int))).setCell ⟨g,k * 2+1,none⟩ (Value.int .i64 x.2)) base (.slice (some ⟨g,0,none⟩) n c) (l.set k x):=by
 subst hn
 have h0:w.ownsRow base 192 2 (.slice (some ⟨g,0,none⟩) l.length c) l.length (cC l):=h
 have h1:=(World.ownsRow.stored h0 (k * 2) (Value.int .u32 (x.1:Int))).1
 have h2:=(World.ownsRow.stored h1 (k * 2+1) (Value.int .i64 x.2)).1
 unfold ownC
 rw [List.length_set,cC_set l k x hk]
 exact h2
theorem ownC.rd {w:World} {base n c:Nat} {A:Option Addr} {l:List (Nat × Int)} (h:ownC w base (.slice A n c) l):RdC w w.heap.size A n l:=by
 obtain ⟨A4,c4,e5,hd4,_,_⟩:=h.form
 injection e5 with e1 e2 e3
 rw [e1,e2]
 exact hd4
/-- make of n zeros, in a new block. -/
theorem wpList_makeC {w:World} {ops:Array Oper} {rest:List Oper} {o:Oper} {a:Act} {Q:Exit→Act→World→Prop}
  (hg:o.guard=none) (l c:Operand) (hop:o.op=Op.makeSlice 187 l c) (n:Nat) (L:Int) (hl:a.eval l=.int .i64 L) (hc:a.eval c=.int .i64 L)
  (hL:L=(n:Int)) (hn:n≤1099511627776)
  (hK:∀ w',ownC w' w.heap.size (.slice (some ⟨w.heap.size,0,none⟩) n n) (List.replicate n ((0,0):Nat × Int))→Below w.heap.size w w'→w.heap.size < w'.heap.size →
   wpList Tryz.prog ops Q rest (a.put o.dst (.slice (some ⟨w.heap.size,0,none⟩) n n)) w') :
  wpList Tryz.prog ops Q (o :: rest) a w:=by
 obtain ⟨i0,hi,hz0,hz1,hz2⟩:=info_parts Tryz.info_C
 refine wpList_make_full w hg l c 187 hop w.heap.size 192 i0 _ 2 Tryz.underlying187 hi hz0 hz1 _ _ _ _ n hl hc hL hL (by rw [hz2];omega) (by unfold maxLen;omega) (Nat.le_refl _) ?_
 intro w' h1 h2
 have h3:ownC w' w.heap.size (.slice (some ⟨w.heap.size,0,none⟩) n n) (List.replicate n ((0,0):Nat × Int)):=by
  unfold ownC
  have e1:(madeCells (.agg #[.int .u32 0,.int .i64 0]:Value).cells (n * 2)).toList=cC (List.replicate n ((0,0):Nat × Int)):=by
   apply List.ext_getElem?
   intro j
   by_cases hj:j < n * 2
   ·have hq:j / 2 < n:=by omega
    have ej:j=j / 2 * 2+j % 2:=by omega
    have hg:=cC_get (List.replicate n ((0,0):Nat × Int)) (j / 2) (j % 2) (by simpa using hq) (by omega)
    rw [← ej] at hg
    rw [hg,List.getElem_replicate]
    have hm:j % 2 < 2:=by omega
    rw [Array.getElem?_toList]
    rw [madeCells,Array.getElem?_map,Array.getElem?_range,if_pos hj]
    show some ((#[.int .u32 0,.int .i64 0]:Array Value)[j % 2]!)=_
    match j % 2,hm with
    | 0,_=>rfl
    | 1,_=>rfl
   ·rw [List.getElem?_eq_none (by simp [madeCells];omega),List.getElem?_eq_none (by rw [cC_length];simp;omega)]
  rw [e1] at h1
  rw [List.length_replicate]
  exact h1
 exact hK w' h3 ((Below.refl _ _).grown h2 (Nat.le_refl _) (by simp)) (World.ownsRow.lt h3 _ rfl).2
end Go.Proofs.YtebbdifhiihfkaaGreatDoor

