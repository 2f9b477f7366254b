/- Merged: MX, RowE, Sorted, Len5P, Len5. -/
import Derived.Deep.RegionHeld3
import Derived.Deep.CutBlock
import Derived.Test.YteoolehdomjkkaaGreatMd03
import Derived.Test.YteoolehdomjkkaaGreatMd01
import Derived.Test.YteoolehdomjkkaaGreatMd05
import Derived.Test.YteoolehdomjkkaaGreatMd06
import Derived.Test.YteoolehdomjkkaaGreatMd11
/- The document's members: a tree, and where the row of its places lies. -/
namespace Go.Proofs.YteoolehdomjkkaaGreat
set_option linter.all false
open Go.RowKit
abbrev MX:=Mem × Option Addr × Nat × Nat
def mxw (x:MX):Int:=x.1.w
def plI (l:List Nat):List Int:=l.map fun (x:Nat)=>(x:Int)
theorem plI_append (a b:List Nat):plI (a ++ b)=plI a ++ plI b:=by simp [plI]
/-- Each member's places lie in its row, below B. -/
def MOk (w:World) (B:Nat) (l:List MX):Prop:=∀ x ∈ l,RdI w B x.2.1 x.2.2.1 (plI x.1.items)
theorem MOk.blw {w w':World} {B:Nat} {l:List MX} (h:MOk w B l) (hb:Below B w w'):MOk w' B l:=fun x hx=>(h x hx).blw hb
theorem MOk.more {w:World} {B B':Nat} {l:List MX} (h:MOk w B l) (hB:B≤B'):MOk w B' l:=fun x hx=>(h x hx).more hB
theorem MOk.nil (w:World) (B:Nat):MOk w B []:=fun x hx=>by cases hx
theorem MOk.app {w:World} {B:Nat} {a b:List MX} (h:MOk w B a) (k:MOk w B b):MOk w B (a ++ b):=fun x hx=>by
 rcases List.mem_append.1 hx with h1 | h1
 ·exact h x h1
 ·exact k x h1
theorem MOk.one {w:World} {B:Nat} {x:MX} (h:RdI w B x.2.1 x.2.2.1 (plI x.1.items)):MOk w B [x]:=fun y hy=>by
 rw [List.mem_singleton] at hy
 rw [hy]
 exact h
theorem MOk.at {w:World} {B:Nat} {l:List MX} (h:MOk w B l) {k:Nat} {x:MX} (hx:l[k]?=some x):RdI w B x.2.1 x.2.2.1 (plI x.1.items):=h x (List.mem_of_getElem? hx)
theorem mx_map:∀ (n:Nat) (a b:List MX),a.length+b.length≤n→(mrgBy mxw a b).map (·.1)=mrgBy Mem.w (a.map (·.1)) (b.map (·.1)):=by
 intro n
 induction n with
 | zero =>
  intro a b h
  obtain rfl:a=[]:=List.eq_nil_of_length_eq_zero (by omega)
  obtain rfl:b=[]:=List.eq_nil_of_length_eq_zero (by omega)
  simp [mrgBy]
 | succ n ih =>
  intro a b h
  cases a with
  | nil=>simp [mrgBy]
  | cons x r =>
   cases b with
   | nil=>simp [mrgBy]
   | cons y s =>
    simp only [List.length_cons] at h
    rw [mrgBy,List.map_cons,List.map_cons,mrgBy]
    unfold mxw
    split
    ·rw [List.map_cons]
     have:=ih (x :: r) s (by simp only [List.length_cons];omega)
     unfold mxw at this
     rw [this,List.map_cons]
    ·rw [List.map_cons]
     have:=ih r (y :: s) (by simp only [List.length_cons];omega)
     unfold mxw at this
     rw [this,List.map_cons]
theorem mx_mem:∀ (n:Nat) (a b:List MX),a.length+b.length≤n→∀ x ∈ mrgBy mxw a b,x ∈ a∨x ∈ b:=by
 intro n
 induction n with
 | zero =>
  intro a b h x hx
  obtain rfl:a=[]:=List.eq_nil_of_length_eq_zero (by omega)
  obtain rfl:b=[]:=List.eq_nil_of_length_eq_zero (by omega)
  simp [mrgBy] at hx
 | succ n ih =>
  intro a b h x hx
  cases a with
  | nil=>rw [mrgBy] at hx;exact .inr hx
  | cons p r =>
   cases b with
   | nil=>simp [mrgBy] at hx;left;simpa using hx
   | cons q s =>
    simp only [List.length_cons] at h
    rw [mrgBy] at hx
    split at hx
    ·rcases List.mem_cons.1 hx with e | hx
     ·right;rw [e];simp
     ·rcases ih (p :: r) s (by simp only [List.length_cons];omega) x hx with h1 | h1
      ·exact .inl h1
      ·right;simp [h1]
    ·rcases List.mem_cons.1 hx with e | hx
     ·left;rw [e];simp
     ·rcases ih r (q :: s) (by simp only [List.length_cons];omega) x hx with h1 | h1
      ·left;simp [h1]
      ·exact .inr h1
/-- The merge, by where it stands in both lists. -/
theorem mx_takeA {a b:List MX} {i k:Nat} {x:MX} (hx:a[i]?=some x) (h:b.length≤k∨∃ y,b[k]?=some y∧mxw x≤mxw y):mrgBy mxw (a.drop i) (b.drop k)=x :: mrgBy mxw (a.drop (i+1)) (b.drop k):=by
 obtain ⟨hi,e⟩:=List.getElem?_eq_some_iff.1 hx
 rw [List.drop_eq_getElem_cons hi,e]
 rcases h with h | ⟨y,hy,hle⟩
 ·rw [List.drop_eq_nil_of_le h]
  cases a.drop (i+1) <;> simp [mrgBy]
 ·obtain ⟨hk,e2⟩:=List.getElem?_eq_some_iff.1 hy
  rw [List.drop_eq_getElem_cons hk,e2,mrgBy,if_neg (by omega)]
theorem mx_takeB {a b:List MX} {i k:Nat} {y:MX} (hy:b[k]?=some y) (h:a.length≤i∨∃ x,a[i]?=some x∧mxw y < mxw x):mrgBy mxw (a.drop i) (b.drop k)=y :: mrgBy mxw (a.drop i) (b.drop (k+1)):=by
 obtain ⟨hk,e⟩:=List.getElem?_eq_some_iff.1 hy
 rw [List.drop_eq_getElem_cons hk,e]
 rcases h with h | ⟨x,hx,hlt⟩
 ·rw [List.drop_eq_nil_of_le h,mrgBy,mrgBy]
 ·obtain ⟨hi,e2⟩:=List.getElem?_eq_some_iff.1 hx
  rw [List.drop_eq_getElem_cons hi,e2,mrgBy,if_pos hlt]
theorem mx_len:∀ (n:Nat) (a b:List MX),a.length+b.length≤n→(mrgBy mxw a b).length=a.length+b.length:=by
 intro n
 induction n with
 | zero =>
  intro a b h
  obtain rfl:a=[]:=List.eq_nil_of_length_eq_zero (by omega)
  obtain rfl:b=[]:=List.eq_nil_of_length_eq_zero (by omega)
  simp [mrgBy]
 | succ n ih =>
  intro a b h
  cases a with
  | nil=>simp [mrgBy]
  | cons p r =>
   cases b with
   | nil=>simp [mrgBy]
   | cons q s =>
    simp only [List.length_cons] at h
    rw [mrgBy]
    split
    ·rw [List.length_cons,ih (p :: r) s (by simp only [List.length_cons];omega)];simp only [List.length_cons];omega
    ·rw [List.length_cons,ih r (q :: s) (by simp only [List.length_cons];omega)];simp only [List.length_cons];omega
end Go.Proofs.YteoolehdomjkkaaGreat

/- Rows of aquref5.member: 2 cells an element. -/
namespace Go.Proofs.YteoolehdomjkkaaGreat
set_option linter.all false
open Go.RowKit
def eE (x:MX):List Value:=[Value.int .i64 x.1.w,Value.slice x.2.1 x.2.2.1 x.2.2.2]
theorem eE_len (x:MX):(eE x).length=2:=rfl
/-- The cells of a list. -/
def cE (l:List MX):List Value:=l.flatMap eE
theorem cE_length:∀ l:List MX,(cE l).length=l.length * 2
 | []=>rfl
 | x :: l=>by
  have:=cE_length l
  unfold cE at this ⊢
  rw [List.flatMap_cons,List.length_append,this,eE_len,List.length_cons]
  omega
theorem cE_append (a b:List MX):cE (a ++ b)=cE a ++ cE b:=by simp [cE]
theorem cE_single (x:MX):cE [x]=eE x:=by simp [cE]
theorem cE_get:∀ (l:List MX) (k j:Nat) (hk:k < l.length),j < 2→(cE l)[k * 2+j]?=(eE l[k])[j]?
 | x :: l,0,j,_,hj=>by
  unfold cE
  rw [List.flatMap_cons,List.getElem?_append_left (by rw [eE_len];omega)]
  simp
 | x :: l,i+1,j,hi,hj=>by
  have:=cE_get l i j (by simpa using hi) hj
  unfold cE at this ⊢
  rw [List.flatMap_cons,List.getElem?_append_right (by rw [eE_len];omega),eE_len,List.getElem_cons_succ,← this]
  congr 1
  omega
theorem cE_one (l:List MX):∀ u ∈ cE l,u.oneCell'=true:=by
 intro u hu
 simp only [cE,List.mem_flatMap] at hu
 obtain ⟨x,_,hx⟩:=hu
 simp only [eE,List.mem_cons,List.not_mem_nil,or_false] at hx
 rcases hx with rfl | rfl <;> rfl
theorem cE_set (l:List MX) (k:Nat) (x:MX) (hk:k < l.length):cE (l.set k x)=((cE l).set (k * 2) (Value.int .i64 x.1.w)).set (k * 2+1) (Value.slice x.2.1 x.2.2.1 x.2.2.2):=by
 have e1:l=l.take k ++ l[k] :: l.drop (k+1):=by rw [← List.drop_eq_getElem_cons hk,List.take_append_drop]
 have e2:l.set k x=l.take k ++ x :: l.drop (k+1):=by rw [List.set_eq_take_append_cons_drop,if_pos hk]
 rw [e2]
 have hl:(cE (l.take k)).length=k * 2:=by rw [cE_length,List.length_take,Nat.min_eq_left (by omega)]
 have e3:cE l=cE (l.take k) ++ (eE l[k] ++ cE (l.drop (k+1))):=by
  conv=>lhs;rw [e1]
  rw [cE_append]
  simp only [cE,List.flatMap_cons]
 have e4:cE (l.take k ++ x :: l.drop (k+1))=cE (l.take k) ++ (eE x ++ cE (l.drop (k+1))):=by
  rw [cE_append]
  simp only [cE,List.flatMap_cons]
 rw [e3,e4]
 generalize cE (l.take k)=P at *
 rw [← hl]
 simp [eE,List.set_append]
theorem Tryz.info_E:(Tryz.prog.info? 203).map (fun i=>(i.zero,i.size,i.bytes))=some (some (.agg #[.int .i64 0,.slice none 0 0]),2,32):=by kernel_rfl
def ownE (w:World) (base:Nat) (v:Value) (l:List MX):Prop:=w.ownsRow base 203 2 v l.length (cE l)
def RdE (w:World) (B:Nat) (A:Option Addr) (n:Nat) (l:List MX):Prop:=Rd w B 2 A n (cE l)
theorem RdE.len {w:World} {B n:Nat} {A:Option Addr} {l:List MX} (h:RdE w B A n l):l.length=n:=by
 have:=h.1;rw [cE_length] at this;omega
theorem RdE.one {w:World} {B n:Nat} {A:Option Addr} {l:List MX} (h:RdE w B A n l) {k:Nat} (hk:k < n) :
  ∃ b o x,A=some ⟨b,o,none⟩∧b < B∧Hid (l[k]?=some x)∧w.cell? ⟨b,o+k * 2,none⟩=some (Value.int .i64 x.1.w)∧w.cell? ⟨b,o+k * 2+1,none⟩=some (Value.slice x.2.1 x.2.2.1 x.2.2.2):=by
 obtain ⟨b,o,e,hb,hc⟩:=h.2 (by omega)
 have hl:=h.len
 have hk':k < l.length:=by omega
 refine ⟨b,o,l[k],e,hb,List.getElem?_eq_getElem hk',?_,?_⟩
 ·exact hc (k * 2) _ ((cE_get l k 0 hk' (by omega)).trans rfl)
 ·exact hc (k * 2+1) _ ((cE_get l k 1 hk' (by omega)).trans rfl)
theorem RdE.blw {w w':World} {B n:Nat} {A:Option Addr} {l:List MX} (h:RdE w B A n l) (hb:Below B w w'):RdE w' B A n l:=Rd.below h hb
theorem RdE.more {w:World} {B B' n:Nat} {A:Option Addr} {l:List MX} (h:RdE w B A n l) (hB:B≤B'):RdE w B' A n l:=Rd.more h hB
theorem RdE.here {w:World} {B n:Nat} {A:Option Addr} {l:List MX} (h:RdE w B A n l):RdE w w.heap.size A n l :=
 ⟨h.1,fun hn=>by
  obtain ⟨b,o,e,hb,hc⟩:=h.2 hn
  have hl:=h.1
  exact ⟨b,o,e,block_lt_of_cell (a:=⟨b,o+0,none⟩) (hc 0 (cE l)[0] (List.getElem?_eq_getElem (by omega))),hc⟩⟩
theorem RdE.later {w w':World} {n:Nat} {A:Option Addr} {l:List MX} (h:RdE w w.heap.size A n l) (hb:Below w.heap.size w w'):RdE w' w'.heap.size A n l:=RdE.here (RdE.blw h hb)
theorem RdE.alloc {w:World} {B n:Nat} {A:Option Addr} {l:List MX} (h:RdE w B A n l) (hB:B≤w.heap.size) (o:Obj):RdE (w.alloc o) B A n l:=Rd.alloc h hB o
theorem RdE.nil_ {w:World} {B:Nat} {A:Option Addr}:RdE w B A 0 []:=⟨by simp [cE],fun h=>absurd h (by omega)⟩
theorem RdE.cut {w:World} {B n:Nat} {A:Option Addr} {l:List MX} (h:RdE w B A n l) {k m:Nat} (hk:k+m≤n) {A':Option Addr} (hA:0 < m→A'=A.map (·.add (k * 2))) :
  RdE w B A' m ((l.drop k).take m):=by
 have:=Rd.cut h hk (A':=A') hA
 unfold RdE
 have e1:∀ (q:Nat) (l:List MX),cE (l.take q)=(cE l).take (q * 2):=fun q l=>by
  rcases Nat.lt_or_ge q l.length with hq | hq
  ·conv=>rhs;rw [← List.take_append_drop q l,cE_append]
   rw [List.take_left' (by rw [cE_length,List.length_take,Nat.min_eq_left (by omega)])]
  ·rw [List.take_of_length_le hq,List.take_of_length_le (by rw [cE_length];exact Nat.mul_le_mul_right _ hq)]
 have e2:∀ (q:Nat) (l:List MX),cE (l.drop q)=(cE l).drop (q * 2):=fun q l=>by
  rcases Nat.lt_or_ge q l.length with hq | hq
  ·conv=>rhs;rw [← List.take_append_drop q l,cE_append]
   rw [List.drop_left' (by rw [cE_length,List.length_take,Nat.min_eq_left (by omega)])]
  ·rw [List.drop_eq_nil_of_le hq,List.drop_eq_nil_of_le (by rw [cE_length];exact Nat.mul_le_mul_right _ hq)]
   rfl
 rw [e1,e2]
 exact this
theorem ownE.nil_ (w:World) (base:Nat):ownE w base (.slice none 0 0) []:=World.ownsRow_nil _ _ _ _
theorem ownE.mono {w:World} {base base':Nat} {v:Value} {l:List MX} (h:ownE w base v l) (hb:base'≤base):ownE w base' v l:=by
 refine ⟨h.1,?_⟩
 rcases h.2 with hn | ⟨g,cap,cur,rfl,hbg,rest⟩
 ·exact .inl hn
 ·exact .inr ⟨g,cap,cur,rfl,by omega,rest⟩
theorem ownE.later {w w':World} {base:Nat} {v:Value} {l:List MX} (h:ownE w base v l) (hb:Below w.heap.size w w'):ownE w' base v l :=
 Below.ownsRow h hb (fun g hg=>(World.ownsRow.lt h g hg).2)
theorem ownE.alloc {w:World} {base:Nat} {v:Value} {l:List MX} (h:ownE w base v l) (o:Obj):ownE (w.alloc o) base v l:=World.ownsRow.alloc h o
theorem ownE.drew {w:World} {base:Nat} {v:Value} {l:List MX} (h:ownE w base v l):ownE w.drew base v l:=h
theorem ownE.drewN {w:World} {base:Nat} {v:Value} {l:List MX} (h:ownE w base v l) (n:Nat):ownE (w.drewN n) base v l:=h
theorem ownE.form {w:World} {base:Nat} {v:Value} {l:List MX} (h:ownE w base v l) :
  ∃ A c,v=.slice A l.length c∧RdE w w.heap.size A l.length l∧l.length≤c∧c≤maxLen:=by
 rcases h.2 with ⟨rfl,h0⟩ | ⟨g,cap,cur,rfl,_,_,h1,h2,_⟩
 ·have:l=[]:=List.eq_nil_of_length_eq_zero h0
  subst this
  exact ⟨none,0,rfl,Rd.none_,by simp,by simp⟩
 ·exact ⟨_,_,rfl,Rd.of_own h,h1,h2⟩
theorem ownE.kept {w w':World} {base:Nat} {v:Value} {l:List MX} {row:Option Nat} (h:ownE w base v l) (hg:w.grownBy w' row) (hne:v.ownBlock=none∨v.ownBlock ≠ row):ownE w' base v l :=
 World.ownsRow.kept h hg hne
theorem ownE.far {w:World} {base g:Nat} {v:Value} {l:List MX} (h:ownE w base v l) (hg:v.ownBlock ≠ some g) (o:Nat) (u:Value) :
  ownE (w.setCell ⟨g,o,none⟩ u) base v l:=by
 refine ⟨h.1,?_⟩
 rcases h.2 with hn | ⟨g',cap,cur,rfl,hb,hgg,rest⟩
 ·exact .inl hn
 ·refine .inr ⟨g',cap,cur,rfl,hb,?_,rest⟩
  rw [Below.heap_setCell _ _ _ _ (by intro e;apply hg;simp [Value.ownBlock];exact e)]
  exact hgg
theorem ownE.ne {w:World} {base g:Nat} {v:Value} {l:List MX} (h:ownE w base v l) (hg:g < base):v.ownBlock ≠ some g:=by
 intro e
 have:=(World.ownsRow.lt h g e).1
 omega
theorem ownE.pos {w:World} {base n c:Nat} {A:Option Addr} {l:List MX} (h:ownE w base (.slice A n c) l) (hn:0 < n):n=l.length∧∃ g,A=some ⟨g,0,none⟩∧base≤g∧g < w.heap.size:=by
 rcases h.2 with ⟨h',_⟩ | ⟨g,cap,cur,h',hb,hg,_⟩
 ·injection h' with _ h2;omega
 ·injection h' with h1 h2
  exact ⟨h2,g,h1,hb,(World.ownsRow.lt h g (by rw [h1];rfl)).2⟩
theorem ownE.cell {w:World} {base g n c:Nat} {l:List MX} (h:ownE w base (.slice (some ⟨g,0,none⟩) n c) l) (hn:n=l.length) {k:Nat} (hk:k < l.length) :
  w.cell? ⟨g,k * 2,none⟩=some ((fun x:MX=>Value.int .i64 x.1.w) l[k])∧w.cell? ⟨g,k * 2+1,none⟩=some ((fun x:MX=>Value.slice x.2.1 x.2.2.1 x.2.2.2) l[k]):=by
 subst hn
 refine ⟨?_,?_⟩
 ·exact (World.ownsRow.cellAt h (k * 2) (by have:=hk;omega)).trans ((cE_get l k 0 hk (by omega)).trans rfl)
 ·exact (World.ownsRow.cellAt h (k * 2+1) (by have:=hk;omega)).trans ((cE_get l k 1 hk (by omega)).trans rfl)
theorem ownE.frozen {w:World} {base g n c:Nat} {l:List MX} (h:ownE w base (.slice (some ⟨g,0,none⟩) n c) l) (hn:n=l.length) (k:Nat) :
  w.frozen? ⟨g,k,none⟩=false:=by
 subst hn
 exact World.ownsRow.frozenAt h k
theorem ownE.store {w:World} {base g n c:Nat} {l:List MX} (h:ownE w base (.slice (some ⟨g,0,none⟩) n c) l) (hn:n=l.length) (k:Nat) (x:MX) (hk:k < l.length) :
  ownE ((w.setCell ⟨g,k * 2,none⟩ (Value.int .i64 x.1.w)).setCell ⟨g,k * 2+1,none⟩ (Value.slice x.2.1 x.2.2.1 x.2.2.2)) base (.slice (some ⟨g,0,none⟩) n c) (l.set k x):=by
 subst hn
 have h0:w.ownsRow base 203 2 (.slice (some ⟨g,0,none⟩) l.length c) l.length (cE l):=h
 have h1:=(World.ownsRow.stored h0 (k * 2) (Value.int .i64 x.1.w)).1
 have h2:=(World.ownsRow.stored h1 (k * 2+1) (Value.slice x.2.1 x.2.2.1 x.2.2.2)).1
 unfold ownE
 rw [List.length_set,cE_set l k x hk]
 exact h2
theorem ownE.rd {w:World} {base n c:Nat} {A:Option Addr} {l:List MX} (h:ownE w base (.slice A n c) l):RdE w w.heap.size A n l:=by
 obtain ⟨A4,c4,e5,hd4,_,_⟩:=h.form
 injection e5 with e1 e2 e3
 rw [e1,e2]
 exact hd4
/-- One element that lies in a block, whole. -/
theorem rd_oneE (w:World) (x:MX) (t:TypeId) (fr:Nat × Nat):RdE (w.alloc (.cells (eE x).toArray t fr)) (w.heap.size+1) (some ⟨w.heap.size,0,none⟩) 1 [x]:=by
 refine ⟨by rw [cE_length];rfl,fun _=>⟨_,_,rfl,by omega,fun j u hu=>?_⟩⟩
 rw [Nat.zero_add]
 have:=cell_of_row (w.alloc (.cells (eE x).toArray t fr)) w.heap.size j (eE x).toArray t fr (heap_alloc_new w _)
 rw [this]
 rw [cE_single] at hu
 simpa using hu
set_option maxRecDepth 100000 in
theorem run_appendE (w:World) (base:Nat) (t2:TypeId) (v:Value) (l:List MX) (hown:ownE w base v l) (B m c:Nat) (A:Option Addr) (news:List MX) (hr:RdE w B A m news)
  (hb:l.length+m≤1099511627776) (hbase:base≤w.heap.size) :
  ∃ v' w',(Builtin.append_ #[201,201] t2 #[v,.slice A m c]).run Tryz.prog w=.ok v' w'∧ownE w' base v' (l ++ news)∧w.grownBy w' v.ownBlock ∧
   (v'.ownBlock=v.ownBlock∨v'.ownBlock=some w.heap.size)∧(v'=.slice none 0 0 ↔ v=.slice none 0 0∧m=0):=by
 obtain ⟨i0,hi,hz0,hz1,hz2⟩:=info_parts Tryz.info_E
 have hl:=hr.len
 subst hl
 unfold ownE
 rw [List.length_append,cE_append]
 rcases A with _ | ad
 ·have hn:news=[]:=by
   rcases Nat.eq_zero_or_pos news.length with h0 | h0
   ·exact List.eq_nil_of_length_eq_zero h0
   ·obtain ⟨b,o,h,_⟩:=hr.2 h0
    cases h
  subst hn
  refine ⟨v,w,?_,by simpa [cE,ownE] using hown,World.grownBy.refl w _,.inl rfl,by simp⟩
  rcases hown.2 with ⟨rfl,h0⟩ | ⟨g,cap,cur,rfl,_,_,hnc,_⟩
  ·simp [Builtin.append_,run_underlying Tryz.underlying201,sizeOf,typeInfo,hi,Builtin.lenOf,Builtin.firstCells]
  ·simp [Builtin.append_,run_underlying Tryz.underlying201,sizeOf,typeInfo,hi,Builtin.lenOf,Builtin.firstCells,hnc,storeCells]
 ·have hcells:∀ j u,(cE news)[j]?=some u→w.cell? (ad.add j)=some u:=by
   intro j u hu
   rcases Nat.eq_zero_or_pos news.length with h0 | h0
   ·have hn:news=[]:=List.eq_nil_of_length_eq_zero h0
    subst hn
    simp [cE] at hu
   ·obtain ⟨b,o,h,_,hc⟩:=hr.2 h0
    injection h with h
    subst h
    rw [add_none]
    exact hc j u hu
  obtain ⟨v',w',hrun,h2,h3,h4,h5⟩:=run_append_own_at (P:=Tryz.prog) w base 201 t2 203 i0 _ 2 32 Tryz.underlying201 hi hz0 hz1 hz2 rfl (by omega) v l.length (cE l) hown ad news.length c (cE news) (by rw [cE_length]) hcells (cE_one _) (by unfold maxLen;omega) (by omega) hbase
  exact ⟨v',w',hrun,h2,h3,h5,h4⟩
/-- append(v, x...): v the call's own, x whatever. -/
theorem wpList_appendE {w:World} {ops:Array Oper} {rest:List Oper} {o:Oper} {a:Act} {Q:Exit→Act→World→Prop} (hgd:o.guard=none) (s x:Operand)
  (ho:o.op=.call { callee:=.builtin .append,args:=#[s,x],argTypes:=#[201,201] })
  (base:Nat) (v:Value) (l:List MX) (hs:a.eval s=v) (hown:ownE w base v l) (B m c:Nat) (A:Option Addr) (news:List MX) (hx:a.eval x=.slice A m c) (hr:RdE w B A m news)
  (hb:l.length+m≤1099511627776) (hbase:base≤w.heap.size)
  (h:∀ v' w',ownE w' base v' (l ++ news)→w.grownBy w' v.ownBlock→Below base w w'→(v'.ownBlock=v.ownBlock∨v'.ownBlock=some w.heap.size)→wpList Tryz.prog ops Q rest (a.put o.dst v') w') :
  wpList Tryz.prog ops Q (o :: rest) a w:=by
 refine wpList_plain hgd fun K hK=>?_
 obtain ⟨v',w',hrun,h2,h3,h4,_⟩:=run_appendE w base o.type v l hown B m c A news hr hb hbase
 unfold Oper.wp execOp
 simp only [ho,resolve,invoke,builtin,Sem.run_bind,Sem.run_pure,Result.andThen_ok,List.map_toArray,List.map_cons,List.map_nil,hs,hx,hrun]
 exact hK _ _ (h v' w' h2 h3 ((Below.refl _ _).grown h3 hbase (fun k hk=>(World.ownsRow.lt hown k hk).1)) h4)
/-- append of bytes as a step of a region that draws its order. -/
theorem step_appendE {w:World} {ops:Array Oper} {o:Oper} {a:Act} {K:Act→World→Prop} {Q:Exit→Act→World→Prop} {E:Prop} (hgd:o.guard=none) (s x:Operand)
  (ho:o.op=.call { callee:=.builtin .append,args:=#[s,x],argTypes:=#[201,201] })
  (base:Nat) (v:Value) (bs:List MX) (hs:a.eval s=v) (hown:ownE w base v bs) (B m c:Nat) (A:Option Addr) (news:List MX) (hx:a.eval x=.slice A m c) (hr:RdE w B A m news)
  (hb:bs.length+m≤1099511627776) (hbase:base≤w.heap.size)
  (h:∀ v' w',ownE w' base v' (bs ++ news)→w.grownBy w' v.ownBlock→Below base w w'→(v'.ownBlock=v.ownBlock∨v'.ownBlock=some w.heap.size)→K (a.put o.dst v') w') :
  if Region.wanted o (yielded ops a.tmps)=true then Oper.wp Tryz.prog o a w K Q else E:=by
 have hw:Region.wanted o (yielded ops a.tmps)=true:=by simp [Region.wanted,hgd]
 rw [if_pos hw]
 obtain ⟨v',w',hrun,h2,h3,h4,_⟩:=run_appendE w base o.type v bs hown B m c A news hr hb hbase
 unfold Oper.wp execOp
 simp only [ho,resolve,invoke,builtin,Sem.run_bind,Sem.run_pure,Result.andThen_ok,List.map_toArray,List.map_cons,List.map_nil,hs,hx,hrun]
 exact h v' w' h2 h3 ((Below.refl _ _).grown h3 hbase (fun k hk=>(World.ownsRow.lt hown k hk).1)) h4
end Go.Proofs.YteoolehdomjkkaaGreat

/- The document's sorted: items and packages put together. -/
namespace Go.Proofs.YteoolehdomjkkaaGreat
set_option linter.all false
open Go.RowKit
set_option maxRecDepth 100000 in
set_option maxHeartbeats 3200000 in
theorem sorted_any (B n c B' n' c':Nat) (A A':Option Addr) (a b:List MX) (w:World) (h:RdE w B A n a) (h':RdE w B' A' n' b) (hB1:B≤w.heap.size) (hB2:B'≤w.heap.size) (hn:n≤100000) (hn':n'≤100000) :
  Calls Tryz.prog 164 #[.slice A n c,.slice A' n' c'] w fun e w'=>∃ A2 n2 c2,e=.returned (.slice A2 n2 c2)∧n2=n+n'∧ownE w' w.heap.size (.slice A2 n2 c2) (mrgBy mxw a b)∧Below w.heap.size w w':=by
 have H1:=Lib.hid h
 have H2:=Lib.hid h'
 have HL1:=Lib.hid h.len
 have HL2:=Lib.hid h'.len
 obtain ⟨M,hM⟩:∃ M,mrgBy mxw a b=M:=⟨_,rfl⟩
 have HM:=Lib.hid hM
 rw [hM]
 clear h h' hM
 go_enter Tryz.func164,Tryz.ntmps164
 go_wp2_with fail
 go_loopw [6,7,5] (fun vi vk vo wr=>∃ (i k:Nat) (L:List MX) (Ao:Option Addr) (co:Nat),i≤n∧k≤n'∧vi=.int .i64 i∧vk=.int .i64 k∧vo=.slice Ao (i+k) co∧Hid (L.length=i+k)∧Hid (L ++ mrgBy mxw (a.drop i) (b.drop k)=M)∧Hid (ownE wr w.heap.size (.slice Ao (i+k) co) L)∧Hid (Below w.heap.size w wr))
  (fun vi vk _ _=>n+n' - ((intOf vi).toNat+(intOf vk).toNat))
 case atStart=>exact ⟨0,0,[],none,0,Nat.zero_le _,Nat.zero_le _,rfl,rfl,rfl,(show _=_ from rfl),(show _=_ from HM.out),ownE.nil_ _ _,Below.refl _ _⟩
 case round =>
  obtain ⟨i,k,L,Ao,co,hi,hk,rfl,rfl,rfl,HL,HJ,HO,HB⟩:=hrel
  have hz:=HB.out.size
  by_cases hkn:k < n'
  ·have dkm:((k:Int) == (n':Int))=false:=beq_eq_false_iff_ne.2 (by omega)
   by_cases hin:i < n
   ·obtain ⟨b1,o1,x,rfl,hb1,HX,e1,e2⟩:=(H1.out.blw (HB.out.mono hB1)).one hin
    obtain ⟨t,A3,n3,c3⟩:=x
    dsimp only at e1 e2
    obtain ⟨b2,o2,y,rfl,hb2,HY,g1,g2⟩:=(H2.out.blw (HB.out.mono hB2)).one hkn
    obtain ⟨u,A4,n4,c4⟩:=y
    dsimp only at g1 g2
    by_cases hle:t.w≤u.w
    ·have dle:decide (t.w≤u.w)=true:=decide_eq_true hle
     have HJ2:Hid (L ++ [(t,A3,n3,c3)] ++ mrgBy mxw (a.drop (i+1)) (b.drop (k))=M):=(show _=_ by rw [← HJ.out,mx_takeA HX.out (.inr ⟨_,HY.out,hle⟩),List.append_assoc];rfl)
     have HOq:=Lib.hid (fun (q:Nat)=>HO.out.drewN q)
     have HBq:=Lib.hid (fun (q:Nat)=>bdrewN HB.out q)
     have HC0:=Lib.hid (fun (q:Nat)=>show (wr.drewN q).cell? _=_ from e1)
     have HC1:=Lib.hid (fun (q:Nat)=>show (wr.drewN q).cell? _=_ from e2)
     clear HJ
     go_wp2_with fail
     go_quiet (fail)
     have k0:=HC0.out nq
     have k1:=HC1.out nq
     have HO4:=Lib.hid (HOq.out nq)
     have HB4:=Lib.hid (HBq.out nq)
     have hz4:=HB4.out.size
     clear HO HB HOq HBq HC0 HC1
     generalize wr.drewN nq=wq at *
     go_wp2_with (at_builtin;go_must (refine wpList_appendE rfl (.tmp 41) (.tmp 46) rfl w.heap.size (.slice Ao (i+k) co) L rfl (ownE.alloc HO4.out _) (wq.heap.size+1) 1 1 (some ⟨wq.heap.size,0,none⟩) [(t,A3,n3,c3)] rfl (rd_oneE wq (t,A3,n3,c3) _ _) (by have:=HL.out;omega) (by simp;omega) ?_;intro v1 w3 hown hgb hbl hat;obtain ⟨A5,c5,rfl,hr5,-,-⟩:=hown.form;have HO5:=Lib.hid hown;have HB5:=Lib.hid ((HB4.out.alloc hz4 (.cells (eE (t,A3,n3,c3)).toArray 203)).trans hbl);clear hown hgb hbl hat hr5))
     have HL5:Hid ((L ++ [(t,A3,n3,c3)]).length=i+1+k):=(show _=_ by have:=HL.out;simp;omega)
     rw [HL5.out] at HO5
     have HL6:L.length+1=i+1+k:=by have:=HL.out;omega
     go_roundw
     case rel=>exact ⟨i+1,k,L ++ [(t,A3,n3,c3)],A5,c5,by omega,by omega,by go_num,by go_num,by first | rw [HL6] | rfl,HL5,HJ2,HO5,HB5⟩
     case measure=>simp [intOf];omega
    ·have dle:decide (t.w≤u.w)=false:=decide_eq_false hle
     have HJ2:Hid (L ++ [(u,A4,n4,c4)] ++ mrgBy mxw (a.drop (i)) (b.drop (k+1))=M):=(show _=_ by rw [← HJ.out,mx_takeB HY.out (.inr ⟨_,HX.out,by show u.w < t.w;omega⟩),List.append_assoc];rfl)
     have HOq:=Lib.hid (fun (q:Nat)=>HO.out.drewN q)
     have HBq:=Lib.hid (fun (q:Nat)=>bdrewN HB.out q)
     have HC0:=Lib.hid (fun (q:Nat)=>show (wr.drewN q).cell? _=_ from g1)
     have HC1:=Lib.hid (fun (q:Nat)=>show (wr.drewN q).cell? _=_ from g2)
     clear HJ
     go_wp2_with fail
     go_quiet (fail)
     have k0:=HC0.out nq
     have k1:=HC1.out nq
     have HO4:=Lib.hid (HOq.out nq)
     have HB4:=Lib.hid (HBq.out nq)
     have hz4:=HB4.out.size
     clear HO HB HOq HBq HC0 HC1
     generalize wr.drewN nq=wq at *
     go_wp2_with (at_builtin;go_must (refine wpList_appendE rfl (.tmp 50) (.tmp 55) rfl w.heap.size (.slice Ao (i+k) co) L rfl (ownE.alloc HO4.out _) (wq.heap.size+1) 1 1 (some ⟨wq.heap.size,0,none⟩) [(u,A4,n4,c4)] rfl (rd_oneE wq (u,A4,n4,c4) _ _) (by have:=HL.out;omega) (by simp;omega) ?_;intro v1 w3 hown hgb hbl hat;obtain ⟨A5,c5,rfl,hr5,-,-⟩:=hown.form;have HO5:=Lib.hid hown;have HB5:=Lib.hid ((HB4.out.alloc hz4 (.cells (eE (u,A4,n4,c4)).toArray 203)).trans hbl);clear hown hgb hbl hat hr5))
     have HL5:Hid ((L ++ [(u,A4,n4,c4)]).length=i+(k+1)):=(show _=_ by have:=HL.out;simp;omega)
     rw [HL5.out] at HO5
     have HL6:L.length+1=i+(k+1):=by have:=HL.out;omega
     go_roundw
     case rel=>exact ⟨i,k+1,L ++ [(u,A4,n4,c4)],A5,c5,by omega,by omega,by go_num,by go_num,by first | rw [HL6] | rfl,HL5,HJ2,HO5,HB5⟩
     case measure=>simp [intOf];omega
   ·obtain rfl:i=n:=by omega
    obtain ⟨b2,o2,y,rfl,hb2,HY,g1,g2⟩:=(H2.out.blw (HB.out.mono hB2)).one hkn
    obtain ⟨u,A4,n4,c4⟩:=y
    dsimp only at g1 g2
    have HJ2:Hid (L ++ [(u,A4,n4,c4)] ++ mrgBy mxw (a.drop (i)) (b.drop (k+1))=M):=(show _=_ by rw [← HJ.out,mx_takeB HY.out (.inl (by rw [HL1.out];exact Nat.le_refl _)),List.append_assoc];rfl)
    have HOq:=Lib.hid (fun (q:Nat)=>HO.out.drewN q)
    have HBq:=Lib.hid (fun (q:Nat)=>bdrewN HB.out q)
    have HC0:=Lib.hid (fun (q:Nat)=>show (wr.drewN q).cell? _=_ from g1)
    have HC1:=Lib.hid (fun (q:Nat)=>show (wr.drewN q).cell? _=_ from g2)
    clear HJ
    go_wp2_with fail
    go_quiet (fail)
    have k0:=HC0.out nq
    have k1:=HC1.out nq
    have HO4:=Lib.hid (HOq.out nq)
    have HB4:=Lib.hid (HBq.out nq)
    have hz4:=HB4.out.size
    clear HO HB HOq HBq HC0 HC1
    generalize wr.drewN nq=wq at *
    go_wp2_with (at_builtin;go_must (refine wpList_appendE rfl (.tmp 50) (.tmp 55) rfl w.heap.size (.slice Ao (i+k) co) L rfl (ownE.alloc HO4.out _) (wq.heap.size+1) 1 1 (some ⟨wq.heap.size,0,none⟩) [(u,A4,n4,c4)] rfl (rd_oneE wq (u,A4,n4,c4) _ _) (by have:=HL.out;omega) (by simp;omega) ?_;intro v1 w3 hown hgb hbl hat;obtain ⟨A5,c5,rfl,hr5,-,-⟩:=hown.form;have HO5:=Lib.hid hown;have HB5:=Lib.hid ((HB4.out.alloc hz4 (.cells (eE (u,A4,n4,c4)).toArray 203)).trans hbl);clear hown hgb hbl hat hr5))
    have HL5:Hid ((L ++ [(u,A4,n4,c4)]).length=i+(k+1)):=(show _=_ by have:=HL.out;simp;omega)
    rw [HL5.out] at HO5
    have HL6:L.length+1=i+(k+1):=by have:=HL.out;omega
    go_roundw
    case rel=>exact ⟨i,k+1,L ++ [(u,A4,n4,c4)],A5,c5,by omega,by omega,by go_num,by go_num,by first | rw [HL6] | rfl,HL5,HJ2,HO5,HB5⟩
    case measure=>simp [intOf];omega
  ·obtain rfl:k=n':=by omega
   have dkm:((k:Int) == (k:Int))=true:=by simp
   by_cases hin:i < n
   ·obtain ⟨b1,o1,x,rfl,hb1,HX,e1,e2⟩:=(H1.out.blw (HB.out.mono hB1)).one hin
    obtain ⟨t,A3,n3,c3⟩:=x
    dsimp only at e1 e2
    have HJ2:Hid (L ++ [(t,A3,n3,c3)] ++ mrgBy mxw (a.drop (i+1)) (b.drop (k))=M):=(show _=_ by rw [← HJ.out,mx_takeA HX.out (.inl (by rw [HL2.out];exact Nat.le_refl _)),List.append_assoc];rfl)
    have HOq:=Lib.hid (fun (q:Nat)=>HO.out.drewN q)
    have HBq:=Lib.hid (fun (q:Nat)=>bdrewN HB.out q)
    have HC0:=Lib.hid (fun (q:Nat)=>show (wr.drewN q).cell? _=_ from e1)
    have HC1:=Lib.hid (fun (q:Nat)=>show (wr.drewN q).cell? _=_ from e2)
    clear HJ
    go_wp2_with fail
    go_quiet (fail)
    have k0:=HC0.out nq
    have k1:=HC1.out nq
    have HO4:=Lib.hid (HOq.out nq)
    have HB4:=Lib.hid (HBq.out nq)
    have hz4:=HB4.out.size
    clear HO HB HOq HBq HC0 HC1
    generalize wr.drewN nq=wq at *
    go_wp2_with (at_builtin;go_must (refine wpList_appendE rfl (.tmp 41) (.tmp 46) rfl w.heap.size (.slice Ao (i+k) co) L rfl (ownE.alloc HO4.out _) (wq.heap.size+1) 1 1 (some ⟨wq.heap.size,0,none⟩) [(t,A3,n3,c3)] rfl (rd_oneE wq (t,A3,n3,c3) _ _) (by have:=HL.out;omega) (by simp;omega) ?_;intro v1 w3 hown hgb hbl hat;obtain ⟨A5,c5,rfl,hr5,-,-⟩:=hown.form;have HO5:=Lib.hid hown;have HB5:=Lib.hid ((HB4.out.alloc hz4 (.cells (eE (t,A3,n3,c3)).toArray 203)).trans hbl);clear hown hgb hbl hat hr5))
    have HL5:Hid ((L ++ [(t,A3,n3,c3)]).length=i+1+k):=(show _=_ by have:=HL.out;simp;omega)
    rw [HL5.out] at HO5
    have HL6:L.length+1=i+1+k:=by have:=HL.out;omega
    go_roundw
    case rel=>exact ⟨i+1,k,L ++ [(t,A3,n3,c3)],A5,c5,by omega,by omega,by go_num,by go_num,by first | rw [HL6] | rfl,HL5,HJ2,HO5,HB5⟩
    case measure=>simp [intOf];omega
   ·obtain rfl:i=n:=by omega
    have HE:Hid (L=M):=(show _=_ by
     have:=HJ.out
     rw [List.drop_eq_nil_of_le (by rw [HL1.out];exact Nat.le_refl _),List.drop_eq_nil_of_le (by rw [HL2.out];exact Nat.le_refl _)] at this
     simpa [mrgBy] using this)
    rw [HE.out] at HO
    go_wp2_with fail
    go_ret
    exact ⟨Ao,_,co,rfl,rfl,HO.out,HB.out⟩
end Go.Proofs.YteoolehdomjkkaaGreat

/- The document's Lengths: what its walk wants of rows, and plainly. -/
namespace Go.Proofs.YteoolehdomjkkaaGreat
set_option linter.all false
open Go.RowKit
theorem rdI_far2 {w w':World} {B n:Nat} {A:Option Addr} {l:List Int} {row:Option Nat} (h:RdI w B A n l) (hg:w.grownBy w' row) (hB:B≤w.heap.size) (hA:∀ a,A=some a→row ≠ some a.block):RdI w' B A n l :=
 ⟨h.1,fun hn=>by
  obtain ⟨b,o,e,hb,hc⟩:=h.2 hn
  refine ⟨b,o,e,hb,fun j u hu=>?_⟩
  exact (World.cell?_of_block (hg.block b (by omega) (fun e'=>hA _ e e'.symm))).trans (hc j u hu)⟩
theorem rdE_far {w w':World} {B n:Nat} {A:Option Addr} {l:List MX} {row:Option Nat} (h:RdE w B A n l) (hg:w.grownBy w' row) (hB:B≤w.heap.size) (hA:∀ a,A=some a→row ≠ some a.block):RdE w' B A n l :=
 ⟨h.1,fun hn=>by
  obtain ⟨b,o,e,hb,hc⟩:=h.2 hn
  refine ⟨b,o,e,hb,fun j u hu=>?_⟩
  exact (World.cell?_of_block (hg.block b (by omega) (fun e'=>hA _ e e'.symm))).trans (hc j u hu)⟩
theorem gb_set2 {g o:Nat} {w w':World} (h:w.grownBy w' (some g)) (v:Value):w.grownBy (w'.setCell ⟨g,o,none⟩ v) (some g) :=
 ⟨h.os,h.tape,h.output,by simp;exact h.size,fun k hk hne=>(Below.heap_setCell _ _ _ _ (fun e=>hne (by rw [e]))).trans (h.block k hk hne)⟩
theorem gb_refl2 (w:World) (r:Option Nat):w.grownBy w r:=⟨rfl,rfl,rfl,Nat.le_refl _,fun _ _ _=>rfl⟩
theorem plI_get {l:List Nat} {e:Nat} {y:Int} (h:(plI l)[e]?=some y):∃ p:Nat,y=p∧l[e]?=some p:=by
 unfold plI at h
 rw [List.getElem?_map] at h
 cases hl:l[e]? with
 | none=>rw [hl] at h;cases h
 | some p=>rw [hl] at h;exact ⟨p,(Option.some.inj h).symm,rfl⟩
/-- Each member's places lie in a row of its own, not in the block of v. -/
def MO (w:World) (v:Value) (l:List MX):Prop:=∀ x ∈ l,RdI w w.heap.size x.2.1 x.2.2.1 (plI x.1.items)∧(∀ a,x.2.1=some a→v.ownBlock ≠ some a.block∧a.block < w.heap.size)
theorem MO.nil (w:World) (v:Value):MO w v []:=fun x hx=>by cases hx
theorem MO.alloc {w:World} {v:Value} {l:List MX} (h:MO w v l) (o:Obj):MO (w.alloc o) v l:=fun x hx =>
 ⟨(((h x hx).1.alloc (Nat.le_refl _) o).more (by simp)),fun a ha=>⟨((h x hx).2 a ha).1,by have:=((h x hx).2 a ha).2;simp;omega⟩⟩
theorem MO.drewN {w:World} {v:Value} {l:List MX} (h:MO w v l) (q:Nat):MO (w.drewN q) v l:=h
theorem MO.drew {w:World} {v:Value} {l:List MX} (h:MO w v l):MO w.drew v l:=h
theorem MO.later {w w':World} {v:Value} {l:List MX} (h:MO w v l) (hb:Below w.heap.size w w'):MO w' v l:=fun x hx =>
 ⟨RdI.later (h x hx).1 hb,fun a ha=>⟨((h x hx).2 a ha).1,by have:=((h x hx).2 a ha).2;have:=hb.size;omega⟩⟩
/-- The row v grows. -/
theorem MO.app {w w':World} {v v':Value} {l:List MX} (h:MO w v l) (hg:w.grownBy w' v.ownBlock) (hat:v'.ownBlock=v.ownBlock∨v'.ownBlock=some w.heap.size):MO w' v' l:=fun x hx=>by
 refine ⟨(rdI_far2 (h x hx).1 hg (Nat.le_refl _) (fun a ha=>((h x hx).2 a ha).1)).more hg.size,fun a ha=>⟨?_,by have:=((h x hx).2 a ha).2;have:=hg.size;omega⟩⟩
 rcases hat with e | e
 ·rw [e];exact ((h x hx).2 a ha).1
 ·rw [e]
  intro e2
  injection e2 with e2
  have:=((h x hx).2 a ha).2
  omega
/-- Another row grows, which lies in none of the members' blocks. -/
theorem MO.gro {w w':World} {v:Value} {l:List MX} {r:Option Nat} (h:MO w v l) (hg:w.grownBy w' r) (hr:∀ k,r=some k→w.heap.size≤k∨∀ x ∈ l,∀ a,x.2.1=some a→a.block ≠ k):MO w' v l:=fun x hx=>by
 refine ⟨(rdI_far2 (h x hx).1 hg (Nat.le_refl _) (fun a ha e=>?_)).more hg.size,fun a ha=>⟨((h x hx).2 a ha).1,by have:=((h x hx).2 a ha).2;have:=hg.size;omega⟩⟩
 rcases hr _ e with h1 | h1
 ·have:=((h x hx).2 a ha).2;omega
 ·exact h1 x hx a ha rfl
theorem MO.perm {w:World} {v:Value} {l l':List MX} (h:MO w v l) (hs:∀ x ∈ l',x ∈ l):MO w v l':=fun x hx=>h x (hs x hx)
theorem MO.ok {w:World} {v:Value} {l:List MX} (h:MO w v l):MOk w w.heap.size l:=fun x hx=>(h x hx).1
/-- An item put in its place: the members' rows are as they were. -/
theorem ins_mo {W2 w3 w4:World} {gi ci k s:Nat} {L:List MX} {x':MX} {v4:Value}
  (hM:MO W2 (.slice (some ⟨gi,0,none⟩) L.length ci) L) (hlt:∀ y ∈ L,∀ a,y.2.1=some a→a.block < s) (hG3:W2.grownBy w3 (some (s+1)))
  (hR:RdI w3 w3.heap.size x'.2.1 x'.2.2.1 (plI x'.1.items)) (hA:x'.2.1=some ⟨s,0,none⟩) (hs:s < w3.heap.size) (hgs:gi < s)
  (hG4:w3.grownBy w4 (some gi)) (hat:v4.ownBlock=some gi∨v4.ownBlock=some w3.heap.size):MO w4 v4 (L.take k ++ ([x'] ++ L.drop k)):=by
 have h3:MO w3 (.slice (some ⟨gi,0,none⟩) L.length ci) L:=hM.gro hG3 (fun j hj=>.inr (fun y hy a ha=>by
  injection hj with hj
  have:=hlt y hy a ha
  omega))
 have h4:MO w3 (.slice (some ⟨gi,0,none⟩) L.length ci) (L.take k ++ ([x'] ++ L.drop k)):=by
  intro y hy
  rw [List.mem_append,List.mem_append,List.mem_singleton] at hy
  rcases hy with hy | rfl | hy
  ·exact h3 y (List.mem_of_mem_take hy)
  ·refine ⟨hR,fun a ha=>?_⟩
   rw [hA] at ha
   injection ha with ha
   subst ha
   refine ⟨fun e=>?_,hs⟩
   have e2:some gi=some s:=e
   injection e2 with e2
   omega
  ·exact h3 y (List.mem_of_mem_drop hy)
 exact h4.app (v':=v4) hG4 hat
/-- A shorter row of the same block. -/
theorem ownE.take {w:World} {base n c:Nat} {A:Option Addr} {l:List MX} (h:ownE w base (.slice A n c) l) {k:Nat} (hk:k≤n) (hn:0 < n):ownE w base (.slice A k c) (l.take k):=by
 have hpos:=h.pos hn
 obtain ⟨hl,-⟩:=hpos
 unfold ownE at h ⊢
 obtain ⟨h1,h2⟩:=h
 have hlk:(l.take k).length=k:=by rw [List.length_take];omega
 have hck:cE (l.take k)=(cE l).take (k * 2):=by
  rcases Nat.lt_or_ge k l.length with hq | hq
  ·conv=>rhs;rw [← List.take_append_drop k l,cE_append]
   rw [List.take_left' (by rw [cE_length,hlk])]
  ·rw [List.take_of_length_le hq,List.take_of_length_le (by rw [cE_length];exact Nat.mul_le_mul_right _ hq)]
 refine ⟨by rw [cE_length],?_⟩
 rcases h2 with ⟨h',h0⟩ | ⟨g,cap,cur,h',hb,hg,h3,h4,h5,h6⟩
 ·injection h' with _ e _
  omega
 ·injection h' with e1 e2 e3
  subst e1 e3
  right
  refine ⟨g,c,cur,by rw [hlk],hb,hg,by omega,h4,h5,?_⟩
  rw [hlk,hck,← h6,List.take_take,Nat.min_eq_left (Nat.mul_le_mul_right _ (by omega))]
theorem own_oneE (w:World) (x:MX):ownE (w.alloc (.cells (eE x).toArray 203)) w.heap.size (.slice (some ⟨w.heap.size,0,none⟩) 1 1) [x]:=by
 have:=World.ownsRow_lit (base:=w.heap.size) (size:=2) (e:=203) w (eE x).toArray 1 (Nat.le_refl _) (by unfold maxLen;omega) (by simp [eE])
 simp only [List.toList_toArray] at this
 unfold ownE
 rw [cE_single]
 exact this
/-- A new item in its place. -/
theorem ins_ok {ws:List Int} {i k:Nat} {x:Int} {L:List MX} {x':MX} (hx:ws[i]?=some x) (h0:0 < x) (hm:L.map (·.1)=stab Mem.w (leaves (ws.take i))) (hk:k≤L.length)
  (hb:∀ y ∈ L.drop k,x < mxw y) (ha:k=0∨∃ y,L[k - 1]?=some y∧mxw y≤x) (hx':x'.1=.leaf x i):(L.take k ++ x' :: L.drop k).map (·.1)=stab Mem.w (leaves (ws.take (i+1))):=by
 obtain ⟨hi,e⟩:=List.getElem?_eq_some_iff.1 hx
 rw [List.take_succ_eq_append_getElem hi,e,leaves_snoc,if_pos h0,show (ws.take i).length=i by rw [List.length_take];omega]
 have hs:Srt Mem.w (L.map (·.1)):=by rw [hm];exact (stab_ss _).1
 have hspl:stab Mem.w (leaves (ws.take i))=(L.take k).map (·.1) ++ (L.drop k).map (·.1):=by rw [← hm,← List.map_append,List.take_append_drop]
 rw [stab_snoc hspl ?_ ?_]
 ·rw [List.map_append,List.map_cons,hx']
 ·intro y hy
  obtain ⟨z,hz,rfl⟩:=List.mem_map.1 hy
  rcases ha with rfl | ⟨y0,hy0,hle⟩
  ·simp at hz
  ·obtain ⟨hk0,ey0⟩:=List.getElem?_eq_some_iff.1 hy0
   obtain ⟨j,hj,ez⟩:=List.mem_iff_getElem.1 hz
   rw [List.getElem_take] at ez
   rw [List.length_take] at hj
   have hjk:j < k:=by omega
   show z.1.w≤x
   by_cases hjk1:j=k - 1
   ·subst hjk1
    rw [← ez,ey0]
    exact hle
   ·unfold Srt at hs
    rw [List.pairwise_map,List.pairwise_iff_getElem] at hs
    have:=hs j (k - 1) (by omega) hk0 (by omega)
    rw [ez,ey0] at this
    exact Int.le_trans this hle
 ·intro y hy
  obtain ⟨z,hz,rfl⟩:=List.mem_map.1 hy
  exact hb z hz
theorem packs_two {Z:List MX} {d:Nat} {x y:MX} (hx:Z[d]?=some x) (hy:Z[d+1]?=some y):packs ((Z.drop d).map (·.1))=.node x.1 y.1 :: packs ((Z.drop (d+2)).map (·.1)):=by
 obtain ⟨h1,e1⟩:=List.getElem?_eq_some_iff.1 hx
 obtain ⟨h2,e2⟩:=List.getElem?_eq_some_iff.1 hy
 rw [List.drop_eq_getElem_cons h1,e1,List.drop_eq_getElem_cons h2,e2]
 rfl
theorem packs_end {Z:List MX} {d:Nat} (h:Z.length≤d+1):packs ((Z.drop d).map (·.1))=[]:=by
 have:(Z.drop d).length≤1:=by rw [List.length_drop];omega
 match hz:Z.drop d,this with
 | [],_=>rfl
 | [x],_=>rfl
/-- Four cells that a round of packages reads. -/
abbrev Cs4 (w:World) (bl o d:Nat) (x y:MX):Prop :=
 w.cell? ⟨bl,o+d * 2,none⟩=some (.int .i64 x.1.w)∧w.cell? ⟨bl,o+d * 2+1,none⟩=some (.slice x.2.1 x.2.2.1 x.2.2.2)∧w.cell? ⟨bl,o+(d+1) * 2,none⟩=some (.int .i64 y.1.w)∧w.cell? ⟨bl,o+(d+1) * 2+1,none⟩=some (.slice y.2.1 y.2.2.1 y.2.2.2)
theorem Cs4.blw {w w':World} {bl o d B:Nat} {x y:MX} (h:Cs4 w bl o d x y) (hb:Below B w w') (hl:bl < B):Cs4 w' bl o d x y:=by
 obtain ⟨a,b,c,e⟩:=h
 exact ⟨(hb.cell (p:=⟨bl,_,none⟩) hl).trans a,(hb.cell (p:=⟨bl,_,none⟩) hl).trans b,(hb.cell (p:=⟨bl,_,none⟩) hl).trans c,(hb.cell (p:=⟨bl,_,none⟩) hl).trans e⟩
/-- A package put behind the others. -/
theorem pack_mo {w5 w7:World} {vP vP':Value} {P:List MX} {x':MX} {o:Obj} (hM:MO w5 vP P) (hx:RdI w5 w5.heap.size x'.2.1 x'.2.2.1 (plI x'.1.items)) (hA:∀ a,x'.2.1=some a→vP.ownBlock ≠ some a.block∧a.block < w5.heap.size)
  (hG:(w5.alloc o).grownBy w7 vP.ownBlock) (hat:vP'.ownBlock=vP.ownBlock∨vP'.ownBlock=some (w5.alloc o).heap.size):MO w7 vP' (P ++ [x']):=by
 have h5:MO w5 vP (P ++ [x']):=fun y hy=>by
  rw [List.mem_append,List.mem_singleton] at hy
  rcases hy with hy | rfl
  ·exact hM y hy
  ·exact ⟨hx,hA⟩
 exact (h5.alloc o).app (v':=vP') hG hat
end Go.Proofs.YteoolehdomjkkaaGreat

/- The document's Lengths. -/
namespace Go.Proofs.YteoolehdomjkkaaGreat
set_option linter.all false
open Go.RowKit
theorem len_bad {ws:List Int} {most:Int} {w w':World} (hw:wrongH ws most=true) (hb:Below w.heap.size w w'):LenPost ws most w (.returned (.tuple #[.slice none 0 0,.int .i64 1])) w':=by
 have h1:lenE ws most=1:=by unfold lenE;rw [if_pos hw]
 have h2:lenR ws most=[]:=by unfold lenR;rw [if_pos hw]
 exact ⟨none,0,0,by rw [h1],by rw [h2];rfl,by rw [h2];exact ownI.nil_ _ _,hb⟩
theorem badW_all {ws:List Int} (h:badW ws=false):∀ x ∈ ws,0≤x∧x≤1073741824:=fun x hx=>by
 unfold badW at h
 rw [List.any_eq_false] at h
 have:=h x hx
 simp at this
 omega
theorem cell_alloc3 {w:World} {b i:Nat} {v:Value} (h:w.cell? ⟨b,i,none⟩=some v) (o:Obj):(w.alloc o).cell? ⟨b,i,none⟩=some v:=(World.cell?_alloc_lt w o _ (block_lt_of_cell (a:=⟨b,i,none⟩) h)).trans h
theorem alloc_le3 (w:World) (o:Obj):w.heap.size≤(w.alloc o).heap.size:=by simp
theorem below_undrew2 {w w':World} (h:Below w.drew.heap.size w.drew w'):Below w.heap.size w w':=⟨h.os,h.tape,h.output,h.size,h.block⟩
theorem rdI_drew2 {w:World} {B n:Nat} {A:Option Addr} {l:List Int} (h:RdI w B A n l):RdI w.drew B A n l:=h
theorem wrap_i64_id2 {x:Int} (h0:0≤x) (h1:x≤4611686018427387904):IntKind.i64.wrap x=x:=by
 obtain ⟨n,rfl⟩:=Int.eq_ofNat_of_zero_le h0
 exact wrap_i64_lt n (by omega)
theorem Cs4.drew {w:World} {bl o d:Nat} {x y:MX} (h:Cs4 w bl o d x y):Cs4 w.drew bl o d x y:=h
theorem Cs4.al {w:World} {bl o d:Nat} {x y:MX} (h:Cs4 w bl o d x y) (ob:Obj):Cs4 (w.alloc ob) bl o d x y:=⟨cell_alloc3 h.1 _,cell_alloc3 h.2.1 _,cell_alloc3 h.2.2.1 _,cell_alloc3 h.2.2.2 _⟩
theorem wrong_bad {ws:List Int} {most:Int} (h:badW ws=true):wrongH ws most=true:=by unfold wrongH;simp [h]
theorem alloc_le2 (w:World) (o o':Obj):w.heap.size+1≤((w.drew.alloc o).alloc o').heap.size:=by simp
theorem wrong_fst {ws:List Int} {most:Int} (h:ws.length < 1∨300 < ws.length∨most < 1∨15 < most):wrongH ws most=true:=by
 unfold wrongH
 rcases h with h | h | h | h <;> simp [h]
theorem cell_blw3 {w w':World} {b i:Nat} {v:Value} {B:Nat} (hb:Below B w w') (hl:b < B) (h:w.cell? ⟨b,i,none⟩=some v):w'.cell? ⟨b,i,none⟩=some v:=(hb.cell (p:=⟨b,i,none⟩) hl).trans h
theorem one_memE (W:World) (i:Nat) (x:Int):ownE ((W.drew.alloc (.cells #[.int .i64 (i:Int)] 3)).alloc (.cells #[.int .i64 x,.slice (some ⟨W.heap.size,0,none⟩) 1 1] 203)) (W.heap.size+1) (.slice (some ⟨W.heap.size+1,0,none⟩) 1 1) [(.leaf x i,some ⟨W.heap.size,0,none⟩,1,1)]:=by
 have:=own_oneE (W.drew.alloc (.cells #[.int .i64 (i:Int)] 3)) (.leaf x i,some ⟨W.heap.size,0,none⟩,1,1)
 rw [show (W.drew.alloc (.cells #[.int .i64 (i:Int)] 3)).heap.size=W.heap.size+1 from by rw [World.size_alloc];rfl] at this
 exact this
set_option maxRecDepth 100000 in
set_option maxHeartbeats 6400000 in
theorem len5_any (B n c:Nat) (A:Option Addr) (ws:List Int) (most:Int) (w:World) (h:RdI w B A n ws) (hB1:B≤w.heap.size) (hn:n≤1000) :
  Calls Tryz.prog 120 #[.slice A n c,.int .i64 most] w fun e w'=>LenPost ws most w e w':=by
 have hl:=h.len
 by_cases hbad:ws.length < 1∨300 < ws.length∨most < 1∨15 < most
 ·have HBP:=Lib.hid (len_bad (w:=w) (w':=w) (wrong_fst hbad) (Below.refl _ _))
  rw [hl] at hbad
  clear h hl
  by_cases h1:n < 1
  ·go_enter Tryz.func120,Tryz.ntmps120
   go_wp2_with fail
   go_ret2
   exact HBP.out
  ·by_cases h2:300 < n
   ·go_enter Tryz.func120,Tryz.ntmps120
    go_wp2_with fail
    go_ret2
    exact HBP.out
   ·by_cases h3:most < 1
    ·have d3:decide (most < 1)=true:=decide_eq_true h3
     go_enter Tryz.func120,Tryz.ntmps120
     go_wp2_with fail
     go_ret2
     exact HBP.out
    ·have h4:15 < most:=by omega
     have d3:decide (most < 1)=false:=decide_eq_false h3
     have d4:decide (most > 15)=true:=decide_eq_true h4
     go_enter Tryz.func120,Tryz.ntmps120
     go_wp2_with fail
     go_ret2
     exact HBP.out
 ·obtain ⟨m,rfl⟩:=Int.eq_ofNat_of_zero_le (show 0≤most by omega)
  have hn1:1≤n:=by omega
  have hn2:n≤300:=by omega
  have hm1:1≤m:=by omega
  have hm2:m≤15:=by omega
  have H:=Lib.hid h
  have HL:=Lib.hid hl
  clear hbad h hl
  go_enter Tryz.func120,Tryz.ntmps120
  go_wp2_with fail
  go_loopw [7,6] (fun vi vt wr=>∃ (i:Nat) (L:List MX) (Ai:Option Addr) (ci:Nat),i≤n∧vi=.int .i64 i∧vt=.slice Ai L.length ci∧L.length≤i∧Hid (L=[]→Ai=none∧ci=0)∧Hid (badW (ws.take i)=false)∧Hid (L.map (·.1)=stab Mem.w (leaves (ws.take i))) ∧
    Hid (ownE wr w.heap.size (.slice Ai L.length ci) L)∧Hid (MO wr (.slice Ai L.length ci) L)∧Hid (Below w.heap.size w wr))
   (fun vi _ _=>n - (intOf vi).toNat)
  case atStart=>exact ⟨0,[],none,0,Nat.zero_le _,rfl,rfl,Nat.le_refl _,(show _→_ from fun _=>⟨rfl,rfl⟩),(show _=_ from rfl),(show _=_ from rfl),ownE.nil_ _ _,MO.nil _ _,Below.refl _ _⟩
  case round =>
   obtain ⟨i,L,Ai,ci,hi,rfl,rfl,hLi,HNIL,HBD,HST,HO,HMO,HB⟩:=hrel
   by_cases hlt:i < n
   ·obtain ⟨b,o,x,rfl,hb,HX,e1⟩:=(H.out.blw (HB.out.mono hB1)).one hlt
    by_cases hbx:x < 0∨1073741824 < x
    ·have HBP:=Lib.hid (len_bad (w:=w) (w':=wr) (most:=(m:Int)) (wrong_bad (badW_of HX.out hbx)) HB.out)
     rcases hbx with hx | hx
     ·have d1:decide (x < 0)=true:=decide_eq_true hx
      go_wp2_with fail
      go_ret2
      exact HBP.out
     ·have d1:decide (x < 0)=false:=decide_eq_false (by omega)
      have d2:decide (x > 1073741824)=true:=decide_eq_true hx
      go_wp2_with fail
      go_ret2
      exact HBP.out
    ·have HBD2:Hid (badW (ws.take (i+1))=false):=(show _=_ by
      obtain ⟨hik,ex⟩:=List.getElem?_eq_some_iff.1 HX.out
      have h0:=HBD.out
      unfold badW at h0 ⊢
      rw [List.take_succ_eq_append_getElem hik,ex,List.any_append,h0]
      simp
      omega)
     have d1:decide (x < 0)=false:=decide_eq_false (by omega)
     have d2:decide (x > 1073741824)=false:=decide_eq_false (by omega)
     by_cases hx0:x=0
     ·subst hx0
      have HST2:Hid (L.map (·.1)=stab Mem.w (leaves (ws.take (i+1)))):=(show _=_ by
       obtain ⟨hik,ex⟩:=List.getElem?_eq_some_iff.1 HX.out
       rw [List.take_succ_eq_append_getElem hik,ex,leaves_snoc,if_neg (by omega),List.append_nil]
       exact HST.out)
      go_wp2_with fail
      go_roundw
      case rel=>exact ⟨i+1,L,Ai,ci,by omega,by go_num,rfl,by omega,HNIL,HBD2,HST2,HO,HMO,HB⟩
      case measure=>simp [intOf];omega
     ·have hxp:0 < x:=by omega
      have d3:(x == 0)=false:=beq_eq_false_iff_ne.2 hx0
      have HXP:=Lib.hid hxp
      obtain ⟨wo,rfl⟩:∃ wo:World,wo=wr:=⟨_,rfl⟩
      go_upto_block 2 with fail
      go_cut [8] from 32 to 89 (fun vk wc=>∃ k:Nat,vk=.int .i64 k∧k≤L.length∧Hid (∀ y ∈ L.drop k,x < mxw y)∧Hid (k=0∨∃ y,L[k - 1]?=some y∧mxw y≤x)∧Hid (∃ q,wc=wo.drewN q))
      case first =>
       go_wp2_with fail
       go_loopw [8] (fun vk wr=>∃ k:Nat,k≤L.length∧vk=.int .i64 k∧Hid (∀ y ∈ L.drop k,x < mxw y)∧Hid (∃ q,wr=wo.drewN q)) (fun vk _=>(intOf vk).toNat)
       case atStart=>exact ⟨L.length,Nat.le_refl _,rfl,(show ∀ y ∈ _,_ from fun y hy=>by rw [List.drop_length] at hy;cases hy),(show ∃ q,_ from ⟨0,rfl⟩)⟩
       case round =>
        obtain ⟨k,hk,rfl,HGT,HW⟩:=hrel
        by_cases hk0:k=0
        ·subst hk0
         have HW2:Hid (∀ p,∃ q,wr.drewN p=wo.drewN q):=(show ∀ p,_ from fun p=>by obtain ⟨q,e⟩:=HW.out;exact ⟨q+p,by rw [e,World.drewN_drewN]⟩)
         go_wp2_with fail
         go_quiet (fail)
         go_wp2_with fail
         go_meet
         case rel=>exact ⟨0,rfl,Nat.zero_le _,HGT,.inl rfl,HW2.out _⟩
        ·obtain ⟨j,hj⟩:∃ j,k=j+1:=⟨k - 1,by omega⟩
         have hjl:j < L.length:=by omega
         obtain ⟨hLn,gi,rfl,hgi,hgi2⟩:=HO.out.pos (by omega)
         obtain ⟨q0,hq0⟩:=HW.out
         obtain ⟨y0,hy0⟩:∃ y0,L[j]=y0:=⟨_,rfl⟩
         have hc:=(HO.out.cell rfl hjl).1
         rw [hy0] at hc
         have c0:wr.cell? ⟨gi,j * 2,none⟩=some (.int .i64 y0.1.w):=by rw [hq0];exact hc
         have c1:wr.cell? ⟨b,o+i,none⟩=some (.int .i64 x):=by rw [hq0];exact e1
         have HW2:Hid (∀ p,∃ q,wr.drewN p=wo.drewN q):=(show ∀ p,_ from fun p=>⟨q0+p,by rw [hq0,World.drewN_drewN]⟩)
         have hkj:(k:Int) - 1=(j:Int):=by omega
         have hjI:(j:Int) < (L.length:Int):=by omega
         have hk0p:0 < k:=by omega
         have hkI:decide ((k:Int) > 0)=true:=decide_eq_true (by omega)
         have hkN:decide (0 < k)=true:=decide_eq_true (by omega)
         have hkI2:(0:Int) < (k:Int):=by omega
         have HKJ:=Lib.hid hj
         have HJL:=Lib.hid hjl
         have HY0:=Lib.hid hy0
         have hiI:(i:Int) < (n:Int):=by omega
         clear hc hq0 hj hk0 hLn hy0
         by_cases hlt2:x < y0.1.w
         ·have dgt:decide (y0.1.w > x)=true:=decide_eq_true hlt2
          have HGT2:Hid (∀ y ∈ L.drop j,x < mxw y):=(show ∀ y ∈ _,_ from fun y hy=>by
           have hjl2:j < L.length:=HJL.out
           rw [List.drop_eq_getElem_cons hjl2] at hy
           rcases List.mem_cons.1 hy with e | hy
           ·rw [e,HY0.out];exact hlt2
           ·exact HGT.out y (by rw [HKJ.out];exact hy))
          go_wp2_with fail
          go_quiet (fail)
          go_wp2_with fail
          go_roundw
          case rel=>exact ⟨j,by omega,rfl,HGT2,HW2.out _⟩
          case measure=>have:=HKJ.out;simp [intOf];omega
         ·have dgt:decide (y0.1.w > x)=false:=decide_eq_false (by omega)
          have HLE2:Hid (k=0∨∃ y,L[k - 1]?=some y∧mxw y≤x):=(show _∨_ from .inr ⟨y0,by
           have e:k - 1=j:=by have:=HKJ.out;omega
           rw [e,← HY0.out]
           exact List.getElem?_eq_getElem _,by show y0.1.w≤x;omega⟩)
          go_wp2_with fail
          go_quiet (fail)
          go_wp2_with fail
          go_meet
          case rel=>exact ⟨k,rfl,by omega,HGT,HLE2,HW2.out _⟩
      case rest =>
       obtain ⟨k,rfl,hk,HGT,HLE,HW⟩:=hcut
       obtain ⟨q0,rfl⟩:=HW.out
       have HBq:=Lib.hid (bdrewN HB.out q0)
       have HOq:=Lib.hid (HO.out.drewN q0)
       have HMq:=Lib.hid (HMO.out.drewN q0)
       have e1q:(wo.drewN q0).cell? ⟨b,o+i,none⟩=some (.int .i64 x):=e1
       clear HO HMO HB e1 HW
       generalize wo.drewN q0=wq at *
       have HST2:=Lib.hid (fun (A9:Option Addr)=>ins_ok (x':=(.leaf x i,A9,1,1)) HX.out HXP.out HST.out hk HGT.out HLE.out rfl)
       have hsq:=HBq.out.size
       have hbq:b < wq.heap.size:=by omega
       have e1d:wq.drew.cell? ⟨b,o+i,none⟩=some (.int .i64 x):=e1q
       have hiI:(i:Int) < (n:Int):=by omega
       by_cases hLn:L=[]
       ·subst hLn
        obtain ⟨hAi,hci⟩:=HNIL.out rfl
        subst hAi hci
        obtain rfl:k=0:=Nat.le_zero.1 hk
        obtain ⟨x',hx'⟩:∃ x':MX,x'=(.leaf x i,some ⟨wq.heap.size,0,none⟩,1,1):=⟨_,rfl⟩
        have HN2:=Lib.hid (one_memE wq i x)
        rw [← hx'] at HN2
        have hq1:[x'].length+0≤1099511627776:=by show 1+0≤_;omega
        have hq2:([]:List MX).length+([x'] ++ ([]:List MX)).length≤1099511627776:=by show 0+1≤_;omega
        have HB2:=Lib.hid ((((Below.refl wq.heap.size wq).drew).alloc (Nat.le_refl _) (.cells #[.int .i64 (i:Int)] 3)).alloc (by rw [World.size_alloc];exact Nat.le_succ _) (.cells #[.int .i64 x,.slice (some ⟨wq.heap.size,0,none⟩) 1 1] 203))
        have HR2:=Lib.hid (RdI.alloc (rd_oneI wq.drew (i:Int)) (by rw [World.size_alloc];exact Nat.le_refl _) (.cells #[.int .i64 x,.slice (some ⟨wq.heap.size,0,none⟩) 1 1] 203))
        have f2:=cell_alloc3 (cell_alloc3 e1d (.cells #[.int .i64 (i:Int)] 3)) (.cells #[.int .i64 x,.slice (some ⟨wq.heap.size,0,none⟩) 1 1] 203)
        have hbl:b < wq.heap.size+1:=by omega
        have hblw:b < w.heap.size:=by omega
        have hle2:wq.heap.size+1≤((wq.drew.alloc (.cells #[.int .i64 (i:Int)] 3)).alloc (.cells #[.int .i64 x,.slice (some ⟨wq.heap.size,0,none⟩) 1 1] 203)).heap.size:=alloc_le2 _ _ _
        have hle3:w.heap.size≤((wq.drew.alloc (.cells #[.int .i64 (i:Int)] 3)).alloc (.cells #[.int .i64 x,.slice (some ⟨wq.heap.size,0,none⟩) 1 1] 203)).heap.size:=Nat.le_trans hsq (Nat.le_trans (Nat.le_succ _) hle2)
        go_upto_region 13 with (fail)
        go_region_held3 (fun w'=>w'.cell? ⟨b,o+i,none⟩=some (.int .i64 x))
         (first | (with_reducible exact e1q) | (with_reducible exact e1d) | (with_reducible exact f2) | (with_reducible exact f3) | (with_reducible exact f4) | (with_reducible exact cell_alloc3 e1d _) | go_keep)
         (first
         | (refine step_appendE rfl (.tmp 84) (.tmp 87) rfl (wq.heap.size+1) (.slice (some ⟨wq.heap.size+1,0,none⟩) 1 1) [x'] rfl HN2.out wq.heap.size 0 0 none [] rfl RdE.nil_ hq1 hle2 ?_;intro v3 w3 h3 hg3 hb3 hat3;have f3:=cell_blw3 hb3 hbl f2;have HG3:=Lib.hid hg3;have HB3:=Lib.hid hb3;have hle4:=Nat.le_trans hle3 hb3.size;obtain ⟨A3,c3,rfl,hr3,-,-⟩:=h3.form;clear h3 hg3 hb3 hat3)
         | (refine step_appendE rfl (.tmp 76) (.tmp 88) rfl w.heap.size (.slice none 0 0) [] rfl (ownE.nil_ _ _) w3.heap.size _ c3 A3 ([x'] ++ []) rfl hr3 hq2 hle4 ?_;intro v4 w4 h4 hg4 hb4 hat4;have f4:=cell_blw3 hb4 hblw f3;obtain ⟨A4,c4,rfl,hr4,-,-⟩:=h4.form;have HO4:=Lib.hid (show ownE w4 w.heap.size (.slice A4 1 c4) [x'] from h4);have HG4:=Lib.hid hg4;have HB4:=Lib.hid hb4;have HAT4:=Lib.hid hat4;clear h4 hg4 hb4 hat4 hr4))
        all_goals
         go_wp2_with fail
         have hle5:wq.heap.size+1≤w3.heap.size:=Nat.le_trans hle2 HB3.out.size
         have HRX:=Lib.hid (show RdI w3 w3.heap.size x'.2.1 x'.2.2.1 (plI x'.1.items) from by rw [hx'];exact (HR2.out.blw HB3.out).more hle5)
         have HM3:=Lib.hid (show MO w3 (.slice none 0 0) [x'] from fun y hy=>by
          rw [List.mem_singleton] at hy
          subst hy
          refine ⟨HRX.out,fun a ha=>⟨(fun e=>by cases e),?_⟩⟩
          rw [hx'] at ha
          injection ha with ha
          subst ha
          exact Nat.lt_of_lt_of_le (Nat.lt_succ_self _) hle5)
         have HM4:=Lib.hid (MO.app (v':=.slice A4 1 c4) HM3.out HG4.out HAT4.out)
         have HB5:=Lib.hid (HBq.out.trans ((HB2.out.mono hsq).trans ((HB3.out.mono (Nat.le_succ_of_le hsq)).trans HB4.out)))
         have HST4:Hid ([x'].map (·.1)=stab Mem.w (leaves (ws.take (i+1)))):=(show _=_ by rw [hx'];exact HST2.out (some ⟨wq.heap.size,0,none⟩))
         have HNN:Hid ([x']=[]→A4=none∧c4=0):=(show _→_ from fun e=>by cases e)
         go_roundw
         case rel=>exact ⟨i+1,[x'],A4,c4,by omega,by go_num,rfl,by show 1≤i+1;omega,HNN,HBD2,HST4,HO4,HM4,HB5⟩
         case measure=>simp [intOf];omega
       ·have hLpos:0 < L.length:=List.length_pos_iff.2 hLn
        obtain ⟨-,gi,rfl,hgi,hgi2⟩:=HOq.out.pos hLpos
        have hlci:L.length≤ci:=by
         obtain ⟨_,_,e,_,h2,_⟩:=HOq.out.form
         injection e with _ _ e3
         omega
        have hci0:¬ ci=0:=by omega
        have hkc:(k:Int)≤(ci:Int):=by omega
        have hkL:(k:Int)≤(L.length:Int):=by omega
        have hk0I:(0:Int)≤(k:Int):=by omega
        obtain ⟨x',hx'⟩:∃ x':MX,x'=(.leaf x i,some ⟨wq.heap.size,0,none⟩,1,1):=⟨_,rfl⟩
        have HN2:=Lib.hid (one_memE wq i x)
        rw [← hx'] at HN2
        have hlen4:(L.take k ++ ([x'] ++ L.drop k)).length=L.length+1:=by simp;omega
        have hq1:[x'].length+(L.length - k)≤1099511627776:=by simp;omega
        have hq2:(L.take k).length+([x'] ++ L.drop k).length≤1099511627776:=by simp;omega
        have HB2:=Lib.hid ((((Below.refl wq.heap.size wq).drew).alloc (Nat.le_refl _) (.cells #[.int .i64 (i:Int)] 3)).alloc (by rw [World.size_alloc];exact Nat.le_succ _) (.cells #[.int .i64 x,.slice (some ⟨wq.heap.size,0,none⟩) 1 1] 203))
        have HO2:=Lib.hid (((HOq.out.drew).alloc (.cells #[.int .i64 (i:Int)] 3)).alloc (.cells #[.int .i64 x,.slice (some ⟨wq.heap.size,0,none⟩) 1 1] 203))
        have HM2:=Lib.hid (((HMq.out.drew).alloc (.cells #[.int .i64 (i:Int)] 3)).alloc (.cells #[.int .i64 x,.slice (some ⟨wq.heap.size,0,none⟩) 1 1] 203))
        have HR2:=Lib.hid (RdI.alloc (rd_oneI wq.drew (i:Int)) (by rw [World.size_alloc];exact Nat.le_refl _) (.cells #[.int .i64 x,.slice (some ⟨wq.heap.size,0,none⟩) 1 1] 203))
        have f2:=cell_alloc3 (cell_alloc3 e1d (.cells #[.int .i64 (i:Int)] 3)) (.cells #[.int .i64 x,.slice (some ⟨wq.heap.size,0,none⟩) 1 1] 203)
        have hneV:(Value.slice (some ⟨gi,0,none⟩) L.length ci).ownBlock ≠ (Value.slice (some ⟨wq.heap.size+1,0,none⟩) 1 1).ownBlock:=by
         intro e
         have e2:some gi=some (wq.heap.size+1):=e
         injection e2 with e2
         omega
        have hbl:b < wq.heap.size+1:=by omega
        have hblw:b < w.heap.size:=by omega
        have hle2:wq.heap.size+1≤((wq.drew.alloc (.cells #[.int .i64 (i:Int)] 3)).alloc (.cells #[.int .i64 x,.slice (some ⟨wq.heap.size,0,none⟩) 1 1] 203)).heap.size:=alloc_le2 _ _ _
        have hle3:w.heap.size≤((wq.drew.alloc (.cells #[.int .i64 (i:Int)] 3)).alloc (.cells #[.int .i64 x,.slice (some ⟨wq.heap.size,0,none⟩) 1 1] 203)).heap.size:=Nat.le_trans hsq (Nat.le_trans (Nat.le_succ _) hle2)
        by_cases hck:ci=k
        ·have hLK:L.length=k:=by omega
         have HLK:=Lib.hid hLK
         obtain rfl:k=ci:=hck.symm
         clear hlci hkc hLK
         have HI2:=Lib.hid (show RdE ((wq.drew.alloc (.cells #[.int .i64 (i:Int)] 3)).alloc (.cells #[.int .i64 x,.slice (some ⟨wq.heap.size,0,none⟩) 1 1] 203)) wq.heap.size (some ⟨gi,0,none⟩) (L.length - k) (L.drop k) from by
          have e1:L.length=k:=HLK.out
          rw [List.drop_eq_nil_of_le (by omega),show L.length - k=0 by omega]
          exact RdE.nil_)
         go_upto_region 13 with (fail)
         go_region_held3 (fun w'=>w'.cell? ⟨b,o+i,none⟩=some (.int .i64 x))
          (first | (with_reducible exact e1q) | (with_reducible exact e1d) | (with_reducible exact f2) | (with_reducible exact f3) | (with_reducible exact f4) | (with_reducible exact cell_alloc3 e1d _) | go_keep)
          (first
          | (refine step_appendE rfl (.tmp 84) (.tmp 87) rfl (wq.heap.size+1) (.slice (some ⟨wq.heap.size+1,0,none⟩) 1 1) [x'] rfl HN2.out wq.heap.size (L.length - k) _ _ (L.drop k) rfl HI2.out hq1 hle2 ?_;intro v3 w3 h3 hg3 hb3 hat3;have f3:=cell_blw3 hb3 hbl f2;have HO3:=Lib.hid (ownE.kept HO2.out hg3 (.inr hneV));have HG3:=Lib.hid hg3;have HB3:=Lib.hid hb3;have hle4:=Nat.le_trans hle3 hb3.size;obtain ⟨A3,c3,rfl,hr3,-,-⟩:=h3.form;clear h3 hg3 hb3 hat3)
          | (refine step_appendE rfl (.tmp 76) (.tmp 88) rfl w.heap.size (.slice (some ⟨gi,0,none⟩) k k) (L.take k) rfl (ownE.take HO3.out hk hLpos) w3.heap.size _ c3 A3 ([x'] ++ L.drop k) rfl hr3 hq2 hle4 ?_;intro v4 w4 h4 hg4 hb4 hat4;have f4:=cell_blw3 hb4 hblw f3;obtain ⟨A4,c4,rfl,hr4,-,-⟩:=h4.form;rw [hlen4] at h4 hat4 ⊢;have HO4:=Lib.hid h4;have HG4:=Lib.hid hg4;have HB4:=Lib.hid hb4;have HAT4:=Lib.hid hat4;clear h4 hg4 hb4 hat4 hr4))
         all_goals
          go_wp2_with fail
          have HLT:=Lib.hid (show ∀ y ∈ L,∀ a,y.2.1=some a→a.block < wq.heap.size from fun y hy a ha=>((HMq.out y hy).2 a ha).2)
          have hle5:wq.heap.size+1≤w3.heap.size:=Nat.le_trans hle2 HB3.out.size
          have HRX:=Lib.hid (show RdI w3 w3.heap.size x'.2.1 x'.2.2.1 (plI x'.1.items) from by rw [hx'];exact (HR2.out.blw HB3.out).more hle5)
          have HAX:x'.2.1=some ⟨wq.heap.size,0,none⟩:=by rw [hx']
          have HM4:=Lib.hid (ins_mo (k:=k) (v4:=.slice A4 (L.length+1) c4) HM2.out HLT.out HG3.out HRX.out HAX (Nat.lt_of_lt_of_le (Nat.lt_succ_self _) hle5) hgi2 HG4.out HAT4.out)
          have HB5:=Lib.hid (HBq.out.trans ((HB2.out.mono hsq).trans ((HB3.out.mono (Nat.le_succ_of_le hsq)).trans HB4.out)))
          have HST4:Hid ((L.take k ++ ([x'] ++ L.drop k)).map (·.1)=stab Mem.w (leaves (ws.take (i+1)))):=(show _=_ by rw [hx'];exact HST2.out (some ⟨wq.heap.size,0,none⟩))
          have HNN:Hid (L.take k ++ ([x'] ++ L.drop k)=[]→A4=none∧c4=0):=(show _→_ from fun e=>absurd (congrArg List.length e) (by rw [hlen4];simp))
          go_roundw
          case rel=>exact ⟨i+1,L.take k ++ ([x'] ++ L.drop k),A4,c4,by omega,by go_num,by rw [hlen4],by rw [hlen4];omega,HNN,HBD2,HST4,by rw [hlen4];exact HO4,by rw [hlen4];exact HM4,HB5⟩
          case measure=>simp [intOf];omega
        ·have hck2:¬ k=ci:=fun e=>hck e.symm
         have HI2:=Lib.hid (show RdE _ wq.heap.size (some ⟨gi,k * 2,none⟩) (L.length - k) (L.drop k) from by
          have h1:=RdE.cut (RdE.here HOq.out.rd) (k:=k) (m:=L.length - k) (by omega) (A':=some ⟨gi,k * 2,none⟩) (fun _=>by simp [add_none])
          rw [List.take_of_length_le (by rw [List.length_drop];exact Nat.le_refl _)] at h1
          exact RdE.blw h1 HB2.out)
         go_upto_region 13 with (fail)
         go_region_held3 (fun w'=>w'.cell? ⟨b,o+i,none⟩=some (.int .i64 x))
          (first | (with_reducible exact e1q) | (with_reducible exact e1d) | (with_reducible exact f2) | (with_reducible exact f3) | (with_reducible exact f4) | (with_reducible exact cell_alloc3 e1d _) | go_keep)
          (first
          | (refine step_appendE rfl (.tmp 84) (.tmp 87) rfl (wq.heap.size+1) (.slice (some ⟨wq.heap.size+1,0,none⟩) 1 1) [x'] rfl HN2.out wq.heap.size (L.length - k) _ _ (L.drop k) rfl HI2.out hq1 hle2 ?_;intro v3 w3 h3 hg3 hb3 hat3;have f3:=cell_blw3 hb3 hbl f2;have HO3:=Lib.hid (ownE.kept HO2.out hg3 (.inr hneV));have HG3:=Lib.hid hg3;have HB3:=Lib.hid hb3;have hle4:=Nat.le_trans hle3 hb3.size;obtain ⟨A3,c3,rfl,hr3,-,-⟩:=h3.form;clear h3 hg3 hb3 hat3)
          | (refine step_appendE rfl (.tmp 76) (.tmp 88) rfl w.heap.size (.slice (some ⟨gi,0,none⟩) k ci) (L.take k) rfl (ownE.take HO3.out hk hLpos) w3.heap.size _ c3 A3 ([x'] ++ L.drop k) rfl hr3 hq2 hle4 ?_;intro v4 w4 h4 hg4 hb4 hat4;have f4:=cell_blw3 hb4 hblw f3;obtain ⟨A4,c4,rfl,hr4,-,-⟩:=h4.form;rw [hlen4] at h4 hat4 ⊢;have HO4:=Lib.hid h4;have HG4:=Lib.hid hg4;have HB4:=Lib.hid hb4;have HAT4:=Lib.hid hat4;clear h4 hg4 hb4 hat4 hr4))
         all_goals
          go_wp2_with fail
          have HLT:=Lib.hid (show ∀ y ∈ L,∀ a,y.2.1=some a→a.block < wq.heap.size from fun y hy a ha=>((HMq.out y hy).2 a ha).2)
          have hle5:wq.heap.size+1≤w3.heap.size:=Nat.le_trans hle2 HB3.out.size
          have HRX:=Lib.hid (show RdI w3 w3.heap.size x'.2.1 x'.2.2.1 (plI x'.1.items) from by rw [hx'];exact (HR2.out.blw HB3.out).more hle5)
          have HAX:x'.2.1=some ⟨wq.heap.size,0,none⟩:=by rw [hx']
          have HM4:=Lib.hid (ins_mo (k:=k) (v4:=.slice A4 (L.length+1) c4) HM2.out HLT.out HG3.out HRX.out HAX (Nat.lt_of_lt_of_le (Nat.lt_succ_self _) hle5) hgi2 HG4.out HAT4.out)
          have HB5:=Lib.hid (HBq.out.trans ((HB2.out.mono hsq).trans ((HB3.out.mono (Nat.le_succ_of_le hsq)).trans HB4.out)))
          have HST4:Hid ((L.take k ++ ([x'] ++ L.drop k)).map (·.1)=stab Mem.w (leaves (ws.take (i+1)))):=(show _=_ by rw [hx'];exact HST2.out (some ⟨wq.heap.size,0,none⟩))
          have HNN:Hid (L.take k ++ ([x'] ++ L.drop k)=[]→A4=none∧c4=0):=(show _→_ from fun e=>absurd (congrArg List.length e) (by rw [hlen4];simp))
          go_roundw
          case rel=>exact ⟨i+1,L.take k ++ ([x'] ++ L.drop k),A4,c4,by omega,by go_num,by rw [hlen4],by rw [hlen4];omega,HNN,HBD2,HST4,by rw [hlen4];exact HO4,by rw [hlen4];exact HM4,HB5⟩
          case measure=>simp [intOf];omega
   ·obtain rfl:i=n:=by omega
    have hws:ws.take i=ws:=List.take_of_length_le (by rw [HL.out];exact Nat.le_refl _)
    rw [hws] at HST HBD
    have hnl:L.length=posn ws:=by
     have:=congrArg List.length HST.out
     rwa [List.length_map,stab_lenM,leaves_length] at this
    have hll:(leaves ws).length=L.length:=by rw [hnl,leaves_length]
    have HLL:=Lib.hid hll
    have HWR:Hid (wrongH ws (m:Int)=decide (2 ^ m < L.length)):=(show _=_ by
     unfold wrongH
     rw [HBD.out,HL.out,decide_eq_false (show ¬ i < 1 by omega),decide_eq_false (show ¬ 300 < i by omega),decide_eq_false (show ¬ (m:Int) < 1 by omega),decide_eq_false (show ¬ (15:Int) < (m:Int) by omega),hnl]
     simp)
    have hsh:=shl_lt L.length m hm2
    have HWS:=Lib.hid (badW_all HBD.out)
    clear hll hnl hws
    by_cases hmany:2 ^ m < L.length
    ·have HBP:=Lib.hid (len_bad (w:=w) (w':=wr) (most:=(m:Int)) (by rw [HWR.out];exact decide_eq_true hmany) HB.out)
     rw [decide_eq_true hmany] at hsh
     clear hmany
     go_wp2_with fail
     go_ret2
     exact HBP.out
    ·have hwf:wrongH ws (m:Int)=false:=by rw [HWR.out];exact decide_eq_false hmany
     have HE:Hid (lenE ws (m:Int)=0∧lenR ws (m:Int)=lensOf ws m):=(show _∧_ by unfold lenE lenR;rw [hwf];exact ⟨rfl,rfl⟩)
     rw [decide_eq_false hmany] at hsh
     have HMY:=Lib.hid hmany
     clear hmany hwf
     have hsz:=HB.out.size
     by_cases hone:L.length=1
     ·obtain ⟨x0,rfl⟩:=List.length_eq_one_iff.1 hone
      have hx0:x0.1 ∈ leaves ws:=stab_mem.1 (by rw [← HST.out];simp)
      obtain ⟨p,hp,hpe,-⟩:=leaves_mem hx0
      obtain ⟨t0,A0,n0,c0⟩:=x0
      dsimp only at hpe
      generalize ws[p]=wp at hpe
      have hlv:leaves ws=[t0]:=by
       obtain ⟨t,ht⟩:=List.length_eq_one_iff.1 (HLL.out.trans hone)
       have:=HST.out
       rw [ht] at this ⊢
       simp [stab,insR] at this
       rw [this]
      have HLV:=Lib.hid hlv
      have hr0:=(HMO.out (t0,A0,n0,c0) (by simp)).1
      dsimp only at hr0
      rw [show plI t0.items=[(p:Int)] by rw [hpe];rfl] at hr0
      have hn0:n0=1:=hr0.len.symm
      subst hn0
      have HPE:=Lib.hid hpe
      obtain ⟨-,gi,rfl,hgi,hgi2⟩:=HO.out.pos (show 0 < [(t0,A0,1,c0)].length by simp)
      have HR0:=Lib.hid hr0
      have hpi:p < i:=by rw [← HL.out];exact hp
      clear hr0 hpe hlv hone hp hx0
      have hsh1:decide (wrap64 (2 ^ m) < (1:Int))=false:=hsh
      have hsh2:¬ wrap64 (2 ^ m) < (1:Int):=of_decide_eq_false hsh1
      clear hsh
      simp only [List.length_singleton]
      go_wp2_with (at_make;refine wpList_makeI rfl _ _ rfl i _ rfl rfl rfl (by omega) ?_;intro w1 hown hb1 hsz1;have HOU:=Lib.hid hown;have HB1:=Lib.hid hb1;have c1:=((ownE.later HO.out hb1).cell rfl (show 0 < [(t0,A0,1,c0)].length by simp)).2;obtain ⟨b5,o5,x5,rfl,hb5,HX5,e5⟩:=(RdI.blw HR0.out hb1).one (show 0 < 1 by omega);obtain rfl:x5=(p:Int):=(Option.some.inj HX5.out).symm;have o6:=hown.cell (by simp) (k:=p) (by simp;exact hpi);have f6:=hown.frozen (by simp) p;dsimp only at c1;rw [List.getElem_replicate] at o6;rw [Nat.add_zero] at e5;clear hown hb1 HX5)
      go_ret2
      have e5x:lensOf ws m=(List.replicate i 0).set p 1:=by
       rw [lensOf,if_pos (by rw [HLV.out];rfl),HLV.out,HPE.out,HL.out]
       show (List.replicate i (0:Int)).set p ((List.replicate i (0:Int)).getD p 0+1)=_
       rw [List.getD_eq_getElem?_getD,List.getElem?_replicate]
       simp [hpi]
      refine ⟨some ⟨wr.heap.size,0,none⟩,i,i,ret_tup2 rfl (by rw [HE.out.1];rfl),?_,?_,(HB.out.trans (HB1.out.mono hsz)).setCell hsz _⟩
      ·rw [HE.out.2,e5x];simp
      ·rw [HE.out.2,e5x]
       exact (HOU.out.store (by simp) p 1).mono hsz
     ·by_cases hzero:L.length=0
      ·have d1:((L.length:Int) == 1)=false:=beq_eq_false_iff_ne.2 (by omega)
       have d2:decide ((L.length:Int) < 2)=true:=decide_eq_true (by omega)
       have hlz:lensOf ws m=List.replicate i 0:=by
        rw [lensOf,if_neg (by rw [HLL.out];exact hone),HLL.out,hzero,HL.out]
        rfl
       have HLZ:=Lib.hid hlz
       clear hlz hzero hone
       generalize L.length=ll at *
       have hsh2:¬ wrap64 (2 ^ m) < (ll:Int):=of_decide_eq_false hsh
       go_wp2_with (at_make;refine wpList_makeI rfl _ _ rfl i _ rfl rfl rfl (by omega) ?_;intro w1 hown hb1 hsz1;have HOU:=Lib.hid hown;have HB1:=Lib.hid hb1;clear hown hb1)
       go_ret2
       refine ⟨some ⟨wr.heap.size,0,none⟩,i,i,ret_tup2 rfl (by rw [HE.out.1];rfl),?_,?_,HB.out.trans (HB1.out.mono hsz)⟩
       ·rw [HE.out.2,HLZ.out];simp
       ·rw [HE.out.2,HLZ.out]
        exact HOU.out.mono hsz
      ·have d1:((L.length:Int) == 1)=false:=beq_eq_false_iff_ne.2 (by omega)
       have d2:decide ((L.length:Int) < 2)=false:=decide_eq_false (by omega)
       have hl2:2≤L.length:=by omega
       have hLpos:0 < L.length:=by omega
       obtain ⟨-,gi,rfl,hgi,hgi2⟩:=HO.out.pos hLpos
       have HLB:=Lib.hid (show ∀ x ∈ L,∀ a,x.2.1=some a→a.block < wr.heap.size from fun x hx a ha=>((HMO.out x hx).2 a ha).2)
       have HONE:=Lib.hid hone
       have HLN:Hid (L.length=L.length):=(show _=_ from rfl)
       clear hone hzero HLN
       have hsh2:¬ wrap64 (2 ^ m) < (L.length:Int):=of_decide_eq_false hsh
       have HR0:=Lib.hid (RdE.here HO.out.rd)
       have HMK:=Lib.hid HMO.out.ok
       have HGI:=Lib.hid hgi2
       clear HO HMO hsh
       go_wp2_with (at_make;refine wpList_makeI rfl _ _ rfl i _ rfl rfl rfl (by omega) ?_;intro w1 hown hb1 hsz1;have HOU:=Lib.hid hown;have HB1:=Lib.hid hb1;have HR1:=Lib.hid (RdE.later HR0.out hb1);have HM1:=Lib.hid ((HMK.out.blw hb1).more hb1.size);clear hown hb1)
       have HBW1:=Lib.hid (HB.out.trans (HB1.out.mono hsz))
       generalize hgo:wr.heap.size=go at *
       have HGO:=Lib.hid hgo
       clear hgo HR0 HMK
       go_loopw [11,10] (fun vi vl wr=>∃ (k:Nat) (Al:Option Addr) (cl:Nat) (Z:List MX),1≤k∧k≤m∧vi=.int .i64 k∧vl=.slice Al Z.length cl∧Hid (Z.map (·.1)=pmL (stab Mem.w (leaves ws)) (k - 1))∧Hid (RdE wr wr.heap.size Al Z.length Z)∧Hid (MOk wr wr.heap.size Z) ∧
         Hid (∀ x ∈ Z,∀ a,x.2.1=some a→a.block ≠ go)∧Hid (∀ a,Al=some a→a.block ≠ go)∧Z.length≤600∧Hid (Below w1.heap.size w1 wr))
        (fun vi _ _=>m - (intOf vi).toNat)
       case atStart=>exact ⟨1,_,ci,L,Nat.le_refl _,hm1,rfl,rfl,(show _=_ from HST.out),HR1,HM1,(show ∀ x ∈ L,_ from fun x hx a ha=>Nat.ne_of_lt (HLB.out x hx a ha)),(show ∀ a,_ from fun a ha=>by injection ha with ha;subst ha;exact Nat.ne_of_lt hgi2),by omega,Below.refl _ _⟩
       case round =>
        obtain ⟨k,Al,cl,Z,hk1,hk2,rfl,rfl,HZ,HR,HM,HNG,HAG,hZ6,HBZ⟩:=hrel
        by_cases hltm:k < m
        ·have hW5:=pm_weight15 (first:=stab Mem.w (leaves ws)) (fun t ht=>leaves_w HWS.out t (stab_mem.1 ht)) (k:=k - 1) (by omega)
         have HW5:=Lib.hid (show ∀ x ∈ Z,0≤x.1.w∧x.1.w≤1125899906842624 from fun x hx=>hW5 x.1 (by rw [← HZ.out];exact List.mem_map_of_mem hx))
         have hS1:=pm_sizes (first:=stab Mem.w (leaves ws)) (fun t ht=>leaves_s t (stab_mem.1 ht)) (k - 1)
         have hpw:2 ^ (k - 1)≤2 ^ 14:=Nat.pow_le_pow_right (by omega) (by omega)
         have HS1:=Lib.hid (show ∀ x ∈ Z,x.1.items.length≤16384 from fun x hx=>by have:=hS1 x.1 (by rw [← HZ.out];exact List.mem_map_of_mem hx);omega)
         clear hW5 hS1 hpw
         have hgow:go < wr.heap.size:=by have:=HBZ.out.size;omega
         obtain ⟨wo,rfl⟩:∃ wo:World,wo=wr:=⟨_,rfl⟩
         have HPK:Hid (([]:List MX).map (·.1) ++ packs ((Z.drop 0).map (·.1))=packs (Z.map (·.1))):=(show _=_ from rfl)
         go_wp2_with fail
         go_loopw [13,12] (fun vi vp wr=>∃ (d:Nat) (P:List MX) (Ap:Option Addr) (cp:Nat),d≤Z.length∧vi=.int .i64 d∧vp=.slice Ap P.length cp∧P.length * 2=d∧Hid (P.map (·.1) ++ packs ((Z.drop d).map (·.1))=packs (Z.map (·.1)))∧Hid (ownE wr wo.heap.size (.slice Ap P.length cp) P)∧Hid (MO wr (.slice Ap P.length cp) P)∧Hid (∀ x ∈ P,∀ a,x.2.1=some a→wo.heap.size≤a.block)∧Hid (Below wo.heap.size wo wr))
          (fun vi _ _=>Z.length - (intOf vi).toNat)
         case atStart=>exact ⟨0,[],none,0,Nat.zero_le _,rfl,rfl,rfl,HPK,ownE.nil_ _ _,MO.nil _ _,(show ∀ x ∈ _,_ from fun x hx=>by cases hx),Below.refl _ _⟩
         case round =>
          clear HPK
          obtain ⟨d,P,Ap,cp,hd,rfl,rfl,hPd,HPK,HOP,HMP,HNP,HBP⟩:=hrel
          by_cases hlt4:d+1 < Z.length
          ·obtain ⟨bl,o,x,eA,hb,HX,e1,e2⟩:=(RdE.blw HR.out HBP.out).one (show d < Z.length by omega)
           obtain ⟨bl2,o2,y,eA2,hb2,HY,g1,g2⟩:=(RdE.blw HR.out HBP.out).one hlt4
           rw [eA] at eA2
           injection eA2 with eA2
           injection eA2 with eb eo
           subst eb eo
           subst eA
           have HPS2:=Lib.hid (packs_two HX.out HY.out)
           have hxm:x ∈ Z:=List.mem_of_getElem? HX.out
           have hym:y ∈ Z:=List.mem_of_getElem? HY.out
           have hwx:=HW5.out x hxm
           have hwy:=HW5.out y hym
           have hsx:=HS1.out x hxm
           have hsy:=HS1.out y hym
           have hbs:=HBP.out.size
           have HIX:=Lib.hid (((HM.out x hxm).blw HBP.out).more hbs)
           have HIY:=Lib.hid (((HM.out y hym).blw HBP.out).more hbs)
           have s0:Cs4 wr bl o d x y:=⟨e1,e2,g1,g2⟩
           obtain ⟨t,A3,n3,c3⟩:=x
           obtain ⟨u,A6,n6,c6⟩:=y
           dsimp only at hwx hwy hsx hsy HIX HIY HPS2
           have hn3:(plI t.items).length=n3:=HIX.out.len
           have hn6:(plI u.items).length=n6:=HIY.out.len
           have hn3b:n3≤16384:=by rw [← hn3];simpa [plI] using hsx
           have hn6b:n6≤16384:=by rw [← hn6];simpa [plI] using hsy
           obtain ⟨nn,hnn⟩:∃ nn,(plI t.items ++ plI u.items).length=nn:=⟨_,rfl⟩
           have hq1:(plI t.items).length+n6≤1099511627776:=by omega
           have hq2:P.length+1≤1099511627776:=by omega
           have hq3:n3≤1099511627776:=by omega
           have HCP:=Lib.hid (copyI_any wr.heap.size n3 c3 A3 (plI t.items) wr.drew (rdI_drew2 HIX.out) hq3)
           have hblr:bl < wr.heap.size:=by omega
           have hdI:(d:Int) < (Z.length:Int):=by omega
           have hd1I:(d:Int)+1 < (Z.length:Int):=by omega
           have hd0I:(0:Int)≤(d:Int)+1:=by omega
           have hdN:((d:Int)+1).toNat=d+1:=by omega
           have hPd2:P.length * 2+2=d+2:=by omega
           have hd2:d+2≤Z.length:=by omega
           have HPD:=Lib.hid hPd2
           have HN36:=Lib.hid (And.intro hn3 hn6)
           clear e1 e2 g1 g2 hsx hsy hn3 hn6 hxm hym hPd HX HY
           have hwd:IntKind.i64.wrap ((d:Int)+1)=(d:Int)+1:=(by have:=wrap_i64_lt (d+1) (by omega);simpa using this)
           have hww:IntKind.i64.wrap (t.w+u.w)=t.w+u.w:=wrap_i64_id2 (by omega) (by omega)
           go_upto_region 29 with (fail)
           go_region_held3 (fun w'=>w'.cell? ⟨bl,o+d * 2,none⟩=some (.int .i64 t.w)∧w'.cell? ⟨bl,o+d * 2+1,none⟩=some (.slice A3 n3 c3)∧w'.cell? ⟨bl,o+(d+1) * 2,none⟩=some (.int .i64 u.w)∧w'.cell? ⟨bl,o+(d+1) * 2+1,none⟩=some (.slice A6 n6 c6))
            (first | (with_reducible exact s0) | (with_reducible exact s0.drew) | (with_reducible exact s4) | (with_reducible exact s5) | (with_reducible exact s5.al _) | (with_reducible exact s7))
            (first
            | (go_at_call 123;(with_reducible refine HCP.out.mono ?_);go_must (rintro e w4 ⟨A4,c4,rfl,-,-,ho4,hb4⟩;have HB4:=below_undrew2 hb4;have s4:=s0.blw HB4 hblr;have z4:=HB4.size))
            | (refine step_appendI rfl (.tmp 145) (.tmp 151) rfl wr.heap.size (.slice A4 n3 c4) (plI t.items) rfl ho4 wr.heap.size n6 _ A6 (plI u.items) rfl (RdI.blw HIY.out HB4) hq1 z4 ?_;intro v5 w5 h5 hg5 hb5 hat5;have HB5:=HB4.trans hb5;have s5:=s0.blw HB5 hblr;have z5:=HB5.size;obtain ⟨A5,c5,rfl,hr5,-,-⟩:=h5.form;rw [hnn] at h5 hr5 ⊢;have H5:=Lib.hid h5;have HR5:=Lib.hid hr5;clear h5 hg5 hb5 hat5 hr5)
            | (refine step_appendE rfl (.tmp 127) (.tmp 154) rfl wo.heap.size (.slice Ap P.length cp) P rfl (ownE.alloc (ownE.later HOP.out HB5) _) (w5.heap.size+1) 1 1 (some ⟨w5.heap.size,0,none⟩) [(Mem.node t u,A5,nn,c5)] rfl (rd_oneE w5 (Mem.node t u,A5,nn,c5) _ _) hq2 (Nat.le_trans hbs (Nat.le_trans z5 (alloc_le3 _ _))) ?_;intro v7 w7 h7 hg7 hb7 hat7;have s7:=(s5.al _).blw hb7 hb;obtain ⟨A7,c7,rfl,hr7,-,-⟩:=h7.form;have H7:=Lib.hid h7;have HG7:=Lib.hid hg7;have HB7:=Lib.hid hb7;have HAT7:=Lib.hid hat7;clear h7 hg7 hb7 hat7 hr7))
           all_goals
            go_wp2_with fail
            have HPK2:Hid ((P ++ [(Mem.node t u,A5,nn,c5)]).map (·.1) ++ packs ((Z.drop (d+2)).map (·.1))=packs (Z.map (·.1))):=(show _=_ by
             rw [← HPK.out,HPS2.out,List.map_append,List.append_assoc];rfl)
            have hA5:∀ a,A5=some a→wr.heap.size≤a.block∧a.block < w5.heap.size:=fun a ha=>by
             have h5:=H5.out
             rw [ha] at h5
             exact World.ownsRow.lt h5 a.block rfl
            have HA5:=Lib.hid hA5
            have HX5:=Lib.hid (show RdI w5 w5.heap.size A5 nn (plI (Mem.node t u).items) from by
             show RdI w5 w5.heap.size A5 nn (plI (t.items ++ u.items))
             rw [plI_append]
             exact HR5.out)
            have HM7:=Lib.hid (pack_mo (x':=(Mem.node t u,A5,nn,c5)) (vP':=.slice A7 (P ++ [(Mem.node t u,A5,nn,c5)]).length c7) (HMP.out.later HB5) HX5.out (fun a ha=>⟨fun e=>by
             have h1:=(World.ownsRow.lt HOP.out a.block e).2
             have h2:=(HA5.out a ha).1
             omega,(HA5.out a ha).2⟩) HG7.out HAT7.out)
            have HNP7:=Lib.hid (show ∀ x ∈ P ++ [((Mem.node t u,A5,nn,c5):MX)],∀ a,x.2.1=some a→wo.heap.size≤a.block from fun x hx a ha=>by
             rcases List.mem_append.1 hx with h1 | h1
             ·exact HNP.out x h1 a ha
             ·rw [List.mem_singleton] at h1
              subst h1
              exact Nat.le_trans hbs (HA5.out a ha).1)
            have HB8:=Lib.hid (((HBP.out.trans (HB5.mono hbs)).alloc (Nat.le_trans hbs z5) _).trans HB7.out)
            have HL8:Hid ((P ++ [((Mem.node t u,A5,nn,c5):MX)]).length=P.length+1):=(show _=_ by simp)
            have hp2:(P ++ [((Mem.node t u,A5,nn,c5):MX)]).length * 2=d+2:=by rw [HL8.out];omega
            clear hwd hww
            go_roundw
            case rel=>exact ⟨d+2,P ++ [(Mem.node t u,A5,nn,c5)],A7,c7,hd2,by go_num,by first | rfl | rw [HL8.out],hp2,HPK2,H7,HM7,HNP7,HB8⟩
            case measure=>simp [intOf];omega
          ·have hPL:Hid (P.map (·.1)=packs (Z.map (·.1))):=(show _=_ by
            have:=HPK.out
            rwa [packs_end (by omega),List.append_nil] at this)
           have hPl2:P.length≤300:=by omega
           have hd1:¬ (d:Int)+1 < (Z.length:Int):=by omega
           have HRI:=Lib.hid (show RdE wr wr.heap.size (some ⟨gi,0,none⟩) L.length L from (((RdE.blw HR1.out HBZ.out).more HBZ.out.size).blw HBP.out).more HBP.out.size)
           have HSO:=Lib.hid (sorted_any wr.heap.size L.length ci wr.heap.size P.length cp (some ⟨gi,0,none⟩) Ap L P wr HRI.out (RdE.here HOP.out.rd) (Nat.le_refl _) (Nat.le_refl _) (by omega) (by omega))
           have hl300:L.length≤300:=by omega
           go_wp2_with (go_at_call 164;(with_reducible refine HSO.out.mono ?_);go_must (rintro e w9 ⟨A9,n9,c9,rfl,hn9,ho9,hb9⟩;have HO9:=Lib.hid ho9;have HB9:=Lib.hid hb9;have HN9:=Lib.hid hn9;clear ho9 hb9 hn9))
           have hml:=mx_len (L.length+P.length) L P (Nat.le_refl _)
           have HZ9:Hid ((mrgBy mxw L P).map (·.1)=pmL (stab Mem.w (leaves ws)) k):=(show _=_ by
            rw [mx_map _ L P (Nat.le_refl _),hPL.out,HZ.out,HST.out]
            obtain ⟨k',rfl⟩:∃ k',k=k'+1:=⟨k - 1,by omega⟩
            rfl)
           have hn9:n9=(mrgBy mxw L P).length:=by rw [hml];exact HN9.out
           have HNG9:=Lib.hid (show ∀ x ∈ mrgBy mxw L P,∀ a,x.2.1=some a→a.block ≠ go from fun x hx a ha=>by
            rcases mx_mem _ L P (Nat.le_refl _) x hx with h1 | h1
            ·exact Nat.ne_of_lt (HLB.out x h1 a ha)
            ·have:=HNP.out x h1 a ha
             omega)
           have hbs:=HBP.out.size
           have hzs:=HBZ.out.size
           have HM9:=Lib.hid (show MOk w9 w9.heap.size (mrgBy mxw L P) from fun x hx=>by
            have hw9:=HB9.out.size
            rcases mx_mem _ L P (Nat.le_refl _) x hx with h1 | h1
            ·exact ((((((HM1.out x h1).blw HBZ.out).more hzs).blw HBP.out).more hbs).blw HB9.out).more hw9
            ·exact (((HMP.out x h1).1).blw HB9.out).more hw9)
           have HAG9:=Lib.hid (show ∀ a,A9=some a→a.block ≠ go from fun a ha=>by
            subst ha
            have:=(World.ownsRow.lt HO9.out a.block rfl).1
            omega)
           have HR9:=Lib.hid (RdE.here HO9.out.rd)
           have HB99:=Lib.hid ((HBZ.out.trans (HBP.out.mono hzs)).trans (HB9.out.mono (by omega)))
           have hz6:(mrgBy mxw L P).length≤600:=by omega
           rw [hn9] at HR9
           rw [hn9]
           go_roundw
           case rel=>exact ⟨k+1,A9,c9,mrgBy mxw L P,by omega,by omega,by go_num,rfl,HZ9,HR9,HM9,HNG9,HAG9,hz6,HB99⟩
           case measure=>simp [intOf];omega
        ·obtain rfl:k=m:=by omega
         obtain ⟨q,hq⟩:∃ q,q=2 * L.length - 2:=⟨_,rfl⟩
         have hqI:2 * (L.length:Int) - 2=(q:Int):=by omega
         have hqZ:q≤Z.length:=by
          have h1:=pm_enough (stab Mem.w (leaves ws)) (k - 1) (by rw [stab_lenM,HLL.out,show k - 1+1=k by omega];exact Nat.le_of_not_lt HMY.out)
          have h2:=congrArg List.length HZ.out
          rw [List.length_map] at h2
          rw [stab_lenM,HLL.out] at h1
          omega
         have HQ:=Lib.hid hq
         have hl300:L.length≤300:=by omega
         obtain ⟨wo,rfl⟩:∃ wo:World,wo=wr:=⟨_,rfl⟩
         have HOL:=Lib.hid (show ownI wo go (.slice (some ⟨go,0,none⟩) i i) (bumps (List.replicate i 0) (((Z.map (·.1)).take 0).flatMap Mem.items)) from HOU.out.later HBZ.out)
         have hgow:go < wo.heap.size:=by have:=HBZ.out.size;omega
         go_wp2_with fail
         go_loopw [14] (fun vi wr=>∃ j:Nat,vi=.int .i64 j∧j≤q∧Hid (ownI wr go (.slice (some ⟨go,0,none⟩) i i) (bumps (List.replicate i 0) (((Z.map (·.1)).take j).flatMap Mem.items)))∧Hid (wo.grownBy wr (some go)))
          (fun vi _=>q - (intOf vi).toNat)
         case atStart=>exact ⟨0,rfl,Nat.zero_le _,HOL,gb_refl2 _ _⟩
         case round =>
          clear HOL
          obtain ⟨j,rfl,hjq,HOJ,HG⟩:=hrel
          by_cases hlt2:j < q
          ·have hjZ:j < Z.length:=by omega
           obtain ⟨b,o,x,eA,hb,HX,-,-⟩:=HR.out.one hjZ
           have hxm:x ∈ Z:=List.mem_of_getElem? HX.out
           have htm:x.1 ∈ pmL (stab Mem.w (leaves ws)) (k - 1):=by rw [← HZ.out];exact List.mem_map_of_mem hxm
           have hS1:=pm_sizes (first:=stab Mem.w (leaves ws)) (fun t ht=>leaves_s t (stab_mem.1 ht)) (k - 1)
           have hpw:2 ^ (k - 1)≤2 ^ 14:=Nat.pow_le_pow_right (by omega) (by omega)
           have hS2:=flat_len (l:=(Z.map (·.1)).take j) (M:=2 ^ (k - 1)) (fun t ht=>hS1 t (by rw [← HZ.out];exact List.mem_of_mem_take ht))
           have hS3:((Z.map (·.1)).take j).length * 2 ^ (k - 1)≤600 * 2 ^ 14:=Nat.mul_le_mul (by simp;omega) hpw
           have hS4:=hS1 x.1 htm
           have HPP:=Lib.hid (pm_places (first:=stab Mem.w (leaves ws)) (n:=i) (fun t ht=>by have:=leaves_p t (stab_mem.1 ht);rwa [HL.out] at this) (k - 1) x.1 htm)
           have HIT:=Lib.hid (HM.out x hxm)
           have HIN:=Lib.hid (HNG.out x hxm)
           have HSTEP:Hid ((((Z.map (·.1)).take (j+1)).flatMap Mem.items)=(((Z.map (·.1)).take j).flatMap Mem.items) ++ x.1.items):=(show _=_ by
            have e5:(Z.map (·.1))[j]?=some x.1:=by rw [List.getElem?_map,HX.out];rfl
            obtain ⟨e6,e7⟩:=List.getElem?_eq_some_iff.1 e5
            rw [List.take_succ_eq_append_getElem e6,e7,List.flatMap_append]
            simp)
           obtain ⟨t,A3,n3,c3⟩:=x
           dsimp only at hS4 HPP HIT HIN HSTEP
           have hn3:t.items.length=n3:=by have:=HIT.out.len;simpa [plI] using this
           have HN3:=Lib.hid hn3
           have hRB:∀ y ∈ bumps (List.replicate i 0) (((Z.map (·.1)).take j).flatMap Mem.items),(0:Int)≤y∧y≤9830400:=fun y hy=>by
            have:=bumps_rng (xs:=List.replicate i 0) (M:=0) (fun z hz=>by rw [List.eq_of_mem_replicate hz];omega) (by omega) y hy
            omega
           have HRB:=Lib.hid hRB
           have hUL:(bumps (List.replicate i 0) (((Z.map (·.1)).take j).flatMap Mem.items)).length=i:=by rw [bumps_len,List.length_replicate]
           have HUL:=Lib.hid hUL
           have HTL:Hid (bumps (List.replicate i 0) (((Z.map (·.1)).take (j+1)).flatMap Mem.items)=bumps (bumps (List.replicate i 0) (((Z.map (·.1)).take j).flatMap Mem.items)) t.items):=(show _=_ by rw [HSTEP.out,bumps_append])
           have hn4:n3≤16384:=by omega
           clear hS1 hS2 hS3 hS4 hpw htm hxm hRB hUL hn3
           generalize bumps (List.replicate i 0) (((Z.map (·.1)).take j).flatMap Mem.items)=U at *
           subst eA
           obtain ⟨wp,rfl⟩:∃ wp:World,wp=wr:=⟨_,rfl⟩
           have hjZI:(j:Int) < (Z.length:Int):=by omega
           have hjqI:(j:Int) < (q:Int):=by omega
           go_wp2_with fail
           go_loopw [15] (fun ve wr=>∃ e:Nat,ve=.int .i64 e∧e≤n3∧Hid (ownI wr go (.slice (some ⟨go,0,none⟩) i i) (bumps U (t.items.take e)))∧Hid (wo.grownBy wr (some go))) (fun ve _=>n3 - (intOf ve).toNat)
           case atStart=>exact ⟨0,rfl,Nat.zero_le _,HOJ,HG⟩
           case round =>
            clear HOJ HG
            obtain ⟨e,rfl,hen,HOE,HG⟩:=hrel
            obtain ⟨b9,o9,x9,eA,hb9,HX9,g1,g2⟩:=(rdE_far HR.out HG.out (Nat.le_refl _) (fun a ha e'=>HAG.out a ha (by injection e' with e';exact e'.symm))).one hjZ
            injection eA with eA
            injection eA with eb eo
            subst eb eo
            obtain rfl:x9=(t,A3,n3,c3):=Option.some.inj (HX9.out.symm.trans HX.out)
            dsimp only at g1 g2
            by_cases hlt3:e < n3
            ·obtain ⟨b8,o8,y8,rfl,hb8,HY8,e8⟩:=(rdI_far2 HIT.out HG.out (Nat.le_refl _) (fun a ha e'=>HIN.out a ha (by injection e' with e';exact e'.symm))).one hlt3
             obtain ⟨p,rfl,hp⟩:=plI_get HY8.out
             have hpi:p < i:=HPP.out p (List.mem_of_getElem? hp)
             have hbl:(bumps U (t.items.take e)).length=i:=by rw [bumps_len,HUL.out]
             have o6:=HOE.out.cell (by rw [hbl]) (k:=p) (by rw [hbl];exact hpi)
             have f6:=HOE.out.frozen (by rw [hbl]) p
             have hv:=bumps_rng (ps:=t.items.take e) HRB.out (by omega) ((bumps U (t.items.take e))[p]'(by rw [hbl];exact hpi)) (List.getElem_mem _)
             have hte:(t.items.take e).length≤16384:=by rw [List.length_take];omega
             have HST5:Hid (bumps U (t.items.take (e+1))=(bumps U (t.items.take e)).set p ((bumps U (t.items.take e))[p]'(by rw [hbl];exact hpi)+1)):=(show _=_ by
              obtain ⟨q1,q2⟩:=List.getElem?_eq_some_iff.1 hp
              rw [List.take_succ_eq_append_getElem q1,q2,bumps_append]
              show (bumps U (t.items.take e)).set p ((bumps U (t.items.take e)).getD p 0+1)=_
              rw [List.getD_eq_getElem?_getD,List.getElem?_eq_getElem (by rw [hbl];exact hpi)]
              rfl)
             have HSO:=Lib.hid (HOE.out.store (by rw [hbl]) p ((bumps U (t.items.take e))[p]'(by rw [hbl];exact hpi)+1))
             rw [← HST5.out] at HSO
             generalize (bumps U (t.items.take e))[p]'(by rw [hbl];exact hpi)=v at *
             have HG2:=Lib.hid (gb_set2 (o:=p) HG.out (.int .i64 (v+1)))
             have hv0:0≤v:=hv.1
             have hv1:v≤20000000:=by omega
             have hpI:(p:Int) < (i:Int):=by omega
             have heI:(e:Int) < (n3:Int):=by omega
             clear HOE HG hv hte hbl hp HX9 HY8 HST5
             go_wp2_with fail
             go_roundw
             case rel=>exact ⟨e+1,by go_num,by omega,HSO,HG2⟩
             case measure=>simp [intOf];omega
            ·obtain rfl:e=n3:=by omega
             have HOF:=HOE.out
             rw [List.take_of_length_le (by rw [HN3.out];exact Nat.le_refl _),← HTL.out] at HOF
             go_wp2_with fail
             go_roundw
             case rel=>exact ⟨j+1,by go_num,by omega,HOF,HG⟩
             case measure=>simp [intOf];omega
          ·obtain rfl:j=q:=by omega
           have HF:Hid (bumps (List.replicate i 0) (((Z.map (·.1)).take j).flatMap Mem.items)=lensOf ws k):=(show _=_ by rw [lensOf,if_neg (by rw [HLL.out];exact HONE.out),HZ.out,HLL.out,HQ.out,HL.out])
           have HBE:=Lib.hid (HBW1.out.trans (HBZ.out.mono HBW1.out.size))
           go_wp2_with fail
           go_ret2
           refine ⟨some ⟨go,0,none⟩,i,i,ret_tup2 rfl (by rw [HE.out.1];rfl),?_,?_,?_⟩
           ·rw [HE.out.2,← HF.out,bumps_len,List.length_replicate]
           ·rw [HE.out.2,← HF.out]
            exact HOJ.out.mono (by omega)
           ·exact HBE.out.grown HG.out (by have:=HBE.out.size;omega) (fun g hg=>by injection hg with hg;omega)
end Go.Proofs.YteoolehdomjkkaaGreat
