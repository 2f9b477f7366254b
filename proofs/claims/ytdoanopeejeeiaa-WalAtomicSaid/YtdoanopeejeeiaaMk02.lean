/- XRowI XArr -/
import Derived.Test.YtdoanopeejeeiaaMk01
namespace Go.Proofs.Ytdoanopeejeeiaa
set_option linter.all false
open Go.RowKit
/-- The cells of a list. -/
def cI (l:List Int):List Value:=l.map fun x=>Value.int .i64 x
theorem cI_length (l:List Int):(cI l).length=l.length:=by simp [cI]
theorem cI_get {l:List Int} {k:Nat} (h:k < l.length):(cI l)[k]?=some ((fun x:Int=>Value.int .i64 x) l[k]):=by simp [cI,h]
def ownI (w:World) (base:Nat) (v:Value) (l:List Int):Prop:=w.ownsRow base 3 1 v l.length (cI l)
def RdI (w:World) (B:Nat) (A:Option Addr) (n:Nat) (l:List Int):Prop:=Rd w B 1 A n (cI l)
theorem RdI.len {w:World} {B n:Nat} {A:Option Addr} {l:List Int} (h:RdI w B A n l):l.length=n:=by
 have:=h.1;rw [cI_length] at this;omega
theorem RdI.at_ {w:World} {B n:Nat} {A:Option Addr} {l:List Int} (h:RdI w B A n l) (hn:0 < n) :
  ∃ b o,A=some ⟨b,o,none⟩∧b < B∧∀ j (hj:j < l.length),w.cell? ⟨b,o+j,none⟩=some ((fun x:Int=>Value.int .i64 x) l[j]):=by
 obtain ⟨b,o,e,hb,hc⟩:=h.2 hn
 exact ⟨b,o,e,hb,fun j hj=>hc j _ (cI_get hj)⟩
theorem RdI.one {w:World} {B n:Nat} {A:Option Addr} {l:List Int} (h:RdI w B A n l) {k:Nat} (hk:k < n) :
  ∃ b o x,A=some ⟨b,o,none⟩∧b < B∧Hid (l[k]?=some x)∧w.cell? ⟨b,o+k,none⟩=some (Value.int .i64 x):=by
 obtain ⟨b,o,e,hb,hc⟩:=h.at_ (by omega)
 have hl:=h.len
 exact ⟨b,o,l[k],e,hb,List.getElem?_eq_getElem (by omega),hc k (by omega)⟩
theorem RdI.blw {w w':World} {B n:Nat} {A:Option Addr} {l:List Int} (h:RdI w B A n l) (hb:Below B w w'):RdI w' B A n l:=Rd.below h hb
theorem RdI.more {w:World} {B B' n:Nat} {A:Option Addr} {l:List Int} (h:RdI w B A n l) (hB:B≤B'):RdI w B' A n l:=Rd.more h hB
theorem RdI.here {w:World} {B n:Nat} {A:Option Addr} {l:List Int} (h:RdI w B A n l):RdI w w.heap.size A n l:=Rd.here h
theorem RdI.later {w w':World} {n:Nat} {A:Option Addr} {l:List Int} (h:RdI w w.heap.size A n l) (hb:Below w.heap.size w w'):RdI w' w'.heap.size A n l:=Rd.here (Rd.below h hb)
theorem RdI.alloc {w:World} {B n:Nat} {A:Option Addr} {l:List Int} (h:RdI w B A n l) (hB:B≤w.heap.size) (o:Obj):RdI (w.alloc o) B A n l:=Rd.alloc h hB o
theorem RdI.nil_ {w:World} {B:Nat} {A:Option Addr}:RdI w B A 0 []:=⟨by simp [cI],fun h=>absurd h (by omega)⟩
theorem RdI.cut {w:World} {B n:Nat} {A:Option Addr} {l:List Int} (h:RdI w B A n l) {k m:Nat} (hk:k+m≤n) {A':Option Addr} (hA:0 < m→A'=A.map (·.add k)) :
  RdI w B A' m ((l.drop k).take m):=by
 have:=Rd.cut h hk (A':=A') (by simpa using hA)
 unfold RdI
 simpa [cI,List.map_drop,List.map_take] using this
theorem ownI.nil_ (w:World) (base:Nat):ownI w base (.slice none 0 0) []:=World.ownsRow_nil _ _ _ _
theorem ownI.mono {w:World} {base base':Nat} {v:Value} {l:List Int} (h:ownI w base v l) (hb:base'≤base):ownI w base' v l:=by
 refine ⟨h.1,?_⟩
 rcases h.2 with hn | ⟨g,cap,cur,rfl,hbg,rest⟩
 ·exact .inl hn
 ·exact .inr ⟨g,cap,cur,rfl,by omega,rest⟩
theorem ownI.later {w w':World} {base:Nat} {v:Value} {l:List Int} (h:ownI w base v l) (hb:Below w.heap.size w w'):ownI w' base v l :=
 Below.ownsRow h hb (fun g hg=>(World.ownsRow.lt h g hg).2)
theorem ownI.alloc {w:World} {base:Nat} {v:Value} {l:List Int} (h:ownI w base v l) (o:Obj):ownI (w.alloc o) base v l:=World.ownsRow.alloc h o
theorem ownI.drew {w:World} {base:Nat} {v:Value} {l:List Int} (h:ownI w base v l):ownI w.drew base v l:=h
theorem ownI.form {w:World} {base:Nat} {v:Value} {l:List Int} (h:ownI w base v l) :
  ∃ A c,v=.slice A l.length c∧RdI w w.heap.size A l.length l∧l.length≤c∧c≤maxLen:=by
 rcases h.2 with ⟨rfl,h0⟩ | ⟨g,cap,cur,rfl,_,_,h1,h2,_⟩
 ·have:l=[]:=List.eq_nil_of_length_eq_zero h0
  subst this
  exact ⟨none,0,rfl,Rd.none_,by simp,by simp⟩
 ·exact ⟨_,_,rfl,Rd.of_own h,h1,h2⟩
theorem ownI.kept {w w':World} {base:Nat} {v:Value} {l:List Int} {row:Option Nat} (h:ownI w base v l) (hg:w.grownBy w' row) (hne:v.ownBlock=none∨v.ownBlock ≠ row):ownI w' base v l :=
 World.ownsRow.kept h hg hne
theorem ownI.far {w:World} {base g:Nat} {v:Value} {l:List Int} (h:ownI w base v l) (hg:v.ownBlock ≠ some g) (o:Nat) (u:Value) :
  ownI (w.setCell ⟨g,o,none⟩ u) base v l:=by
 refine ⟨h.1,?_⟩
 rcases h.2 with hn | ⟨g',cap,cur,rfl,hb,hgg,rest⟩
 ·exact .inl hn
 ·refine .inr ⟨g',cap,cur,rfl,hb,?_,rest⟩
  rw [Below.heap_setCell _ _ _ _ (by intro e;apply hg;simp [Value.ownBlock];exact e)]
  exact hgg
theorem ownI.ne {w:World} {base g:Nat} {v:Value} {l:List Int} (h:ownI w base v l) (hg:g < base):v.ownBlock ≠ some g:=by
 intro e
 have:=(World.ownsRow.lt h g e).1
 omega
theorem ownI.pos {w:World} {base n c:Nat} {A:Option Addr} {l:List Int} (h:ownI w base (.slice A n c) l) (hn:0 < n):n=l.length∧∃ g,A=some ⟨g,0,none⟩∧base≤g∧g < w.heap.size:=by
 rcases h.2 with ⟨h',_⟩ | ⟨g,cap,cur,h',hb,hg,_⟩
 ·injection h' with _ h2;omega
 ·injection h' with h1 h2
  exact ⟨h2,g,h1,hb,(World.ownsRow.lt h g (by rw [h1];rfl)).2⟩
theorem ownI.cell {w:World} {base g n c:Nat} {l:List Int} (h:ownI w base (.slice (some ⟨g,0,none⟩) n c) l) (hn:n=l.length) {k:Nat} (hk:k < l.length) :
  w.cell? ⟨g,k,none⟩=some ((fun x:Int=>Value.int .i64 x) l[k]):=by
 subst hn
 rw [World.ownsRow.cellAt h k (by omega),cI_get hk]
theorem ownI.frozen {w:World} {base g n c:Nat} {l:List Int} (h:ownI w base (.slice (some ⟨g,0,none⟩) n c) l) (hn:n=l.length) (k:Nat) :
  w.frozen? ⟨g,k,none⟩=false:=by
 subst hn
 exact World.ownsRow.frozenAt h k
theorem ownI.store {w:World} {base g n c:Nat} {l:List Int} (h:ownI w base (.slice (some ⟨g,0,none⟩) n c) l) (hn:n=l.length) (k:Nat) (x:Int) :
  ownI (w.setCell ⟨g,k,none⟩ (Value.int .i64 x)) base (.slice (some ⟨g,0,none⟩) n c) (l.set k x):=by
 subst hn
 have:=(World.ownsRow.stored h k (Value.int .i64 x)).1
 unfold ownI
 rw [List.length_set]
 have e:cI (l.set k x)=(cI l).set k (Value.int .i64 x):=by simp [cI,List.map_set]
 rwa [e]
theorem ownI.rd {w:World} {base n c:Nat} {A:Option Addr} {l:List Int} (h:ownI w base (.slice A n c) l):RdI w w.heap.size A n l:=by
 obtain ⟨A4,c4,e5,hd4,_,_⟩:=h.form
 injection e5 with e1 e2 e3
 rw [e1,e2]
 exact hd4
end Go.Proofs.Ytdoanopeejeeiaa

/- A variable that is an array: its cells known as a list. -/
namespace Go.Proofs.Ytdoanopeejeeiaa
set_option linter.all false
open Go.RowKit
/-- Block g is an array variable that holds cs. -/
def Arr (w:World) (g:Nat) (cs:List Value):Prop:=∃ t,w.heap[g]?=some (.cells cs.toArray t (0,0))
section
variable {w w' : World} {g : Nat} {cs : List Value}
theorem Arr.lt (h:Arr w g cs):g < w.heap.size:=by
 obtain ⟨t,h⟩:=h
 exact (Array.getElem?_eq_some_iff.1 h).1
theorem Arr.cell (h:Arr w g cs) {k:Nat} {v:Value} (hk:cs[k]?=some v):w.cell? ⟨g,k,none⟩=some v:=by
 obtain ⟨t,h⟩:=h
 rw [cell_of_row w g k _ t (0,0) h]
 simpa using hk
theorem Arr.frozen (h:Arr w g cs) (k:Nat):w.frozen? ⟨g,k,none⟩=false:=by
 obtain ⟨t,h⟩:=h
 simp [World.frozen?,h]
theorem Arr.set (h:Arr w g cs) (k:Nat) (v:Value):Arr (w.setCell ⟨g,k,none⟩ v) g (cs.set k v):=by
 obtain ⟨t,h⟩:=h
 refine ⟨t,?_⟩
 rw [setCell_eq_setRow w g k _ t (0,0) v h,setRow_heap w g _ _ t (0,0) h]
 simp
theorem Arr.row (h:Arr w g cs) (ds:List Value):Arr (w.setRow g ds.toArray) g ds:=by
 obtain ⟨t,h⟩:=h
 exact ⟨t,setRow_heap w g _ _ t (0,0) h⟩
theorem Arr.far (h:Arr w g cs) {p:Addr} (hp:p.block ≠ g) (v:Value):Arr (w.setCell p v) g cs:=by
 obtain ⟨t,h⟩:=h
 refine ⟨t,?_⟩
 rw [Below.heap_setCell _ _ _ _ (fun e=>hp e.symm)]
 exact h
theorem Arr.drew (h:Arr w g cs):Arr w.drew g cs:=h
theorem Arr.alloc (h:Arr w g cs) (o:Obj):Arr (w.alloc o) g cs:=by
 have hl:=h.lt
 obtain ⟨t,h⟩:=h
 exact ⟨t,(heap_alloc_old w o hl).trans h⟩
theorem Arr.new (w:World) (cs:List Value) (t:TypeId):Arr (w.alloc (.cells cs.toArray t)) w.heap.size cs:=⟨t,heap_alloc_new w _⟩
theorem Arr.later (h:Arr w g cs) (hb:Below w.heap.size w w'):Arr w' g cs:=by
 have hl:=h.lt
 obtain ⟨t,h⟩:=h
 exact ⟨t,(hb.block g hl).trans h⟩
theorem Arr.blw {B:Nat} (h:Arr w g cs) (hb:Below B w w') (hg:g < B):Arr w' g cs:=by
 obtain ⟨t,h⟩:=h
 exact ⟨t,(hb.block g hg).trans h⟩
theorem Arr.gro {row:Nat} (h:Arr w g cs) (hb:w.grownBy w' (some row)) (hg:g ≠ row):Arr w' g cs:=by
 have hl:=h.lt
 obtain ⟨t,h⟩:=h
 exact ⟨t,(hb.block g hl (fun e=>hg (by injection e))).trans h⟩
end
end Go.Proofs.Ytdoanopeejeeiaa

