/- XRowI XArr -/
import Derived.Test.YtdoanopeejeeiaaMi01
namespace Go.Proofs.Ytdoanopeejeeiaa
set_option linter.all false
open Go.RowKit
/-- The cells of a list. -/
def cI (l:List Int):List Value:=l.map fun x=>Value.int .i64 x
theorem cI_length (l:List Int):(cI l).length=l.length:=by simp [cI]
theorem cI_get {l:List Int} {k:Nat} (h:k < l.length):(cI l)[k]?=some ((fun x:Int=>Value.int .i64 x) l[k]):=by simp [cI,h]
def RdI (w:World) (B:Nat) (A:Option Addr) (n:Nat) (l:List Int):Prop:=Rd w B 1 A n (cI l)
theorem RdI.len {w:World} {B n:Nat} {A:Option Addr} {l:List Int} (h:RdI w B A n l):l.length=n:=by
 have:=h.1;rw [cI_length] at this;omega
theorem RdI.at_ {w:World} {B n:Nat} {A:Option Addr} {l:List Int} (h:RdI w B A n l) (hn:0 < n) :
  ∃ b o,A=some ⟨b,o,none⟩∧b < B∧∀ j (hj:j < l.length),w.cell? ⟨b,o+j,none⟩=some ((fun x:Int=>Value.int .i64 x) l[j]):=by
 obtain ⟨b,o,e,hb,hc⟩:=h.2 hn
 exact ⟨b,o,e,hb,fun j hj=>hc j _ (cI_get hj)⟩
theorem RdI.one {w:World} {B n:Nat} {A:Option Addr} {l:List Int} (h:RdI w B A n l) {k:Nat} (hk:k < n) :
  ∃ b o x,A=some ⟨b,o,none⟩∧b < B∧Hid (l[k]?=some x)∧w.cell? ⟨b,o+k,none⟩=some (Value.int .i64 x):=by
 obtain ⟨b,o,e,hb,hc⟩:=h.at_ (by omega)
 have hl:=h.len
 exact ⟨b,o,l[k],e,hb,List.getElem?_eq_getElem (by omega),hc k (by omega)⟩
theorem RdI.blw {w w':World} {B n:Nat} {A:Option Addr} {l:List Int} (h:RdI w B A n l) (hb:Below B w w'):RdI w' B A n l:=Rd.below h hb
theorem RdI.more {w:World} {B B' n:Nat} {A:Option Addr} {l:List Int} (h:RdI w B A n l) (hB:B≤B'):RdI w B' A n l:=Rd.more h hB
theorem RdI.here {w:World} {B n:Nat} {A:Option Addr} {l:List Int} (h:RdI w B A n l):RdI w w.heap.size A n l:=Rd.here h
theorem RdI.later {w w':World} {n:Nat} {A:Option Addr} {l:List Int} (h:RdI w w.heap.size A n l) (hb:Below w.heap.size w w'):RdI w' w'.heap.size A n l:=Rd.here (Rd.below h hb)
theorem RdI.alloc {w:World} {B n:Nat} {A:Option Addr} {l:List Int} (h:RdI w B A n l) (hB:B≤w.heap.size) (o:Obj):RdI (w.alloc o) B A n l:=Rd.alloc h hB o
theorem RdI.nil_ {w:World} {B:Nat} {A:Option Addr}:RdI w B A 0 []:=⟨by simp [cI],fun h=>absurd h (by omega)⟩
theorem RdI.cut {w:World} {B n:Nat} {A:Option Addr} {l:List Int} (h:RdI w B A n l) {k m:Nat} (hk:k+m≤n) {A':Option Addr} (hA:0 < m→A'=A.map (·.add k)) :
  RdI w B A' m ((l.drop k).take m):=by
 have:=Rd.cut h hk (A':=A') (by simpa using hA)
 unfold RdI
 simpa [cI,List.map_drop,List.map_take] using this
end Go.Proofs.Ytdoanopeejeeiaa

/- A variable that is an array: its cells known as a list. -/
namespace Go.Proofs.Ytdoanopeejeeiaa
set_option linter.all false
open Go.RowKit
/-- Block g is an array variable that holds cs. -/
def Arr (w:World) (g:Nat) (cs:List Value):Prop:=∃ t,w.heap[g]?=some (.cells cs.toArray t (0,0))
section
variable {w w' : World} {g : Nat} {cs : List Value}
theorem Arr.lt (h:Arr w g cs):g < w.heap.size:=by
 obtain ⟨t,h⟩:=h
 exact (Array.getElem?_eq_some_iff.1 h).1
theorem Arr.cell (h:Arr w g cs) {k:Nat} {v:Value} (hk:cs[k]?=some v):w.cell? ⟨g,k,none⟩=some v:=by
 obtain ⟨t,h⟩:=h
 rw [cell_of_row w g k _ t (0,0) h]
 simpa using hk
theorem Arr.frozen (h:Arr w g cs) (k:Nat):w.frozen? ⟨g,k,none⟩=false:=by
 obtain ⟨t,h⟩:=h
 simp [World.frozen?,h]
theorem Arr.set (h:Arr w g cs) (k:Nat) (v:Value):Arr (w.setCell ⟨g,k,none⟩ v) g (cs.set k v):=by
 obtain ⟨t,h⟩:=h
 refine ⟨t,?_⟩
 rw [setCell_eq_setRow w g k _ t (0,0) v h,setRow_heap w g _ _ t (0,0) h]
 simp
theorem Arr.row (h:Arr w g cs) (ds:List Value):Arr (w.setRow g ds.toArray) g ds:=by
 obtain ⟨t,h⟩:=h
 exact ⟨t,setRow_heap w g _ _ t (0,0) h⟩
theorem Arr.far (h:Arr w g cs) {p:Addr} (hp:p.block ≠ g) (v:Value):Arr (w.setCell p v) g cs:=by
 obtain ⟨t,h⟩:=h
 refine ⟨t,?_⟩
 rw [Below.heap_setCell _ _ _ _ (fun e=>hp e.symm)]
 exact h
theorem Arr.drew (h:Arr w g cs):Arr w.drew g cs:=h
theorem Arr.alloc (h:Arr w g cs) (o:Obj):Arr (w.alloc o) g cs:=by
 have hl:=h.lt
 obtain ⟨t,h⟩:=h
 exact ⟨t,(heap_alloc_old w o hl).trans h⟩
theorem Arr.new (w:World) (cs:List Value) (t:TypeId):Arr (w.alloc (.cells cs.toArray t)) w.heap.size cs:=⟨t,heap_alloc_new w _⟩
theorem Arr.later (h:Arr w g cs) (hb:Below w.heap.size w w'):Arr w' g cs:=by
 have hl:=h.lt
 obtain ⟨t,h⟩:=h
 exact ⟨t,(hb.block g hl).trans h⟩
theorem Arr.blw {B:Nat} (h:Arr w g cs) (hb:Below B w w') (hg:g < B):Arr w' g cs:=by
 obtain ⟨t,h⟩:=h
 exact ⟨t,(hb.block g hg).trans h⟩
theorem Arr.gro {row:Nat} (h:Arr w g cs) (hb:w.grownBy w' (some row)) (hg:g ≠ row):Arr w' g cs:=by
 have hl:=h.lt
 obtain ⟨t,h⟩:=h
 exact ⟨t,(hb.block g hl (fun e=>hg (by injection e))).trans h⟩
end
end Go.Proofs.Ytdoanopeejeeiaa

