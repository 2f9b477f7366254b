/- XWl0 XRowA -/
import Derived.Test.YtdoanopeejeeiaaMk12
namespace Go.Proofs.Ytdoanopeejeeiaa
abbrev PT:=Int × Option Addr × Nat × Nat
abbrev SL:=Option Addr × Nat × Nat
abbrev ST:=SL × SL
end Go.Proofs.Ytdoanopeejeeiaa

/- Rows of aqulaw15.Set: 2 cells an element. -/
namespace Go.Proofs.Ytdoanopeejeeiaa
set_option linter.all false
open Go.RowKit
def eA (x:ST):List Value:=[Value.slice x.1.1 x.1.2.1 x.1.2.2,Value.slice x.2.1 x.2.2.1 x.2.2.2]
theorem eA_len (x:ST):(eA x).length=2:=rfl
/-- The cells of a list. -/
def cA (l:List ST):List Value:=l.flatMap eA
theorem cA_length:∀ l:List ST,(cA l).length=l.length * 2
 | []=>rfl
 | x :: l=>by
  have:=cA_length l
  unfold cA at this ⊢
  rw [List.flatMap_cons,List.length_append,this,eA_len,List.length_cons]
  omega
theorem cA_append (a b:List ST):cA (a ++ b)=cA a ++ cA b:=by simp [cA]
theorem cA_get:∀ (l:List ST) (k j:Nat) (hk:k < l.length),j < 2→(cA l)[k * 2+j]?=(eA l[k])[j]?
 | x :: l,0,j,_,hj=>by
  unfold cA
  rw [List.flatMap_cons,List.getElem?_append_left (by rw [eA_len];omega)]
  simp
 | x :: l,i+1,j,hi,hj=>by
  have:=cA_get l i j (by simpa using hi) hj
  unfold cA at this ⊢
  rw [List.flatMap_cons,List.getElem?_append_right (by rw [eA_len];omega),eA_len,List.getElem_cons_succ,← this]
  congr 1
  omega
def RdA (w:World) (B:Nat) (A:Option Addr) (n:Nat) (l:List ST):Prop:=Rd w B 2 A n (cA l)
theorem RdA.len {w:World} {B n:Nat} {A:Option Addr} {l:List ST} (h:RdA w B A n l):l.length=n:=by
 have:=h.1;rw [cA_length] at this;omega
theorem RdA.one {w:World} {B n:Nat} {A:Option Addr} {l:List ST} (h:RdA w B A n l) {k:Nat} (hk:k < n) :
  ∃ b o x,A=some ⟨b,o,none⟩∧b < B∧Hid (l[k]?=some x)∧w.cell? ⟨b,o+k * 2,none⟩=some (Value.slice x.1.1 x.1.2.1 x.1.2.2)∧w.cell? ⟨b,o+k * 2+1,none⟩=some (Value.slice x.2.1 x.2.2.1 x.2.2.2):=by
 obtain ⟨b,o,e,hb,hc⟩:=h.2 (by omega)
 have hl:=h.len
 have hk':k < l.length:=by omega
 refine ⟨b,o,l[k],e,hb,List.getElem?_eq_getElem hk',?_,?_⟩
 ·exact hc (k * 2) _ ((cA_get l k 0 hk' (by omega)).trans rfl)
 ·exact hc (k * 2+1) _ ((cA_get l k 1 hk' (by omega)).trans rfl)
theorem RdA.blw {w w':World} {B n:Nat} {A:Option Addr} {l:List ST} (h:RdA w B A n l) (hb:Below B w w'):RdA w' B A n l:=Rd.below h hb
theorem RdA.more {w:World} {B B' n:Nat} {A:Option Addr} {l:List ST} (h:RdA w B A n l) (hB:B≤B'):RdA w B' A n l:=Rd.more h hB
theorem RdA.here {w:World} {B n:Nat} {A:Option Addr} {l:List ST} (h:RdA w B A n l):RdA w w.heap.size A n l :=
 ⟨h.1,fun hn=>by
  obtain ⟨b,o,e,hb,hc⟩:=h.2 hn
  have hl:=h.1
  exact ⟨b,o,e,block_lt_of_cell (a:=⟨b,o+0,none⟩) (hc 0 (cA l)[0] (List.getElem?_eq_getElem (by omega))),hc⟩⟩
theorem RdA.later {w w':World} {n:Nat} {A:Option Addr} {l:List ST} (h:RdA w w.heap.size A n l) (hb:Below w.heap.size w w'):RdA w' w'.heap.size A n l:=RdA.here (RdA.blw h hb)
theorem RdA.alloc {w:World} {B n:Nat} {A:Option Addr} {l:List ST} (h:RdA w B A n l) (hB:B≤w.heap.size) (o:Obj):RdA (w.alloc o) B A n l:=Rd.alloc h hB o
theorem RdA.nil_ {w:World} {B:Nat} {A:Option Addr}:RdA w B A 0 []:=⟨by simp [cA],fun h=>absurd h (by omega)⟩
theorem RdA.cut {w:World} {B n:Nat} {A:Option Addr} {l:List ST} (h:RdA w B A n l) {k m:Nat} (hk:k+m≤n) {A':Option Addr} (hA:0 < m→A'=A.map (·.add (k * 2))) :
  RdA w B A' m ((l.drop k).take m):=by
 have:=Rd.cut h hk (A':=A') hA
 unfold RdA
 have e1:∀ (q:Nat) (l:List ST),cA (l.take q)=(cA l).take (q * 2):=fun q l=>by
  rcases Nat.lt_or_ge q l.length with hq | hq
  ·conv=>rhs;rw [← List.take_append_drop q l,cA_append]
   rw [List.take_left' (by rw [cA_length,List.length_take,Nat.min_eq_left (by omega)])]
  ·rw [List.take_of_length_le hq,List.take_of_length_le (by rw [cA_length];exact Nat.mul_le_mul_right _ hq)]
 have e2:∀ (q:Nat) (l:List ST),cA (l.drop q)=(cA l).drop (q * 2):=fun q l=>by
  rcases Nat.lt_or_ge q l.length with hq | hq
  ·conv=>rhs;rw [← List.take_append_drop q l,cA_append]
   rw [List.drop_left' (by rw [cA_length,List.length_take,Nat.min_eq_left (by omega)])]
  ·rw [List.drop_eq_nil_of_le hq,List.drop_eq_nil_of_le (by rw [cA_length];exact Nat.mul_le_mul_right _ hq)]
   rfl
 rw [e1,e2]
 exact this
end Go.Proofs.Ytdoanopeejeeiaa

