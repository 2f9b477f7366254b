/- XOpenB XWalAtomicP -/
import Derived.Test.YtdoanopeejeeiaaMk12
import Derived.Test.YtdoanopeejeeiaaMk45
import Derived.Deep.Slices
namespace Go.Proofs.Ytdoanopeejeeiaa
set_option linter.all false
open Go.ChangeShapes Go.WideShapes Go.ChangeAt Go.RowKit
/-- Rows of bytes, read. -/
def RowsB (w:World) (B:Nat) (A:Option Addr) (n:Nat) (ls:List (List UInt8)):Prop :=
 ls.length=n∧(0 < n→∃ b o,A=some ⟨b,o,none⟩∧b < B∧∀ j (hj:j < ls.length),∃ A' c',w.cell? ⟨b,o+j,none⟩=some (.slice A' ls[j].length c')∧RdB w B A' ls[j].length ls[j]∧ls[j].length≤c')
theorem RowsB.blw {w w':World} {B n:Nat} {A:Option Addr} {ls:List (List UInt8)} (h:RowsB w B A n ls) (hb:Below B w w'):RowsB w' B A n ls:=by
 refine ⟨h.1,fun hn=>?_⟩
 obtain ⟨b,o,e,hlt,hc⟩:=h.2 hn
 refine ⟨b,o,e,hlt,fun j hj=>?_⟩
 obtain ⟨A',c',h1,h2,h3⟩:=hc j hj
 exact ⟨A',c',(hb.cell (p:=⟨b,o+j,none⟩) hlt).trans h1,RdB.blw h2 hb,h3⟩
theorem RowsB.row {w:World} {B n:Nat} {A:Option Addr} {ls:List (List UInt8)} (h:RowsB w B A n ls) {j:Nat} (hj:j < n) :
  ∃ b o A' c' l,A=some ⟨b,o,none⟩∧b < B∧ls[j]?=some l∧w.cell? ⟨b,o+j,none⟩=some (.slice A' l.length c')∧RdB w B A' l.length l∧l.length≤c':=by
 obtain ⟨b,o,e,hlt,hc⟩:=h.2 (by omega)
 have hj':j < ls.length:=by rw [h.1];exact hj
 obtain ⟨A',c',h1,h2,h3⟩:=hc j hj'
 exact ⟨b,o,A',c',ls[j],e,hlt,List.getElem?_eq_getElem hj',h1,h2,h3⟩
theorem Try.one_bytes:Try.prog.cellsOf 36=1:=by kernel_rfl
theorem open_rowsB {H:Type} {enc:TypeId × Value→H} {W:World} {sp:Nat→Bool} {held:Bool} {a:Option Addr} {n c:Nat} {d:DataW H} {p:List MemPlace}
  (h:DataW.Trod enc Try.prog W 0 sp held 33 (.slice a n c) d p):∃ l,RowsB W W.heap.size a n l∧n≤c∧c≤maxLen:=by
 obtain ⟨fuel,hf⟩:=h
 rcases Go.Deep.open_slice1 Try.underlying33 Try.one_bytes hf with ⟨hcs,_⟩ | ⟨x,l,cc,m,k,V,D,Pl,hcs,_,hl,hm,hmm,_,hx⟩
 ·simp [Value.cells] at hcs
  obtain ⟨rfl,rfl,rfl⟩:=hcs
  exact ⟨[],⟨rfl,fun h=>absurd h (by omega)⟩,by omega,by simp⟩
 ·simp [Value.cells] at hcs
  obtain ⟨rfl,rfl,rfl⟩:=hcs
  have hzn:n≤m:=by rw [hmm];split <;> omega
  have key:∀ i,i < n→∃ y:Option Addr × Nat × List UInt8,V i=.slice y.1 y.2.2.length y.2.1∧RdB W W.heap.size y.1 y.2.2.length y.2.2∧y.2.2.length≤y.2.1:=fun i hi=>by
   have h2:=(hx i (by omega)).2
   have hsl:∃ a' n' c',V i=.slice a' n' c':=by
    rcases open_ints Try.underlying36 Try.underlying5 (by kernel_rfl) h2 with ⟨hcs,_⟩ | ⟨x',l',cc',zs,hcs,_⟩
    ·simp at hcs
     exact ⟨_,_,_,hcs⟩
    ·simp at hcs
     exact ⟨_,_,_,hcs⟩
   obtain ⟨a',n',c',hv⟩:=hsl
   rw [hv] at h2
   obtain ⟨bs,hr,hc',_⟩:=open_bytes (W:=W) (a:=a') (n:=n') (c:=c') ⟨k,h2⟩
   have hlen:=hr.len
   exact ⟨(a',c',bs),by rw [hv,← hlen],by rw [hlen];exact hr,by show bs.length≤c';omega⟩
  obtain ⟨Y,hY⟩:=Go.Deep.choose_lt key
  refine ⟨(List.range n).map fun i=>(Y i).2.2,⟨by simp,fun hn=>?_⟩,hl,hm⟩
  have h0:=(hx 0 (by omega)).1
  obtain ⟨b,o,spot⟩:=x
  have hspot:spot=none:=by simpa [Addr.add] using World.cell?_spot h0
  subst hspot
  refine ⟨b,o,rfl,?_,fun j hj=>?_⟩
  ·have:=block_lt_of_cell h0
   simpa [add_none] using this
  ·have hj':j < n:=by simpa using hj
   have h1:=(hx j (by omega)).1
   obtain ⟨y1,y2,y3⟩:=hY j hj'
   rw [add_none,y1] at h1
   have e:((List.range n).map fun i=>(Y i).2.2)[j]=(Y j).2.2:=by simp
   rw [e]
   exact ⟨_,_,h1,y2,y3⟩
end Go.Proofs.Ytdoanopeejeeiaa

/- WalAtomic: what its second loop keeps. -/
namespace Go.Proofs.Ytdoanopeejeeiaa
set_option linter.all false
open Go.RowKit Go.Maps
/-- A disk within its openings; what was read before. -/
structure AQ (w0 wr:World) (lo d N ring:Nat) (was:SF) (nps:List (Nat × Bs)) (S:Nat) (ok:Bool) (Aw:Option Addr) (nw:Nat) (lw:List Bs) (At_:Option Addr) (nt:Nat) (lt:List Bs) (W:Nat) (h:Hn) (s:Dk) (f:SF):Prop where
 ds:DS wr lo d h s f N W
 t2:T2 N ring was nps S ok f
 sw:SecL wr (h.T d) Aw nw lw
 st:SecL wr (h.T d) At_ nt lt
 bel:Below lo w0 wr
 low:lo≤wr.heap.size
theorem AQ.step {w0 w w':World} {lo d N ring S nw nt W W':Nat} {was f f':SF} {nps:List (Nat × Bs)} {ok:Bool} {Aw At_:Option Addr} {lw lt:List Bs} {h h':Hn} {s s':Dk} (k:AQ w0 w lo d N ring was nps S ok Aw nw lw At_ nt lt W h s f) (D:DS w' lo d h' s' f' N W') (t:T2 N ring was nps S ok f') (F:Fr (h.T d) w w') (T:TT w (h.T d) (h'.T d)):AQ w0 w' lo d N ring was nps S ok Aw nw lw At_ nt lt W' h' s' f' :=
 ⟨D,t,k.sw.fr F T,k.st.fr F T,k.bel.trans (F.bel k.ds.dk),Nat.le_trans k.low F.size⟩
theorem AQ.more {w0 w:World} {lo d N ring S nw nt W W':Nat} {was f:SF} {nps:List (Nat × Bs)} {ok:Bool} {Aw At_:Option Addr} {lw lt:List Bs} {h:Hn} {s:Dk} (k:AQ w0 w lo d N ring was nps S ok Aw nw lw At_ nt lt W h s f) (hw:W≤W'):AQ w0 w lo d N ring was nps S ok Aw nw lw At_ nt lt W' h s f:=⟨k.ds.more hw,k.t2,k.sw,k.st,k.bel,k.low⟩
theorem AQ.later {w0 w w':World} {lo d N ring S nw nt W:Nat} {was f:SF} {nps:List (Nat × Bs)} {ok:Bool} {Aw At_:Option Addr} {lw lt:List Bs} {h:Hn} {s:Dk} (k:AQ w0 w lo d N ring was nps S ok Aw nw lw At_ nt lt W h s f) (hb:Below w.heap.size w w'):AQ w0 w' lo d N ring was nps S ok Aw nw lw At_ nt lt W h s f :=
 ⟨k.ds.later hb,k.t2,k.sw.later hb,k.st.later hb,k.bel.trans (hb.mono k.low),Nat.le_trans k.low hb.size⟩
theorem AQ.drew {w0 w:World} {lo d N ring S nw nt W:Nat} {was f:SF} {nps:List (Nat × Bs)} {ok:Bool} {Aw At_:Option Addr} {lw lt:List Bs} {h:Hn} {s:Dk} (k:AQ w0 w lo d N ring was nps S ok Aw nw lw At_ nt lt W h s f):AQ w0 w.drew lo d N ring was nps S ok Aw nw lw At_ nt lt W h s f:=k.later (Below.refl _ _).drew
theorem listsN_any (T T':Nat→Prop) (A A':Option Addr) (n n' c c':Nat) (ls ls':List Bs) (w:World) (h:SecL w T A n ls) (h':SecL w T' A' n' ls') (hn:n≤5000) (hn':n'≤5000) (hne:¬ ls=ls') :
  Calls Try.prog 18 #[.slice A n c,.slice A' n' c'] w fun e w'=>e=.returned (.bool false)∧Below w.heap.size w w':=by
 have:=listsW_any T T' A A' n n' c c' ls ls' w h h' hn hn'
 rw [decide_eq_false hne] at this
 exact this
/-- What the disk holds, in the end. -/
theorem fin_at {N ring hm:Nat} {was f':SF} {nps:List (Nat × Bs)} {ok:Bool} {lw lt:List Bs} (hh:2+ring=hm) (h1:homeL (layL was nps) N hm=lt) (h2:ok=false→homeL was N hm=lw) (h:(∀ j,2+ring≤j→f' j=layL was nps j)∨(ok=false∧∀ j,2+ring≤j→f' j=was j)):homeL f' N hm=lt∨(ok=false∧homeL f' N hm=lw):=by
 subst hh
 rcases h with h | ⟨e,h⟩
 ·exact .inl (by rw [homeL_congr h];exact h1)
 ·exact .inr ⟨e,by rw [homeL_congr h];exact h2 e⟩
end Go.Proofs.Ytdoanopeejeeiaa

