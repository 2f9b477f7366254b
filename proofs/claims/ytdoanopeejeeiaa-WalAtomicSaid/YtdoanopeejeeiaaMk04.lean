/- XDisk3 -/
import Derived.Test.YtdoanopeejeeiaaMk03
namespace Go.Proofs.Ytdoanopeejeeiaa
set_option linter.all false
open Go.RowKit
/-- A pending change: its place, its row. -/
abbrev CH:=Nat × Option Addr × Nat × Nat
abbrev Bs:=List UInt8
/-- Of the old blocks none but T's have turned. -/
structure Fr (T:Nat→Prop) (w w':World):Prop where
 os:w'.os=w.os
 tape:w'.tape=w.tape
 output:w'.output=w.output
 size:w.heap.size≤w'.heap.size
 block:∀ k,k < w.heap.size→¬ T k→w'.heap[k]?=w.heap[k]?
/-- T' are T's and new ones. -/
def TT (w:World) (T T':Nat→Prop):Prop:=∀ g,T' g→T g∨w.heap.size≤g
section
variable {T T' T'' : Nat → Prop} {w w' w'' : World}
theorem Fr.refl (T:Nat→Prop) (w:World):Fr T w w:=⟨rfl,rfl,rfl,Nat.le_refl _,fun _ _ _=>rfl⟩
theorem Fr.trans (h:Fr T w w') (k:Fr T w' w''):Fr T w w'' :=
 ⟨k.os.trans h.os,k.tape.trans h.tape,k.output.trans h.output,Nat.le_trans h.size k.size,fun i hi hn=>(k.block i (Nat.lt_of_lt_of_le hi h.size) hn).trans (h.block i hi hn)⟩
theorem Fr.trans2 (h:Fr T w w') (hT:TT w T T') (k:Fr T' w' w''):Fr T w w'' :=
 ⟨k.os.trans h.os,k.tape.trans h.tape,k.output.trans h.output,Nat.le_trans h.size k.size,fun i hi hn=>(k.block i (Nat.lt_of_lt_of_le hi h.size) (fun e=>(hT i e).elim hn (by omega))).trans (h.block i hi hn)⟩
theorem Fr.mono (h:Fr T w w') (hT:∀ g,T g→T' g):Fr T' w w':=⟨h.os,h.tape,h.output,h.size,fun k hk hn=>h.block k hk (fun e=>hn (hT k e))⟩
theorem Fr.of (T:Nat→Prop) (h:Below w.heap.size w w'):Fr T w w':=⟨h.os,h.tape,h.output,h.size,fun k hk _=>h.block k hk⟩
theorem Fr.gro {b:Nat} (h:w.grownBy w' (some b)) (hb:T b):Fr T w w':=⟨h.os,h.tape,h.output,h.size,fun k hk hn=>h.block k hk (fun e=>hn (by injection e with e;rw [e];exact hb))⟩
theorem Fr.gro2 {v:Value} (h:w.grownBy w' v.ownBlock) (hb:∀ g,v.ownBlock=some g→T g):Fr T w w':=⟨h.os,h.tape,h.output,h.size,fun k hk hn=>h.block k hk (fun e=>hn (hb k e.symm))⟩
theorem Fr.setCell (h:Fr T w w') {p:Addr} (hp:T p.block) (v:Value):Fr T w (w'.setCell p v) :=
 ⟨h.os,h.tape,h.output,by simp;exact h.size,fun k hk hn=>(Below.heap_setCell _ _ _ _ (fun e=>hn (by rw [e];exact hp))).trans (h.block k hk hn)⟩
theorem Fr.alloc (h:Fr T w w') (o:Obj):Fr T w (w'.alloc o) :=
 ⟨h.os,h.tape,h.output,by simp;exact Nat.le_succ_of_le h.size,fun k hk hn=>(heap_alloc_old w' o (Nat.lt_of_lt_of_le hk h.size)).trans (h.block k hk hn)⟩
theorem Fr.drew (h:Fr T w w'):Fr T w w'.drew:=⟨h.os,h.tape,h.output,h.size,h.block⟩
theorem Fr.below {B:Nat} (h:Fr T w w') (hT:∀ g,T g→B≤g) (hB:B≤w.heap.size):Below B w w':=⟨h.os,h.tape,h.output,h.size,fun k hk=>h.block k (by omega) (fun e=>by have:=hT k e;omega)⟩
theorem TT.refl (w:World) (T:Nat→Prop):TT w T T:=fun _ h=>.inl h
theorem TT.trans (h:TT w T T') (k:TT w' T' T'') (hs:w.heap.size≤w'.heap.size):TT w T T'':=fun g hg=>by
 rcases k g hg with h1 | h1
 ·exact h g h1
 ·exact .inr (Nat.le_trans hs h1)
theorem TT.not (h:TT w T T') {g:Nat} (hg:¬ T g) (hs:g < w.heap.size):¬ T' g:=fun e=>(h g e).elim hg (by omega)
theorem Arr.fr {g:Nat} {cs:List Value} (h:Arr w g cs) (k:Fr T w w') (hg:¬ T g):Arr w' g cs:=by
 have hl:=h.lt
 obtain ⟨t,h⟩:=h
 exact ⟨t,(k.block g hl hg).trans h⟩
theorem isMap.fr {b:Nat} {r:Nat→Option (Nat × Nat)} (h:isMap w b r) (k:Fr T w w') (hb:¬ T b):isMap w' b r:=h.keep (k.block b h.lt hb)
theorem isMap.later {b:Nat} {r:Nat→Option (Nat × Nat)} (h:isMap w b r) (k:Below w.heap.size w w'):isMap w' b r:=h.keep (k.block b h.lt)
end
/-- A row of a sector, that does not turn. -/
def SecAt (w:World) (T:Nat→Prop) (v:Nat × Nat) (bs:Bs):Prop :=
 bs.length=256∧256≤v.2∧v.2≤maxLen∧¬ T v.1∧v.1 < w.heap.size∧RdB w (v.1+1) (some ⟨v.1,0,none⟩) 256 bs
theorem RdB.at_block {w w':World} {g n:Nat} {bs:Bs} (h:RdB w (g+1) (some ⟨g,0,none⟩) n bs) (hb:w'.heap[g]?=w.heap[g]?):RdB w' (g+1) (some ⟨g,0,none⟩) n bs :=
 ⟨h.1,fun hn=>by
  obtain ⟨b,o,e,hlt,hc⟩:=h.2 hn
  refine ⟨b,o,e,hlt,fun j u hu=>?_⟩
  injection e with e
  injection e with e1 e2
  subst e1
  rw [World.cell?_of_block (w:=w) (w':=w') (a:=⟨g,o+j,none⟩) hb]
  exact hc j u hu⟩
theorem SecAt.fr {w w':World} {T T':Nat→Prop} {v:Nat × Nat} {bs:Bs} (h:SecAt w T v bs) (k:Fr T w w') (hT:TT w T T'):SecAt w' T' v bs:=by
 obtain ⟨h1,h2,h3,h4,h5,h6⟩:=h
 exact ⟨h1,h2,h3,hT.not h4 h5,Nat.lt_of_lt_of_le h5 k.size,h6.at_block (k.block _ h5 h4)⟩
theorem SecAt.rd {w:World} {T:Nat→Prop} {v:Nat × Nat} {bs:Bs} (h:SecAt w T v bs):RdB w w.heap.size (some ⟨v.1,0,none⟩) 256 bs:=Rd.here h.2.2.2.2.2
/-- A new row of a sector. -/
theorem SecAt.new {w w':World} {T:Nat→Prop} {v:Value} {bs:Bs} (h:ownB w' w.heap.size v bs) (hl:bs.length=256) (hT:∀ g,w.heap.size≤g→¬ T g):∃ u:Nat × Nat,v=sv u∧SecAt w' T u bs∧w.heap.size≤u.1:=by
 have hlt:=World.ownsRow.lt h
 obtain ⟨A,c,e,hr,h1,h2⟩:=h.form
 subst e
 obtain ⟨-,g,rfl,hg,hg2⟩:=h.pos (by omega)
 refine ⟨(g,c),by unfold sv;rw [hl],⟨hl,by omega,h2,hT g hg,hg2,?_⟩,hg⟩
 rw [hl] at hr
 refine ⟨hr.1,fun hn=>?_⟩
 obtain ⟨b,o,e,hlt2,hc⟩:=hr.2 hn
 injection e with e
 injection e with e1 e2
 subst e1
 exact ⟨g,o,by rw [e2],by omega,hc⟩
/-- Block b is a map of sectors. -/
def secs (w:World) (T:Nat→Prop) (b:Nat) (f:Nat→Option Bs):Prop :=
 ∃ r,isMap w b r∧(∀ k,f k=none→r k=none)∧∀ k bs,f k=some bs→∃ v,r k=some v∧SecAt w T v bs
theorem secs.lt {w:World} {T:Nat→Prop} {b:Nat} {f:Nat→Option Bs} (h:secs w T b f):b < w.heap.size:=by
 obtain ⟨r,h,_⟩:=h
 exact h.lt
theorem secs.fr {w w':World} {T T':Nat→Prop} {b:Nat} {f:Nat→Option Bs} (h:secs w T b f) (k:Fr T w w') (hT:TT w T T') (hb:w'.heap[b]?=w.heap[b]?):secs w' T' b f:=by
 obtain ⟨r,h1,h2,h3⟩:=h
 refine ⟨r,h1.keep hb,h2,fun k' bs e=>?_⟩
 obtain ⟨v,e1,e2⟩:=h3 k' bs e
 exact ⟨v,e1,e2.fr k hT⟩
theorem secs.later {w w':World} {T:Nat→Prop} {b:Nat} {f:Nat→Option Bs} (h:secs w T b f) (k:Below w.heap.size w w'):secs w' T b f:=h.fr (Fr.of T k) (TT.refl _ _) (k.block b h.lt)
theorem secs.setT {w:World} {T T':Nat→Prop} {b:Nat} {f:Nat→Option Bs} (h:secs w T b f) (hT:TT w T T'):secs w T' b f:=h.fr (Fr.refl T w) hT rfl
/-- Pending changes and their rows. -/
def chE (k:Nat) (v:Nat × Nat):CH:=(k,some ⟨v.1,0,none⟩,256,v.2)
def PR (w:World) (T:Nat→Prop) (l:List CH) (p:List (Nat × Bs)):Prop :=
 l.length=p.length∧∀ (i k:Nat) (bs:Bs),p[i]?=some (k,bs)→k < 4096∧∃ v,l[i]?=some (chE k v)∧SecAt w T v bs
theorem PR.fr {w w':World} {T T':Nat→Prop} {l:List CH} {p:List (Nat × Bs)} (h:PR w T l p) (k:Fr T w w') (hT:TT w T T'):PR w' T' l p :=
 ⟨h.1,fun i kk bs e=>by
  obtain ⟨h1,v,h2,h3⟩:=h.2 i kk bs e
  exact ⟨h1,v,h2,h3.fr k hT⟩⟩
theorem PR.snoc {w:World} {T:Nat→Prop} {l:List CH} {p:List (Nat × Bs)} (h:PR w T l p) {k:Nat} {v:Nat × Nat} {bs:Bs} (hk:k < 4096) (hv:SecAt w T v bs):PR w T (l ++ [chE k v]) (p ++ [(k,bs)]):=by
 refine ⟨by simp [h.1],fun i kk b2 e=>?_⟩
 by_cases hi:i < p.length
 ·rw [List.getElem?_append_left hi] at e
  obtain ⟨h1,u,h2,h3⟩:=h.2 i kk b2 e
  exact ⟨h1,u,by rw [List.getElem?_append_left (by rw [h.1];exact hi)];exact h2,h3⟩
 ·rw [List.getElem?_append_right (by omega)] at e
  have hi2:i - p.length=0:=by
   refine Decidable.byContradiction fun hne=>?_
   rw [List.getElem?_eq_none (by simp;omega)] at e
   cases e
  rw [hi2] at e
  simp only [List.getElem?_cons_zero,Option.some.injEq,Prod.mk.injEq] at e
  obtain ⟨rfl,rfl⟩:=e
  refine ⟨hk,v,?_,hv⟩
  rw [List.getElem?_append_right (by rw [h.1];omega),h.1,hi2]
  rfl
theorem PR.nil (w:World) (T:Nat→Prop):PR w T [] []:=⟨rfl,fun i k bs e=>by simp at e⟩
/-- A row of bytes that does not turn. -/
def RowAt (w:World) (T:Nat→Prop) (A:Option Addr) (n:Nat) (bs:Bs):Prop :=
 bs.length=n∧(0 < n→∃ g o,A=some ⟨g,o,none⟩∧¬ T g∧g < w.heap.size)∧RdB w w.heap.size A n bs
theorem RdB.one_block {w w':World} {B g o n:Nat} {bs:Bs} (h:RdB w B (some ⟨g,o,none⟩) n bs) (hb:w'.heap[g]?=w.heap[g]?):RdB w' B (some ⟨g,o,none⟩) n bs :=
 ⟨h.1,fun hn=>by
  obtain ⟨b,o2,e,hlt,hc⟩:=h.2 hn
  refine ⟨b,o2,e,hlt,fun j u hu=>?_⟩
  injection e with e
  injection e with e1 e2
  subst e1
  rw [World.cell?_of_block (w:=w) (w':=w') (a:=⟨g,o2+j,none⟩) hb]
  exact hc j u hu⟩
theorem RowAt.fr {w w':World} {T T':Nat→Prop} {A:Option Addr} {n:Nat} {bs:Bs} (h:RowAt w T A n bs) (k:Fr T w w') (hT:TT w T T'):RowAt w' T' A n bs:=by
 obtain ⟨h1,h2,h3⟩:=h
 by_cases hn:0 < n
 ·obtain ⟨g,o,rfl,hg,hlt⟩:=h2 hn
  exact ⟨h1,fun _=>⟨g,o,rfl,hT.not hg hlt,Nat.lt_of_lt_of_le hlt k.size⟩,Rd.more (h3.one_block (k.block g hlt hg)) k.size⟩
 ·obtain rfl:n=0:=by omega
  have:bs=[]:=List.eq_nil_of_length_eq_zero h1
  subst this
  exact ⟨rfl,fun h=>absurd h (by omega),⟨h3.1,fun h=>absurd h (by simp [cb])⟩⟩
theorem SecAt.sub {w:World} {T S:Nat→Prop} {v:Nat × Nat} {bs:Bs} (h:SecAt w S v bs) (hT:∀ g,T g→S g):SecAt w T v bs:=by
 obtain ⟨h1,h2,h3,h4,h5⟩:=h
 exact ⟨h1,h2,h3,fun e=>h4 (hT _ e),h5⟩
theorem secs.sub {w:World} {T S:Nat→Prop} {b:Nat} {f:Nat→Option Bs} (h:secs w S b f) (hT:∀ g,T g→S g):secs w T b f:=by
 obtain ⟨r,h1,h2,h3⟩:=h
 refine ⟨r,h1,h2,fun k bs e=>?_⟩
 obtain ⟨v,e1,e2⟩:=h3 k bs e
 exact ⟨v,e1,e2.sub hT⟩
theorem PR.sub {w:World} {T S:Nat→Prop} {l:List CH} {p:List (Nat × Bs)} (h:PR w S l p) (hT:∀ g,T g→S g):PR w T l p :=
 ⟨h.1,fun i k bs e=>by
  obtain ⟨h1,v,h2,h3⟩:=h.2 i k bs e
  exact ⟨h1,v,h2,h3.sub hT⟩⟩
theorem RowAt.sub {w:World} {T S:Nat→Prop} {A:Option Addr} {n:Nat} {bs:Bs} (h:RowAt w S A n bs) (hT:∀ g,T g→S g):RowAt w T A n bs :=
 ⟨h.1,fun hn=>by
  obtain ⟨g,o,e,h1,h2⟩:=h.2.1 hn
  exact ⟨g,o,e,fun q=>h1 (hT _ q),h2⟩,h.2.2⟩
theorem RowAt.nil (w:World) (T:Nat→Prop):RowAt w T none 0 []:=⟨rfl,fun h=>absurd h (by omega),Rd.none_⟩
end Go.Proofs.Ytdoanopeejeeiaa

