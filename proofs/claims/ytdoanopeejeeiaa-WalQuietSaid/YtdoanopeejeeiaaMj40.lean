/- XWli XWlj XWlk -/
import Derived.Test.YtdoanopeejeeiaaMj39
namespace Go.Proofs.Ytdoanopeejeeiaa
set_option linter.all false
open Go.RowKit Go.Maps
/-- Sectors behind a change. -/
def appl1 (home:Nat) (ls:List Bs) (x:Int × Bs):List Bs:=if 0≤x.1 - (home:Int)∧x.1 - (home:Int) < (ls.length:Int) then ls.set (x.1 - (home:Int)).toNat x.2 else ls
def appl (home:Nat) (ls:List Bs) (ps:List (Int × Bs)):List Bs:=ps.foldl (appl1 home) ls
theorem appl1_len (home:Nat) (ls:List Bs) (x:Int × Bs):(appl1 home ls x).length=ls.length:=by unfold appl1;split <;> simp
theorem SecR.set {w:World} {T:Nat→Prop} {l:List SL} {ls:List Bs} (h:SecR w T l ls) (k:Nat) {B:Option Addr} {c:Nat} {b:Bs} (hr:RowAt w T B 256 b):SecR w T (l.set k (B,256,c)) (ls.set k b):=by
 refine ⟨by simp [h.1],fun i x e=>?_⟩
 by_cases hi:k=i
 ·subst hi
  have hk:k < ls.length:=by have:=(List.getElem?_eq_some_iff.1 e).1;rw [List.length_set] at this;exact this
  rw [List.getElem?_set_self hk] at e
  injection e with e
  subst e
  exact ⟨B,c,by rw [List.getElem?_set_self (by rw [h.1];exact hk)],hr⟩
 ·rw [List.getElem?_set_ne hi] at e
  obtain ⟨B',c',e1,e2⟩:=h.2 i x e
  exact ⟨B',c',by rw [List.getElem?_set_ne hi];exact e1,e2⟩
theorem SecR.t6 {w wr:World} {T:Nat→Prop} {l:List SL} {ls:List Bs} {v:Value} {l2:List SL} (h:SecR w T l ls) (ho:ownY wr w.heap.size v l2):SecR w (T6 T v) l ls :=
 ⟨h.1,fun i b e=>by
  obtain ⟨B,c,e1,q1,q2,q3⟩:=h.2 i b e
  refine ⟨B,c,e1,q1,fun hn=>?_,q3⟩
  obtain ⟨g,o,e,hg,hlt⟩:=q2 hn
  refine ⟨g,o,e,fun h=>?_,hlt⟩
  rcases h with h | h
  ·exact hg h
  ·have:=(World.ownsRow.lt ho g h).1
   omega⟩
end Go.Proofs.Ytdoanopeejeeiaa

/- wal's statements: may a change's sectors be? -/
namespace Go.Proofs.Ytdoanopeejeeiaa
set_option linter.all false
open Go.RowKit Go.Maps
end Go.Proofs.Ytdoanopeejeeiaa

/- wal's statements: what the chapter's examples fix. -/
namespace Go.Proofs.Ytdoanopeejeeiaa
set_option linter.all false
open Go.RowKit Go.Maps
theorem At.newD (N:Nat):At (newD N) (fun _=>zeros):=⟨rfl,fun _=>rfl,fun _=>rfl⟩
/-- A disk that was formatted. -/
theorem fmt_log {s:Dk} {f:SF} {N ring:Nat} (h1:1≤ring) (h2:ring+4≤N):LogA (layL f [(0,headB ring 1 0),(1,zeros)]) N ring 1 0 :=
 ⟨rfl,.inl rfl,h1,h2,h1,Nat.le_refl _⟩
/-- Four puts that lie in a row of their own. -/
theorem puts4 {w:World} {T:Nat→Prop} (hT:∀ g,w.heap.size≤g→¬ T g) (k1 k2 k3 k4:Int) {A1 A2 A3 A4:Option Addr} {c1 c2 c3 c4:Nat} {b1 b2 b3 b4:Bs} (h1:RowAt w T A1 256 b1) (h2:RowAt w T A2 256 b2) (h3:RowAt w T A3 256 b3) (h4:RowAt w T A4 256 b4) :
  PutsAt (w.alloc (.cells #[.int .i64 k1,.slice A1 256 c1,.int .i64 k2,.slice A2 256 c2,.int .i64 k3,.slice A3 256 c3,.int .i64 k4,.slice A4 256 c4] 56)) T (some ⟨w.heap.size,0,none⟩) 4 [(k1,b1),(k2,b2),(k3,b3),(k4,b4)]:=by
 have hb:Below w.heap.size w (w.alloc (.cells #[.int .i64 k1,.slice A1 256 c1,.int .i64 k2,.slice A2 256 c2,.int .i64 k3,.slice A3 256 c3,.int .i64 k4,.slice A4 256 c4] 56)):=(Below.refl _ _).alloc (Nat.le_refl _) _
 refine ⟨[(k1,A1,256,c1),(k2,A2,256,c2),(k3,A3,256,c3),(k4,A4,256,c4)],fun _=>⟨_,_,rfl,hT _ (Nat.le_refl _),by rw [World.size_alloc];exact Nat.lt_succ_self _⟩,?_,rfl,fun i q b e=>?_⟩
 ·refine ⟨rfl,fun _=>⟨_,_,rfl,by rw [World.size_alloc];exact Nat.lt_succ_self _,fun j u hu=>?_⟩⟩
  rw [Nat.zero_add,cell_of_row _ _ _ _ _ _ (heap_alloc_new w _)]
  simpa [cW,eW] using hu
 ·match i with
  | 0 =>
   injection e with e
   injection e with e1 e2
   subst e1 e2
   exact ⟨_,c1,rfl,h1.later hb⟩
  | 1 =>
   injection e with e
   injection e with e1 e2
   subst e1 e2
   exact ⟨_,c2,rfl,h2.later hb⟩
  | 2 =>
   injection e with e
   injection e with e1 e2
   subst e1 e2
   exact ⟨_,c3,rfl,h3.later hb⟩
  | 3 =>
   injection e with e
   injection e with e1 e2
   subst e1 e2
   exact ⟨_,c4,rfl,h4.later hb⟩
  | i+4=>simp at e
/-- The first of some puts. -/
theorem PutsAt.take {w:World} {T:Nat→Prop} {A:Option Addr} {n:Nat} {ps:List (Int × Bs)} (h:PutsAt w T A n ps) (m:Nat) (hm:m≤n):PutsAt w T A m (ps.take m):=by
 have hn:=h.len
 obtain ⟨l,h1,h2,h3,h4⟩:=h
 refine ⟨l.take m,fun h0=>h1 (by omega),?_,by rw [List.length_take,List.length_take,h3],fun i k b e=>?_⟩
 ·have:=RdW.cut h2 (k:=0) (m:=m) (A':=A) (by omega) (fun h0=>by
   obtain ⟨g,o,e,-⟩:=h1 (by omega)
   rw [e]
   simp [Addr.add])
  simpa using this
 ·rw [List.getElem?_take] at e
  by_cases hi:i < m
  ·rw [if_pos hi] at e
   obtain ⟨B,c,e1,e2⟩:=h4 i k b e
   exact ⟨B,c,by rw [List.getElem?_take,if_pos hi];exact e1,e2⟩
  ·rw [if_neg hi] at e;cases e
def P4:List (Nat × Bs):=[(6,fillB 1),(7,fillB 2),(8,fillB 3),(9,fillB 4)]
theorem fillB_len (c:UInt8):(fillB c).length=256:=List.length_replicate
theorem P4_may:mayV (2+4) 16 4 (ips (P4.take 3))=0:=by decide
theorem P4_no:mayV (2+4) 16 4 (ips P4)=9:=by decide
theorem P4_good:GoodP 16 4 (P4.take 3) :=
 ⟨by decide,by decide,by decide,fun x hx=>by
  simp only [P4,List.take_succ_cons,List.take_zero,List.mem_cons,List.not_mem_nil,or_false] at hx
  rcases hx with rfl | rfl | rfl <;> exact ⟨by decide,by decide,fillB_len _⟩,by decide⟩
end Go.Proofs.Ytdoanopeejeeiaa

