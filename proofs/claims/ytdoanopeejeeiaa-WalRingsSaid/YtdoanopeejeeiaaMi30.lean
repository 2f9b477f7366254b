/- XWl8 XWl9 -/
import Derived.Test.YtdoanopeejeeiaaMi29
namespace Go.Proofs.Ytdoanopeejeeiaa
set_option linter.all false
open Go.RowKit Go.Maps
theorem chgB_desc {ps:List (Nat × Bs)} {q:Nat} (h:q < descN ps.length):(chgB ps)[q]?=some (descB ps q):=by
 unfold chgB
 rw [List.getElem?_append_left (by rw [List.length_map,List.length_range];exact h),List.getElem?_map,List.getElem?_range h]
 rfl
theorem chgB_data {ps:List (Nat × Bs)} {k:Nat} {x:Nat × Bs} (h:ps[k]?=some x):(chgB ps)[descN ps.length+k]?=some x.2:=by
 unfold chgB
 rw [List.getElem?_append_right (by rw [List.length_map,List.length_range];omega),List.length_map,List.length_range,show descN ps.length+k - descN ps.length=k by omega,List.getElem?_map,h]
 rfl
/-- What puts of a row hold. -/
def PutsL (w:World) (T:Nat→Prop) (l:List PT) (ps:List (Int × Bs)):Prop :=
 l.length=ps.length∧∀ (i:Nat) (k:Int) (bs:Bs),ps[i]?=some (k,bs)→∃ (B:Option Addr) (c:Nat),l[i]?=some ((k,B,256,c):PT)∧RowAt w T B 256 bs
theorem PutsL.later {w w':World} {T:Nat→Prop} {l:List PT} {ps:List (Int × Bs)} (h:PutsL w T l ps) (hb:Below w.heap.size w w'):PutsL w' T l ps :=
 ⟨h.1,fun i k bs e=>by
  obtain ⟨B,c,e1,e2⟩:=h.2 i k bs e
  exact ⟨B,c,e1,e2.later hb⟩⟩
theorem PutsL.fr {w w':World} {T T':Nat→Prop} {l:List PT} {ps:List (Int × Bs)} (h:PutsL w T l ps) (k:Fr T w w') (hT:TT w T T'):PutsL w' T' l ps :=
 ⟨h.1,fun i q bs e=>by
  obtain ⟨B,c,e1,e2⟩:=h.2 i q bs e
  exact ⟨B,c,e1,e2.fr k hT⟩⟩
theorem PutsL.sub {w:World} {T S:Nat→Prop} {l:List PT} {ps:List (Int × Bs)} (h:PutsL w S l ps) (hT:∀ g,T g→S g):PutsL w T l ps :=
 ⟨h.1,fun i q bs e=>by
  obtain ⟨B,c,e1,e2⟩:=h.2 i q bs e
  exact ⟨B,c,e1,e2.sub hT⟩⟩
/-- A disk's own blocks, and a row's. -/
def T6 (T:Nat→Prop) (v:Value):Nat→Prop:=fun g=>T g∨v.ownBlock=some g
theorem T6.grow {w w':World} {T:Nat→Prop} {v v':Value} (hg:w.grownBy w' v.ownBlock) (ha:v'.ownBlock=v.ownBlock∨v'.ownBlock=some w.heap.size):Fr (T6 T v) w w'∧TT w (T6 T v) (T6 T v'):=by
 refine ⟨Fr.gro2 hg (fun g e=>.inr e),fun g h=>?_⟩
 rcases h with h | h
 ·exact .inl (.inl h)
 ·rcases ha with e | e
  ·exact .inl (.inr (e ▸ h))
  ·rw [e] at h
   injection h with h
   exact .inr (by omega)
theorem T6.new {w:World} {T:Nat→Prop} {v:Value} {base:Nat} {l:List PT} (ho:ownW w base v l) (hT:∀ g,base≤g→¬ T g) (hb:base≤w.heap.size):∀ g,w.heap.size≤g→¬ T6 T v g:=fun g hg h=>by
 rcases h with h | h
 ·exact hT g (by omega) h
 ·have:=(World.ownsRow.lt ho g h).2
  omega
theorem PutsL.nil (w:World) (T:Nat→Prop):PutsL w T [] []:=⟨rfl,fun i k bs e=>by simp at e⟩
theorem PutsL.snoc {w:World} {T:Nat→Prop} {l:List PT} {ps:List (Int × Bs)} (h:PutsL w T l ps) {k:Int} {B:Option Addr} {c:Nat} {bs:Bs} (hr:RowAt w T B 256 bs):PutsL w T (l ++ [(k,B,256,c)]) (ps ++ [(k,bs)]):=by
 refine ⟨by simp [h.1],fun i q b e=>?_⟩
 rcases Nat.lt_trichotomy i ps.length with hi | hi | hi
 ·rw [List.getElem?_append_left hi] at e
  obtain ⟨B',c',e1,e2⟩:=h.2 i q b e
  exact ⟨B',c',by rw [List.getElem?_append_left (by rw [h.1];exact hi)];exact e1,e2⟩
 ·subst hi
  rw [List.getElem?_append_right (Nat.le_refl _),Nat.sub_self] at e
  injection e with e
  injection e with e1 e2
  subst e1 e2
  exact ⟨B,c,by rw [← h.1,List.getElem?_append_right (Nat.le_refl _),Nat.sub_self];rfl,hr⟩
 ·rw [List.getElem?_eq_none (by simp;omega)] at e
  cases e
/-- An own row of puts is one that lies beside the disk. -/
theorem PutsL.at {w:World} {T:Nat→Prop} {base n c:Nat} {A:Option Addr} {l:List PT} {ps:List (Int × Bs)} (h:PutsL w T l ps) (ho:ownW w base (.slice A n c) l) (hT:∀ g,base≤g→¬ T g):PutsAt w T A n ps:=by
 refine ⟨l,fun hn=>?_,ho.rd,h.1,h.2⟩
 obtain ⟨-,g,rfl,hg,hlt⟩:=ho.pos hn
 exact ⟨g,0,rfl,hT g hg,hlt⟩
theorem ips_take (ps:List (Nat × Bs)) {k:Nat} {x:Nat × Bs} (h:ps[k]?=some x):ips (ps.take (k+1))=ips (ps.take k) ++ [((x.1:Int),x.2)]:=by
 rw [List.take_add_one,h]
 unfold ips
 simp
end Go.Proofs.Ytdoanopeejeeiaa

/- wal: a change done once more. -/
namespace Go.Proofs.Ytdoanopeejeeiaa
set_option linter.all false
open Go.RowKit Go.Maps
/-- What stays of a disk beside its sectors. -/
structure Bk (s s':Dk) (m:Nat):Prop where
 n:s'.n=s.n
 mask:s'.mask=s.mask
 writes:s'.writes≤s.writes+m
 falls0:s.falls=0→s'.falls=0
 le:s'.falls≤s.falls
theorem Bk.refl (s:Dk) (m:Nat):Bk s s m:=⟨rfl,rfl,by omega,fun h=>h,Nat.le_refl _⟩
theorem Bk.trans {s s' s'':Dk} {m m':Nat} (h:Bk s s' m) (k:Bk s' s'' m'):Bk s s'' (m+m'):=⟨k.n.trans h.n,k.mask.trans h.mask,by have:=h.writes;have:=k.writes;omega,fun e=>k.falls0 (h.falls0 e),Nat.le_trans k.le h.le⟩
theorem Bk.more {s s':Dk} {m m':Nat} (h:Bk s s' m) (hm:m≤m'):Bk s s' m':=⟨h.n,h.mask,by have:=h.writes;omega,h.falls0,h.le⟩
theorem WrRes.bk {s s':Dk} {f:SF} {l:List (Nat × Bs)} {E:Int} (h:WrRes s f l E s'):Bk s s' l.length:=⟨h.n,h.mask,h.writes,fun e=>(h.falls e).1,h.le⟩
set_option maxRecDepth 100000 in
set_option maxHeartbeats 6400000 in
theorem redoA_any (lo d l:Nat) (h:Hn) (s:Dk) (f:SF) (ring seq pos:Nat) (w:World) (H:LgOk w lo d l h s ring seq pos) (hat:At s f) (hdn:s.down=false) (hA:LogA f s.n ring seq pos) (hs:seq≤1000000) :
  Calls Try.prog 32 #[.pointer (some ⟨l,0,none⟩)] w fun e w'=>e=.returned (.tuple #[.bool false,.int .i64 0])∧Below w.heap.size w w':=by
 have hN:=H.dk.size
 have HM:=Lib.hid (marked_any lo d l h s f ring seq pos w H hat hdn (by have:=hA.r2;omega) hA.p hs _ 0 rfl (by rw [if_neg (fun e=>hA.mark.ne (by omega) _ _ e.1)]))
 clear H hat hA
 go_enter Try.func32,Try.ntmps32
 go_wp2_with (go_at_call 49;(with_reducible refine HM.out.mono ?_);go_must (rintro e w1 ⟨rfl,hb1⟩;have HB1:=Lib.hid hb1;clear hb1))
 go_ret2
 exact ⟨rfl,HB1.out⟩
end Go.Proofs.Ytdoanopeejeeiaa

