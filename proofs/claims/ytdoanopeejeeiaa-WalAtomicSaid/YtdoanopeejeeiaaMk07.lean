/- XDisk4 -/
import Derived.Test.YtdoanopeejeeiaaMk05
import Derived.Test.YtdoanopeejeeiaaMk06
import Derived.Lib.LazyBuf
namespace Go.Proofs.Ytdoanopeejeeiaa
set_option linter.all false
open Go.RowKit Go.Maps
/-- A disk, plainly. -/
structure Dk where
 n:Nat
 now:Nat→Option Bs
 dur:Nat→Option Bs
 pend:List (Nat × Bs)
 writes:Nat
 falls:Nat
 mask:Bs
 down:Bool
/-- Where it lies. -/
structure Hn where
 nb:Nat
 db:Nat
 pA:Option Addr
 pn:Nat
 pc:Nat
 pl:List CH
 mA:Option Addr
 mn:Nat
 mc:Nat
 U:Nat→Prop
def Hn.pv (h:Hn):Value:=.slice h.pA h.pn h.pc
def Hn.T (h:Hn) (d:Nat):Nat→Prop:=fun g=>g=d∨g=h.nb∨g=h.db∨h.pv.ownBlock=some g
/-- What its rows avoid: its own blocks, and others. -/
def Hn.S (h:Hn) (d:Nat):Nat→Prop:=fun g=>h.T d g∨h.U g
theorem Hn.TS (h:Hn) (d:Nat):∀ g,h.T d g→h.S d g:=fun _=>.inl
theorem Hn.tts {w:World} {h h':Hn} {d:Nat} (k:TT w (h.T d) (h'.T d)) (e:h'.U=h.U):TT w (h.S d) (h'.S d):=by
 rintro g (hg | hg)
 ·rcases k g hg with h1 | h1
  ·exact .inl (.inl h1)
  ·exact .inr h1
 ·rw [e] at hg
  exact .inl (.inr hg)
theorem Fr.S {w w':World} {h:Hn} {d:Nat} (k:Fr (h.T d) w w'):Fr (h.S d) w w':=k.mono (h.TS d)
def Hn.cells (h:Hn) (s:Dk):List Value:=[.int .i64 (s.n:Int),.map (some h.nb),.map (some h.db),.slice h.pA h.pn h.pc,.int .i64 (s.writes:Int),.int .i64 (s.falls:Int),.slice h.mA h.mn h.mc,.bool s.down]
structure DkOk (w:World) (lo d:Nat) (h:Hn) (s:Dk):Prop where
 arr:Arr w d (h.cells s)
 ne1:d ≠ h.nb
 ne2:d ≠ h.db
 ne3:h.nb ≠ h.db
 lo1:lo≤d
 lo2:lo≤h.nb
 lo3:lo≤h.db
 pne:∀ g,h.pv.ownBlock=some g→g ≠ d∧g ≠ h.nb∧g ≠ h.db
 now:secs w (h.S d) h.nb s.now
 dur:secs w (h.S d) h.db s.dur
 own:ownH w lo h.pv h.pl
 pr:PR w (h.S d) h.pl s.pend
 mask:RowAt w (h.S d) h.mA h.mn s.mask
 size:4≤s.n∧s.n≤4096
theorem DkOk.Tlt {w:World} {lo d:Nat} {h:Hn} {s:Dk} (k:DkOk w lo d h s):∀ g,h.T d g→lo≤g∧g < w.heap.size:=by
 rintro g (rfl | rfl | rfl | e)
 ·exact ⟨k.lo1,k.arr.lt⟩
 ·exact ⟨k.lo2,k.now.lt⟩
 ·exact ⟨k.lo3,k.dur.lt⟩
 ·exact World.ownsRow.lt k.own g e
theorem DkOk.fresh {w:World} {lo d:Nat} {h:Hn} {s:Dk} (k:DkOk w lo d h s):∀ g,w.heap.size≤g→¬ h.T d g:=fun g hg e=>by
 have:=(k.Tlt g e).2
 omega
theorem DkOk.later {w w':World} {lo d:Nat} {h:Hn} {s:Dk} (k:DkOk w lo d h s) (hb:Below w.heap.size w w'):DkOk w' lo d h s :=
 { k with
  arr:=k.arr.later hb
  now:=k.now.later hb
  dur:=k.dur.later hb
  own:=k.own.later hb
  pr:=k.pr.fr (Fr.of _ hb) (TT.refl _ _)
  mask:=k.mask.fr (Fr.of _ hb) (TT.refl _ _) }
/-- What is wrong with a place. -/
def wrongD (s:Dk) (k:Int):Int:=if s.down then 12 else if k < 0∨(s.n:Int)≤k then 1 else 0
def zeros:Bs:=List.replicate 256 0
def getS (f:Nat→Option Bs) (k:Nat):Bs:=(f k).getD zeros
set_option maxRecDepth 100000 in
theorem cloneB3_any (B n c:Nat) (A:Option Addr) (bs:List UInt8) (w:World) (h:RdB w B A n bs) (hm:n≤1099511627776) :
  Calls Try.prog 39 #[.slice A n c] w fun e w'=>∃ v,e=.returned v∧ownB w' w.heap.size v bs∧Below w.heap.size w w':=by
 have kn:=fun w=>Go.run_eql_slice_nil (P:=Try.prog) w 36 _ A n c Try.underlying36
 cases A with
 | none =>
  have h0:bs=[]:=by
   cases bs with
   | nil=>rfl
   | cons x l=>have h2:=h.len;obtain ⟨b,o,e,_⟩:=h.at_ (by rw [← h2];simp);cases e
  subst h0
  have hn:n=0:=by have:=h.len;simpa using this.symm
  subst hn
  go_enter Try.func39,Try.ntmps39
  go_wp2
  go_ret
  exact ⟨_,rfl,ownB.nil_ _ _,Below.refl _ _⟩
 | some a =>
  go_enter Try.func39,Try.ntmps39
  go_wp2_with (at_builtin;go_loud (refine wpList_appendB rfl (.tmp 5) (.tmp 6) rfl w.heap.size _ [] rfl (own_lit w [] (by simp)) w.heap.size n c (some a) bs rfl (Rd.alloc (Rd.here h) (Nat.le_refl _) _) (by simp;omega) (by simp) ?_);intro v1 w1 hown hg hb hat)
  go_ret
  exact ⟨_,rfl,hown,((Below.refl w.heap.size w).alloc (Nat.le_refl _) _).trans (hb)⟩
set_option maxRecDepth 100000 in
theorem wrongD_any (lo d:Nat) (h:Hn) (s:Dk) (k:Int) (w:World) (H:Arr w d (h.cells s)) :
  Calls Try.prog 46 #[.pointer (some ⟨d,0,none⟩),.int .i64 k] w fun e w'=>e=.returned (.int .i64 (wrongD s k))∧w=w':=by
 have c0:=H.cell (k:=0) rfl
 have c7:=H.cell (k:=7) rfl
 clear H
 cases hd:s.down with
 | true =>
  have he:wrongD s k=12:=by unfold wrongD;rw [hd];rfl
  rw [he]
  rw [hd] at c7
  clear he hd
  go_enter Try.func46,Try.ntmps46
  go_wp2_with fail
  go_ret
  exact ⟨rfl,rfl⟩
 | false =>
  rw [hd] at c7
  have he:wrongD s k=if k < 0∨(s.n:Int)≤k then 1 else 0:=by unfold wrongD;rw [hd];rfl
  rw [he]
  clear he hd
  by_cases h1:k < 0
  ·have t1:decide (k < 0)=true:=decide_eq_true h1
   rw [if_pos (.inl h1)]
   go_enter Try.func46,Try.ntmps46
   go_wp2_with fail
   go_ret
   exact ⟨rfl,rfl⟩
  ·have t1:decide (k < 0)=false:=decide_eq_false h1
   by_cases h2:(s.n:Int)≤k
   ·have t2:decide (k ≥ (s.n:Int))=true:=decide_eq_true h2
    rw [if_pos (.inr h2)]
    go_enter Try.func46,Try.ntmps46
    go_wp2_with fail
    go_ret
    exact ⟨rfl,rfl⟩
   ·have t2:decide (k ≥ (s.n:Int))=false:=decide_eq_false h2
    rw [if_neg (by rintro (h | h);exact h1 h;exact h2 h)]
    go_enter Try.func46,Try.ntmps46
    go_wp2_with fail
    go_ret
    exact ⟨rfl,rfl⟩
set_option maxRecDepth 100000 in
theorem secAt_any (b k:Nat) (T:Nat→Prop) (f:Nat→Option Bs) (w:World) (h:secs w T b f) (hk:k < 4096) (hT:∀ g,w.heap.size≤g→¬ T g) :
  Calls Try.prog 47 #[.map (some b),.int .i64 (k:Int)] w fun e w'=>∃ u:Nat × Nat,e=.returned (sv u)∧ownB w' w.heap.size (sv u) (getS f k)∧SecAt w' T u (getS f k)∧w.heap.size≤u.1∧Below w.heap.size w w':=by
 obtain ⟨r,h1,h2,h3⟩:=h
 have hl:=h1.look hk
 cases hf:f k with
 | none =>
  rw [h2 k hf] at hl
  have hg:getS f k=List.replicate 256 0:=by unfold getS;rw [hf];rfl
  rw [hg]
  clear h1 h2 h3 hf hg
  unfold lookV at hl
  dsimp only [Option.isSome_none] at hl
  have HT:=Lib.hid hT
  clear hT
  go_enter Try.func47,Try.ntmps47
  go_wp2_with (at_make;refine wpList_makeB rfl _ _ rfl 256 _ rfl rfl rfl (by omega) ?_;intro w2 hown hb1 hsz)
  go_ret
  obtain ⟨u,e,hs,hlo⟩:=SecAt.new hown (by simp) HT.out
  exact ⟨u,by rw [← e];rfl,by rw [← e];exact hown,hs,hlo,hb1⟩
 | some bs =>
  obtain ⟨v,e,hs⟩:=h3 k bs hf
  rw [e] at hl
  have hg:getS f k=bs:=by unfold getS;rw [hf];rfl
  rw [hg]
  have HC:=Lib.hid (cloneB3_any w.heap.size 256 v.2 (some ⟨v.1,0,none⟩) bs w hs.rd (by omega))
  have HL:=Lib.hid hs.1
  clear h1 h2 h3 hf hg e hs
  unfold lookV sv at hl
  dsimp only [Option.isSome_some] at hl
  have HT:=Lib.hid hT
  clear hT
  go_enter Try.func47,Try.ntmps47
  go_wp2_with (go_at_call 39;(with_reducible refine HC.out.mono ?_);go_must (rintro e w1 ⟨v1,rfl,ho,hb⟩))
  go_ret
  obtain ⟨u,e,hs,hlo⟩:=SecAt.new ho HL.out HT.out
  exact ⟨u,by rw [← e];rfl,by rw [← e];exact ho,hs,hlo,hb⟩
end Go.Proofs.Ytdoanopeejeeiaa

