/- XDisk12 XFrame XOps XTurnsP XDisk13 -/
import Derived.Test.YtdoanopeejeeiaaMk11
import Derived.Test.YtdoanopeejeeiaaMk01
import Derived.ProofKit
import Derived.OpenShut
import Derived.ShutString
import Derived.ChangeOld
import Derived.Deep.Slices
namespace Go.Proofs.Ytdoanopeejeeiaa
set_option linter.all false
open Go.RowKit Go.Maps
theorem RowAt.own {w:World} {base g n c:Nat} {bs:Bs} {T:Nat→Prop} (h:ownB w base (.slice (some ⟨g,0,none⟩) n c) bs) (hn:n=bs.length) (hT:∀ z,base≤z→¬ T z):RowAt w T (some ⟨g,0,none⟩) n bs:=by
 have hlt:=World.ownsRow.lt h g rfl
 refine ⟨hn.symm,fun _=>⟨g,0,rfl,hT g hlt.1,hlt.2⟩,h.rd⟩
theorem RowAt.later {w w':World} {T:Nat→Prop} {A:Option Addr} {n:Nat} {bs:Bs} (h:RowAt w T A n bs) (k:Below w.heap.size w w'):RowAt w' T A n bs:=h.fr (Fr.of _ k) (TT.refl _ _)
theorem DkOk.size_ {w:World} {lo d:Nat} {h:Hn} {s:Dk} (k:DkOk w lo d h s):lo≤w.heap.size:=Nat.le_trans k.lo1 (Nat.le_of_lt k.arr.lt)
theorem Fr.bel {w w':World} {lo d:Nat} {h:Hn} {s:Dk} (F:Fr (h.T d) w w') (k:DkOk w lo d h s):Below lo w w':=F.below (fun g hg=>(k.Tlt g hg).1) k.size_
end Go.Proofs.Ytdoanopeejeeiaa

/- What every statement's proof needs of its frame: arguments opened to bytes. -/
namespace Go.Proofs.Ytdoanopeejeeiaa
set_option linter.all false
open Go.ChangeShapes Go.WideShapes Go.ChangeAt Go.RowKit
open Go.ChangeMaps (open_string shut_string)
theorem own:ownKnob Try.prog.godebug=none:=by kernel_rfl
theorem laidOut:laidOutB Try.prog=true:=by kernel_rfl
theorem u8_back (z:Int) (h:(Lit.int .u8 z).wf=true):((UInt8.ofNat z.toNat).toNat:Int)=z:=by
 have b:=bounds_u8 h
 rw [UInt8.toNat_ofNat']
 omega
theorem open_bytes {H:Type} {enc:TypeId × Value→H} {W:World} {sp:Nat→Bool} {held:Bool} {a:Option Addr} {n c:Nat} {d:DataW H} {p:List MemPlace}
  (h:DataW.Trod enc Try.prog W 0 sp held 36 (.slice a n c) d p):∃ bs,RdB W W.heap.size a n bs∧n≤c∧c≤maxLen:=by
 obtain ⟨fuel,hf⟩:=h
 rcases open_ints Try.underlying36 Try.underlying5 (by kernel_rfl) hf with ⟨hcs,_⟩ | ⟨x,l,cc,zs,hcs,_,hl,hm,hz,_,hcell,hwz⟩
 ·simp [Value.cells] at hcs
  obtain ⟨rfl,rfl,rfl⟩:=hcs
  exact ⟨[],Rd.none_,by omega,by simp⟩
 ·simp [Value.cells] at hcs
  obtain ⟨rfl,rfl,rfl⟩:=hcs
  have hzn:n≤zs.length:=by rw [hz];split <;> omega
  refine ⟨(zs.take n).map fun z=>UInt8.ofNat z.toNat,⟨by simp [cb];omega,fun hn=>?_⟩,hl,hm⟩
  have h0:=hcell 0 (by omega)
  obtain ⟨b,o,spot⟩:=x
  have hspot:spot=none:=by simpa [Addr.add] using World.cell?_spot h0
  subst hspot
  refine ⟨b,o,rfl,?_,fun j u hu=>?_⟩
  ·have:=block_lt_of_cell h0
   simpa [add_none] using this
  ·have hj:j < n:=by
    have:=(List.getElem?_eq_some_iff.1 hu).1
    simp [cb] at this
    omega
   have hc:=hcell j (by omega)
   rw [add_none] at hc
   rw [hc]
   have hw:=hwz (zs[j]'(by omega)) (List.getElem_mem _)
   simp [cb,List.getElem?_take,hj,List.getElem?_eq_getElem (show j < zs.length by omega)] at hu
   rw [← hu]
   have:=u8_back _ hw
   rw [UInt8.toNat_ofNat'] at this
   simp [List.getD,List.getElem?_eq_getElem (show j < zs.length by omega)]
   simpa using this.symm
end Go.Proofs.Ytdoanopeejeeiaa

/- Rows of the operations of chapter 14: of each its place and its byte. -/
namespace Go.Proofs.Ytdoanopeejeeiaa
set_option linter.all false
open Go.ChangeShapes Go.WideShapes Go.ChangeAt Go.RowKit
open Go.ChangeMaps (open_string shut_string)
end Go.Proofs.Ytdoanopeejeeiaa

/- DiskTurns, plainly. -/
namespace Go.Proofs.Ytdoanopeejeeiaa
set_option linter.all false
open Go.RowKit Go.Maps
theorem getS_len {w:World} {T:Nat→Prop} {b:Nat} {f:Nat→Option Bs} (h:secs w T b f) (k:Nat):(getS f k).length=256:=by
 obtain ⟨r,_,_,h3⟩:=h
 unfold getS
 cases e:f k with
 | none=>exact List.length_replicate
 | some bs =>
  obtain ⟨v,_,hs⟩:=h3 k bs e
  exact hs.1
theorem RowAt.own2 {w:World} {base n c:Nat} {A:Option Addr} {bs:Bs} {T:Nat→Prop} (h:ownB w base (.slice A n c) bs) (hT:∀ z,base≤z→¬ T z):RowAt w T A n bs:=by
 obtain ⟨A',c',e,hr,-,-⟩:=h.form
 injection e with e1 e2 e3
 subst e1 e2
 refine ⟨rfl,fun hn=>?_,hr⟩
 obtain ⟨-,g,rfl,hg,hlt⟩:=h.pos hn
 exact ⟨g,0,rfl,hT g hg,hlt⟩
end Go.Proofs.Ytdoanopeejeeiaa

/- A disk: Copy. -/
namespace Go.Proofs.Ytdoanopeejeeiaa
set_option linter.all false
open Go.RowKit Go.Maps
theorem own_litH (w:World) (t:TypeId) (fr:Nat × Nat):ownH (w.alloc (.cells #[] 79)) w.heap.size (.slice (some ⟨w.heap.size,0,none⟩) 0 0) []:=by
 have:=World.ownsRow_lit (base:=w.heap.size) (size:=2) (e:=79) w #[] 0 (Nat.le_refl _) (by unfold maxLen;omega) (by simp)
 exact this
set_option maxRecDepth 100000 in
theorem cloneH_any (B n c:Nat) (A:Option Addr) (l:List CH) (w:World) (h:RdH w B A n l) (hm:n≤1099511627776) :
  Calls Try.prog 51 #[.slice A n c] w fun e w'=>∃ A' n' c',e=.returned (.slice A' n' c')∧ownH w' w.heap.size (.slice A' n' c') l∧Below w.heap.size w w':=by
 have kn:=fun w=>Go.run_eql_slice_nil (P:=Try.prog) w 59 _ A n c Try.underlying59
 cases A with
 | none =>
  have hl:=h.len
  have h0:l=[]:=by
   cases l with
   | nil=>rfl
   | cons x r =>
    obtain ⟨b,o,e,_⟩:=h.2 (by rw [← hl];simp)
    cases e
  subst h0
  have hn:n=0:=by simpa using hl.symm
  subst hn
  go_enter Try.func51,Try.ntmps51
  go_wp2
  go_ret
  exact ⟨_,_,_,rfl,ownH.nil_ _ _,Below.refl _ _⟩
 | some a =>
  go_enter Try.func51,Try.ntmps51
  go_wp2_with (at_builtin;go_loud (refine wpList_appendH rfl (.tmp 5) (.tmp 6) rfl w.heap.size _ [] rfl (own_litH w 0 (0,0)) w.heap.size n c (some a) l rfl (RdH.alloc (RdH.here h) (Nat.le_refl _) _) (by simp;omega) (by simp) ?_);intro v1 w1 hown hg hb hat)
  go_ret
  obtain ⟨A1,c1,rfl,-⟩:=hown.form
  exact ⟨_,_,_,rfl,hown,((Below.refl w.heap.size w).alloc (Nat.le_refl _) _).trans (hb)⟩
/-- What another disk does leaves this one. -/
theorem ownH.frame {w w':World} {base:Nat} {v:Value} {l:List CH} {T2:Nat→Prop} (h:ownH w base v l) (F:Fr T2 w w') (hv:∀ g,v.ownBlock=some g→¬ T2 g):ownH w' base v l:=by
 have hlt:=World.ownsRow.lt h
 refine ⟨h.1,?_⟩
 rcases h.2 with hn | ⟨g,cap,cur,rfl,hb,hgg,rest⟩
 ·exact .inl hn
 ·exact .inr ⟨g,cap,cur,rfl,hb,(F.block g (hlt g rfl).2 (hv g rfl)).trans hgg,rest⟩
theorem DkOk.keep {w w':World} {lo d:Nat} {h:Hn} {s:Dk} {T2:Nat→Prop} (k:DkOk w lo d h s) (F:Fr T2 w w') (h1:∀ g,T2 g→h.U g) (h2:∀ g,h.T d g→¬ T2 g):DkOk w' lo d h s:=by
 have FS:Fr (h.S d) w w':=F.mono (fun g hg=>.inr (h1 g hg))
 exact { k with
  arr:=k.arr.fr F (h2 _ (.inl rfl))
  now:=k.now.fr FS (TT.refl _ _) (F.block _ k.now.lt (h2 _ (.inr (.inl rfl))))
  dur:=k.dur.fr FS (TT.refl _ _) (F.block _ k.dur.lt (h2 _ (.inr (.inr (.inl rfl)))))
  own:=k.own.frame F (fun g e=>h2 g (.inr (.inr (.inr e))))
  pr:=k.pr.fr FS (TT.refl _ _)
  mask:=k.mask.fr FS (TT.refl _ _) }
/-- Its rows avoid all that comes. -/
theorem DkOk.setU {w:World} {lo d:Nat} {h:Hn} {s:Dk} (k:DkOk w lo d h s):DkOk w lo d { h with U:=fun g=>w.heap.size≤g } s:=by
 have hS:TT w (h.S d) (Hn.S { h with U:=fun g=>w.heap.size≤g } d):=by
  rintro g (hg | hg)
  ·exact .inl (.inl hg)
  ·exact .inr hg
 exact { k with
  now:=k.now.setT hS
  dur:=k.dur.setT hS
  pr:=k.pr.fr (Fr.refl _ _) hS
  mask:=k.mask.fr (Fr.refl _ _) hS }
end Go.Proofs.Ytdoanopeejeeiaa

