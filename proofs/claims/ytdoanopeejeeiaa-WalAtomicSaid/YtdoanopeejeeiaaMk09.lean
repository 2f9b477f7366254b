/- XDisk6 -/
import Derived.Test.YtdoanopeejeeiaaMk08
import Derived.Deep.RegionHeld3
namespace Go.Proofs.Ytdoanopeejeeiaa
set_option linter.all false
open Go.RowKit Go.Maps
/-- A clone of a row of a sector. -/
theorem secClone_any (n c:Nat) (A:Option Addr) (bs:Bs) (T:Nat→Prop) (w:World) (h:RdB w w.heap.size A n bs) (hl:bs.length=256) (hT:∀ g,w.heap.size≤g→¬ T g) :
  Calls Try.prog 39 #[.slice A n c] w fun e w'=>∃ g5 c5,e=.returned (.slice (some ⟨g5,0,none⟩) 256 c5)∧SecAt w' T (g5,c5) bs∧w.heap.size≤g5∧Below w.heap.size w w':=by
 refine (cloneB3_any w.heap.size n c A bs w h (by have:=h.len;omega)).mono ?_
 rintro e w' ⟨v,rfl,ho,hb⟩
 obtain ⟨⟨g5,c5⟩,rfl,hs,hlo⟩:=SecAt.new ho hl hT
 exact ⟨g5,c5,rfl,hs,hlo,hb⟩
/-- A cell of the disk's own. -/
theorem DkOk.cell {w:World} {lo d:Nat} {h:Hn} {s s':Dk} (k:DkOk w lo d h s) (j:Nat) (v:Value) (he:(h.cells s).set j v=h.cells s') (h1:s'.now=s.now) (h2:s'.dur=s.dur) (h3:s'.pend=s.pend) (h4:s'.mask=s.mask) (h5:s'.n=s.n) :
  DkOk (w.setCell ⟨d,j,none⟩ v) lo d h s'∧Fr (h.T d) w (w.setCell ⟨d,j,none⟩ v):=by
 have hF:=(Fr.refl (h.T d) w).setCell (p:=⟨d,j,none⟩) (.inl rfl) v
 have hb:∀ g,g ≠ d→(w.setCell ⟨d,j,none⟩ v).heap[g]?=w.heap[g]?:=fun g hg=>Below.heap_setCell _ _ _ _ hg
 refine ⟨⟨he ▸ k.arr.set j v,k.ne1,k.ne2,k.ne3,k.lo1,k.lo2,k.lo3,k.pne,?_,?_,?_,?_,?_,by rw [h5];exact k.size⟩,hF⟩
 ·rw [h1];exact k.now.fr hF.S (TT.refl _ _) (hb _ (fun e=>k.ne1 e.symm))
 ·rw [h2];exact k.dur.fr hF.S (TT.refl _ _) (hb _ (fun e=>k.ne2 e.symm))
 ·exact k.own.far (fun e=>(k.pne _ e).1 rfl) j v
 ·rw [h3];exact k.pr.fr hF.S (TT.refl _ _)
 ·rw [h4];exact k.mask.fr hF.S (TT.refl _ _)
/-- A change more that is pending. -/
theorem DkOk.pushed {w w5 w7:World} {lo d:Nat} {h:Hn} {s:Dk} (k:DkOk w lo d h s) (hb:Below w.heap.size w w5) (X:Obj) {q g c:Nat} {bs:Bs} (hq:q < 4096) (hs:SecAt w5 (h.S d) (g,c) bs) {A6:Option Addr} {n6 c6:Nat}
  (ho:ownH w7 lo (.slice A6 n6 c6) (h.pl ++ [chE q (g,c)])) (hg:(w5.alloc X).grownBy w7 h.pv.ownBlock) (ha:(Value.slice A6 n6 c6).ownBlock=h.pv.ownBlock∨(Value.slice A6 n6 c6).ownBlock=some (w5.alloc X).heap.size) :
  DkOk (w7.setCell ⟨d,3,none⟩ (.slice A6 n6 c6)) lo d { h with pA:=A6,pn:=n6,pc:=c6,pl:=h.pl ++ [chE q (g,c)] } { s with pend:=s.pend ++ [(q,bs)] }∧Fr (h.T d) w (w7.setCell ⟨d,3,none⟩ (.slice A6 n6 c6)) ∧
   TT w (h.T d) (Hn.T { h with pA:=A6,pn:=n6,pc:=c6,pl:=h.pl ++ [chE q (g,c)] } d):=by
 have hsz:w.heap.size≤(w5.alloc X).heap.size:=by have:=hb.size;simp;omega
 have hTT:TT w (h.T d) (Hn.T { h with pA:=A6,pn:=n6,pc:=c6,pl:=h.pl ++ [chE q (g,c)] } d):=by
  rintro g (rfl | rfl | rfl | e)
  ·exact .inl (.inl rfl)
  ·exact .inl (.inr (.inl rfl))
  ·exact .inl (.inr (.inr (.inl rfl)))
  ·rcases ha with ha | ha
   ·exact .inl (.inr (.inr (.inr (ha.symm.trans e))))
   ·right
    have e2:some (w5.alloc X).heap.size=some g:=ha.symm.trans e
    injection e2 with e2
    omega
 have hTT5:TT w5 (h.T d) (Hn.T { h with pA:=A6,pn:=n6,pc:=c6,pl:=h.pl ++ [chE q (g,c)] } d):=by
  rintro g (rfl | rfl | rfl | e)
  ·exact .inl (.inl rfl)
  ·exact .inl (.inr (.inl rfl))
  ·exact .inl (.inr (.inr (.inl rfl)))
  ·rcases ha with ha | ha
   ·exact .inl (.inr (.inr (.inr (ha.symm.trans e))))
   ·right
    have e2:some (w5.alloc X).heap.size=some g:=ha.symm.trans e
    injection e2 with e2
    rw [← e2];simp
 have hF1:Fr (h.T d) w (w5.alloc X):=(Fr.of _ hb).alloc X
 have hF2:Fr (h.T d) (w5.alloc X) w7:=Fr.gro2 hg (fun g e=>.inr (.inr (.inr e)))
 have hF3:Fr (h.T d) w (w7.setCell ⟨d,3,none⟩ (.slice A6 n6 c6)):=(hF1.trans hF2).setCell (p:=⟨d,3,none⟩) (.inl rfl) _
 have hF5:Fr (h.T d) w5 (w7.setCell ⟨d,3,none⟩ (.slice A6 n6 c6)):=(((Fr.refl _ w5).alloc X).trans hF2).setCell (p:=⟨d,3,none⟩) (.inl rfl) _
 have hpd:∀ g,(g=d∨g=h.nb∨g=h.db)→h.pv.ownBlock ≠ some g:=fun g hg e=>by
  have:=k.pne g e
  rcases hg with rfl | rfl | rfl
  ·exact this.1 rfl
  ·exact this.2.1 rfl
  ·exact this.2.2 rfl
 have hblk:∀ g,g < w.heap.size→g ≠ d→h.pv.ownBlock ≠ some g→(w7.setCell ⟨d,3,none⟩ (.slice A6 n6 c6)).heap[g]?=w.heap[g]?:=fun g hl hne hp =>
  (Below.heap_setCell _ _ _ _ hne).trans ((hg.block g (by omega) (fun e=>hp e.symm)).trans ((heap_alloc_old w5 X (by have:=hb.size;omega)).trans (hb.block g hl)))
 have harr:Arr w7 d (h.cells s):=by
  have h1:=(k.arr.later hb).alloc X
  have hl:=h1.lt
  obtain ⟨t,h2⟩:=h1
  exact ⟨t,(hg.block d hl (fun e=>hpd d (.inl rfl) e.symm)).trans h2⟩
 refine ⟨⟨harr.set 3 _,k.ne1,k.ne2,k.ne3,k.lo1,k.lo2,k.lo3,fun g e=>?_,k.now.fr hF3.S (Hn.tts hTT rfl) (hblk _ k.now.lt (fun e=>k.ne1 e.symm) (hpd _ (.inr (.inl rfl)))),k.dur.fr hF3.S (Hn.tts hTT rfl) (hblk _ k.dur.lt (fun e=>k.ne2 e.symm) (hpd _ (.inr (.inr rfl)))),?_,?_,k.mask.fr hF3.S (Hn.tts hTT rfl),k.size⟩,hF3,hTT⟩
 ·rcases ha with ha | ha
  ·exact k.pne g (ha.symm.trans e)
  ·have e2:some (w5.alloc X).heap.size=some g:=ha.symm.trans e
   injection e2 with e2
   have h1:=k.arr.lt
   have h2:=k.now.lt
   have h3:=k.dur.lt
   exact ⟨by omega,(show g ≠ h.nb by omega),(show g ≠ h.db by omega)⟩
 ·refine ho.far (fun e=>?_) 3 _
  rcases ha with ha | ha
  ·exact hpd d (.inl rfl) (ha.symm.trans e)
  ·have e2:some (w5.alloc X).heap.size=some d:=ha.symm.trans e
   injection e2 with e2
   have h1:=k.arr.lt
   omega
 ·exact (k.pr.fr hF3.S (Hn.tts hTT rfl)).snoc hq (hs.fr hF5.S (Hn.tts hTT5 rfl))
/-- A sector that is laid anew. -/
theorem secs.put {w w6:World} {T:Nat→Prop} {b:Nat} {f:Nat→Option Bs} {r:Nat→Option (Nat × Nat)} (hr:∀ k,f k=none→r k=none) (hs:∀ k bs,f k=some bs→∃ v,r k=some v∧SecAt w T v bs) {q g c:Nat} {bs:Bs}
  (hF:Fr T w w6) (h5:SecAt w6 T (g,c) bs) (hm:isMap w6 b (updR r q (g,c))):secs w6 T b (updR f q bs):=by
 refine ⟨_,hm,fun k e=>?_,fun k bs' e=>?_⟩
 ·by_cases hk:k=q
  ·subst hk;rw [updR_same] at e;cases e
  ·rw [updR_other _ _ hk] at e ⊢;exact hr k e
 ·by_cases hk:k=q
  ·subst hk
   rw [updR_same] at e
   injection e with e
   subst e
   exact ⟨_,updR_same _ _ _,h5⟩
  ·rw [updR_other _ _ hk] at e
   obtain ⟨v,h1,h2⟩:=hs k bs' e
   exact ⟨v,by rw [updR_other _ _ hk];exact h1,h2.fr hF (TT.refl _ _)⟩
/-- Behind a store into one of the two maps all else stands. -/
theorem DkOk.mapped {w w6:World} {lo d:Nat} {h:Hn} {s:Dk} (k:DkOk w lo d h s) (b:Nat) (hF:Fr (fun g=>g=b) w w6) (hb:b=h.nb∨b=h.db) (s':Dk) (hn:secs w6 (h.S d) h.nb s'.now) (hd:secs w6 (h.S d) h.db s'.dur)
  (he:h.cells s'=h.cells s) (h3:s'.pend=s.pend) (h4:s'.mask=s.mask) (h5:s'.n=s.n):DkOk w6 lo d h s'∧Fr (h.T d) w w6:=by
 have hT:Fr (h.T d) w w6:=hF.mono (fun g e=>by subst e;rcases hb with rfl | rfl;exact .inr (.inl rfl);exact .inr (.inr (.inl rfl)))
 have hdb:d ≠ b:=by rcases hb with rfl | rfl;exact k.ne1;exact k.ne2
 refine ⟨⟨he ▸ k.arr.fr hF hdb,k.ne1,k.ne2,k.ne3,k.lo1,k.lo2,k.lo3,k.pne,hn,hd,?_,?_,?_,by rw [h5];exact k.size⟩,hT⟩
 ·have hne:h.pv.ownBlock=none∨h.pv.ownBlock ≠ some b:=.inr (fun e=>by
   have:=k.pne b e
   rcases hb with rfl | rfl
   ·exact this.2.1 rfl
   ·exact this.2.2 rfl)
  exact k.own.kept (row:=some b) ⟨hF.os,hF.tape,hF.output,hF.size,fun i hi hn=>hF.block i hi (fun e=>hn (by rw [e]))⟩ hne
 ·rw [h3];exact k.pr.fr hT.S (TT.refl _ _)
 ·rw [h4];exact k.mask.fr hT.S (TT.refl _ _)
end Go.Proofs.Ytdoanopeejeeiaa

