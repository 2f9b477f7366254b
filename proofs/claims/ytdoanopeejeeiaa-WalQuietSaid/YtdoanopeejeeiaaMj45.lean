/- XWlo -/
import Derived.Test.YtdoanopeejeeiaaMj44
namespace Go.Proofs.Ytdoanopeejeeiaa
set_option linter.all false
open Go.RowKit Go.Maps
/-- A disk, up or not; its sectors. -/
structure DS (w:World) (lo d:Nat) (h:Hn) (s:Dk) (f:SF) (N W:Nat):Prop where
 dk:DkOk w lo d h s
 ats:At s f
 n:s.n=N
 mask:s.mask.length≤1000000
 wr:s.writes≤W
 fr:∀ g,w.heap.size≤g→¬ h.U g
 fl:s.falls≤9223372036854775807
theorem DS.later {w w':World} {lo d:Nat} {h:Hn} {s:Dk} {f:SF} {N W:Nat} (k:DS w lo d h s f N W) (hb:Below w.heap.size w w'):DS w' lo d h s f N W:=⟨k.dk.later hb,k.ats,k.n,k.mask,k.wr,fun g hg=>k.fr g (Nat.le_trans hb.size hg),k.fl⟩
theorem DS.more {w:World} {lo d:Nat} {h:Hn} {s:Dk} {f:SF} {N W W':Nat} (k:DS w lo d h s f N W) (hw:W≤W'):DS w lo d h s f N W':=⟨k.dk,k.ats,k.n,k.mask,Nat.le_trans k.wr hw,k.fr,k.fl⟩
theorem LS.ds {w:World} {lo d l:Nat} {h:Hn} {s:Dk} {f:SF} {N ring seq pos W:Nat} (k:LS w lo d l h s f N ring seq pos W) (hf:s.falls≤9223372036854775807):DS w lo d h s f N W:=⟨k.lg.dk,k.ats,k.n,k.mask,k.wr,k.lg.hU,hf⟩
theorem At.same {s s':Dk} {f:SF} (h:At s f) (h1:s'.pend=s.pend) (h2:s'.now=s.now) (h3:s'.dur=s.dur):At s' f:=⟨h1.trans h.pend,by rw [h2];exact h.now,by rw [h3];exact h.dur⟩
theorem crashAtS_any (w:World) (lo d:Nat) (h:Hn) (s:Dk) (f:SF) (N W:Nat) (n:Int) (A:Option Addr) (m c:Nat) (bs:Bs) (H:DS w lo d h s f N W) (hr:RdB w w.heap.size A m bs) (hm:m≤1000000) (hn:n≤9223372036854775807) :
  Calls Try.prog 20 #[.pointer (some ⟨d,0,none⟩),.int .i64 n,.slice A m c] w fun e w'=>(∃ v,e=.returned v)∧∃ h',DS w' lo d h' { s with falls:=n.toNat,mask:=bs } f N W∧Fr (h.T d) w w'∧h'.T d=h.T d∧h'.U=h.U:=by
 refine (crashAt_any lo d h s n A m c bs w H.dk hr hm H.fr).mono ?_
 rintro e w' ⟨he,h',H',F,T,U⟩
 have hl:=hr.len
 exact ⟨he,h',⟨H',H.ats.same rfl rfl rfl,H.n,by show bs.length≤_;omega,H.wr,fun g hg=>by rw [U];exact H.fr g (Nat.le_trans F.size hg),by show n.toNat≤_;omega⟩,F,T,U⟩
theorem crashAtL_any (w:World) (lo d l:Nat) (h:Hn) (s:Dk) (f:SF) (N ring seq pos W:Nat) (n:Int) (A:Option Addr) (m c:Nat) (bs:Bs) (H:LS w lo d l h s f N ring seq pos W) (hr:RdB w w.heap.size A m bs) (hm:m≤1000000) :
  Calls Try.prog 20 #[.pointer (some ⟨d,0,none⟩),.int .i64 n,.slice A m c] w fun e w'=>(∃ v,e=.returned v)∧∃ h',LS w' lo d l h' { s with falls:=n.toNat,mask:=bs } f N ring seq pos W∧Fr (h.T d) w w'∧h'.T d=h.T d∧h'.U=h.U:=by
 refine (crashAt_any lo d h s n A m c bs w H.lg.dk hr hm H.lg.hU).mono ?_
 rintro e w' ⟨he,h',H',F,T,U⟩
 have hl:=hr.len
 exact ⟨he,h',⟨H.lg.step H' F (by rw [T];exact TT.refl _ _) U,H.ats.same rfl rfl rfl,H.up,H.n,by show bs.length≤_;omega,H.log,H.wr⟩,F,T,U⟩
theorem rebootS_any (w:World) (lo d:Nat) (h:Hn) (s:Dk) (f:SF) (N W:Nat) (H:DS w lo d h s f N W) :
  Calls Try.prog 21 #[.pointer (some ⟨d,0,none⟩)] w fun e w'=>(∃ v,e=.returned v)∧DS w' lo d h { s with down:=false } f N W∧Fr (h.T d) w w':=by
 refine (rebootD_any lo d h s w H.dk).mono ?_
 rintro e w' ⟨he,H',F⟩
 exact ⟨he,⟨H',H.ats.same rfl rfl rfl,H.n,H.mask,H.wr,fun g hg=>H.fr g (Nat.le_trans F.size hg),H.fl⟩,F⟩
theorem RowAt.low {w:World} {B n:Nat} {A:Option Addr} {bs:Bs} {T:Nat→Prop} (h:RdB w B A n bs) (hT:∀ g,T g→B≤g) (hB:B≤w.heap.size):RowAt w T A n bs :=
 ⟨h.len,fun hn=>by
  obtain ⟨b,o,e,hlt,-⟩:=h.at_ hn
  exact ⟨b,o,e,fun q=>by have:=hT b q;omega,by omega⟩,Rd.more h hB⟩
/-- What an opening leaves, as the laws see it. -/
def OpT (lo d:Nat) (h:Hn) (s:Dk) (N ring:Nat) (was:SF) (ps:List (Nat × Bs)) (S:Nat) (ok:Bool) (W:Nat) (w:World) (e:Ending) (w':World):Prop :=
 ∃ p R E s' h' f',e=.returned (.tuple #[p,.bool R,.int .i64 E])∧DS w' lo d h' s' f' N (W+200)∧T2 N ring was ps S ok f'∧Fr (h.T d) w w'∧TT w (h.T d) (h'.T d)∧(s.falls=0→E=0∧s'.falls=0) ∧
  (E=0→∃ l seq pos,p=.pointer (some ⟨l,0,none⟩)∧lo≤l∧LS w' lo d l h' s' f' N ring seq pos (W+200)∧seq≤S+1∧((∀ j,2+ring≤j→f' j=layL was ps j)∨(ok=false∧∀ j,2+ring≤j→f' j=was j)))
theorem openT_any (w:World) (lo d:Nat) (h:Hn) (s:Dk) (f:SF) (N W ring:Nat) (was:SF) (ps:List (Nat × Bs)) (S:Nat) (ok:Bool) (H:DS w lo d h s f N W) (hlo:lo≤w.heap.size) (hup:s.down=false) (hT:T2 N ring was ps S ok f) (hS:S≤100000) (hW:W≤700000000) :
  Calls Try.prog 9 #[.pointer (some ⟨d,0,none⟩)] w fun e w'=>OpT lo d h s N ring was ps S ok W w e w':=by
 have hN:=H.n
 have one:∀ seq pos,LogA f N ring seq pos→seq≤S+1→((∀ j,2+ring≤j→f j=layL was ps j)∨(ok=false∧∀ j,2+ring≤j→f j=was j))→Calls Try.prog 9 #[.pointer (some ⟨d,0,none⟩)] w fun e w'=>OpT lo d h s N ring was ps S ok W w e w':=by
  intro seq pos hA hs hc
  refine (openA_any lo d h s f ring seq pos w H.dk H.ats hup (by rw [hN];exact hA) (by omega)).mono ?_
  rintro e w' ⟨l,h',rfl,L,hTT,hl,hb⟩
  have HL:LS w' lo d l h' s f N ring seq pos (W+200):=⟨L,H.ats,hup,hN,H.mask,hA,by have:=H.wr;omega⟩
  exact ⟨_,_,_,s,h',f,rfl,HL.ds H.fl,hT,Fr.of _ hb,by rw [hTT];exact TT.refl _ _,fun e=>⟨rfl,e⟩,fun _=>⟨l,seq,pos,rfl,by omega,HL,hs,hc⟩⟩
 rcases hT with ⟨hk,seq,pos,hA,hs,hj⟩ | ⟨hk,seq,pos,hB,hs,hj⟩ | ⟨seq,pos,hA,hs,hj⟩
 ·exact one seq pos hA (by omega) (.inr ⟨hk,hj⟩)
 ·refine (openB_any lo d h s f ring seq pos ps w H.dk hlo H.ats hup (by rw [hN];exact hB) (by omega) H.fl (by have:=H.wr;omega) H.mask).mono ?_
  rintro e w' ⟨l,R,E,s',h',rfl,⟨hbk,hE,hr⟩,H',hL,F,T,U,hll⟩
  rw [hN] at hr
  have hwr:s'.writes≤W+200:=by have:=hbk.writes;have:=H.wr;omega
  have hmk:s'.mask.length≤1000000:=by rw [hbk.mask];exact H.mask
  have hfl:s'.falls≤9223372036854775807:=Nat.le_trans hbk.le H.fl
  rcases hr with ⟨rfl,rfl,hup',f',hat',hlog,hhome⟩ | ⟨rfl,hdn,f',hat',hmid⟩
  ·have hh:∀ j,2+ring≤j→f' j=layL was ps j:=fun j hj'=>(hhome j hj').trans (layL_mix hB.good hj j hj')
   have HL:LS w' lo d l h' s' f' N ring (seq+1) (posN ring pos ps.length) (W+200):=⟨hL rfl,hat',hup',hbk.n.trans hN,hmk,hlog,hwr⟩
   exact ⟨_,_,_,s',h',f',rfl,HL.ds hfl,.inr (.inr ⟨_,_,hlog,by omega,hh⟩),F,T,fun e=>⟨rfl,hbk.falls0 e⟩,fun _=>⟨l,_,_,rfl,by omega,HL,by omega,.inl hh⟩⟩
  ·refine ⟨_,_,_,s',h',f',rfl,⟨H',hat',hbk.n.trans hN,hmk,hwr,U,hfl⟩,?_,F,T,fun e=>absurd (hE e) (by decide),fun e=>absurd e (by decide)⟩
   rw [hk]
   exact hmid.t2 hB.good hs hj
 ·exact one seq pos hA hs (.inl hj)
end Go.Proofs.Ytdoanopeejeeiaa

