/- XWln XWlo -/
import Derived.Test.YtdoanopeejeeiaaMk42
namespace Go.Proofs.Ytdoanopeejeeiaa
set_option linter.all false
open Go.RowKit Go.Maps
/-- The blocks of a disk and its log. -/
def TL (d l:Nat) (h:Hn):Nat→Prop:=fun g=>h.T d g∨g=l
theorem TL.tt {w:World} {d l:Nat} {h h':Hn} (k:TT w (h.T d) (h'.T d)):TT w (TL d l h) (TL d l h'):=fun g hg=>hg.elim (fun e=>(k g e).imp .inl id) (fun e=>.inl (.inr e))
/-- A log upon a disk, that is up. -/
structure LS (w:World) (lo d l:Nat) (h:Hn) (s:Dk) (f:SF) (N ring seq pos W:Nat):Prop where
 lg:LgOk w lo d l h s ring seq pos
 ats:At s f
 up:s.down=false
 n:s.n=N
 mask:s.mask.length≤1000000
 log:LogA f N ring seq pos
 wr:s.writes≤W
theorem LS.later {w w':World} {lo d l:Nat} {h:Hn} {s:Dk} {f:SF} {N ring seq pos W:Nat} (k:LS w lo d l h s f N ring seq pos W) (hb:Below w.heap.size w w'):LS w' lo d l h s f N ring seq pos W:=⟨k.lg.later hb,k.ats,k.up,k.n,k.mask,k.log,k.wr⟩
theorem LS.more {w:World} {lo d l:Nat} {h:Hn} {s:Dk} {f:SF} {N ring seq pos W W':Nat} (k:LS w lo d l h s f N ring seq pos W) (hw:W≤W'):LS w lo d l h s f N ring seq pos W':=⟨k.lg,k.ats,k.up,k.n,k.mask,k.log,Nat.le_trans k.wr hw⟩
theorem LS.fresh {w:World} {lo d l:Nat} {h:Hn} {s:Dk} {f:SF} {N ring seq pos W:Nat} (k:LS w lo d l h s f N ring seq pos W):∀ g,w.heap.size≤g→¬ TL d l h g:=fun g hg e=>e.elim (k.lg.dk.fresh g hg) (fun e=>by have:=k.lg.lg.lt;omega)
theorem LS.low {w:World} {lo d l:Nat} {h:Hn} {s:Dk} {f:SF} {N ring seq pos W:Nat} (k:LS w lo d l h s f N ring seq pos W) (hl:lo≤l):∀ g,TL d l h g→lo≤g:=fun g e=>e.elim (fun e=>(k.lg.dk.Tlt g e).1) (fun e=>by omega)
/-- What Commit does, as the laws see it. -/
def CmP (lo d l:Nat) (h:Hn) (s:Dk) (f:SF) (N ring seq pos W:Nat) (ps:List (Int × Bs)) (w:World) (e:Ending) (w':World):Prop :=
 ∃ E s' h',e=.returned (.int .i64 E)∧Fr (TL d l h) w w'∧TT w (TL d l h) (TL d l h')∧h'.U=h.U ∧
  ((∃ f' seq' pos',LS w' lo d l h' s' f' N ring seq' pos' (W+400)∧(s.falls=0→s'.falls=0)∧s'.falls≤s.falls∧E=mayV (2+ring) N ring ps∧seq'=(if E=0∧ps ≠ [] then seq+1 else seq)∧homeL f' N (2+ring)=(if E=0 then appl (2+ring) (homeL f N (2+ring)) ps else homeL f N (2+ring))) ∨
   (E=12∧s.falls ≠ 0∧mayV (2+ring) N ring ps=0∧∃ nps f',ips nps=ps∧GoodP N ring nps∧s'.down=true∧At s' f'∧Mid f N ring seq pos nps f'∧DkOk w' lo d h' s'∧s'.n=N∧s'.mask.length≤1000000∧s'.writes≤W+400∧s'.falls≤s.falls))
theorem commitL_any (lo d l:Nat) (h:Hn) (s:Dk) (f:SF) (N ring seq pos W:Nat) (A:Option Addr) (n c:Nat) (ps:List (Int × Bs)) (w:World) (H:LS w lo d l h s f N ring seq pos W) (hlo:lo≤w.heap.size) (HP:PutsAt w (TL d l h) A n ps) (hc:n≤c) (hn:n≤150)
  (hd:∀ x ∈ ps,x.2.length=256) (hs:seq≤1000000) (hf:s.falls≤9223372036854775807) (hW:W≤700000000) :
  Calls Try.prog 14 #[.pointer (some ⟨l,0,none⟩),.slice A n c] w fun e w'=>CmP lo d l h s f N ring seq pos W ps w e w':=by
 have hpl:=HP.len
 have hN:=H.n
 have hr5:ring≤5000:=by have:=H.log.r2;have:=H.lg.dk.size;omega
 by_cases hk:mayV (2+ring) N ring ps ≠ 0∨n=0
 ·refine (commit_no lo d l h s ring seq pos (TL d l h) A n c ps w H.lg HP hc (by omega) hr5 (by rw [hN];exact hk)).mono ?_
  rintro e w' ⟨rfl,hb⟩
  rw [hN]
  refine ⟨_,s,h,rfl,Fr.of _ hb,TT.refl _ _,rfl,.inl ⟨f,seq,pos,(H.later hb).more (by omega),id,Nat.le_refl _,rfl,?_,?_⟩⟩
  ·rw [if_neg]
   rintro ⟨h1,h2⟩
   rcases hk with hk | hk
   ·exact hk h1
   ·exact h2 (List.eq_nil_of_length_eq_zero (by omega))
  ·by_cases h0:mayV (2+ring) N ring ps=0
   ·rw [if_pos h0]
    have:ps=[]:=by
     rcases hk with hk | hk
     ·exact absurd h0 hk
     ·exact List.eq_nil_of_length_eq_zero (by omega)
    rw [this]
    rfl
   ·rw [if_neg h0]
 ·have h0:mayV (2+ring) N ring ps=0:=Classical.byContradiction (fun e=>hk (.inl e))
  have hn0:n ≠ 0:=fun e=>hk (.inr e)
  have hne:ps ≠ []:=fun e=>by rw [e] at hpl;exact hn0 hpl.symm
  obtain ⟨nps,he,hg⟩:=may_good h0 hne (by omega) hd
  subst he
  refine (commit_go lo d l h s f ring seq pos A n c nps w H.lg hlo (HP.sub (fun g e=>.inl e)) hc H.ats H.up (by rw [hN];exact H.log) (by rw [hN];exact hg) (by rw [hN];exact h0) hs hf (by have:=H.wr;omega) H.mask).mono ?_
  rintro e w' ⟨E,s',h',rfl,⟨hbk,hE,hr⟩,H',hL,F,T,U⟩
  rw [hN] at hr
  refine ⟨E,s',h',rfl,F,TL.tt T,U,?_⟩
  rcases hr with ⟨rfl,hup,f',hat',hlog,hhome⟩ | ⟨rfl,hdn,f',hat',hmid⟩
  ·refine .inl ⟨f',seq+1,posN ring pos nps.length,⟨hL rfl,hat',hup,hbk.n.trans hN,by rw [hbk.mask];exact H.mask,hlog,by have:=hbk.writes;have:=H.wr;omega⟩,hbk.falls0,hbk.le,h0.symm,?_,?_⟩
   ·rw [if_pos ⟨rfl,hne⟩]
   ·rw [if_pos rfl,appl_home nps f (fun x hx=>(hg.home x hx).1)]
    exact homeL_congr hhome
  ·exact .inr ⟨rfl,fun e=>absurd (hE e) (by decide),h0,nps,f',rfl,hg,hdn,hat',hmid,H',hbk.n.trans hN,by rw [hbk.mask];exact H.mask,by have:=hbk.writes;have:=H.wr;omega,hbk.le⟩
end Go.Proofs.Ytdoanopeejeeiaa

/- wal's statements: a disk that may have fallen within a change. -/
namespace Go.Proofs.Ytdoanopeejeeiaa
set_option linter.all false
open Go.RowKit Go.Maps
/-- A disk, up or not; its sectors. -/
structure DS (w:World) (lo d:Nat) (h:Hn) (s:Dk) (f:SF) (N W:Nat):Prop where
 dk:DkOk w lo d h s
 ats:At s f
 n:s.n=N
 mask:s.mask.length≤1000000
 wr:s.writes≤W
 fr:∀ g,w.heap.size≤g→¬ h.U g
 fl:s.falls≤9223372036854775807
theorem DS.later {w w':World} {lo d:Nat} {h:Hn} {s:Dk} {f:SF} {N W:Nat} (k:DS w lo d h s f N W) (hb:Below w.heap.size w w'):DS w' lo d h s f N W:=⟨k.dk.later hb,k.ats,k.n,k.mask,k.wr,fun g hg=>k.fr g (Nat.le_trans hb.size hg),k.fl⟩
theorem DS.more {w:World} {lo d:Nat} {h:Hn} {s:Dk} {f:SF} {N W W':Nat} (k:DS w lo d h s f N W) (hw:W≤W'):DS w lo d h s f N W':=⟨k.dk,k.ats,k.n,k.mask,Nat.le_trans k.wr hw,k.fr,k.fl⟩
theorem LS.ds {w:World} {lo d l:Nat} {h:Hn} {s:Dk} {f:SF} {N ring seq pos W:Nat} (k:LS w lo d l h s f N ring seq pos W) (hf:s.falls≤9223372036854775807):DS w lo d h s f N W:=⟨k.lg.dk,k.ats,k.n,k.mask,k.wr,k.lg.hU,hf⟩
theorem At.same {s s':Dk} {f:SF} (h:At s f) (h1:s'.pend=s.pend) (h2:s'.now=s.now) (h3:s'.dur=s.dur):At s' f:=⟨h1.trans h.pend,by rw [h2];exact h.now,by rw [h3];exact h.dur⟩
theorem crashAtS_any (w:World) (lo d:Nat) (h:Hn) (s:Dk) (f:SF) (N W:Nat) (n:Int) (A:Option Addr) (m c:Nat) (bs:Bs) (H:DS w lo d h s f N W) (hr:RdB w w.heap.size A m bs) (hm:m≤1000000) (hn:n≤9223372036854775807) :
  Calls Try.prog 20 #[.pointer (some ⟨d,0,none⟩),.int .i64 n,.slice A m c] w fun e w'=>(∃ v,e=.returned v)∧∃ h',DS w' lo d h' { s with falls:=n.toNat,mask:=bs } f N W∧Fr (h.T d) w w'∧h'.T d=h.T d∧h'.U=h.U:=by
 refine (crashAt_any lo d h s n A m c bs w H.dk hr hm H.fr).mono ?_
 rintro e w' ⟨he,h',H',F,T,U⟩
 have hl:=hr.len
 exact ⟨he,h',⟨H',H.ats.same rfl rfl rfl,H.n,by show bs.length≤_;omega,H.wr,fun g hg=>by rw [U];exact H.fr g (Nat.le_trans F.size hg),by show n.toNat≤_;omega⟩,F,T,U⟩
theorem crashAtL_any (w:World) (lo d l:Nat) (h:Hn) (s:Dk) (f:SF) (N ring seq pos W:Nat) (n:Int) (A:Option Addr) (m c:Nat) (bs:Bs) (H:LS w lo d l h s f N ring seq pos W) (hr:RdB w w.heap.size A m bs) (hm:m≤1000000) :
  Calls Try.prog 20 #[.pointer (some ⟨d,0,none⟩),.int .i64 n,.slice A m c] w fun e w'=>(∃ v,e=.returned v)∧∃ h',LS w' lo d l h' { s with falls:=n.toNat,mask:=bs } f N ring seq pos W∧Fr (h.T d) w w'∧h'.T d=h.T d∧h'.U=h.U:=by
 refine (crashAt_any lo d h s n A m c bs w H.lg.dk hr hm H.lg.hU).mono ?_
 rintro e w' ⟨he,h',H',F,T,U⟩
 have hl:=hr.len
 exact ⟨he,h',⟨H.lg.step H' F (by rw [T];exact TT.refl _ _) U,H.ats.same rfl rfl rfl,H.up,H.n,by show bs.length≤_;omega,H.log,H.wr⟩,F,T,U⟩
theorem rebootS_any (w:World) (lo d:Nat) (h:Hn) (s:Dk) (f:SF) (N W:Nat) (H:DS w lo d h s f N W) :
  Calls Try.prog 21 #[.pointer (some ⟨d,0,none⟩)] w fun e w'=>(∃ v,e=.returned v)∧DS w' lo d h { s with down:=false } f N W∧Fr (h.T d) w w':=by
 refine (rebootD_any lo d h s w H.dk).mono ?_
 rintro e w' ⟨he,H',F⟩
 exact ⟨he,⟨H',H.ats.same rfl rfl rfl,H.n,H.mask,H.wr,fun g hg=>H.fr g (Nat.le_trans F.size hg),H.fl⟩,F⟩
theorem crash_at {s:Dk} {f:SF} (h:At s f) (m:Bs):At (crashS s m) f:=by
 unfold crashS
 cases hd:s.down with
 | true=>exact h
 | false =>
  rw [h.pend]
  exact ⟨rfl,h.dur,h.dur⟩
theorem crashS_same (s:Dk) (m:Bs):(crashS s m).n=s.n∧(crashS s m).mask=s.mask∧(crashS s m).writes=s.writes∧(crashS s m).falls=s.falls:=by
 unfold crashS
 cases s.down <;> exact ⟨rfl,rfl,rfl,rfl⟩
theorem RowAt.low {w:World} {B n:Nat} {A:Option Addr} {bs:Bs} {T:Nat→Prop} (h:RdB w B A n bs) (hT:∀ g,T g→B≤g) (hB:B≤w.heap.size):RowAt w T A n bs :=
 ⟨h.len,fun hn=>by
  obtain ⟨b,o,e,hlt,-⟩:=h.at_ hn
  exact ⟨b,o,e,fun q=>by have:=hT b q;omega,by omega⟩,Rd.more h hB⟩
theorem crashDS_any (w:World) (lo d:Nat) (h:Hn) (s:Dk) (f:SF) (N W:Nat) (n c:Nat) (A:Option Addr) (m:Bs) (H:DS w lo d h s f N W) (hlo:lo≤w.heap.size) (hm:RdB w lo A n m) (hn:n≤1000000) :
  Calls Try.prog 24 #[.pointer (some ⟨d,0,none⟩),.slice A n c] w fun e w'=>(∃ v,e=.returned v)∧∃ s' h',DS w' lo d h' s' f N W∧s'.falls=s.falls∧Fr (h.T d) w w'∧TT w (h.T d) (h'.T d)∧h'.U=h.U:=by
 have hr:RowAt w (h.T d) A n m:=RowAt.low hm (fun g hg=>(H.dk.Tlt g hg).1) hlo
 refine (crashD_any lo d h s n c A m w H.dk hlo hr hn (by rw [H.ats.pend];exact Nat.zero_le _)).mono ?_
 rintro e w' ⟨he,h',H',F,T,U⟩
 obtain ⟨q1,q2,q3,q4⟩:=crashS_same s m
 exact ⟨he,_,h',⟨H',crash_at H.ats m,q1.trans H.n,by rw [q2];exact H.mask,by rw [q3];exact H.wr,fun g hg=>by rw [U];exact H.fr g (Nat.le_trans F.size hg),by rw [q4];exact H.fl⟩,q4,F,T,U⟩
/-- What an opening leaves, as the laws see it. -/
def OpT (lo d:Nat) (h:Hn) (s:Dk) (N ring:Nat) (was:SF) (ps:List (Nat × Bs)) (S:Nat) (ok:Bool) (W:Nat) (w:World) (e:Ending) (w':World):Prop :=
 ∃ p R E s' h' f',e=.returned (.tuple #[p,.bool R,.int .i64 E])∧DS w' lo d h' s' f' N (W+200)∧T2 N ring was ps S ok f'∧Fr (h.T d) w w'∧TT w (h.T d) (h'.T d)∧(s.falls=0→E=0∧s'.falls=0) ∧
  (E=0→∃ l seq pos,p=.pointer (some ⟨l,0,none⟩)∧lo≤l∧LS w' lo d l h' s' f' N ring seq pos (W+200)∧seq≤S+1∧((∀ j,2+ring≤j→f' j=layL was ps j)∨(ok=false∧∀ j,2+ring≤j→f' j=was j)))
theorem openT_any (w:World) (lo d:Nat) (h:Hn) (s:Dk) (f:SF) (N W ring:Nat) (was:SF) (ps:List (Nat × Bs)) (S:Nat) (ok:Bool) (H:DS w lo d h s f N W) (hlo:lo≤w.heap.size) (hup:s.down=false) (hT:T2 N ring was ps S ok f) (hS:S≤100000) (hW:W≤700000000) :
  Calls Try.prog 9 #[.pointer (some ⟨d,0,none⟩)] w fun e w'=>OpT lo d h s N ring was ps S ok W w e w':=by
 have hN:=H.n
 have one:∀ seq pos,LogA f N ring seq pos→seq≤S+1→((∀ j,2+ring≤j→f j=layL was ps j)∨(ok=false∧∀ j,2+ring≤j→f j=was j))→Calls Try.prog 9 #[.pointer (some ⟨d,0,none⟩)] w fun e w'=>OpT lo d h s N ring was ps S ok W w e w':=by
  intro seq pos hA hs hc
  refine (openA_any lo d h s f ring seq pos w H.dk H.ats hup (by rw [hN];exact hA) (by omega)).mono ?_
  rintro e w' ⟨l,h',rfl,L,hTT,hl,hb⟩
  have HL:LS w' lo d l h' s f N ring seq pos (W+200):=⟨L,H.ats,hup,hN,H.mask,hA,by have:=H.wr;omega⟩
  exact ⟨_,_,_,s,h',f,rfl,HL.ds H.fl,hT,Fr.of _ hb,by rw [hTT];exact TT.refl _ _,fun e=>⟨rfl,e⟩,fun _=>⟨l,seq,pos,rfl,by omega,HL,hs,hc⟩⟩
 rcases hT with ⟨hk,seq,pos,hA,hs,hj⟩ | ⟨hk,seq,pos,hB,hs,hj⟩ | ⟨seq,pos,hA,hs,hj⟩
 ·exact one seq pos hA (by omega) (.inr ⟨hk,hj⟩)
 ·refine (openB_any lo d h s f ring seq pos ps w H.dk hlo H.ats hup (by rw [hN];exact hB) (by omega) H.fl (by have:=H.wr;omega) H.mask).mono ?_
  rintro e w' ⟨l,R,E,s',h',rfl,⟨hbk,hE,hr⟩,H',hL,F,T,U,hll⟩
  rw [hN] at hr
  have hwr:s'.writes≤W+200:=by have:=hbk.writes;have:=H.wr;omega
  have hmk:s'.mask.length≤1000000:=by rw [hbk.mask];exact H.mask
  have hfl:s'.falls≤9223372036854775807:=Nat.le_trans hbk.le H.fl
  rcases hr with ⟨rfl,rfl,hup',f',hat',hlog,hhome⟩ | ⟨rfl,hdn,f',hat',hmid⟩
  ·have hh:∀ j,2+ring≤j→f' j=layL was ps j:=fun j hj'=>(hhome j hj').trans (layL_mix hB.good hj j hj')
   have HL:LS w' lo d l h' s' f' N ring (seq+1) (posN ring pos ps.length) (W+200):=⟨hL rfl,hat',hup',hbk.n.trans hN,hmk,hlog,hwr⟩
   exact ⟨_,_,_,s',h',f',rfl,HL.ds hfl,.inr (.inr ⟨_,_,hlog,by omega,hh⟩),F,T,fun e=>⟨rfl,hbk.falls0 e⟩,fun _=>⟨l,_,_,rfl,by omega,HL,by omega,.inl hh⟩⟩
  ·refine ⟨_,_,_,s',h',f',rfl,⟨H',hat',hbk.n.trans hN,hmk,hwr,U,hfl⟩,?_,F,T,fun e=>absurd (hE e) (by decide),fun e=>absurd e (by decide)⟩
   rw [hk]
   exact hmid.t2 hB.good hs hj
 ·exact one seq pos hA hs (.inl hj)
end Go.Proofs.Ytdoanopeejeeiaa

