/- XWln -/
import Derived.Test.YtdoanopeejeeiaaMj42
namespace Go.Proofs.Ytdoanopeejeeiaa
set_option linter.all false
open Go.RowKit Go.Maps
/-- The blocks of a disk and its log. -/
def TL (d l:Nat) (h:Hn):Nat→Prop:=fun g=>h.T d g∨g=l
theorem TL.tt {w:World} {d l:Nat} {h h':Hn} (k:TT w (h.T d) (h'.T d)):TT w (TL d l h) (TL d l h'):=fun g hg=>hg.elim (fun e=>(k g e).imp .inl id) (fun e=>.inl (.inr e))
/-- A log upon a disk, that is up. -/
structure LS (w:World) (lo d l:Nat) (h:Hn) (s:Dk) (f:SF) (N ring seq pos W:Nat):Prop where
 lg:LgOk w lo d l h s ring seq pos
 ats:At s f
 up:s.down=false
 n:s.n=N
 mask:s.mask.length≤1000000
 log:LogA f N ring seq pos
 wr:s.writes≤W
theorem LS.later {w w':World} {lo d l:Nat} {h:Hn} {s:Dk} {f:SF} {N ring seq pos W:Nat} (k:LS w lo d l h s f N ring seq pos W) (hb:Below w.heap.size w w'):LS w' lo d l h s f N ring seq pos W:=⟨k.lg.later hb,k.ats,k.up,k.n,k.mask,k.log,k.wr⟩
theorem LS.more {w:World} {lo d l:Nat} {h:Hn} {s:Dk} {f:SF} {N ring seq pos W W':Nat} (k:LS w lo d l h s f N ring seq pos W) (hw:W≤W'):LS w lo d l h s f N ring seq pos W':=⟨k.lg,k.ats,k.up,k.n,k.mask,k.log,Nat.le_trans k.wr hw⟩
theorem LS.fresh {w:World} {lo d l:Nat} {h:Hn} {s:Dk} {f:SF} {N ring seq pos W:Nat} (k:LS w lo d l h s f N ring seq pos W):∀ g,w.heap.size≤g→¬ TL d l h g:=fun g hg e=>e.elim (k.lg.dk.fresh g hg) (fun e=>by have:=k.lg.lg.lt;omega)
theorem LS.low {w:World} {lo d l:Nat} {h:Hn} {s:Dk} {f:SF} {N ring seq pos W:Nat} (k:LS w lo d l h s f N ring seq pos W) (hl:lo≤l):∀ g,TL d l h g→lo≤g:=fun g e=>e.elim (fun e=>(k.lg.dk.Tlt g e).1) (fun e=>by omega)
/-- What Commit does, as the laws see it. -/
def CmP (lo d l:Nat) (h:Hn) (s:Dk) (f:SF) (N ring seq pos W:Nat) (ps:List (Int × Bs)) (w:World) (e:Ending) (w':World):Prop :=
 ∃ E s' h',e=.returned (.int .i64 E)∧Fr (TL d l h) w w'∧TT w (TL d l h) (TL d l h')∧h'.U=h.U ∧
  ((∃ f' seq' pos',LS w' lo d l h' s' f' N ring seq' pos' (W+400)∧(s.falls=0→s'.falls=0)∧s'.falls≤s.falls∧E=mayV (2+ring) N ring ps∧seq'=(if E=0∧ps ≠ [] then seq+1 else seq)∧homeL f' N (2+ring)=(if E=0 then appl (2+ring) (homeL f N (2+ring)) ps else homeL f N (2+ring))) ∨
   (E=12∧s.falls ≠ 0∧mayV (2+ring) N ring ps=0∧∃ nps f',ips nps=ps∧GoodP N ring nps∧s'.down=true∧At s' f'∧Mid f N ring seq pos nps f'∧DkOk w' lo d h' s'∧s'.n=N∧s'.mask.length≤1000000∧s'.writes≤W+400∧s'.falls≤s.falls))
theorem commitL_any (lo d l:Nat) (h:Hn) (s:Dk) (f:SF) (N ring seq pos W:Nat) (A:Option Addr) (n c:Nat) (ps:List (Int × Bs)) (w:World) (H:LS w lo d l h s f N ring seq pos W) (hlo:lo≤w.heap.size) (HP:PutsAt w (TL d l h) A n ps) (hc:n≤c) (hn:n≤150)
  (hd:∀ x ∈ ps,x.2.length=256) (hs:seq≤1000000) (hf:s.falls≤9223372036854775807) (hW:W≤700000000) :
  Calls Try.prog 14 #[.pointer (some ⟨l,0,none⟩),.slice A n c] w fun e w'=>CmP lo d l h s f N ring seq pos W ps w e w':=by
 have hpl:=HP.len
 have hN:=H.n
 have hr5:ring≤5000:=by have:=H.log.r2;have:=H.lg.dk.size;omega
 by_cases hk:mayV (2+ring) N ring ps ≠ 0∨n=0
 ·refine (commit_no lo d l h s ring seq pos (TL d l h) A n c ps w H.lg HP hc (by omega) hr5 (by rw [hN];exact hk)).mono ?_
  rintro e w' ⟨rfl,hb⟩
  rw [hN]
  refine ⟨_,s,h,rfl,Fr.of _ hb,TT.refl _ _,rfl,.inl ⟨f,seq,pos,(H.later hb).more (by omega),id,Nat.le_refl _,rfl,?_,?_⟩⟩
  ·rw [if_neg]
   rintro ⟨h1,h2⟩
   rcases hk with hk | hk
   ·exact hk h1
   ·exact h2 (List.eq_nil_of_length_eq_zero (by omega))
  ·by_cases h0:mayV (2+ring) N ring ps=0
   ·rw [if_pos h0]
    have:ps=[]:=by
     rcases hk with hk | hk
     ·exact absurd h0 hk
     ·exact List.eq_nil_of_length_eq_zero (by omega)
    rw [this]
    rfl
   ·rw [if_neg h0]
 ·have h0:mayV (2+ring) N ring ps=0:=Classical.byContradiction (fun e=>hk (.inl e))
  have hn0:n ≠ 0:=fun e=>hk (.inr e)
  have hne:ps ≠ []:=fun e=>by rw [e] at hpl;exact hn0 hpl.symm
  obtain ⟨nps,he,hg⟩:=may_good h0 hne (by omega) hd
  subst he
  refine (commit_go lo d l h s f ring seq pos A n c nps w H.lg hlo (HP.sub (fun g e=>.inl e)) hc H.ats H.up (by rw [hN];exact H.log) (by rw [hN];exact hg) (by rw [hN];exact h0) hs hf (by have:=H.wr;omega) H.mask).mono ?_
  rintro e w' ⟨E,s',h',rfl,⟨hbk,hE,hr⟩,H',hL,F,T,U⟩
  rw [hN] at hr
  refine ⟨E,s',h',rfl,F,TL.tt T,U,?_⟩
  rcases hr with ⟨rfl,hup,f',hat',hlog,hhome⟩ | ⟨rfl,hdn,f',hat',hmid⟩
  ·refine .inl ⟨f',seq+1,posN ring pos nps.length,⟨hL rfl,hat',hup,hbk.n.trans hN,by rw [hbk.mask];exact H.mask,hlog,by have:=hbk.writes;have:=H.wr;omega⟩,hbk.falls0,hbk.le,h0.symm,?_,?_⟩
   ·rw [if_pos ⟨rfl,hne⟩]
   ·rw [if_pos rfl,appl_home nps f (fun x hx=>(hg.home x hx).1)]
    exact homeL_congr hhome
  ·exact .inr ⟨rfl,fun e=>absurd (hE e) (by decide),h0,nps,f',rfl,hg,hdn,hat',hmid,H',hbk.n.trans hN,by rw [hbk.mask];exact H.mask,by have:=hbk.writes;have:=H.wr;omega,hbk.le⟩
end Go.Proofs.Ytdoanopeejeeiaa

