/- XWlr XWlq XWalQuietP -/
import Derived.Test.YtdoanopeejeeiaaMk44
import Derived.Test.YtdoanopeejeeiaaMk02
namespace Go.Proofs.Ytdoanopeejeeiaa
set_option linter.all false
open Go.RowKit Go.Maps
/-- A disk that is new, formatted. -/
theorem fmtL_any (N ring lo d:Nat) (h:Hn) (w:World) (H:DkOk w lo d h (newD N)) (hlo:lo≤w.heap.size) (hU:∀ g,¬ h.U g) (h1:1≤ring) (h2:ring+4≤N):Calls Try.prog 8 #[.pointer (some ⟨d,0,none⟩),.int .i64 (ring:Int)] w fun e w'=>∃ s' h',e=.returned (.int .i64 0)∧s'.n=N∧s'.mask=[]∧s'.writes≤2∧s'.falls=0∧s'.down=false∧At s' (layL (fun _=>zeros) [(0,headB ring 1 0),(1,zeros)])∧DkOk w' lo d h' s'∧Fr (h.T d) w w'∧TT w (h.T d) (h'.T d)∧h'.U=h.U:=by
 refine (formatW_ok lo d h (newD N) (fun _=>zeros) ring w H hlo (At.newD N) rfl h1 h2 (Nat.zero_le _) (Nat.zero_le _) (Nat.zero_le _) (fun g _=>hU g)).mono ?_
 rintro e w' ⟨E,s',h',rfl,r,H',F,T,U⟩
 obtain ⟨hf0,rfl⟩:=r.falls rfl
 obtain ⟨-,hd,ha⟩:=r.res.resolve_right (fun h=>absurd h.1 (by decide))
 exact ⟨s',h',rfl,r.n,r.mask,r.writes,hf0,hd,ha,H',F,T,U⟩
/-- Open, as the laws see it, where nothing is to be redone. -/
theorem openL_any (w:World) (lo d l:Nat) (h:Hn) (s:Dk) (f:SF) (N ring seq pos W:Nat) (H:LS w lo d l h s f N ring seq pos W) (hs:seq≤1000000):Calls Try.prog 9 #[.pointer (some ⟨d,0,none⟩)] w fun e w'=>∃ l' h',e=.returned (.tuple #[.pointer (some ⟨l',0,none⟩),.bool false,.int .i64 0])∧LS w' lo d l' h' s f N ring seq pos W∧h'.T d=h.T d∧w.heap.size≤l'∧Below w.heap.size w w':=by
 refine (openA_any lo d h s f ring seq pos w H.lg.dk H.ats H.up (by rw [H.n];exact H.log) hs).mono ?_
 rintro e w' ⟨l',h',rfl,L,hT,hl,hb⟩
 exact ⟨l',h',rfl,⟨L,H.ats,H.up,H.n,H.mask,H.log,H.wr⟩,hT,hl,hb⟩
theorem sectL_any (w:World) (lo d l:Nat) (h:Hn) (s:Dk) (f:SF) (N ring seq pos W:Nat) (H:LS w lo d l h s f N ring seq pos W) (hm:Nat) (hhm:2+ring=hm):Calls Try.prog 11 #[.pointer (some ⟨d,0,none⟩),.int .i64 (hm:Int)] w fun e w'=>∃ A n c,e=.returned (.slice A n c)∧SecL w' (TL d l h) A n (homeL f N hm)∧n≤c∧c≤maxLen∧Below w.heap.size w w':=by
 subst hhm
 have:=sectorsW_any lo d (2+ring) h s f (TL d l h) w H.lg.dk H.ats H.fresh H.mask (by rw [H.n];have:=H.log.r2;omega)
 rw [H.n] at this
 exact this
theorem listsE_any (T T':Nat→Prop) (A A':Option Addr) (n n' c c':Nat) (ls:List Bs) (w:World) (h:SecL w T A n ls) (h':SecL w T' A' n' ls) (hn:n≤5000) (hn':n'≤5000) :
  Calls Try.prog 18 #[.slice A n c,.slice A' n' c'] w fun e w'=>e=.returned (.bool true)∧Below w.heap.size w w':=by
 have:=listsW_any T T' A A' n n' c c' ls ls w h h' hn hn'
 rw [decide_eq_true (rfl:ls=ls)] at this
 exact this
end Go.Proofs.Ytdoanopeejeeiaa

/- wal's statements: names kept beside a disk; a change that may fall. -/
namespace Go.Proofs.Ytdoanopeejeeiaa
set_option linter.all false
open Go.RowKit Go.Maps
/-- A row beside the disk grows. -/
theorem DkOk.grow {w w':World} {lo d:Nat} {h:Hn} {s:Dk} {v v':Value} (k:DkOk w lo d h s) (hg:w.grownBy w' v.ownBlock) (hv:∀ g,v.ownBlock=some g→h.U g∧¬ h.T d g) (he:v'.ownBlock=v.ownBlock∨v'.ownBlock=some w.heap.size) :
  DkOk w' lo d { h with U:=fun g=>h.U g∨v'.ownBlock=some g } s:=by
 have F:Fr (fun g=>v.ownBlock=some g) w w':=Fr.gro2 hg (fun g e=>e)
 have h2:∀ g,h.T d g→¬ v.ownBlock=some g:=fun g hg e=>(hv g e).2 hg
 have FS:Fr (h.S d) w w':=F.mono (fun g e=>.inr (hv g e).1)
 have hS:TT w (h.S d) (Hn.S { h with U:=fun g=>h.U g∨v'.ownBlock=some g } d):=by
  rintro g (hg | hg | hg)
  ·exact .inl (.inl hg)
  ·exact .inl (.inr hg)
  ·rcases he with he | he
   ·rw [he] at hg;exact .inl (.inr (hv g hg).1)
   ·rw [he] at hg;injection hg with hg;exact .inr (by omega)
 exact { k with
  arr:=k.arr.fr F (h2 _ (.inl rfl))
  now:=k.now.fr FS hS (F.block _ k.now.lt (h2 _ (.inr (.inl rfl))))
  dur:=k.dur.fr FS hS (F.block _ k.dur.lt (h2 _ (.inr (.inr (.inl rfl)))))
  own:=k.own.frame F (fun g e=>h2 g (.inr (.inr (.inr e))))
  pr:=k.pr.fr FS hS
  mask:=k.mask.fr FS hS }
/-- Names that are kept beside a log. -/
def NmI (w:World) (lo d l:Nat) (h:Hn) (v:Value) (ns:List Int):Prop:=ownI w lo v ns∧∀ g,v.ownBlock=some g→h.U g∧¬ h.T d g∧g ≠ l
theorem NmI.nil_ (w:World) (lo d l:Nat) (h:Hn):NmI w lo d l h (.slice none 0 0) []:=⟨ownI.nil_ _ _,fun g e=>by cases e⟩
theorem NmI.fr {w w':World} {lo d l:Nat} {h h':Hn} {v:Value} {ns:List Int} (k:NmI w lo d l h v ns) (F:Fr (TL d l h) w w') (T:TT w (TL d l h) (TL d l h')) (U:h'.U=h.U):NmI w' lo d l h' v ns:=by
 have hn:∀ g,v.ownBlock=some g→¬ TL d l h g:=fun g e t=>t.elim (k.2 g e).2.1 (k.2 g e).2.2
 refine ⟨own_frame k.1 F hn,fun g e=>⟨by rw [U];exact (k.2 g e).1,fun t=>?_,(k.2 g e).2.2⟩⟩
 exact T.not (hn g e) (World.ownsRow.lt k.1 g e).2 (.inl t)
theorem NmI.later {w w':World} {lo d l:Nat} {h:Hn} {v:Value} {ns:List Int} (k:NmI w lo d l h v ns) (hb:Below w.heap.size w w'):NmI w' lo d l h v ns:=k.fr (Fr.of _ hb) (TT.refl _ _) rfl
theorem fresh_old {w w':World} {base:Nat} {v v':Value} {ns ns':List Int} {P:Nat→Prop} (h':ownI w' base v' ns') (hP:∀ g,w.heap.size≤g→¬ P g) (hs:w.heap.size≤w'.heap.size):∀ g,w'.heap.size≤g→¬ (P g∨v'.ownBlock=some g):=fun g hg e =>
 e.elim (hP g (by omega)) (fun e=>by have:=(World.ownsRow.lt h' g e).2;omega)
theorem NmI.not {w:World} {lo d l:Nat} {h:Hn} {v v':Value} {ns:List Int} (k:NmI w lo d l h v ns) (hT:∀ g,w.heap.size≤g→¬ h.T d g) (hl:l < w.heap.size) (he:v'.ownBlock=v.ownBlock∨v'.ownBlock=some w.heap.size):∀ g,v'.ownBlock=some g→¬ h.T d g∧g ≠ l:=fun g e=>by
 rcases he with he | he
 ·rw [he] at e;exact (k.2 g e).2
 ·rw [he] at e;injection e with e;subst e;exact ⟨hT _ (Nat.le_refl _),by omega⟩
/-- The disk with its log goes on where the names grow. -/
theorem LS.grow {w w':World} {lo d l:Nat} {h:Hn} {s:Dk} {f:SF} {N ring seq pos W:Nat} {v v':Value} {ns ns':List Int} (k:LS w lo d l h s f N ring seq pos W) (n:NmI w lo d l h v ns) (hg:w.grownBy w' v.ownBlock) (he:v'.ownBlock=v.ownBlock∨v'.ownBlock=some w.heap.size) (hn:ownI w' lo v' ns') :
  LS w' lo d l { h with U:=fun g=>h.U g∨v'.ownBlock=some g } s f N ring seq pos W:=by
 have F:Fr (fun g=>v.ownBlock=some g) w w':=Fr.gro2 hg (fun g e=>e)
 exact ⟨⟨k.lg.dk.grow hg (fun g e=>⟨(n.2 g e).1,(n.2 g e).2.1⟩) he,k.lg.lg.fr F (fun e=>(n.2 l e).2.2 rfl),k.lg.nt,.inl k.lg.u.1,fresh_old (v:=v) (ns:=ns) hn k.lg.u.2 F.size⟩,k.ats,k.up,k.n,k.mask,k.log,k.wr⟩
theorem DS.grow {w w':World} {lo d l:Nat} {h:Hn} {s:Dk} {f:SF} {N W:Nat} {v v':Value} {ns ns':List Int} (k:DS w lo d h s f N W) (n:NmI w lo d l h v ns) (hg:w.grownBy w' v.ownBlock) (he:v'.ownBlock=v.ownBlock∨v'.ownBlock=some w.heap.size) (hn:ownI w' lo v' ns') :
  DS w' lo d { h with U:=fun g=>h.U g∨v'.ownBlock=some g } s f N W:=by
 have F:Fr (fun g=>v.ownBlock=some g) w w':=Fr.gro2 hg (fun g e=>e)
 exact ⟨k.dk.grow hg (fun g e=>⟨(n.2 g e).1,(n.2 g e).2.1⟩) he,k.ats,k.n,k.mask,k.wr,fresh_old (v:=v) (ns:=ns) hn k.fr F.size,k.fl⟩
theorem NmI.grow {w w':World} {lo d l:Nat} {h:Hn} {v v':Value} {ns ns':List Int} (n:NmI w lo d l h v ns) (hT:∀ g,w.heap.size≤g→¬ h.T d g) (hl:l < w.heap.size) (he:v'.ownBlock=v.ownBlock∨v'.ownBlock=some w.heap.size) (hn:ownI w' lo v' ns') :
  NmI w' lo d l { h with U:=fun g=>h.U g∨v'.ownBlock=some g } v' ns':=⟨hn,fun g e=>⟨.inr e,n.not hT hl he g e⟩⟩
/-- Sectors read before stay, beside all that the disk avoids. -/
theorem SecL.grow {w w':World} {lo d l:Nat} {h:Hn} {v v':Value} {ns:List Int} {A:Option Addr} {m:Nat} {ls:List Bs} (k:SecL w (h.S d) A m ls) (n:NmI w lo d l h v ns) (hg:w.grownBy w' v.ownBlock) (he:v'.ownBlock=v.ownBlock∨v'.ownBlock=some w.heap.size) :
  SecL w' (Hn.S { h with U:=fun g=>h.U g∨v'.ownBlock=some g } d) A m ls:=by
 have F:Fr (fun g=>v.ownBlock=some g) w w':=Fr.gro2 hg (fun g e=>e)
 refine k.fr (F.mono (fun g e=>.inr (n.2 g e).1)) ?_
 rintro g (hg | hg | hg)
 ·exact .inl (.inl hg)
 ·exact .inl (.inr hg)
 ·rcases he with he | he
  ·rw [he] at hg;exact .inl (.inr (n.2 g hg).1)
  ·rw [he] at hg;injection hg with hg;exact .inr (by omega)
/-- What a change that may fall does. -/
def OutT (hm N:Nat) (E:Int) (ok:Bool) (f was:SF) (nps:List (Nat × Bs)) (f':SF) (ps:List (Int × Bs)):Prop :=
 ((E=0∨E=12)∧homeL (layL was nps) N hm=appl hm (homeL f N hm) ps∧(ok=false→E=12∧homeL was N hm=homeL f N hm)) ∨
  (E ≠ 0∧E ≠ 12∧ok=true∧homeL f' N hm=homeL f N hm∧homeL (layL was nps) N hm=homeL f N hm)
def CmT (lo d l:Nat) (h:Hn) (s:Dk) (f:SF) (N ring seq W:Nat) (ps:List (Int × Bs)) (w:World) (e:Ending) (w':World):Prop :=
 ∃ E s' h' f' was nps ok,e=.returned (.int .i64 E)∧Fr (TL d l h) w w'∧TT w (TL d l h) (TL d l h')∧h'.U=h.U∧DS w' lo d h' s' f' N (W+400)∧T2 N ring was nps (seq+1) ok f'∧OutT (2+ring) N E ok f was nps f' ps∧(E ≠ 12→s'.down=false)∧(E=12→s'.down=true)
theorem commitT_any (lo d l:Nat) (h:Hn) (s:Dk) (f:SF) (N ring seq pos W:Nat) (A:Option Addr) (n c:Nat) (ps:List (Int × Bs)) (w:World) (H:LS w lo d l h s f N ring seq pos W) (hlo:lo≤w.heap.size) (HP:PutsAt w (TL d l h) A n ps) (hc:n≤c) (hn:n≤150)
  (hd:∀ x ∈ ps,x.2.length=256) (hs:seq≤1000000) (hf:s.falls≤9223372036854775807) (hW:W≤700000000) :
  Calls Try.prog 14 #[.pointer (some ⟨l,0,none⟩),.slice A n c] w fun e w'=>CmT lo d l h s f N ring seq W ps w e w':=by
 have hU:=H.lg.hU
 refine (commitL_any lo d l h s f N ring seq pos W A n c ps w H hlo HP hc hn hd hs hf hW).mono ?_
 rintro e w' ⟨E,s',h',rfl,F,T,U,hr⟩
 rcases hr with ⟨f',seq',pos',L,hf0,hfl,hE,hseq,hhome⟩ | ⟨rfl,hf0,hmy,nps,f',hip,hg,hdn,hat,hmid,H',hn',hmk,hwr,hfl⟩
 ·have hlay:layL f' ([]:List (Nat × Bs))=f':=rfl
  have h2:T2 N ring f' [] (seq+1) true f':=.inr (.inr ⟨seq',pos',L.log,by rw [hseq];split <;> omega,fun j _=>rfl⟩)
  refine ⟨E,s',h',f',f',[],true,rfl,F,T,U,L.ds (Nat.le_trans hfl hf),h2,?_⟩
  have h12:E ≠ 12:=by rcases may_three (2+ring) N ring ps with q | ⟨q,-⟩ | ⟨q,-⟩ <;> rw [hE,q] <;> decide
  refine ⟨?_,fun _=>L.up,fun e=>absurd e h12⟩
  by_cases h0:E=0
  ·rw [if_pos h0] at hhome
   exact .inl ⟨.inl h0,hhome,fun e=>by cases e⟩
  ·rw [if_neg h0] at hhome
   exact .inr ⟨h0,h12,rfl,hhome,hhome⟩
 ·refine ⟨12,s',h',f',f,nps,false,rfl,F,T,U,⟨H',hat,hn',hmk,hwr,fun g hg'=>by rw [U];exact hU g (Nat.le_trans F.size hg'),Nat.le_trans hfl hf⟩,?_,.inl ⟨.inr rfl,?_,fun _=>⟨rfl,rfl⟩⟩,fun e=>absurd rfl e,fun _=>hdn⟩
  ·exact hmid.t2 hg (Nat.le_succ _)
  ·rw [← hip]
   exact (appl_home nps f (fun x hx=>(hg.home x hx).1)).symm
end Go.Proofs.Ytdoanopeejeeiaa

/- WalQuiet: what its first loop keeps. -/
namespace Go.Proofs.Ytdoanopeejeeiaa
set_option linter.all false
open Go.RowKit Go.Maps
theorem sectS_any (w:World) (lo d:Nat) (h:Hn) (s:Dk) (f:SF) (N W:Nat) (H:DS w lo d h s f N W) (hm:Nat) (hhm:hm≤N):Calls Try.prog 11 #[.pointer (some ⟨d,0,none⟩),.int .i64 (hm:Int)] w fun e w'=>∃ A n c,e=.returned (.slice A n c)∧SecL w' (h.S d) A n (homeL f N hm)∧n≤c∧c≤maxLen∧Below w.heap.size w w':=by
 have:=sectorsW_any lo d hm h s f (h.S d) w H.dk H.ats (H.dk.rest H.fr) H.mask (by rw [H.n];exact hhm)
 rw [H.n] at this
 exact this
end Go.Proofs.Ytdoanopeejeeiaa

