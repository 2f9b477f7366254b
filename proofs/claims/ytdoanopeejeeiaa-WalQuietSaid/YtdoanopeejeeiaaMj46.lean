/- XWlq -/
import Derived.Test.YtdoanopeejeeiaaMj45
import Derived.Test.YtdoanopeejeeiaaMj02
namespace Go.Proofs.Ytdoanopeejeeiaa
set_option linter.all false
open Go.RowKit Go.Maps
/-- A row beside the disk grows. -/
theorem DkOk.grow {w w':World} {lo d:Nat} {h:Hn} {s:Dk} {v v':Value} (k:DkOk w lo d h s) (hg:w.grownBy w' v.ownBlock) (hv:∀ g,v.ownBlock=some g→h.U g∧¬ h.T d g) (he:v'.ownBlock=v.ownBlock∨v'.ownBlock=some w.heap.size) :
  DkOk w' lo d { h with U:=fun g=>h.U g∨v'.ownBlock=some g } s:=by
 have F:Fr (fun g=>v.ownBlock=some g) w w':=Fr.gro2 hg (fun g e=>e)
 have h2:∀ g,h.T d g→¬ v.ownBlock=some g:=fun g hg e=>(hv g e).2 hg
 have FS:Fr (h.S d) w w':=F.mono (fun g e=>.inr (hv g e).1)
 have hS:TT w (h.S d) (Hn.S { h with U:=fun g=>h.U g∨v'.ownBlock=some g } d):=by
  rintro g (hg | hg | hg)
  ·exact .inl (.inl hg)
  ·exact .inl (.inr hg)
  ·rcases he with he | he
   ·rw [he] at hg;exact .inl (.inr (hv g hg).1)
   ·rw [he] at hg;injection hg with hg;exact .inr (by omega)
 exact { k with
  arr:=k.arr.fr F (h2 _ (.inl rfl))
  now:=k.now.fr FS hS (F.block _ k.now.lt (h2 _ (.inr (.inl rfl))))
  dur:=k.dur.fr FS hS (F.block _ k.dur.lt (h2 _ (.inr (.inr (.inl rfl)))))
  own:=k.own.frame F (fun g e=>h2 g (.inr (.inr (.inr e))))
  pr:=k.pr.fr FS hS
  mask:=k.mask.fr FS hS }
/-- Names that are kept beside a log. -/
def NmI (w:World) (lo d l:Nat) (h:Hn) (v:Value) (ns:List Int):Prop:=ownI w lo v ns∧∀ g,v.ownBlock=some g→h.U g∧¬ h.T d g∧g ≠ l
theorem NmI.nil_ (w:World) (lo d l:Nat) (h:Hn):NmI w lo d l h (.slice none 0 0) []:=⟨ownI.nil_ _ _,fun g e=>by cases e⟩
theorem NmI.fr {w w':World} {lo d l:Nat} {h h':Hn} {v:Value} {ns:List Int} (k:NmI w lo d l h v ns) (F:Fr (TL d l h) w w') (T:TT w (TL d l h) (TL d l h')) (U:h'.U=h.U):NmI w' lo d l h' v ns:=by
 have hn:∀ g,v.ownBlock=some g→¬ TL d l h g:=fun g e t=>t.elim (k.2 g e).2.1 (k.2 g e).2.2
 refine ⟨own_frame k.1 F hn,fun g e=>⟨by rw [U];exact (k.2 g e).1,fun t=>?_,(k.2 g e).2.2⟩⟩
 exact T.not (hn g e) (World.ownsRow.lt k.1 g e).2 (.inl t)
theorem NmI.later {w w':World} {lo d l:Nat} {h:Hn} {v:Value} {ns:List Int} (k:NmI w lo d l h v ns) (hb:Below w.heap.size w w'):NmI w' lo d l h v ns:=k.fr (Fr.of _ hb) (TT.refl _ _) rfl
theorem fresh_old {w w':World} {base:Nat} {v v':Value} {ns ns':List Int} {P:Nat→Prop} (h':ownI w' base v' ns') (hP:∀ g,w.heap.size≤g→¬ P g) (hs:w.heap.size≤w'.heap.size):∀ g,w'.heap.size≤g→¬ (P g∨v'.ownBlock=some g):=fun g hg e =>
 e.elim (hP g (by omega)) (fun e=>by have:=(World.ownsRow.lt h' g e).2;omega)
theorem NmI.not {w:World} {lo d l:Nat} {h:Hn} {v v':Value} {ns:List Int} (k:NmI w lo d l h v ns) (hT:∀ g,w.heap.size≤g→¬ h.T d g) (hl:l < w.heap.size) (he:v'.ownBlock=v.ownBlock∨v'.ownBlock=some w.heap.size):∀ g,v'.ownBlock=some g→¬ h.T d g∧g ≠ l:=fun g e=>by
 rcases he with he | he
 ·rw [he] at e;exact (k.2 g e).2
 ·rw [he] at e;injection e with e;subst e;exact ⟨hT _ (Nat.le_refl _),by omega⟩
/-- The disk with its log goes on where the names grow. -/
theorem LS.grow {w w':World} {lo d l:Nat} {h:Hn} {s:Dk} {f:SF} {N ring seq pos W:Nat} {v v':Value} {ns ns':List Int} (k:LS w lo d l h s f N ring seq pos W) (n:NmI w lo d l h v ns) (hg:w.grownBy w' v.ownBlock) (he:v'.ownBlock=v.ownBlock∨v'.ownBlock=some w.heap.size) (hn:ownI w' lo v' ns') :
  LS w' lo d l { h with U:=fun g=>h.U g∨v'.ownBlock=some g } s f N ring seq pos W:=by
 have F:Fr (fun g=>v.ownBlock=some g) w w':=Fr.gro2 hg (fun g e=>e)
 exact ⟨⟨k.lg.dk.grow hg (fun g e=>⟨(n.2 g e).1,(n.2 g e).2.1⟩) he,k.lg.lg.fr F (fun e=>(n.2 l e).2.2 rfl),k.lg.nt,.inl k.lg.u.1,fresh_old (v:=v) (ns:=ns) hn k.lg.u.2 F.size⟩,k.ats,k.up,k.n,k.mask,k.log,k.wr⟩
theorem DS.grow {w w':World} {lo d l:Nat} {h:Hn} {s:Dk} {f:SF} {N W:Nat} {v v':Value} {ns ns':List Int} (k:DS w lo d h s f N W) (n:NmI w lo d l h v ns) (hg:w.grownBy w' v.ownBlock) (he:v'.ownBlock=v.ownBlock∨v'.ownBlock=some w.heap.size) (hn:ownI w' lo v' ns') :
  DS w' lo d { h with U:=fun g=>h.U g∨v'.ownBlock=some g } s f N W:=by
 have F:Fr (fun g=>v.ownBlock=some g) w w':=Fr.gro2 hg (fun g e=>e)
 exact ⟨k.dk.grow hg (fun g e=>⟨(n.2 g e).1,(n.2 g e).2.1⟩) he,k.ats,k.n,k.mask,k.wr,fresh_old (v:=v) (ns:=ns) hn k.fr F.size,k.fl⟩
theorem NmI.grow {w w':World} {lo d l:Nat} {h:Hn} {v v':Value} {ns ns':List Int} (n:NmI w lo d l h v ns) (hT:∀ g,w.heap.size≤g→¬ h.T d g) (hl:l < w.heap.size) (he:v'.ownBlock=v.ownBlock∨v'.ownBlock=some w.heap.size) (hn:ownI w' lo v' ns') :
  NmI w' lo d l { h with U:=fun g=>h.U g∨v'.ownBlock=some g } v' ns':=⟨hn,fun g e=>⟨.inr e,n.not hT hl he g e⟩⟩
/-- Sectors read before stay, beside all that the disk avoids. -/
theorem SecL.grow {w w':World} {lo d l:Nat} {h:Hn} {v v':Value} {ns:List Int} {A:Option Addr} {m:Nat} {ls:List Bs} (k:SecL w (h.S d) A m ls) (n:NmI w lo d l h v ns) (hg:w.grownBy w' v.ownBlock) (he:v'.ownBlock=v.ownBlock∨v'.ownBlock=some w.heap.size) :
  SecL w' (Hn.S { h with U:=fun g=>h.U g∨v'.ownBlock=some g } d) A m ls:=by
 have F:Fr (fun g=>v.ownBlock=some g) w w':=Fr.gro2 hg (fun g e=>e)
 refine k.fr (F.mono (fun g e=>.inr (n.2 g e).1)) ?_
 rintro g (hg | hg | hg)
 ·exact .inl (.inl hg)
 ·exact .inl (.inr hg)
 ·rcases he with he | he
  ·rw [he] at hg;exact .inl (.inr (n.2 g hg).1)
  ·rw [he] at hg;injection hg with hg;exact .inr (by omega)
theorem SecL.frL {w w':World} {d l:Nat} {h h':Hn} {A:Option Addr} {m:Nat} {ls:List Bs} (k:SecL w (h.S d) A m ls) (hl:h.U l) (F:Fr (TL d l h) w w') (T:TT w (TL d l h) (TL d l h')) (U:h'.U=h.U):SecL w' (h'.S d) A m ls:=by
 refine k.fr (F.mono (fun g e=>e.elim .inl (fun e=>.inr (by rw [e];exact hl)))) ?_
 rintro g (hg | hg)
 ·rcases T g (.inl hg) with (e | e) | e
  ·exact .inl (.inl e)
  ·exact .inl (.inr (by rw [e];exact hl))
  ·exact .inr e
 ·rw [U] at hg;exact .inl (.inr hg)
/-- What is not named stays. -/
def Qx (hm:Nat) (ns:List Int) (l0 l1:List Bs):Prop:=l1.length=l0.length∧∀ k:Nat,(∀ x ∈ ns,x ≠ ((hm+k:Nat):Int))→l1[k]?=l0[k]?
theorem Qx.refl (hm:Nat) (ns:List Int) (l:List Bs):Qx hm ns l l:=⟨rfl,fun _ _=>rfl⟩
theorem Qx.of_eq (hm:Nat) (ns:List Int) {l l':List Bs} (e:l'=l):Qx hm ns l l':=by rw [e];exact Qx.refl _ _ _
theorem Qx.trans {hm:Nat} {n1 n2:List Int} {a b c:List Bs} (h:Qx hm n1 a b) (k:Qx hm n2 b c):Qx hm (n1 ++ n2) a c :=
 ⟨k.1.trans h.1,fun i hi=>(k.2 i (fun x hx=>hi x (List.mem_append_right _ hx))).trans (h.2 i (fun x hx=>hi x (List.mem_append_left _ hx)))⟩
theorem appl1_quiet (hm:Nat) (ls:List Bs) (x:Int × Bs):Qx hm [x.1] ls (appl1 hm ls x):=by
 refine ⟨appl1_len _ _ _,fun k hk=>?_⟩
 have hx:=hk x.1 List.mem_cons_self
 unfold appl1
 split
 ·rw [List.getElem?_set_ne (by omega)]
 ·rfl
theorem appl_quiet (hm:Nat):∀ (ps:List (Int × Bs)) (ls:List Bs),Qx hm (ps.map (·.1)) ls (appl hm ls ps)
 | [],ls=>Qx.refl _ _ _
 | x :: ps,ls=>(appl1_quiet hm ls x).trans (appl_quiet hm ps _)
theorem putsV_keys (ats:List Int) (cs:Bs):(putsV ats cs).map (·.1)=ats:=by
 apply List.ext_getElem?
 intro i
 unfold putsV
 rw [List.getElem?_map,List.getElem?_mapIdx]
 cases ats[i]? <;> rfl
/-- What a change that may fall does. -/
def OutT (hm N:Nat) (E:Int) (ok:Bool) (f was:SF) (nps:List (Nat × Bs)) (f':SF) (ps:List (Int × Bs)):Prop :=
 ((E=0∨E=12)∧homeL (layL was nps) N hm=appl hm (homeL f N hm) ps∧(ok=false→E=12∧homeL was N hm=homeL f N hm)) ∨
  (E ≠ 0∧E ≠ 12∧ok=true∧homeL f' N hm=homeL f N hm∧homeL (layL was nps) N hm=homeL f N hm)
def CmT (lo d l:Nat) (h:Hn) (s:Dk) (f:SF) (N ring seq W:Nat) (ps:List (Int × Bs)) (w:World) (e:Ending) (w':World):Prop :=
 ∃ E s' h' f' was nps ok,e=.returned (.int .i64 E)∧Fr (TL d l h) w w'∧TT w (TL d l h) (TL d l h')∧h'.U=h.U∧DS w' lo d h' s' f' N (W+400)∧T2 N ring was nps (seq+1) ok f'∧OutT (2+ring) N E ok f was nps f' ps
theorem commitT_any (lo d l:Nat) (h:Hn) (s:Dk) (f:SF) (N ring seq pos W:Nat) (A:Option Addr) (n c:Nat) (ps:List (Int × Bs)) (w:World) (H:LS w lo d l h s f N ring seq pos W) (hlo:lo≤w.heap.size) (HP:PutsAt w (TL d l h) A n ps) (hc:n≤c) (hn:n≤150)
  (hd:∀ x ∈ ps,x.2.length=256) (hs:seq≤1000000) (hf:s.falls≤9223372036854775807) (hW:W≤700000000) :
  Calls Try.prog 14 #[.pointer (some ⟨l,0,none⟩),.slice A n c] w fun e w'=>CmT lo d l h s f N ring seq W ps w e w':=by
 have hU:=H.lg.hU
 refine (commitL_any lo d l h s f N ring seq pos W A n c ps w H hlo HP hc hn hd hs hf hW).mono ?_
 rintro e w' ⟨E,s',h',rfl,F,T,U,hr⟩
 rcases hr with ⟨f',seq',pos',L,hf0,hfl,hE,hseq,hhome⟩ | ⟨rfl,hf0,hmy,nps,f',hip,hg,hdn,hat,hmid,H',hn',hmk,hwr,hfl⟩
 ·have hlay:layL f' ([]:List (Nat × Bs))=f':=rfl
  have h2:T2 N ring f' [] (seq+1) true f':=.inr (.inr ⟨seq',pos',L.log,by rw [hseq];split <;> omega,fun j _=>rfl⟩)
  refine ⟨E,s',h',f',f',[],true,rfl,F,T,U,L.ds (Nat.le_trans hfl hf),h2,?_⟩
  by_cases h0:E=0
  ·rw [if_pos h0] at hhome
   exact .inl ⟨.inl h0,hhome,fun e=>by cases e⟩
  ·rw [if_neg h0] at hhome
   refine .inr ⟨h0,?_,rfl,hhome,hhome⟩
   rcases may_three (2+ring) N ring ps with q | ⟨q,-⟩ | ⟨q,-⟩ <;> rw [hE,q] <;> decide
 ·refine ⟨12,s',h',f',f,nps,false,rfl,F,T,U,⟨H',hat,hn',hmk,hwr,fun g hg'=>by rw [U];exact hU g (Nat.le_trans F.size hg'),Nat.le_trans hfl hf⟩,?_,.inl ⟨.inr rfl,?_,fun _=>⟨rfl,rfl⟩⟩⟩
  ·exact hmid.t2 hg (Nat.le_succ _)
  ·rw [← hip]
   exact (appl_home nps f (fun x hx=>(hg.home x hx).1)).symm
theorem OutT.quiet {hm N:Nat} {E:Int} {ok:Bool} {f was:SF} {nps:List (Nat × Bs)} {f':SF} {ps:List (Int × Bs)} (h:OutT hm N E ok f was nps f' ps):Qx hm (ps.map (·.1)) (homeL f N hm) (homeL (layL was nps) N hm)∧(ok=false→Qx hm (ps.map (·.1)) (homeL f N hm) (homeL was N hm)):=by
 rcases h with ⟨-,h1,h2⟩ | ⟨-,-,h1,h2,h3⟩
 ·exact ⟨by rw [h1];exact appl_quiet _ _ _,fun e=>Qx.of_eq _ _ (h2 e).2⟩
 ·exact ⟨Qx.of_eq _ _ h3,fun e=>by rw [h1] at e;cases e⟩
def anyI (ns:List Int) (m:Nat) (p:Int):Bool:=(ns.take m).any fun x=>x == p
theorem anyI_succ {ns:List Int} {k:Nat} {x:Int} (p:Int) (h:ns[k]?=some x):anyI ns (k+1) p=(anyI ns k p || x == p):=by
 unfold anyI
 rw [List.take_add_one,h]
 simp
theorem anyI_all {ns:List Int} {p:Int} (h:anyI ns ns.length p=false):∀ x ∈ ns,x ≠ p:=fun x hx e=>by
 unfold anyI at h
 rw [List.take_length,List.any_eq_false] at h
 exact h x hx (by rw [e];exact beq_self_eq_true p)
end Go.Proofs.Ytdoanopeejeeiaa

