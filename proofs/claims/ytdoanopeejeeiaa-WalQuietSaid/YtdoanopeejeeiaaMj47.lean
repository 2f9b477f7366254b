/- XWlr XWalQuietP -/
import Derived.Test.YtdoanopeejeeiaaMj44
import Derived.Test.YtdoanopeejeeiaaMj46
namespace Go.Proofs.Ytdoanopeejeeiaa
set_option linter.all false
open Go.RowKit Go.Maps
/-- A disk that is new, formatted. -/
theorem fmtL_any (N ring lo d:Nat) (h:Hn) (w:World) (H:DkOk w lo d h (newD N)) (hlo:lo≤w.heap.size) (hU:∀ g,¬ h.U g) (h1:1≤ring) (h2:ring+4≤N):Calls Try.prog 8 #[.pointer (some ⟨d,0,none⟩),.int .i64 (ring:Int)] w fun e w'=>∃ s' h',e=.returned (.int .i64 0)∧s'.n=N∧s'.mask=[]∧s'.writes≤2∧s'.falls=0∧s'.down=false∧At s' (layL (fun _=>zeros) [(0,headB ring 1 0),(1,zeros)])∧DkOk w' lo d h' s'∧Fr (h.T d) w w'∧TT w (h.T d) (h'.T d)∧h'.U=h.U:=by
 refine (formatW_ok lo d h (newD N) (fun _=>zeros) ring w H hlo (At.newD N) rfl h1 h2 (Nat.zero_le _) (Nat.zero_le _) (Nat.zero_le _) (fun g _=>hU g)).mono ?_
 rintro e w' ⟨E,s',h',rfl,r,H',F,T,U⟩
 obtain ⟨hf0,rfl⟩:=r.falls rfl
 obtain ⟨-,hd,ha⟩:=r.res.resolve_right (fun h=>absurd h.1 (by decide))
 exact ⟨s',h',rfl,r.n,r.mask,r.writes,hf0,hd,ha,H',F,T,U⟩
end Go.Proofs.Ytdoanopeejeeiaa

/- WalQuiet: what its first loop keeps. -/
namespace Go.Proofs.Ytdoanopeejeeiaa
set_option linter.all false
open Go.RowKit Go.Maps
theorem sectS_any (w:World) (lo d:Nat) (h:Hn) (s:Dk) (f:SF) (N W:Nat) (H:DS w lo d h s f N W) (hm:Nat) (hhm:hm≤N):Calls Try.prog 11 #[.pointer (some ⟨d,0,none⟩),.int .i64 (hm:Int)] w fun e w'=>∃ A n c,e=.returned (.slice A n c)∧SecL w' (h.S d) A n (homeL f N hm)∧n≤c∧c≤maxLen∧Below w.heap.size w w':=by
 have:=sectorsW_any lo d hm h s f (h.S d) w H.dk H.ats (H.dk.rest H.fr) H.mask (by rw [H.n];exact hhm)
 rw [H.n] at this
 exact this
def nmz (zs:List (List Int × Bs)) (k:Nat):List Int:=(zs.take k).flatMap (·.1)
theorem nmz_succ {zs:List (List Int × Bs)} {k:Nat} {ats:List Int} {cs:Bs} (h:zs[k]?=some (ats,cs)):nmz zs (k+1)=nmz zs k ++ ats:=by
 unfold nmz
 rw [List.take_add_one,h]
 simp
/-- What the loop keeps. -/
structure WQ (w wr:World) (lo d l N ring hm m:Nat) (zs:List (List Int × Bs)) (A4:Option Addr) (n4:Nat) (ls:List Bs) (k:Nat) (v:Value) (h:Hn) (s:Dk) (f:SF):Prop where
 nm:NmI wr lo d l h v (nmz zs k)
 nl:(nmz zs k).length≤150 * k
 sec:SecL wr (h.S d) A4 n4 ls
 ds:DS wr lo d h s f N (10+400 * k)
 ul:h.U l
 ll:l < wr.heap.size
 low:lo≤wr.heap.size
 bel:Below w.heap.size w wr
 a:k < m→∃ seq pos,LS wr lo d l h s f N ring seq pos (10+400 * k)∧s.falls=0∧seq≤1+k∧Qx hm (nmz zs k) ls (homeL f N hm)
 b:k=m→∃ was nps S ok,T2 N ring was nps S ok f∧S≤50∧Qx hm (nmz zs k) ls (homeL (layL was nps) N hm)∧(ok=false→Qx hm (nmz zs k) ls (homeL was N hm))
theorem WQ.stepA {w w6 w8:World} {lo d l N ring hm m n4 k seq pos:Nat} {zs:List (List Int × Bs)} {A4:Option Addr} {ls:List Bs} {v v8:Value} {h:Hn} {s:Dk} {f:SF} {ats:List Int} {cs:Bs} (n6:NmI w6 lo d l h v (nmz zs k)) (nl:(nmz zs k).length≤150 * k) (hl:ats.length≤150) (hz:zs[k]?=some (ats,cs)) (S6:SecL w6 (h.S d) A4 n4 ls)
  (L6:LS w6 lo d l h s f N ring seq pos (10+400 * (k+1))) (f0:s.falls=0) (hs:seq≤1+(k+1)) (hq:Qx hm (nmz zs k ++ ats) ls (homeL f N hm)) (hlo:lo≤w6.heap.size) (hb:Below w.heap.size w w6) (hwl:w.heap.size≤lo) (hb8:Below lo w6 w8) (hg:w6.grownBy w8 v.ownBlock) (he:v8.ownBlock=v.ownBlock∨v8.ownBlock=some w6.heap.size) (ho:ownI w8 lo v8 (nmz zs k ++ ats)) (hk:k+1 < m) :
  WQ w w8 lo d l N ring hm m zs A4 n4 ls (k+1) v8 { h with U:=fun g=>h.U g∨v8.ownBlock=some g } s f:=by
 have hll:=L6.lg.lg.lt
 have e:=nmz_succ hz
 have L8:=L6.grow n6 hg he ho
 rw [← e] at ho hq
 exact ⟨n6.grow L6.lg.dk.fresh hll he ho,by rw [e,List.length_append];omega,S6.grow n6 hg he,L8.ds (by rw [f0];exact Nat.zero_le _),.inl L6.lg.u.1,Nat.lt_of_lt_of_le hll hb8.size,Nat.le_trans hlo hb8.size,hb.trans (hb8.mono hwl),fun _=>⟨seq,pos,L8,f0,hs,hq⟩,fun e=>absurd e (by omega)⟩
theorem WQ.stepB {w w6 w8:World} {lo d l N ring hm m n4 k:Nat} {zs:List (List Int × Bs)} {A4:Option Addr} {ls:List Bs} {v v8:Value} {h:Hn} {s:Dk} {f:SF} {ats:List Int} {cs:Bs} (n6:NmI w6 lo d l h v (nmz zs k)) (nl:(nmz zs k).length≤150 * k) (hl:ats.length≤150) (hz:zs[k]?=some (ats,cs)) (S6:SecL w6 (h.S d) A4 n4 ls)
  (D6:DS w6 lo d h s f N (10+400 * (k+1))) (hu:h.U l) (hll:l < w6.heap.size) (ht:∃ was nps S ok,T2 N ring was nps S ok f∧S≤50∧Qx hm (nmz zs k ++ ats) ls (homeL (layL was nps) N hm)∧(ok=false→Qx hm (nmz zs k ++ ats) ls (homeL was N hm))) (hlo:lo≤w6.heap.size) (hb:Below w.heap.size w w6) (hwl:w.heap.size≤lo) (hb8:Below lo w6 w8) (hg:w6.grownBy w8 v.ownBlock) (he:v8.ownBlock=v.ownBlock∨v8.ownBlock=some w6.heap.size) (ho:ownI w8 lo v8 (nmz zs k ++ ats)) (hk:k+1=m) :
  WQ w w8 lo d l N ring hm m zs A4 n4 ls (k+1) v8 { h with U:=fun g=>h.U g∨v8.ownBlock=some g } s f:=by
 have e:=nmz_succ hz
 have D8:=D6.grow n6 hg he ho
 rw [← e] at ho ht
 exact ⟨n6.grow D6.dk.fresh hll he ho,by rw [e,List.length_append];omega,S6.grow n6 hg he,D8,.inl hu,Nat.lt_of_lt_of_le hll hb8.size,Nat.le_trans hlo hb8.size,hb.trans (hb8.mono hwl),fun e=>absurd hk (by omega),fun _=>ht⟩
theorem qx_if (hm:Nat) (ps:List (Int × Bs)) {E:Int} {a b:List Bs} (h:b=if E=0 then appl hm a ps else a):Qx hm (ps.map (·.1)) a b:=by
 rw [h]
 split
 ·exact appl_quiet _ _ _
 ·exact Qx.refl _ _ _
theorem bytesE_any (B n c B' n' c':Nat) (A A':Option Addr) (xs:List UInt8) (w:World) (h:RdB w B A n xs) (h':RdB w B' A' n' xs) :
  Calls Try.prog 22 #[.slice A n c,.slice A' n' c'] w fun e w'=>e=.returned (.bool true)∧w'=w:=by
 have:=bytesR_any B n c B' n' c' A A' xs xs w h h'
 rw [show (xs == xs)=true from beq_self_eq_true xs] at this
 exact this.mono fun _ _ ⟨a,b⟩=>⟨a,b.symm⟩
/-- What is read before, kept beside a disk. -/
def QR (w:World) (lo d:Nat) (h:Hn) (v:Value) (ns:List Int) (A4:Option Addr) (n4:Nat) (ls:List Bs):Prop:=ownI w lo v ns∧(∀ g,v.ownBlock=some g→¬ h.T d g)∧SecL w (h.T d) A4 n4 ls
theorem QR.of {w:World} {lo d l:Nat} {h:Hn} {v:Value} {ns:List Int} {A4:Option Addr} {n4:Nat} {ls:List Bs} (n:NmI w lo d l h v ns) (s:SecL w (h.S d) A4 n4 ls):QR w lo d h v ns A4 n4 ls:=⟨n.1,fun g e=>(n.2 g e).2.1,s.sub (h.TS d)⟩
theorem QR.fr {w w':World} {lo d:Nat} {h h':Hn} {v:Value} {ns:List Int} {A4:Option Addr} {n4:Nat} {ls:List Bs} (k:QR w lo d h v ns A4 n4 ls) (F:Fr (h.T d) w w') (T:TT w (h.T d) (h'.T d)):QR w' lo d h' v ns A4 n4 ls :=
 ⟨own_frame k.1 F k.2.1,fun g e=>T.not (k.2.1 g e) (World.ownsRow.lt k.1 g e).2,k.2.2.fr F T⟩
theorem QR.later {w w':World} {lo d:Nat} {h:Hn} {v:Value} {ns:List Int} {A4:Option Addr} {n4:Nat} {ls:List Bs} (k:QR w lo d h v ns A4 n4 ls) (hb:Below w.heap.size w w'):QR w' lo d h v ns A4 n4 ls:=k.fr (Fr.of _ hb) (TT.refl _ _)
/-- What the disk comes to. -/
theorem WQ.ends {N ring hm:Nat} {was f':SF} {nps:List (Nat × Bs)} {ok:Bool} {ns:List Int} {ls:List Bs} (hh:2+ring=hm) (h1:Qx hm ns ls (homeL (layL was nps) N hm)) (h2:ok=false→Qx hm ns ls (homeL was N hm)) (h:(∀ j,2+ring≤j→f' j=layL was nps j)∨(ok=false∧∀ j,2+ring≤j→f' j=was j)):Qx hm ns ls (homeL f' N hm):=by
 subst hh
 rcases h with h | ⟨e,h⟩
 ·rw [homeL_congr h];exact h1
 ·rw [homeL_congr h];exact h2 e
end Go.Proofs.Ytdoanopeejeeiaa

