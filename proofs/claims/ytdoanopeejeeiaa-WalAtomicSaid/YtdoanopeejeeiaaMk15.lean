/- XWlP -/
import Derived.Test.YtdoanopeejeeiaaMk12
import Derived.Test.YtdoanopeejeeiaaMk14
namespace Go.Proofs.Ytdoanopeejeeiaa
set_option linter.all false
open Go.RowKit Go.Maps
abbrev SF:=Nat→Bs
def fillS (b:Bs):Bs:=b ++ List.replicate (256 - b.length) 0
def headB (ring seq pos:Nat):Bs:=fillS ([65,81] ++ (beB ring 2 ++ (beB seq 6 ++ beB pos 2)))
def markB (seq pos n:Nat):Bs:=fillS ([65,67] ++ (beB seq 6 ++ (beB pos 2 ++ beB n 2)))
def needN (n:Nat):Nat:=if n=0 then 0 else n+(n - 1) / 64+1
def inN (ring pos i:Nat):Nat:=2+(pos+i) % ring
def updF (f:SF) (k:Nat) (b:Bs):SF:=fun j=>if j=k then b else f j
def layL (f:SF) (l:List (Nat × Bs)):SF:=l.foldl (fun f x=>updF f x.1 x.2) f
theorem fillS_len {b:Bs} (h:b.length≤256):(fillS b).length=256:=by unfold fillS;simp;omega
theorem headB_len (ring seq pos:Nat):(headB ring seq pos).length=256:=fillS_len (by simp [beB_len])
theorem markB_len (seq pos n:Nat):(markB seq pos n).length=256:=fillS_len (by simp [beB_len])
theorem fillS_cut {b:Bs} {k m:Nat} (h:k+m≤b.length):((fillS b).drop k).take m=(b.drop k).take m:=by
 unfold fillS
 rw [List.drop_append_of_le_length (by omega),List.take_append_of_le_length (by rw [List.length_drop];omega)]
theorem beB_inj {W a b:Nat} (ha:a < 256 ^ W) (hb:b < 256 ^ W) (h:beB a W=beB b W):a=b:=by
 rw [← beV_beB W a ha,← beV_beB W b hb,h]
theorem drop_len {α:Type} {a b:List α} {n:Nat} (h:a.length=n):(a ++ b).drop n=b:=List.drop_left' h
/-- What a head's numbers read as. -/
theorem headB_cuts (ring seq pos:Nat):((headB ring seq pos).drop 2).take 2=beB ring 2∧((headB ring seq pos).drop 4).take 6=beB seq 6∧((headB ring seq pos).drop 10).take 2=beB pos 2:=by
 have l1:=beB_len ring 2
 have l2:=beB_len seq 6
 have l3:=beB_len pos 2
 unfold headB
 generalize beB ring 2=A at *
 generalize beB seq 6=B at *
 generalize beB pos 2=C at *
 refine ⟨?_,?_,?_⟩ <;> rw [fillS_cut (by simp;omega)]
 ·exact List.take_left' l1
 ·rw [show (4:Nat)=2+2 from rfl,← List.drop_drop]
  show List.take 6 (List.drop 2 (A ++ (B ++ C)))=B
  rw [drop_len l1]
  exact List.take_left' l2
 ·rw [show (10:Nat)=2+(2+6) from rfl,← List.drop_drop,← List.drop_drop]
  show List.take 2 (List.drop 6 (List.drop 2 (A ++ (B ++ C))))=C
  rw [drop_len l1,drop_len l2,← l3,List.take_length]
theorem markB_cuts (seq pos n:Nat):((markB seq pos n).drop 2).take 6=beB seq 6∧((markB seq pos n).drop 8).take 2=beB pos 2∧((markB seq pos n).drop 10).take 2=beB n 2:=by
 have l1:=beB_len n 2
 have l2:=beB_len seq 6
 have l3:=beB_len pos 2
 unfold markB
 generalize beB n 2=A at *
 generalize beB seq 6=B at *
 generalize beB pos 2=C at *
 refine ⟨?_,?_,?_⟩ <;> rw [fillS_cut (by simp;omega)]
 ·exact List.take_left' l2
 ·rw [show (8:Nat)=2+6 from rfl,← List.drop_drop]
  show List.take 2 (List.drop 6 (B ++ (C ++ A)))=C
  rw [drop_len l2]
  exact List.take_left' l3
 ·rw [show (10:Nat)=2+(6+2) from rfl,← List.drop_drop,← List.drop_drop]
  show List.take 2 (List.drop 2 (List.drop 6 (B ++ (C ++ A))))=A
  rw [drop_len l2,drop_len l3,← l1,List.take_length]
theorem markB_seq {q p n q' p' n':Nat} (h1:q < 281474976710656) (h2:q' < 281474976710656) (h:markB q p n=markB q' p' n'):q=q':=by
 have e1:=(markB_cuts q p n).1
 rw [h,(markB_cuts q' p' n').1] at e1
 exact (beB_inj (W:=6) (by omega) (by omega) e1).symm
theorem zeros_mark (q p n:Nat):zeros ≠ markB q p n:=by
 intro h
 have:zeros[0]?=(markB q p n)[0]?:=by rw [h]
 have e1:zeros[0]?=some 0:=rfl
 have e2:(markB q p n)[0]?=some 65:=rfl
 rw [e1,e2] at this
 exact absurd this (by decide)
/-- A mark of an elder change, or none. -/
def oldM (b:Bs) (seq:Nat):Prop:=b=zeros∨∃ q p n,q < seq∧b=markB q p n
theorem oldM.ne {b:Bs} {seq:Nat} (h:oldM b seq) (hs:seq < 281474976710656) (p n:Nat):b ≠ markB seq p n:=by
 rcases h with rfl | ⟨q,p',n',hq,rfl⟩
 ·exact zeros_mark _ _ _
 ·intro e
  have:=markB_seq (by omega) hs e
  omega
theorem oldM.mono {b:Bs} {seq:Nat} (h:oldM b seq):oldM b (seq+1):=by
 rcases h with rfl | ⟨q,p',n',hq,rfl⟩
 ·exact .inl rfl
 ·exact .inr ⟨q,p',n',by omega,rfl⟩
/-- A disk with nothing pending: its sectors. -/
structure At (s:Dk) (f:SF):Prop where
 pend:s.pend=[]
 now:∀ k,getS s.now k=f k
 dur:∀ k,getS s.dur k=f k
/-- Of a row of writes some have come. -/
def Part (f:SF) (l:List (Nat × Bs)) (f':SF):Prop:=∀ j,f' j=f j∨∃ b,(j,b) ∈ l∧f' j=b
theorem getS_upd (f:Nat→Option Bs) (k:Nat) (b:Bs):getS (updR f k b)=updF (getS f) k b:=by
 funext j
 unfold getS updR updF
 by_cases h:j=k
 ·rw [if_pos h,if_pos h];rfl
 ·rw [if_neg h,if_neg h]
theorem getS_layF:∀ (l:List (Nat × Bs)) (f:Nat→Option Bs),getS (layF f l)=layL (getS f) l
 | [],f=>rfl
 | x :: l,f=>by
  show getS (layF (updR f x.1 x.2) l)=layL (updF (getS f) x.1 x.2) l
  rw [getS_layF l,getS_upd]
theorem layM_part (m:Bs) (f:Nat→Option Bs) (p:List (Nat × Bs)):∀ n,Part (getS f) p (getS (layM m f p n))
 | 0=>fun j=>.inl rfl
 | n+1=>by
  intro j
  have ih:=layM_part m f p n j
  unfold layM
  cases h:p[n]? with
  | none=>exact ih
  | some x =>
   dsimp only
   by_cases hb:bitB m n=true
   ·rw [if_pos hb,getS_upd]
    unfold updF
    by_cases e:j=x.1
    ·rw [if_pos e]
     exact .inr ⟨x.2,by rw [e];exact List.mem_of_getElem? h,rfl⟩
    ·rw [if_neg e];exact ih
   ·rw [if_neg hb];exact ih
theorem Part.sub {f f':SF} {l l':List (Nat × Bs)} (h:Part f l f') (hs:∀ x ∈ l,x ∈ l'):Part f l' f':=fun j=>by
 rcases h j with e | ⟨b,hb,e⟩
 ·exact .inl e
 ·exact .inr ⟨b,hs _ hb,e⟩
theorem Part.out {f f':SF} {l:List (Nat × Bs)} (h:Part f l f') {j:Nat} (hj:∀ b,(j,b) ∉ l):f' j=f j:=by
 rcases h j with e | ⟨b,hb,e⟩
 ·exact e
 ·exact absurd hb (hj b)
theorem layL_out {j:Nat}:∀ (l:List (Nat × Bs)) (f:SF),(∀ b,(j,b) ∉ l)→layL f l j=f j
 | [],f,_=>rfl
 | x :: l,f,h=>by
  show layL (updF f x.1 x.2) l j=f j
  rw [layL_out l _ (fun b hb=>h b (List.mem_cons_of_mem _ hb))]
  unfold updF
  rw [if_neg (fun e=>h x.2 (by rw [e];exact List.mem_cons_self))]
theorem layL_mem {j:Nat} {b:Bs}:∀ (l:List (Nat × Bs)) (f:SF),(l.map (·.1)).Nodup→(j,b) ∈ l→layL f l j=b
 | x :: l,f,hd,h=>by
  show layL (updF f x.1 x.2) l j=b
  rw [List.map_cons,List.nodup_cons] at hd
  rcases List.mem_cons.1 h with e | e
  ·subst e
   rw [layL_out l _ (fun b' hb'=>hd.1 (List.mem_map.2 ⟨_,hb',rfl⟩))]
   unfold updF
   rw [if_pos rfl]
  ·exact layL_mem l _ hd.2 e
/-- k of some writes are done, none has fallen. -/
def wrK (s:Dk) (l:List (Nat × Bs)) (k:Nat):Dk:={ s with writes:=s.writes+k,pend:=s.pend ++ l.take k,now:=layF s.now (l.take k),falls:=s.falls - k }
/-- All are done, and durable. -/
def wrAll (s:Dk) (l:List (Nat × Bs)):Dk:={ s with writes:=s.writes+l.length,pend:=[],now:=layF s.now l,dur:=layF s.dur l,falls:=s.falls - l.length }
/-- It falls at the write k. -/
def wrFall (s:Dk) (l:List (Nat × Bs)) (k:Nat):Dk:={ s with writes:=s.writes+(k+1),pend:=[],now:=layM s.mask s.dur (l.take (k+1)) (l.take (k+1)).length,dur:=layM s.mask s.dur (l.take (k+1)) (l.take (k+1)).length,falls:=0,down:=true }
theorem wrK_flush {s:Dk} {l:List (Nat × Bs)} (hp:s.pend=[]) (hd:s.down=false):flushS (wrK s l l.length)=wrAll s l:=by
 unfold flushS wrK wrAll
 simp [hp,hd]
theorem At.all {s:Dk} {f:SF} (h:At s f) (l:List (Nat × Bs)):At (wrAll s l) (layL f l):=by
 have e1:getS s.now=f:=funext h.now
 have e2:getS s.dur=f:=funext h.dur
 exact ⟨rfl,fun k=>by show getS (layF s.now l) k=_;rw [getS_layF,e1],fun k=>by show getS (layF s.dur l) k=_;rw [getS_layF,e2]⟩
theorem At.fall {s:Dk} {f:SF} (h:At s f) (l:List (Nat × Bs)) (k:Nat):∃ f',At (wrFall s l k) f'∧Part f l f':=by
 refine ⟨getS (layM s.mask s.dur (l.take (k+1)) (l.take (k+1)).length),⟨rfl,fun _=>rfl,fun _=>rfl⟩,?_⟩
 have e2:getS s.dur=f:=funext h.dur
 have:=layM_part s.mask s.dur (l.take (k+1)) (l.take (k+1)).length
 rw [e2] at this
 exact this.sub (fun x hx=>List.mem_of_mem_take hx)
/-- What writes of sectors leave: all of them, or it has fallen. -/
structure WrRes (s:Dk) (f:SF) (l:List (Nat × Bs)) (e:Int) (s':Dk):Prop where
 n:s'.n=s.n
 mask:s'.mask=s.mask
 writes:s'.writes≤s.writes+l.length
 falls:s.falls=0→s'.falls=0∧e=0
 le:s'.falls≤s.falls
 res:(e=0∧s'.down=false∧At s' (layL f l))∨(e=12∧s'.down=true∧∃ f',At s' f'∧Part f l f')
theorem WrRes.all {s:Dk} {f:SF} (h:At s f) (hd:s.down=false) (l:List (Nat × Bs)):WrRes s f l 0 (wrAll s l) :=
 ⟨rfl,rfl,Nat.le_refl _,fun e=>⟨by show s.falls - l.length=0;omega,rfl⟩,Nat.sub_le _ _,.inl ⟨rfl,hd,h.all l⟩⟩
theorem WrRes.fall {s:Dk} {f:SF} (h:At s f) (l:List (Nat × Bs)) {k:Nat} (hk:k < l.length) (hf:s.falls ≠ 0):WrRes s f l 12 (wrFall s l k) :=
 ⟨rfl,rfl,by show s.writes+(k+1)≤_;omega,fun e=>absurd e hf,Nat.zero_le _,.inr ⟨rfl,rfl,h.fall l k⟩⟩
/-- The ring's sectors of a change. -/
def descB (ps:List (Nat × Bs)) (i:Nat):Bs:=fillS (((ps.drop (64 * i)).take 64).flatMap fun x=>beB x.1 2)
def descN (n:Nat):Nat:=(n - 1) / 64+1
def chgB (ps:List (Nat × Bs)):List Bs:=(List.range (descN ps.length)).map (descB ps) ++ ps.map (·.2)
def chg (ring pos:Nat) (ps:List (Nat × Bs)):List (Nat × Bs):=(chgB ps).mapIdx fun i b=>(inN ring pos i,b)
theorem chgB_len (ps:List (Nat × Bs)) (h:ps ≠ []):(chgB ps).length=needN ps.length:=by
 have h0:ps.length ≠ 0:=fun e=>h (List.length_eq_zero_iff.1 e)
 unfold chgB needN descN
 rw [if_neg h0,List.length_append,List.length_map,List.length_range,List.length_map]
 omega
theorem chg_get {ring pos:Nat} {ps:List (Nat × Bs)} {i:Nat} {b:Bs} (h:(chgB ps)[i]?=some b):(chg ring pos ps)[i]?=some (inN ring pos i,b):=by
 unfold chg
 rw [List.getElem?_mapIdx,h]
 rfl
theorem chg_mem {ring pos:Nat} {ps:List (Nat × Bs)} {j:Nat} {b:Bs} (h:(j,b) ∈ chg ring pos ps):∃ i,(chgB ps)[i]?=some b∧j=inN ring pos i:=by
 obtain ⟨i,hi⟩:=List.mem_iff_getElem?.1 h
 unfold chg at hi
 rw [List.getElem?_mapIdx] at hi
 cases e:(chgB ps)[i]? with
 | none=>rw [e] at hi;cases hi
 | some c =>
  rw [e] at hi
  injection hi with hi
  injection hi with h1 h2
  exact ⟨i,by rw [e,h2],h1.symm⟩
theorem inN_rng {ring pos i:Nat} (h:0 < ring):2≤inN ring pos i∧inN ring pos i < 2+ring:=by
 unfold inN
 have:=Nat.mod_lt (pos+i) h
 omega
theorem mod_two {a r:Nat} (hr:0 < r) (h:a < 2 * r):a % r=if a < r then a else a - r:=by
 by_cases c:a < r
 ·rw [if_pos c,Nat.mod_eq_of_lt c]
 ·rw [if_neg c,Nat.mod_eq_sub_mod (by omega),Nat.mod_eq_of_lt (by omega)]
theorem inN_inj {ring pos i j:Nat} (hp:pos < ring) (hi:i < ring) (hj:j < ring) (h:inN ring pos i=inN ring pos j):i=j:=by
 unfold inN at h
 rw [mod_two (by omega) (by omega),mod_two (by omega) (by omega)] at h
 by_cases c1:pos+i < ring
 ·rw [if_pos c1] at h
  by_cases c2:pos+j < ring
  ·rw [if_pos c2] at h;omega
  ·rw [if_neg c2] at h;omega
 ·rw [if_neg c1] at h
  by_cases c2:pos+j < ring
  ·rw [if_pos c2] at h;omega
  ·rw [if_neg c2] at h;omega
theorem chg_keys {ring pos:Nat} {ps:List (Nat × Bs)} (hp:pos < ring) (hn:needN ps.length≤ring) (h0:ps ≠ []):((chg ring pos ps).map (·.1)).Nodup:=by
 refine List.pairwise_iff_getElem.2 (fun i j hi hj hij e=>?_)
 have e:((chg ring pos ps).map (·.1))[i]?=((chg ring pos ps).map (·.1))[j]?:=by rw [List.getElem?_eq_getElem hi,List.getElem?_eq_getElem hj,e]
 have hl:((chg ring pos ps).map (·.1)).length≤ring:=by rw [List.length_map];unfold chg;rw [List.length_mapIdx,chgB_len ps h0];exact hn
 have g:∀ i,((chg ring pos ps).map (·.1))[i]?=if i < (chgB ps).length then some (inN ring pos i) else none:=fun i=>by
  unfold chg
  rw [List.getElem?_map,List.getElem?_mapIdx]
  by_cases h:i < (chgB ps).length
  ·rw [if_pos h,List.getElem?_eq_getElem h];rfl
  ·rw [if_neg h,List.getElem?_eq_none (by omega)];rfl
 have hl2:(chgB ps).length≤ring:=by rw [chgB_len ps h0];exact hn
 have hj2:j < (chgB ps).length:=by rw [List.length_map] at hj;unfold chg at hj;rw [List.length_mapIdx] at hj;exact hj
 rw [g,g,if_pos (by omega),if_pos hj2] at e
 injection e with e
 have:=inN_inj hp (by omega) (by omega) e
 omega
/-- Puts that a ring may have. -/
structure GoodP (N ring:Nat) (ps:List (Nat × Bs)):Prop where
 ne:ps ≠ []
 few:ps.length≤150
 need:needN ps.length≤ring
 home:∀ x ∈ ps,2+ring≤x.1∧x.1 < N∧x.2.length=256
 keys:(ps.map (·.1)).Nodup
/-- A log whose change is done. -/
structure LogA (f:SF) (N ring seq pos:Nat):Prop where
 head:f 0=headB ring seq pos
 mark:oldM (f 1) seq
 r1:1≤ring
 r2:ring+4≤N
 p:pos < ring
 s1:1≤seq
/-- A log whose change is marked. -/
structure LogB (f:SF) (N ring seq pos:Nat) (ps:List (Nat × Bs)):Prop where
 head:f 0=headB ring seq pos
 mark:f 1=markB seq pos ps.length
 r1:1≤ring
 r2:ring+4≤N
 p:pos < ring
 s1:1≤seq
 good:GoodP N ring ps
 ring:∀ i b,(chgB ps)[i]?=some b→f (inN ring pos i)=b
def posN (ring pos n:Nat):Nat:=(pos+needN n) % ring
theorem LogA.keep {f f':SF} {N ring seq pos:Nat} (h:LogA f N ring seq pos) (h0:f' 0=f 0) (h1:f' 1=f 1):LogA f' N ring seq pos:=⟨h0.trans h.head,by rw [h1];exact h.mark,h.r1,h.r2,h.p,h.s1⟩
theorem LogB.keep {f f':SF} {N ring seq pos:Nat} {ps:List (Nat × Bs)} (h:LogB f N ring seq pos ps) (hk:∀ j,j < 2+ring→f' j=f j):LogB f' N ring seq pos ps :=
 ⟨(hk 0 (by omega)).trans h.head,(hk 1 (by omega)).trans h.mark,h.r1,h.r2,h.p,h.s1,h.good,fun i b e=>(hk _ (inN_rng h.r1).2).trans (h.ring i b e)⟩
theorem chg_in {ring pos:Nat} {ps:List (Nat × Bs)} (h:1≤ring) {j:Nat} (hj:j < 2∨2+ring≤j):∀ b,(j,b) ∉ chg ring pos ps:=fun b hb=>by
 obtain ⟨i,-,e⟩:=chg_mem hb
 have:=inN_rng (ring:=ring) (pos:=pos) (i:=i) h
 omega
/-- The change lies in the ring. -/
theorem LogA.ringed {f:SF} {N ring seq pos:Nat} (h:LogA f N ring seq pos) {ps:List (Nat × Bs)} (hp:GoodP N ring ps) :
  LogA (layL f (chg ring pos ps)) N ring seq pos∧(∀ i b,(chgB ps)[i]?=some b→layL f (chg ring pos ps) (inN ring pos i)=b)∧∀ j,2+ring≤j→layL f (chg ring pos ps) j=f j:=by
 have ho:∀ j,j < 2∨2+ring≤j→layL f (chg ring pos ps) j=f j:=fun j hj=>layL_out _ _ (chg_in h.r1 hj)
 exact ⟨h.keep (ho 0 (.inl (by omega))) (ho 1 (.inl (by omega))),fun i b e=>layL_mem _ _ (chg_keys h.p hp.need hp.ne) (List.mem_of_getElem? (chg_get e)),fun j hj=>ho j (.inr hj)⟩
theorem LogA.part {f f':SF} {N ring seq pos:Nat} (h:LogA f N ring seq pos) {ps:List (Nat × Bs)} (hf:Part f (chg ring pos ps) f'):LogA f' N ring seq pos∧∀ j,2+ring≤j→f' j=f j :=
 ⟨h.keep (hf.out (chg_in h.r1 (.inl (by omega)))) (hf.out (chg_in h.r1 (.inl (by omega)))),fun j hj=>hf.out (chg_in h.r1 (.inr hj))⟩
/-- The mark is laid. -/
theorem LogA.marked {f f':SF} {N ring seq pos:Nat} (h:LogA f N ring seq pos) {ps:List (Nat × Bs)} (hp:GoodP N ring ps) (hr:∀ i b,(chgB ps)[i]?=some b→f (inN ring pos i)=b)
  (hm:f' 1=markB seq pos ps.length) (hk:∀ j,j ≠ 1→f' j=f j):LogB f' N ring seq pos ps :=
 ⟨(hk 0 (by decide)).trans h.head,hm,h.r1,h.r2,h.p,h.s1,hp,fun i b e=>(hk _ (by have:=inN_rng (ring:=ring) (pos:=pos) (i:=i) h.r1;omega)).trans (hr i b e)⟩
/-- The head is laid. -/
theorem LogB.headed {f f':SF} {N ring seq pos:Nat} {ps:List (Nat × Bs)} (h:LogB f N ring seq pos ps) (h0:f' 0=headB ring (seq+1) (posN ring pos ps.length)) (h1:f' 1=f 1):LogA f' N ring (seq+1) (posN ring pos ps.length) :=
 ⟨h0,.inr ⟨seq,pos,ps.length,Nat.lt_succ_self _,h1.trans h.mark⟩,h.r1,h.r2,Nat.mod_lt _ h.r1,by omega⟩
theorem GoodP.low {N ring:Nat} {ps:List (Nat × Bs)} (h:GoodP N ring ps) {j:Nat} (hj:j < 2+ring):∀ b,(j,b) ∉ ps:=fun b hb=>by
 have:=(h.home _ hb).1
 dsimp only at this
 omega
theorem one_out {k j:Nat} {b:Bs} (h:j ≠ k):∀ b',(j,b') ∉ [(k,b)]:=fun b' hb=>by
 rw [List.mem_singleton] at hb
 injection hb with e1 e2
 exact h e1
/-- What is left behind the mark, where it has fallen. -/
def Mid2 (f:SF) (N ring seq pos:Nat) (ps:List (Nat × Bs)) (f':SF):Prop :=
 (LogB f' N ring seq pos ps∧∀ j,2+ring≤j→f' j=f j∨∃ b,(j,b) ∈ ps∧f' j=b)∨(LogA f' N ring (seq+1) (posN ring pos ps.length)∧∀ j,2+ring≤j→f' j=layL f ps j)
/-- What a change leaves, where it has fallen. -/
def Mid (f:SF) (N ring seq pos:Nat) (ps:List (Nat × Bs)) (f':SF):Prop :=
 (LogA f' N ring seq pos∧∀ j,2+ring≤j→f' j=f j)∨Mid2 f N ring seq pos ps f'
theorem mid_ring {f f':SF} {N ring seq pos:Nat} {ps:List (Nat × Bs)} (h:LogA f N ring seq pos) (hf:Part f (chg ring pos ps) f'):Mid f N ring seq pos ps f':=.inl (h.part hf)
theorem mid_mark {f f1 f':SF} {N ring seq pos:Nat} {ps:List (Nat × Bs)} (h:LogA f1 N ring seq pos) (hp:GoodP N ring ps) (hr:∀ i b,(chgB ps)[i]?=some b→f1 (inN ring pos i)=b) (hh:∀ j,2+ring≤j→f1 j=f j)
  (hf:Part f1 [(1,markB seq pos ps.length)] f'):Mid f N ring seq pos ps f':=by
 have ho:∀ j,j ≠ 1→f' j=f1 j:=fun j hj=>hf.out (one_out hj)
 rcases hf 1 with e | ⟨b,hb,e⟩
 ·exact .inl ⟨h.keep (ho 0 (by decide)) e,fun j hj=>(ho j (by omega)).trans (hh j hj)⟩
 ·rw [List.mem_singleton] at hb
  injection hb with _ hb
  exact .inr (.inl ⟨h.marked hp hr (e.trans hb) ho,fun j hj=>.inl ((ho j (by omega)).trans (hh j hj))⟩)
theorem mid_puts {f f2 f':SF} {N ring seq pos:Nat} {ps:List (Nat × Bs)} (h:LogB f2 N ring seq pos ps) (hh:∀ j,2+ring≤j→f2 j=f j) (hf:Part f2 ps f'):Mid2 f N ring seq pos ps f' :=
 (.inl ⟨h.keep (fun j hj=>hf.out (h.good.low hj)),fun j hj=>by
  rcases hf j with e | e
  ·exact .inl (e.trans (hh j hj))
  ·exact .inr e⟩)
theorem layL_mix {f f2:SF} {N ring:Nat} {ps:List (Nat × Bs)} (hp:GoodP N ring ps) (hh:∀ j,2+ring≤j→f2 j=f j∨∃ b,(j,b) ∈ ps∧f2 j=b):∀ j,2+ring≤j→layL f2 ps j=layL f ps j:=by
 intro j hj
 by_cases hm:∃ b,(j,b) ∈ ps
 ·obtain ⟨b,hb⟩:=hm
  rw [layL_mem ps f2 hp.keys hb,layL_mem ps f hp.keys hb]
 ·have hn:∀ b,(j,b) ∉ ps:=fun b hb=>hm ⟨b,hb⟩
  rw [layL_out ps f2 hn,layL_out ps f hn]
  rcases hh j hj with e | ⟨b,hb,-⟩
  ·exact e
  ·exact absurd hb (hn b)
theorem LogB.laid {f:SF} {N ring seq pos:Nat} {ps:List (Nat × Bs)} (h:LogB f N ring seq pos ps):LogB (layL f ps) N ring seq pos ps:=h.keep (fun j hj=>layL_out _ _ (h.good.low hj))
theorem mid_head {f f3 f':SF} {N ring seq pos:Nat} {ps:List (Nat × Bs)} (h:LogB f3 N ring seq pos ps) (hh:∀ j,2+ring≤j→f3 j=layL f ps j) (hf:Part f3 [(0,headB ring (seq+1) (posN ring pos ps.length))] f'):Mid2 f N ring seq pos ps f':=by
 have ho:∀ j,j ≠ 0→f' j=f3 j:=fun j hj=>hf.out (one_out hj)
 have hl:∀ j,2+ring≤j→f' j=layL f ps j:=fun j hj=>(ho j (by omega)).trans (hh j hj)
 rcases hf 0 with e | ⟨b,hb,e⟩
 ·refine (.inl ⟨h.keep (fun j _=>if c:j=0 then c ▸ e else ho j c),fun j hj=>?_⟩)
  rw [hl j hj]
  by_cases hm:∃ b,(j,b) ∈ ps
  ·obtain ⟨b,hb⟩:=hm
   exact .inr ⟨b,hb,layL_mem ps f h.good.keys hb⟩
  ·exact .inl (layL_out ps f (fun b hb=>hm ⟨b,hb⟩))
 ·rw [List.mem_singleton] at hb
  injection hb with _ hb
  exact (.inr ⟨h.headed (e.trans hb) (ho 1 (by decide)),hl⟩)
/-- The disk's sectors behind a change that may have been done, or not (ok: it said that it was). -/
def T2 (N ring:Nat) (was:SF) (ps:List (Nat × Bs)) (S:Nat) (ok:Bool) (f:SF):Prop :=
 (ok=false∧∃ seq pos,LogA f N ring seq pos∧seq≤S∧∀ j,2+ring≤j→f j=was j) ∨
  (ok=false∧∃ seq pos,LogB f N ring seq pos ps∧seq≤S∧∀ j,2+ring≤j→f j=was j∨∃ b,(j,b) ∈ ps∧f j=b) ∨
  (∃ seq pos,LogA f N ring seq pos∧seq≤S+1∧∀ j,2+ring≤j→f j=layL was ps j)
theorem Mid2.t2 {f f' was:SF} {N ring seq pos S:Nat} {ps:List (Nat × Bs)} (h:Mid2 f N ring seq pos ps f') (hp:GoodP N ring ps) (hs:seq≤S) (hm:∀ j,2+ring≤j→f j=was j∨∃ b,(j,b) ∈ ps∧f j=b):T2 N ring was ps S false f':=by
 rcases h with ⟨h1,h2⟩ | ⟨h1,h2⟩
 ·refine .inr (.inl ⟨rfl,_,_,h1,hs,fun j hj=>?_⟩)
  rcases h2 j hj with e | e
  ·rcases hm j hj with e2 | ⟨b,hb,e2⟩
   ·exact .inl (e.trans e2)
   ·exact .inr ⟨b,hb,e.trans e2⟩
  ·exact .inr e
 ·exact .inr (.inr ⟨_,_,h1,by omega,fun j hj=>(h2 j hj).trans (layL_mix hp hm j hj)⟩)
theorem Mid.t2 {f f':SF} {N ring seq pos S:Nat} {ps:List (Nat × Bs)} (h:Mid f N ring seq pos ps f') (hp:GoodP N ring ps) (hs:seq≤S):T2 N ring f ps S false f':=by
 rcases h with ⟨h1,h2⟩ | h
 ·exact .inl ⟨rfl,_,_,h1,hs,h2⟩
 ·exact h.t2 hp hs (fun j _=>.inl rfl)
end Go.Proofs.Ytdoanopeejeeiaa

