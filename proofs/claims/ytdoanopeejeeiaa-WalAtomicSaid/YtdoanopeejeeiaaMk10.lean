/- XDisk7 XDisk8 XDisk9 XDisk10 -/
import Derived.Test.YtdoanopeejeeiaaMk09
import Derived.Deep.CutRange
namespace Go.Proofs.Ytdoanopeejeeiaa
set_option linter.all false
open Go.RowKit Go.Maps
theorem Arr.grO {w w':World} {g:Nat} {cs:List Value} {row:Option Nat} (h:Arr w g cs) (hb:w.grownBy w' row) (hg:row ≠ some g):Arr w' g cs:=by
 have hl:=h.lt
 obtain ⟨t,h⟩:=h
 exact ⟨t,(hb.block g hl (fun e=>hg e.symm)).trans h⟩
end Go.Proofs.Ytdoanopeejeeiaa

/- A disk: Flush. -/
namespace Go.Proofs.Ytdoanopeejeeiaa
set_option linter.all false
open Go.RowKit Go.Maps
/-- Changes that are laid upon sectors. -/
def layF (f:Nat→Option Bs) (p:List (Nat × Bs)):Nat→Option Bs:=p.foldl (fun f x=>updR f x.1 x.2) f
theorem layF_snoc (f:Nat→Option Bs) {p:List (Nat × Bs)} {i k:Nat} {bs:Bs} (h:p[i]?=some (k,bs)):layF f (p.take (i+1))=updR (layF f (p.take i)) k bs:=by
 have:p.take (i+1)=p.take i ++ [(k,bs)]:=by rw [List.take_add_one,h];rfl
 rw [this]
 unfold layF
 rw [List.foldl_append]
 rfl
def flushS (s:Dk):Dk:=if s.down then s else { s with dur:=layF s.dur s.pend,pend:=[] }
/-- A change laid upon the durable sectors. -/
theorem DkOk.laid {w w6:World} {lo d:Nat} {h:Hn} {s:Dk} (k:DkOk w lo d h s) {r:Nat→Option (Nat × Nat)} (hr:∀ k,s.dur k=none→r k=none) (hs:∀ k bs,s.dur k=some bs→∃ v,r k=some v∧SecAt w (h.S d) v bs)
  {q g c:Nat} {bs:Bs} (h5:SecAt w (h.S d) (g,c) bs) (hF:Fr (fun g=>g=h.db) w w6) (hm:isMap w6 h.db (updR r q (g,c))):DkOk w6 lo d h { s with dur:=updR s.dur q bs }∧Fr (h.T d) w w6:=by
 have hT:Fr (h.T d) w w6:=hF.mono (fun g e=>.inr (.inr (.inl e)))
 have hd:=secs.put hr hs hT.S (h5.fr hT.S (TT.refl _ _)) hm
 have hn:=k.now.fr hT.S (TT.refl _ _) (hF.block _ k.now.lt (fun e=>k.ne3 e))
 exact k.mapped h.db hF (.inr rfl) { s with dur:=updR s.dur q bs } hn hd rfl rfl rfl rfl
/-- Nothing is pending. -/
def Hn.bare (h:Hn):Hn:={ h with pA:=none,pn:=0,pc:=0,pl:=[] }
theorem Hn.bareT (h:Hn) (d:Nat):∀ g,h.bare.T d g→h.T d g:=by
 rintro g (e | e | e | e)
 ·exact .inl e
 ·exact .inr (.inl e)
 ·exact .inr (.inr (.inl e))
 ·cases e
theorem DkOk.cleared {w:World} {lo d:Nat} {h:Hn} {s:Dk} (k:DkOk w lo d h s) :
  DkOk (w.setCell ⟨d,3,none⟩ (.slice none 0 0)) lo d h.bare { s with pend:=[] }∧Fr (h.T d) w (w.setCell ⟨d,3,none⟩ (.slice none 0 0))∧∀ w0:World,TT w0 (h.T d) (h.bare.T d):=by
 have hF:=(Fr.refl (h.T d) w).setCell (p:=⟨d,3,none⟩) (.inl rfl) (.slice none 0 0)
 have hT:∀ w0,TT w0 (h.T d) (h.bare.T d):=fun w0 g hg=>.inl (h.bareT d g hg)
 have hb:∀ g,g ≠ d→(w.setCell ⟨d,3,none⟩ (.slice none 0 0)).heap[g]?=w.heap[g]?:=fun g hg=>Below.heap_setCell _ _ _ _ hg
 exact ⟨⟨k.arr.set 3 _,k.ne1,k.ne2,k.ne3,k.lo1,k.lo2,k.lo3,(fun g e=>by cases e),k.now.fr hF.S (Hn.tts (hT w) rfl) (hb _ (fun e=>k.ne1 e.symm)),k.dur.fr hF.S (Hn.tts (hT w) rfl) (hb _ (fun e=>k.ne2 e.symm)),ownH.nil_ _ _,PR.nil _ _,k.mask.fr hF.S (Hn.tts (hT w) rfl),k.size⟩,hF,hT⟩
set_option maxRecDepth 100000 in
set_option maxHeartbeats 3200000 in
theorem flushD_any (lo d:Nat) (h:Hn) (s:Dk) (w:World) (H:DkOk w lo d h s) (hp:s.pend.length≤1000000) :
  Calls Try.prog 43 #[.pointer (some ⟨d,0,none⟩)] w fun e w'=>e=.returned (.int .i64 (if s.down then 12 else 0))∧∃ h',DkOk w' lo d h' (flushS s)∧Fr (h.T d) w w'∧TT w (h.T d) (h'.T d)∧h'.U=h.U:=by
 have c7:=H.arr.cell (k:=7) rfl
 cases hdn:s.down with
 | true =>
  rw [hdn] at c7
  have hs:flushS s=s:=by unfold flushS;rw [if_pos hdn]
  rw [hs]
  have HH:=Lib.hid H
  clear H hs hdn
  go_enter Try.func43,Try.ntmps43
  go_wp2_with fail
  go_ret
  exact ⟨rfl,_,HH.out,Fr.refl _ _,TT.refl _ _,rfl⟩
 | false =>
  rw [hdn] at c7
  have HS:Hid (flushS s={ s with dur:=layF s.dur s.pend,pend:=[] }):=(show _=_ by unfold flushS;rw [hdn];rfl)
  have c3:=H.arr.cell (k:=3) rfl
  have hpl:h.pl.length≤1000000:=by rw [H.pr.1];exact hp
  obtain ⟨A0,cc0,e0,-⟩:=H.own.form
  have hpn:h.pl.length=h.pn:=by unfold Hn.pv at e0;injection e0 with _ e0 _;exact e0.symm
  have HPR:=Lib.hid H.pr.1
  have HH:=Lib.hid H
  clear H e0 hdn A0 cc0 hp
  go_enter Try.func43,Try.ntmps43
  go_wp2_with fail
  go_loopw [14] (fun vi wr=>∃ k:Nat,k≤h.pn∧vi=.int .i64 k∧Hid (DkOk wr lo d h { s with dur:=layF s.dur (s.pend.take k) })∧Hid (Fr (h.T d) w wr)) (fun vi _=>h.pn - (intOf vi).toNat)
  case atStart=>exact ⟨0,Nat.zero_le _,rfl,HH.out,Fr.refl _ _⟩
  case round =>
   clear c7 c3
   obtain ⟨k,hk,rfl,HD,HF⟩:=hrel
   by_cases hlt:k < h.pn
   ·have hpk:k < s.pend.length:=by rw [← HPR.out,hpn];exact hlt
    obtain ⟨⟨kk,bs⟩,hb⟩:∃ x,s.pend[k]?=some x:=⟨_,List.getElem?_eq_getElem hpk⟩
    obtain ⟨hkk,⟨g,c⟩,hv,hsec⟩:=HD.out.pr.2 k kk bs hb
    obtain ⟨b,o,x,hA,hbo,HX,e1,e2⟩:=(HD.out.own.rd).one (k:=k) hlt
    obtain rfl:x=chE kk (g,c):=by
     have:=HX.out
     rw [hv] at this
     injection this with this
     exact this.symm
    have c2:=HD.out.arr.cell (k:=2) rfl
    have hd1:=HD.out.arr.lt
    obtain ⟨r,hm,hr1,hr2⟩:=HD.out.dur
    have hm1:isMap (wr.alloc (.cells #[.int .i64 (kk:Int),.slice (some ⟨g,0,none⟩) 256 c] 79)).drew h.db r:=hm.keep (heap_alloc_old wr _ hm.lt)
    obtain ⟨w6,hrun,hm6,hg6⟩:=hm1.store hkk (g,c)
    unfold sv at hrun
    dsimp only at hrun
    have HM6:=Lib.hid hm6
    have HG6:=Lib.hid hg6
    have HR1:=Lib.hid hr1
    have HR2:=Lib.hid hr2
    have HSEC:=Lib.hid hsec
    have HL:=Lib.hid (layF_snoc s.dur hb)
    have e1':wr.cell? ⟨b,o+k * 2,none⟩=some (.int .i64 (kk:Int)):=e1
    have e2':wr.cell? ⟨b,o+k * 2+1,none⟩=some (.slice (some ⟨g,0,none⟩) 256 c):=e2
    have hdn:=Nat.ne_of_lt hd1
    clear hm hr1 hr2 hm1 hm6 hg6 hb hv hsec HX e1 e2
    obtain ⟨nb,db,pA,pn,pc,pl,mA,mn,mc,hU⟩:=h
    dsimp only at *
    subst hA
    go_upto_region 6 with fail
    go_region
    all_goals
     go_wp2_with fail
     go_roundw
     case rel =>
      have F6:Fr (fun g=>g=db) wr w6:=(((Fr.refl _ wr).alloc _).drew).trans (Fr.gro HG6.out rfl)
      obtain ⟨q1,q2⟩:=HD.out.laid HR1.out HR2.out HSEC.out F6 HM6.out
      refine ⟨k+1,by omega,by go_num,?_,HF.out.trans q2⟩
      rw [HL.out]
      exact q1
     case measure=>simp [intOf];omega
   ·obtain rfl:k=h.pn:=by omega
    have hk:s.pend.take h.pn=s.pend:=List.take_of_length_le (by rw [← HPR.out,hpn];exact Nat.le_refl _)
    rw [hk] at HD
    have c3:=HD.out.arr.cell (k:=3) rfl
    have f3:=HD.out.arr.frozen 3
    obtain ⟨q1,q2,q3⟩:=HD.out.cleared
    have Q1:=Lib.hid q1
    have Q2:=Lib.hid q2
    have Q3:=Lib.hid (q3 w)
    clear q1 q2 q3 hk
    go_wp2_with fail
    go_ret
    refine ⟨rfl,_,?_,HF.out.trans Q2.out,Q3.out,rfl⟩
    rw [HS.out]
    exact Q1.out
end Go.Proofs.Ytdoanopeejeeiaa

/- A disk: Turn. -/
namespace Go.Proofs.Ytdoanopeejeeiaa
set_option linter.all false
open Go.RowKit Go.Maps
def goodT (s:Dk) (k at_:Int):Prop:=0≤k∧k < s.n∧0≤at_∧at_ < 2048∧s.pend=[]
instance (s:Dk) (k at_:Int):Decidable (goodT s k at_):=by unfold goodT;exact inferInstance
end Go.Proofs.Ytdoanopeejeeiaa

/- A disk: a bit of a mask, Crash, Reboot. -/
namespace Go.Proofs.Ytdoanopeejeeiaa
set_option linter.all false
open Go.RowKit Go.Maps
theorem ret_boolD {a b:Bool} (h:a=b):Ending.returned (.bool a)=.returned (.bool b):=by rw [h]
/-- A bit of a mask. -/
def bitB (m:Bs) (i:Nat):Bool:=decide (i / 8 < m.length) && ((m.getD (i / 8) 0).toNat / 2 ^ (i % 8) % 2 == 1)
theorem and_bit1 (x:UInt8) (t:Nat):bits .and .u8 ((x.toNat:Int) / 2 ^ t) 1=((x.toNat / 2 ^ t % 2:Nat):Int):=by
 have e:(x.toNat:Int) / 2 ^ t=((x.toNat / 2 ^ t:Nat):Int):=by push_cast;rfl
 have hl:x.toNat / 2 ^ t < 256:=Nat.lt_of_le_of_lt (Nat.div_le_self _ _) x.toNat_lt
 rw [e,show (1:Int)=((1:Nat):Int) from rfl,u8_and_nat _ _ hl (by decide),Nat.and_one_is_mod]
set_option maxRecDepth 100000 in
theorem bitD_any (B n c i:Nat) (A:Option Addr) (m:Bs) (w:World) (h:RdB w B A n m) (hn:n≤1099511627776) (hi:i≤1000000) :
  Calls Try.prog 40 #[.slice A n c,.int .i64 (i:Int)] w fun e w'=>e=.returned (.bool (bitB m i))∧w=w':=by
 have hl:=h.len
 obtain ⟨p,hp⟩:∃ p,p=i / 8:=⟨_,rfl⟩
 obtain ⟨t,ht⟩:∃ t,t=i % 8:=⟨_,rfl⟩
 have hq1:(i:Int).tdiv 8=(p:Int):=by rw [hp];rfl
 have hq2:(i:Int).tmod 8=(t:Int):=by rw [ht];rfl
 have ht2:t < 8:=by omega
 have hp3:p≤1000000:=by omega
 by_cases hlt:p < n
 ·obtain ⟨b,o,x,rfl,hb,HX,e1⟩:=h.byte hlt
  have hB:bitB m i=(x.toNat / 2 ^ t % 2 == 1):=by
   unfold bitB
   rw [← hp,← ht,List.getD_eq_getElem?_getD,HX.out,hl,decide_eq_true hlt,Bool.true_and]
   rfl
  rw [hB]
  have t1:decide ((p:Int) < (n:Int))=true:=decide_eq_true (by omega)
  have HAB:=Lib.hid (and_bit1 x t)
  have hy:x.toNat / 2 ^ t % 2 < 2:=Nat.mod_lt _ (by decide)
  generalize x.toNat / 2 ^ t % 2=y at *
  clear hB hp ht HX h hl
  go_enter Try.func40,Try.ntmps40
  go_wp2_with fail
  go_ret
  refine ⟨ret_boolD ?_,rfl⟩
  rw [HAB.out]
  match y,hy with
  | 0,_=>rfl
  | 1,_=>rfl
 ·have hB:bitB m i=false:=by
   unfold bitB
   rw [← hp,hl,decide_eq_false hlt,Bool.false_and]
  rw [hB]
  have t1:decide ((p:Int) < (n:Int))=false:=decide_eq_false (by omega)
  clear hB hp ht h hl
  go_enter Try.func40,Try.ntmps40
  go_wp2_with fail
  go_ret
  exact ⟨rfl,rfl⟩
/-- Some of the changes, as a mask tells, laid upon sectors. -/
def layM (m:Bs) (f:Nat→Option Bs) (p:List (Nat × Bs)):Nat→Nat→Option Bs
 | 0=>f
 | k+1=>match p[k]? with
  | some x=>if bitB m k then updR (layM m f p k) x.1 x.2 else layM m f p k
  | none=>layM m f p k
theorem layM_step {m:Bs} {f:Nat→Option Bs} {p:List (Nat × Bs)} {k kk:Nat} {bs:Bs} (h:p[k]?=some (kk,bs)):layM m f p (k+1)=if bitB m k then updR (layM m f p k) kk bs else layM m f p k:=by
 show (match p[k]? with | some x=>if bitB m k then updR (layM m f p k) x.1 x.2 else layM m f p k | none=>layM m f p k)=_
 rw [h]
def crashS (s:Dk) (m:Bs):Dk:=if s.down then s else { s with now:=layM m s.dur s.pend s.pend.length,dur:=layM m s.dur s.pend s.pend.length,pend:=[],down:=true }
/-- The map that is now is another one. -/
theorem DkOk.renew {w w5:World} {lo d:Nat} {h:Hn} {s:Dk} (k:DkOk w lo d h s) (hb:Below w.heap.size w w5) (nb':Nat) (hnb:w.heap.size≤nb') (hlo:lo≤w.heap.size) {r:Nat→Option (Nat × Nat)} (hm:isMap w5 nb' r)
  (hr:∀ k,s.dur k=none→r k=none) (hs:∀ k bs,s.dur k=some bs→∃ v,r k=some v∧SecAt w (h.S d) v bs) (hnot:∀ g,h.T d g→g < w.heap.size) :
  DkOk (w5.setCell ⟨d,1,none⟩ (.map (some nb'))) lo d { h with nb:=nb' } { s with now:=s.dur }∧Fr (h.T d) w (w5.setCell ⟨d,1,none⟩ (.map (some nb')))∧TT w (h.T d) (Hn.T { h with nb:=nb' } d):=by
 have hTT:TT w (h.T d) (Hn.T { h with nb:=nb' } d):=by
  rintro g (e | e | e | e)
  ·exact .inl (.inl e)
  ·exact .inr (by have e2:g=nb':=e;omega)
  ·exact .inl (.inr (.inr (.inl e)))
  ·exact .inl (.inr (.inr (.inr e)))
 have hF:Fr (h.T d) w (w5.setCell ⟨d,1,none⟩ (.map (some nb'))):=(Fr.of _ hb).setCell (p:=⟨d,1,none⟩) (.inl rfl) _
 have hdl:=k.arr.lt
 have hdb:=k.dur.lt
 have hblk:∀ g,g < w.heap.size→g ≠ d→(w5.setCell ⟨d,1,none⟩ (.map (some nb'))).heap[g]?=w.heap[g]?:=fun g hg hne=>(Below.heap_setCell _ _ _ _ hne).trans (hb.block g hg)
 refine ⟨⟨(k.arr.later hb).set 1 _,(show d ≠ nb' by omega),k.ne2,(show nb' ≠ h.db by omega),k.lo1,(show lo≤nb' by omega),k.lo3,fun g e=>?_,?_,k.dur.fr hF.S (Hn.tts hTT rfl) (hblk _ hdb (fun e=>k.ne2 e.symm)),?_,k.pr.fr hF.S (Hn.tts hTT rfl),k.mask.fr hF.S (Hn.tts hTT rfl),k.size⟩,hF,hTT⟩
 ·have h1:=k.pne g e
  have h2:=hnot g (.inr (.inr (.inr e)))
  exact ⟨h1.1,(show g ≠ nb' by omega),h1.2.2⟩
 ·refine ⟨r,hm.keep (Below.heap_setCell _ _ _ _ (show nb' ≠ d by omega)),hr,fun k' bs e=>?_⟩
  obtain ⟨v,e1,e2⟩:=hs k' bs e
  exact ⟨v,e1,e2.fr hF.S (Hn.tts hTT rfl)⟩
 ·exact (k.own.later hb).far (fun e=>(k.pne _ e).1 rfl) 1 _
end Go.Proofs.Ytdoanopeejeeiaa

