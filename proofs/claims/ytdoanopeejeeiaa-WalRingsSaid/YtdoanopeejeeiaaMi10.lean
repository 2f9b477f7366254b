/- XDisk7 XDisk8 -/
import Derived.Test.YtdoanopeejeeiaaMi09
namespace Go.Proofs.Ytdoanopeejeeiaa
set_option linter.all false
open Go.RowKit Go.Maps
theorem Arr.grO {w w':World} {g:Nat} {cs:List Value} {row:Option Nat} (h:Arr w g cs) (hb:w.grownBy w' row) (hg:row ≠ some g):Arr w' g cs:=by
 have hl:=h.lt
 obtain ⟨t,h⟩:=h
 exact ⟨t,(hb.block g hl (fun e=>hg e.symm)).trans h⟩
end Go.Proofs.Ytdoanopeejeeiaa

/- A disk: Flush. -/
namespace Go.Proofs.Ytdoanopeejeeiaa
set_option linter.all false
open Go.RowKit Go.Maps
/-- Changes that are laid upon sectors. -/
def layF (f:Nat→Option Bs) (p:List (Nat × Bs)):Nat→Option Bs:=p.foldl (fun f x=>updR f x.1 x.2) f
theorem layF_snoc (f:Nat→Option Bs) {p:List (Nat × Bs)} {i k:Nat} {bs:Bs} (h:p[i]?=some (k,bs)):layF f (p.take (i+1))=updR (layF f (p.take i)) k bs:=by
 have:p.take (i+1)=p.take i ++ [(k,bs)]:=by rw [List.take_add_one,h];rfl
 rw [this]
 unfold layF
 rw [List.foldl_append]
 rfl
def flushS (s:Dk):Dk:=if s.down then s else { s with dur:=layF s.dur s.pend,pend:=[] }
/-- A change laid upon the durable sectors. -/
theorem DkOk.laid {w w6:World} {lo d:Nat} {h:Hn} {s:Dk} (k:DkOk w lo d h s) {r:Nat→Option (Nat × Nat)} (hr:∀ k,s.dur k=none→r k=none) (hs:∀ k bs,s.dur k=some bs→∃ v,r k=some v∧SecAt w (h.S d) v bs)
  {q g c:Nat} {bs:Bs} (h5:SecAt w (h.S d) (g,c) bs) (hF:Fr (fun g=>g=h.db) w w6) (hm:isMap w6 h.db (updR r q (g,c))):DkOk w6 lo d h { s with dur:=updR s.dur q bs }∧Fr (h.T d) w w6:=by
 have hT:Fr (h.T d) w w6:=hF.mono (fun g e=>.inr (.inr (.inl e)))
 have hd:=secs.put hr hs hT.S (h5.fr hT.S (TT.refl _ _)) hm
 have hn:=k.now.fr hT.S (TT.refl _ _) (hF.block _ k.now.lt (fun e=>k.ne3 e))
 exact k.mapped h.db hF (.inr rfl) { s with dur:=updR s.dur q bs } hn hd rfl rfl rfl rfl
/-- Nothing is pending. -/
def Hn.bare (h:Hn):Hn:={ h with pA:=none,pn:=0,pc:=0,pl:=[] }
theorem Hn.bareT (h:Hn) (d:Nat):∀ g,h.bare.T d g→h.T d g:=by
 rintro g (e | e | e | e)
 ·exact .inl e
 ·exact .inr (.inl e)
 ·exact .inr (.inr (.inl e))
 ·cases e
theorem DkOk.cleared {w:World} {lo d:Nat} {h:Hn} {s:Dk} (k:DkOk w lo d h s) :
  DkOk (w.setCell ⟨d,3,none⟩ (.slice none 0 0)) lo d h.bare { s with pend:=[] }∧Fr (h.T d) w (w.setCell ⟨d,3,none⟩ (.slice none 0 0))∧∀ w0:World,TT w0 (h.T d) (h.bare.T d):=by
 have hF:=(Fr.refl (h.T d) w).setCell (p:=⟨d,3,none⟩) (.inl rfl) (.slice none 0 0)
 have hT:∀ w0,TT w0 (h.T d) (h.bare.T d):=fun w0 g hg=>.inl (h.bareT d g hg)
 have hb:∀ g,g ≠ d→(w.setCell ⟨d,3,none⟩ (.slice none 0 0)).heap[g]?=w.heap[g]?:=fun g hg=>Below.heap_setCell _ _ _ _ hg
 exact ⟨⟨k.arr.set 3 _,k.ne1,k.ne2,k.ne3,k.lo1,k.lo2,k.lo3,(fun g e=>by cases e),k.now.fr hF.S (Hn.tts (hT w) rfl) (hb _ (fun e=>k.ne1 e.symm)),k.dur.fr hF.S (Hn.tts (hT w) rfl) (hb _ (fun e=>k.ne2 e.symm)),ownH.nil_ _ _,PR.nil _ _,k.mask.fr hF.S (Hn.tts (hT w) rfl),k.size⟩,hF,hT⟩
set_option maxRecDepth 100000 in
set_option maxHeartbeats 3200000 in
theorem flushD_any (lo d:Nat) (h:Hn) (s:Dk) (w:World) (H:DkOk w lo d h s) (hp:s.pend.length≤1000000) :
  Calls Try.prog 43 #[.pointer (some ⟨d,0,none⟩)] w fun e w'=>e=.returned (.int .i64 (if s.down then 12 else 0))∧∃ h',DkOk w' lo d h' (flushS s)∧Fr (h.T d) w w'∧TT w (h.T d) (h'.T d)∧h'.U=h.U:=by
 have c7:=H.arr.cell (k:=7) rfl
 cases hdn:s.down with
 | true =>
  rw [hdn] at c7
  have hs:flushS s=s:=by unfold flushS;rw [if_pos hdn]
  rw [hs]
  have HH:=Lib.hid H
  clear H hs hdn
  go_enter Try.func43,Try.ntmps43
  go_wp2_with fail
  go_ret
  exact ⟨rfl,_,HH.out,Fr.refl _ _,TT.refl _ _,rfl⟩
 | false =>
  rw [hdn] at c7
  have HS:Hid (flushS s={ s with dur:=layF s.dur s.pend,pend:=[] }):=(show _=_ by unfold flushS;rw [hdn];rfl)
  have c3:=H.arr.cell (k:=3) rfl
  have hpl:h.pl.length≤1000000:=by rw [H.pr.1];exact hp
  obtain ⟨A0,cc0,e0,-⟩:=H.own.form
  have hpn:h.pl.length=h.pn:=by unfold Hn.pv at e0;injection e0 with _ e0 _;exact e0.symm
  have HPR:=Lib.hid H.pr.1
  have HH:=Lib.hid H
  clear H e0 hdn A0 cc0 hp
  go_enter Try.func43,Try.ntmps43
  go_wp2_with fail
  go_loopw [14] (fun vi wr=>∃ k:Nat,k≤h.pn∧vi=.int .i64 k∧Hid (DkOk wr lo d h { s with dur:=layF s.dur (s.pend.take k) })∧Hid (Fr (h.T d) w wr)) (fun vi _=>h.pn - (intOf vi).toNat)
  case atStart=>exact ⟨0,Nat.zero_le _,rfl,HH.out,Fr.refl _ _⟩
  case round =>
   clear c7 c3
   obtain ⟨k,hk,rfl,HD,HF⟩:=hrel
   by_cases hlt:k < h.pn
   ·have hpk:k < s.pend.length:=by rw [← HPR.out,hpn];exact hlt
    obtain ⟨⟨kk,bs⟩,hb⟩:∃ x,s.pend[k]?=some x:=⟨_,List.getElem?_eq_getElem hpk⟩
    obtain ⟨hkk,⟨g,c⟩,hv,hsec⟩:=HD.out.pr.2 k kk bs hb
    obtain ⟨b,o,x,hA,hbo,HX,e1,e2⟩:=(HD.out.own.rd).one (k:=k) hlt
    obtain rfl:x=chE kk (g,c):=by
     have:=HX.out
     rw [hv] at this
     injection this with this
     exact this.symm
    have c2:=HD.out.arr.cell (k:=2) rfl
    have hd1:=HD.out.arr.lt
    obtain ⟨r,hm,hr1,hr2⟩:=HD.out.dur
    have hm1:isMap (wr.alloc (.cells #[.int .i64 (kk:Int),.slice (some ⟨g,0,none⟩) 256 c] 79)).drew h.db r:=hm.keep (heap_alloc_old wr _ hm.lt)
    obtain ⟨w6,hrun,hm6,hg6⟩:=hm1.store hkk (g,c)
    unfold sv at hrun
    dsimp only at hrun
    have HM6:=Lib.hid hm6
    have HG6:=Lib.hid hg6
    have HR1:=Lib.hid hr1
    have HR2:=Lib.hid hr2
    have HSEC:=Lib.hid hsec
    have HL:=Lib.hid (layF_snoc s.dur hb)
    have e1':wr.cell? ⟨b,o+k * 2,none⟩=some (.int .i64 (kk:Int)):=e1
    have e2':wr.cell? ⟨b,o+k * 2+1,none⟩=some (.slice (some ⟨g,0,none⟩) 256 c):=e2
    have hdn:=Nat.ne_of_lt hd1
    clear hm hr1 hr2 hm1 hm6 hg6 hb hv hsec HX e1 e2
    obtain ⟨nb,db,pA,pn,pc,pl,mA,mn,mc,hU⟩:=h
    dsimp only at *
    subst hA
    go_upto_region 6 with fail
    go_region
    all_goals
     go_wp2_with fail
     go_roundw
     case rel =>
      have F6:Fr (fun g=>g=db) wr w6:=(((Fr.refl _ wr).alloc _).drew).trans (Fr.gro HG6.out rfl)
      obtain ⟨q1,q2⟩:=HD.out.laid HR1.out HR2.out HSEC.out F6 HM6.out
      refine ⟨k+1,by omega,by go_num,?_,HF.out.trans q2⟩
      rw [HL.out]
      exact q1
     case measure=>simp [intOf];omega
   ·obtain rfl:k=h.pn:=by omega
    have hk:s.pend.take h.pn=s.pend:=List.take_of_length_le (by rw [← HPR.out,hpn];exact Nat.le_refl _)
    rw [hk] at HD
    have c3:=HD.out.arr.cell (k:=3) rfl
    have f3:=HD.out.arr.frozen 3
    obtain ⟨q1,q2,q3⟩:=HD.out.cleared
    have Q1:=Lib.hid q1
    have Q2:=Lib.hid q2
    have Q3:=Lib.hid (q3 w)
    clear q1 q2 q3 hk
    go_wp2_with fail
    go_ret
    refine ⟨rfl,_,?_,HF.out.trans Q2.out,Q3.out,rfl⟩
    rw [HS.out]
    exact Q1.out
end Go.Proofs.Ytdoanopeejeeiaa

