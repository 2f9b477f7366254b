/- XDisk11 -/
import Derived.Test.YtdoanopeejeeiaaMk10
namespace Go.Proofs.Ytdoanopeejeeiaa
set_option linter.all false
open Go.RowKit Go.Maps
set_option maxRecDepth 100000 in
set_option maxHeartbeats 3200000 in
theorem rebootD_any (lo d:Nat) (h:Hn) (s:Dk) (w:World) (H:DkOk w lo d h s) :
  Calls Try.prog 21 #[.pointer (some ⟨d,0,none⟩)] w fun e w'=>(∃ v,e=.returned v)∧DkOk w' lo d h { s with down:=false }∧Fr (h.T d) w w':=by
 have c7:=H.arr.cell (k:=7) rfl
 have f7:=H.arr.frozen 7
 have HC:=Lib.hid (H.cell 7 (.bool false) (s':={ s with down:=false }) rfl rfl rfl rfl rfl rfl)
 clear H
 go_enter Try.func21,Try.ntmps21
 go_wp2_with fail
 (try simp only [Exit.inBlock,Exit.then]);first | (refine bodyPost_ret (results_none rfl _ _ _) rfl ?_) | (refine bodyPost_end (results_none rfl _ _ _) rfl ?_)
 exact ⟨⟨_,rfl⟩,HC.out.1,HC.out.2⟩
set_option maxRecDepth 100000 in
set_option maxHeartbeats 3200000 in
theorem crashD_any (lo d:Nat) (h:Hn) (s:Dk) (n c:Nat) (A:Option Addr) (m:Bs) (w:World) (H:DkOk w lo d h s) (hlo:lo≤w.heap.size) (hm:RowAt w (h.T d) A n m) (hn:n≤1000000) (hp:s.pend.length≤1000000) :
  Calls Try.prog 24 #[.pointer (some ⟨d,0,none⟩),.slice A n c] w fun e w'=>(∃ v,e=.returned v)∧∃ h',DkOk w' lo d h' (crashS s m)∧Fr (h.T d) w w'∧TT w (h.T d) (h'.T d)∧h'.U=h.U:=by
 have c7:=H.arr.cell (k:=7) rfl
 cases hdn:s.down with
 | true =>
  rw [hdn] at c7
  have hs:crashS s m=s:=by unfold crashS;rw [if_pos hdn]
  rw [hs]
  have HH:=Lib.hid H
  clear H hs hdn hm
  go_enter Try.func24,Try.ntmps24
  go_wp2_with fail
  (try simp only [Exit.inBlock,Exit.then]);first | (refine bodyPost_ret (results_none rfl _ _ _) rfl ?_) | (refine bodyPost_end (results_none rfl _ _ _) rfl ?_)
  exact ⟨⟨_,rfl⟩,_,HH.out,Fr.refl _ _,TT.refl _ _,rfl⟩
 | false =>
  rw [hdn] at c7
  have HS:Hid (crashS s m={ s with now:=layM m s.dur s.pend s.pend.length,dur:=layM m s.dur s.pend s.pend.length,pend:=[],down:=true }):=(show _=_ by unfold crashS;rw [hdn];rfl)
  have c3:=H.arr.cell (k:=3) rfl
  have hpl:h.pl.length≤1000000:=by rw [H.pr.1];exact hp
  obtain ⟨A0,cc0,e0,-⟩:=H.own.form
  have hpn:h.pl.length=h.pn:=by unfold Hn.pv at e0;injection e0 with _ e0 _;exact e0.symm
  have HPR:=Lib.hid H.pr.1
  have HH:=Lib.hid H
  have HMK:=Lib.hid hm
  have HBT:=Lib.hid (fun (w':World) (hF:Fr (h.T d) w w') (k:Nat) (hk:k≤1000000)=>bitD_any w'.heap.size n c k A m w' (HMK.out.fr hF (TT.refl _ _)).2.2 (by omega) hk)
  have HLO:=Lib.hid hlo
  clear H e0 hdn A0 cc0 hp hm HMK hlo
  go_enter Try.func24,Try.ntmps24
  go_wp2_with fail
  go_loopw [15] (fun vi wr=>∃ k:Nat,k≤h.pn∧vi=.int .i64 k∧Hid (DkOk wr lo d h { s with dur:=layM m s.dur s.pend k })∧Hid (Fr (h.T d) w wr)) (fun vi _=>h.pn - (intOf vi).toNat)
  case atStart=>exact ⟨0,Nat.zero_le _,rfl,HH.out,Fr.refl _ _⟩
  case round =>
   clear c7 c3
   obtain ⟨k,hk,rfl,HD,HF⟩:=hrel
   by_cases hlt:k < h.pn
   ·have hpk:k < s.pend.length:=by rw [← HPR.out,hpn];exact hlt
    obtain ⟨⟨kk,bs⟩,hb⟩:∃ x,s.pend[k]?=some x:=⟨_,List.getElem?_eq_getElem hpk⟩
    obtain ⟨hkk,⟨g,cc⟩,hv,hsec⟩:=HD.out.pr.2 k kk bs hb
    obtain ⟨b,o,x,hA,hbo,HX,e1,e2⟩:=(HD.out.own.rd).one (k:=k) hlt
    obtain rfl:x=chE kk (g,cc):=by
     have:=HX.out
     rw [hv] at this
     injection this with this
     exact this.symm
    have c2:=HD.out.arr.cell (k:=2) rfl
    have hd1:=HD.out.arr.lt
    obtain ⟨r,hm,hr1,hr2⟩:=HD.out.dur
    have hm1:isMap (wr.alloc (.cells #[.int .i64 (kk:Int),.slice (some ⟨g,0,none⟩) 256 cc] 79)).drew h.db r:=hm.keep (heap_alloc_old wr _ hm.lt)
    obtain ⟨w6,hrun,hm6,hg6⟩:=hm1.store hkk (g,cc)
    simp only [sv] at hrun
    have HM6:=Lib.hid hm6
    have HG6:=Lib.hid hg6
    have HR1:=Lib.hid hr1
    have HR2:=Lib.hid hr2
    have HSEC:=Lib.hid hsec
    have HL:=Lib.hid (layM_step (m:=m) (f:=s.dur) hb)
    have e1':wr.cell? ⟨b,o+k * 2,none⟩=some (.int .i64 (kk:Int)):=e1
    have e2':wr.cell? ⟨b,o+k * 2+1,none⟩=some (.slice (some ⟨g,0,none⟩) 256 cc):=e2
    have hdn:=Nat.ne_of_lt hd1
    have HBK:=Lib.hid (HBT.out (wr.alloc (.cells #[.int .i64 (kk:Int),.slice (some ⟨g,0,none⟩) 256 cc] 79)) (HF.out.alloc _) k (by omega))
    clear hm hr1 hr2 hm1 hm6 hg6 hb hv hsec HX e1 e2 HBT
    obtain ⟨nb,db,pA,pn,pc,pl,mA,mn,mc,hU⟩:=h
    dsimp only at *
    subst hA
    cases hbit:bitB m k with
    | true =>
     rw [hbit] at HBK HL
     go_upto_region 5 with (go_at_call 40;(with_reducible refine HBK.out.mono ?_);go_must (rintro e w1 ⟨rfl,rfl⟩))
     go_region
     all_goals
      go_wp2_with fail
      go_roundw
      case rel =>
       have F6:Fr (fun g=>g=db) wr w6:=(((Fr.refl _ wr).alloc _).drew).trans (Fr.gro (T:=fun g=>g=db) HG6.out rfl)
       obtain ⟨q1,q2⟩:=HD.out.laid HR1.out HR2.out HSEC.out F6 HM6.out
       refine ⟨k+1,by omega,by go_num,?_,HF.out.trans q2⟩
       rw [HL.out]
       exact q1
      case measure=>simp [intOf];omega
    | false =>
     rw [hbit] at HBK HL
     go_wp2_with (go_at_call 40;(with_reducible refine HBK.out.mono ?_);go_must (rintro e w1 ⟨rfl,rfl⟩))
     go_roundw
     case rel =>
      refine ⟨k+1,by omega,by go_num,?_,HF.out.alloc _⟩
      rw [HL.out]
      exact HD.out.later ((Below.refl _ _).alloc (Nat.le_refl _) _)
     case measure=>simp [intOf];omega
   ·obtain rfl:k=h.pn:=by omega
    have hk:h.pn=s.pend.length:=by rw [← hpn];exact HPR.out
    rw [hk] at HD
    have c2:=HD.out.arr.cell (k:=2) rfl
    have HAR:=Lib.hid HD.out.arr
    obtain ⟨r,hm,hr1,hr2⟩:=HD.out.dur
    have HCL:=Lib.hid (cloneM_any h.db r wr hm)
    have HR1:=Lib.hid hr1
    have HR2:=Lib.hid hr2
    clear hm hr1 hr2 hk HBT
    go_wp2_with (go_at_call 41;(with_reducible refine HCL.out.mono ?_);go_must (rintro e w5 ⟨rfl,hm5,hs5,hb5⟩;have HM5:=Lib.hid hm5;have HB5:=Lib.hid hb5;have HA5:=Lib.hid (HAR.out.later hb5);have c1:=HA5.out.cell (k:=1) rfl;have c3:=HA5.out.cell (k:=3) rfl;have c7:=HA5.out.cell (k:=7) rfl;have f1:=HA5.out.frozen 1;have f3:=HA5.out.frozen 3;have f7:=HA5.out.frozen 7;clear hm5 hb5))
    (try simp only [Exit.inBlock,Exit.then]);first | (refine bodyPost_ret (results_none rfl _ _ _) rfl ?_) | (refine bodyPost_end (results_none rfl _ _ _) rfl ?_)
    have hlw:lo≤wr.heap.size:=Nat.le_trans HLO.out HF.out.size
    obtain ⟨q1,q2,q3⟩:=HD.out.renew HB5.out wr.heap.size (Nat.le_refl _) hlw HM5.out HR1.out HR2.out (fun g hg=>(HD.out.Tlt g hg).2)
    obtain ⟨q4,q5,q6⟩:=q1.cleared
    obtain ⟨q7,q8⟩:=q4.cell 7 (.bool true) (s':={ s with now:=layM m s.dur s.pend s.pend.length,dur:=layM m s.dur s.pend s.pend.length,pend:=[],down:=true }) rfl rfl rfl rfl rfl rfl
    have t3:TT w (h.T d) (Hn.T { h with nb:=wr.heap.size } d):=(TT.refl _ _).trans q3 HF.out.size
    refine ⟨⟨_,rfl⟩,Hn.bare { h with nb:=wr.heap.size },by rw [HS.out];exact q7,?_,?_,rfl⟩
    ·exact ((HF.out.trans q2).trans2 t3 q5).trans2 (t3.trans (q6 w) (Nat.le_refl _)) q8
    ·exact t3.trans (q6 w) (Nat.le_refl _)
end Go.Proofs.Ytdoanopeejeeiaa

