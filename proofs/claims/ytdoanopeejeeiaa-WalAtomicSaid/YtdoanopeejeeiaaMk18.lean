/- XWl2 -/
import Derived.Test.YtdoanopeejeeiaaMk17
namespace Go.Proofs.Ytdoanopeejeeiaa
set_option linter.all false
open Go.RowKit Go.Maps
/-- A write at a place that there is, while it is up. -/
def wrF (s:Dk) (k:Nat) (bs:Bs):Int × Dk :=
 if s.falls=1 then (12,crashS { s with writes:=s.writes+1,pend:=s.pend ++ [(k,bs)],falls:=0 } s.mask) else (0,{ s with writes:=s.writes+1,pend:=s.pend ++ [(k,bs)],now:=updR s.now k bs,falls:=s.falls - 1 })
theorem DkOk.rest {w:World} {lo d:Nat} {h:Hn} {s:Dk} (k:DkOk w lo d h s) (hU:∀ g,w.heap.size≤g→¬ h.U g):∀ g,w.heap.size≤g→¬ h.S d g:=fun g hg e=>e.elim (k.fresh g hg) (hU g hg)
theorem Fr.up {T:Nat→Prop} {w w':World} (h:Fr T w w') {U:Nat→Prop} (hU:∀ g,w.heap.size≤g→¬ U g):∀ g,w'.heap.size≤g→¬ U g:=fun g hg=>hU g (Nat.le_trans h.size hg)
set_option maxRecDepth 100000 in
set_option maxHeartbeats 6400000 in
theorem writeF_any (lo d:Nat) (h:Hn) (s:Dk) (q c:Nat) (A:Option Addr) (bs:Bs) (w:World) (H:DkOk w lo d h s) (hq0:q < s.n) (hdn:s.down=false) (hlo:lo≤w.heap.size) (hr:RowAt w (h.T d) A 256 bs) (hf:s.falls≤9223372036854775807) (hwr:s.writes≤1000000000) (hp:s.pend.length≤900000) (hmk:s.mask.length≤1000000) (hU:∀ g,w.heap.size≤g→¬ h.U g) :
  Calls Try.prog 42 #[.pointer (some ⟨d,0,none⟩),.int .i64 (q:Int),.slice A 256 c] w fun e w'=>e=.returned (.int .i64 (wrF s q bs).1)∧∃ h',DkOk w' lo d h' (wrF s q bs).2∧Fr (h.T d) w w'∧TT w (h.T d) (h'.T d)∧h'.U=h.U:=by
 have h0:wrongD s (q:Int)=0:=by unfold wrongD;rw [hdn,if_neg (by decide),if_neg (by omega)]
 have HW:=Lib.hid (wrongD_any lo d h s q w H.arr)
 have hlen:=hr.1
 have hq:q < 4096:=by have:=H.size;omega
 rw [h0] at HW
 clear h0 hq0
 have c4:=H.arr.cell (k:=4) rfl
 have f4:=H.arr.frozen 4
 obtain ⟨H1,F1⟩:=H.cell 4 (.int .i64 ((s.writes:Int)+1)) (s':={ s with writes:=s.writes+1 }) rfl rfl rfl rfl rfl rfl
 have HH1:=Lib.hid H1
 have HF1:=Lib.hid F1
 have hpl:h.pl.length≤1000000:=by rw [H.pr.1];omega
 have HR:=Lib.hid hr
 have HLO:=Lib.hid hlo
 have HTL:=Lib.hid (H.rest hU)
 have HUU:=Lib.hid hU
 have HPN:=Lib.hid hp
 have HMK:=Lib.hid hmk
 clear H H1 F1 hr hp hlo hU hmk
 go_enter Try.func42,Try.ntmps42
 go_upto_region 7 with (go_at_call 46;(with_reducible refine HW.out.mono ?_);go_must (rintro e w1 ⟨rfl,rfl⟩))
 generalize hW1:w.setCell ⟨d,4,none⟩ (.int .i64 ((s.writes:Int)+1))=W1 at *
 have HR1:=Lib.hid (HR.out.fr HF1.out (TT.refl _ _))
 have hs1:w.heap.size≤W1.heap.size:=HF1.out.size
 have hlo1:lo≤W1.heap.size:=Nat.le_trans HLO.out hs1
 have HC:=Lib.hid (fun (w':World) (hb:Below W1.heap.size W1 w')=>secClone_any 256 c A bs (h.S d) w' (HR1.out.2.2.later hb) hlen (fun g hg=>HTL.out g (Nat.le_trans (Nat.le_trans hs1 hb.size) hg)))
 have c3:=HH1.out.arr.cell (k:=3) rfl
 have HA1:=Lib.hid HH1.out.arr
 have HPD:Hid (h.pv.ownBlock ≠ some d):=(show _ ≠ _ from fun e=>(HH1.out.pne d e).1 rfl)
 clear c4 f4 HW hW1
 go_cut [] (fun wx=>∃ h2,DkOk wx lo d h2 { s with writes:=s.writes+1,pend:=s.pend ++ [(q,bs)] }∧Fr (h.T d) W1 wx∧TT W1 (h.T d) (h2.T d)∧h2.U=h.U)
 case first =>
  have hX:=Below.refl W1.heap.size W1
  go_region_law (first
   | (refine step_appendH rfl (.tmp 28) (.tmp 33) rfl lo h.pv h.pl rfl ((HH1.out.own.later HB5.out).alloc _) (w5.heap.size+1) 1 1 (some ⟨w5.heap.size,0,none⟩) [chE q (g5,c5)] rfl (rd_oneH w5 (chE q (g5,c5)) _ _) (by omega) (by simp only [World.size_alloc];omega) ?_;intro v7 w7 h7 hg7 hb7 hat7;obtain ⟨A7,cc7,e7,hr7,-,-⟩:=h7.form;obtain ⟨n7,hn7⟩:∃ n7,n7=(h.pl ++ [chE q (g5,c5)]).length:=⟨_,rfl⟩;rw [← hn7] at e7;subst e7;clear hn7;have H7:=Lib.hid h7;have HG7:=Lib.hid hg7;have HAT7:=Lib.hid hat7;have hA7:=((HA1.out.later HB5.out).alloc _).grO hg7 HPD.out;have c37:=hA7.cell (k:=3) rfl;have f37:=hA7.frozen 3;clear h7 hg7 hb7 hat7 hr7 hA7)
   | (go_simp;go_at_call 39;(with_reducible refine (HC.out _ ?_).mono ?_);(first | exact hX | exact Below.drew hX);go_must (rintro e w5 ⟨g5,c5,rfl,hs5,hlo5,hb5⟩;have HS5:=Lib.hid hs5;have HB5:=Lib.hid (show Below W1.heap.size W1 w5 by first | exact hb5 | exact bstep (Below.drew hX) hb5 (Nat.le_refl _));have c35:=(HA1.out.later HB5.out).cell (k:=3) rfl;have sz5:=HB5.out.size;have hd5:=(HA1.out.later HB5.out).lt;have hd5n:=Nat.ne_of_lt hd5;clear hs5 hb5)))
  all_goals
   go_wp2_with fail
   go_meet
   case rel =>
    obtain ⟨q1,q2,q3⟩:=DkOk.pushed HH1.out HB5.out _ hq HS5.out H7.out HG7.out HAT7.out
    exact ⟨_,q1,q2,q3,rfl⟩
 case rest =>
 obtain ⟨h2,H2,F2,T2,U2⟩:=hcut
 have HF2:=Lib.hid (HF1.out.trans F2)
 have HT2:Hid (TT w (h.T d) (h2.T d)):=(show TT _ _ _ from (TT.refl _ _).trans T2 hs1)
 have HR2:=Lib.hid (HR1.out.fr F2 T2)
 have HH2:=Lib.hid H2
 have HU2:Hid (∀ g,wc.heap.size≤g→¬ h2.U g):=(show ∀ g,_ from by rw [U2];exact HF2.out.up HUU.out)
 have hszc:w.heap.size≤wc.heap.size:=HF2.out.size
 have c5:=H2.arr.cell (k:=5) (v:=.int .i64 (s.falls:Int)) rfl
 have f5:=H2.arr.frozen 5
 have HC5:=Lib.hid (fun v (s':Dk) e1 e2 e3 e4 e5 e6=>H2.cell 5 v (s':=s') e1 e2 e3 e4 e5 e6)
 clear H2 F2 T2 HC HA1 HPD c3 HH1 HF1 HR HTL HR1
 by_cases hf0:s.falls=0
 ·have HS:Hid (wrF s q bs=(0,{ s with writes:=s.writes+1,pend:=s.pend ++ [(q,bs)],now:=updR s.now q bs,falls:=s.falls - 1 })):=(show _=_ by unfold wrF;rw [if_neg (by omega)])
  have e0:s.falls - 1=s.falls:=by omega
  rw [hf0] at c5
  have HH3:Hid (DkOk wc lo d h2 { s with writes:=s.writes+1,pend:=s.pend ++ [(q,bs)],falls:=s.falls - 1 }):=(show DkOk _ _ _ _ _ by rw [e0];exact HH2.out)
  generalize hW3:wc=W3 at *
  have HF3:=HF2
  have HU3:=HU2
  have HR3:=HR2
  clear HH2 HU2 HR2 HF2 HC5 e0
  have c1:=HH3.out.arr.cell (k:=1) rfl
  obtain ⟨r,hm,hr1,hr2⟩:=HH3.out.now
  have HM:=Lib.hid hm
  have HR1':=Lib.hid hr1
  have HR2':=Lib.hid hr2
  have HC2:=Lib.hid (fun (w':World) (hb:Below W3.heap.size W3 w')=>secClone_any 256 c A bs (h2.S d) w' (HR3.out.2.2.later hb) hlen (fun g hg=>HH3.out.rest HU3.out g (Nat.le_trans hb.size hg)))
  clear hr1 hr2 hm
  go_upto_region 13 with fail
  have hX:=Below.refl W3.heap.size W3
  go_region_law (first
   | (go_simp;go_at_call 39;(with_reducible refine (HC2.out _ ?_).mono ?_);(first | exact hX | exact Below.drew hX);go_must (rintro e w9 ⟨g9,c9,rfl,hs9,hlo9,hb9⟩;have HS9:=Lib.hid hs9;have HB9:=Lib.hid (show Below W3.heap.size W3 w9 by first | exact hb9 | exact bstep (Below.drew hX) hb9 (Nat.le_refl _));have c19:=(HH3.out.arr.later HB9.out).cell (k:=1) rfl;obtain ⟨w6,hrun,hm6,hg6⟩:=(HM.out.later HB9.out).store hq (g9,c9);have HM6:=Lib.hid hm6;have HG6:=Lib.hid hg6;unfold sv at hrun;dsimp only at hrun;clear hs9 hb9 hm6 hg6)))
  all_goals
   go_wp2_with fail
   go_ret
   have F6:Fr (fun g=>g=h2.nb) W3 w6:=(Fr.of _ HB9.out).trans (Fr.gro HG6.out rfl)
   have F6T:Fr (h2.T d) W3 w6:=F6.mono (fun g e=>.inr (.inl e))
   have hn:=secs.put HR1'.out HR2'.out F6T.S (HS9.out.fr (Fr.gro HG6.out (.inl (.inr (.inl rfl)))) (TT.refl _ _)) HM6.out
   have hd2:=HH3.out.dur.fr F6T.S (TT.refl _ _) (F6.block _ HH3.out.dur.lt (fun e=>HH3.out.ne3 e.symm))
   obtain ⟨q1,q2⟩:=HH3.out.mapped h2.nb F6 (.inl rfl) { s with writes:=s.writes+1,pend:=s.pend ++ [(q,bs)],now:=updR s.now q bs,falls:=s.falls - 1 } hn hd2 rfl rfl rfl rfl
   rw [HS.out]
   exact ⟨rfl,h2,q1,HF3.out.trans2 HT2.out q2,HT2.out,U2⟩
 ·by_cases hf1:s.falls=1
  ·have HS:Hid (wrF s q bs=(12,crashS { s with writes:=s.writes+1,pend:=s.pend ++ [(q,bs)],falls:=0 } s.mask)):=(show _=_ by unfold wrF;rw [if_pos hf1])
   rw [hf1] at c5
   obtain ⟨q1,q2⟩:=HC5.out (.int .i64 0) { s with writes:=s.writes+1,pend:=s.pend ++ [(q,bs)],falls:=0 } rfl rfl rfl rfl rfl rfl
   have HH3:=Lib.hid q1
   have HF3:=Lib.hid (HF2.out.trans2 HT2.out q2)
   have c6:=q1.arr.cell (k:=6) rfl
   have c56:=q1.arr.cell (k:=5) rfl
   have HM3:=Lib.hid (q1.mask.sub (h2.TS d))
   have hmn:h2.mn≤1000000:=by have:=HM3.out.1;have:=HMK.out;simp only at *;omega
   have HCR:=Lib.hid (crashD_any lo d h2 _ h2.mn h2.mc h2.mA s.mask _ q1 (by have:=HLO.out;have:=HF3.out.size;omega) HM3.out hmn (by have:=HPN.out;simp;omega))
   clear q1 q2 HC5
   go_wp2_with (go_at_call 24;(with_reducible refine HCR.out.mono ?_);go_must (rintro e w9 ⟨⟨v9,rfl⟩,h9,H9,F9,T9,U9⟩;have HH9:=Lib.hid H9;have HF9:=Lib.hid F9;have HT9:=Lib.hid T9;have HU9:=Lib.hid U9;clear H9 F9 T9 U9))
   go_ret
   rw [HS.out]
   exact ⟨rfl,h9,HH9.out,HF3.out.trans2 HT2.out HF9.out,HT2.out.trans (fun g hg=>(HT9.out g hg).imp id (fun h=>by rw [World.size_setCell] at h;exact h)) hszc,HU9.out.trans U2⟩
  ·obtain ⟨G,hG⟩:∃ G,s.falls=G+1:=⟨s.falls - 1,by omega⟩
   have HS:Hid (wrF s q bs=(0,{ s with writes:=s.writes+1,pend:=s.pend ++ [(q,bs)],now:=updR s.now q bs,falls:=s.falls - 1 })):=(show _=_ by unfold wrF;rw [if_neg hf1])
   have hG1:1≤G:=by omega
   have hsub:((G+1:Nat):Int) - 1=(G:Int):=by omega
   have hpos:(0:Int) < ((G+1:Nat):Int):=by omega
   have hgz:((G:Int) == 0)=false:=beq_eq_false_iff_ne.2 (by omega)
   rw [hG] at c5
   have hGm:s.falls - 1=G:=by omega
   obtain ⟨F,hFG⟩:∃ F,G+1=F:=⟨_,rfl⟩
   rw [hFG] at c5 hsub hpos
   have hF9:F≤9223372036854775807:=by omega
   obtain ⟨q1,q2⟩:=HC5.out (.int .i64 (G:Int)) { s with writes:=s.writes+1,pend:=s.pend ++ [(q,bs)],falls:=s.falls - 1 } (by rw [hGm];rfl) rfl rfl rfl rfl rfl
   have HH3:=Lib.hid q1
   have HF3:=Lib.hid (HF2.out.trans2 HT2.out q2)
   have HU3:Hid (∀ g,(wc.setCell ⟨d,5,none⟩ (.int .i64 (G:Int))).heap.size≤g→¬ h2.U g):=(show ∀ g,_ from q2.up HU2.out)
   have HR3:=Lib.hid (HR2.out.fr q2 (TT.refl _ _))
   have c56:(wc.setCell ⟨d,5,none⟩ (.int .i64 (G:Int))).cell? ⟨d,5,none⟩=some (.int .i64 (G:Int)):=by have:=q1.arr.cell (k:=5) (v:=.int .i64 ((s.falls - 1:Nat):Int)) rfl;rw [hGm] at this;exact this
   clear q1 q2 HC5 HH2 HU2 HR2 HF2
   go_upto_region 13 with fail
   clear c56
   generalize hW3:wc.setCell ⟨d,5,none⟩ (.int .i64 (G:Int))=W3 at *
   have c1:=HH3.out.arr.cell (k:=1) rfl
   obtain ⟨r,hm,hr1,hr2⟩:=HH3.out.now
   have HM:=Lib.hid hm
   have HR1':=Lib.hid hr1
   have HR2':=Lib.hid hr2
   have HC2:=Lib.hid (fun (w':World) (hb:Below W3.heap.size W3 w')=>secClone_any 256 c A bs (h2.S d) w' (HR3.out.2.2.later hb) hlen (fun g hg=>HH3.out.rest HU3.out g (Nat.le_trans hb.size hg)))
   clear hr1 hr2 hm
   have hX:=Below.refl W3.heap.size W3
   go_region_law (first
    | (go_simp;go_at_call 39;(with_reducible refine (HC2.out _ ?_).mono ?_);(first | exact hX | exact Below.drew hX);go_must (rintro e w9 ⟨g9,c9,rfl,hs9,hlo9,hb9⟩;have HS9:=Lib.hid hs9;have HB9:=Lib.hid (show Below W3.heap.size W3 w9 by first | exact hb9 | exact bstep (Below.drew hX) hb9 (Nat.le_refl _));have c19:=(HH3.out.arr.later HB9.out).cell (k:=1) rfl;obtain ⟨w6,hrun,hm6,hg6⟩:=(HM.out.later HB9.out).store hq (g9,c9);have HM6:=Lib.hid hm6;have HG6:=Lib.hid hg6;unfold sv at hrun;dsimp only at hrun;clear hs9 hb9 hm6 hg6)))
   all_goals
    go_wp2_with fail
    go_ret
    have F6:Fr (fun g=>g=h2.nb) W3 w6:=(Fr.of _ HB9.out).trans (Fr.gro HG6.out rfl)
    have F6T:Fr (h2.T d) W3 w6:=F6.mono (fun g e=>.inr (.inl e))
    have hn:=secs.put HR1'.out HR2'.out F6T.S (HS9.out.fr (Fr.gro HG6.out (.inl (.inr (.inl rfl)))) (TT.refl _ _)) HM6.out
    have hd2:=HH3.out.dur.fr F6T.S (TT.refl _ _) (F6.block _ HH3.out.dur.lt (fun e=>HH3.out.ne3 e.symm))
    obtain ⟨q1,q2⟩:=HH3.out.mapped h2.nb F6 (.inl rfl) { s with writes:=s.writes+1,pend:=s.pend ++ [(q,bs)],now:=updR s.now q bs,falls:=s.falls - 1 } hn hd2 rfl rfl rfl rfl
    rw [HS.out]
    exact ⟨rfl,h2,q1,HF3.out.trans2 HT2.out q2,HT2.out,U2⟩
end Go.Proofs.Ytdoanopeejeeiaa

