/- XWl9 -/
import Derived.Test.YtdoanopeejeeiaaMk28
namespace Go.Proofs.Ytdoanopeejeeiaa
set_option linter.all false
open Go.RowKit Go.Maps
/-- What stays of a disk beside its sectors. -/
structure Bk (s s':Dk) (m:Nat):Prop where
 n:s'.n=s.n
 mask:s'.mask=s.mask
 writes:s'.writes≤s.writes+m
 falls0:s.falls=0→s'.falls=0
 le:s'.falls≤s.falls
theorem Bk.refl (s:Dk) (m:Nat):Bk s s m:=⟨rfl,rfl,by omega,fun h=>h,Nat.le_refl _⟩
theorem Bk.trans {s s' s'':Dk} {m m':Nat} (h:Bk s s' m) (k:Bk s' s'' m'):Bk s s'' (m+m'):=⟨k.n.trans h.n,k.mask.trans h.mask,by have:=h.writes;have:=k.writes;omega,fun e=>k.falls0 (h.falls0 e),Nat.le_trans k.le h.le⟩
theorem Bk.more {s s':Dk} {m m':Nat} (h:Bk s s' m) (hm:m≤m'):Bk s s' m':=⟨h.n,h.mask,by have:=h.writes;omega,h.falls0,h.le⟩
theorem WrRes.bk {s s':Dk} {f:SF} {l:List (Nat × Bs)} {E:Int} (h:WrRes s f l E s'):Bk s s' l.length:=⟨h.n,h.mask,h.writes,fun e=>(h.falls e).1,h.le⟩
/-- What a change done once more leaves. -/
def RedoRes (s:Dk) (f:SF) (ring seq pos:Nat) (ps:List (Nat × Bs)) (R:Bool) (E:Int) (s':Dk):Prop :=
 Bk s s' 151∧(s.falls=0→E=0) ∧
  ((E=0∧R=true∧s'.down=false∧∃ f',At s' f'∧LogA f' s.n ring (seq+1) (posN ring pos ps.length)∧∀ j,2+ring≤j→f' j=layL f ps j)∨(E=12∧s'.down=true∧∃ f',At s' f'∧Mid2 f s.n ring seq pos ps f'))
set_option maxRecDepth 100000 in
set_option maxHeartbeats 6400000 in
theorem redoA_any (lo d l:Nat) (h:Hn) (s:Dk) (f:SF) (ring seq pos:Nat) (w:World) (H:LgOk w lo d l h s ring seq pos) (hat:At s f) (hdn:s.down=false) (hA:LogA f s.n ring seq pos) (hs:seq≤1000000) :
  Calls Try.prog 32 #[.pointer (some ⟨l,0,none⟩)] w fun e w'=>e=.returned (.tuple #[.bool false,.int .i64 0])∧Below w.heap.size w w':=by
 have hN:=H.dk.size
 have HM:=Lib.hid (marked_any lo d l h s f ring seq pos w H hat hdn (by have:=hA.r2;omega) hA.p hs _ 0 rfl (by rw [if_neg (fun e=>hA.mark.ne (by omega) _ _ e.1)]))
 clear H hat hA
 go_enter Try.func32,Try.ntmps32
 go_wp2_with (go_at_call 49;(with_reducible refine HM.out.mono ?_);go_must (rintro e w1 ⟨rfl,hb1⟩;have HB1:=Lib.hid hb1;clear hb1))
 go_ret2
 exact ⟨rfl,HB1.out⟩
set_option maxRecDepth 100000 in
set_option maxHeartbeats 6400000 in
theorem redoB_any (lo d l:Nat) (h:Hn) (s:Dk) (f:SF) (ring seq pos:Nat) (ps:List (Nat × Bs)) (w:World) (H:LgOk w lo d l h s ring seq pos) (hlo:lo≤w.heap.size) (hat:At s f) (hdn:s.down=false) (hB:LogB f s.n ring seq pos ps) (hs:seq≤1000000)
  (hf:s.falls≤9223372036854775807) (hwr:s.writes≤800000000) (hmk:s.mask.length≤1000000) :
  Calls Try.prog 32 #[.pointer (some ⟨l,0,none⟩)] w fun e w'=>∃ R E s' h',e=.returned (.tuple #[.bool R,.int .i64 E])∧RedoRes s f ring seq pos ps R E s'∧DkOk w' lo d h' s' ∧
   (E=0→LgOk w' lo d l h' s' ring (seq+1) (posN ring pos ps.length))∧Fr (fun g=>h.T d g∨g=l) w w'∧TT w (h.T d) (h'.T d)∧h'.U=h.U:=by
 have hN:=H.dk.size
 have hr2:=hB.r2
 obtain ⟨n,hn⟩:∃ n,ps.length=n:=⟨_,rfl⟩
 have hn1:1≤n:=by rw [← hn];exact List.length_pos_iff.2 hB.good.ne
 have hn2:n≤150:=by rw [← hn];exact hB.good.few
 have hnum:numAt (f 1) 10 2=n:=by
  unfold numAt
  rw [hB.mark,(markB_cuts _ _ _).2.2,hn]
  exact beV_beB 2 n (by omega)
 have HM:=Lib.hid (marked_any lo d l h s f ring seq pos w H hat hdn (by omega) hB.p hs n n hnum.symm (by rw [if_pos ⟨by rw [← hn];exact hB.mark,by rw [← hn];exact hB.good.need⟩]))
 have HRD:=Lib.hid (fun (w':World) (hb:Below w.heap.size w w')=>read_any lo d l h s f ring seq pos ps n w' (H.later hb) hat hdn hB hn)
 have HL:=Lib.hid H
 have HG:=Lib.hid hB
 have HAT:=Lib.hid hat
 have HDN:=Lib.hid hdn
 have HLO:=Lib.hid hlo
 have HMK:=Lib.hid hmk
 have HFL:=Lib.hid hf
 have HWR:=Lib.hid hwr
 have HN:=Lib.hid hn
 have c0:=H.lg.cell (k:=0) rfl
 have hz:((n:Int) == 0)=false:=beq_eq_false_iff_ne.2 (by omega)
 clear H hat hdn hlo hmk hf hwr hB hnum hn
 go_enter Try.func32,Try.ntmps32
 go_upto_region 8 with (first
  | (go_at_call 49;(with_reducible refine HM.out.mono ?_);go_must (rintro e w1 ⟨rfl,hb1⟩;have hB1:=hb1;clear hb1;have HRD1:=Lib.hid (HRD.out w1 hB1)))
  | (go_at_call 50;(with_reducible refine HRD1.out.mono ?_);go_must (rintro e w2 ⟨A2,c2,rfl,hp2,hb2⟩;have hB2:Below w.heap.size w w2:=hB1.trans (hb2.mono hB1.size);have k0:=cell_later c0 hB2;have HWS:=Lib.hid (writes_any lo d h s f ps A2 n c2 w2 (HL.out.dk.later hB2) (by have:=hB2.size;have:=HLO.out;omega) HAT.out HDN.out hp2 (fun x hx=>(HG.out.good.home x hx).2.1) (by rw [HN.out];omega) HFL.out (by have:=HWR.out;omega) HMK.out (HL.out.later hB2).hU);clear hp2 hb2))
  | (go_at_call 27;(with_reducible refine HWS.out.mono ?_);go_must (rintro e w7 ⟨E7,s7,h7,rfl,r7,H7,F7,T7,U7⟩;have HR7:=Lib.hid r7;have HH7:=Lib.hid H7;have HF7:=Lib.hid ((Fr.of (h.T d) hB2).trans F7);have HT7:Hid (TT w (h.T d) (h7.T d)):=(show TT _ _ _ from (TT.refl _ _).trans T7 hB2.size);have HU7:=Lib.hid U7;clear r7 H7 F7 T7 U7)))
 have HL7:=Lib.hid (HL.out.step HH7.out HF7.out HT7.out HU7.out)
 rcases HR7.out.res with ⟨hE,hd7,ha7⟩ | ⟨hE,hd7,f7,ha7,hp7⟩
 ·subst hE
  have HA7:=Lib.hid ha7
  have hbk:=HR7.out.bk
  have HB7:=Lib.hid (HG.out.laid)
  have HDO:=Lib.hid (done_any lo d l h7 s7 (layL f ps) ring seq pos n w7 HL7.out (by have:=HLO.out;have:=HF7.out.size;omega) ha7 hd7 (by omega) HG.out.r1 HG.out.p hs (by omega) (by have:=hbk.le;have:=HFL.out;omega) (by have:=hbk.writes;have:=HWR.out;have:=HN.out;omega) (by rw [hbk.mask];exact HMK.out))
  have HBK:=Lib.hid hbk
  clear ha7 hbk HM HRD HRD1 HWS
  go_wp2_with (go_at_call 38;(with_reducible refine HDO.out.mono ?_);go_must (rintro e w8 ⟨E8,s8,h8,rfl,r8,H8,L8,F8,T8,U8⟩;have HR8:=Lib.hid r8;have HH8:=Lib.hid H8;have HL8:=Lib.hid L8;have HF8:=Lib.hid F8;have HT8:=Lib.hid T8;have HU8:=Lib.hid U8;clear r8 H8 L8 F8 T8 U8))
  go_ret2
  have hfr:Fr (fun g=>h.T d g∨g=l) w w8:=(HF7.out.mono (fun g=>.inl)).trans2 (T':=fun g=>h7.T d g∨g=l) (fun g hg=>hg.elim (fun e=>(HT7.out g e).imp .inl id) (fun e=>.inl (.inr e))) HF8.out
  have hbk8:Bk s s8 151:=(HBK.out.trans HR8.out.bk).more (by rw [HN.out];show n+1≤151;omega)
  refine ⟨true,E8,s8,h8,rfl,⟨hbk8,fun e=>(HR8.out.falls (HBK.out.falls0 e)).2,?_⟩,HH8.out,fun e=>by have:=HL8.out e;rw [← HN.out] at this;exact this,hfr,HT7.out.trans HT8.out HF7.out.size,HU8.out.trans HU7.out⟩
  rcases HR8.out.res with ⟨hE,hd8,ha8⟩ | ⟨hE,hd8,f8,ha8,hp8⟩
  ·refine .inl ⟨hE,rfl,hd8,_,ha8,?_,fun j hj=>?_⟩
   ·have h0:layL (layL f ps) [(0,headB ring (seq+1) (posN ring pos n))] 0=headB ring (seq+1) (posN ring pos ps.length):=by
     rw [HN.out]
     exact layL_mem [(0,headB ring (seq+1) (posN ring pos n))] (layL f ps) (by simp) (List.mem_singleton.2 rfl)
    exact HB7.out.headed h0 (layL_out _ _ (one_out (by decide)))
   ·exact layL_out _ _ (one_out (by omega))
  ·refine .inr ⟨hE,hd8,f8,ha8,?_⟩
   have hp8':=hp8
   rw [← HN.out] at hp8'
   exact mid_head HB7.out (fun j hj=>rfl) hp8'
 ·subst hE
  have HA7:=Lib.hid ha7
  have HP7:=Lib.hid hp7
  clear ha7 hp7 HM HRD HRD1 HWS
  go_wp2_with fail
  go_ret2
  refine ⟨false,12,s7,h7,rfl,⟨HR7.out.bk.more (by rw [HN.out];omega),fun e=>(HR7.out.falls e).2,.inr ⟨rfl,hd7,f7,HA7.out,mid_puts HG.out (fun j hj=>rfl) HP7.out⟩⟩,HH7.out,fun e=>absurd e (by decide),HF7.out.mono (fun g=>.inl),HT7.out,HU7.out⟩
end Go.Proofs.Ytdoanopeejeeiaa

