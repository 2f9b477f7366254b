/- XWld -/
import Derived.Test.YtdoanopeejeeiaaMk32
namespace Go.Proofs.Ytdoanopeejeeiaa
set_option linter.all false
open Go.RowKit Go.Maps
theorem commit_no (lo d l:Nat) (h:Hn) (s:Dk) (ring seq pos:Nat) (T:Nat→Prop) (A:Option Addr) (n c:Nat) (ps:List (Int × Bs)) (w:World) (H:LgOk w lo d l h s ring seq pos) (HP:PutsAt w T A n ps) (hc:n≤c) (hn:n≤1000) (hr:ring≤5000)
  (hk:mayV (2+ring) s.n ring ps ≠ 0∨n=0) :
  Calls Try.prog 14 #[.pointer (some ⟨l,0,none⟩),.slice A n c] w fun e w'=>e=.returned (.int .i64 (mayV (2+ring) s.n ring ps))∧Below w.heap.size w w':=by
 have HM:=Lib.hid (mayW_any lo d l h s ring seq pos T A n c ps w H HP hc hn hr)
 obtain ⟨M,hM⟩:∃ M,mayV (2+ring) s.n ring ps=M:=⟨_,rfl⟩
 rw [hM] at HM hk ⊢
 clear H HP hM
 by_cases h0:M=0
 ·obtain rfl:n=0:=by rcases hk with e | e;exact absurd h0 e;exact e
  subst h0
  go_enter Try.func14,Try.ntmps14
  go_wp2_with (go_at_call 35;(with_reducible refine HM.out.mono ?_);go_must (rintro e w1 ⟨rfl,hb⟩))
  go_ret
  exact ⟨rfl,hb⟩
 ·have hM0:(M != 0)=true:=by simpa using h0
  go_enter Try.func14,Try.ntmps14
  go_wp2_with (go_at_call 35;(with_reducible refine HM.out.mono ?_);go_must (rintro e w1 ⟨rfl,hb⟩))
  go_ret
  exact ⟨rfl,hb⟩
/-- What a change leaves. -/
def ComRes (s:Dk) (f:SF) (ring seq pos:Nat) (ps:List (Nat × Bs)) (E:Int) (s':Dk):Prop :=
 Bk s s' 400∧(s.falls=0→E=0) ∧
  ((E=0∧s'.down=false∧∃ f',At s' f'∧LogA f' s.n ring (seq+1) (posN ring pos ps.length)∧∀ j,2+ring≤j→f' j=layL f ps j)∨(E=12∧s'.down=true∧∃ f',At s' f'∧Mid f s.n ring seq pos ps f'))
def ComPost (lo d l:Nat) (h:Hn) (s:Dk) (f:SF) (ring seq pos:Nat) (ps:List (Nat × Bs)) (w:World) (e:Ending) (w':World):Prop :=
 ∃ E s' h',e=.returned (.int .i64 E)∧ComRes s f ring seq pos ps E s'∧DkOk w' lo d h' s'∧(E=0→LgOk w' lo d l h' s' ring (seq+1) (posN ring pos ps.length))∧Fr (fun g=>h.T d g∨g=l) w w'∧TT w (h.T d) (h'.T d)∧h'.U=h.U
set_option maxRecDepth 100000 in
set_option maxHeartbeats 25600000 in
theorem commit_go (lo d l:Nat) (h:Hn) (s:Dk) (f:SF) (ring seq pos:Nat) (A:Option Addr) (n c:Nat) (ps:List (Nat × Bs)) (w:World) (H:LgOk w lo d l h s ring seq pos) (hlo:lo≤w.heap.size) (HP:PutsAt w (h.T d) A n (ips ps)) (hc:n≤c) (hat:At s f) (hdn:s.down=false) (hA:LogA f s.n ring seq pos) (hG:GoodP s.n ring ps)
  (hm:mayV (2+ring) s.n ring (ips ps)=0) (hs:seq≤1000000) (hf:s.falls≤9223372036854775807) (hwr:s.writes≤700000000) (hmk:s.mask.length≤1000000) :
  Calls Try.prog 14 #[.pointer (some ⟨l,0,none⟩),.slice A n c] w fun e w'=>ComPost lo d l h s f ring seq pos ps w e w':=by
 have hN:=H.dk.size
 have hr1:=hA.r1
 have hr2:=hA.r2
 have hpp:=hA.p
 have hpl:ps.length=n:=by have:=HP.len;unfold ips at this;rw [List.length_map] at this;exact this
 have hn1:1≤n:=by rw [← hpl];exact List.length_pos_iff.2 hG.ne
 have hn2:n≤150:=by rw [← hpl];exact hG.few
 have HM:=mayW_any lo d l h s ring seq pos (h.T d) A n c (ips ps) w H HP hc (by omega) (by omega)
 rw [hm] at HM
 have HM:=Lib.hid HM
 have HCH:=Lib.hid (fun (w':World) (hb:Below w.heap.size w w')=>change_any lo d l h s ring seq pos A n c ps w' (H.later hb) (HP.fr (Fr.of _ hb) (TT.refl _ _)) hc hG hr1 hpp hr2)
 have HLN:=Lib.hid (chg_len ring pos ps)
 have HKS:Hid (∀ x ∈ chg ring pos ps,x.1 < s.n):=(show ∀ x ∈ _,_ from fun x hx=>by
  obtain ⟨j,b⟩:=x
  obtain ⟨i,-,e⟩:=chg_mem hx
  have:=(inN_rng (ring:=ring) (pos:=pos) (i:=i) hr1).2
  show j < s.n
  omega)
 have hmb:∀ w,_:=fun w=>markW_any seq pos n (by omega) (by omega) (by omega) w
 have HMB:=Lib.hid hmb
 clear hmb
 have HL:=Lib.hid H
 have HQ:=Lib.hid HP
 have HGA:=Lib.hid hA
 have HG:=Lib.hid hG
 have HAT:=Lib.hid hat
 have HDN:=Lib.hid hdn
 have HLO:=Lib.hid hlo
 have HMK:=Lib.hid hmk
 have HFL:=Lib.hid hf
 have HWR:=Lib.hid hwr
 have HPN:=Lib.hid hpl
 have hLC:(chg ring pos ps).length≤200:=by rw [chg_len,hpl];unfold descN;omega
 obtain ⟨cl,hcl⟩:∃ cl,chg ring pos ps=cl:=⟨_,rfl⟩
 rw [hcl] at HCH HKS hLC
 obtain ⟨mk,hmk2⟩:∃ b,markB seq pos n=b:=⟨_,rfl⟩
 rw [hmk2] at HMB
 have HCL:=Lib.hid hcl
 have HMKB:=Lib.hid hmk2
 have HLB:Hid (mk.length=256):=(show _=_ by rw [← hmk2];exact markB_len _ _ _)
 have c0:=H.lg.cell (k:=0) rfl
 have c2:=H.lg.cell (k:=2) rfl
 have c3:=H.lg.cell (k:=3) rfl
 have hz:((n:Int) == 0)=false:=beq_eq_false_iff_ne.2 (by omega)
 clear H HP hA hG hat hdn hlo hmk hf hwr hpl hm hcl hmk2 HLN
 go_enter Try.func14,Try.ntmps14
 go_upto_region 4 with (go_at_call 35;(with_reducible refine HM.out.mono ?_);go_must (rintro e w0 ⟨rfl,hb0⟩;have hB0:=hb0;clear hb0;have j0:=cell_later c0 hB0))
 go_cut [6] (fun v wx=>∃ E s1 h1,v=.int .i64 E∧Hid (WrRes s f cl E s1)∧Hid (DkOk wx lo d h1 s1)∧Hid (Fr (h.T d) w wx)∧Hid (TT w (h.T d) (h1.T d))∧Hid (h1.U=h.U))
 case first =>
  have hX:=Below.refl w0.heap.size w0
  go_region_held3 (fun w'=>w'.cell? ⟨l,0,none⟩=some (.pointer (some ⟨d,0,none⟩)))
   (first | (with_reducible exact j0) | (with_reducible exact q0) | go_keep)
   (first
   | (go_at_call 27;(with_reducible refine HWS.out.mono ?_);go_must (rintro e w7 ⟨E7,s7,h7,rfl,r7,H7,F7,T7,U7⟩;have HR7:=Lib.hid r7;have HH7:=Lib.hid H7;have HF7:=Lib.hid ((Fr.of (h.T d) HB5.out).trans F7);have HT7:Hid (TT w (h.T d) (h7.T d)):=(show TT _ _ _ from (TT.refl _ _).trans T7 HB5.out.size);have HU7:=Lib.hid U7;have q0:=(HL.out.lg.fr HF7.out HL.out.nt).cell (k:=0) rfl;clear r7 H7 F7 T7 U7))
   | (go_at_call 36;(with_reducible refine (HCH.out _ ?_).mono ?_);(first | exact hB0 | exact Below.drew hB0);go_must (rintro e w5 ⟨A5,n5,c5,rfl,hp5,hb5⟩;have HB5:Hid (Below w.heap.size w w5):=(show Below _ _ _ from hB0.trans ((show Below w0.heap.size w0 w5 from ⟨hb5.os,hb5.tape,hb5.output,hb5.size,hb5.block⟩).mono hB0.size));have q0:=cell_later c0 HB5.out;have HWS:=Lib.hid (writes_any lo d h s f cl A5 n5 c5 w5 (HL.out.dk.later HB5.out) (by have:=HB5.out.size;have:=HLO.out;omega) HAT.out HDN.out hp5 HKS.out (by omega) HFL.out (by have:=HWR.out;omega) HMK.out (HL.out.later HB5.out).hU);clear hp5 hb5)))
  all_goals
   go_wp2_with fail
   go_meet
   case rel=>exact ⟨E7,s7,h7,rfl,HR7,HH7,HF7,HT7,HU7⟩
 case rest =>
 obtain ⟨E,s1,h1,rfl,HR1,HH1,HF1,HT1,HU1⟩:=hcut
 generalize hw1:wc=w1 at *
 have HL1:=Lib.hid (HL.out.step HH1.out HF1.out HT1.out HU1.out)
 have HBK1:=Lib.hid (HR1.out.bk.more hLC)
 have HE1:=Lib.hid HR1.out.falls
 clear c0 c2 c3 j0 HCH HM hw1
 rcases HR1.out.res with ⟨hE,hd1,ha1⟩ | ⟨hE,hd1,f1,ha1,hp1⟩
 case inr =>
  subst hE
  have HA1:=Lib.hid ha1
  have HP1:=Lib.hid hp1
  clear ha1 hp1
  go_wp2_with fail
  go_ret
  unfold ComPost
  refine ⟨12,s1,h1,rfl,⟨HBK1.out.more (by omega),fun e=>(HE1.out e).2,.inr ⟨rfl,hd1,f1,HA1.out,mid_ring HGA.out (by rw [HCL.out];exact HP1.out)⟩⟩,HH1.out,fun e=>absurd e (by decide),HF1.out.mono (fun g=>.inl),HT1.out,HU1.out⟩
 subst hE
 obtain ⟨f1,hf1⟩:∃ f',layL f cl=f':=⟨_,rfl⟩
 rw [hf1] at ha1
 have HA1:=Lib.hid ha1
 have HRG:=HGA.out.ringed HG.out
 rw [HCL.out,hf1] at HRG
 have HRG:=Lib.hid HRG
 clear ha1 hf1
 have c0:=HL1.out.lg.cell (k:=0) rfl
 have c2:=HL1.out.lg.cell (k:=2) rfl
 have c3:=HL1.out.lg.cell (k:=3) rfl
 go_upto_region 7 with fail
 go_cut [7] (fun v wx=>∃ E s2 h2,v=.int .i64 E∧Hid (WrRes s1 f1 [(1,mk)] E s2)∧Hid (DkOk wx lo d h2 s2)∧Hid (Fr (h1.T d) w1 wx)∧Hid (TT w1 (h1.T d) (h2.T d))∧Hid (h2.U=h1.U))
 case first =>
  have hX:=Below.refl w1.heap.size w1
  go_region_held3 (fun w'=>w'.cell? ⟨l,0,none⟩=some (.pointer (some ⟨d,0,none⟩))∧w'.cell? ⟨l,2,none⟩=some (.int .i64 (seq:Int))∧w'.cell? ⟨l,3,none⟩=some (.int .i64 (pos:Int)))
   (first | (with_reducible exact ⟨c0,c2,c3⟩) | (with_reducible exact ⟨c05,c25,c35⟩) | (with_reducible exact ⟨c06,c26,c36⟩) | (with_reducible exact ⟨c07,c27,c37⟩) | go_keep)
   (first
   | (go_at_call 27;(with_reducible refine HWS.out.mono ?_);go_must (rintro e w7 ⟨E7,s7,h7,rfl,r7,H7,F7,T7,U7⟩;have HR7:=Lib.hid r7;have HH7:=Lib.hid H7;have HF7:=Lib.hid (HF6.out.trans F7);have HT7:Hid (TT w1 (h1.T d) (h7.T d)):=(show TT _ _ _ from (TT.refl _ _).trans T7 HF6.out.size);have HU7:=Lib.hid U7;have A7:=Lib.hid (HL1.out.lg.fr HF7.out HL1.out.nt);have c07:=A7.out.cell (k:=0) rfl;have c27:=A7.out.cell (k:=2) rfl;have c37:=A7.out.cell (k:=3) rfl;clear r7 H7 F7 T7 U7))
   | (go_at_call 37;(with_reducible refine (HMB.out _).mono ?_);go_must (rintro e w5 ⟨g5,cc5,rfl,hg5,hr5,hb5⟩;have HB5:Below w1.heap.size w1 w5:=(by first | exact hb5 | exact bstep (Below.drew hX) hb5 (Nat.le_refl _));have hg5':w1.heap.size≤g5:=hg5;have hs5:=HB5.size;have c05:=cell_later c0 HB5;have c25:=cell_later c2 HB5;have c35:=cell_later c3 HB5;have hgl5:g5 < w5.heap.size:=(by obtain ⟨b5,o5,e5,-,hc5⟩:=hr5.2 (by decide);injection e5 with e5;injection e5 with e5 e6;subst e5;exact block_lt_of_cell (hc5 0 _ (List.getElem?_eq_getElem (show 0 < (cb mk).length by have:=hr5.1;omega))));have HP5:=Lib.hid (puts1 (w:=w5) (T:=h1.T d) (fun g hg=>HL1.out.dk.fresh g (by omega)) 1 (c:=cc5) hr5 (HL1.out.dk.fresh g5 hg5') hgl5);have hB6:Below w1.heap.size w1 (w5.alloc (.cells #[.int .i64 1,.slice (some ⟨g5,0,none⟩) 256 cc5] 56)):=HB5.alloc (by omega) _;have c06:=cell_later c0 hB6;have c26:=cell_later c2 hB6;have c36:=cell_later c3 hB6;have HF6:Hid (Fr (h1.T d) w1 (w5.alloc (.cells #[.int .i64 1,.slice (some ⟨g5,0,none⟩) 256 cc5] 56))):=(show Fr _ _ _ from Fr.of _ hB6);have HWS:=Lib.hid (writes_any lo d h1 s1 f1 [(1,mk)] (some ⟨w5.heap.size,0,none⟩) 1 1 _ (HL1.out.dk.later hB6) (by have:=hB6.size;have:=HLO.out;have:=HF1.out.size;omega) HA1.out hd1 HP5.out (fun x hx=>by rw [List.mem_singleton] at hx;subst hx;have:=HBK1.out.n;show 1 < s1.n;omega) (show 1≤1000 by decide) (by have:=HBK1.out.le;have:=HFL.out;omega) (by have:=HBK1.out.writes;have:=HWR.out;omega) (by rw [HBK1.out.mask];exact HMK.out) (HL1.out.later hB6).hU);clear hb5 hr5 hg5 hgl5)))
  all_goals
   go_wp2_with fail
   go_meet
   case rel=>exact ⟨E7,s7,h7,rfl,HR7,HH7,HF7,HT7,HU7⟩
 case rest =>
 obtain ⟨E,s2,h2,rfl,HR2,HH2,HF2',HT2',HU2'⟩:=hcut
 generalize hw2:wc=w2 at *
 have HL2:=Lib.hid (HL1.out.step HH2.out HF2'.out HT2'.out HU2'.out)
 have HF2:=Lib.hid (HF1.out.trans2 HT1.out HF2'.out)
 have HT2:Hid (TT w (h.T d) (h2.T d)):=(show TT _ _ _ from HT1.out.trans HT2'.out HF1.out.size)
 have HU2:=Lib.hid (HU2'.out.trans HU1.out)
 have HBK2:=Lib.hid ((HBK1.out.trans HR2.out.bk).more (show 200+1≤201 by decide))
 have HE2:=Lib.hid (fun e=>(HR2.out.falls (HBK1.out.falls0 e)).2)
 clear c0 c2 c3 HMB hw2 HF2' HT2' HU2' HL1 HF1 HT1 HU1 HH1 HR1
 rcases HR2.out.res with ⟨hE,hd2,ha2⟩ | ⟨hE,hd2,f2,ha2,hp2⟩
 case inr =>
  subst hE
  have HA2:=Lib.hid ha2
  have HP2:=Lib.hid hp2
  clear ha2 hp2
  go_wp2_with fail
  go_ret
  unfold ComPost
  refine ⟨12,s2,h2,rfl,⟨HBK2.out.more (by omega),HE2.out,.inr ⟨rfl,hd2,f2,HA2.out,mid_mark HRG.out.1 HG.out HRG.out.2.1 HRG.out.2.2 (by rw [HPN.out,HMKB.out];exact HP2.out)⟩⟩,HH2.out,fun e=>absurd e (by decide),HF2.out.mono (fun g=>.inl),HT2.out,HU2.out⟩
 subst hE
 obtain ⟨f2,hf2⟩:∃ f',layL f1 [(1,mk)]=f':=⟨_,rfl⟩
 rw [hf2] at ha2
 have HA2:=Lib.hid ha2
 have HB2:Hid (LogB f2 s.n ring seq pos ps):=(show LogB _ _ _ _ _ _ from HRG.out.1.marked HG.out HRG.out.2.1 (by rw [HPN.out,HMKB.out,← hf2];exact layL_mem [(1,mk)] f1 (by simp) (List.mem_singleton.2 rfl)) (fun j hj=>by rw [← hf2];exact layL_out _ _ (one_out hj)))
 have HO2:Hid (∀ j,2+ring≤j→f2 j=f j):=(show ∀ j,_ from fun j hj=>by rw [← hf2,layL_out _ _ (one_out (by omega))];exact HRG.out.2.2 j hj)
 clear ha2 hf2
 have c0:=HL2.out.lg.cell (k:=0) rfl
 have HWS:=Lib.hid (writes_any lo d h2 s2 f2 ps A n c w2 HH2.out (by have:=HLO.out;have:=HF2.out.size;omega) HA2.out hd2 (HQ.out.fr HF2.out HT2.out) (fun x hx=>by have:=(HG.out.home x hx).2.1;have:=HBK2.out.n;omega) (by rw [HPN.out];omega) (by have:=HBK2.out.le;have:=HFL.out;omega) (by have:=HBK2.out.writes;have:=HWR.out;omega) (by rw [HBK2.out.mask];exact HMK.out) HL2.out.hU)
 go_upto_region 11 with (go_at_call 27;(with_reducible refine HWS.out.mono ?_);go_must (rintro e w3 ⟨E,s3,h3,rfl,r7,H7,F7,T7,U7⟩;have HR3:=Lib.hid r7;have HH3:=Lib.hid H7;have HF3:=Lib.hid (HF2.out.trans2 HT2.out F7);have HT3:Hid (TT w (h.T d) (h3.T d)):=(show TT _ _ _ from HT2.out.trans T7 HF2.out.size);have HU3:=Lib.hid (U7.trans HU2.out);have HL3:=Lib.hid (HL2.out.step H7 F7 T7 U7);clear r7 H7 F7 T7 U7))
 have HBK3:=Lib.hid ((HBK2.out.trans HR3.out.bk).more (show 201+ps.length≤351 by rw [HPN.out];omega))
 have HE3:=Lib.hid (fun e=>(HR3.out.falls (HBK2.out.falls0 e)).2)
 clear HWS c0 HF2 HT2 HU2 HH2 HL2
 rcases HR3.out.res with ⟨hE,hd3,ha3⟩ | ⟨hE,hd3,f3,ha3,hp3⟩
 case inr =>
  subst hE
  have HA3:=Lib.hid ha3
  have HP3:=Lib.hid hp3
  clear ha3 hp3
  go_wp2_with fail
  go_ret
  unfold ComPost
  refine ⟨12,s3,h3,rfl,⟨HBK3.out.more (by omega),HE3.out,.inr ⟨rfl,hd3,f3,HA3.out,.inr (mid_puts HB2.out HO2.out HP3.out)⟩⟩,HH3.out,fun e=>absurd e (by decide),HF3.out.mono (fun g=>.inl),HT3.out,HU3.out⟩
 subst hE
 have HA3:=Lib.hid ha3
 have HB3:=Lib.hid HB2.out.laid
 have HO3:Hid (∀ j,2+ring≤j→layL f2 ps j=layL f ps j):=(show ∀ j,_ from layL_mix HG.out (fun j hj=>.inl (HO2.out j hj)))
 clear ha3
 have HDO:=Lib.hid (done_any lo d l h3 s3 (layL f2 ps) ring seq pos n w3 HL3.out (by have:=HLO.out;have:=HF3.out.size;omega) HA3.out hd3 (by omega) hr1 hpp hs (by omega) (by have:=HBK3.out.le;have:=HFL.out;omega) (by have:=HBK3.out.writes;have:=HWR.out;omega) (by rw [HBK3.out.mask];exact HMK.out))
 go_wp2_with (go_at_call 38;(with_reducible refine HDO.out.mono ?_);go_must (rintro e w8 ⟨E8,s8,h8,rfl,r8,H8,L8,F8,T8,U8⟩;have HR8:=Lib.hid r8;have HH8:=Lib.hid H8;have HL8:=Lib.hid L8;have HF8:=Lib.hid F8;have HT8:=Lib.hid T8;have HU8:=Lib.hid U8;clear r8 H8 L8 F8 T8 U8))
 go_ret
 have hfr:Fr (fun g=>h.T d g∨g=l) w w8:=(HF3.out.mono (fun g=>.inl)).trans2 (T':=fun g=>h3.T d g∨g=l) (fun g hg=>hg.elim (fun e=>(HT3.out g e).imp .inl id) (fun e=>.inl (.inr e))) HF8.out
 unfold ComPost
 refine ⟨E8,s8,h8,rfl,⟨(HBK3.out.trans HR8.out.bk).more (show 351+1≤400 by decide),fun e=>(HR8.out.falls (HBK3.out.falls0 e)).2,?_⟩,HH8.out,fun e=>by have:=HL8.out e;rw [← HPN.out] at this;exact this,hfr,HT3.out.trans HT8.out HF3.out.size,HU8.out.trans HU3.out⟩
 rcases HR8.out.res with ⟨hE,hd8,ha8⟩ | ⟨hE,hd8,f8,ha8,hp8⟩
 ·refine .inl ⟨hE,hd8,_,ha8,?_,fun j hj=>(layL_out _ _ (one_out (by omega))).trans (HO3.out j hj)⟩
  have h0:layL (layL f2 ps) [(0,headB ring (seq+1) (posN ring pos n))] 0=headB ring (seq+1) (posN ring pos ps.length):=by
   rw [HPN.out]
   exact layL_mem [(0,headB ring (seq+1) (posN ring pos n))] (layL f2 ps) (by simp) (List.mem_singleton.2 rfl)
  exact HB3.out.headed h0 (layL_out _ _ (one_out (by decide)))
 ·refine .inr ⟨hE,hd8,f8,ha8,.inr ?_⟩
  have hp8':=hp8
  rw [← HPN.out] at hp8'
  exact mid_head HB3.out HO3.out hp8'
end Go.Proofs.Ytdoanopeejeeiaa

