/- XWl5 -/
import Derived.Test.YtdoanopeejeeiaaMk23
namespace Go.Proofs.Ytdoanopeejeeiaa
set_option linter.all false
open Go.RowKit Go.Maps
/-- One put that lies in a row of its own. -/
theorem puts1 {w:World} {T:Nat→Prop} (hT:∀ g,w.heap.size≤g→¬ T g) (k:Int) {g c:Nat} {bs:Bs} (h1:RdB w (g+1) (some ⟨g,0,none⟩) 256 bs) (hg:¬ T g) (hgl:g < w.heap.size) :
  PutsAt (w.alloc (.cells #[.int .i64 k,.slice (some ⟨g,0,none⟩) 256 c] 56)) T (some ⟨w.heap.size,0,none⟩) 1 [(k,bs)]:=by
 have hl:=h1.len
 refine ⟨[(k,some ⟨g,0,none⟩,256,c)],fun _=>⟨_,_,rfl,hT _ (Nat.le_refl _),by rw [World.size_alloc];exact Nat.lt_succ_self _⟩,RdW.here (rd_oneW w (k,some ⟨g,0,none⟩,256,c) _ _),rfl,fun i q b e=>?_⟩
 match i with
 | 0 =>
  injection e with e
  injection e with e1 e2
  subst e1 e2
  exact ⟨_,c,rfl,⟨hl,fun _=>⟨g,0,rfl,hg,by rw [World.size_alloc];omega⟩,Rd.here (Rd.alloc h1 (by omega) _)⟩⟩
 | i+1=>simp at e
/-- A log upon a disk. -/
structure LgOk (w:World) (lo d l:Nat) (h:Hn) (s:Dk) (ring seq pos:Nat):Prop where
 dk:DkOk w lo d h s
 lg:Arr w l (lgC d ring seq pos)
 nt:¬ h.T d l
 u:h.U l∧∀ g,w.heap.size≤g→¬ h.U g
theorem LgOk.hU {w:World} {lo d l:Nat} {h:Hn} {s:Dk} {ring seq pos:Nat} (k:LgOk w lo d l h s ring seq pos):∀ g,w.heap.size≤g→¬ h.U g:=k.u.2
theorem LgOk.later {w w':World} {lo d l:Nat} {h:Hn} {s:Dk} {ring seq pos:Nat} (k:LgOk w lo d l h s ring seq pos) (hb:Below w.heap.size w w'):LgOk w' lo d l h s ring seq pos:=⟨k.dk.later hb,k.lg.later hb,k.nt,k.u.1,fun g hg=>k.u.2 g (Nat.le_trans hb.size hg)⟩
/-- The disk goes on; the log's block stays. -/
theorem LgOk.step {w w':World} {lo d l:Nat} {h h':Hn} {s s':Dk} {ring seq pos:Nat} (k:LgOk w lo d l h s ring seq pos) (H:DkOk w' lo d h' s') (F:Fr (h.T d) w w') (T:TT w (h.T d) (h'.T d)) (U:h'.U=h.U):LgOk w' lo d l h' s' ring seq pos :=
 ⟨H,k.lg.fr F k.nt,T.not k.nt k.lg.lt,by rw [U];exact k.u.1,fun g hg=>by rw [U];exact k.u.2 g (Nat.le_trans F.size hg)⟩
/-- A log's numbers are set. -/
theorem LgOk.setC {w:World} {lo d l:Nat} {h:Hn} {s:Dk} {ring seq pos:Nat} (k:LgOk w lo d l h s ring seq pos) (i:Nat) (v:Value):DkOk (w.setCell ⟨l,i,none⟩ v) lo d h s∧Fr (fun g=>g=l) w (w.setCell ⟨l,i,none⟩ v):=by
 have F:Fr (fun g=>g=l) w (w.setCell ⟨l,i,none⟩ v):=Fr.setCell (T:=fun g=>g=l) (p:=⟨l,i,none⟩) (Fr.refl _ w) rfl v
 exact ⟨k.dk.keep F (fun g e=>by rw [e];exact k.u.1) (fun g hg e=>k.nt (e ▸ hg)),F⟩
set_option maxRecDepth 100000 in
set_option maxHeartbeats 6400000 in
theorem done_any (lo d l:Nat) (h:Hn) (s:Dk) (f:SF) (ring seq pos n:Nat) (w:World) (H:LgOk w lo d l h s ring seq pos) (hlo:lo≤w.heap.size) (hat:At s f) (hdn:s.down=false) (hr:ring≤5000) (hr1:1≤ring) (hp:pos < ring) (hs:seq≤1000000) (hn:n≤1000)
  (hf:s.falls≤9223372036854775807) (hwr:s.writes≤900000000) (hmk:s.mask.length≤1000000) :
  Calls Try.prog 38 #[.pointer (some ⟨l,0,none⟩),.int .i64 (n:Int)] w fun e w'=>∃ E s' h',e=.returned (.int .i64 E)∧WrRes s f [(0,headB ring (seq+1) (posN ring pos n))] E s'∧DkOk w' lo d h' s' ∧
   (E=0→LgOk w' lo d l h' s' ring (seq+1) (posN ring pos n))∧Fr (fun g=>h.T d g∨g=l) w w'∧TT w (h.T d) (h'.T d)∧h'.U=h.U:=by
 have HL:=Lib.hid H
 have c0:=H.lg.cell (k:=0) rfl
 have c1:=H.lg.cell (k:=1) rfl
 have c2:=H.lg.cell (k:=2) rfl
 have c3:=H.lg.cell (k:=3) rfl
 have hN4:=H.dk.size
 have hll:=H.lg.lt
 obtain ⟨m,hm⟩:∃ m,needN n=m:=⟨_,rfl⟩
 have hm2:m≤100000:=by rw [← hm];unfold needN;split <;> omega
 obtain ⟨R,hR⟩:∃ R,posN ring pos n=R:=⟨_,rfl⟩
 have hRl:R < ring:=by rw [← hR];exact Nat.mod_lt _ hr1
 have hrem:((pos:Int)+(m:Int)).tmod (ring:Int)=(R:Int):=by
  rw [Int.tmod_eq_emod_of_nonneg (by omega),← hR,← hm]
  unfold posN
  rw [Int.natCast_emod,Int.natCast_add]
 have hrem2:((pos:Int)+(m:Int)) % (ring:Int)=(R:Int):=by rw [← Int.tmod_eq_emod_of_nonneg (by omega)];exact hrem
 have hw1:IntKind.i64.wrap ((pos:Int)+(m:Int))=(pos:Int)+(m:Int):=by rw [IntKind.wrap_i64];omega
 have hz:((ring:Int) == 0)=false:=beq_eq_false_iff_ne.2 (by omega)
 have hz2:¬ (ring:Int)=0:=by omega
 have HND:=Lib.hid (fun v w=>needW_any v n (by omega) w)
 rw [hm] at HND
 rw [hR]
 obtain ⟨S,hS⟩:∃ S,seq+1=S:=⟨_,rfl⟩
 have hSi:(seq:Int)+1=(S:Int):=by omega
 have hSw:IntKind.i64.wrap (S:Int)=(S:Int):=wrap_i64_lt S (by omega)
 rw [hS]
 have HHD:=Lib.hid (fun w=>headW_any ring S R (by omega) (by omega) (by omega) w)
 obtain ⟨hb,hhb⟩:∃ b,headB ring S R=b:=⟨_,rfl⟩
 rw [hhb] at HHD ⊢
 have HAT:=Lib.hid hat
 have HDN:=Lib.hid hdn
 have HLO:=Lib.hid hlo
 have HMK:=Lib.hid hmk
 have HFL:=Lib.hid hf
 have HWR:=Lib.hid hwr
 clear H hat hdn hmk hf hwr hlo hR hm hS hhb
 go_enter Try.func38,Try.ntmps38
 go_upto_region 1 with fail
 go_cut [5] (fun v wx=>v=.int .i64 (R:Int)∧wx=w.drew)
 case first =>
  go_region_with (first
   | (go_at_call 16;(with_reducible refine (HND.out _ _).mono ?_);go_must (rintro e w1 ⟨rfl,rfl⟩)))
  all_goals
   go_wp2_with fail
   go_meet
   case rel=>exact ⟨rfl,rfl⟩
 case rest =>
 obtain ⟨rfl,rfl⟩:=hcut
 go_upto_region 2 with fail
 go_cut [6] (fun v wx=>∃ E s' h',v=.int .i64 E∧Hid (WrRes s f [(0,hb)] E s')∧Hid (DkOk wx lo d h' s')∧Hid (Fr (h.T d) w wx)∧Hid (TT w (h.T d) (h'.T d))∧Hid (h'.U=h.U))
 case first =>
  have hX:=Below.refl w.heap.size w
  go_region_held3 (fun w'=>w'.cell? ⟨l,0,none⟩=some (.pointer (some ⟨d,0,none⟩))∧w'.cell? ⟨l,1,none⟩=some (.int .i64 (ring:Int))∧w'.cell? ⟨l,2,none⟩=some (.int .i64 (seq:Int)))
   (first | (with_reducible exact ⟨c0,c1,c2⟩) | (with_reducible exact ⟨c05,c15,c25⟩) | (with_reducible exact ⟨c06,c16,c26⟩) | (with_reducible exact ⟨c07,c17,c27⟩) | go_keep)
   (first
   | (go_at_call 27;(with_reducible refine HWS.out.mono ?_);go_must (rintro e w7 ⟨E7,s7,h7,rfl,r7,H7,F7,T7,U7⟩;have HR7:=Lib.hid r7;have HH7:=Lib.hid H7;have HF7:=Lib.hid (HF6.out.trans F7);have HT7:Hid (TT w (h.T d) (h7.T d)):=(show TT _ _ _ from (TT.refl _ _).trans T7 HF6.out.size);have HU7:=Lib.hid U7;have A7:=Lib.hid (HL.out.lg.fr HF7.out HL.out.nt);have c07:=A7.out.cell (k:=0) rfl;have c17:=A7.out.cell (k:=1) rfl;have c27:=A7.out.cell (k:=2) rfl;clear r7 H7 F7 T7 U7))
   | (go_at_call 28;(with_reducible refine (HHD.out _).mono ?_);go_must (rintro e w5 ⟨g5,cc5,rfl,hg5,hr5,hb5⟩;have HB5:Below w.heap.size w w5:=(by first | exact hb5 | exact bstep (Below.drew hX) hb5 (Nat.le_refl _) | exact bstep (Below.drew (Below.drew hX)) hb5 (Nat.le_refl _));have hg5':w.heap.size≤g5:=hg5;have hs5:=HB5.size;have c05:=cell_later c0 HB5;have c15:=cell_later c1 HB5;have c25:=cell_later c2 HB5;have hgl5:g5 < w5.heap.size:=(by obtain ⟨b5,o5,e5,-,hc5⟩:=hr5.2 (by decide);injection e5 with e5;injection e5 with e5 e6;subst e5;exact block_lt_of_cell (hc5 0 _ (List.getElem?_eq_getElem (show 0 < (cb hb).length by have:=hr5.1;omega))));have HP5:=Lib.hid (puts1 (w:=w5) (T:=h.T d) (fun g hg=>HL.out.dk.fresh g (by omega)) 0 (c:=cc5) hr5 (HL.out.dk.fresh g5 hg5') hgl5);have hB6:Below w.heap.size w (w5.alloc (.cells #[.int .i64 0,.slice (some ⟨g5,0,none⟩) 256 cc5] 56)):=HB5.alloc (by omega) _;have c06:=cell_later c0 hB6;have c16:=cell_later c1 hB6;have c26:=cell_later c2 hB6;have HF6:Hid (Fr (h.T d) w (w5.alloc (.cells #[.int .i64 0,.slice (some ⟨g5,0,none⟩) 256 cc5] 56))):=(show Fr _ _ _ from Fr.of _ hB6);have HWS:=Lib.hid (writes_any lo d h s f [(0,hb)] (some ⟨w5.heap.size,0,none⟩) 1 1 _ (HL.out.dk.later hB6) (by have:=hB6.size;have:=HLO.out;omega) HAT.out HDN.out HP5.out (fun x hx=>by rw [List.mem_singleton] at hx;subst hx;exact (show (0:Nat) < s.n by omega)) (show 1≤1000 by decide) HFL.out HWR.out HMK.out (HL.out.later hB6).hU);clear hb5 hr5 hg5 hgl5)))
  all_goals
   go_wp2_with fail
   go_meet
   case rel=>exact ⟨E7,s7,h7,rfl,HR7,HH7,HF7,HT7,HU7⟩
 case rest =>
 obtain ⟨E,s7,h7,rfl,HR7,HH7,HF7,HT7,HU7⟩:=hcut
 have HL7:=Lib.hid (HL.out.step HH7.out HF7.out HT7.out HU7.out)
 rcases HR7.out.res with ⟨hE,-⟩ | ⟨hE,-⟩
 ·subst hE
  have k2:=HL7.out.lg.cell (k:=2) rfl
  have k3:=HL7.out.lg.cell (k:=3) rfl
  have e2:=HL7.out.lg.frozen 2
  have e3:=HL7.out.lg.frozen 3
  have HA7:=Lib.hid HL7.out.lg
  clear c0 c1 c2 c3 HND HHD
  go_wp2_with fail
  go_ret
  obtain ⟨q1,F1⟩:=HL7.out.setC 2 (.int .i64 (S:Int))
  have A1:=HL7.out.lg.set 2 (.int .i64 (S:Int))
  have L1:LgOk _ lo d l h7 s7 ring S pos:=⟨q1,A1,HL7.out.nt,HL7.out.u.1,fun g hg=>HL7.out.u.2 g (by rw [World.size_setCell] at hg;exact hg)⟩
  obtain ⟨q2,F2⟩:=L1.setC 3 (.int .i64 (R:Int))
  have A2:=A1.set 3 (.int .i64 (R:Int))
  have L2:LgOk _ lo d l h7 s7 ring S R:=⟨q2,A2,HL7.out.nt,HL7.out.u.1,fun g hg=>HL7.out.u.2 g (by rw [World.size_setCell,World.size_setCell] at hg;exact hg)⟩
  exact ⟨0,s7,h7,rfl,HR7.out,q2,fun _=>L2,((HF7.out.mono (fun g=>.inl)).trans (F1.mono (fun g=>.inr))).trans (F2.mono (fun g=>.inr)),HT7.out,HU7.out⟩
 ·subst hE
  clear c0 c1 c2 c3 HND HHD
  go_wp2_with fail
  go_ret
  exact ⟨12,s7,h7,rfl,HR7.out,HH7.out,fun e=>absurd e (by decide),HF7.out.mono (fun g=>.inl),HT7.out,HU7.out⟩
end Go.Proofs.Ytdoanopeejeeiaa

