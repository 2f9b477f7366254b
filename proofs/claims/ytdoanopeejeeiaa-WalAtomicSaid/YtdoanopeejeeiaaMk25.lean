/- XWl6 -/
import Derived.Test.YtdoanopeejeeiaaMk24
namespace Go.Proofs.Ytdoanopeejeeiaa
set_option linter.all false
open Go.RowKit Go.Maps
theorem equalW_any (B n c B' n' c':Nat) (A A':Option Addr) (xs ys:List UInt8) (w:World) (h:RdB w B A n xs) (h':RdB w B' A' n' ys) :
  Calls Try.prog 31 #[.slice A n c,.slice A' n' c'] w fun e w'=>e=.returned (.bool (xs == ys))∧w=w':=by
 have k1:=run_strB h (c:=c)
 have k2:=run_strB h' (c:=c')
 go_enter Try.func31,Try.ntmps31
 go_wp2_with fail
 go_ret
 exact ⟨rfl,rfl⟩
/-- A sector read, while it is up. -/
theorem secR_any (lo d:Nat) (h:Hn) (s:Dk) (f:SF) (k:Nat) (w:World) (H:DkOk w lo d h s) (hat:At s f) (hdn:s.down=false) (hk:k < s.n) :
  Calls Try.prog 29 #[.pointer (some ⟨d,0,none⟩),.int .i64 (k:Int)] w fun e w'=>∃ A c,e=.returned (.tuple #[.slice A 256 c,.int .i64 0])∧256≤c∧RowAt w' (h.T d) A 256 (f k)∧ownB w' w.heap.size (.slice A 256 c) (f k)∧Below w.heap.size w w':=by
 have h0:wrongD s (k:Int)=0:=by unfold wrongD;rw [hdn,if_neg (by decide),if_neg (by omega)]
 have hv:readV s (k:Int)=f k:=by unfold readV;rw [if_pos h0];exact hat.now k
 have hl:(f k).length=256:=by rw [← hat.now k];exact getS_len H.now k
 have:=readD_any lo d h s (k:Int) w H
 rw [h0,hv] at this
 refine this.mono ?_
 rintro e w' ⟨A,n,c,rfl,hn,hc,-,ho,hb⟩
 rw [hl] at hn
 subst hn
 exact ⟨A,c,rfl,hc,RowAt.own2 ho H.fresh,ho,hb⟩
theorem At.len {w:World} {lo d:Nat} {h:Hn} {s:Dk} {f:SF} (hat:At s f) (H:DkOk w lo d h s) (k:Nat):(f k).length=256:=by rw [← hat.now k];exact getS_len H.now k
/-- Two puts that lie in a row of their own. -/
theorem puts2 {w:World} {T:Nat→Prop} (hT:∀ g,w.heap.size≤g→¬ T g) (k1 k2:Int) {A1 A2:Option Addr} {c1 c2:Nat} {b1 b2:Bs} (h1:RowAt w T A1 256 b1) (h2:RowAt w T A2 256 b2) :
  PutsAt (w.alloc (.cells #[.int .i64 k1,.slice A1 256 c1,.int .i64 k2,.slice A2 256 c2] 56)) T (some ⟨w.heap.size,0,none⟩) 2 [(k1,b1),(k2,b2)]:=by
 have hb:Below w.heap.size w (w.alloc (.cells #[.int .i64 k1,.slice A1 256 c1,.int .i64 k2,.slice A2 256 c2] 56)):=(Below.refl _ _).alloc (Nat.le_refl _) _
 refine ⟨[(k1,A1,256,c1),(k2,A2,256,c2)],fun _=>⟨_,_,rfl,hT _ (Nat.le_refl _),by rw [World.size_alloc];exact Nat.lt_succ_self _⟩,?_,rfl,fun i q b e=>?_⟩
 ·refine ⟨rfl,fun _=>⟨_,_,rfl,by rw [World.size_alloc];exact Nat.lt_succ_self _,fun j u hu=>?_⟩⟩
  rw [Nat.zero_add,cell_of_row _ _ _ _ _ _ (heap_alloc_new w _)]
  simpa [cW,eW] using hu
 ·match i with
  | 0 =>
   injection e with e
   injection e with e1 e2
   subst e1 e2
   exact ⟨_,c1,rfl,h1.later hb⟩
  | 1 =>
   injection e with e
   injection e with e1 e2
   subst e1 e2
   exact ⟨_,c2,rfl,h2.later hb⟩
  | i+2=>simp at e
theorem formatW_bad (lo d:Nat) (h:Hn) (s:Dk) (ring:Int) (w:World) (H:DkOk w lo d h s) (hb:ring < 1∨(s.n:Int) - 4 < ring) :
  Calls Try.prog 8 #[.pointer (some ⟨d,0,none⟩),.int .i64 ring] w fun e w'=>e=.returned (.int .i64 1)∧w=w':=by
 have HW:=Lib.hid (wrongW_any w lo d h s ring H.arr H.size.2 true (decide_eq_true hb).symm)
 clear H hb
 go_enter Try.func8,Try.ntmps8
 go_wp2_with (go_at_call 26;(with_reducible refine HW.out.mono ?_);go_must (rintro e w1 ⟨rfl,rfl⟩))
 go_ret
 exact ⟨rfl,rfl⟩
set_option maxRecDepth 100000 in
set_option maxHeartbeats 6400000 in
theorem formatW_ok (lo d:Nat) (h:Hn) (s:Dk) (f:SF) (ring:Nat) (w:World) (H:DkOk w lo d h s) (hlo:lo≤w.heap.size) (hat:At s f) (hdn:s.down=false) (h1:1≤ring) (h2:ring+4≤s.n)
  (hf:s.falls≤9223372036854775807) (hwr:s.writes≤900000000) (hmk:s.mask.length≤1000000) (hU:∀ g,w.heap.size≤g→¬ h.U g) :
  Calls Try.prog 8 #[.pointer (some ⟨d,0,none⟩),.int .i64 (ring:Int)] w fun e w'=>∃ E s' h',e=.returned (.int .i64 E)∧WrRes s f [(0,headB ring 1 0),(1,zeros)] E s'∧DkOk w' lo d h' s'∧Fr (h.T d) w w'∧TT w (h.T d) (h'.T d)∧h'.U=h.U:=by
 have hN:=H.size
 have HW:=Lib.hid (wrongW_any w lo d h s (ring:Int) H.arr H.size.2 false (decide_eq_false (by omega)).symm)
 have HHD:=Lib.hid (fun w=>headW_any ring 1 0 (by omega) (by omega) (by omega) w)
 rw [show ((1:Nat):Int)=1 from rfl,show ((0:Nat):Int)=0 from rfl] at HHD
 have hmk2:∀ w,(Instr.makeSlice 36 (.int .i64 256) (.int .i64 256)).run Try.prog w=.ok (.slice (some ⟨w.heap.size,0,none⟩) 256 256) (w.alloc (zeroObj 256)):=fun w=>run_makeB w 256 (by omega)
 have HZ:=Lib.hid (fun w=>own_zero w 256 (by omega))
 obtain ⟨hb,hhb⟩:∃ b,headB ring 1 0=b:=⟨_,rfl⟩
 have HLB:Hid (hb.length=256):=(show _=_ by rw [← hhb];exact headB_len _ _ _)
 rw [hhb] at HHD ⊢
 have HAT:=Lib.hid hat
 have HDN:=Lib.hid hdn
 have HLO:=Lib.hid hlo
 have HMK:=Lib.hid hmk
 have HFL:=Lib.hid hf
 have HWR:=Lib.hid hwr
 have HUU:=Lib.hid hU
 have HH:=Lib.hid H
 have HFR:=Lib.hid H.fresh
 have HK2:Hid (∀ x ∈ [((0:Nat),hb),(1,zeros)],x.1 < s.n):=(show ∀ x ∈ _,_ from fun x hx=>by
  rcases List.mem_cons.1 hx with e | e
  ·subst e;show 0 < s.n;omega
  ·rw [List.mem_singleton] at e;subst e;show 1 < s.n;omega)
 clear H hat hdn hmk hf hwr hlo hhb hU
 go_enter Try.func8,Try.ntmps8
 go_upto_region 3 with (go_at_call 26;(with_reducible refine HW.out.mono ?_);go_must (rintro e w1 ⟨rfl,rfl⟩))
 go_cut [4] (fun v wx=>∃ E s' h',v=.int .i64 E∧Hid (WrRes s f [(0,hb),(1,zeros)] E s')∧Hid (DkOk wx lo d h' s')∧Hid (Fr (h.T d) w wx)∧Hid (TT w (h.T d) (h'.T d))∧Hid (h'.U=h.U))
 case first =>
  have hX:=Below.refl w.heap.size w
  go_region_with (first
   | (go_at_call 27;(with_reducible refine HWS.out.mono ?_);go_must (rintro e w7 ⟨E7,s7,h7,rfl,r7,H7,F7,T7,U7⟩;have HR7:=Lib.hid r7;have HH7:=Lib.hid H7;have HF7:=Lib.hid (HF6.out.trans F7);have HT7:Hid (TT w (h.T d) (h7.T d)):=(show TT _ _ _ from (TT.refl _ _).trans T7 HF6.out.size);have HU7:=Lib.hid U7;clear r7 H7 F7 T7 U7))
   | (go_at_call 28;(with_reducible refine (HHD.out _).mono ?_);(rintro e w5 ⟨g5,cc5,rfl,hg5,hr5,hb5⟩;have HB5:Below w.heap.size w w5:=(bstep (Below.drew hX) hb5 (Nat.le_refl _));have HG5:w.heap.size≤g5:=hg5;have hgl5:g5 < w5.heap.size:=(by obtain ⟨b5,o5,e5,-,hc5⟩:=hr5.2 (by decide);injection e5 with e5;injection e5 with e5 e6;subst e5;exact block_lt_of_cell (hc5 0 _ (List.getElem?_eq_getElem (show 0 < (cb hb).length by have:=hr5.1;omega))));have hs5:=HB5.size;have R5:RowAt w5 (h.T d) (some ⟨g5,0,none⟩) 256 hb:=⟨HLB.out,fun _=>⟨g5,0,rfl,HFR.out g5 HG5,hgl5⟩,Rd.here hr5⟩;have HB6:Below w.heap.size w (w5.alloc (zeroObj 256)):=HB5.alloc hs5 _;have R6:=R5.later ((Below.refl w5.heap.size w5).alloc (Nat.le_refl _) (zeroObj 256));have Z6:RowAt (w5.alloc (zeroObj 256)) (h.T d) (some ⟨w5.heap.size,0,none⟩) 256 zeros:=RowAt.own2 (HZ.out w5) (fun g hg=>HFR.out g (by omega));have P6:=Lib.hid (puts2 (w:=w5.alloc (zeroObj 256)) (T:=h.T d) (fun g hg=>HFR.out g (by rw [World.size_alloc] at hg;omega)) 0 1 (c1:=cc5) (c2:=256) R6 Z6);have P7:Hid (PutsAt ((w5.alloc (zeroObj 256)).alloc (.cells #[.int .i64 0,.slice (some ⟨g5,0,none⟩) 256 cc5,.int .i64 1,.slice (some ⟨w5.heap.size,0,none⟩) 256 256] 56)) (h.T d) (some ⟨w5.heap.size+1,0,none⟩) 2 [(0,hb),(1,zeros)]):=(show PutsAt _ _ _ _ _ from by have e:=P6.out;rw [World.size_alloc] at e;exact e);have HB7:Below w.heap.size w ((w5.alloc (zeroObj 256)).alloc (.cells #[.int .i64 0,.slice (some ⟨g5,0,none⟩) 256 cc5,.int .i64 1,.slice (some ⟨w5.heap.size,0,none⟩) 256 256] 56)):=HB6.alloc (by rw [World.size_alloc];omega) _;have HF6:Hid (Fr (h.T d) w ((w5.alloc (zeroObj 256)).alloc (.cells #[.int .i64 0,.slice (some ⟨g5,0,none⟩) 256 cc5,.int .i64 1,.slice (some ⟨w5.heap.size,0,none⟩) 256 256] 56))):=(show Fr _ _ _ from Fr.of _ HB7);have hlast:=HB7.size;have HWS:=Lib.hid (writes_any lo d h s f [(0,hb),(1,zeros)] _ 2 2 _ (HH.out.later HB7) (by have:=HLO.out;omega) HAT.out HDN.out P7.out HK2.out (show 2≤1000 by decide) HFL.out HWR.out HMK.out (fun g hg=>HUU.out g (by omega)));clear hb5 hr5 hg5 R5 R6 Z6))
   | (go_at_call 28;(with_reducible refine (HHD.out _).mono ?_);go_must (rintro e w5 ⟨g5,cc5,rfl,hg5,hr5,hb5⟩;have HB5:Below w.heap.size w w5:=(bstep (Below.drew (hX.alloc (Nat.le_refl _) (zeroObj 256))) hb5 (Nat.le_refl _));have HG5:w.heap.size≤g5:=Nat.le_trans (hX.alloc (Nat.le_refl _) (zeroObj 256)).size hg5;have hgl5:g5 < w5.heap.size:=(by obtain ⟨b5,o5,e5,-,hc5⟩:=hr5.2 (by decide);injection e5 with e5;injection e5 with e5 e6;subst e5;exact block_lt_of_cell (hc5 0 _ (List.getElem?_eq_getElem (show 0 < (cb hb).length by have:=hr5.1;omega))));have hs5:=HB5.size;have R5:RowAt w5 (h.T d) (some ⟨g5,0,none⟩) 256 hb:=⟨HLB.out,fun _=>⟨g5,0,rfl,HFR.out g5 HG5,hgl5⟩,Rd.here hr5⟩;have Z6:RowAt w5 (h.T d) (some ⟨w.heap.size,0,none⟩) 256 zeros:=(RowAt.own2 (HZ.out w) (fun g hg=>HFR.out g hg)).later (show Below (w.alloc (zeroObj 256)).heap.size (w.alloc (zeroObj 256)) w5 from ⟨hb5.os,hb5.tape,hb5.output,hb5.size,hb5.block⟩);have P6:=Lib.hid (puts2 (w:=w5) (T:=h.T d) (fun g hg=>HFR.out g (by omega)) 0 1 (c1:=cc5) (c2:=256) R5 Z6);have HB7:Below w.heap.size w (w5.alloc (.cells #[.int .i64 0,.slice (some ⟨g5,0,none⟩) 256 cc5,.int .i64 1,.slice (some ⟨w.heap.size,0,none⟩) 256 256] 56)):=HB5.alloc hs5 _;have HF6:Hid (Fr (h.T d) w (w5.alloc (.cells #[.int .i64 0,.slice (some ⟨g5,0,none⟩) 256 cc5,.int .i64 1,.slice (some ⟨w.heap.size,0,none⟩) 256 256] 56))):=(show Fr _ _ _ from Fr.of _ HB7);have hlast:=HB7.size;have HWS:=Lib.hid (writes_any lo d h s f [(0,hb),(1,zeros)] _ 2 2 _ (HH.out.later HB7) (by have:=HLO.out;omega) HAT.out HDN.out P6.out HK2.out (show 2≤1000 by decide) HFL.out HWR.out HMK.out (fun g hg=>HUU.out g (by omega)));clear hb5 hr5 hg5 R5 Z6)))
  all_goals
   go_wp2_with fail
   go_meet
   case rel=>exact ⟨E7,s7,h7,rfl,HR7,HH7,HF7,HT7,HU7⟩
 case rest =>
 obtain ⟨E,s7,h7,rfl,HR7,HH7,HF7,HT7,HU7⟩:=hcut
 go_wp2_with fail
 go_ret
 exact ⟨E,s7,h7,rfl,HR7.out,HH7.out,HF7.out,HT7.out,HU7.out⟩
end Go.Proofs.Ytdoanopeejeeiaa

