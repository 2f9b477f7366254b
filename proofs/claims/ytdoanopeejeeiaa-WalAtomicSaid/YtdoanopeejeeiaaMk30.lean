/- XWla -/
import Derived.Test.YtdoanopeejeeiaaMk29
namespace Go.Proofs.Ytdoanopeejeeiaa
set_option linter.all false
open Go.RowKit Go.Maps
/-- What a disk's rows avoid beside its own blocks may be less. -/
theorem DkOk.subU {w:World} {lo d:Nat} {h:Hn} {s:Dk} (k:DkOk w lo d h s) (U:Nat→Prop) (hU:∀ g,U g→h.U g):DkOk w lo d { h with U:=U } s:=by
 have hS:∀ g,Hn.S { h with U:=U } d g→h.S d g:=fun g hg=>hg.elim .inl (fun e=>.inr (hU g e))
 exact { k with
  now:=k.now.sub hS
  dur:=k.dur.sub hS
  pr:=k.pr.sub hS
  mask:=k.mask.sub hS }
/-- A new log upon a disk. -/
theorem LgOk.new {w:World} {lo d:Nat} {h:Hn} {s:Dk} (k:DkOk w lo d h s) (ring seq pos:Nat) :
  LgOk (w.alloc (.cells (lgC d ring seq pos).toArray 70)) lo d w.heap.size { h with U:=fun g=>g=w.heap.size } s ring seq pos:=by
 have hb:Below w.heap.size w (w.alloc (.cells (lgC d ring seq pos).toArray 70)):=(Below.refl _ _).alloc (Nat.le_refl _) _
 exact ⟨(k.setU.subU (fun g=>g=w.heap.size) (fun g e=>by subst e;exact Nat.le_refl _)).later hb,Arr.new w _ _,fun e=>by have:=(k.Tlt _ e).2;omega,rfl,fun g hg e=>by have e:g=w.heap.size:=e;rw [World.size_alloc] at hg;omega⟩
theorem numAt_head (ring seq pos:Nat) (h1:ring < 65536) (h2:seq < 281474976710656) (h3:pos < 65536):numAt (headB ring seq pos) 2 2=ring∧numAt (headB ring seq pos) 4 6=seq∧numAt (headB ring seq pos) 10 2=pos:=by
 obtain ⟨e1,e2,e3⟩:=headB_cuts ring seq pos
 unfold numAt
 rw [e1,e2,e3]
 exact ⟨beV_beB 2 ring (by omega),beV_beB 6 seq (by omega),beV_beB 2 pos (by omega)⟩
set_option maxRecDepth 100000 in
set_option maxHeartbeats 6400000 in
theorem openA_any (lo d:Nat) (h:Hn) (s:Dk) (f:SF) (ring seq pos:Nat) (w:World) (H:DkOk w lo d h s) (hat:At s f) (hdn:s.down=false) (hLG:LogA f s.n ring seq pos) (hs:seq≤1000000) :
  Calls Try.prog 9 #[.pointer (some ⟨d,0,none⟩)] w fun e w'=>∃ l h',e=.returned (.tuple #[.pointer (some ⟨l,0,none⟩),.bool false,.int .i64 0])∧LgOk w' lo d l h' s ring seq pos∧h'.T d=h.T d∧w.heap.size≤l∧Below w.heap.size w w':=by
 have hN:=H.size
 have hr5:ring≤5000:=by have:=hLG.r2;omega
 have hpp:=hLG.p
 have hr1:=hLG.r1
 have hr2:=hLG.r2
 obtain ⟨q1,q2,q3⟩:=numAt_head ring seq pos (by omega) (by omega) (by omega)
 have HRD:=secR_any lo d h s f 0 w H hat hdn (by omega)
 rw [hLG.head,show ((0:Nat):Int)=0 from rfl] at HRD
 have HRD:=Lib.hid HRD
 have HHD:=Lib.hid (fun w=>headW_any ring seq pos (by omega) (by omega) (by omega) w)
 have HRB1:=Lib.hid (fun (w:World) A c (h:RdB w w.heap.size A 256 (headB ring seq pos)) (hc:256≤c)=>readB_any 256 c A (headB ring seq pos) 2 2 2 2 rfl rfl w h hc (by omega) (by omega) (by omega) (by omega))
 have HRB2:=Lib.hid (fun (w:World) A c (h:RdB w w.heap.size A 256 (headB ring seq pos)) (hc:256≤c)=>readB_any 256 c A (headB ring seq pos) 4 6 4 6 rfl rfl w h hc (by omega) (by omega) (by omega) (by omega))
 have HRB3:=Lib.hid (fun (w:World) A c (h:RdB w w.heap.size A 256 (headB ring seq pos)) (hc:256≤c)=>readB_any 256 c A (headB ring seq pos) 10 2 10 2 rfl rfl w h hc (by omega) (by omega) (by omega) (by omega))
 rw [q1] at HRB1
 rw [q2] at HRB2
 rw [q3] at HRB3
 have HWG:=Lib.hid (fun (w':World) (hb:Below w.heap.size w w')=>wrongW_any w' lo d h s (ring:Int) (H.later hb).arr hN.2 false (decide_eq_false (by omega)).symm)
 have HAT:=Lib.hid hat
 have HDN:=Lib.hid hdn
 have HH:=Lib.hid H
 have HLG:=Lib.hid hLG
 obtain ⟨hb0,hhb⟩:∃ b,headB ring seq pos=b:=⟨_,rfl⟩
 rw [hhb] at HRD HHD HRB1 HRB2 HRB3
 have hbe:(hb0 == hb0)=true:=beq_self_eq_true hb0
 have dp:decide ((ring:Int)≤(pos:Int))=false:=decide_eq_false (by omega)
 clear H hat hdn hLG q1 q2 q3 hhb
 go_enter Try.func9,Try.ntmps9
 go_upto_region 10 with (first
  | (go_at_call 29;(with_reducible refine HRD.out.mono ?_);go_must (rintro e w1 ⟨A1,c1,rfl,hc1,hr1',-,hb1⟩;have hB1:=hb1;clear hb1;have HR1:=Lib.hid hr1'.2.2;clear hr1';have HX1:=Lib.hid (HRB1.out _ _ _ HR1.out hc1);have HX2:=Lib.hid (HRB2.out _ _ _ HR1.out hc1);have HX3:=Lib.hid (HRB3.out _ _ _ HR1.out hc1)))
  | (go_at_call 30;(with_reducible refine HX1.out.mono ?_);go_must (rintro e w2 ⟨rfl,rfl⟩))
  | (go_at_call 30;(with_reducible refine HX2.out.mono ?_);go_must (rintro e w2 ⟨rfl,rfl⟩))
  | (go_at_call 30;(with_reducible refine HX3.out.mono ?_);go_must (rintro e w2 ⟨rfl,rfl⟩))
  | (go_at_call 28;(with_reducible refine (HHD.out _).mono ?_);go_must (rintro e w5 ⟨g5,cc5,rfl,-,hr5',hb5⟩;have hB5:Below w.heap.size w w5:=hB1.trans (hb5.mono hB1.size);have HEQ:=equalW_any _ 256 c1 _ 256 cc5 _ _ _ _ w5 (RdB.later HR1.out hb5) hr5';rw [hbe] at HEQ;have HEQ:=Lib.hid HEQ;have HWG5:=Lib.hid (HWG.out w5 hB5);clear hb5 hr5'))
  | (go_at_call 31;(with_reducible refine HEQ.out.mono ?_);go_must (rintro e w6 ⟨rfl,rfl⟩))
  | (go_at_call 26;(with_reducible refine HWG5.out.mono ?_);go_must (rintro e w7 ⟨rfl,rfl⟩)))
 have HL5:Hid (LgOk (w5.alloc (.cells #[.pointer (some ⟨d,0,none⟩),.int .i64 (ring:Int),.int .i64 (seq:Int),.int .i64 (pos:Int)] 70)) lo d w5.heap.size { h with U:=fun g=>g=w5.heap.size } s ring seq pos):=(show LgOk _ _ _ _ _ _ _ _ _ from LgOk.new (HH.out.later hB5) ring seq pos)
 have hB6:Below w.heap.size w (w5.alloc (.cells #[.pointer (some ⟨d,0,none⟩),.int .i64 (ring:Int),.int .i64 (seq:Int),.int .i64 (pos:Int)] 70)):=hB5.alloc hB5.size _
 have hlw:w.heap.size≤w5.heap.size:=hB5.size
 have hl6:w5.heap.size < (w5.alloc (.cells #[.pointer (some ⟨d,0,none⟩),.int .i64 (ring:Int),.int .i64 (seq:Int),.int .i64 (pos:Int)] 70)).heap.size:=by rw [World.size_alloc];omega
 clear HRD HHD HRB1 HRB2 HRB3 HX1 HX2 HX3 HEQ HWG HWG5 HR1 dp hbe
 have HRE:=Lib.hid (redoA_any lo d w5.heap.size _ s f ring seq pos _ HL5.out HAT.out HDN.out HLG.out hs)
 go_wp2_with (go_at_call 32;(with_reducible refine HRE.out.mono ?_);go_must (rintro e w8 ⟨rfl,hb8⟩;have HB8:=Lib.hid hb8;clear hb8))
 (try simp only [Exit.inBlock,Exit.then]);(refine bodyPost_ret (v:=.tuple #[.pointer (some ⟨w5.heap.size,0,none⟩),.bool false,.int .i64 0]) ?_ rfl ?_)
 ·unfold results;go_simp
 exact ⟨w5.heap.size,_,rfl,HL5.out.later HB8.out,rfl,hlw,hB6.trans (HB8.out.mono hB6.size)⟩
/-- What an opening of a marked log leaves. -/
def OpenPost (lo d:Nat) (h:Hn) (s:Dk) (f:SF) (ring seq pos:Nat) (ps:List (Nat × Bs)) (w:World) (e:Ending) (w':World):Prop :=
 ∃ l R E s' h',e=.returned (.tuple #[if E=0 then .pointer (some ⟨l,0,none⟩) else .pointer none,.bool (if E=0 then R else false),.int .i64 E])∧RedoRes s f ring seq pos ps R E s'∧DkOk w' lo d h' s' ∧
  (E=0→LgOk w' lo d l h' s' ring (seq+1) (posN ring pos ps.length))∧Fr (h.T d) w w'∧TT w (h.T d) (h'.T d)∧(∀ g,w'.heap.size≤g→¬ h'.U g)∧w.heap.size≤l
set_option maxRecDepth 100000 in
set_option maxHeartbeats 6400000 in
theorem openB_any (lo d:Nat) (h:Hn) (s:Dk) (f:SF) (ring seq pos:Nat) (ps:List (Nat × Bs)) (w:World) (H:DkOk w lo d h s) (hlo:lo≤w.heap.size) (hat:At s f) (hdn:s.down=false) (hLG:LogB f s.n ring seq pos ps) (hs:seq≤1000000)
  (hf:s.falls≤9223372036854775807) (hwr:s.writes≤800000000) (hmk:s.mask.length≤1000000) :
  Calls Try.prog 9 #[.pointer (some ⟨d,0,none⟩)] w fun e w'=>OpenPost lo d h s f ring seq pos ps w e w':=by
 have hN:=H.size
 have hr5:ring≤5000:=by have:=hLG.r2;omega
 have hpp:=hLG.p
 have hr1:=hLG.r1
 have hr2:=hLG.r2
 obtain ⟨q1,q2,q3⟩:=numAt_head ring seq pos (by omega) (by omega) (by omega)
 have HRD:=secR_any lo d h s f 0 w H hat hdn (by omega)
 rw [hLG.head,show ((0:Nat):Int)=0 from rfl] at HRD
 have HRD:=Lib.hid HRD
 have HHD:=Lib.hid (fun w=>headW_any ring seq pos (by omega) (by omega) (by omega) w)
 have HRB1:=Lib.hid (fun (w:World) A c (h:RdB w w.heap.size A 256 (headB ring seq pos)) (hc:256≤c)=>readB_any 256 c A (headB ring seq pos) 2 2 2 2 rfl rfl w h hc (by omega) (by omega) (by omega) (by omega))
 have HRB2:=Lib.hid (fun (w:World) A c (h:RdB w w.heap.size A 256 (headB ring seq pos)) (hc:256≤c)=>readB_any 256 c A (headB ring seq pos) 4 6 4 6 rfl rfl w h hc (by omega) (by omega) (by omega) (by omega))
 have HRB3:=Lib.hid (fun (w:World) A c (h:RdB w w.heap.size A 256 (headB ring seq pos)) (hc:256≤c)=>readB_any 256 c A (headB ring seq pos) 10 2 10 2 rfl rfl w h hc (by omega) (by omega) (by omega) (by omega))
 rw [q1] at HRB1
 rw [q2] at HRB2
 rw [q3] at HRB3
 have HWG:=Lib.hid (fun (w':World) (hb:Below w.heap.size w w')=>wrongW_any w' lo d h s (ring:Int) (H.later hb).arr hN.2 false (decide_eq_false (by omega)).symm)
 have HAT:=Lib.hid hat
 have HDN:=Lib.hid hdn
 have HH:=Lib.hid H
 have HLG:=Lib.hid hLG
 have HLO:=Lib.hid hlo
 have HMK:=Lib.hid hmk
 have HFL:=Lib.hid hf
 have HWR:=Lib.hid hwr
 obtain ⟨hb0,hhb⟩:∃ b,headB ring seq pos=b:=⟨_,rfl⟩
 rw [hhb] at HRD HHD HRB1 HRB2 HRB3
 have hbe:(hb0 == hb0)=true:=beq_self_eq_true hb0
 have dp:decide ((ring:Int)≤(pos:Int))=false:=decide_eq_false (by omega)
 clear H hat hdn hLG q1 q2 q3 hhb hlo hmk hf hwr
 go_enter Try.func9,Try.ntmps9
 go_upto_region 10 with (first
  | (go_at_call 29;(with_reducible refine HRD.out.mono ?_);go_must (rintro e w1 ⟨A1,c1,rfl,hc1,hr1',-,hb1⟩;have hB1:=hb1;clear hb1;have HR1:=Lib.hid hr1'.2.2;clear hr1';have HX1:=Lib.hid (HRB1.out _ _ _ HR1.out hc1);have HX2:=Lib.hid (HRB2.out _ _ _ HR1.out hc1);have HX3:=Lib.hid (HRB3.out _ _ _ HR1.out hc1)))
  | (go_at_call 30;(with_reducible refine HX1.out.mono ?_);go_must (rintro e w2 ⟨rfl,rfl⟩))
  | (go_at_call 30;(with_reducible refine HX2.out.mono ?_);go_must (rintro e w2 ⟨rfl,rfl⟩))
  | (go_at_call 30;(with_reducible refine HX3.out.mono ?_);go_must (rintro e w2 ⟨rfl,rfl⟩))
  | (go_at_call 28;(with_reducible refine (HHD.out _).mono ?_);go_must (rintro e w5 ⟨g5,cc5,rfl,-,hr5',hb5⟩;have hB5:Below w.heap.size w w5:=hB1.trans (hb5.mono hB1.size);have HEQ:=equalW_any _ 256 c1 _ 256 cc5 _ _ _ _ w5 (RdB.later HR1.out hb5) hr5';rw [hbe] at HEQ;have HEQ:=Lib.hid HEQ;have HWG5:=Lib.hid (HWG.out w5 hB5);clear hb5 hr5'))
  | (go_at_call 31;(with_reducible refine HEQ.out.mono ?_);go_must (rintro e w6 ⟨rfl,rfl⟩))
  | (go_at_call 26;(with_reducible refine HWG5.out.mono ?_);go_must (rintro e w7 ⟨rfl,rfl⟩)))
 have HL5:Hid (LgOk (w5.alloc (.cells #[.pointer (some ⟨d,0,none⟩),.int .i64 (ring:Int),.int .i64 (seq:Int),.int .i64 (pos:Int)] 70)) lo d w5.heap.size { h with U:=fun g=>g=w5.heap.size } s ring seq pos):=(show LgOk _ _ _ _ _ _ _ _ _ from LgOk.new (HH.out.later hB5) ring seq pos)
 have hB6:Below w.heap.size w (w5.alloc (.cells #[.pointer (some ⟨d,0,none⟩),.int .i64 (ring:Int),.int .i64 (seq:Int),.int .i64 (pos:Int)] 70)):=hB5.alloc hB5.size _
 have hlw:w.heap.size≤w5.heap.size:=hB5.size
 have hl6:w5.heap.size < (w5.alloc (.cells #[.pointer (some ⟨d,0,none⟩),.int .i64 (ring:Int),.int .i64 (seq:Int),.int .i64 (pos:Int)] 70)).heap.size:=by rw [World.size_alloc];omega
 clear HRD HHD HRB1 HRB2 HRB3 HX1 HX2 HX3 HEQ HWG HWG5 HR1 dp hbe
 have HRE:=Lib.hid (redoB_any lo d w5.heap.size _ s f ring seq pos ps _ HL5.out (by have:=HLO.out;have:=hB6.size;omega) HAT.out HDN.out HLG.out hs HFL.out HWR.out HMK.out)
 go_upto_region 12 with (go_at_call 32;(with_reducible refine HRE.out.mono ?_);go_must (rintro e w8 ⟨R8,E8,s8,h8,rfl,r8,H8,L8,F8,T8,U8⟩;have HR8:=Lib.hid r8;have HH8:=Lib.hid H8;have HL8:=Lib.hid L8;have HF8:=Lib.hid F8;have HT8:=Lib.hid T8;have HU8:=Lib.hid U8;clear r8 H8 L8 F8 T8 U8))
 have hfr:Fr (h.T d) w w8:=⟨HF8.out.os.trans hB6.os,HF8.out.tape.trans hB6.tape,HF8.out.output.trans hB6.output,Nat.le_trans hB6.size HF8.out.size,fun k hk hn=>(HF8.out.block k (Nat.lt_of_lt_of_le hk hB6.size) (fun e=>e.elim hn (fun e=>by omega))).trans (hB6.block k hk)⟩
 have htt:TT w (h.T d) (h8.T d):=(show TT w (h.T d) (h.T d) from TT.refl _ _).trans HT8.out hB6.size
 have huu:∀ g,w8.heap.size≤g→¬ h8.U g:=fun g hg e=>by
  rw [HU8.out] at e
  have e2:g=w5.heap.size:=e
  have:=HF8.out.size
  omega
 rcases HR8.out.2.2 with ⟨hE,hR,-⟩ | ⟨hE,-⟩
 ·subst hE hR
  go_wp2_with fail
  (try simp only [Exit.inBlock,Exit.then]);(refine bodyPost_ret (v:=.tuple #[.pointer (some ⟨w5.heap.size,0,none⟩),.bool true,.int .i64 0]) ?_ rfl ?_)
  ·unfold results;go_simp
  unfold OpenPost
  exact ⟨w5.heap.size,true,0,s8,h8,rfl,HR8.out,HH8.out,fun _=>HL8.out trivial,hfr,htt,huu,hlw⟩
 ·subst hE
  go_wp2_with fail
  (try simp only [Exit.inBlock,Exit.then]);(refine bodyPost_ret (v:=.tuple #[.pointer none,.bool false,.int .i64 12]) ?_ rfl ?_)
  ·unfold results;go_simp
  unfold OpenPost
  exact ⟨w5.heap.size,R8,12,s8,h8,rfl,HR8.out,HH8.out,fun e=>absurd e (by decide),hfr,htt,huu,hlw⟩
end Go.Proofs.Ytdoanopeejeeiaa

