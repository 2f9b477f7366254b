/- Merged: Put, Fl5, Fl6, Fl10, Fl11. -/
import Derived.Test.YteoolehdomjkkaaGreatMd12
import Derived.Test.YteoolehdomjkkaaGreatMd06
/- Writers of bits: Put, Align, Bits. -/
namespace Go.Proofs.YteoolehdomjkkaaGreat
set_option linter.all false
open Go.RowKit
set_option maxRecDepth 100000 in
set_option maxHeartbeats 3200000 in
theorem put_any (g v m:Nat) (pv:Value) (bs:List UInt8) (L:List Nat) (w:World) (h:Wr w g pv bs L) (hb:L.length+m≤1000000) (hm:m≤24) (hv:v < 2 ^ m) :
  Calls Tryz.prog 151 #[.pointer (some ⟨g,0,none⟩),.int .u32 (v:Int),.int .i64 (m:Int)] w fun e w'=>e=.returned (.int .i64 0)∧∃ pv' bs',Wr w' g pv' bs' (L ++ lsb v m)∧WrFr w w' g pv pv':=by
 have HWG:=Lib.hid (fun w=>wrongBits_any v m w hm hv)
 have HW:=Lib.hid h
 have hv24:v < 16777216:=Nat.lt_of_lt_of_le hv (Nat.pow_le_pow_right (by decide) hm)
 have HM:Hid (L ++ lsb v 0=L):=(show _=_ by simp [lsb])
 clear h hv
 go_enter Tryz.func151,Tryz.ntmps151
 go_wp2_with (go_at_call 180;(with_reducible refine (HWG.out _).mono ?_);go_must (rintro e w1 ⟨rfl,rfl⟩))
 go_loopw [12] (fun vi wr=>∃ k:Nat,k≤m∧vi=.int .i64 k∧∃ pq bq,Hid (Wr wr g pq bq (L ++ lsb v k))∧Hid (WrFr w wr g pv pq)) (fun vi _=>m - (intOf vi).toNat)
 case atStart=>exact ⟨0,Nat.zero_le _,rfl,pv,bs,(show Wr _ _ _ _ _ by rw [HM.out];exact HW.out),WrFr.refl _ _ _⟩
 case round =>
  clear HW HM
  obtain ⟨k,hk,rfl,pq,bq,HW,HF⟩:=hrel
  by_cases hlt:k < m
  ·have hlen:(L ++ lsb v k).length=L.length+k:=by rw [List.length_append,lsb_len]
   have hdv:v / 2 ^ k < 4294967296:=Nat.lt_of_le_of_lt (Nat.div_le_self _ _) (by omega)
   have HC:=Lib.hid (one_any g (L ++ lsb v k).length (v / 2 ^ k) pq bq _ wr HW.out.1 HW.out.2.1 HW.out.2.2 rfl (by omega) hdv)
   have HST:Hid (L ++ lsb v k ++ [v / 2 ^ k % 2]=L ++ lsb v (k+1)):=(show _=_ by rw [lsb,List.append_assoc])
   have HLN:Hid ((((L ++ lsb v k).length+1:Nat):Int)=(((L ++ lsb v (k+1)).length:Nat):Int)):=(show _=_ by rw [← HST.out];congr 1;simp;omega)
   rw [HST.out,HLN.out] at HC
   have hdvI:(v:Int) / 2 ^ k=((v / 2 ^ k:Nat):Int):=by rw [show ((2:Int) ^ k)=((2 ^ k:Nat):Int) by push_cast;rfl,← Int.natCast_ediv]
   generalize v / 2 ^ k=u at *
   clear hlen HST HLN
   go_wp2_with (go_at_call 181;(with_reducible refine HC.out.mono ?_);go_must (rintro e w5 ⟨rfl,pv5,bs5,hA5,hO5,hW5,hF5⟩;have HF5:=Lib.hid (HF.out.trans hF5);have HW5:Hid (Wr w5 g pv5 bs5 (L ++ lsb v (k+1))):=⟨hA5,hO5,hW5⟩;clear hA5 hO5 hW5 hF5))
   go_roundw
   case rel=>exact ⟨k+1,by omega,by go_num,pv5,bs5,HW5,HF5⟩
   case measure=>simp [intOf];omega
  ·obtain rfl:k=m:=by omega
   go_wp2_with fail
   go_ret
   exact ⟨rfl,pq,bq,HW.out,HF.out⟩
/-- On to the next whole byte. -/
theorem align_any (g:Nat) (pv:Value) (bs:List UInt8) (L:List Nat) (w:World) (h:Wr w g pv bs L) (hb:L.length≤1000000) :
  Calls Tryz.prog 113 #[.pointer (some ⟨g,0,none⟩)] w fun e w'=>e=.returned (.tuple #[])∧Wr w' g pv bs (alignL L)∧WrFr w w' g pv pv:=by
 obtain ⟨h1,h2,h3⟩:=h
 obtain ⟨A,c,rfl,hr,-,-⟩:=h2.form
 have hbl:bs.length=(L.length+7) / 8:=h3.1
 have hbn:bs.length≤200000:=by omega
 have HLE:Hid ((8 * (bs.length:Int))=(((alignL L).length:Nat):Int)):=(show _=_ by rw [alignL_len,hbl];push_cast;rfl)
 have c0:=h1.cell (k:=0) rfl
 have c1:=h1.cell (k:=1) rfl
 have f1:=h1.frozen 1
 have HA:=Lib.hid (h1.set 1 (.int .i64 (8 * (bs.length:Int))))
 have HO:=Lib.hid (ownB.far h2 (g:=g) (ownB_ne h2 (Nat.lt_succ_self g)) 1 (.int .i64 (8 * (bs.length:Int))))
 have HF:=Lib.hid ((WrFr.refl w g (.slice A bs.length c)).setg 1 (.int .i64 (8 * (bs.length:Int))))
 have HW:=Lib.hid h3.align
 rw [HLE.out] at HA
 have e:wrap64 (8 * (bs.length:Int))=8 * (bs.length:Int):=wrap64_id _ (by omega) (by omega)
 clear h1 h2 h3 hr hbl hb
 generalize bs.length=n at *
 go_enter Tryz.func113,Tryz.ntmps113
 go_wp2_with fail
 first | (refine bodyPost_ret (results_none rfl _ _ _) rfl ?_) | (refine bodyPost_end (results_none rfl _ _ _) rfl ?_)
 refine ⟨rfl,⟨?_,?_,HW.out⟩,?_⟩
 ·rw [HLE.out];exact HA.out
 ·rw [HLE.out];rw [HLE.out] at HO;exact HO.out
 ·exact HF.out
theorem bitsN_any (g:Nat) (pv:Value) (bs:List UInt8) (L:List Nat) (w:World) (h:Wr w g pv bs L) :
  Calls Tryz.prog 62 #[.pointer (some ⟨g,0,none⟩)] w fun e w'=>e=.returned (.int .i64 ((L.length:Nat):Int))∧w=w':=by
 have c1:=h.1.cell (k:=1) rfl
 clear h
 go_enter Tryz.func62,Tryz.ntmps62
 go_wp2_with fail
 go_ret
 exact ⟨rfl,rfl⟩
end Go.Proofs.YteoolehdomjkkaaGreat

/- flate: a writer's put, code; a block begun. -/
namespace Go.Proofs.YteoolehdomjkkaaGreat
set_option linter.all false
open Go.RowKit
/-- A block that a writer leaves as it is. -/
structure Bx (w:World) (g:Nat) (pv:Value) (b:Nat):Prop where
 lt:b < w.heap.size
 ne:b ≠ g
 nv:pv.ownBlock ≠ some b
theorem Bx.wr {w w':World} {g b:Nat} {pv pv':Value} (h:Bx w g pv b) (hf:WrFr w w' g pv pv'):Bx w' g pv' b:=by
 refine ⟨Nat.lt_of_lt_of_le h.lt hf.size,h.ne,?_⟩
 rcases hf.own with e | ⟨j,hj,e⟩
 ·rw [e];exact h.nv
 ·rw [e];intro e2;injection e2 with e2;have:=h.lt;omega
theorem Bx.heap {w w':World} {g b:Nat} {pv pv':Value} (h:Bx w g pv b) (hf:WrFr w w' g pv pv'):w'.heap[b]?=w.heap[b]?:=hf.block b h.lt h.ne h.nv
theorem Bx.cell {w w':World} {g b i:Nat} {pv pv' u:Value} (h:Bx w g pv b) (hf:WrFr w w' g pv pv') (c:w.cell? ⟨b,i,none⟩=some u):w'.cell? ⟨b,i,none⟩=some u:=by
 rw [← c];unfold World.cell?;rw [h.heap hf]
theorem Bx.new {w:World} {g:Nat} {pv:Value} {bs:List UInt8} {L:List Nat} (h:Wr w g pv bs L) (o:Obj):Bx (w.alloc o) g pv w.heap.size:=by
 refine ⟨by simp,?_,fun e=>?_⟩
 ·have:=h.1.lt;omega
 ·have:=(World.ownsRow.lt h.2.1 _ e).2;omega
theorem Bx.alloc {w:World} {g b:Nat} {pv:Value} (h:Bx w g pv b) (o:Obj):Bx (w.alloc o) g pv b:=⟨by have:=h.lt;simp;omega,h.ne,h.nv⟩
theorem Bx.drew {w:World} {g b:Nat} {pv:Value} (h:Bx w g pv b):Bx w.drew g pv b:=⟨h.lt,h.ne,h.nv⟩
theorem Wr.alloc {w:World} {g:Nat} {pv:Value} {bs:List UInt8} {L:List Nat} (h:Wr w g pv bs L) (o:Obj):Wr (w.alloc o) g pv bs L:=⟨h.1.alloc o,h.2.1.alloc o,h.2.2⟩
theorem WrFr.alloc0 {w w':World} {g:Nat} {pv pv':Value} (o:Obj) (h:WrFr (w.alloc o) w' g pv pv'):WrFr w w' g pv pv':=by
 refine ⟨h.os,h.tape,h.output,Nat.le_trans (by simp) h.size,fun k hk hg hp=>?_,?_⟩
 ·exact (h.block k (by simp;omega) hg hp).trans (heap_alloc_old w o hk)
 ·rcases h.own with e | ⟨j,hj,e⟩
  ·exact .inl e
  ·exact .inr ⟨j,by simp at hj;omega,e⟩
theorem WrFr.alloc {w w':World} {g:Nat} {pv pv':Value} (o:Obj) (h:WrFr w w' g pv pv'):WrFr w (w'.alloc o) g pv pv':=by
 refine ⟨h.os,h.tape,h.output,by have:=h.size;simp;omega,fun k hk hg hp=>?_,h.own⟩
 exact (heap_alloc_old w' o (Nat.lt_of_lt_of_le hk h.size)).trans (h.block k hk hg hp)
/-- A writer by value: a struct of one pointer. -/
abbrev wrV (g:Nat):Value:=.agg #[.pointer (some ⟨g,0,none⟩)]
set_option maxHeartbeats 1600000 in
theorem fput_any (g v m:Nat) (pv:Value) (bs:List UInt8) (L:List Nat) (w:World) (h:Wr w g pv bs L) (hb:L.length+m≤1000000) (hm:m≤24) (hv:v < 2 ^ m) :
  Calls Tryz.prog 105 #[wrV g,.int .i64 (v:Int),.int .i64 (m:Int)] w fun e w'=>e=.returned (.tuple #[])∧∃ pv' bs',Wr w' g pv' bs' (L ++ lsb v m)∧WrFr w w' g pv pv':=by
 have HP:=Lib.hid (fun o=>put_any g v m pv bs L (w.alloc o) (h.alloc o) hb hm hv)
 have hv24:v < 16777216:=Nat.lt_of_lt_of_le hv (Nat.pow_le_pow_right (by decide) hm)
 have hvm:(v:Int) % 4294967296=(v:Int):=Int.emod_eq_of_lt (by omega) (by omega)
 clear h hv
 go_enter Tryz.func105,Tryz.ntmps105
 go_wp2_with (go_at_call 151;(with_reducible refine (HP.out _).mono ?_);go_must (rintro e w1 ⟨rfl,pv1,bs1,hw1,hf1⟩;have HW1:=Lib.hid hw1;have HF1:=Lib.hid hf1.alloc0;clear hw1 hf1))
 (try simp only [Exit.inBlock,Exit.then])
 first | (refine bodyPost_ret (results_none rfl _ _ _) rfl ?_) | (refine bodyPost_end (results_none rfl _ _ _) rfl ?_)
 exact ⟨rfl,pv1,bs1,HW1.out,HF1.out⟩
set_option maxHeartbeats 1600000 in
theorem fcode_any (g v m:Nat) (pv:Value) (bs:List UInt8) (L:List Nat) (w:World) (h:Wr w g pv bs L) (hb:L.length+m≤1000000) (hm:m≤24) (hv:v < 2 ^ m) :
  Calls Tryz.prog 107 #[wrV g,.agg #[.int .u32 (v:Int),.int .i64 (m:Int)]] w fun e w'=>e=.returned (.tuple #[])∧∃ pv' bs',Wr w' g pv' bs' (L ++ msb v m m)∧WrFr w w' g pv pv':=by
 have HP:=Lib.hid (fun o p=>code_any g v m pv bs L ((w.alloc o).alloc p) ((h.alloc o).alloc p) hb hm hv)
 clear h hv
 go_enter Tryz.func107,Tryz.ntmps107
 go_wp2_with (go_at_call 154;(with_reducible refine (HP.out _ _).mono ?_);go_must (rintro e w1 ⟨rfl,pv1,bs1,hw1,hf1⟩;have HW1:=Lib.hid hw1;have HF1:=Lib.hid (hf1.alloc0).alloc0;clear hw1 hf1))
 (try simp only [Exit.inBlock,Exit.then])
 first | (refine bodyPost_ret (results_none rfl _ _ _) rfl ?_) | (refine bodyPost_end (results_none rfl _ _ _) rfl ?_)
 exact ⟨rfl,pv1,bs1,HW1.out,HF1.out⟩
/-- put, its numbers as they stand in the code. -/
theorem fput_lit (g:Nat) (V M:Int) (v m:Nat) (hV:V=(v:Int)) (hM:M=(m:Int)) (pv:Value) (bs:List UInt8) (L:List Nat) (w:World) (h:Wr w g pv bs L) (hb:L.length+m≤1000000) (hm:m≤24) (hv:v < 2 ^ m) :
  Calls Tryz.prog 105 #[wrV g,.int .i64 V,.int .i64 M] w fun e w'=>e=.returned (.tuple #[])∧∃ pv' bs',Wr w' g pv' bs' (L ++ lsb v m)∧WrFr w w' g pv pv':=by
 subst hV hM
 exact fput_any g v m pv bs L w h hb hm hv
end Go.Proofs.YteoolehdomjkkaaGreat

/- flate: a block begun; a stored block. -/
namespace Go.Proofs.YteoolehdomjkkaaGreat
set_option linter.all false
open Go.RowKit
/-- What a block begins with. -/
def headL (kind:Nat):List Nat:=1 :: lsb kind 2
theorem headL_len (k:Nat):(headL k).length=3:=by unfold headL;rw [List.length_cons,lsb_len]
theorem Wr.far {w:World} {g g2:Nat} {pv:Value} {bs:List UInt8} {L:List Nat} (h:Wr w g pv bs L) (hb:Bx w g pv g2) (i:Nat) (u:Value):Wr (w.setCell ⟨g2,i,none⟩ u) g pv bs L :=
 ⟨h.1.far (p:=⟨g2,i,none⟩) hb.ne u,ownB.far h.2.1 hb.nv i u,h.2.2⟩
theorem Arr.wr {w w':World} {g b:Nat} {pv pv':Value} {cs:List Value} (h:Arr w b cs) (hb:Bx w g pv b) (hf:WrFr w w' g pv pv'):Arr w' b cs:=by
 obtain ⟨t,h⟩:=h
 exact ⟨t,(hb.heap hf).trans h⟩
set_option maxHeartbeats 1600000 in
theorem begin_any (kind:Nat) (hk:kind < 4) (w:World) :
  Calls Tryz.prog 57 #[.int .i64 (kind:Int)] w fun e w'=>∃ g pv bs,e=.returned (wrV g)∧w.heap.size≤g∧Wr w' g pv bs (headL kind)∧Below w.heap.size w w'∧(∀ k,pv.ownBlock=some k→w.heap.size≤k):=by
 have HN:=Lib.hid (fun w=>newWriter_any w)
 have HL1:Hid (([]:List Nat) ++ lsb 1 1=[1]):=(show _=_ by decide)
 have HL2:Hid ([1] ++ lsb kind 2=headL kind):=(show _=_ from rfl)
 have HB0:=Lib.hid (Below.refl w.heap.size w)
 go_enter Tryz.func57,Tryz.ntmps57
 go_wp2_with (first
  | (go_at_call 104;(with_reducible refine (HN.out _).mono ?_);go_must (rintro e w1 ⟨rfl,hw1,hb1,hs1⟩;have ha1:=(Arr.new w [.pointer none] 78).later hb1;have hbb:=(HB0.out.alloc (Nat.le_refl _) (.cells #[Value.pointer none] 78)).trans (hb1.mono (by simp));obtain ⟨g,hg⟩:∃ g,w.heap.size+1=g:=⟨_,rfl⟩;have hsg:(w.alloc (.cells #[Value.pointer none] 78)).heap.size=g:=(by rw [World.size_alloc];exact hg);rw [hsg] at hw1 hs1;simp only [hg];have HX3:=Lib.hid (Bx.new hw1 (.cells #[Value.pointer (some ⟨g,0,none⟩)] 78));have HX2:Hid (Bx (w1.alloc (.cells #[Value.pointer (some ⟨g,0,none⟩)] 78)) g (.slice none 0 0) w.heap.size):=⟨by rw [World.size_alloc];omega,by omega,by simp [Value.ownBlock]⟩;have HA3:=Lib.hid (Arr.new w1 [.pointer (some ⟨g,0,none⟩)] 78);have HA2:=Lib.hid (ha1.alloc (.cells #[Value.pointer (some ⟨g,0,none⟩)] 78));have HB1:=Lib.hid (hbb.alloc hbb.size (.cells #[Value.pointer (some ⟨g,0,none⟩)] 78));have hwa:=hw1.alloc (.cells #[Value.pointer (some ⟨g,0,none⟩)] 78);have HP1:=Lib.hid (fput_lit g 1 1 1 1 rfl rfl _ _ _ _ hwa (by simp) (by decide) (by decide));clear hw1 hb1 ha1 hbb hwa))
  | (go_at_call 105;(with_reducible refine HP1.out.mono ?_);go_must (rintro e w2 ⟨rfl,pv2,bs2,hw2,hf2⟩;rw [HL1.out] at hw2;have HF2:=Lib.hid hf2;have HA32:=Lib.hid (HA3.out.wr HX3.out hf2);have HA22:=Lib.hid (HA2.out.wr HX2.out hf2);have HX32:=Lib.hid (HX3.out.wr hf2);have HX22:=Lib.hid (HX2.out.wr hf2);have HP2:=Lib.hid (fput_lit g (kind:Int) 2 kind 2 rfl rfl _ _ _ _ hw2 (by simp) (by decide) hk);have c3:=HA32.out.cell (k:=0) rfl;clear hw2 hf2))
  | (go_at_call 105;(with_reducible refine HP2.out.mono ?_);go_must (rintro e w3 ⟨rfl,pv3,bs3,hw3,hf3⟩;rw [HL2.out] at hw3;have HF3:=Lib.hid (HF2.out.trans hf3);have HA33:=Lib.hid (HA32.out.wr HX32.out hf3);have HA23:=Lib.hid (HA22.out.wr HX22.out hf3);have HX23:=Lib.hid (HX22.out.wr hf3);have HW3:=Lib.hid hw3;have c33:=HA33.out.cell (k:=0) rfl;have c23:=HA23.out.cell (k:=0) rfl;have f23:=HA23.out.frozen 0;clear hw3 hf3)))
 refine bodyPost_ret (v:=.agg #[.pointer (some ⟨g,0,none⟩)]) ?_ rfl ?_
 ·unfold results
  go_simp
 ·have hF:=HF3.out
  refine ⟨g,pv3,bs3,rfl,by omega,HW3.out.far HX23.out 0 _,?_,fun k hk=>?_⟩
  ·have hB:Below w.heap.size w w3:=HB1.out.trans (hF.below (by simp;omega) (by omega) (fun k hk=>by simp [Value.ownBlock] at hk))
   exact hB.setCell (p:=⟨w.heap.size,0,none⟩) (Nat.le_refl _) _
  ·have:=(World.ownsRow.lt HW3.out.2.1 k hk).1
   omega
theorem begin_lit (K:Int) (kind:Nat) (hK:K=(kind:Int)) (hk:kind < 4) (w:World) :
  Calls Tryz.prog 57 #[.int .i64 K] w fun e w'=>∃ g pv bs,e=.returned (wrV g)∧w.heap.size≤g∧Wr w' g pv bs (headL kind)∧Below w.heap.size w w'∧(∀ k,pv.ownBlock=some k→w.heap.size≤k):=by
 subst hK
 exact begin_any kind hk w
end Go.Proofs.YteoolehdomjkkaaGreat

/- flate: the lengths of a block's own codes. -/
namespace Go.Proofs.YteoolehdomjkkaaGreat
set_option linter.all false
open Go.RowKit
theorem wrong_ok {ws:List Int} {m:Nat} (h1:1≤ws.length) (h2:ws.length≤300) (hm:1≤m) (hm2:m≤15) (hr:∀ x ∈ ws,0≤x∧x≤1000000) (hp:ws.length≤2 ^ m):wrongH ws (m:Int)=false:=by
 have hb:badW ws=false:=by
  unfold badW
  rw [List.any_eq_false]
  intro x hx
  have:=hr x hx
  simp
  omega
 have hq:posn ws≤ws.length:=List.length_filter_le _ _
 have h5:¬ 2 ^ ((m:Int)).toNat < posn ws:=by
  rw [show ((m:Int)).toNat=m from rfl]
  omega
 unfold wrongH
 rw [hb,decide_eq_false (by omega),decide_eq_false (by omega),decide_eq_false (by omega),decide_eq_false (by omega),decide_eq_false h5]
 rfl
theorem lensOf_length (ws:List Int) (m:Nat):(lensOf ws m).length=ws.length:=by
 unfold lensOf
 split <;> simp [bumps_len]
theorem lens_any (B n c:Nat) (A:Option Addr) (ws:List Int) (M:Int) (m:Nat) (hM:M=(m:Int)) (w:World) (h:RdI w B A n ws) (hB:B≤w.heap.size) (h1:1≤n) (h2:n≤300) (hm:1≤m) (hm2:m≤15) (hr:∀ x ∈ ws,0≤x∧x≤1000000) (hp:n≤2 ^ m) :
  Calls Tryz.prog 109 #[.slice A n c,.int .i64 M] w fun e w'=>∃ g c',e=.returned (.tuple #[.slice (some ⟨g,0,none⟩) n c',.int .i64 0])∧n≤c'∧c'≤maxLen∧w.heap.size≤g∧ownI w' w.heap.size (.slice (some ⟨g,0,none⟩) n c') (lensOf ws m)∧Below w.heap.size w w':=by
 subst hM
 have hl:=h.len
 refine (lengths_any B n c A ws (m:Int) w h hB (by omega)).mono ?_
 rintro e w' ⟨A',n',c',rfl,hn',ho,hb⟩
 have hw:=wrong_ok (ws:=ws) (m:=m) (by omega) (by omega) hm hm2 hr (by omega)
 have e1:lenE ws (m:Int)=0:=by unfold lenE;rw [hw];rfl
 have e2:lenR ws (m:Int)=lensOf ws m:=by unfold lenR;rw [hw];rfl
 rw [e2] at hn' ho
 rw [lensOf_length,hl] at hn'
 subst hn'
 obtain ⟨_,g,rfl,hg,_⟩:=ho.pos (by omega)
 obtain ⟨A2,c2,e3,q1,q2,q3⟩:=ho.form
 injection e3 with e3 e4 e5
 subst e5
 exact ⟨g,c',by rw [e1],by omega,q3,hg,ho,hb⟩
theorem RdI.far {w:World} {B b o n:Nat} {l:List Int} (h:RdI w B (some ⟨b,o,none⟩) n l) {p:Addr} (hp:b ≠ p.block) (v:Value):RdI (w.setCell p v) B (some ⟨b,o,none⟩) n l:=by
 refine ⟨h.1,fun hn=>?_⟩
 obtain ⟨b',o',e,hb,hc⟩:=h.2 hn
 injection e with e
 injection e with e1 e2
 subst e1 e2
 exact ⟨b,o,rfl,hb,fun j u hu=>(World.cell?_of_block (a:=⟨b,o+j,none⟩) (Below.heap_setCell _ _ _ _ hp)).trans (hc j u hu)⟩
theorem cut_lit (B n c:Nat) (A:Option Addr) (ls:List Int) (L:Int) (least:Nat) (hL:L=(least:Int)) (w:World) (h:RdI w B A n ls) (hB:B≤w.heap.size) (hn:n≤1000) (hl9:least≤1000) (hc:n≤c) (hc9:c≤maxLen) :
  Calls Tryz.prog 110 #[.slice A n c,.int .i64 L] w fun e w'=>e=.returned (.slice A (cutK ls least n) c)∧Below w.heap.size w w':=by
 subst hL
 exact cut_any B n c A ls least w h hB hn hl9 hc hc9
def dynL (ts:List Tok):List Int:=cutL (lensOf (weighL ts) 15) 257
def dynD (ts:List Tok):List Int:=if (lensOf (weighD ts) 15).getD 0 0=0∧cutK (lensOf (weighD ts) 15) 1 30=1 then [1] else cutL (lensOf (weighD ts) 15) 1
theorem dynL_len (ts:List Tok):(dynL ts).length=cutK (lensOf (weighL ts) 15) 257 286:=by unfold dynL;rw [cutL_len,lensOf_length,weighL_len]
theorem dynL_rng (ts:List Tok):257≤(dynL ts).length∧(dynL ts).length≤286:=by
 rw [dynL_len]
 exact ⟨cutK_ge _ _ _ (by omega),cutK_le _ _ _⟩
theorem rd_one1 {w:World} {B b o:Nat} {x:Int} (hb:b < B) (h:w.cell? ⟨b,o,none⟩=some (.int .i64 x)):RdI w B (some ⟨b,o,none⟩) 1 [x]:=by
 refine ⟨rfl,fun _=>⟨b,o,rfl,hb,fun j u hj=>?_⟩⟩
 cases j with
 | zero=>simp [cI] at hj;subst hj;exact h
 | succ j=>simp [cI] at hj
set_option maxRecDepth 100000 in
set_option maxHeartbeats 3200000 in
theorem dynamic_any (B n c:Nat) (A:Option Addr) (ts:List Tok) (w:World) (h:RdK w B A n ts) (hB:B≤w.heap.size) (hn:n≤50000) (hok:∀ t ∈ ts,TokOK t) :
  Calls Tryz.prog 59 #[.slice A n c] w fun e w'=>∃ g1 n1 c1 g2 n2 c2,e=.returned (.agg #[.slice (some ⟨g1,0,none⟩) n1 c1,.slice (some ⟨g2,0,none⟩) n2 c2])∧w.heap.size≤g1∧w.heap.size≤g2∧n1=(dynL ts).length∧n2=(dynD ts).length∧RdI w' w'.heap.size (some ⟨g1,0,none⟩) n1 (dynL ts)∧RdI w' w'.heap.size (some ⟨g2,0,none⟩) n2 (dynD ts)∧Below w.heap.size w w':=by
 have hl:=h.len
 have HWG:=Lib.hid (fun o=>weigh_any B n c A ts (w.alloc o) (h.alloc hB o) (by simp;omega) hn hok)
 have HLL:=Lib.hid (weighL_len ts)
 have HLD:=Lib.hid (weighD_len ts)
 have HRL:Hid (∀ x ∈ weighL ts,0≤x∧x≤1000000):=(show ∀ x ∈ _,_ from fun x hx=>by have:=weighL_rng ts x hx;omega)
 have HRD:Hid (∀ x ∈ weighD ts,0≤x∧x≤1000000):=(show ∀ x ∈ _,_ from fun x hx=>by have:=weighD_rng ts x hx;omega)
 have HDL:Hid (dynL ts=cutL (lensOf (weighL ts) 15) 257):=(show _=_ from rfl)
 have HDD:Hid (dynD ts=if (lensOf (weighD ts) 15).getD 0 0=0∧cutK (lensOf (weighD ts) 15) 1 30=1 then [1] else cutL (lensOf (weighD ts) 15) 1):=(show _=_ from rfl)
 have HL2:Hid ((lensOf (weighL ts) 15).length=286):=(show _=_ by rw [lensOf_length,HLL.out])
 have HD2:Hid ((lensOf (weighD ts) 15).length=30):=(show _=_ by rw [lensOf_length,HLD.out])
 clear h hok
 generalize weighL ts=wl at *
 generalize weighD ts=wd at *
 generalize dynL ts=dl at *
 generalize dynD ts=dd at *
 have HL1:=Lib.hid (fun (w2:World) (ga:Nat) (h:RdI w2 w2.heap.size (some ⟨ga,0,none⟩) 286 wl)=>lens_any w2.heap.size 286 286 _ wl 15 15 rfl w2 h (Nat.le_refl _) (by omega) (by omega) (by omega) (by omega) HRL.out (by decide))
 have HL3:=Lib.hid (fun (w2:World) (ga:Nat) (h:RdI w2 w2.heap.size (some ⟨ga,0,none⟩) 30 wd)=>lens_any w2.heap.size 30 30 _ wd 15 15 rfl w2 h (Nat.le_refl _) (by omega) (by omega) (by omega) (by omega) HRD.out (by decide))
 generalize lensOf wl 15=la at *
 generalize lensOf wd 15=lb at *
 have hm1:=cutK_ge lb 1 30 (by omega)
 have hm2:=cutK_le lb 1 30
 have HCB:Hid (cutL lb 1=lb.take (cutK lb 1 30)):=(show _=_ by unfold cutL;rw [HD2.out])
 have HCA:Hid (cutL la 257=la.take (cutK la 257 286)):=(show _=_ by unfold cutL;rw [HL2.out])
 have ha2:=cutK_le la 257 286
 have HCT:=Lib.hid (fun (w4:World) (gb c4:Nat) (h:RdI w4 w4.heap.size (some ⟨gb,0,none⟩) 30 lb) (q1:30≤c4) (q2:c4≤maxLen)=>cut_lit w4.heap.size 30 c4 _ lb 1 1 rfl w4 h (Nat.le_refl _) (by omega) (by omega) q1 q2)
 have HCU:=Lib.hid (fun (B:Nat) (w4:World) (gb c4:Nat) (h:RdI w4 B (some ⟨gb,0,none⟩) 286 la) (hB:B≤w4.heap.size) (q1:286≤c4) (q2:c4≤maxLen)=>cut_lit B 286 c4 _ la 257 257 rfl w4 h hB (by omega) (by omega) q1 q2)
 obtain ⟨m,hm⟩:∃ m,cutK lb 1 30=m:=⟨_,rfl⟩
 obtain ⟨q,hq⟩:∃ q,cutK la 257 286=q:=⟨_,rfl⟩
 rw [hm] at hm1 hm2 HCB HCT HDD
 rw [hq] at ha2 HCA HCU
 have hx0l:0 < lb.length:=by rw [HD2.out];omega
 obtain ⟨x0,hx0⟩:∃ x0,lb[0]=x0:=⟨_,rfl⟩
 have HX0:Hid (lb[0]?=some x0):=(show _=_ by rw [← hx0];exact List.getElem?_eq_getElem hx0l)
 have HG0:Hid (lb.getD 0 0=x0):=(show _=_ by rw [List.getD_eq_getElem?_getD,HX0.out];rfl)
 rw [HG0.out] at HDD
 have hA0:=Arr.new w [.slice none 0 0,.slice none 0 0] 75
 have HB0:=Lib.hid ((Below.refl w.heap.size w).alloc (Nat.le_refl _) (.cells #[Value.slice none 0 0,Value.slice none 0 0] 75))
 have HA0:=Lib.hid hA0
 clear hA0 HLL HLD HRL HRD hm hq
 go_enter Tryz.func59,Tryz.ntmps59
 go_upto_region 4 with (first
  | (go_at_call 108;(with_reducible refine (HWG.out _).mono ?_);go_must (rintro e w1 ⟨ga,gb,rfl,hra,hrb,hb1⟩;have HA1:=Lib.hid (HA0.out.later hb1);have HB1:=Lib.hid (HB0.out.trans (hb1.mono (by simp)));have HRA:=Lib.hid hra;have HRB:=Lib.hid hrb;have hz1:w.heap.size+1≤w1.heap.size:=(by have:=hb1.size;rwa [World.size_alloc] at this);clear hra hrb hb1))
  | (go_at_call 109;(with_reducible refine (HL1.out _ _ HRA.out).mono ?_);go_must (rintro e w2 ⟨g2,c2,rfl,q1,q2,hg2,ho2,hb2⟩;have HO2:=Lib.hid ho2;have HQ2:=Lib.hid (And.intro q1 q2);have HA2:=Lib.hid (HA1.out.later hb2);have HB2:=Lib.hid (HB1.out.trans (hb2.mono (by omega)));have HRB2:=Lib.hid (HRB.out.later hb2);have hz2:=hb2.size;clear ho2 hb2 q1 q2 HRA))
  | (go_at_call 109;(with_reducible refine (HL3.out _ _ HRB2.out).mono ?_);go_must (rintro e w3 ⟨g3,c3,rfl,q1,q2,hg3,ho3,hb3⟩;have HO3:=Lib.hid ho3;have HQ3:=Lib.hid (And.intro q1 q2);have HA3:=Lib.hid (HA2.out.later hb3);have HB3:=Lib.hid (HB2.out.trans (hb3.mono (by omega)));have HR2:=Lib.hid (RdI.blw HO2.out.rd hb3);have hz3:=hb3.size;have hg2w:=(World.ownsRow.lt HO2.out g2 rfl).2;have hg3w:=(World.ownsRow.lt ho3 g3 rfl).2;clear ho3 hb3 q1 q2 HRB2)))
 go_upto_region 5 with (go_at_call 110;(with_reducible refine (HCT.out _ _ _ HO3.out.rd HQ3.out.1 HQ3.out.2).mono ?_);go_must (rintro e w4 ⟨rfl,hb4⟩;have HA4:=Lib.hid (HA3.out.later hb4);have HB4:=Lib.hid (HB3.out.trans (hb4.mono (by omega)));have HO4:=Lib.hid (ownI.later HO3.out hb4);have c30:=ownI.cell HO4.out HD2.out.symm (k:=0) hx0l;have f30:=ownI.frozen HO4.out HD2.out.symm 0;rw [hx0] at c30;have HR4:=Lib.hid (RdI.blw HR2.out (hb4.mono hz3));have hz4:=hb4.size;have HRB4:=Lib.hid (RdI.cut (k:=0) (m:=m) (A':=some ⟨g3,0,none⟩) HO4.out.rd (by omega) (fun _=>rfl));clear hb4 HO3 HR2 HA3 HB3))
 have hm1i:(0:Int) < (m:Int):=by omega
 by_cases hx:x0=0
 ·have d1:(x0 == 0)=true:=by rw [hx];rfl
  by_cases h1:m=1
  ·subst h1
   have HDE:Hid (dd=[1]):=(show _=_ by rw [HDD.out,if_pos ⟨hx,rfl⟩])
   have HDN:Hid (1=([1]:List Int).length):=(show _=_ from rfl)
   have HR5:=Lib.hid (RdI.far HR4.out (p:=⟨g3,0,none⟩) (by show g2 ≠ g3;omega) (.int .i64 1))
   have HA5:=Lib.hid (HA4.out.far (p:=⟨g3,0,none⟩) (by show g3 ≠ w.heap.size;omega) (.int .i64 1))
   have HB5:=Lib.hid (HB4.out.setCell (p:=⟨g3,0,none⟩) (by show w.heap.size≤g3;omega) (.int .i64 1))
   have hz5:w2.heap.size≤(w4.setCell ⟨g3,0,none⟩ (.int .i64 1)).heap.size:=by simp;omega
   have HD5:Hid (RdI (w4.setCell ⟨g3,0,none⟩ (.int .i64 1)) (w4.setCell ⟨g3,0,none⟩ (.int .i64 1)).heap.size (some ⟨g3,0,none⟩) 1 [1]):=(show RdI _ _ _ _ _ from by
    have h5:=HO4.out.store HD2.out.symm 0 1
    have h6:=ownI.cell h5 (by rw [List.length_set];exact HD2.out.symm) (k:=0) (by rw [List.length_set];exact hx0l)
    rw [List.getElem_set_self] at h6
    exact rd_one1 (by simp;omega) h6)
   generalize hw5:w4.setCell ⟨g3,0,none⟩ (.int .i64 1)=w5 at *
   go_wp2_with fail
   (try simp only [hw5])
   go_wp2_with ((go_at_call 110;(with_reducible refine (HCU.out _ _ _ _ HR5.out (by omega) HQ2.out.1 HQ2.out.2).mono ?_);go_must (rintro e w6 ⟨rfl,hb6⟩;have HA6:=Lib.hid (Arr.later HA5.out hb6);have c60:=HA6.out.cell (k:=0) rfl;have c61:=HA6.out.cell (k:=1) rfl;have f60:=HA6.out.frozen 0;have f61:=HA6.out.frozen 1;have HB6:=Lib.hid (HB5.out.trans (hb6.mono (by omega)));have HD6:=Lib.hid (RdI.later HD5.out hb6);have HL6:=Lib.hid (RdI.here (RdI.blw (RdI.cut (k:=0) (m:=q) (A':=some ⟨g2,0,none⟩) HR5.out (by omega) (fun _=>rfl)) (hb6.mono (by omega))));clear hb6)))
   refine bodyPost_ret (v:=.agg #[.slice (some ⟨g2,0,none⟩) q c2,.slice (some ⟨g3,0,none⟩) 1 c3]) ?_ rfl ?_
   ·unfold results
    go_simp
   ·refine ⟨_,q,c2,_,1,c3,rfl,by omega,by omega,?_,?_,?_,?_,?_⟩
    ·rw [HDL.out,HCA.out,List.length_take,HL2.out];omega
    ·rw [HDE.out];exact HDN.out
    ·rw [HDL.out,HCA.out]
     have:=RdI.far (RdI.far HL6.out (p:=⟨w.heap.size,0,none⟩) (by show g2 ≠ w.heap.size;omega) (.slice (some ⟨g2,0,none⟩) q c2)) (p:=⟨w.heap.size,1,none⟩) (by show g2 ≠ w.heap.size;omega) (.slice (some ⟨g3,0,none⟩) 1 c3)
     simpa using this
    ·rw [HDE.out]
     have:=RdI.far (RdI.far HD6.out (p:=⟨w.heap.size,0,none⟩) (by show g3 ≠ w.heap.size;omega) (.slice (some ⟨g2,0,none⟩) q c2)) (p:=⟨w.heap.size,1,none⟩) (by show g3 ≠ w.heap.size;omega) (.slice (some ⟨g3,0,none⟩) 1 c3)
     simpa using this
    ·exact (HB6.out.setCell (p:=⟨w.heap.size,0,none⟩) (Nat.le_refl _) _).setCell (p:=⟨w.heap.size,1,none⟩) (Nat.le_refl _) _
  ·have hxm:¬ (x0=0∧m=1):=fun e=>h1 e.2
   have d2:((m:Int) == 1)=false:=beq_eq_false_iff_ne.2 (by omega)
   have HDE:Hid (dd=lb.take m):=(show _=_ by rw [HDD.out,if_neg hxm,HCB.out])
   have HDN:Hid (m=(lb.take m).length):=(show _=_ by rw [List.length_take,HD2.out];omega)
   have HR5:=Lib.hid HR4.out
   have HA5:=Lib.hid HA4.out
   have HB5:=Lib.hid HB4.out
   have HD5:Hid (RdI w4 w4.heap.size (some ⟨g3,0,none⟩) m (lb.take m)):=HRB4
   have hz5:w2.heap.size≤w4.heap.size:=by omega
   go_wp2_with ((go_at_call 110;(with_reducible refine (HCU.out _ _ _ _ HR5.out (by omega) HQ2.out.1 HQ2.out.2).mono ?_);go_must (rintro e w6 ⟨rfl,hb6⟩;have HA6:=Lib.hid (Arr.later HA5.out hb6);have c60:=HA6.out.cell (k:=0) rfl;have c61:=HA6.out.cell (k:=1) rfl;have f60:=HA6.out.frozen 0;have f61:=HA6.out.frozen 1;have HB6:=Lib.hid (HB5.out.trans (hb6.mono (by omega)));have HD6:=Lib.hid (RdI.later HD5.out hb6);have HL6:=Lib.hid (RdI.here (RdI.blw (RdI.cut (k:=0) (m:=q) (A':=some ⟨g2,0,none⟩) HR5.out (by omega) (fun _=>rfl)) (hb6.mono (by omega))));clear hb6)))
   refine bodyPost_ret (v:=.agg #[.slice (some ⟨g2,0,none⟩) q c2,.slice (some ⟨g3,0,none⟩) m c3]) ?_ rfl ?_
   ·unfold results
    go_simp
   ·refine ⟨_,q,c2,_,m,c3,rfl,by omega,by omega,?_,?_,?_,?_,?_⟩
    ·rw [HDL.out,HCA.out,List.length_take,HL2.out];omega
    ·rw [HDE.out];exact HDN.out
    ·rw [HDL.out,HCA.out]
     have:=RdI.far (RdI.far HL6.out (p:=⟨w.heap.size,0,none⟩) (by show g2 ≠ w.heap.size;omega) (.slice (some ⟨g2,0,none⟩) q c2)) (p:=⟨w.heap.size,1,none⟩) (by show g2 ≠ w.heap.size;omega) (.slice (some ⟨g3,0,none⟩) m c3)
     simpa using this
    ·rw [HDE.out]
     have:=RdI.far (RdI.far HD6.out (p:=⟨w.heap.size,0,none⟩) (by show g3 ≠ w.heap.size;omega) (.slice (some ⟨g2,0,none⟩) q c2)) (p:=⟨w.heap.size,1,none⟩) (by show g3 ≠ w.heap.size;omega) (.slice (some ⟨g3,0,none⟩) m c3)
     simpa using this
    ·exact (HB6.out.setCell (p:=⟨w.heap.size,0,none⟩) (Nat.le_refl _) _).setCell (p:=⟨w.heap.size,1,none⟩) (Nat.le_refl _) _
 ·have hxm:¬ (x0=0∧m=1):=fun e=>hx e.1
  have d1:(x0 == 0)=false:=beq_eq_false_iff_ne.2 hx
  have HDE:Hid (dd=lb.take m):=(show _=_ by rw [HDD.out,if_neg hxm,HCB.out])
  have HDN:Hid (m=(lb.take m).length):=(show _=_ by rw [List.length_take,HD2.out];omega)
  have HR5:=Lib.hid HR4.out
  have HA5:=Lib.hid HA4.out
  have HB5:=Lib.hid HB4.out
  have HD5:Hid (RdI w4 w4.heap.size (some ⟨g3,0,none⟩) m (lb.take m)):=HRB4
  have hz5:w2.heap.size≤w4.heap.size:=by omega
  go_wp2_with ((go_at_call 110;(with_reducible refine (HCU.out _ _ _ _ HR5.out (by omega) HQ2.out.1 HQ2.out.2).mono ?_);go_must (rintro e w6 ⟨rfl,hb6⟩;have HA6:=Lib.hid (Arr.later HA5.out hb6);have c60:=HA6.out.cell (k:=0) rfl;have c61:=HA6.out.cell (k:=1) rfl;have f60:=HA6.out.frozen 0;have f61:=HA6.out.frozen 1;have HB6:=Lib.hid (HB5.out.trans (hb6.mono (by omega)));have HD6:=Lib.hid (RdI.later HD5.out hb6);have HL6:=Lib.hid (RdI.here (RdI.blw (RdI.cut (k:=0) (m:=q) (A':=some ⟨g2,0,none⟩) HR5.out (by omega) (fun _=>rfl)) (hb6.mono (by omega))));clear hb6)))
  refine bodyPost_ret (v:=.agg #[.slice (some ⟨g2,0,none⟩) q c2,.slice (some ⟨g3,0,none⟩) m c3]) ?_ rfl ?_
  ·unfold results
   go_simp
  ·refine ⟨_,q,c2,_,m,c3,rfl,by omega,by omega,?_,?_,?_,?_,?_⟩
   ·rw [HDL.out,HCA.out,List.length_take,HL2.out];omega
   ·rw [HDE.out];exact HDN.out
   ·rw [HDL.out,HCA.out]
    have:=RdI.far (RdI.far HL6.out (p:=⟨w.heap.size,0,none⟩) (by show g2 ≠ w.heap.size;omega) (.slice (some ⟨g2,0,none⟩) q c2)) (p:=⟨w.heap.size,1,none⟩) (by show g2 ≠ w.heap.size;omega) (.slice (some ⟨g3,0,none⟩) m c3)
    simpa using this
   ·rw [HDE.out]
    have:=RdI.far (RdI.far HD6.out (p:=⟨w.heap.size,0,none⟩) (by show g3 ≠ w.heap.size;omega) (.slice (some ⟨g2,0,none⟩) q c2)) (p:=⟨w.heap.size,1,none⟩) (by show g3 ≠ w.heap.size;omega) (.slice (some ⟨g3,0,none⟩) m c3)
    simpa using this
   ·exact (HB6.out.setCell (p:=⟨w.heap.size,0,none⟩) (Nat.le_refl _) _).setCell (p:=⟨w.heap.size,1,none⟩) (Nat.le_refl _) _
end Go.Proofs.YteoolehdomjkkaaGreat

/- flate: codes' rows beside a writer; what tokens are in bits. -/
namespace Go.Proofs.YteoolehdomjkkaaGreat
set_option linter.all false
open Go.RowKit
/-- A list's codes may be written. -/
def CodesOK (ls:List Int):Prop:=ls.length≤300∧badL ls=false∧krN ls≤32768
theorem CodesOK.cd {ls:List Int} (h:CodesOK ls):cdE ls=0∧cdL ls=codesL ls:=by
 have h1:krE ls=0:=by unfold krE;rw [if_neg];intro e;rcases e with e | e;have:=h.1;omega;rw [h.2.1] at e;cases e
 have h2:cdE ls=0:=by unfold cdE;rw [if_pos h1,if_neg (by have:=h.2.2;omega)]
 exact ⟨h2,by unfold cdL;rw [if_pos h2]⟩
theorem codesL_get {ls:List Int} {p:Nat} (h:p < (codesL ls).length):(codesL ls)[p]=codeAt ls p:=by simp [codesL]
theorem codes_ok (B n c:Nat) (A:Option Addr) (ls:List Int) (w:World) (h:RdI w B A n ls) (hB:B≤w.heap.size) (hn:1≤n) (hok:CodesOK ls) :
  Calls Tryz.prog 106 #[.slice A n c] w fun e w'=>∃ g c',e=.returned (.tuple #[.slice (some ⟨g,0,none⟩) n c',.int .i64 0])∧w.heap.size≤g∧ownC w' w.heap.size (.slice (some ⟨g,0,none⟩) n c') (codesL ls)∧Below w.heap.size w w':=by
 have hl:=h.len
 refine (codes_any B n c A ls w h hB (by have:=hok.1;omega)).mono ?_
 rintro e w' ⟨A',n',c',rfl,hn',ho,hb⟩
 rw [hok.cd.2] at ho hn'
 rw [codesL_len,hl] at hn'
 subst hn'
 obtain ⟨_,g,rfl,hg,_⟩:=ho.pos (by omega)
 exact ⟨g,c',by rw [hok.cd.1],hg,ho,hb⟩
theorem fcode_at (g:Nat) (ls:List Int) (p:Nat) (hp:p < ls.length) (hok:CodesOK ls) (pv:Value) (bs:List UInt8) (L:List Nat) (w:World) (h:Wr w g pv bs L) (hb:L.length+15≤1000000) :
  Calls Tryz.prog 107 #[wrV g,.agg #[.int .u32 ((codeAt ls p).1:Int),.int .i64 (codeAt ls p).2]] w fun e w'=>e=.returned (.tuple #[])∧∃ pv' bs',Wr w' g pv' bs' (L ++ codeB ls p)∧WrFr w w' g pv pv':=by
 obtain ⟨t,ht,e,hv⟩:=codeAt_ok hok.2.1 hok.2.2 p hp
 unfold codeB
 rw [e]
 exact fcode_any g (codeAt ls p).1 t pv bs L w h (by omega) (by omega) hv
theorem codeB_le {ls:List Int} {p:Nat} (hp:p < ls.length) (hok:CodesOK ls):(codeB ls p).length≤15:=by
 obtain ⟨t,ht,e,hv⟩:=codeAt_ok hok.2.1 hok.2.2 p hp
 unfold codeB
 rw [e,msb_len]
 exact ht
/-- The cells of a row of codes beside a writer. -/
def CodeCells (w:World) (g1:Nat) (ls:List Int):Prop:=∀ p,p < ls.length→w.cell? ⟨g1,p * 2,none⟩=some (.int .u32 ((codeAt ls p).1:Int))∧w.cell? ⟨g1,p * 2+1,none⟩=some (.int .i64 (codeAt ls p).2)
theorem CodeCells.of {w:World} {base g1 n c:Nat} {ls:List Int} (h:ownC w base (.slice (some ⟨g1,0,none⟩) n c) (codesL ls)) (hn:n=ls.length):CodeCells w g1 ls:=by
 intro p hp
 have hp':p < (codesL ls).length:=by rw [codesL_len];exact hp
 have:=ownC.cell h (by rw [codesL_len];exact hn) (k:=p) hp'
 rw [codesL_get hp'] at this
 exact this
theorem CodeCells.bx {w w':World} {g g1:Nat} {pv pv':Value} {ls:List Int} (h:CodeCells w g1 ls) (hx:Bx w g pv g1) (hf:WrFr w w' g pv pv'):CodeCells w' g1 ls :=
 fun p hp=>⟨hx.cell hf (h p hp).1,hx.cell hf (h p hp).2⟩
theorem CodeCells.later {w w':World} {g1:Nat} {ls:List Int} (h:CodeCells w g1 ls) (hg:g1 < w.heap.size) (hb:Below w.heap.size w w'):CodeCells w' g1 ls :=
 fun p hp=>⟨(World.cell?_of_block (a:=⟨g1,p * 2,none⟩) (hb.block g1 hg)).trans (h p hp).1,(World.cell?_of_block (a:=⟨g1,p * 2+1,none⟩) (hb.block g1 hg)).trans (h p hp).2⟩
theorem Wr.later {w w':World} {g:Nat} {pv:Value} {bs:List UInt8} {L:List Nat} (h:Wr w g pv bs L) (hb:Below w.heap.size w w'):Wr w' g pv bs L:=⟨h.1.later hb,h.2.1.later hb,h.2.2⟩
theorem Bx.of {w w':World} {g b:Nat} {pv:Value} {bs:List UInt8} {L:List Nat} (h:Wr w g pv bs L) (hb:w.heap.size≤b) (hlt:b < w'.heap.size):Bx w' g pv b:=by
 refine ⟨hlt,?_,fun e=>?_⟩
 ·have:=h.1.lt;omega
 ·have:=(World.ownsRow.lt h.2.1 _ e).2;omega
theorem WrFr.of {w w':World} {g:Nat} {pv:Value} (hb:Below w.heap.size w w'):WrFr w w' g pv pv:=⟨hb.os,hb.tape,hb.output,hb.size,fun k hk _ _=>hb.block k hk,.inl rfl⟩
/-- A token's bits. -/
def tokB (ll dd:List Int) (t:Tok):List Nat :=
 if t.1=0 then codeB ll t.2.2
 else codeB ll (257+lenS t.1) ++ lsb (t.1 - (lenOf (lenS t.1)).1) (lenOf (lenS t.1)).2 ++ codeB dd (distS t.2.1) ++ lsb (t.2.1 - (distOf (distS t.2.1)).1) (distOf (distS t.2.1)).2
def toksB (ll dd:List Int) (ts:List Tok):List Nat:=ts.flatMap (tokB ll dd) ++ codeB ll 256
/-- The codes that tokens want are there. -/
def TokIn (ll dd:List Int) (t:Tok):Prop:=symT t < ll.length∧∀ p ∈ dstT t,p < dd.length
theorem lenOf_fit {k x:Nat} (hk:k≤28) (h1:(lenOf k).1≤x) (h2:∀ j,k < j→j≤28→x < (lenOf j).1) (h3:x≤258):x - (lenOf k).1 < 2 ^ (lenOf k).2:=by
 have key:∀ k,k≤28→(k=28→x≤258)→(k < 28→x < (lenOf (k+1)).1)→(lenOf k).1≤x→x - (lenOf k).1 < 2 ^ (lenOf k).2:=by
  intro k hk h1 h2 h3
  rcases le28 hk with rfl | rfl | rfl | rfl | rfl | rfl | rfl | rfl | rfl | rfl | rfl | rfl | rfl | rfl | rfl | rfl | rfl | rfl | rfl | rfl | rfl | rfl | rfl | rfl | rfl | rfl | rfl | rfl | rfl <;>
   ·simp [lenOf,grp] at h1 h2 h3 ⊢;omega
 exact key k hk (fun _=>h3) (fun e=>h2 (k+1) (by omega) (by omega)) h1
theorem distOf_fit {k x:Nat} (hk:k≤29) (h1:(distOf k).1≤x) (h2:∀ j,k < j→j≤29→x < (distOf j).1) (h3:x≤32768):x - (distOf k).1 < 2 ^ (distOf k).2:=by
 have key:∀ k,k≤29→(k=29→x≤32768)→(k < 29→x < (distOf (k+1)).1)→(distOf k).1≤x→x - (distOf k).1 < 2 ^ (distOf k).2:=by
  intro k hk h1 h2 h3
  rcases le29 hk with rfl | rfl | rfl | rfl | rfl | rfl | rfl | rfl | rfl | rfl | rfl | rfl | rfl | rfl | rfl | rfl | rfl | rfl | rfl | rfl | rfl | rfl | rfl | rfl | rfl | rfl | rfl | rfl | rfl | rfl <;>
   ·simp [distOf,grp] at h1 h2 h3 ⊢;omega
 exact key k hk (fun _=>h3) (fun e=>h2 (k+1) (by omega) (by omega)) h1
theorem lenS_fit {x:Nat} (h:3≤x) (h3:x≤258):x - (lenOf (lenS x)).1 < 2 ^ (lenOf (lenS x)).2:=by
 have:=lenS_spec h
 exact lenOf_fit this.1 this.2.1 this.2.2 h3
theorem distS_fit {x:Nat} (h:1≤x) (h3:x≤32768):x - (distOf (distS x)).1 < 2 ^ (distOf (distS x)).2:=by
 have:=distS_spec h
 exact distOf_fit this.1 this.2.1 this.2.2 h3
theorem tokB_le {ll dd:List Int} (h1:CodesOK ll) (h2:CodesOK dd) {t:Tok} (hok:TokOK t) (hin:TokIn ll dd t):(tokB ll dd t).length≤if t.1=0 then 15 else 48:=by
 unfold tokB
 by_cases e:t.1=0
 ·rw [if_pos e,if_pos e]
  have:=hin.1
  unfold symT at this
  rw [if_pos e] at this
  exact codeB_le this h1
 ·rw [if_neg e,if_neg e]
  obtain ⟨h3,h4,h5,h6⟩:3≤t.1∧t.1≤258∧1≤t.2.1∧t.2.1≤32768:=by rcases hok with ⟨h,_⟩ | h;exact absurd h e;exact h
  have hs:=hin.1
  unfold symT at hs
  rw [if_neg e] at hs
  have hd:=hin.2 (distS t.2.1) (by unfold dstT;rw [if_neg e];simp)
  have q1:=codeB_le hs h1
  have q2:=codeB_le hd h2
  have q3:=lenOf_le (lenS_spec h3).1
  have q4:=distOf_le (distS_spec h5).1
  rw [List.length_append,List.length_append,List.length_append,lsb_len,lsb_len]
  omega
end Go.Proofs.YteoolehdomjkkaaGreat
