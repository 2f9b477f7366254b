/- XPutP XPut XFl5 XFl6 -/
import Derived.Test.YtebbdifhiihfkaaGreatDoorMh19
namespace Go.Proofs.YtebbdifhiihfkaaGreatDoor
set_option linter.all false
open Go.RowKit
/-- The first k bits of a number, the least first. -/
def lsb (v:Nat):Nat→List Nat
 | 0=>[]
 | k+1=>lsb v k ++ [v / 2 ^ k % 2]
theorem lsb_len (v k:Nat):(lsb v k).length=k:=by
 induction k with
 | zero=>rfl
 | succ k ih=>rw [lsb,List.length_append,ih];rfl
theorem lsb_get (v k j:Nat) (h:j < k):(lsb v k)[j]?=some (v / 2 ^ j % 2):=by
 induction k with
 | zero=>omega
 | succ k ih =>
  rw [lsb]
  by_cases e:j < k
  ·rw [List.getElem?_append_left (by rw [lsb_len];exact e)];exact ih e
  ·obtain rfl:j=k:=by omega
   rw [List.getElem?_append_right (by rw [lsb_len];exact Nat.le_refl _),lsb_len,Nat.sub_self]
   rfl
/-- Bits up to the next whole byte. -/
def alignL (L:List Nat):List Nat:=L ++ List.replicate (8 * ((L.length+7) / 8) - L.length) 0
theorem alignL_len (L:List Nat):(alignL L).length=8 * ((L.length+7) / 8):=by
 unfold alignL
 rw [List.length_append,List.length_replicate]
 omega
theorem getD_pad (L:List Nat) (k p:Nat):(L ++ List.replicate k 0).getD p 0=L.getD p 0:=by
 rw [List.getD_eq_getElem?_getD,List.getD_eq_getElem?_getD,List.getElem?_append]
 split
 ·rfl
 ·rw [List.getElem?_eq_none (l:=L) (by omega),List.getElem?_replicate]
  split <;> rfl
theorem WB.align {bs:List UInt8} {L:List Nat} (h:WB bs L):WB bs (alignL L):=by
 refine ⟨?_,fun p=>?_⟩
 ·rw [alignL_len,h.1];omega
 ·rw [h.2 p];unfold alignL;rw [getD_pad]
/-- Bits are bytes in one way. -/
theorem WB.uniq {bs cs:List UInt8} {L:List Nat} (h:WB bs L) (k:WB cs L):bs=cs:=by
 have hl:bs.length=cs.length:=h.1.trans k.1.symm
 apply List.ext_getElem hl
 intro i h1 h2
 have key:∀ t,t < 8→bs[i].toNat / 2 ^ t % 2=cs[i].toNat / 2 ^ t % 2:=by
  intro t ht
  have e:=(h.2 (8 * i+t)).trans (k.2 (8 * i+t)).symm
  unfold bitAt at e
  rw [show (8 * i+t) / 8=i by omega,show (8 * i+t) % 8=t by omega,List.getD_eq_getElem?_getD,List.getD_eq_getElem?_getD,List.getElem?_eq_getElem h1,List.getElem?_eq_getElem h2] at e
  exact e
 have a:=key 0 (by omega);have b:=key 1 (by omega);have c:=key 2 (by omega);have d:=key 3 (by omega)
 have e:=key 4 (by omega);have f:=key 5 (by omega);have g:=key 6 (by omega);have i8:=key 7 (by omega)
 have x1:=bs[i].toNat_lt
 have x2:=cs[i].toNat_lt
 apply UInt8.toNat_inj.1
 generalize bs[i].toNat=x at *
 generalize cs[i].toNat=y at *
 clear key h k hl h1 h2
 simp only [Nat.reducePow] at a b c d e f g i8 x1 x2
 omega
theorem codeAt_ok {ls:List Int} (hbad:badL ls=false) (hk:krN ls≤32768) (p:Nat) (hp:p < ls.length):∃ t:Nat,t≤15∧(codeAt ls p).2=(t:Int)∧(codeAt ls p).1 < 2 ^ t:=by
 have hx:ls[p]?=some ls[p]:=List.getElem?_eq_getElem hp
 obtain ⟨x0,x1⟩:=good_at hbad hx
 obtain ⟨t,ht⟩:=Int.eq_ofNat_of_zero_le x0
 rw [ht] at hx
 by_cases h0:0 < t
 ·have hc:=codeAt_pos hx h0
  have hh:Hit ls t (fst ls t+cnt (ls.take p) t) p:=⟨hx,rfl⟩
  have h15:t≤15:=by rw [ht] at x1;omega
  exact ⟨t,h15,by rw [hc],by rw [hc];exact Nat.lt_of_lt_of_le (hit_bound h0 hh).2 (fst_pow ls hbad hk t h15)⟩
 ·have hc:=codeAt_zero hx (by omega)
  exact ⟨0,by omega,by rw [hc];rfl,by rw [hc];decide⟩
/-- A row beside a writer that was there ahead of it. -/
theorem Dis.new {w:World} {base b2:Nat} {pv v:Value} {bs:List UInt8} (h:ownB w base pv bs) (hv:∀ k,v.ownBlock=some k→b2≤k) (hb:w.heap.size≤b2):Dis pv v:=by
 intro k hk hv2
 have h1:=hv k hv2
 have h2:=(World.ownsRow.lt h k hk).2
 omega
theorem ownC.wr {w w':World} {g:Nat} {pv pv' v:Value} {l:List (Nat × Int)} (h:ownC w (g+1) v l) (hf:WrFr w w' g pv pv') (hd:Dis pv v):ownC w' (g+1) v l:=by
 have hb:∀ k,v.ownBlock=some k→w'.heap[k]?=w.heap[k]?:=fun k hk=>hf.block k (World.ownsRow.lt h k hk).2 (by have:=(World.ownsRow.lt h k hk).1;omega) (fun e=>hd k e hk)
 refine ⟨h.1,?_⟩
 rcases h.2 with hn | ⟨g,cap,cur,rfl,hbg,hg,rest⟩
 ·exact .inl hn
 ·exact .inr ⟨g,cap,cur,rfl,hbg,(hb g rfl).trans hg,rest⟩
end Go.Proofs.YtebbdifhiihfkaaGreatDoor

/- Writers of bits: Put, Align, Bits. -/
namespace Go.Proofs.YtebbdifhiihfkaaGreatDoor
set_option linter.all false
open Go.RowKit
set_option maxRecDepth 100000 in
set_option maxHeartbeats 3200000 in
theorem put_any (g v m:Nat) (pv:Value) (bs:List UInt8) (L:List Nat) (w:World) (h:Wr w g pv bs L) (hb:L.length+m≤1000000) (hm:m≤24) (hv:v < 2 ^ m) :
  Calls Tryz.prog 167 #[.pointer (some ⟨g,0,none⟩),.int .u32 (v:Int),.int .i64 (m:Int)] w fun e w'=>e=.returned (.int .i64 0)∧∃ pv' bs',Wr w' g pv' bs' (L ++ lsb v m)∧WrFr w w' g pv pv':=by
 have HWG:=Lib.hid (fun w=>wrongBits_any v m w hm hv)
 have HW:=Lib.hid h
 have hv24:v < 16777216:=Nat.lt_of_lt_of_le hv (Nat.pow_le_pow_right (by decide) hm)
 have HM:Hid (L ++ lsb v 0=L):=(show _=_ by simp [lsb])
 clear h hv
 go_enter Tryz.func167,Tryz.ntmps167
 go_wp2_with (go_at_call 181;(with_reducible refine (HWG.out _).mono ?_);go_must (rintro e w1 ⟨rfl,rfl⟩))
 go_loopw [12] (fun vi wr=>∃ k:Nat,k≤m∧vi=.int .i64 k∧∃ pq bq,Hid (Wr wr g pq bq (L ++ lsb v k))∧Hid (WrFr w wr g pv pq)) (fun vi _=>m - (intOf vi).toNat)
 case atStart=>exact ⟨0,Nat.zero_le _,rfl,pv,bs,(show Wr _ _ _ _ _ by rw [HM.out];exact HW.out),WrFr.refl _ _ _⟩
 case round =>
  clear HW HM
  obtain ⟨k,hk,rfl,pq,bq,HW,HF⟩:=hrel
  by_cases hlt:k < m
  ·have hlen:(L ++ lsb v k).length=L.length+k:=by rw [List.length_append,lsb_len]
   have hdv:v / 2 ^ k < 4294967296:=Nat.lt_of_le_of_lt (Nat.div_le_self _ _) (by omega)
   have HC:=Lib.hid (one_any g (L ++ lsb v k).length (v / 2 ^ k) pq bq _ wr HW.out.1 HW.out.2.1 HW.out.2.2 rfl (by omega) hdv)
   have HST:Hid (L ++ lsb v k ++ [v / 2 ^ k % 2]=L ++ lsb v (k+1)):=(show _=_ by rw [lsb,List.append_assoc])
   have HLN:Hid ((((L ++ lsb v k).length+1:Nat):Int)=(((L ++ lsb v (k+1)).length:Nat):Int)):=(show _=_ by rw [← HST.out];congr 1;simp;omega)
   rw [HST.out,HLN.out] at HC
   have hdvI:(v:Int) / 2 ^ k=((v / 2 ^ k:Nat):Int):=by rw [show ((2:Int) ^ k)=((2 ^ k:Nat):Int) by push_cast;rfl,← Int.natCast_ediv]
   generalize v / 2 ^ k=u at *
   clear hlen HST HLN
   go_wp2_with (go_at_call 182;(with_reducible refine HC.out.mono ?_);go_must (rintro e w5 ⟨rfl,pv5,bs5,hA5,hO5,hW5,hF5⟩;have HF5:=Lib.hid (HF.out.trans hF5);have HW5:Hid (Wr w5 g pv5 bs5 (L ++ lsb v (k+1))):=⟨hA5,hO5,hW5⟩;clear hA5 hO5 hW5 hF5))
   go_roundw
   case rel=>exact ⟨k+1,by omega,by go_num,pv5,bs5,HW5,HF5⟩
   case measure=>simp [intOf];omega
  ·obtain rfl:k=m:=by omega
   go_wp2_with fail
   go_ret
   exact ⟨rfl,pq,bq,HW.out,HF.out⟩
/-- On to the next whole byte. -/
theorem align_any (g:Nat) (pv:Value) (bs:List UInt8) (L:List Nat) (w:World) (h:Wr w g pv bs L) (hb:L.length≤1000000) :
  Calls Tryz.prog 156 #[.pointer (some ⟨g,0,none⟩)] w fun e w'=>e=.returned (.tuple #[])∧Wr w' g pv bs (alignL L)∧WrFr w w' g pv pv:=by
 obtain ⟨h1,h2,h3⟩:=h
 obtain ⟨A,c,rfl,hr,-,-⟩:=h2.form
 have hbl:bs.length=(L.length+7) / 8:=h3.1
 have hbn:bs.length≤200000:=by omega
 have HLE:Hid ((8 * (bs.length:Int))=(((alignL L).length:Nat):Int)):=(show _=_ by rw [alignL_len,hbl];push_cast;rfl)
 have c0:=h1.cell (k:=0) rfl
 have c1:=h1.cell (k:=1) rfl
 have f1:=h1.frozen 1
 have HA:=Lib.hid (h1.set 1 (.int .i64 (8 * (bs.length:Int))))
 have HO:=Lib.hid (ownB.far h2 (g:=g) (ownB_ne h2 (Nat.lt_succ_self g)) 1 (.int .i64 (8 * (bs.length:Int))))
 have HF:=Lib.hid ((WrFr.refl w g (.slice A bs.length c)).setg 1 (.int .i64 (8 * (bs.length:Int))))
 have HW:=Lib.hid h3.align
 rw [HLE.out] at HA
 have e:wrap64 (8 * (bs.length:Int))=8 * (bs.length:Int):=wrap64_id _ (by omega) (by omega)
 clear h1 h2 h3 hr hbl hb
 generalize bs.length=n at *
 go_enter Tryz.func156,Tryz.ntmps156
 go_wp2_with fail
 first | (refine bodyPost_ret (results_none rfl _ _ _) rfl ?_) | (refine bodyPost_end (results_none rfl _ _ _) rfl ?_)
 refine ⟨rfl,⟨?_,?_,HW.out⟩,?_⟩
 ·rw [HLE.out];exact HA.out
 ·rw [HLE.out];rw [HLE.out] at HO;exact HO.out
 ·exact HF.out
theorem bitsN_any (g:Nat) (pv:Value) (bs:List UInt8) (L:List Nat) (w:World) (h:Wr w g pv bs L) :
  Calls Tryz.prog 124 #[.pointer (some ⟨g,0,none⟩)] w fun e w'=>e=.returned (.int .i64 ((L.length:Nat):Int))∧w=w':=by
 have c1:=h.1.cell (k:=1) rfl
 clear h
 go_enter Tryz.func124,Tryz.ntmps124
 go_wp2_with fail
 go_ret
 exact ⟨rfl,rfl⟩
end Go.Proofs.YtebbdifhiihfkaaGreatDoor

/- flate: a writer's put, code; a block begun. -/
namespace Go.Proofs.YtebbdifhiihfkaaGreatDoor
set_option linter.all false
open Go.RowKit
/-- A block that a writer leaves as it is. -/
structure Bx (w:World) (g:Nat) (pv:Value) (b:Nat):Prop where
 lt:b < w.heap.size
 ne:b ≠ g
 nv:pv.ownBlock ≠ some b
theorem Bx.wr {w w':World} {g b:Nat} {pv pv':Value} (h:Bx w g pv b) (hf:WrFr w w' g pv pv'):Bx w' g pv' b:=by
 refine ⟨Nat.lt_of_lt_of_le h.lt hf.size,h.ne,?_⟩
 rcases hf.own with e | ⟨j,hj,e⟩
 ·rw [e];exact h.nv
 ·rw [e];intro e2;injection e2 with e2;have:=h.lt;omega
theorem Bx.heap {w w':World} {g b:Nat} {pv pv':Value} (h:Bx w g pv b) (hf:WrFr w w' g pv pv'):w'.heap[b]?=w.heap[b]?:=hf.block b h.lt h.ne h.nv
theorem Bx.cell {w w':World} {g b i:Nat} {pv pv' u:Value} (h:Bx w g pv b) (hf:WrFr w w' g pv pv') (c:w.cell? ⟨b,i,none⟩=some u):w'.cell? ⟨b,i,none⟩=some u:=by
 rw [← c];unfold World.cell?;rw [h.heap hf]
theorem Bx.new {w:World} {g:Nat} {pv:Value} {bs:List UInt8} {L:List Nat} (h:Wr w g pv bs L) (o:Obj):Bx (w.alloc o) g pv w.heap.size:=by
 refine ⟨by simp,?_,fun e=>?_⟩
 ·have:=h.1.lt;omega
 ·have:=(World.ownsRow.lt h.2.1 _ e).2;omega
theorem Bx.alloc {w:World} {g b:Nat} {pv:Value} (h:Bx w g pv b) (o:Obj):Bx (w.alloc o) g pv b:=⟨by have:=h.lt;simp;omega,h.ne,h.nv⟩
theorem Bx.drew {w:World} {g b:Nat} {pv:Value} (h:Bx w g pv b):Bx w.drew g pv b:=⟨h.lt,h.ne,h.nv⟩
theorem Wr.alloc {w:World} {g:Nat} {pv:Value} {bs:List UInt8} {L:List Nat} (h:Wr w g pv bs L) (o:Obj):Wr (w.alloc o) g pv bs L:=⟨h.1.alloc o,h.2.1.alloc o,h.2.2⟩
theorem WrFr.alloc0 {w w':World} {g:Nat} {pv pv':Value} (o:Obj) (h:WrFr (w.alloc o) w' g pv pv'):WrFr w w' g pv pv':=by
 refine ⟨h.os,h.tape,h.output,Nat.le_trans (by simp) h.size,fun k hk hg hp=>?_,?_⟩
 ·exact (h.block k (by simp;omega) hg hp).trans (heap_alloc_old w o hk)
 ·rcases h.own with e | ⟨j,hj,e⟩
  ·exact .inl e
  ·exact .inr ⟨j,by simp at hj;omega,e⟩
theorem WrFr.alloc {w w':World} {g:Nat} {pv pv':Value} (o:Obj) (h:WrFr w w' g pv pv'):WrFr w (w'.alloc o) g pv pv':=by
 refine ⟨h.os,h.tape,h.output,by have:=h.size;simp;omega,fun k hk hg hp=>?_,h.own⟩
 exact (heap_alloc_old w' o (Nat.lt_of_lt_of_le hk h.size)).trans (h.block k hk hg hp)
/-- A writer by value: a struct of one pointer. -/
abbrev wrV (g:Nat):Value:=.agg #[.pointer (some ⟨g,0,none⟩)]
set_option maxHeartbeats 1600000 in
theorem fput_any (g v m:Nat) (pv:Value) (bs:List UInt8) (L:List Nat) (w:World) (h:Wr w g pv bs L) (hb:L.length+m≤1000000) (hm:m≤24) (hv:v < 2 ^ m) :
  Calls Tryz.prog 147 #[wrV g,.int .i64 (v:Int),.int .i64 (m:Int)] w fun e w'=>e=.returned (.tuple #[])∧∃ pv' bs',Wr w' g pv' bs' (L ++ lsb v m)∧WrFr w w' g pv pv':=by
 have HP:=Lib.hid (fun o=>put_any g v m pv bs L (w.alloc o) (h.alloc o) hb hm hv)
 have hv24:v < 16777216:=Nat.lt_of_lt_of_le hv (Nat.pow_le_pow_right (by decide) hm)
 have hvm:(v:Int) % 4294967296=(v:Int):=Int.emod_eq_of_lt (by omega) (by omega)
 clear h hv
 go_enter Tryz.func147,Tryz.ntmps147
 go_wp2_with (go_at_call 167;(with_reducible refine (HP.out _).mono ?_);go_must (rintro e w1 ⟨rfl,pv1,bs1,hw1,hf1⟩;have HW1:=Lib.hid hw1;have HF1:=Lib.hid hf1.alloc0;clear hw1 hf1))
 (try simp only [Exit.inBlock,Exit.then])
 first | (refine bodyPost_ret (results_none rfl _ _ _) rfl ?_) | (refine bodyPost_end (results_none rfl _ _ _) rfl ?_)
 exact ⟨rfl,pv1,bs1,HW1.out,HF1.out⟩
set_option maxHeartbeats 1600000 in
theorem fcode_any (g v m:Nat) (pv:Value) (bs:List UInt8) (L:List Nat) (w:World) (h:Wr w g pv bs L) (hb:L.length+m≤1000000) (hm:m≤24) (hv:v < 2 ^ m) :
  Calls Tryz.prog 149 #[wrV g,.agg #[.int .u32 (v:Int),.int .i64 (m:Int)]] w fun e w'=>e=.returned (.tuple #[])∧∃ pv' bs',Wr w' g pv' bs' (L ++ msb v m m)∧WrFr w w' g pv pv':=by
 have HP:=Lib.hid (fun o p=>code_any g v m pv bs L ((w.alloc o).alloc p) ((h.alloc o).alloc p) hb hm hv)
 clear h hv
 go_enter Tryz.func149,Tryz.ntmps149
 go_wp2_with (go_at_call 169;(with_reducible refine (HP.out _ _).mono ?_);go_must (rintro e w1 ⟨rfl,pv1,bs1,hw1,hf1⟩;have HW1:=Lib.hid hw1;have HF1:=Lib.hid (hf1.alloc0).alloc0;clear hw1 hf1))
 (try simp only [Exit.inBlock,Exit.then])
 first | (refine bodyPost_ret (results_none rfl _ _ _) rfl ?_) | (refine bodyPost_end (results_none rfl _ _ _) rfl ?_)
 exact ⟨rfl,pv1,bs1,HW1.out,HF1.out⟩
/-- put, its numbers as they stand in the code. -/
theorem fput_lit (g:Nat) (V M:Int) (v m:Nat) (hV:V=(v:Int)) (hM:M=(m:Int)) (pv:Value) (bs:List UInt8) (L:List Nat) (w:World) (h:Wr w g pv bs L) (hb:L.length+m≤1000000) (hm:m≤24) (hv:v < 2 ^ m) :
  Calls Tryz.prog 147 #[wrV g,.int .i64 V,.int .i64 M] w fun e w'=>e=.returned (.tuple #[])∧∃ pv' bs',Wr w' g pv' bs' (L ++ lsb v m)∧WrFr w w' g pv pv':=by
 subst hV hM
 exact fput_any g v m pv bs L w h hb hm hv
end Go.Proofs.YtebbdifhiihfkaaGreatDoor

/- flate: a block begun; a stored block. -/
namespace Go.Proofs.YtebbdifhiihfkaaGreatDoor
set_option linter.all false
open Go.RowKit
/-- What a block begins with. -/
def headL (kind:Nat):List Nat:=1 :: lsb kind 2
theorem headL_len (k:Nat):(headL k).length=3:=by unfold headL;rw [List.length_cons,lsb_len]
theorem Wr.far {w:World} {g g2:Nat} {pv:Value} {bs:List UInt8} {L:List Nat} (h:Wr w g pv bs L) (hb:Bx w g pv g2) (i:Nat) (u:Value):Wr (w.setCell ⟨g2,i,none⟩ u) g pv bs L :=
 ⟨h.1.far (p:=⟨g2,i,none⟩) hb.ne u,ownB.far h.2.1 hb.nv i u,h.2.2⟩
theorem Arr.wr {w w':World} {g b:Nat} {pv pv':Value} {cs:List Value} (h:Arr w b cs) (hb:Bx w g pv b) (hf:WrFr w w' g pv pv'):Arr w' b cs:=by
 obtain ⟨t,h⟩:=h
 exact ⟨t,(hb.heap hf).trans h⟩
set_option maxHeartbeats 1600000 in
theorem begin_any (kind:Nat) (hk:kind < 4) (w:World) :
  Calls Tryz.prog 119 #[.int .i64 (kind:Int)] w fun e w'=>∃ g pv bs,e=.returned (wrV g)∧w.heap.size≤g∧Wr w' g pv bs (headL kind)∧Below w.heap.size w w'∧(∀ k,pv.ownBlock=some k→w.heap.size≤k):=by
 have HN:=Lib.hid (fun w=>newWriter_any w)
 have HL1:Hid (([]:List Nat) ++ lsb 1 1=[1]):=(show _=_ by decide)
 have HL2:Hid ([1] ++ lsb kind 2=headL kind):=(show _=_ from rfl)
 have HB0:=Lib.hid (Below.refl w.heap.size w)
 go_enter Tryz.func119,Tryz.ntmps119
 go_wp2_with (first
  | (go_at_call 146;(with_reducible refine (HN.out _).mono ?_);go_must (rintro e w1 ⟨rfl,hw1,hb1,hs1⟩;have ha1:=(Arr.new w [.pointer none] 155).later hb1;have hbb:=(HB0.out.alloc (Nat.le_refl _) (.cells #[Value.pointer none] 155)).trans (hb1.mono (by simp));obtain ⟨g,hg⟩:∃ g,w.heap.size+1=g:=⟨_,rfl⟩;have hsg:(w.alloc (.cells #[Value.pointer none] 155)).heap.size=g:=(by rw [World.size_alloc];exact hg);rw [hsg] at hw1 hs1;simp only [hg];have HX3:=Lib.hid (Bx.new hw1 (.cells #[Value.pointer (some ⟨g,0,none⟩)] 155));have HX2:Hid (Bx (w1.alloc (.cells #[Value.pointer (some ⟨g,0,none⟩)] 155)) g (.slice none 0 0) w.heap.size):=⟨by rw [World.size_alloc];omega,by omega,by simp [Value.ownBlock]⟩;have HA3:=Lib.hid (Arr.new w1 [.pointer (some ⟨g,0,none⟩)] 155);have HA2:=Lib.hid (ha1.alloc (.cells #[Value.pointer (some ⟨g,0,none⟩)] 155));have HB1:=Lib.hid (hbb.alloc hbb.size (.cells #[Value.pointer (some ⟨g,0,none⟩)] 155));have hwa:=hw1.alloc (.cells #[Value.pointer (some ⟨g,0,none⟩)] 155);have HP1:=Lib.hid (fput_lit g 1 1 1 1 rfl rfl _ _ _ _ hwa (by simp) (by decide) (by decide));clear hw1 hb1 ha1 hbb hwa))
  | (go_at_call 147;(with_reducible refine HP1.out.mono ?_);go_must (rintro e w2 ⟨rfl,pv2,bs2,hw2,hf2⟩;rw [HL1.out] at hw2;have HF2:=Lib.hid hf2;have HA32:=Lib.hid (HA3.out.wr HX3.out hf2);have HA22:=Lib.hid (HA2.out.wr HX2.out hf2);have HX32:=Lib.hid (HX3.out.wr hf2);have HX22:=Lib.hid (HX2.out.wr hf2);have HP2:=Lib.hid (fput_lit g (kind:Int) 2 kind 2 rfl rfl _ _ _ _ hw2 (by simp) (by decide) hk);have c3:=HA32.out.cell (k:=0) rfl;clear hw2 hf2))
  | (go_at_call 147;(with_reducible refine HP2.out.mono ?_);go_must (rintro e w3 ⟨rfl,pv3,bs3,hw3,hf3⟩;rw [HL2.out] at hw3;have HF3:=Lib.hid (HF2.out.trans hf3);have HA33:=Lib.hid (HA32.out.wr HX32.out hf3);have HA23:=Lib.hid (HA22.out.wr HX22.out hf3);have HX23:=Lib.hid (HX22.out.wr hf3);have HW3:=Lib.hid hw3;have c33:=HA33.out.cell (k:=0) rfl;have c23:=HA23.out.cell (k:=0) rfl;have f23:=HA23.out.frozen 0;clear hw3 hf3)))
 refine bodyPost_ret (v:=.agg #[.pointer (some ⟨g,0,none⟩)]) ?_ rfl ?_
 ·unfold results
  go_simp
 ·have hF:=HF3.out
  refine ⟨g,pv3,bs3,rfl,by omega,HW3.out.far HX23.out 0 _,?_,fun k hk=>?_⟩
  ·have hB:Below w.heap.size w w3:=HB1.out.trans (hF.below (by simp;omega) (by omega) (fun k hk=>by simp [Value.ownBlock] at hk))
   exact hB.setCell (p:=⟨w.heap.size,0,none⟩) (Nat.le_refl _) _
  ·have:=(World.ownsRow.lt HW3.out.2.1 k hk).1
   omega
theorem begin_lit (K:Int) (kind:Nat) (hK:K=(kind:Int)) (hk:kind < 4) (w:World) :
  Calls Tryz.prog 119 #[.int .i64 K] w fun e w'=>∃ g pv bs,e=.returned (wrV g)∧w.heap.size≤g∧Wr w' g pv bs (headL kind)∧Below w.heap.size w w'∧(∀ k,pv.ownBlock=some k→w.heap.size≤k):=by
 subst hK
 exact begin_any kind hk w
end Go.Proofs.YtebbdifhiihfkaaGreatDoor

