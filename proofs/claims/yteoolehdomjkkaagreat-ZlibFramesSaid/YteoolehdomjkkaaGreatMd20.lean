/- Merged: Rw1, Rw2, Rw3, Blk5, Sto5. -/
import Derived.Test.YteoolehdomjkkaaGreatMd13
import Derived.Test.YteoolehdomjkkaaGreatMd19
import Derived.Test.YteoolehdomjkkaaGreatMd17
import Derived.Test.YteoolehdomjkkaaGreatMd14
import Derived.Test.YteoolehdomjkkaaGreatMd16
/- The document's writer of bits: Put, Code. -/
namespace Go.Proofs.YteoolehdomjkkaaGreat
set_option linter.all false
open Go.RowKit
/-- Bits as bytes. -/
def bitsB (L:List Nat):List UInt8:=L.map UInt8.ofNat
theorem bitsB_len (L:List Nat):(bitsB L).length=L.length:=by unfold bitsB;simp
theorem bitsB_snoc (L:List Nat) (x:Nat):bitsB (L ++ [x])=bitsB L ++ [UInt8.ofNat x]:=by unfold bitsB;simp
/-- The document's writer that holds bits. -/
def RWr (w:World) (g:Nat) (pv:Value) (L:List Nat):Prop:=Arr w g [pv]∧ownB w (g+1) pv (bitsB L)∧∀ b ∈ L,b < 2
theorem RWr.drewN {w:World} {g:Nat} {pv:Value} {L:List Nat} (h:RWr w g pv L) (q:Nat):RWr (w.drewN q) g pv L:=⟨h.1.drewN q,h.2.1.drewN q,h.2.2⟩
theorem RWr.form {w:World} {g:Nat} {pv:Value} {L:List Nat} (h:RWr w g pv L):∃ A c,pv=.slice A L.length c:=by
 obtain ⟨A,c,e,-,-,-⟩:=h.2.1.form
 rw [bitsB_len] at e
 exact ⟨A,c,e⟩
theorem RWr.pushed {w w3:World} {g:Nat} {pv v3:Value} {L:List Nat} {x:Nat} (h:RWr w g pv L) (o:Obj) (hx:x < 2) (hown:ownB w3 (g+1) v3 (bitsB L ++ [UInt8.ofNat x])) (hgb:(w.alloc o).grownBy w3 pv.ownBlock)
  (hbl:Below (g+1) (w.alloc o) w3) (hat:v3.ownBlock=pv.ownBlock∨v3.ownBlock=some (w.alloc o).heap.size) :
  RWr (w3.setCell ⟨g,0,none⟩ v3) g v3 (L ++ [x])∧WrFr w (w3.setCell ⟨g,0,none⟩ v3) g pv v3:=by
 refine ⟨⟨((h.1.alloc o).blw hbl (Nat.lt_succ_self g)).set 0 v3,?_,fun b hb=>?_⟩,(WrFr.grown o hgb hat).setg 0 v3⟩
 ·rw [bitsB_snoc]
  exact ownB.far hown (ownB_ne hown (Nat.lt_succ_self g)) 0 v3
 ·rw [List.mem_append] at hb
  rcases hb with hb | hb
  ·exact h.2.2 b hb
  ·rw [List.mem_singleton] at hb;rw [hb];exact hx
theorem putQ_any (v m:Nat) (w:World) (hm:m≤24) (hv:v < 2 ^ m):Calls Tryz.prog 163 #[.int .u32 (v:Int),.int .i64 (m:Int)] w fun e w'=>e=.returned (.bool true)∧w=w':=by
 have e1:decide ((m:Int) ≥ 0)=true:=decide_eq_true (by omega)
 have e2:decide ((m:Int)≤24)=true:=decide_eq_true (by omega)
 have e3:(v:Int) / 2 ^ m=0:=by
  rw [show ((2:Int) ^ m)=((2 ^ m:Nat):Int) by push_cast;rfl,← Int.natCast_ediv,Nat.div_eq_of_lt hv]
  rfl
 clear hv
 go_enter Tryz.func163,Tryz.ntmps163
 go_wp2_with fail
 go_ret
 exact ⟨rfl,rfl⟩
set_option maxRecDepth 100000 in
set_option maxHeartbeats 3200000 in
theorem wputR_any (g v m:Nat) (V M:Int) (hV:V=(v:Int)) (hM:M=(m:Int)) (pv:Value) (L:List Nat) (w:World) (h:RWr w g pv L) (hb:L.length+m≤1000000) (hm:m≤24) (hv:v < 2 ^ m) :
  Calls Tryz.prog 116 #[.pointer (some ⟨g,0,none⟩),.int .u32 V,.int .i64 M] w fun e w'=>e=.returned (.int .i64 0)∧∃ pv',RWr w' g pv' (L ++ lsb v m)∧WrFr w w' g pv pv':=by
 subst hV hM
 have HWG:=Lib.hid (fun w=>putQ_any v m w hm hv)
 have HW:=Lib.hid h
 have hv24:v < 16777216:=Nat.lt_of_lt_of_le hv (Nat.pow_le_pow_right (by decide) hm)
 have HM:Hid (L ++ lsb v 0=L):=(show _=_ by simp [lsb])
 clear h hv
 go_enter Tryz.func116,Tryz.ntmps116
 go_wp2_with (go_at_call 163;(with_reducible refine (HWG.out _).mono ?_);go_must (rintro e w1 ⟨rfl,rfl⟩))
 go_loopw [7] (fun vi wr=>∃ k:Nat,k≤m∧vi=.int .i64 k∧∃ pq,Hid (RWr wr g pq (L ++ lsb v k))∧Hid (WrFr w wr g pv pq)) (fun vi _=>m - (intOf vi).toNat)
 case atStart=>exact ⟨0,Nat.zero_le _,rfl,pv,(show RWr _ _ _ _ by rw [HM.out];exact HW.out),WrFr.refl _ _ _⟩
 case round =>
  clear HW HM
  obtain ⟨k,hk,rfl,pq,HW,HF⟩:=hrel
  by_cases hlt:k < m
  ·have hlen:(L ++ lsb v k).length=L.length+k:=by rw [List.length_append,lsb_len]
   have hdv:v / 2 ^ k < 4294967296:=Nat.lt_of_le_of_lt (Nat.div_le_self _ _) (by omega)
   have HST:Hid (L ++ lsb v k ++ [v / 2 ^ k % 2]=L ++ lsb v (k+1)):=(show _=_ by rw [lsb,List.append_assoc])
   have hdvI:(v:Int) / 2 ^ k=((v / 2 ^ k:Nat):Int):=by rw [show ((2:Int) ^ k)=((2 ^ k:Nat):Int) by push_cast;rfl,← Int.natCast_ediv]
   generalize v / 2 ^ k=u at *
   have eb:bits .and .u32 (u:Int) 1=((u % 2:Nat):Int):=and_one32 u hdv
   have hb2:u % 2 < 2:=Nat.mod_lt _ (by decide)
   generalize u % 2=b at *
   generalize L ++ lsb v k=LL at *
   have wb:(b:Int) % 256=(b:Int):=Int.emod_eq_of_lt (by omega) (by omega)
   have HBV:Hid ((b:Int)=((UInt8.ofNat b).toNat:Int)):=(show _=_ by rw [UInt8.toNat_ofNat'];omega)
   have hq:(bitsB LL).length+1≤140737488355328:=by rw [bitsB_len];omega
   have hL1:(bitsB LL ++ [UInt8.ofNat b]).length=LL.length+1:=by rw [List.length_append,bitsB_len];rfl
   have hgs:g+1≤wr.heap.size+1:=by have:=HW.out.1.lt;omega
   have hgr:=HW.out.1.lt
   have c0:=HW.out.1.cell (k:=0) rfl
   obtain ⟨Aq,cq,e0⟩:=HW.out.form
   subst e0
   clear hlen hdv
   go_wp2_with (at_builtin;(refine wpList_appendB rfl (.tmp 21) (.tmp 28) rfl (g+1) _ (bitsB LL) rfl (ownB.alloc HW.out.2.1 _) (wr.heap.size+1) 1 1 (some ⟨wr.heap.size,0,none⟩) [UInt8.ofNat b] rfl (rd_one wr (b:Int) (UInt8.ofNat b) HBV.out) hq (by rw [World.size_alloc];exact hgs) ?_;intro v3 w3 ho3 hg3 hb3 ha3;have hf:=ho3.form;rw [hL1] at hf;obtain ⟨A3,cc,rfl,-,-,-⟩:=hf;have HP:=Lib.hid (HW.out.pushed _ hb2 ho3 hg3 hb3 ha3);have hs3:g < w3.heap.size:=Nat.lt_of_lt_of_le hgr (Nat.le_trans (by simp) hg3.size);have c3:=((HW.out.1.alloc (.cells #[.int .u8 (b:Int)] 5)).blw hb3 (Nat.lt_succ_self g)).cell (k:=0) rfl;have f3:=((HW.out.1.alloc (.cells #[.int .u8 (b:Int)] 5)).blw hb3 (Nat.lt_succ_self g)).frozen 0;clear ho3 hg3 hb3 ha3))
   go_roundw
   case rel=>exact ⟨k+1,by omega,by go_num,_,(show RWr _ _ _ _ by rw [← HST.out];exact HP.out.1),HF.out.trans HP.out.2⟩
   case measure=>simp [intOf];omega
  ·obtain rfl:k=m:=by omega
   go_wp2_with fail
   go_ret
   exact ⟨rfl,pq,HW.out,HF.out⟩
end Go.Proofs.YteoolehdomjkkaaGreat

/- The document's writer of bits: Code, Align, Bits, Bytes. -/
namespace Go.Proofs.YteoolehdomjkkaaGreat
set_option linter.all false
open Go.RowKit
set_option maxRecDepth 100000 in
set_option maxHeartbeats 3200000 in
theorem wcodeR_any (g v m:Nat) (V M:Int) (hV:V=(v:Int)) (hM:M=(m:Int)) (pv:Value) (L:List Nat) (w:World) (h:RWr w g pv L) (hb:L.length+m≤1000000) (hm:m≤24) (hv:v < 2 ^ m) :
  Calls Tryz.prog 125 #[.pointer (some ⟨g,0,none⟩),.int .u32 V,.int .i64 M] w fun e w'=>e=.returned (.int .i64 0)∧∃ pv',RWr w' g pv' (L ++ msb v m m)∧WrFr w w' g pv pv':=by
 subst hV hM
 have HWG:=Lib.hid (fun w=>putQ_any v m w hm hv)
 have HW:=Lib.hid h
 have hv24:v < 16777216:=Nat.lt_of_lt_of_le hv (Nat.pow_le_pow_right (by decide) hm)
 have HM:Hid (L ++ msb v m 0=L):=(show _=_ by simp [msb])
 clear h hv
 go_enter Tryz.func125,Tryz.ntmps125
 go_wp2_with (go_at_call 163;(with_reducible refine (HWG.out _).mono ?_);go_must (rintro e w1 ⟨rfl,rfl⟩))
 go_loopw [7] (fun vi wr=>∃ k:Nat,k≤m∧vi=.int .i64 ((m:Int) - 1 - (k:Int))∧∃ pq,Hid (RWr wr g pq (L ++ msb v m k))∧Hid (WrFr w wr g pv pq)) (fun vi _=>(intOf vi+1).toNat)
 case atStart=>exact ⟨0,Nat.zero_le _,(by rw [show ((m:Int) - 1 - ((0:Nat):Int))=(m:Int) - 1 by omega]),pv,(show RWr _ _ _ _ by rw [HM.out];exact HW.out),WrFr.refl _ _ _⟩
 case round =>
  clear HW HM
  obtain ⟨k,hk,rfl,pq,HW,HF⟩:=hrel
  by_cases hlt:k < m
  ·obtain ⟨d,hd⟩:∃ d,m - 1 - k=d:=⟨_,rfl⟩
   have hdI:(m:Int) - 1 - (k:Int)=(d:Int):=by omega
   have hd1:(d:Int) - 1=(m:Int) - 1 - ((k+1:Nat):Int):=by omega
   rw [hdI]
   have hlen:(L ++ msb v m k).length=L.length+k:=by rw [List.length_append,msb_len]
   have hdv:v / 2 ^ d < 4294967296:=Nat.lt_of_le_of_lt (Nat.div_le_self _ _) (by omega)
   have HST:Hid (L ++ msb v m k ++ [v / 2 ^ d % 2]=L ++ msb v m (k+1)):=(show _=_ by rw [msb,hd,List.append_assoc])
   have hdvI:(v:Int) / 2 ^ d=((v / 2 ^ d:Nat):Int):=by rw [show ((2:Int) ^ d)=((2 ^ d:Nat):Int) by push_cast;rfl,← Int.natCast_ediv]
   generalize v / 2 ^ d=u at *
   have eb:bits .and .u32 (u:Int) 1=((u % 2:Nat):Int):=and_one32 u hdv
   have hb2:u % 2 < 2:=Nat.mod_lt _ (by decide)
   generalize u % 2=b at *
   generalize L ++ msb v m k=LL at *
   have wb:(b:Int) % 256=(b:Int):=Int.emod_eq_of_lt (by omega) (by omega)
   have HBV:Hid ((b:Int)=((UInt8.ofNat b).toNat:Int)):=(show _=_ by rw [UInt8.toNat_ofNat'];omega)
   have hq:(bitsB LL).length+1≤140737488355328:=by rw [bitsB_len];omega
   have hL1:(bitsB LL ++ [UInt8.ofNat b]).length=LL.length+1:=by rw [List.length_append,bitsB_len];rfl
   have hgs:g+1≤wr.heap.size+1:=by have:=HW.out.1.lt;omega
   have hgr:=HW.out.1.lt
   have c0:=HW.out.1.cell (k:=0) rfl
   obtain ⟨Aq,cq,e0⟩:=HW.out.form
   subst e0
   clear hlen hdv
   go_wp2_with (at_builtin;(refine wpList_appendB rfl (.tmp 22) (.tmp 29) rfl (g+1) _ (bitsB LL) rfl (ownB.alloc HW.out.2.1 _) (wr.heap.size+1) 1 1 (some ⟨wr.heap.size,0,none⟩) [UInt8.ofNat b] rfl (rd_one wr (b:Int) (UInt8.ofNat b) HBV.out) hq (by rw [World.size_alloc];exact hgs) ?_;intro v3 w3 ho3 hg3 hb3 ha3;have hf:=ho3.form;rw [hL1] at hf;obtain ⟨A3,cc,rfl,-,-,-⟩:=hf;have HP:=Lib.hid (HW.out.pushed _ hb2 ho3 hg3 hb3 ha3);have hs3:g < w3.heap.size:=Nat.lt_of_lt_of_le hgr (Nat.le_trans (by simp) hg3.size);have c3:=((HW.out.1.alloc (.cells #[.int .u8 (b:Int)] 5)).blw hb3 (Nat.lt_succ_self g)).cell (k:=0) rfl;have f3:=((HW.out.1.alloc (.cells #[.int .u8 (b:Int)] 5)).blw hb3 (Nat.lt_succ_self g)).frozen 0;clear ho3 hg3 hb3 ha3))
   go_roundw
   case rel=>exact ⟨k+1,by omega,(by rw [← hd1];go_num),_,(show RWr _ _ _ _ by rw [← HST.out];exact HP.out.1),HF.out.trans HP.out.2⟩
   case measure=>simp [intOf];omega
  ·obtain rfl:k=m:=by omega
   have hneg:¬ (0:Int)≤(k:Int) - 1 - (k:Int):=by omega
   go_wp2_with fail
   go_ret
   exact ⟨rfl,pq,HW.out,HF.out⟩
/-- How long the row is that lies in a block's first cell. -/
def slenAt (w:World) (g:Nat):Nat:=match w.cell? ⟨g,0,none⟩ with
 | some (.slice _ n _)=>n
 | _=>0
theorem slenAt_eq {w:World} {g n c:Nat} {A:Option Addr} (h:w.cell? ⟨g,0,none⟩=some (.slice A n c)):slenAt w g=n:=by unfold slenAt;rw [h]
theorem rep_snoc0 (k:Nat):List.replicate (k+1) 0=List.replicate k (0:Nat) ++ [0]:=List.replicate_succ'
set_option maxRecDepth 100000 in
set_option maxHeartbeats 3200000 in
theorem walignR_any (g:Nat) (pv:Value) (L:List Nat) (w:World) (h:RWr w g pv L) (hb:L.length≤1000000) :
  Calls Tryz.prog 117 #[.pointer (some ⟨g,0,none⟩)] w fun e w'=>e=.returned (.tuple #[])∧∃ pv',RWr w' g pv' (alignL L)∧WrFr w w' g pv pv':=by
 have HW:=Lib.hid h
 obtain ⟨N,hN⟩:∃ N,L.length=N:=⟨_,rfl⟩
 obtain ⟨D,hD⟩:∃ D,8 * ((L.length+7) / 8) - L.length=D:=⟨_,rfl⟩
 have HAL:Hid (alignL L=L ++ List.replicate D 0):=(show _=_ by unfold alignL;rw [hD])
 rw [hN] at hD
 have hD8:D < 8∧(N+D) % 8=0:=⟨by omega,by omega⟩
 have hDk:∀ k,k < D→¬ (N+k) % 8=0:=fun k hk=>by omega
 have HDK:=Lib.hid hDk
 have HM:Hid (L ++ List.replicate 0 0=L):=(show _=_ by simp)
 have HN:=Lib.hid hN
 rw [hN] at hb
 clear h hD hN hDk
 go_enter Tryz.func117,Tryz.ntmps117
 go_wp2_with fail
 go_loopw [2] (fun _ wr=>∃ k:Nat,k≤D∧∃ pq,Hid (RWr wr g pq (L ++ List.replicate k 0))∧Hid (WrFr w wr g pv pq)) (fun _ wr=>N+D - slenAt wr g)
 case atStart=>exact ⟨0,Nat.zero_le _,pv,(show RWr _ _ _ _ by rw [HM.out];exact HW.out),WrFr.refl _ _ _⟩
 case round =>
  clear HW HM
  obtain ⟨k,hk,pq,HW,HF⟩:=hrel
  have hlen:(L ++ List.replicate k 0).length=N+k:=by rw [List.length_append,List.length_replicate,HN.out]
  have c0:=HW.out.1.cell (k:=0) rfl
  obtain ⟨Aq,cq,e0⟩:=HW.out.form
  subst e0
  rw [hlen] at HW HF c0
  have hms:=slenAt_eq c0
  obtain ⟨T,hT⟩:∃ T,N+k=T:=⟨_,rfl⟩
  have hq2:(T:Int).tmod 8=((T % 8:Nat):Int):=rfl
  by_cases hlt:k < D
  ·have h8:=HDK.out k hlt
   rw [hT] at h8 HW HF c0 hms hlen
   have d8:((T:Int) % 8 != 0)=true:=by rw [bne_iff_ne];omega
   have d9:((T:Int) % 8 == 0)=false:=beq_eq_false_iff_ne.2 (by omega)
   have HST:Hid (L ++ List.replicate k 0 ++ [0]=L ++ List.replicate (k+1) 0):=(show _=_ by rw [rep_snoc0,List.append_assoc])
   have hgr:=HW.out.1.lt
   have hgs:g+1≤wr.heap.size+1:=by omega
   generalize L ++ List.replicate k 0=LL at *
   have hq:(bitsB LL).length+1≤140737488355328:=by rw [bitsB_len];omega
   have hL1:(bitsB LL ++ [0]).length=T+1:=by rw [List.length_append,bitsB_len,hlen];rfl
   have HTK:Hid (N+(k+1)=T+1):=(show _=_ by omega)
   have hmm:N+D - (T+1) < N+D - T:=by omega
   clear hT hlen h8
   go_wp2_with (at_builtin;(refine wpList_appendB rfl (.tmp 13) (.tmp 14) rfl (g+1) _ (bitsB LL) rfl (ownB.alloc HW.out.2.1 _) (wr.heap.size+1) 1 1 (some ⟨wr.heap.size,0,none⟩) [0] rfl (rd_one wr 0 0 rfl) hq (by rw [World.size_alloc];exact hgs) ?_;intro v3 w3 ho3 hg3 hb3 ha3;have hf:=ho3.form;rw [hL1] at hf;obtain ⟨A3,cc,rfl,-,-,-⟩:=hf;have HP:=Lib.hid (HW.out.pushed (x:=0) _ (by decide) ho3 hg3 hb3 ha3);have hs3:g < w3.heap.size:=Nat.lt_of_lt_of_le hgr (Nat.le_trans (by simp) hg3.size);have c3:=((HW.out.1.alloc (.cells #[.int .u8 0] 5)).blw hb3 (Nat.lt_succ_self g)).cell (k:=0) rfl;have f3:=((HW.out.1.alloc (.cells #[.int .u8 0] 5)).blw hb3 (Nat.lt_succ_self g)).frozen 0;clear ho3 hg3 hb3 ha3))
   have c9:=HP.out.1.1.cell (k:=0) rfl
   have hm9:=slenAt_eq c9
   go_roundw
   case rel=>exact ⟨k+1,by omega,_,(show RWr _ _ _ _ by rw [← HST.out];exact HP.out.1),HF.out.trans HP.out.2⟩
   case measure=>rw [hm9,hms];exact hmm
  ·obtain rfl:k=D:=by omega
   rw [hT] at HW HF c0 hms hlen
   have h8:T % 8=0:=by rw [← hT];exact hD8.2
   have d8:((T:Int) % 8 != 0)=false:=bne_eq_false_iff_eq.2 (by omega)
   have d9:((T:Int) % 8 == 0)=true:=by simp;omega
   clear hT
   go_wp2_with fail
   (try simp only [Exit.inBlock,Exit.then])
   first | (refine bodyPost_ret (results_none rfl _ _ _) rfl ?_) | (refine bodyPost_end (results_none rfl _ _ _) rfl ?_)
   exact ⟨rfl,_,(show RWr _ _ _ _ by rw [HAL.out];exact HW.out),HF.out⟩
theorem wbitsR_any (g:Nat) (pv:Value) (L:List Nat) (w:World) (h:RWr w g pv L) :
  Calls Tryz.prog 68 #[.pointer (some ⟨g,0,none⟩)] w fun e w'=>e=.returned (.int .i64 ((L.length:Nat):Int))∧w=w':=by
 have c0:=h.1.cell (k:=0) rfl
 obtain ⟨A,c,rfl⟩:=h.form
 clear h
 go_enter Tryz.func68,Tryz.ntmps68
 go_wp2_with fail
 go_ret
 exact ⟨rfl,rfl⟩
end Go.Proofs.YteoolehdomjkkaaGreat

/- The document's writer of bits: its bytes. -/
namespace Go.Proofs.YteoolehdomjkkaaGreat
set_option linter.all false
open Go.RowKit
/-- Bytes hold the first k bits. -/
def WBk (bs:List UInt8) (L:List Nat) (k:Nat):Prop:=bs.length=(L.length+7) / 8∧∀ p,bitAt bs p=(L.take k).getD p 0
theorem WBk.zero (L:List Nat):WBk (List.replicate ((L.length+7) / 8) 0) L 0:=by
 refine ⟨by simp,fun p=>?_⟩
 unfold bitAt
 have e:(List.replicate ((L.length+7) / 8) (0:UInt8)).getD (p / 8) 0=0:=by
  rw [List.getD_eq_getElem?_getD,List.getElem?_replicate]
  split <;> rfl
 rw [e]
 simp
theorem WBk.all {bs:List UInt8} {L:List Nat} (h:WBk bs L L.length):WB bs L:=⟨h.1,fun p=>by rw [h.2 p,List.take_length]⟩
theorem take_getD {L:List Nat} {k p:Nat} (h:p < k):(L.take k).getD p 0=L.getD p 0:=by
 rw [List.getD_eq_getElem?_getD,List.getD_eq_getElem?_getD,List.getElem?_take_of_lt h]
theorem take_getD0 {L:List Nat} {k p:Nat} (h:k≤p):(L.take k).getD p 0=0:=by
 rw [List.getD_eq_getElem?_getD,List.getElem?_eq_none (by rw [List.length_take];omega)]
 rfl
theorem WBk.step {bs:List UInt8} {L:List Nat} {k b:Nat} {x:UInt8} (h:WBk bs L k) (hk:k < L.length) (hb:L[k]?=some b) (hb2:b < 2) (hx:bs[k / 8]?=some x) :
  WBk (bs.set (k / 8) (UInt8.ofNat (x.toNat ||| b * 2 ^ (k % 8)))) L (k+1):=by
 have hk8:k / 8 < bs.length:=by have:=h.1;omega
 refine ⟨by rw [List.length_set];exact h.1,fun p=>?_⟩
 have hx0:x.toNat / 2 ^ (k % 8) % 2=0:=by
  have e:=h.2 k
  rw [take_getD0 (Nat.le_refl _)] at e
  unfold bitAt at e
  rw [List.getD_eq_getElem?_getD,hx] at e
  exact e
 have hv:(UInt8.ofNat (x.toNat ||| b * 2 ^ (k % 8))).toNat=x.toNat ||| b * 2 ^ (k % 8):=by
  have:=or_lt256 x.toNat b (k % 8) x.toNat_lt hb2 (Nat.mod_lt _ (by decide))
  simp only [UInt8.toNat_ofNat']
  exact Nat.mod_eq_of_lt this
 have hbk:L.getD k 0=b:=by rw [List.getD_eq_getElem?_getD,hb];rfl
 by_cases e:p / 8=k / 8
 ·unfold bitAt
  rw [List.getD_eq_getElem?_getD,List.getElem?_set,if_pos e.symm,if_pos hk8]
  show (UInt8.ofNat _).toNat / 2 ^ (p % 8) % 2=_
  rw [hv,or_place _ _ _ _ hb2 hx0]
  by_cases e2:p % 8=k % 8
  ·obtain rfl:p=k:=by omega
   rw [if_pos rfl,take_getD (Nat.lt_succ_self p),hbk]
  ·rw [if_neg e2]
   have e3:=h.2 p
   unfold bitAt at e3
   rw [List.getD_eq_getElem?_getD,e,hx] at e3
   have e4:x.toNat / 2 ^ (p % 8) % 2=(L.take k).getD p 0:=e3
   rw [e4]
   by_cases h5:p < k
   ·rw [take_getD h5,take_getD (by omega)]
   ·have:¬ p=k:=fun e=>e2 (by rw [e])
    rw [take_getD0 (by omega),take_getD0 (by omega)]
 ·have e3:=h.2 p
  have e5:bitAt (bs.set (k / 8) (UInt8.ofNat (x.toNat ||| b * 2 ^ (k % 8)))) p=bitAt bs p:=by
   unfold bitAt
   rw [List.getD_eq_getElem?_getD,List.getD_eq_getElem?_getD,List.getElem?_set,if_neg (fun e'=>e e'.symm)]
  rw [e5,e3]
  by_cases h5:p < k
  ·rw [take_getD h5,take_getD (by omega)]
  ·have:¬ p=k:=fun e'=>e (by rw [e'])
   rw [take_getD0 (by omega),take_getD0 (by omega)]
theorem bitsB_get {L:List Nat} {k:Nat} {x:UInt8} (h:(bitsB L)[k]?=some x) (h2:∀ b ∈ L,b < 2):∃ b,L[k]?=some b∧b < 2∧x.toNat=b:=by
 unfold bitsB at h
 rw [List.getElem?_map] at h
 cases hb:L[k]? with
 | none=>rw [hb] at h;cases h
 | some b =>
  rw [hb] at h
  have h3:=h2 b (List.mem_of_getElem? hb)
  have h4:UInt8.ofNat b=x:=by injection h
  exact ⟨b,rfl,h3,by rw [← h4,UInt8.toNat_ofNat'];omega⟩
set_option maxRecDepth 100000 in
set_option maxHeartbeats 3200000 in
theorem wbytesR_any (g:Nat) (pv:Value) (L:List Nat) (w:World) (h:RWr w g pv L) (hb:L.length≤1000000) :
  Calls Tryz.prog 69 #[.pointer (some ⟨g,0,none⟩)] w fun e w'=>∃ v bs,e=.returned v∧ownB w' w.heap.size v bs∧WB bs L∧Below w.heap.size w w':=by
 obtain ⟨A,c,rfl⟩:=h.form
 have hr:=ownB.rd h.2.1
 have hgl:=h.1.lt
 have c0:=h.1.cell (k:=0) rfl
 have HA:=Lib.hid h.1
 have H2:=Lib.hid h.2.2
 have HR:=Lib.hid hr
 have HZ:=Lib.hid (WBk.zero L)
 have HALL:Hid (∀ bs,WBk bs L L.length→WB bs L):=(show ∀ bs,_ from fun bs h=>h.all)
 have HST:Hid (∀ (bs:List UInt8) (k b:Nat) (x:UInt8),WBk bs L k→k < L.length→L[k]?=some b→b < 2→bs[k / 8]?=some x→WBk (bs.set (k / 8) (UInt8.ofNat (x.toNat ||| b * 2 ^ (k % 8)))) L (k+1)):=(show ∀ bs k b x,_ from fun bs k b x h1 h2 h3 h4 h5=>h1.step h2 h3 h4 h5)
 have HLN:Hid (∀ (bs:List UInt8) (k:Nat),WBk bs L k→bs.length=(L.length+7) / 8):=(show ∀ bs k,_ from fun bs k h=>h.1)
 have HBG:Hid (∀ (k:Nat) (x:UInt8),(bitsB L)[k]?=some x→∃ b,L[k]?=some b∧b < 2∧x.toNat=b):=(show ∀ k x,_ from fun k x hx=>bitsB_get hx h.2.2)
 obtain ⟨N,hN⟩:∃ N,L.length=N:=⟨_,rfl⟩
 rw [hN] at HR HZ HALL HST HLN HA c0 hb
 obtain ⟨M,hM⟩:∃ M,(N+7) / 8=M:=⟨_,rfl⟩
 have hM1:((N:Int)+7).tdiv 8=(M:Int):=by rw [← hM];rfl
 have hM2:((N:Int)+7) / 8=(M:Int):=by omega
 have hM9:M≤200000:=by omega
 have hkM:∀ k,k < N→k / 8 < M:=fun k hk=>by omega
 have HKM:=Lib.hid hkM
 rw [hM] at HZ HLN
 clear h hr hN hM hkM
 have HB0:=Lib.hid (Below.refl w.heap.size w)
 go_enter Tryz.func69,Tryz.ntmps69
 go_wp2_with (at_make;refine wpList_makeB rfl _ _ rfl M _ rfl rfl rfl (by omega) ?_;intro w2 hown hb1 hsz;have HO2:=Lib.hid hown;have HB2:=Lib.hid hb1;clear hown hb1)
 generalize hg2:w.heap.size=G at *
 go_loopw [4] (fun vi wr=>∃ k bs,k≤N∧vi=.int .i64 (k:Nat)∧Hid (WBk bs L k)∧Hid (ownB wr G (.slice (some ⟨G,0,none⟩) M M) bs)∧Hid (Below G w wr)∧G < wr.heap.size) (fun vi _=>N - (intOf vi).toNat)
 case atStart=>exact ⟨0,_,Nat.zero_le _,rfl,HZ,HO2,HB2,hsz⟩
 case round =>
  clear HZ HO2 HB2 hsz
  obtain ⟨k,bs,hk,rfl,HK,HO,HB,hsr⟩:=hrel
  have c1:=(HA.out.blw HB.out hgl).cell (k:=0) rfl
  by_cases hlt:k < N
  ·have hki:(k:Int) < (N:Int):=by omega
   have hn:=HLN.out bs k HK.out
   have hk8:=HKM.out k hlt
   obtain ⟨x,HX,cx⟩:=HO.out.byte hn.symm (k:=k / 8) hk8
   have fx:=HO.out.frozen hn.symm (k / 8)
   obtain ⟨bb,oo,y,e0,hbb,HY,cy⟩:=(RdB.blw HR.out HB.out).byte hlt
   subst e0
   obtain ⟨b,hb1,hb2,hyb⟩:=HBG.out k y HY.out
   have HW1:=Lib.hid (HST.out bs k b x HK.out hlt hb1 hb2 HX.out)
   have h256:=or_lt256 x.toNat b (k % 8) x.toNat_lt hb2 (Nat.mod_lt _ (by decide))
   obtain ⟨z,hz⟩:∃ z:UInt8,UInt8.ofNat (x.toNat ||| b * 2 ^ (k % 8))=z:=⟨_,rfl⟩
   have hzn:z.toNat=x.toNat ||| b * 2 ^ (k % 8):=by rw [← hz,UInt8.toNat_ofNat',Nat.mod_eq_of_lt h256]
   rw [hz] at HW1
   have hq1:(k:Int).tdiv 8=((k / 8:Nat):Int):=rfl
   have hq2:(k:Int).tmod 8=((k % 8:Nat):Int):=rfl
   have ht:k % 8 < 8:=Nat.mod_lt _ (by decide)
   have HSO:=Lib.hid (ownB.store HO.out hn.symm (k / 8) z)
   have HSB:=Lib.hid (HB.out.setCell (p:=⟨G,k / 8,none⟩) (Nat.le_refl _) (.int .u8 (z.toNat:Int)))
   have h1:2 ^ (k % 8)≤2 ^ 7:=Nat.pow_le_pow_right (by decide) (by omega)
   have hs256:b * 2 ^ (k % 8) < 256:=by
    have h2:b * 2 ^ (k % 8)≤1 * 2 ^ (k % 8):=Nat.mul_le_mul_right _ (by omega)
    omega
   have hor:bits .or .u8 (x.toNat:Int) ((b * 2 ^ (k % 8):Nat):Int)=(z.toNat:Int):=by rw [u8_or_nat _ _ x.toNat_lt (by omega),hzn]
   have hs2:(b:Int) * 2 ^ (k % 8)=((b * 2 ^ (k % 8):Nat):Int):=by push_cast;rfl
   generalize b * 2 ^ (k % 8)=s at *
   rw [← hor] at HSO HSB
   rw [hyb] at cy
   have hqI:(k:Int) / 8=((k / 8:Nat):Int):=by omega
   have htI:(k:Int) % 8=((k % 8:Nat):Int):=by omega
   have hk8i:((k / 8:Nat):Int) < (M:Int):=by omega
   generalize k / 8=q at *
   generalize k % 8=t at *
   have hx8:=x.toNat_lt
   have HZ8:Hid (z.toNat < 256):=z.toNat_lt
   clear HX HY HK hz hzn h256 HST HBG HALL h1 hn hb1 hyb
   have wq:IntKind.i64.wrap (q:Int)=(q:Int):=wrap_i64_lt q (by omega)
   have wt:IntKind.i64.wrap (t:Int)=(t:Int):=wrap_i64_lt t (by omega)
   have wt3:IntKind.u64.wrap (t:Int)=(t:Int):=by simp [IntKind.wrap,IntKind.bits,IntKind.signed];omega
   have ws1:IntKind.u8.wrap ((b:Int) * 2 ^ t)=(s:Int):=by rw [hs2];simp [IntKind.wrap,IntKind.bits,IntKind.signed];omega
   have wz:IntKind.u8.wrap (z.toNat:Int)=(z.toNat:Int):=by simp [IntKind.wrap,IntKind.bits,IntKind.signed];have:=HZ8.out;omega
   have hqM:q < M:=by omega
   go_wp2_with fail
   go_region_law (fail)
   all_goals
    go_simp
    go_wp2_with fail
    go_roundw
    case rel=>exact ⟨k+1,_,by omega,by go_num,HW1,(show ownB _ _ _ _ from HSO.out.drew),(show Below _ _ _ from bdrewN HSB.out 1),by first | exact hsr | (simp;exact hsr)⟩
    case measure=>simp [intOf];omega
  ·obtain rfl:k=N:=by omega
   go_wp2_with fail
   go_ret
   subst hg2
   exact ⟨_,bs,rfl,HO.out,HALL.out bs HK.out,HB.out⟩
end Go.Proofs.YteoolehdomjkkaaGreat

/- flate: the document's tokens written. -/
namespace Go.Proofs.YteoolehdomjkkaaGreat
set_option linter.all false
open Go.RowKit
theorem RWr.alloc {w:World} {g:Nat} {pv:Value} {L:List Nat} (h:RWr w g pv L) (o:Obj):RWr (w.alloc o) g pv L:=⟨h.1.alloc o,h.2.1.alloc o,h.2.2⟩
theorem RWr.drew {w:World} {g:Nat} {pv:Value} {L:List Nat} (h:RWr w g pv L):RWr w.drew g pv L:=h.drewN 1
theorem RWr.later {w w':World} {g:Nat} {pv:Value} {L:List Nat} (h:RWr w g pv L) (hb:Below w.heap.size w w'):RWr w' g pv L:=⟨h.1.later hb,h.2.1.later hb,h.2.2⟩
theorem Bx.newR {w:World} {g:Nat} {pv:Value} {L:List Nat} (h:RWr w g pv L) (o:Obj):Bx (w.alloc o) g pv w.heap.size:=by
 refine ⟨by simp,?_,fun e=>?_⟩
 ·have:=h.1.lt;omega
 ·have:=(World.ownsRow.lt h.2.1 _ e).2;omega
theorem CodeCells.ofD {w:World} {base g1 n c:Nat} {ls:List Int} (h:ownD w base (.slice (some ⟨g1,0,none⟩) n c) (codesL ls)) (hn:n=ls.length):CodeCells w g1 ls:=by
 intro p hp
 have hp':p < (codesL ls).length:=by rw [codesL_len];exact hp
 have:=ownD.cell h (by rw [codesL_len];exact hn) (k:=p) hp'
 rw [codesL_get hp'] at this
 exact this
theorem codes5_ok (B n c:Nat) (A:Option Addr) (ls:List Int) (w:World) (h:RdI w B A n ls) (hB:B≤w.heap.size) (hn:1≤n) (hok:CodesOK ls) :
  Calls Tryz.prog 118 #[.slice A n c] w fun e w'=>∃ g c',e=.returned (.tuple #[.slice (some ⟨g,0,none⟩) n c',.int .i64 0])∧w.heap.size≤g∧g < w'.heap.size∧CodeCells w' g ls∧Below w.heap.size w w':=by
 have hl:=h.len
 refine (codes5_any B n c A ls w h hB (by have:=hok.1;omega)).mono ?_
 rintro e w' ⟨A',n',c',rfl,hn',ho,hb⟩
 rw [hok.cd.2] at ho hn'
 rw [codesL_len,hl] at hn'
 subst hn'
 obtain ⟨_,g,rfl,hg,hg2⟩:=ho.pos (by omega)
 exact ⟨g,c',by rw [hok.cd.1],hg,hg2,CodeCells.ofD ho hl.symm,hb⟩
theorem wcode_at (g:Nat) (ls:List Int) (p:Nat) (hp:p < ls.length) (hok:CodesOK ls) (pv:Value) (L:List Nat) (w:World) (h:RWr w g pv L) (hb:L.length+15≤1000000) :
  Calls Tryz.prog 125 #[.pointer (some ⟨g,0,none⟩),.int .u32 ((codeAt ls p).1:Int),.int .i64 (codeAt ls p).2] w fun e w'=>e=.returned (.int .i64 0)∧∃ pv',RWr w' g pv' (L ++ codeB ls p)∧WrFr w w' g pv pv':=by
 obtain ⟨t,ht,e,hv⟩:=codeAt_ok hok.2.1 hok.2.2 p hp
 unfold codeB
 rw [e]
 exact wcodeR_any g (codeAt ls p).1 t _ _ rfl rfl pv L w h (by omega) (by omega) hv
theorem symbol5_at (a s m r:Nat) (h1:3≤a) (h2:a≤258) (hs:257+lenS a=s) (hm:(lenOf (lenS a)).2=m) (hr:a - (lenOf (lenS a)).1=r) (w:World) :
  Calls Tryz.prog 27 #[.int .i64 (a:Int)] w fun e w'=>e=.returned (.tuple #[.int .i64 (s:Int),.int .i64 (m:Int),.int .i64 (r:Int)])∧w=w':=by
 refine (symbol5_any (a:Int) w).mono ?_
 rintro e w' ⟨rfl,rfl⟩
 have hsp:=(lenS_spec h1).2.1
 refine ⟨?_,rfl⟩
 unfold symV
 rw [if_neg (by omega),show ((a:Int)).toNat=a from rfl,hm]
 show Ending.returned (.tuple #[.int .i64 (257+((lenS a:Nat):Int)),.int .i64 (m:Int),.int .i64 ((a:Int) - (((lenOf (lenS a)).1:Nat):Int))])=_
 rw [show (257:Int)+((lenS a:Nat):Int)=(s:Int) by omega,show (a:Int) - (((lenOf (lenS a)).1:Nat):Int)=(r:Int) by omega]
theorem distance5_at (d q m r:Nat) (h1:1≤d) (h2:d≤32768) (hs:distS d=q) (hm:(distOf (distS d)).2=m) (hr:d - (distOf (distS d)).1=r) (w:World) :
  Calls Tryz.prog 29 #[.int .i64 (d:Int)] w fun e w'=>e=.returned (.tuple #[.int .i64 (q:Int),.int .i64 (m:Int),.int .i64 (r:Int)])∧w=w':=by
 refine (distance5_any (d:Int) w).mono ?_
 rintro e w' ⟨rfl,rfl⟩
 have hsp:=(distS_spec h1).2.1
 refine ⟨?_,rfl⟩
 unfold dstV
 rw [if_neg (by omega),show ((d:Int)).toNat=d from rfl,hm,hs]
 rw [hs] at hr hsp
 show Ending.returned (.tuple #[.int .i64 ((q:Nat):Int),.int .i64 (m:Int),.int .i64 ((d:Int) - (((distOf q).1:Nat):Int))])=_
 rw [show (d:Int) - (((distOf q).1:Nat):Int)=(r:Int) by omega]
set_option maxRecDepth 100000 in
set_option maxHeartbeats 6400000 in
theorem block5_any (B n c na ca nb cb ga gb g:Nat) (A:Option Addr) (ts:List Tok) (ll dd:List Int) (pv:Value) (L:List Nat) (w:World)
  (hW:RWr w g pv L) (h:RdJ w B A n ts) (hca:CodeCells w ga ll) (hcb:CodeCells w gb dd) (hxa:Bx w g pv ga) (hxb:Bx w g pv gb) (hB:B≤g) (hpB:∀ k,pv.ownBlock=some k→B≤k) (hn:n≤50000) (hna:na=ll.length) (hnb:nb=dd.length)
  (hok:∀ t ∈ ts,TokOK t∧TokIn ll dd t) (hol:CodesOK ll) (hod:CodesOK dd) (h256:256 < na) (hmax:∀ k,k≤n→L.length+((ts.take k).flatMap (tokB ll dd)).length+100≤1000000) :
  Calls Tryz.prog 119 #[.pointer (some ⟨g,0,none⟩),.slice A n c,.slice (some ⟨ga,0,none⟩) na ca,.slice (some ⟨gb,0,none⟩) nb cb] w fun e w'=>e=.returned (.tuple #[])∧∃ pv',RWr w' g pv' (L ++ toksB ll dd ts)∧WrFr w w' g pv pv':=by
 have HR4:=Lib.hid h
 have HOK:=Lib.hid hok
 have HOL:=Lib.hid hol
 have HOD:=Lib.hid hod
 have HMX:=Lib.hid hmax
 have hl:=h.len
 have hgw:=hW.1.lt
 have HPB:=Lib.hid hpB
 have HCC4:=Lib.hid hca
 have HDD4:=Lib.hid hcb
 have HX4:=Lib.hid hxa
 have HY4:=Lib.hid hxb
 have HW4:=Lib.hid hW
 have HNA:=Lib.hid hna
 have HNB:=Lib.hid hnb
 have HL0:Hid (L ++ (ts.take 0).flatMap (tokB ll dd)=L):=(show _=_ by simp)
 clear hW h hca hcb hxa hxb hok hol hod hmax hpB hna hnb
 go_enter Tryz.func119,Tryz.ntmps119
 go_wp2_with fail
 go_loopw [8] (fun vi wr=>∃ k:Nat,k≤n∧vi=.int .i64 k∧∃ pq,Hid (RWr wr g pq (L ++ (ts.take k).flatMap (tokB ll dd)))∧Hid (WrFr w wr g pv pq)) (fun vi _=>n - (intOf vi).toNat)
 case atStart=>exact ⟨0,Nat.zero_le _,rfl,pv,(show RWr _ _ _ _ by rw [HL0.out];exact HW4.out),WrFr.refl _ _ _⟩
 case round =>
  clear HW4 HL0
  obtain ⟨k,hk,rfl,pq,HW,HF⟩:=hrel
  have hszr:=HF.out.size
  by_cases hlt:k < n
  ·have hlti:(k:Int) < (n:Int):=by omega
   obtain ⟨b,o,⟨a,d,y⟩,e0,hb,HX,e1,e2,e3⟩:=(HR4.out.blw (HF.out.below (B:=B) (by omega) hB HPB.out)).one hlt
   subst e0
   have hok:=HOK.out _ (List.mem_of_getElem? HX.out)
   have HST:Hid (L ++ (ts.take (k+1)).flatMap (tokB ll dd)=L ++ (ts.take k).flatMap (tokB ll dd) ++ tokB ll dd (a,d,y)):=(show _=_ by rw [toks_take HX.out,List.append_assoc])
   have hmx:=HMX.out k hk
   have hlenk:(L ++ (ts.take k).flatMap (tokB ll dd)).length+100≤1000000:=by rw [List.length_append];omega
   generalize L ++ (ts.take k).flatMap (tokB ll dd)=LL at *
   have hbN:¬ b=wr.heap.size:=by omega
   obtain ⟨w5,hw5⟩:∃ w5,wr.alloc (.cells #[.int .i64 (a:Int),.int .i64 (d:Int),.int .i64 (y:Int)] 143)=w5:=⟨_,rfl⟩
   obtain ⟨b5,hb5⟩:∃ b5,wr.heap.size=b5:=⟨_,rfl⟩
   have HW5:Hid (RWr w5 g pq LL):=(show RWr _ _ _ _ by rw [← hw5];exact HW.out.alloc _)
   have HF5:Hid (WrFr w w5 g pv pq):=(show WrFr _ _ _ _ _ by rw [← hw5];exact HF.out.alloc _)
   have HT5:Hid (Arr w5 b5 [.int .i64 (a:Int),.int .i64 (d:Int),.int .i64 (y:Int)]):=(show Arr _ _ _ by rw [← hw5,← hb5];exact Arr.new wr [.int .i64 (a:Int),.int .i64 (d:Int),.int .i64 (y:Int)] _)
   have HXT5:Hid (Bx w5 g pq b5):=(show Bx _ _ _ _ by rw [← hw5,← hb5];exact Bx.newR HW.out _)
   have t50:=HT5.out.cell (k:=0) rfl
   have t51:=HT5.out.cell (k:=1) rfl
   have t52:=HT5.out.cell (k:=2) rfl
   clear HW HF
   by_cases ha:a=0
   ·have d1:((a:Int) == 0)=true:=by rw [ha];rfl
    have hw5z:wr.alloc (.cells #[.int .i64 0,.int .i64 (d:Int),.int .i64 (y:Int)] 143)=w5:=by rw [← hw5,ha];rfl
    have hy:y < ll.length:=by have:=hok.2.1;unfold symT at this;rw [if_pos ha] at this;exact this
    have hyn:(y:Int) < (na:Int):=by have:=HNA.out;omega
    have htk:tokB ll dd (a,d,y)=codeB ll y:=if_pos ha
    rw [htk] at HST
    obtain ⟨q1,q2⟩:=HCC4.out.bx HX4.out HF5.out y hy
    have HC:=Lib.hid (wcode_at g ll y hy HOL.out _ _ _ HW5.out.drew (by omega))
    generalize codeAt ll y=cv at *
    have hyn2:y < na:=by omega
    go_wp2_with fail
    go_still_tail 13,(by kernel_rfl)
    go_wp2_with ((go_at_call 125;(with_reducible refine HC.out.mono ?_);go_must (rintro e w6 ⟨rfl,p6,hw6,hf6⟩;rw [← HST.out] at hw6;have HW6:=Lib.hid hw6;have HF6:=Lib.hid (HF5.out.drew.trans hf6);clear hw6 hf6)))
    go_roundw
    case rel=>exact ⟨k+1,by omega,by go_num,p6,HW6,HF6⟩
    case measure=>simp [intOf];omega
   ·have d1:((a:Int) == 0)=false:=beq_eq_false_iff_ne.2 (by omega)
    obtain ⟨h3,h4,h5,h6⟩:3≤a∧a≤258∧1≤d∧d≤32768:=by rcases hok.1 with ⟨h,_⟩ | h;exact absurd h ha;exact h
    have hs9:257+lenS a < ll.length:=by have:=hok.2.1;unfold symT at this;rw [if_neg ha] at this;exact this
    have hd9:distS d < dd.length:=hok.2.2 (distS d) (by unfold dstT;rw [if_neg ha];simp)
    have htk:tokB ll dd (a,d,y)=codeB ll (257+lenS a) ++ lsb (a - (lenOf (lenS a)).1) (lenOf (lenS a)).2 ++ codeB dd (distS d) ++ lsb (d - (distOf (distS d)).1) (distOf (distS d)).2:=if_neg ha
    rw [htk] at HST
    have hfit1:=lenS_fit h3 h4
    have hfit2:=distS_fit h5 h6
    have hb1:=(lenOf_le (lenS_spec h3).1).2
    have hb2:=(distOf_le (distS_spec h5).1).2
    obtain ⟨s,hs⟩:∃ s,257+lenS a=s:=⟨_,rfl⟩
    obtain ⟨q,hq⟩:∃ q,distS d=q:=⟨_,rfl⟩
    obtain ⟨m1,hm1⟩:∃ m1,(lenOf (lenS a)).2=m1:=⟨_,rfl⟩
    obtain ⟨m2,hm2⟩:∃ m2,(distOf (distS d)).2=m2:=⟨_,rfl⟩
    obtain ⟨r1,hr1⟩:∃ r1,a - (lenOf (lenS a)).1=r1:=⟨_,rfl⟩
    obtain ⟨r2,hr2⟩:∃ r2,d - (distOf (distS d)).1=r2:=⟨_,rfl⟩
    have HS1:=Lib.hid (fun w=>symbol5_at a s m1 r1 h3 h4 hs hm1 hr1 w)
    have HS2:=Lib.hid (fun w=>distance5_at d q m2 r2 h5 h6 hq hm2 hr2 w)
    rw [hs] at hs9 HST
    rw [hm1] at hfit1 hb1 HST
    rw [hr1] at hfit1 HST
    rw [hm2] at hfit2 hb2 HST
    rw [hr2] at hfit2 HST
    rw [hq] at hd9 HST
    rw [← List.append_assoc,← List.append_assoc,← List.append_assoc] at HST
    have hr1b:r1 < 4294967296:=by rw [← hr1];omega
    have hr2b:r2 < 4294967296:=by rw [← hr2];omega
    have cr1:(r1:Int) % 4294967296=(r1:Int):=Int.emod_eq_of_lt (by omega) (by omega)
    have cr2:(r2:Int) % 4294967296=(r2:Int):=Int.emod_eq_of_lt (by omega) (by omega)
    clear hs hq hm1 hm2 hr1 hr2 htk hok
    have hsn:(s:Int) < (na:Int):=by have:=HNA.out;omega
    have hqn:(q:Int) < (nb:Int):=by have:=HNB.out;omega
    have hsn2:s < na:=by omega
    have hqn2:q < nb:=by omega
    obtain ⟨q1,q2⟩:=HCC4.out.bx HX4.out HF5.out s hs9
    have hcl1:=codeB_le hs9 HOL.out
    have hcl2:=codeB_le hd9 HOD.out
    have HC:=Lib.hid (wcode_at g ll s hs9 HOL.out _ _ _ HW5.out.drew (by omega))
    generalize codeAt ll s=cv at *
    go_wp2_with (go_at_call 27;(with_reducible refine (HS1.out _).mono ?_);go_must (rintro e w9 ⟨rfl,rfl⟩))
    go_still_tail 11,(by kernel_rfl)
    go_wp2_with (first
     | (go_at_call 125;(with_reducible refine HC.out.mono ?_);go_must (rintro e w6 ⟨rfl,p6,hw6,hf6⟩;have HT6:=Lib.hid (HT5.out.drew.wr HXT5.out.drew hf6);have HXT6:=Lib.hid (HXT5.out.drew.wr hf6);have HF6:=Lib.hid (HF5.out.drew.trans hf6);have t61:=HT6.out.cell (k:=1) rfl;have HP:=Lib.hid (wputR_any g r1 m1 (r1:Int) (m1:Int) rfl rfl _ _ _ hw6 (by rw [List.length_append];omega) (by omega) hfit1);clear hw6 hf6))
     | (go_at_call 116;(with_reducible refine HP.out.mono ?_);go_must (rintro e w7 ⟨rfl,p7,hw7,hf7⟩;have HW7:=Lib.hid hw7;have HT7:=Lib.hid (HT6.out.wr HXT6.out hf7);have HXT7:=Lib.hid (HXT6.out.wr hf7);have HF7:=Lib.hid (HF6.out.trans hf7);have t71:=HT7.out.cell (k:=1) rfl;clear hw7 hf7))
     | (go_at_call 29;(with_reducible refine (HS2.out _).mono ?_);go_must (rintro e w9 ⟨rfl,rfl⟩)))
    obtain ⟨k1,k2⟩:=HDD4.out.bx HY4.out HF7.out q hd9
    have HC2:=Lib.hid (wcode_at g dd q hd9 HOD.out _ _ _ HW7.out.drew (by rw [List.length_append,List.length_append,lsb_len];omega))
    generalize codeAt dd q=cu at *
    go_still_tail 11,(by kernel_rfl)
    go_wp2_with (first
     | (go_at_call 125;(with_reducible refine HC2.out.mono ?_);go_must (rintro e w8 ⟨rfl,p8,hw8,hf8⟩;have HF8:=Lib.hid (HF7.out.drew.trans hf8);have HP2:=Lib.hid (wputR_any g r2 m2 (r2:Int) (m2:Int) rfl rfl _ _ _ hw8 (by rw [List.length_append,List.length_append,List.length_append,lsb_len];omega) (by omega) hfit2);clear hw8 hf8))
     | (go_at_call 116;(with_reducible refine HP2.out.mono ?_);go_must (rintro e w9 ⟨rfl,p9,hw9,hf9⟩;rw [← HST.out] at hw9;have HW9:=Lib.hid hw9;have HF9:=Lib.hid (HF8.out.trans hf9);clear hw9 hf9)))
    go_roundw
    case rel=>exact ⟨k+1,by omega,by go_num,p9,HW9,HF9⟩
    case measure=>simp [intOf];omega
  ·obtain rfl:k=n:=by omega
   have HT:Hid (L ++ (ts.take k).flatMap (tokB ll dd) ++ codeB ll 256=L ++ toksB ll dd ts):=(show _=_ by rw [List.take_of_length_le (by omega),List.append_assoc];rfl)
   have hmx:=HMX.out k (Nat.le_refl _)
   have hlen:(L ++ (ts.take k).flatMap (tokB ll dd)).length+100≤1000000:=by rw [List.length_append];omega
   generalize L ++ (ts.take k).flatMap (tokB ll dd)=LL at *
   have HW5:=Lib.hid HW.out
   have HF5:=Lib.hid HF.out
   obtain ⟨w5,rfl⟩:∃ w5:World,w5=wr:=⟨_,rfl⟩
   have h256l:256 < ll.length:=by have:=HNA.out;omega
   obtain ⟨q1,q2⟩:=HCC4.out.bx HX4.out HF5.out 256 h256l
   have q1:w5.cell? ⟨ga,512,none⟩=_:=q1
   have q2:w5.cell? ⟨ga,513,none⟩=_:=q2
   have hsn:(256:Int) < (na:Int):=by omega
   have HC:=Lib.hid (wcode_at g ll 256 h256l HOL.out _ _ _ HW5.out.drew (by omega))
   generalize codeAt ll 256=cv at *
   go_wp2_with fail
   go_still_tail 9,(by kernel_rfl)
   go_wp2_with (go_at_call 125;(with_reducible refine HC.out.mono ?_);go_must (rintro e w6 ⟨rfl,p6,hw6,hf6⟩;rw [HT.out] at hw6;have HW6:=Lib.hid hw6;have HF6:=Lib.hid (HF5.out.drew.trans hf6);clear hw6 hf6))
   (try simp only [Exit.inBlock,Exit.then])
   first | (refine bodyPost_ret (results_none rfl _ _ _) rfl ?_) | (refine bodyPost_end (results_none rfl _ _ _) rfl ?_)
   exact ⟨rfl,p6,HW6.out,HF6.out⟩
end Go.Proofs.YteoolehdomjkkaaGreat

/- flate: the document's fixed lengths; a stored block; lengths cut. -/
namespace Go.Proofs.YteoolehdomjkkaaGreat
set_option linter.all false
open Go.RowKit
/-- A list's first k, behind them 0. -/
def fillI (l:List Int) (k:Nat):List Int:=l.take k ++ List.replicate (l.length - k) 0
theorem fillI_len (l:List Int) (k:Nat) (h:k≤l.length):(fillI l k).length=l.length:=by unfold fillI;rw [List.length_append,List.length_take,List.length_replicate];omega
theorem fillI_zero (l:List Int):fillI l 0=List.replicate l.length 0:=by unfold fillI;simp
theorem fillI_all (l:List Int):fillI l l.length=l:=by unfold fillI;simp
theorem fillI_set {l:List Int} {k:Nat} {x:Int} (h:l[k]?=some x):(fillI l k).set k x=fillI l (k+1):=by
 obtain ⟨hk,hx⟩:=List.getElem?_eq_some_iff.1 h
 unfold fillI
 have e1:l.length - k=(l.length - (k+1))+1:=by omega
 have e2:(l.take k).length=k:=by rw [List.length_take];omega
 rw [e1,List.replicate_succ,List.set_append,if_neg (by omega),e2,Nat.sub_self,List.set_cons_zero,List.take_succ_eq_append_getElem hk,hx,List.append_assoc]
 rfl
theorem order5_any (w:World):Calls Tryz.prog 124 #[] w fun e w'=>e=.returned (.slice (some ⟨w.heap.size,0,none⟩) 19 19)∧ownI w' w.heap.size (.slice (some ⟨w.heap.size,0,none⟩) 19 19) (ordL.map fun (x:Nat)=>(x:Int))∧Below w.heap.size w w':=by
 have HO:=Lib.hid (own_litI w [16,17,18,0,8,7,9,6,10,5,11,4,12,3,13,2,14,1,15] (by decide))
 go_enter Tryz.func124,Tryz.ntmps124
 go_wp2_with fail
 go_ret
 exact ⟨rfl,HO.out,(Below.refl _ _).alloc (Nat.le_refl _) _⟩
set_option maxRecDepth 100000 in
set_option maxHeartbeats 3200000 in
theorem needed5_any (B n c:Nat) (A:Option Addr) (ls:List Int) (least:Nat) (L:Int) (hL:L=(least:Int)) (w:World) (h:RdI w B A n ls) (hB:B≤w.heap.size) (hn:n≤1000) (hl9:least≤1000) (hc:n≤c) (hc9:c≤maxLen) :
  Calls Tryz.prog 121 #[.slice A n c,.int .i64 L] w fun e w'=>e=.returned (.slice A (cutK ls least n) c)∧w=w':=by
 subst hL
 have HR:=Lib.hid h
 have HC:=Lib.hid hc
 have hc7:c≤9223372036854775807:=by unfold maxLen at hc9;omega
 clear h hc9
 go_enter Tryz.func121,Tryz.ntmps121
 go_wp2_with fail
 go_loopw [5] (fun vl wr=>∃ k:Nat,k≤n∧vl=.int .i64 (k:Nat)∧Hid (cutK ls least k=cutK ls least n)∧wr=w) (fun vl _=>(intOf vl).toNat)
 case atStart=>exact ⟨n,Nat.le_refl _,rfl,(show _=_ from rfl),rfl⟩
 case round =>
  obtain ⟨k,hk,rfl,HE,rfl⟩:=hrel
  by_cases hlt:least < k
  ·have hlti:(k:Int) > (least:Int):=by omega
   obtain ⟨m,rfl⟩:∃ m,k=m+1:=⟨k - 1,by omega⟩
   have hmi:((m+1:Nat):Int) - 1=(m:Int):=by omega
   obtain ⟨b,o,x,e0,hb,HX,e1⟩:=HR.out.one (k:=m) (by omega)
   subst e0
   have hmn:m < n:=by omega
   have hmn2:(m:Int) < (n:Int):=by omega
   by_cases hx:x=0
   ·have d1:(x == 0)=true:=by rw [hx];rfl
    have HE2:Hid (cutK ls least m=cutK ls least n):=(show _=_ by rw [← HE.out,cutK_on hlt HX.out hx])
    clear HX
    go_wp2_with fail
    go_roundw
    case rel=>exact ⟨m,by omega,by go_num,HE2,trivial⟩
    case measure=>simp [intOf] <;> omega
   ·have d1:(x == 0)=false:=beq_eq_false_iff_ne.2 hx
    have HE2:Hid (m+1=cutK ls least n):=(show _=_ by rw [← HE.out,cutK_off HX.out hx])
    have hmc:m+1≤c:=by have:=HC.out;omega
    have hmc2:((m+1:Nat):Int)≤(c:Int):=by omega
    clear HX
    obtain ⟨p,hp⟩:∃ p,m+1=p:=⟨_,rfl⟩
    have HPP:=Lib.hid hp
    rw [hp] at HE2 hmi hlti hmc hmc2 ⊢
    clear hp
    go_wp2_with fail
    go_ret
    exact ⟨by rw [← HE2.out];rfl,rfl⟩
  ·have hlti:¬ (k:Int) > (least:Int):=by omega
   have HE2:Hid (k=cutK ls least n):=(show _=_ by rw [← HE.out,cutK_least (by omega)])
   have hmc:k≤c:=by have:=HC.out;omega
   have hmc2:(k:Int)≤(c:Int):=by omega
   go_wp2_with fail
   go_ret
   exact ⟨by rw [← HE2.out];rfl,rfl⟩
set_option maxRecDepth 100000 in
set_option maxHeartbeats 3200000 in
theorem fixed5L_any (w:World):Calls Tryz.prog 25 #[] w fun e w'=>∃ ga gb,e=.returned (.tuple #[.slice (some ⟨ga,0,none⟩) 288 288,.slice (some ⟨gb,0,none⟩) 32 32])∧RdI w' w'.heap.size (some ⟨ga,0,none⟩) 288 fixL∧RdI w' w'.heap.size (some ⟨gb,0,none⟩) 32 fixD∧Below w.heap.size w w':=by
 have hm1:∀ w,(Instr.makeSlice 41 (.int .i64 288) (.int .i64 288)).run Tryz.prog w=.ok (.slice (some ⟨w.heap.size,0,none⟩) 288 288) (w.alloc (zeroI 288)):=fun w=>run_makeI w 288 (by omega)
 have hm2:∀ w,(Instr.makeSlice 41 (.int .i64 32) (.int .i64 32)).run Tryz.prog w=.ok (.slice (some ⟨w.heap.size,0,none⟩) 32 32) (w.alloc (zeroI 32)):=fun w=>run_makeI w 32 (by omega)
 go_enter Tryz.func25,Tryz.ntmps25
 go_upto_region 1 with fail
 go_cut [2,3] (fun u v wc=>∃ ga gb,u=.slice (some ⟨ga,0,none⟩) 288 288∧v=.slice (some ⟨gb,0,none⟩) 32 32∧(ga ≠ gb∧w.heap.size≤ga∧w.heap.size≤gb)∧ownI wc w.heap.size (.slice (some ⟨ga,0,none⟩) 288 288) (List.replicate 288 0)∧ownI wc w.heap.size (.slice (some ⟨gb,0,none⟩) 32 32) (List.replicate 32 0)∧Below w.heap.size w wc)
 case first =>
  go_region
  all_goals
   go_wp2_with fail
   go_meet
   case rel =>
    first
     | exact ⟨w.heap.size,w.heap.size+1,rfl,rfl,⟨by omega,by omega,by omega⟩,((own_zeroI w 288 (by omega)).alloc _).drew,(by have:=(own_zeroI (w.alloc (zeroI 288)) 32 (by omega)).mono (base':=w.heap.size) (by simp);simpa only [World.size_alloc] using this.drew),(((Below.refl w.heap.size w).alloc (Nat.le_refl _) _).alloc (by simp) _).drew⟩
     | exact ⟨w.heap.size+1,w.heap.size,rfl,rfl,⟨by omega,by omega,by omega⟩,(by have:=(own_zeroI (w.alloc (zeroI 32)) 288 (by omega)).mono (base':=w.heap.size) (by simp);simpa only [World.size_alloc] using this.drew),((own_zeroI w 32 (by omega)).alloc _).drew,(((Below.refl w.heap.size w).alloc (Nat.le_refl _) _).alloc (by simp) _).drew⟩
 case rest =>
  clear hm1 hm2
  obtain ⟨ga,gb,rfl,rfl,⟨hgab,hga,hgb⟩,hoa,hob,hbw⟩:=hcut
  have hfl:fixL.length=288:=by unfold fixL;rw [List.length_map,List.length_range]
  have hfd:fixD.length=32:=by unfold fixD;rw [List.length_replicate]
  have HOA:Hid (ownI wc w.heap.size (.slice (some ⟨ga,0,none⟩) 288 288) (fillI fixL 0)):=(show ownI _ _ _ _ by rw [fillI_zero,hfl];exact hoa)
  have HOB:Hid (ownI wc w.heap.size (.slice (some ⟨gb,0,none⟩) 32 32) (fillI fixD 0)):=(show ownI _ _ _ _ by rw [fillI_zero,hfd];exact hob)
  have HBW:=Lib.hid hbw
  have HFL:=Lib.hid hfl
  have HFD:=Lib.hid hfd
  clear hoa hob hbw hfl hfd
  go_wp2_with fail
  go_loopw [4] (fun vi wr=>∃ k:Nat,k≤288∧vi=.int .i64 k∧Hid (ownI wr w.heap.size (.slice (some ⟨ga,0,none⟩) 288 288) (fillI fixL k))∧Hid (ownI wr w.heap.size (.slice (some ⟨gb,0,none⟩) 32 32) (fillI fixD 0))∧Hid (Below w.heap.size w wr)) (fun vi _=>288 - (intOf vi).toNat)
  case atStart=>exact ⟨0,by omega,rfl,HOA,HOB,HBW⟩
  case round =>
   clear HOA HOB HBW
   obtain ⟨k,hk,rfl,HOA,HOB,HBW⟩:=hrel
   by_cases hlt:k < 288
   ·have hlti:(k:Int) < 288:=by omega
    have hlen:(fillI fixL k).length=288:=by rw [fillI_len _ _ (by rw [HFL.out];omega),HFL.out]
    have hx:fixL[k]?=some (fixO k):=by unfold fixL;rw [List.getElem?_map,List.getElem?_range hlt];rfl
    have HST:Hid (∀ x,x=fixO k→ownI (wr.setCell ⟨ga,k,none⟩ (.int .i64 x)) w.heap.size (.slice (some ⟨ga,0,none⟩) 288 288) (fillI fixL (k+1))):=(show ∀ x,_ from fun x e=>by
     have:=HOA.out.store hlen.symm k x
     rw [e] at this ⊢
     rw [fillI_set hx] at this
     exact this)
    have f7:=HOA.out.frozen hlen.symm k
    obtain ⟨z7,c7⟩:∃ z,wr.cell? ⟨ga,k,none⟩=some (.int .i64 z):=⟨_,HOA.out.cell hlen.symm (k:=k) (by rw [hlen];exact hlt)⟩
    have HOB2:Hid (∀ x,ownI (wr.setCell ⟨ga,k,none⟩ (.int .i64 x)) w.heap.size (.slice (some ⟨gb,0,none⟩) 32 32) (fillI fixD 0)):=(show ∀ x,_ from fun x=>HOB.out.far (g:=ga) (by intro e;injection e with e;exact hgab e.symm) k (.int .i64 x))
    have HBW2:Hid (∀ x,Below w.heap.size w (wr.setCell ⟨ga,k,none⟩ (.int .i64 x))):=(show ∀ x,_ from fun x=>HBW.out.setCell (p:=⟨ga,k,none⟩) hga (.int .i64 x))
    clear hlen hx HOA HOB HBW
    by_cases h144:k < 144
    ·have h144i:(k:Int) < 144:=by omega
     have hfo:(8:Int)=fixO k:=by unfold fixO;rw [if_pos h144]
     have HFO:=Lib.hid hfo
     clear hfo
     go_wp2_with fail
     go_roundw
     case rel=>exact ⟨k+1,by omega,by go_num,HST.out _ HFO.out,HOB2.out _,HBW2.out _⟩
     case measure=>simp [intOf] <;> omega
    ·have h144i:¬ (k:Int) < 144:=by omega
     by_cases h279:279 < k
     ·have h279i:(k:Int) > 279:=by omega
      have hfo:(8:Int)=fixO k:=by unfold fixO;rw [if_neg h144,if_neg (by omega),if_neg (by omega)]
      have HFO:=Lib.hid hfo
      clear hfo
      go_wp2_with fail
      go_roundw
      case rel=>exact ⟨k+1,by omega,by go_num,HST.out _ HFO.out,HOB2.out _,HBW2.out _⟩
      case measure=>simp [intOf] <;> omega
     ·have h279i:¬ (k:Int) > 279:=by omega
      by_cases h256:k < 256
      ·have h256i:(k:Int) < 256:=by omega
       have hfo:(9:Int)=fixO k:=by unfold fixO;rw [if_neg h144,if_pos h256]
       have HFO:=Lib.hid hfo
       clear hfo
       go_wp2_with fail
       go_roundw
       case rel=>exact ⟨k+1,by omega,by go_num,HST.out _ HFO.out,HOB2.out _,HBW2.out _⟩
       case measure=>simp [intOf] <;> omega
      ·have h256i:¬ (k:Int) < 256:=by omega
       have hfo:(7:Int)=fixO k:=by unfold fixO;rw [if_neg h144,if_neg h256,if_pos (by omega)]
       have HFO:=Lib.hid hfo
       clear hfo
       go_wp2_with fail
       go_roundw
       case rel=>exact ⟨k+1,by omega,by go_num,HST.out _ HFO.out,HOB2.out _,HBW2.out _⟩
       case measure=>simp [intOf] <;> omega
   ·obtain rfl:k=288:=by omega
    have HA9:Hid (ownI wr w.heap.size (.slice (some ⟨ga,0,none⟩) 288 288) fixL):=(show ownI _ _ _ _ by have:=HOA.out;rw [← HFL.out,fillI_all,HFL.out] at this;exact this)
    obtain ⟨wo,rfl⟩:∃ wo:World,wo=wr:=⟨_,rfl⟩
    clear HOA
    go_wp2_with fail
    go_loopw [5] (fun vi wr=>∃ k:Nat,k≤32∧vi=.int .i64 k∧Hid (ownI wr w.heap.size (.slice (some ⟨ga,0,none⟩) 288 288) fixL)∧Hid (ownI wr w.heap.size (.slice (some ⟨gb,0,none⟩) 32 32) (fillI fixD k))∧Hid (Below w.heap.size w wr)) (fun vi _=>32 - (intOf vi).toNat)
    case atStart=>exact ⟨0,by omega,rfl,HA9,HOB,HBW⟩
    case round =>
     clear HA9 HOB HBW
     obtain ⟨k,hk,rfl,HOA,HOB,HBW⟩:=hrel
     by_cases hlt:k < 32
     ·have hlti:(k:Int) < 32:=by omega
      have hlen:(fillI fixD k).length=32:=by rw [fillI_len _ _ (by rw [HFD.out];omega),HFD.out]
      have hx:fixD[k]?=some 5:=by unfold fixD;rw [List.getElem?_replicate,if_pos hlt]
      have hst:=HOB.out.store hlen.symm k 5
      rw [fillI_set hx] at hst
      have HST:=Lib.hid hst
      have f7:=HOB.out.frozen hlen.symm k
      obtain ⟨z7,c7⟩:∃ z,wr.cell? ⟨gb,k,none⟩=some (.int .i64 z):=⟨_,HOB.out.cell hlen.symm (k:=k) (by rw [hlen];exact hlt)⟩
      have HOA2:=Lib.hid (HOA.out.far (g:=gb) (by intro e;injection e with e;exact hgab e) k (.int .i64 5))
      have HBW2:=Lib.hid (HBW.out.setCell (p:=⟨gb,k,none⟩) hgb (.int .i64 5))
      clear hlen hx hst HOA HOB HBW
      go_wp2_with fail
      go_roundw
      case rel=>exact ⟨k+1,by omega,by go_num,HOA2,HST,HBW2⟩
      case measure=>simp [intOf] <;> omega
     ·obtain rfl:k=32:=by omega
      have HB9:Hid (ownI wr w.heap.size (.slice (some ⟨gb,0,none⟩) 32 32) fixD):=(show ownI _ _ _ _ by have:=HOB.out;rw [← HFD.out,fillI_all,HFD.out] at this;exact this)
      go_wp2_with fail
      go_ret2
      exact ⟨ga,gb,rfl,HOA.out.rd,HB9.out.rd,HBW.out⟩
set_option maxRecDepth 100000 in
set_option maxHeartbeats 3200000 in
theorem stored5_any (B n c:Nat) (A:Option Addr) (bs:List UInt8) (w:World) (h:RdB w B A n bs) (hB:B≤w.heap.size) (hn:n≤40000) :
  Calls Tryz.prog 65 #[.slice A n c] w fun e w'=>∃ g pv,e=.returned (.pointer (some ⟨g,0,none⟩))∧w.heap.size≤g∧RWr w' g pv (plainL bs)∧Below w.heap.size w w':=by
 have HR:=Lib.hid h
 have hl:=h.len
 obtain ⟨g,hg⟩:∃ g,w.heap.size=g:=⟨_,rfl⟩
 obtain ⟨w1,hw1⟩:∃ w1,w.alloc (.cells #[Value.slice none 0 0] 145)=w1:=⟨_,rfl⟩
 have HW1:Hid (RWr w1 g (.slice none 0 0) []):=(show RWr _ _ _ _ by rw [← hw1,← hg];exact ⟨Arr.new w [.slice none 0 0] _,ownB.nil_ _ _,fun b hb=>absurd hb List.not_mem_nil⟩)
 have HB1:Hid (Below g w w1):=(show Below _ _ _ by rw [← hw1,← hg];exact (Below.refl _ _).alloc (Nat.le_refl _) _)
 have hgw:g < w1.heap.size:=by rw [← hw1,← hg];simp
 have hal:(alignL (headL 0)).length=8:=by rw [alignL_len,headL_len]
 have HP0:=Lib.hid (wputR_any g 1 3 1 3 rfl rfl _ _ w1 HW1.out (by decide) (by decide) (by decide))
 rw [show ([]:List Nat) ++ lsb 1 3=headL 0 by decide] at HP0
 have hn2:(65535:Int) - (n:Int)=((65535 - n:Nat):Int):=by omega
 have cn1:(n:Int) % 4294967296=(n:Int):=by omega
 have cn2:((65535 - n:Nat):Int) % 4294967296=((65535 - n:Nat):Int):=by omega
 have HL0:Hid (alignL (headL 0) ++ lsb n 16 ++ lsb (65535 - n) 16 ++ bytesB (bs.take 0)=alignL (headL 0) ++ lsb n 16 ++ lsb (65535 - n) 16):=(show _=_ by simp [bytesB])
 have hlen:∀ k,k≤n→(alignL (headL 0) ++ lsb n 16 ++ lsb (65535 - n) 16 ++ bytesB (bs.take k)).length=40+8 * k:=fun k hk=>by
  rw [List.length_append,List.length_append,List.length_append,lsb_len,lsb_len,bytesB_len,List.length_take,hal,Nat.min_eq_left (by omega)]
 have HLN:=Lib.hid hlen
 have HPL:Hid (alignL (headL 0) ++ lsb n 16 ++ lsb (65535 - n) 16 ++ bytesB (bs.take n)=plainL bs):=(show _=_ by unfold plainL;rw [← hl,List.take_length])
 have hh0:(headL 0).length=3:=headL_len 0
 clear h hlen
 generalize headL 0=H0 at *
 go_enter Tryz.func65,Tryz.ntmps65
 simp only [hg]
 go_upto_region 7 with (first
  | (go_at_call 116;(with_reducible refine HP0.out.mono ?_);go_must (rintro e w2 ⟨rfl,p2,hw2,hf2⟩;have HF2:=Lib.hid hf2;have HAL:=Lib.hid (walignR_any g p2 H0 w2 hw2 (by omega));clear hw2 hf2))
  | (go_at_call 117;(with_reducible refine HAL.out.mono ?_);go_must (rintro e w3 ⟨rfl,p3,hw3,hf3⟩;have HF3:=Lib.hid (HF2.out.trans hf3);have HP1:=Lib.hid (wputR_any g n 16 (n:Int) 16 rfl rfl _ _ w3 hw3 (by rw [hal];omega) (by decide) (by show n < 65536;omega));clear hw3 hf3))
  | (go_at_call 116;(with_reducible refine HP1.out.mono ?_);go_must (rintro e w4 ⟨rfl,p4,hw4,hf4⟩;have HF4:=Lib.hid (HF3.out.trans hf4);have HP2:=Lib.hid (wputR_any g (65535 - n) 16 ((65535 - n:Nat):Int) 16 rfl rfl _ _ w4 hw4 (by rw [List.length_append,lsb_len,hal];omega) (by decide) (by show 65535 - n < 65536;omega));clear hw4 hf4))
  | (go_at_call 116;(with_reducible refine HP2.out.mono ?_);go_must (rintro e w5 ⟨rfl,p5,hw5,hf5⟩;have HF5:=Lib.hid (HF4.out.trans hf5);rw [← HL0.out] at hw5;have HW5:=Lib.hid hw5;clear hw5 hf5)))
 clear HP0 HW1 HL0
 go_loopw [4] (fun vi wr=>∃ k:Nat,k≤n∧vi=.int .i64 k∧∃ pq,Hid (RWr wr g pq (alignL H0 ++ lsb n 16 ++ lsb (65535 - n) 16 ++ bytesB (bs.take k)))∧Hid (WrFr w1 wr g (.slice none 0 0) pq)) (fun vi _=>n - (intOf vi).toNat)
 case atStart=>exact ⟨0,Nat.zero_le _,rfl,p5,HW5,HF5⟩
 case round =>
  clear HW5 HF5
  obtain ⟨k,hk,rfl,pq,HW,HF⟩:=hrel
  have hBW:Below g w wr:=HB1.out.trans (HF.out.below (Nat.le_of_lt hgw) (Nat.le_refl _) (fun k hk=>by cases hk))
  by_cases hlt:k < n
  ·have hlti:(k:Int) < (n:Int):=by omega
   obtain ⟨b,o,x,e0,hb,HXX,e1⟩:=(HR.out.blw (hBW.mono (by omega))).byte hlt
   subst e0
   have HS:=Lib.hid (bytesB_snoc HXX.out)
   have hx:=x.toNat_lt
   have HP:=Lib.hid (wputR_any g x.toNat 8 (x.toNat:Int) 8 rfl rfl _ _ _ HW.out (by rw [HLN.out k hk];omega) (by decide) (by simpa using hx))
   have HST:Hid (alignL H0 ++ lsb n 16 ++ lsb (65535 - n) 16 ++ bytesB (bs.take k) ++ lsb x.toNat 8=alignL H0 ++ lsb n 16 ++ lsb (65535 - n) 16 ++ bytesB (bs.take (k+1))):=(show _=_ by rw [HS.out,List.append_assoc,List.append_assoc])
   rw [HST.out] at HP
   clear HS HST
   go_wp2_with (go_at_call 116;(with_reducible refine HP.out.mono ?_);go_must (rintro e w5 ⟨rfl,p6,hw6,hf6⟩;have HW6:=Lib.hid hw6;have HF6:=Lib.hid (HF.out.trans hf6);clear hw6 hf6))
   go_roundw
   case rel=>exact ⟨k+1,by omega,by go_num,p6,HW6,HF6⟩
   case measure=>simp [intOf];omega
  ·obtain rfl:k=n:=by omega
   go_wp2_with fail
   go_ret
   exact ⟨g,pq,rfl,Nat.le_refl _,(by rw [← HPL.out];exact HW.out),hBW⟩
end Go.Proofs.YteoolehdomjkkaaGreat
