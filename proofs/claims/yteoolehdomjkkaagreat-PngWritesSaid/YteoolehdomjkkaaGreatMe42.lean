/- XRw1 XRw2 XRw3 -/
import Derived.Test.YteoolehdomjkkaaGreatMe21
namespace Go.Proofs.YteoolehdomjkkaaGreat
set_option linter.all false
open Go.RowKit
/-- Bits as bytes. -/
def bitsB (L:List Nat):List UInt8:=L.map UInt8.ofNat
theorem bitsB_len (L:List Nat):(bitsB L).length=L.length:=by unfold bitsB;simp
theorem bitsB_snoc (L:List Nat) (x:Nat):bitsB (L ++ [x])=bitsB L ++ [UInt8.ofNat x]:=by unfold bitsB;simp
/-- The document's writer that holds bits. -/
def RWr (w:World) (g:Nat) (pv:Value) (L:List Nat):Prop:=Arr w g [pv]∧ownB w (g+1) pv (bitsB L)∧∀ b ∈ L,b < 2
theorem RWr.drewN {w:World} {g:Nat} {pv:Value} {L:List Nat} (h:RWr w g pv L) (q:Nat):RWr (w.drewN q) g pv L:=⟨h.1.drewN q,h.2.1.drewN q,h.2.2⟩
theorem RWr.form {w:World} {g:Nat} {pv:Value} {L:List Nat} (h:RWr w g pv L):∃ A c,pv=.slice A L.length c:=by
 obtain ⟨A,c,e,-,-,-⟩:=h.2.1.form
 rw [bitsB_len] at e
 exact ⟨A,c,e⟩
theorem RWr.pushed {w w3:World} {g:Nat} {pv v3:Value} {L:List Nat} {x:Nat} (h:RWr w g pv L) (o:Obj) (hx:x < 2) (hown:ownB w3 (g+1) v3 (bitsB L ++ [UInt8.ofNat x])) (hgb:(w.alloc o).grownBy w3 pv.ownBlock)
  (hbl:Below (g+1) (w.alloc o) w3) (hat:v3.ownBlock=pv.ownBlock∨v3.ownBlock=some (w.alloc o).heap.size) :
  RWr (w3.setCell ⟨g,0,none⟩ v3) g v3 (L ++ [x])∧WrFr w (w3.setCell ⟨g,0,none⟩ v3) g pv v3:=by
 refine ⟨⟨((h.1.alloc o).blw hbl (Nat.lt_succ_self g)).set 0 v3,?_,fun b hb=>?_⟩,(WrFr.grown o hgb hat).setg 0 v3⟩
 ·rw [bitsB_snoc]
  exact ownB.far hown (ownB_ne hown (Nat.lt_succ_self g)) 0 v3
 ·rw [List.mem_append] at hb
  rcases hb with hb | hb
  ·exact h.2.2 b hb
  ·rw [List.mem_singleton] at hb;rw [hb];exact hx
theorem putQ_any (v m:Nat) (w:World) (hm:m≤24) (hv:v < 2 ^ m):Calls Tryz.prog 163 #[.int .u32 (v:Int),.int .i64 (m:Int)] w fun e w'=>e=.returned (.bool true)∧w=w':=by
 have e1:decide ((m:Int) ≥ 0)=true:=decide_eq_true (by omega)
 have e2:decide ((m:Int)≤24)=true:=decide_eq_true (by omega)
 have e3:(v:Int) / 2 ^ m=0:=by
  rw [show ((2:Int) ^ m)=((2 ^ m:Nat):Int) by push_cast;rfl,← Int.natCast_ediv,Nat.div_eq_of_lt hv]
  rfl
 clear hv
 go_enter Tryz.func163,Tryz.ntmps163
 go_wp2_with fail
 go_ret
 exact ⟨rfl,rfl⟩
set_option maxRecDepth 100000 in
set_option maxHeartbeats 3200000 in
theorem wputR_any (g v m:Nat) (V M:Int) (hV:V=(v:Int)) (hM:M=(m:Int)) (pv:Value) (L:List Nat) (w:World) (h:RWr w g pv L) (hb:L.length+m≤1000000) (hm:m≤24) (hv:v < 2 ^ m) :
  Calls Tryz.prog 116 #[.pointer (some ⟨g,0,none⟩),.int .u32 V,.int .i64 M] w fun e w'=>e=.returned (.int .i64 0)∧∃ pv',RWr w' g pv' (L ++ lsb v m)∧WrFr w w' g pv pv':=by
 subst hV hM
 have HWG:=Lib.hid (fun w=>putQ_any v m w hm hv)
 have HW:=Lib.hid h
 have hv24:v < 16777216:=Nat.lt_of_lt_of_le hv (Nat.pow_le_pow_right (by decide) hm)
 have HM:Hid (L ++ lsb v 0=L):=(show _=_ by simp [lsb])
 clear h hv
 go_enter Tryz.func116,Tryz.ntmps116
 go_wp2_with (go_at_call 163;(with_reducible refine (HWG.out _).mono ?_);go_must (rintro e w1 ⟨rfl,rfl⟩))
 go_loopw [7] (fun vi wr=>∃ k:Nat,k≤m∧vi=.int .i64 k∧∃ pq,Hid (RWr wr g pq (L ++ lsb v k))∧Hid (WrFr w wr g pv pq)) (fun vi _=>m - (intOf vi).toNat)
 case atStart=>exact ⟨0,Nat.zero_le _,rfl,pv,(show RWr _ _ _ _ by rw [HM.out];exact HW.out),WrFr.refl _ _ _⟩
 case round =>
  clear HW HM
  obtain ⟨k,hk,rfl,pq,HW,HF⟩:=hrel
  by_cases hlt:k < m
  ·have hlen:(L ++ lsb v k).length=L.length+k:=by rw [List.length_append,lsb_len]
   have hdv:v / 2 ^ k < 4294967296:=Nat.lt_of_le_of_lt (Nat.div_le_self _ _) (by omega)
   have HST:Hid (L ++ lsb v k ++ [v / 2 ^ k % 2]=L ++ lsb v (k+1)):=(show _=_ by rw [lsb,List.append_assoc])
   have hdvI:(v:Int) / 2 ^ k=((v / 2 ^ k:Nat):Int):=by rw [show ((2:Int) ^ k)=((2 ^ k:Nat):Int) by push_cast;rfl,← Int.natCast_ediv]
   generalize v / 2 ^ k=u at *
   have eb:bits .and .u32 (u:Int) 1=((u % 2:Nat):Int):=and_one32 u hdv
   have hb2:u % 2 < 2:=Nat.mod_lt _ (by decide)
   generalize u % 2=b at *
   generalize L ++ lsb v k=LL at *
   have wb:(b:Int) % 256=(b:Int):=Int.emod_eq_of_lt (by omega) (by omega)
   have HBV:Hid ((b:Int)=((UInt8.ofNat b).toNat:Int)):=(show _=_ by rw [UInt8.toNat_ofNat'];omega)
   have hq:(bitsB LL).length+1≤140737488355328:=by rw [bitsB_len];omega
   have hL1:(bitsB LL ++ [UInt8.ofNat b]).length=LL.length+1:=by rw [List.length_append,bitsB_len];rfl
   have hgs:g+1≤wr.heap.size+1:=by have:=HW.out.1.lt;omega
   have hgr:=HW.out.1.lt
   have c0:=HW.out.1.cell (k:=0) rfl
   obtain ⟨Aq,cq,e0⟩:=HW.out.form
   subst e0
   clear hlen hdv
   go_wp2_with (at_builtin;(refine wpList_appendB rfl (.tmp 21) (.tmp 28) rfl (g+1) _ (bitsB LL) rfl (ownB.alloc HW.out.2.1 _) (wr.heap.size+1) 1 1 (some ⟨wr.heap.size,0,none⟩) [UInt8.ofNat b] rfl (rd_one wr (b:Int) (UInt8.ofNat b) HBV.out) hq (by rw [World.size_alloc];exact hgs) ?_;intro v3 w3 ho3 hg3 hb3 ha3;have hf:=ho3.form;rw [hL1] at hf;obtain ⟨A3,cc,rfl,-,-,-⟩:=hf;have HP:=Lib.hid (HW.out.pushed _ hb2 ho3 hg3 hb3 ha3);have hs3:g < w3.heap.size:=Nat.lt_of_lt_of_le hgr (Nat.le_trans (by simp) hg3.size);have c3:=((HW.out.1.alloc (.cells #[.int .u8 (b:Int)] 5)).blw hb3 (Nat.lt_succ_self g)).cell (k:=0) rfl;have f3:=((HW.out.1.alloc (.cells #[.int .u8 (b:Int)] 5)).blw hb3 (Nat.lt_succ_self g)).frozen 0;clear ho3 hg3 hb3 ha3))
   go_roundw
   case rel=>exact ⟨k+1,by omega,by go_num,_,(show RWr _ _ _ _ by rw [← HST.out];exact HP.out.1),HF.out.trans HP.out.2⟩
   case measure=>simp [intOf];omega
  ·obtain rfl:k=m:=by omega
   go_wp2_with fail
   go_ret
   exact ⟨rfl,pq,HW.out,HF.out⟩
end Go.Proofs.YteoolehdomjkkaaGreat

/- The document's writer of bits: Code, Align, Bits, Bytes. -/
namespace Go.Proofs.YteoolehdomjkkaaGreat
set_option linter.all false
open Go.RowKit
set_option maxRecDepth 100000 in
set_option maxHeartbeats 3200000 in
theorem wcodeR_any (g v m:Nat) (V M:Int) (hV:V=(v:Int)) (hM:M=(m:Int)) (pv:Value) (L:List Nat) (w:World) (h:RWr w g pv L) (hb:L.length+m≤1000000) (hm:m≤24) (hv:v < 2 ^ m) :
  Calls Tryz.prog 125 #[.pointer (some ⟨g,0,none⟩),.int .u32 V,.int .i64 M] w fun e w'=>e=.returned (.int .i64 0)∧∃ pv',RWr w' g pv' (L ++ msb v m m)∧WrFr w w' g pv pv':=by
 subst hV hM
 have HWG:=Lib.hid (fun w=>putQ_any v m w hm hv)
 have HW:=Lib.hid h
 have hv24:v < 16777216:=Nat.lt_of_lt_of_le hv (Nat.pow_le_pow_right (by decide) hm)
 have HM:Hid (L ++ msb v m 0=L):=(show _=_ by simp [msb])
 clear h hv
 go_enter Tryz.func125,Tryz.ntmps125
 go_wp2_with (go_at_call 163;(with_reducible refine (HWG.out _).mono ?_);go_must (rintro e w1 ⟨rfl,rfl⟩))
 go_loopw [7] (fun vi wr=>∃ k:Nat,k≤m∧vi=.int .i64 ((m:Int) - 1 - (k:Int))∧∃ pq,Hid (RWr wr g pq (L ++ msb v m k))∧Hid (WrFr w wr g pv pq)) (fun vi _=>(intOf vi+1).toNat)
 case atStart=>exact ⟨0,Nat.zero_le _,(by rw [show ((m:Int) - 1 - ((0:Nat):Int))=(m:Int) - 1 by omega]),pv,(show RWr _ _ _ _ by rw [HM.out];exact HW.out),WrFr.refl _ _ _⟩
 case round =>
  clear HW HM
  obtain ⟨k,hk,rfl,pq,HW,HF⟩:=hrel
  by_cases hlt:k < m
  ·obtain ⟨d,hd⟩:∃ d,m - 1 - k=d:=⟨_,rfl⟩
   have hdI:(m:Int) - 1 - (k:Int)=(d:Int):=by omega
   have hd1:(d:Int) - 1=(m:Int) - 1 - ((k+1:Nat):Int):=by omega
   rw [hdI]
   have hlen:(L ++ msb v m k).length=L.length+k:=by rw [List.length_append,msb_len]
   have hdv:v / 2 ^ d < 4294967296:=Nat.lt_of_le_of_lt (Nat.div_le_self _ _) (by omega)
   have HST:Hid (L ++ msb v m k ++ [v / 2 ^ d % 2]=L ++ msb v m (k+1)):=(show _=_ by rw [msb,hd,List.append_assoc])
   have hdvI:(v:Int) / 2 ^ d=((v / 2 ^ d:Nat):Int):=by rw [show ((2:Int) ^ d)=((2 ^ d:Nat):Int) by push_cast;rfl,← Int.natCast_ediv]
   generalize v / 2 ^ d=u at *
   have eb:bits .and .u32 (u:Int) 1=((u % 2:Nat):Int):=and_one32 u hdv
   have hb2:u % 2 < 2:=Nat.mod_lt _ (by decide)
   generalize u % 2=b at *
   generalize L ++ msb v m k=LL at *
   have wb:(b:Int) % 256=(b:Int):=Int.emod_eq_of_lt (by omega) (by omega)
   have HBV:Hid ((b:Int)=((UInt8.ofNat b).toNat:Int)):=(show _=_ by rw [UInt8.toNat_ofNat'];omega)
   have hq:(bitsB LL).length+1≤140737488355328:=by rw [bitsB_len];omega
   have hL1:(bitsB LL ++ [UInt8.ofNat b]).length=LL.length+1:=by rw [List.length_append,bitsB_len];rfl
   have hgs:g+1≤wr.heap.size+1:=by have:=HW.out.1.lt;omega
   have hgr:=HW.out.1.lt
   have c0:=HW.out.1.cell (k:=0) rfl
   obtain ⟨Aq,cq,e0⟩:=HW.out.form
   subst e0
   clear hlen hdv
   go_wp2_with (at_builtin;(refine wpList_appendB rfl (.tmp 22) (.tmp 29) rfl (g+1) _ (bitsB LL) rfl (ownB.alloc HW.out.2.1 _) (wr.heap.size+1) 1 1 (some ⟨wr.heap.size,0,none⟩) [UInt8.ofNat b] rfl (rd_one wr (b:Int) (UInt8.ofNat b) HBV.out) hq (by rw [World.size_alloc];exact hgs) ?_;intro v3 w3 ho3 hg3 hb3 ha3;have hf:=ho3.form;rw [hL1] at hf;obtain ⟨A3,cc,rfl,-,-,-⟩:=hf;have HP:=Lib.hid (HW.out.pushed _ hb2 ho3 hg3 hb3 ha3);have hs3:g < w3.heap.size:=Nat.lt_of_lt_of_le hgr (Nat.le_trans (by simp) hg3.size);have c3:=((HW.out.1.alloc (.cells #[.int .u8 (b:Int)] 5)).blw hb3 (Nat.lt_succ_self g)).cell (k:=0) rfl;have f3:=((HW.out.1.alloc (.cells #[.int .u8 (b:Int)] 5)).blw hb3 (Nat.lt_succ_self g)).frozen 0;clear ho3 hg3 hb3 ha3))
   go_roundw
   case rel=>exact ⟨k+1,by omega,(by rw [← hd1];go_num),_,(show RWr _ _ _ _ by rw [← HST.out];exact HP.out.1),HF.out.trans HP.out.2⟩
   case measure=>simp [intOf];omega
  ·obtain rfl:k=m:=by omega
   have hneg:¬ (0:Int)≤(k:Int) - 1 - (k:Int):=by omega
   go_wp2_with fail
   go_ret
   exact ⟨rfl,pq,HW.out,HF.out⟩
/-- How long the row is that lies in a block's first cell. -/
def slenAt (w:World) (g:Nat):Nat:=match w.cell? ⟨g,0,none⟩ with
 | some (.slice _ n _)=>n
 | _=>0
theorem slenAt_eq {w:World} {g n c:Nat} {A:Option Addr} (h:w.cell? ⟨g,0,none⟩=some (.slice A n c)):slenAt w g=n:=by unfold slenAt;rw [h]
theorem rep_snoc0 (k:Nat):List.replicate (k+1) 0=List.replicate k (0:Nat) ++ [0]:=List.replicate_succ'
set_option maxRecDepth 100000 in
set_option maxHeartbeats 3200000 in
theorem walignR_any (g:Nat) (pv:Value) (L:List Nat) (w:World) (h:RWr w g pv L) (hb:L.length≤1000000) :
  Calls Tryz.prog 117 #[.pointer (some ⟨g,0,none⟩)] w fun e w'=>e=.returned (.tuple #[])∧∃ pv',RWr w' g pv' (alignL L)∧WrFr w w' g pv pv':=by
 have HW:=Lib.hid h
 obtain ⟨N,hN⟩:∃ N,L.length=N:=⟨_,rfl⟩
 obtain ⟨D,hD⟩:∃ D,8 * ((L.length+7) / 8) - L.length=D:=⟨_,rfl⟩
 have HAL:Hid (alignL L=L ++ List.replicate D 0):=(show _=_ by unfold alignL;rw [hD])
 rw [hN] at hD
 have hD8:D < 8∧(N+D) % 8=0:=⟨by omega,by omega⟩
 have hDk:∀ k,k < D→¬ (N+k) % 8=0:=fun k hk=>by omega
 have HDK:=Lib.hid hDk
 have HM:Hid (L ++ List.replicate 0 0=L):=(show _=_ by simp)
 have HN:=Lib.hid hN
 rw [hN] at hb
 clear h hD hN hDk
 go_enter Tryz.func117,Tryz.ntmps117
 go_wp2_with fail
 go_loopw [2] (fun _ wr=>∃ k:Nat,k≤D∧∃ pq,Hid (RWr wr g pq (L ++ List.replicate k 0))∧Hid (WrFr w wr g pv pq)) (fun _ wr=>N+D - slenAt wr g)
 case atStart=>exact ⟨0,Nat.zero_le _,pv,(show RWr _ _ _ _ by rw [HM.out];exact HW.out),WrFr.refl _ _ _⟩
 case round =>
  clear HW HM
  obtain ⟨k,hk,pq,HW,HF⟩:=hrel
  have hlen:(L ++ List.replicate k 0).length=N+k:=by rw [List.length_append,List.length_replicate,HN.out]
  have c0:=HW.out.1.cell (k:=0) rfl
  obtain ⟨Aq,cq,e0⟩:=HW.out.form
  subst e0
  rw [hlen] at HW HF c0
  have hms:=slenAt_eq c0
  obtain ⟨T,hT⟩:∃ T,N+k=T:=⟨_,rfl⟩
  have hq2:(T:Int).tmod 8=((T % 8:Nat):Int):=rfl
  by_cases hlt:k < D
  ·have h8:=HDK.out k hlt
   rw [hT] at h8 HW HF c0 hms hlen
   have d8:((T:Int) % 8 != 0)=true:=by rw [bne_iff_ne];omega
   have d9:((T:Int) % 8 == 0)=false:=beq_eq_false_iff_ne.2 (by omega)
   have HST:Hid (L ++ List.replicate k 0 ++ [0]=L ++ List.replicate (k+1) 0):=(show _=_ by rw [rep_snoc0,List.append_assoc])
   have hgr:=HW.out.1.lt
   have hgs:g+1≤wr.heap.size+1:=by omega
   generalize L ++ List.replicate k 0=LL at *
   have hq:(bitsB LL).length+1≤140737488355328:=by rw [bitsB_len];omega
   have hL1:(bitsB LL ++ [0]).length=T+1:=by rw [List.length_append,bitsB_len,hlen];rfl
   have HTK:Hid (N+(k+1)=T+1):=(show _=_ by omega)
   have hmm:N+D - (T+1) < N+D - T:=by omega
   clear hT hlen h8
   go_wp2_with (at_builtin;(refine wpList_appendB rfl (.tmp 13) (.tmp 14) rfl (g+1) _ (bitsB LL) rfl (ownB.alloc HW.out.2.1 _) (wr.heap.size+1) 1 1 (some ⟨wr.heap.size,0,none⟩) [0] rfl (rd_one wr 0 0 rfl) hq (by rw [World.size_alloc];exact hgs) ?_;intro v3 w3 ho3 hg3 hb3 ha3;have hf:=ho3.form;rw [hL1] at hf;obtain ⟨A3,cc,rfl,-,-,-⟩:=hf;have HP:=Lib.hid (HW.out.pushed (x:=0) _ (by decide) ho3 hg3 hb3 ha3);have hs3:g < w3.heap.size:=Nat.lt_of_lt_of_le hgr (Nat.le_trans (by simp) hg3.size);have c3:=((HW.out.1.alloc (.cells #[.int .u8 0] 5)).blw hb3 (Nat.lt_succ_self g)).cell (k:=0) rfl;have f3:=((HW.out.1.alloc (.cells #[.int .u8 0] 5)).blw hb3 (Nat.lt_succ_self g)).frozen 0;clear ho3 hg3 hb3 ha3))
   have c9:=HP.out.1.1.cell (k:=0) rfl
   have hm9:=slenAt_eq c9
   go_roundw
   case rel=>exact ⟨k+1,by omega,_,(show RWr _ _ _ _ by rw [← HST.out];exact HP.out.1),HF.out.trans HP.out.2⟩
   case measure=>rw [hm9,hms];exact hmm
  ·obtain rfl:k=D:=by omega
   rw [hT] at HW HF c0 hms hlen
   have h8:T % 8=0:=by rw [← hT];exact hD8.2
   have d8:((T:Int) % 8 != 0)=false:=bne_eq_false_iff_eq.2 (by omega)
   have d9:((T:Int) % 8 == 0)=true:=by simp;omega
   clear hT
   go_wp2_with fail
   (try simp only [Exit.inBlock,Exit.then])
   first | (refine bodyPost_ret (results_none rfl _ _ _) rfl ?_) | (refine bodyPost_end (results_none rfl _ _ _) rfl ?_)
   exact ⟨rfl,_,(show RWr _ _ _ _ by rw [HAL.out];exact HW.out),HF.out⟩
theorem wbitsR_any (g:Nat) (pv:Value) (L:List Nat) (w:World) (h:RWr w g pv L) :
  Calls Tryz.prog 68 #[.pointer (some ⟨g,0,none⟩)] w fun e w'=>e=.returned (.int .i64 ((L.length:Nat):Int))∧w=w':=by
 have c0:=h.1.cell (k:=0) rfl
 obtain ⟨A,c,rfl⟩:=h.form
 clear h
 go_enter Tryz.func68,Tryz.ntmps68
 go_wp2_with fail
 go_ret
 exact ⟨rfl,rfl⟩
end Go.Proofs.YteoolehdomjkkaaGreat

/- The document's writer of bits: its bytes. -/
namespace Go.Proofs.YteoolehdomjkkaaGreat
set_option linter.all false
open Go.RowKit
/-- Bytes hold the first k bits. -/
def WBk (bs:List UInt8) (L:List Nat) (k:Nat):Prop:=bs.length=(L.length+7) / 8∧∀ p,bitAt bs p=(L.take k).getD p 0
theorem WBk.zero (L:List Nat):WBk (List.replicate ((L.length+7) / 8) 0) L 0:=by
 refine ⟨by simp,fun p=>?_⟩
 unfold bitAt
 have e:(List.replicate ((L.length+7) / 8) (0:UInt8)).getD (p / 8) 0=0:=by
  rw [List.getD_eq_getElem?_getD,List.getElem?_replicate]
  split <;> rfl
 rw [e]
 simp
theorem WBk.all {bs:List UInt8} {L:List Nat} (h:WBk bs L L.length):WB bs L:=⟨h.1,fun p=>by rw [h.2 p,List.take_length]⟩
theorem take_getD {L:List Nat} {k p:Nat} (h:p < k):(L.take k).getD p 0=L.getD p 0:=by
 rw [List.getD_eq_getElem?_getD,List.getD_eq_getElem?_getD,List.getElem?_take_of_lt h]
theorem take_getD0 {L:List Nat} {k p:Nat} (h:k≤p):(L.take k).getD p 0=0:=by
 rw [List.getD_eq_getElem?_getD,List.getElem?_eq_none (by rw [List.length_take];omega)]
 rfl
theorem WBk.step {bs:List UInt8} {L:List Nat} {k b:Nat} {x:UInt8} (h:WBk bs L k) (hk:k < L.length) (hb:L[k]?=some b) (hb2:b < 2) (hx:bs[k / 8]?=some x) :
  WBk (bs.set (k / 8) (UInt8.ofNat (x.toNat ||| b * 2 ^ (k % 8)))) L (k+1):=by
 have hk8:k / 8 < bs.length:=by have:=h.1;omega
 refine ⟨by rw [List.length_set];exact h.1,fun p=>?_⟩
 have hx0:x.toNat / 2 ^ (k % 8) % 2=0:=by
  have e:=h.2 k
  rw [take_getD0 (Nat.le_refl _)] at e
  unfold bitAt at e
  rw [List.getD_eq_getElem?_getD,hx] at e
  exact e
 have hv:(UInt8.ofNat (x.toNat ||| b * 2 ^ (k % 8))).toNat=x.toNat ||| b * 2 ^ (k % 8):=by
  have:=or_lt256 x.toNat b (k % 8) x.toNat_lt hb2 (Nat.mod_lt _ (by decide))
  simp only [UInt8.toNat_ofNat']
  exact Nat.mod_eq_of_lt this
 have hbk:L.getD k 0=b:=by rw [List.getD_eq_getElem?_getD,hb];rfl
 by_cases e:p / 8=k / 8
 ·unfold bitAt
  rw [List.getD_eq_getElem?_getD,List.getElem?_set,if_pos e.symm,if_pos hk8]
  show (UInt8.ofNat _).toNat / 2 ^ (p % 8) % 2=_
  rw [hv,or_place _ _ _ _ hb2 hx0]
  by_cases e2:p % 8=k % 8
  ·obtain rfl:p=k:=by omega
   rw [if_pos rfl,take_getD (Nat.lt_succ_self p),hbk]
  ·rw [if_neg e2]
   have e3:=h.2 p
   unfold bitAt at e3
   rw [List.getD_eq_getElem?_getD,e,hx] at e3
   have e4:x.toNat / 2 ^ (p % 8) % 2=(L.take k).getD p 0:=e3
   rw [e4]
   by_cases h5:p < k
   ·rw [take_getD h5,take_getD (by omega)]
   ·have:¬ p=k:=fun e=>e2 (by rw [e])
    rw [take_getD0 (by omega),take_getD0 (by omega)]
 ·have e3:=h.2 p
  have e5:bitAt (bs.set (k / 8) (UInt8.ofNat (x.toNat ||| b * 2 ^ (k % 8)))) p=bitAt bs p:=by
   unfold bitAt
   rw [List.getD_eq_getElem?_getD,List.getD_eq_getElem?_getD,List.getElem?_set,if_neg (fun e'=>e e'.symm)]
  rw [e5,e3]
  by_cases h5:p < k
  ·rw [take_getD h5,take_getD (by omega)]
  ·have:¬ p=k:=fun e'=>e (by rw [e'])
   rw [take_getD0 (by omega),take_getD0 (by omega)]
theorem bitsB_get {L:List Nat} {k:Nat} {x:UInt8} (h:(bitsB L)[k]?=some x) (h2:∀ b ∈ L,b < 2):∃ b,L[k]?=some b∧b < 2∧x.toNat=b:=by
 unfold bitsB at h
 rw [List.getElem?_map] at h
 cases hb:L[k]? with
 | none=>rw [hb] at h;cases h
 | some b =>
  rw [hb] at h
  have h3:=h2 b (List.mem_of_getElem? hb)
  have h4:UInt8.ofNat b=x:=by injection h
  exact ⟨b,rfl,h3,by rw [← h4,UInt8.toNat_ofNat'];omega⟩
set_option maxRecDepth 100000 in
set_option maxHeartbeats 3200000 in
theorem wbytesR_any (g:Nat) (pv:Value) (L:List Nat) (w:World) (h:RWr w g pv L) (hb:L.length≤1000000) :
  Calls Tryz.prog 69 #[.pointer (some ⟨g,0,none⟩)] w fun e w'=>∃ v bs,e=.returned v∧ownB w' w.heap.size v bs∧WB bs L∧Below w.heap.size w w':=by
 obtain ⟨A,c,rfl⟩:=h.form
 have hr:=ownB.rd h.2.1
 have hgl:=h.1.lt
 have c0:=h.1.cell (k:=0) rfl
 have HA:=Lib.hid h.1
 have H2:=Lib.hid h.2.2
 have HR:=Lib.hid hr
 have HZ:=Lib.hid (WBk.zero L)
 have HALL:Hid (∀ bs,WBk bs L L.length→WB bs L):=(show ∀ bs,_ from fun bs h=>h.all)
 have HST:Hid (∀ (bs:List UInt8) (k b:Nat) (x:UInt8),WBk bs L k→k < L.length→L[k]?=some b→b < 2→bs[k / 8]?=some x→WBk (bs.set (k / 8) (UInt8.ofNat (x.toNat ||| b * 2 ^ (k % 8)))) L (k+1)):=(show ∀ bs k b x,_ from fun bs k b x h1 h2 h3 h4 h5=>h1.step h2 h3 h4 h5)
 have HLN:Hid (∀ (bs:List UInt8) (k:Nat),WBk bs L k→bs.length=(L.length+7) / 8):=(show ∀ bs k,_ from fun bs k h=>h.1)
 have HBG:Hid (∀ (k:Nat) (x:UInt8),(bitsB L)[k]?=some x→∃ b,L[k]?=some b∧b < 2∧x.toNat=b):=(show ∀ k x,_ from fun k x hx=>bitsB_get hx h.2.2)
 obtain ⟨N,hN⟩:∃ N,L.length=N:=⟨_,rfl⟩
 rw [hN] at HR HZ HALL HST HLN HA c0 hb
 obtain ⟨M,hM⟩:∃ M,(N+7) / 8=M:=⟨_,rfl⟩
 have hM1:((N:Int)+7).tdiv 8=(M:Int):=by rw [← hM];rfl
 have hM2:((N:Int)+7) / 8=(M:Int):=by omega
 have hM9:M≤200000:=by omega
 have hkM:∀ k,k < N→k / 8 < M:=fun k hk=>by omega
 have HKM:=Lib.hid hkM
 rw [hM] at HZ HLN
 clear h hr hN hM hkM
 have HB0:=Lib.hid (Below.refl w.heap.size w)
 go_enter Tryz.func69,Tryz.ntmps69
 go_wp2_with (at_make;refine wpList_makeB rfl _ _ rfl M _ rfl rfl rfl (by omega) ?_;intro w2 hown hb1 hsz;have HO2:=Lib.hid hown;have HB2:=Lib.hid hb1;clear hown hb1)
 generalize hg2:w.heap.size=G at *
 go_loopw [4] (fun vi wr=>∃ k bs,k≤N∧vi=.int .i64 (k:Nat)∧Hid (WBk bs L k)∧Hid (ownB wr G (.slice (some ⟨G,0,none⟩) M M) bs)∧Hid (Below G w wr)∧G < wr.heap.size) (fun vi _=>N - (intOf vi).toNat)
 case atStart=>exact ⟨0,_,Nat.zero_le _,rfl,HZ,HO2,HB2,hsz⟩
 case round =>
  clear HZ HO2 HB2 hsz
  obtain ⟨k,bs,hk,rfl,HK,HO,HB,hsr⟩:=hrel
  have c1:=(HA.out.blw HB.out hgl).cell (k:=0) rfl
  by_cases hlt:k < N
  ·have hki:(k:Int) < (N:Int):=by omega
   have hn:=HLN.out bs k HK.out
   have hk8:=HKM.out k hlt
   obtain ⟨x,HX,cx⟩:=HO.out.byte hn.symm (k:=k / 8) hk8
   have fx:=HO.out.frozen hn.symm (k / 8)
   obtain ⟨bb,oo,y,e0,hbb,HY,cy⟩:=(RdB.blw HR.out HB.out).byte hlt
   subst e0
   obtain ⟨b,hb1,hb2,hyb⟩:=HBG.out k y HY.out
   have HW1:=Lib.hid (HST.out bs k b x HK.out hlt hb1 hb2 HX.out)
   have h256:=or_lt256 x.toNat b (k % 8) x.toNat_lt hb2 (Nat.mod_lt _ (by decide))
   obtain ⟨z,hz⟩:∃ z:UInt8,UInt8.ofNat (x.toNat ||| b * 2 ^ (k % 8))=z:=⟨_,rfl⟩
   have hzn:z.toNat=x.toNat ||| b * 2 ^ (k % 8):=by rw [← hz,UInt8.toNat_ofNat',Nat.mod_eq_of_lt h256]
   rw [hz] at HW1
   have hq1:(k:Int).tdiv 8=((k / 8:Nat):Int):=rfl
   have hq2:(k:Int).tmod 8=((k % 8:Nat):Int):=rfl
   have ht:k % 8 < 8:=Nat.mod_lt _ (by decide)
   have HSO:=Lib.hid (ownB.store HO.out hn.symm (k / 8) z)
   have HSB:=Lib.hid (HB.out.setCell (p:=⟨G,k / 8,none⟩) (Nat.le_refl _) (.int .u8 (z.toNat:Int)))
   have h1:2 ^ (k % 8)≤2 ^ 7:=Nat.pow_le_pow_right (by decide) (by omega)
   have hs256:b * 2 ^ (k % 8) < 256:=by
    have h2:b * 2 ^ (k % 8)≤1 * 2 ^ (k % 8):=Nat.mul_le_mul_right _ (by omega)
    omega
   have hor:bits .or .u8 (x.toNat:Int) ((b * 2 ^ (k % 8):Nat):Int)=(z.toNat:Int):=by rw [u8_or_nat _ _ x.toNat_lt (by omega),hzn]
   have hs2:(b:Int) * 2 ^ (k % 8)=((b * 2 ^ (k % 8):Nat):Int):=by push_cast;rfl
   generalize b * 2 ^ (k % 8)=s at *
   rw [← hor] at HSO HSB
   rw [hyb] at cy
   have hqI:(k:Int) / 8=((k / 8:Nat):Int):=by omega
   have htI:(k:Int) % 8=((k % 8:Nat):Int):=by omega
   have hk8i:((k / 8:Nat):Int) < (M:Int):=by omega
   generalize k / 8=q at *
   generalize k % 8=t at *
   have hx8:=x.toNat_lt
   have HZ8:Hid (z.toNat < 256):=z.toNat_lt
   clear HX HY HK hz hzn h256 HST HBG HALL h1 hn hb1 hyb
   have wq:IntKind.i64.wrap (q:Int)=(q:Int):=wrap_i64_lt q (by omega)
   have wt:IntKind.i64.wrap (t:Int)=(t:Int):=wrap_i64_lt t (by omega)
   have wt3:IntKind.u64.wrap (t:Int)=(t:Int):=by simp [IntKind.wrap,IntKind.bits,IntKind.signed];omega
   have ws1:IntKind.u8.wrap ((b:Int) * 2 ^ t)=(s:Int):=by rw [hs2];simp [IntKind.wrap,IntKind.bits,IntKind.signed];omega
   have wz:IntKind.u8.wrap (z.toNat:Int)=(z.toNat:Int):=by simp [IntKind.wrap,IntKind.bits,IntKind.signed];have:=HZ8.out;omega
   have hqM:q < M:=by omega
   go_wp2_with fail
   go_region_law (fail)
   all_goals
    go_simp
    go_wp2_with fail
    go_roundw
    case rel=>exact ⟨k+1,_,by omega,by go_num,HW1,(show ownB _ _ _ _ from HSO.out.drew),(show Below _ _ _ from bdrewN HSB.out 1),by first | exact hsr | (simp;exact hsr)⟩
    case measure=>simp [intOf];omega
  ·obtain rfl:k=N:=by omega
   go_wp2_with fail
   go_ret
   subst hg2
   exact ⟨_,bs,rfl,HO.out,HALL.out bs HK.out,HB.out⟩
end Go.Proofs.YteoolehdomjkkaaGreat

