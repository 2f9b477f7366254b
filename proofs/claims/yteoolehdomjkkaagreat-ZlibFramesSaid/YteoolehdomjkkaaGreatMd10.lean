/- Merged: Write. -/
import Derived.Test.YteoolehdomjkkaaGreatMd08
import Derived.Test.YteoolehdomjkkaaGreatMd09
/- Writers of bits. -/
namespace Go.Proofs.YteoolehdomjkkaaGreat
set_option linter.all false
open Go.RowKit
/-- What a writer changes: its block, its row, new blocks. -/
structure WrFr (w w':World) (g:Nat) (pv pv':Value):Prop where
 os:w'.os=w.os
 tape:w'.tape=w.tape
 output:w'.output=w.output
 size:w.heap.size≤w'.heap.size
 block:∀ k,k < w.heap.size→k ≠ g→pv.ownBlock ≠ some k→w'.heap[k]?=w.heap[k]?
 own:pv'.ownBlock=pv.ownBlock∨∃ k,w.heap.size≤k∧pv'.ownBlock=some k
section
variable {w w' w'' : World} {g : Nat} {pv pv' pv'' : Value}
theorem WrFr.refl (w:World) (g:Nat) (pv:Value):WrFr w w g pv pv:=⟨rfl,rfl,rfl,Nat.le_refl _,fun _ _ _ _=>rfl,.inl rfl⟩
theorem WrFr.trans (h:WrFr w w' g pv pv') (k:WrFr w' w'' g pv' pv''):WrFr w w'' g pv pv'':=by
 refine ⟨k.os.trans h.os,k.tape.trans h.tape,k.output.trans h.output,Nat.le_trans h.size k.size,fun i hi hg hp=>?_,?_⟩
 ·refine (k.block i (Nat.lt_of_lt_of_le hi h.size) hg ?_).trans (h.block i hi hg hp)
  rcases h.own with e | ⟨j,hj,e⟩
  ·rw [e];exact hp
  ·rw [e];intro e2;injection e2 with e2;omega
 ·rcases k.own with e | ⟨j,hj,e⟩
  ·rcases h.own with e2 | ⟨j,hj,e2⟩
   ·exact .inl (e.trans e2)
   ·exact .inr ⟨j,hj,e.trans e2⟩
  ·exact .inr ⟨j,Nat.le_trans h.size hj,e⟩
theorem WrFr.setg (h:WrFr w w' g pv pv') (i:Nat) (v:Value):WrFr w (w'.setCell ⟨g,i,none⟩ v) g pv pv' :=
 ⟨h.os,h.tape,h.output,by simp;exact h.size,fun k hk hg hp=>(Below.heap_setCell _ _ _ _ (fun e=>hg e)).trans (h.block k hk hg hp),h.own⟩
theorem WrFr.setr {ga m c:Nat} (h:WrFr w w' g pv (.slice (some ⟨ga,0,none⟩) m c)) (i:Nat) (v:Value):WrFr w (w'.setCell ⟨ga,i,none⟩ v) g pv (.slice (some ⟨ga,0,none⟩) m c):=by
 refine ⟨h.os,h.tape,h.output,by simp;exact h.size,fun k hk hg hp=>?_,h.own⟩
 refine (Below.heap_setCell _ _ _ _ (fun e0:k=ga=>?_)).trans (h.block k hk hg hp)
 subst e0
 rcases h.own with e | ⟨j,hj,e⟩
 ·exact hp e.symm
 ·have e2:some k=some j:=e
  injection e2 with e2
  omega
theorem and_one32 (v:Nat) (hv:v < 4294967296):bits .and .u32 (v:Int) 1=((v % 2:Nat):Int):=by
 rw [show (1:Int)=((1:Nat):Int) from rfl,u32_and_nat _ _ hv (by decide),Nat.and_one_is_mod]
/-- What a bit put into a byte gives. -/
theorem one_val (x:UInt8) (v t:Nat) (hv:v < 4294967296) (ht:t < 8) :
  bits .or .u8 (x.toNat:Int) (bits .and .u32 (v:Int) 1 % 256 * 2 ^ t % 256)=((UInt8.ofNat (x.toNat ||| v % 2 * 2 ^ t)).toNat:Int):=by
 have hb:v % 2 < 2:=Nat.mod_lt _ (by decide)
 have e0:bits .and .u32 (v:Int) 1=((v % 2:Nat):Int):=by
  rw [show (1:Int)=((1:Nat):Int) from rfl,u32_and_nat _ _ hv (by decide),Nat.and_one_is_mod]
 have hx:=x.toNat_lt
 have h256:=or_lt256 x.toNat (v % 2) t hx hb ht
 rw [e0]
 generalize v % 2=b at *
 have h1:2 ^ t≤2 ^ 7:=Nat.pow_le_pow_right (by decide) (by omega)
 have h2:b * 2 ^ t≤1 * 2 ^ t:=Nat.mul_le_mul_right _ (by omega)
 have e1:(b:Int) % 256=b:=Int.emod_eq_of_lt (by omega) (by omega)
 have e2:(b:Int) * 2 ^ t=((b * 2 ^ t:Nat):Int):=by push_cast;rfl
 rw [e1,e2]
 generalize b * 2 ^ t=u at *
 rw [Int.emod_eq_of_lt (by omega) (by omega),u8_or_nat _ _ hx (by omega)]
 simp only [UInt8.toNat_ofNat']
 rw [Nat.mod_eq_of_lt h256]
theorem WrFr.drew (h:WrFr w w' g pv pv'):WrFr w w'.drew g pv pv':=⟨h.os,h.tape,h.output,h.size,h.block,h.own⟩
theorem WrFr.grown {pv2:Value} (o:Obj) (h:(w.alloc o).grownBy w' pv.ownBlock) (hat:pv2.ownBlock=pv.ownBlock∨pv2.ownBlock=some (w.alloc o).heap.size):WrFr w w' g pv pv2:=by
 refine ⟨h.os,h.tape,h.output,Nat.le_trans (by simp) h.size,fun k hk _ hp=>?_,?_⟩
 ·exact (h.block k (by simp;omega) (fun e=>hp e.symm)).trans (heap_alloc_old w o hk)
 ·rcases hat with e | e
  ·exact .inl e
  ·exact .inr ⟨_,by simp,e⟩
theorem WrFr.below {B:Nat} (h:WrFr w w' g pv pv') (hB:B≤w.heap.size) (hg:B≤g) (hp:∀ k,pv.ownBlock=some k→B≤k):Below B w w' :=
 ⟨h.os,h.tape,h.output,h.size,fun k hk=>h.block k (by omega) (by omega) (fun e=>by have:=hp k e;omega)⟩
end
theorem ownB.at0 {w:World} {base n c:Nat} {A:Option Addr} {bs:List UInt8} (h:ownB w base (.slice A n c) bs) (hn:0 < n):n=bs.length∧∃ g,A=some ⟨g,0,none⟩∧base≤g∧g < w.heap.size:=by
 rcases h.2 with ⟨h',_⟩ | ⟨g,cap,cur,h',hb,hg,_⟩
 ·injection h' with _ h2;omega
 ·injection h' with h1 h2
  exact ⟨h2,g,h1,hb,(World.ownsRow.lt h g (by rw [h1];rfl)).2⟩
set_option maxRecDepth 100000 in
set_option maxHeartbeats 3200000 in
theorem one_any (g N v:Nat) (pv:Value) (bs:List UInt8) (L:List Nat) (w:World) (hA:Arr w g [pv,.int .i64 (N:Int)]) (ho:ownB w (g+1) pv bs) (hW:WB bs L) (hN:L.length=N) (hb:N≤1000000) (hv:v < 4294967296) :
  Calls Tryz.prog 181 #[.pointer (some ⟨g,0,none⟩),.int .u32 (v:Int)] w fun e w'=>e=.returned (.tuple #[])∧∃ pv' bs',Arr w' g [pv',.int .i64 ((N+1:Nat):Int)]∧ownB w' (g+1) pv' bs'∧WB bs' (L ++ [v % 2])∧WrFr w w' g pv pv':=by
 obtain ⟨Ap,cp,rfl,-,-,-⟩:=ho.form
 have HA:=Lib.hid hA
 have HO:=Lib.hid ho
 have HW:=Lib.hid hW
 have hRL:=room_len hW
 rw [hN] at hRL
 have HRL:=Lib.hid hRL
 have HPU:=Lib.hid (fun x hx=>WB.push hW (b:=v % 2) (Nat.mod_lt _ (by decide)) (x:=x) hx)
 rw [hN] at HPU
 have hsg:=hA.lt
 have hbl0:bs.length≤200000:=by have:=hW.1;omega
 have c0:=hA.cell (k:=0) rfl
 have c1:=hA.cell (k:=1) rfl
 clear hA ho hW
 have hq1:(N:Int).tdiv 8=((N / 8:Nat):Int):=rfl
 have hq2:(N:Int).tmod 8=((N % 8:Nat):Int):=rfl
 have ht:N % 8 < 8:=Nat.mod_lt _ (by decide)
 by_cases h8:N % 8=0
 ·have d8:((N:Int) % 8 == 0)=true:=by simp;omega
  have HRO:Hid (room bs N=bs ++ [0]):=(show _=_ by unfold room;rw [if_pos h8])
  go_enter Tryz.func181,Tryz.ntmps181
  go_upto_region 2 with (at_builtin;go_must (refine wpList_appendB rfl (.tmp 14) (.tmp 15) rfl (g+1) _ bs rfl (ownB.alloc HO.out _) (w.heap.size+1) 1 1 (some ⟨w.heap.size,0,none⟩) [0] rfl (rd_one w 0 0 rfl) (by omega) (by simp;omega) ?_;intro v1 w3 hown hgb hbl hat;obtain ⟨A3,c3,rfl,hr3,-,-⟩:=hown.form;have HF3:=Lib.hid (show WrFr w w3 g (.slice Ap bs.length cp) (.slice A3 (bs ++ [(0:UInt8)]).length c3) from WrFr.grown (g:=g) _ hgb hat);rw [show (bs ++ [(0:UInt8)]).length=bs.length+1 by simp] at hown HF3 ⊢;have HA3:=Lib.hid ((HA.out.alloc (.cells #[.int .u8 0] 5)).blw hbl (Nat.lt_succ_self g));have HO3:=Lib.hid hown;have c48:=HA3.out.cell (k:=0) rfl;have f48:=HA3.out.frozen 0;clear hown hbl hat hr3 HA HO hgb))
  obtain ⟨hml,ga,rfl,hga,hga2⟩:=ownB.at0 HO3.out (by omega)
  have HA:=Lib.hid (HA3.out.set 0 (.slice (some ⟨ga,0,none⟩) (bs.length+1) c3))
  have HO:=Lib.hid (ownB.far HO3.out (g:=g) (ownB_ne HO3.out (Nat.lt_succ_self g)) 0 (.slice (some ⟨ga,0,none⟩) (bs.length+1) c3))
  have HF:=Lib.hid (HF3.out.setg 0 (.slice (some ⟨ga,0,none⟩) (bs.length+1) c3))
  have HRB:=Lib.hid HRO.out
  rw [← HRO.out] at hml HO
  clear HA3 HO3 HF3 c48 f48 c0 c1
  generalize w3.setCell ⟨g,0,none⟩ (.slice (some ⟨ga,0,none⟩) (bs.length+1) c3)=wq at *
  obtain ⟨m,hm⟩:∃ m,bs.length+1=m:=⟨_,rfl⟩
  rw [hm] at hml HO HF HA
  simp only [hm]
  have HRB:Hid (room bs N=room bs N):=(show _=_ from rfl)
  have hne:¬ g=ga:=by omega
  have hne2:¬ ga=g:=by omega
  have hm8:N / 8 < m:=by omega
  obtain ⟨x,HX,cx⟩:=HO.out.byte hml (k:=N / 8) hm8
  have fx:=HO.out.frozen hml (N / 8)
  have c0:=HA.out.cell (k:=0) rfl
  have c1:=HA.out.cell (k:=1) rfl
  have f1:=HA.out.frozen 1
  have HVL:=Lib.hid (one_val x v (N % 8) hv ht)
  have HWN:=Lib.hid (HPU.out x (by rw [HRB.out];exact HX.out))
  rw [HRB.out] at HWN
  obtain ⟨y,hy⟩:∃ y:UInt8,UInt8.ofNat (x.toNat ||| v % 2 * 2 ^ (N % 8))=y:=⟨_,rfl⟩
  rw [hy] at HVL HWN
  have HOS:=Lib.hid (ownB.far (ownB.store HO.out hml (N / 8) y) (g:=g) (ownB_ne (ownB.store HO.out hml (N / 8) y) (Nat.lt_succ_self g)) 1 (.int .i64 ((N:Int)+1))).drew
  have HAS:=Lib.hid ((HA.out.far (p:=⟨ga,N / 8,none⟩) hne2 (.int .u8 (y.toNat:Int))).set 1 (.int .i64 ((N:Int)+1))).drew
  have HFS:=Lib.hid ((HF.out.setr (N / 8) (.int .u8 (y.toNat:Int))).setg 1 (.int .i64 ((N:Int)+1))).drew
  clear HO HA HF HX HPU hy
  have hvv:=HVL.out
  have eb:bits .and .u32 (v:Int) 1=((v % 2:Nat):Int):=and_one32 v hv
  rw [eb] at hvv
  have hb2:v % 2 < 2:=Nat.mod_lt _ (by decide)
  obtain ⟨s,hs,hs2⟩:∃ s:Nat,s < 256∧(((v % 2:Nat):Int) % 256 * 2 ^ (N % 8) % 256)=(s:Int):=by
   refine ⟨(((v % 2:Nat):Int) % 256 * 2 ^ (N % 8) % 256).toNat,?_,?_⟩ <;> omega
  rw [hs2] at hvv
  have HY:Hid (y.toNat < 256):=y.toNat_lt
  generalize y.toNat=yn at *
  generalize hbv:v % 2=b at *
  have HBV:=Lib.hid hbv
  clear hbv
  have eb2:(b:Int) % 256=b:=Int.emod_eq_of_lt (by omega) (by omega)
  rw [eb2] at hs2
  generalize hq:N / 8=q at *
  generalize htt:N % 8=t at *
  have hqI:(N:Int) / 8=(q:Int):=by omega
  have htI:(N:Int) % 8=(t:Int):=by omega
  have wq1:IntKind.i64.wrap (q:Int)=(q:Int):=wrap_i64_lt q (by omega)
  have wt1:IntKind.i64.wrap (t:Int)=(t:Int):=wrap_i64_lt t (by omega)
  have wb1:IntKind.u8.wrap (b:Int)=(b:Int):=by simp [IntKind.wrap,IntKind.bits,IntKind.signed];omega
  have ws1:IntKind.u8.wrap ((b:Int) * 2 ^ t)=(s:Int):=by rw [← hs2];simp [IntKind.wrap,IntKind.bits,IntKind.signed]
  have wb3:IntKind.u8.wrap (s:Int)=(s:Int):=by simp [IntKind.wrap,IntKind.bits,IntKind.signed];omega
  have hqm:(q:Int) < (m:Int):=by omega
  have hqm2:q < m:=by omega
  clear HVL HRL hm8 hRL hs2 hbl0
  try clear hml
  try (have HMM:=Lib.hid hm;clear hm)
  try clear h8
  try clear d8
  try clear hq htt
  go_wp2_with fail
  go_region_law (fail)
  all_goals
   go_simp
   go_wp2_with fail
   go_end0
   exact ⟨rfl,_,_,HAS.out,HOS.out,(by rw [HBV.out];exact HWN.out),(by first | exact HFS.out | (rw [HMM.out];exact HFS.out))⟩
 ·have d8:((N:Int) % 8 == 0)=false:=beq_eq_false_iff_ne.2 (by omega)
  have HRB:Hid (room bs N=bs):=(show _=_ by unfold room;rw [if_neg h8])
  have hml:bs.length=bs.length:=rfl
  rw [HRB.out] at hRL
  obtain ⟨-,ga,rfl,hga,hga2⟩:=ownB.at0 HO.out (by omega)
  have HF:=Lib.hid (WrFr.refl w g (.slice (some ⟨ga,0,none⟩) bs.length cp))
  obtain ⟨m,hm⟩:∃ m,bs.length=m:=⟨_,rfl⟩
  have hml:m=bs.length:=hm.symm
  rw [hm] at HO HA HF c0 hRL hbl0
  go_enter Tryz.func181,Tryz.ntmps181
  go_upto_region 2 with (fail)
  have hne:¬ g=ga:=by omega
  have hne2:¬ ga=g:=by omega
  have hm8:N / 8 < m:=by omega
  obtain ⟨x,HX,cx⟩:=HO.out.byte hml (k:=N / 8) hm8
  have fx:=HO.out.frozen hml (N / 8)
  have f1:=HA.out.frozen 1
  have HVL:=Lib.hid (one_val x v (N % 8) hv ht)
  have HWN:=Lib.hid (HPU.out x (by rw [HRB.out];exact HX.out))
  rw [HRB.out] at HWN
  obtain ⟨y,hy⟩:∃ y:UInt8,UInt8.ofNat (x.toNat ||| v % 2 * 2 ^ (N % 8))=y:=⟨_,rfl⟩
  rw [hy] at HVL HWN
  have HOS:=Lib.hid (ownB.far (ownB.store HO.out hml (N / 8) y) (g:=g) (ownB_ne (ownB.store HO.out hml (N / 8) y) (Nat.lt_succ_self g)) 1 (.int .i64 ((N:Int)+1))).drew
  have HAS:=Lib.hid ((HA.out.far (p:=⟨ga,N / 8,none⟩) hne2 (.int .u8 (y.toNat:Int))).set 1 (.int .i64 ((N:Int)+1))).drew
  have HFS:=Lib.hid ((HF.out.setr (N / 8) (.int .u8 (y.toNat:Int))).setg 1 (.int .i64 ((N:Int)+1))).drew
  clear HO HA HF HX HPU hy
  have hvv:=HVL.out
  have eb:bits .and .u32 (v:Int) 1=((v % 2:Nat):Int):=and_one32 v hv
  rw [eb] at hvv
  have hb2:v % 2 < 2:=Nat.mod_lt _ (by decide)
  obtain ⟨s,hs,hs2⟩:∃ s:Nat,s < 256∧(((v % 2:Nat):Int) % 256 * 2 ^ (N % 8) % 256)=(s:Int):=by
   refine ⟨(((v % 2:Nat):Int) % 256 * 2 ^ (N % 8) % 256).toNat,?_,?_⟩ <;> omega
  rw [hs2] at hvv
  have HY:Hid (y.toNat < 256):=y.toNat_lt
  generalize y.toNat=yn at *
  generalize hbv:v % 2=b at *
  have HBV:=Lib.hid hbv
  clear hbv
  have eb2:(b:Int) % 256=b:=Int.emod_eq_of_lt (by omega) (by omega)
  rw [eb2] at hs2
  generalize hq:N / 8=q at *
  generalize htt:N % 8=t at *
  have hqI:(N:Int) / 8=(q:Int):=by omega
  have htI:(N:Int) % 8=(t:Int):=by omega
  have wq1:IntKind.i64.wrap (q:Int)=(q:Int):=wrap_i64_lt q (by omega)
  have wt1:IntKind.i64.wrap (t:Int)=(t:Int):=wrap_i64_lt t (by omega)
  have wb1:IntKind.u8.wrap (b:Int)=(b:Int):=by simp [IntKind.wrap,IntKind.bits,IntKind.signed];omega
  have ws1:IntKind.u8.wrap ((b:Int) * 2 ^ t)=(s:Int):=by rw [← hs2];simp [IntKind.wrap,IntKind.bits,IntKind.signed]
  have wb3:IntKind.u8.wrap (s:Int)=(s:Int):=by simp [IntKind.wrap,IntKind.bits,IntKind.signed];omega
  have hqm:(q:Int) < (m:Int):=by omega
  have hqm2:q < m:=by omega
  clear HVL HRL hm8 hRL hs2 hbl0
  try clear hml
  try (have HMM:=Lib.hid hm;clear hm)
  try clear h8
  try clear d8
  try clear hq htt
  go_wp2_with fail
  go_region_law (fail)
  all_goals
   go_simp
   go_wp2_with fail
   go_end0
   exact ⟨rfl,_,_,HAS.out,HOS.out,(by rw [HBV.out];exact HWN.out),(by first | exact HFS.out | (rw [HMM.out];exact HFS.out))⟩
end Go.Proofs.YteoolehdomjkkaaGreat
