/- XWriteP XWrite XWrite2 XInts XFirst5 XNext5 XHuffReads XHuffBackP -/
import Derived.Test.YtebbdifhiihfkaaGreatDoorMh18
import Derived.Test.YtebbdifhiihfkaaGreatDoorMh05
import Derived.Test.YtebbdifhiihfkaaGreatDoorMh14
import Derived.Lib.LazyBuf
namespace Go.Proofs.YtebbdifhiihfkaaGreatDoor
set_option linter.all false
open Go.RowKit
/-- Bytes hold bits: so many bytes, behind the last bit nothing. -/
def WB (bs:List UInt8) (L:List Nat):Prop:=bs.length=(L.length+7) / 8∧∀ p,bitAt bs p=L.getD p 0
theorem WB.nil:WB [] []:=⟨rfl,fun p=>by simp [bitAt]⟩
theorem or_place (x b t q:Nat) (hb:b < 2) (hx:x / 2 ^ t % 2=0):(x ||| b * 2 ^ t) / 2 ^ q % 2=if q=t then b else x / 2 ^ q % 2:=by
 have key:∀ y:Nat,y / 2 ^ q % 2=(y.testBit q).toNat:=fun y=>by
  rw [Nat.testBit_eq_decide_div_mod_eq]
  rcases Nat.mod_two_eq_zero_or_one (y / 2 ^ q) with h | h <;> simp [h]
 have hx':x.testBit t=false:=by rw [Nat.testBit_eq_decide_div_mod_eq];simp [hx]
 rw [key,key,Nat.testBit_or]
 rcases Nat.lt_or_ge b 1 with h0 | h1
 ·obtain rfl:b=0:=by omega
  rw [Nat.zero_mul,Nat.zero_testBit,Bool.or_false]
  split
  ·rename_i e;subst e;rw [hx'];rfl
  ·rfl
 ·obtain rfl:b=1:=by omega
  rw [Nat.one_mul,Nat.testBit_two_pow]
  by_cases e:q=t
  ·subst e;rw [if_pos rfl];simp
  ·rw [if_neg e]
   have:¬ t=q:=fun e'=>e e'.symm
   simp [this]
theorem or_lt256 (x b t:Nat) (hx:x < 256) (hb:b < 2) (ht:t < 8):x ||| b * 2 ^ t < 256:=by
 have h1:2 ^ t≤2 ^ 7:=Nat.pow_le_pow_right (by decide) (by omega)
 have h2:b * 2 ^ t≤1 * 2 ^ t:=Nat.mul_le_mul_right _ (by omega)
 exact Nat.or_lt_two_pow (n:=8) hx (by omega)
/-- The bytes with room for one bit more. -/
def room (bs:List UInt8) (N:Nat):List UInt8:=if N % 8=0 then bs ++ [0] else bs
theorem room_bit (bs:List UInt8) (N p:Nat):bitAt (room bs N) p=bitAt bs p:=by
 unfold room
 split
 ·unfold bitAt
  congr 2
  rw [List.getD_eq_getElem?_getD,List.getD_eq_getElem?_getD,List.getElem?_append]
  split
  ·rfl
  ·rw [List.getElem?_eq_none (l:=bs) (by omega)]
   cases h:p / 8 - bs.length with
   | zero=>rfl
   | succ k=>simp
 ·rfl
theorem room_len {bs:List UInt8} {L:List Nat} (h:WB bs L):(room bs L.length).length=L.length / 8+1:=by
 have:=h.1
 unfold room
 split
 ·rw [List.length_append];simp;omega
 ·omega
theorem WB.push {bs:List UInt8} {L:List Nat} (h:WB bs L) {b:Nat} (hb:b < 2) {x:UInt8} (hx:(room bs L.length)[L.length / 8]?=some x) :
  WB ((room bs L.length).set (L.length / 8) (UInt8.ofNat (x.toNat ||| b * 2 ^ (L.length % 8)))) (L ++ [b]):=by
 have hl:=room_len h
 refine ⟨?_,fun p=>?_⟩
 ·rw [List.length_set,hl,List.length_append];simp;omega
 ·have hx0:x.toNat / 2 ^ (L.length % 8) % 2=0:=by
   have e:=room_bit bs L.length L.length
   rw [h.2 L.length] at e
   unfold bitAt at e
   rw [List.getD_eq_getElem?_getD,hx] at e
   rw [List.getD_eq_getElem?_getD,List.getElem?_eq_none (Nat.le_refl _)] at e
   exact e
  have hv:(UInt8.ofNat (x.toNat ||| b * 2 ^ (L.length % 8))).toNat=x.toNat ||| b * 2 ^ (L.length % 8):=by
   have:=or_lt256 x.toNat b (L.length % 8) x.toNat_lt hb (Nat.mod_lt _ (by decide))
   simp only [UInt8.toNat_ofNat']
   exact Nat.mod_eq_of_lt this
  by_cases e:p / 8=L.length / 8
  ·unfold bitAt
   rw [List.getD_eq_getElem?_getD,List.getElem?_set,if_pos e.symm,if_pos (by omega)]
   show (UInt8.ofNat _).toNat / 2 ^ (p % 8) % 2=_
   rw [hv,or_place _ _ _ _ hb hx0]
   by_cases e2:p % 8=L.length % 8
   ·obtain rfl:p=L.length:=by omega
    rw [if_pos rfl,List.getD_eq_getElem?_getD,List.getElem?_append_right (Nat.le_refl _),Nat.sub_self]
    rfl
   ·rw [if_neg e2]
    have e3:=room_bit bs L.length p
    rw [h.2 p] at e3
    unfold bitAt at e3
    rw [List.getD_eq_getElem?_getD,e,hx] at e3
    have e4:x.toNat / 2 ^ (p % 8) % 2=L.getD p 0:=e3
    rw [e4,List.getD_eq_getElem?_getD,List.getD_eq_getElem?_getD,List.getElem?_append]
    split
    ·rfl
    ·rename_i hge
     have:¬ p=L.length:=fun e=>e2 (by rw [e])
     rw [List.getElem?_eq_none (l:=L) (by omega)]
     cases hk:p - L.length with
     | zero=>omega
     | succ k=>simp
  ·have e3:=room_bit bs L.length p
   rw [h.2 p] at e3
   have e5:bitAt ((room bs L.length).set (L.length / 8) (UInt8.ofNat (x.toNat ||| b * 2 ^ (L.length % 8)))) p=bitAt (room bs L.length) p:=by
    unfold bitAt
    rw [List.getD_eq_getElem?_getD,List.getD_eq_getElem?_getD,List.getElem?_set,if_neg (fun e'=>e e'.symm)]
   rw [e5,e3,List.getD_eq_getElem?_getD,List.getD_eq_getElem?_getD,List.getElem?_append]
   split
   ·rfl
   ·rename_i hge
    have:¬ p=L.length:=fun e'=>e (by rw [e'])
    rw [List.getElem?_eq_none (l:=L) (by omega)]
    cases hk:p - L.length with
    | zero=>omega
    | succ k=>simp
/-- The first k bits of a number of n bits, the greatest first. -/
def msb (v n:Nat):Nat→List Nat
 | 0=>[]
 | k+1=>msb v n k ++ [v / 2 ^ (n - 1 - k) % 2]
theorem msb_len (v n k:Nat):(msb v n k).length=k:=by
 induction k with
 | zero=>rfl
 | succ k ih=>rw [msb,List.length_append,ih];rfl
theorem msb_get (v n k j:Nat) (h:j < k):(msb v n k)[j]?=some (v / 2 ^ (n - 1 - j) % 2):=by
 induction k with
 | zero=>omega
 | succ k ih =>
  rw [msb]
  by_cases e:j < k
  ·rw [List.getElem?_append_left (by rw [msb_len];exact e)];exact ih e
  ·obtain rfl:j=k:=by omega
   rw [List.getElem?_append_right (by rw [msb_len];exact Nat.le_refl _),msb_len,Nat.sub_self]
   rfl
/-- The bits of a place's code. -/
def codeB (ls:List Int) (p:Nat):List Nat:=msb (codeAt ls p).1 (codeAt ls p).2.toNat (codeAt ls p).2.toNat
theorem fst_step2 (ls:List Int) {a b:Nat} (h:a < b):(fst ls a+cz ls a) * 2 ^ (b - a)≤fst ls b:=by
 induction b with
 | zero=>omega
 | succ b ih =>
  rw [fst]
  rcases Nat.lt_or_ge a b with h1 | h1
  ·have:=ih h1
   rw [show b+1 - a=(b - a)+1 by omega,Nat.pow_succ,← Nat.mul_assoc]
   omega
  ·obtain rfl:a=b:=by omega
   rw [show a+1 - a=1 by omega]
   omega
theorem hit_less {ls:List Int} {t v p:Nat} (h0:1≤t) (h:Hit ls t v p) {a:Nat} (ha:1≤a) (hat:a < t):∀ q,¬ Hit ls a (v / 2 ^ (t - a)) q:=by
 intro q hq
 have h1:=(hit_bound ha hq).2
 have h2:=fst_step2 ls hat
 have h3:=(hit_bound h0 h).1
 have h4:fst ls a+cz ls a≤v / 2 ^ (t - a):=(Nat.le_div_iff_mul_le (Nat.two_pow_pos _)).2 (by omega)
 omega
/-- A code that stands in the bits is read. -/
theorem nx_code {ls:List Int} {bs:List UInt8} {t v p P:Nat} (h0:1≤t) (ht:t≤15) (hv:v < 2 ^ t) (h:Hit ls t v p) (hP:P+t≤8 * bs.length) (hb:∀ j,j < t→bitAt bs (P+j)=v / 2 ^ (t - 1 - j) % 2) :
  nx ls bs 15 1 0 P=((p:Int),0,P+t):=by
 have key:∀ d j,j+d+1=t→nx ls bs (15 - j) (j+1) (v / 2 ^ (t - j)) (P+j)=((p:Int),0,P+t):=by
  intro d
  induction d with
  | zero =>
   intro j hj
   obtain rfl:t=j+1:=by omega
   have e:v / 2 ^ (j+1 - j) * 2+bitAt bs (P+j)=v:=by
    rw [hb j (by omega),show j+1 - j=1 by omega,show j+1 - 1 - j=0 by omega,Nat.pow_one,Nat.pow_zero,Nat.div_one]
    omega
   have hh:hitN ls (j+1) (v / 2 ^ (j+1 - j) * 2+bitAt bs (P+j))=some p:=by rw [e];exact hit_some h
   rw [show 15 - j=(14 - j)+1 by omega,nx_hit (by omega) hh,Nat.add_assoc]
  | succ d ih =>
   intro j hj
   have e:v / 2 ^ (t - j) * 2+bitAt bs (P+j)=v / 2 ^ (t - (j+1)):=by
    rw [hb j (by omega),show t - 1 - j=t - (j+1) by omega,show t - j=(t - (j+1))+1 by omega,Nat.pow_succ,← Nat.div_div_eq_div_mul]
    omega
   have hh:hitN ls (j+1) (v / 2 ^ (t - j) * 2+bitAt bs (P+j))=none:=by rw [e];exact hit_none (hit_less h0 h (by omega) (by omega))
   rw [show 15 - j=(15 - (j+1))+1 by omega,nx_on (by omega) hh,e]
   have:=ih (j+1) (by omega)
   rw [show P+(j+1)=P+j+1 by omega] at this
   exact this
 have:=key (t - 1) 0 (by omega)
 rw [show v / 2 ^ (t - 0)=0 from Nat.div_eq_of_lt hv] at this
 exact this
end Go.Proofs.YtebbdifhiihfkaaGreatDoor

/- Writers of bits. -/
namespace Go.Proofs.YtebbdifhiihfkaaGreatDoor
set_option linter.all false
open Go.RowKit
/-- What a writer changes: its block, its row, new blocks. -/
structure WrFr (w w':World) (g:Nat) (pv pv':Value):Prop where
 os:w'.os=w.os
 tape:w'.tape=w.tape
 output:w'.output=w.output
 size:w.heap.size≤w'.heap.size
 block:∀ k,k < w.heap.size→k ≠ g→pv.ownBlock ≠ some k→w'.heap[k]?=w.heap[k]?
 own:pv'.ownBlock=pv.ownBlock∨∃ k,w.heap.size≤k∧pv'.ownBlock=some k
section
variable {w w' w'' : World} {g : Nat} {pv pv' pv'' : Value}
theorem WrFr.refl (w:World) (g:Nat) (pv:Value):WrFr w w g pv pv:=⟨rfl,rfl,rfl,Nat.le_refl _,fun _ _ _ _=>rfl,.inl rfl⟩
theorem WrFr.trans (h:WrFr w w' g pv pv') (k:WrFr w' w'' g pv' pv''):WrFr w w'' g pv pv'':=by
 refine ⟨k.os.trans h.os,k.tape.trans h.tape,k.output.trans h.output,Nat.le_trans h.size k.size,fun i hi hg hp=>?_,?_⟩
 ·refine (k.block i (Nat.lt_of_lt_of_le hi h.size) hg ?_).trans (h.block i hi hg hp)
  rcases h.own with e | ⟨j,hj,e⟩
  ·rw [e];exact hp
  ·rw [e];intro e2;injection e2 with e2;omega
 ·rcases k.own with e | ⟨j,hj,e⟩
  ·rcases h.own with e2 | ⟨j,hj,e2⟩
   ·exact .inl (e.trans e2)
   ·exact .inr ⟨j,hj,e.trans e2⟩
  ·exact .inr ⟨j,Nat.le_trans h.size hj,e⟩
theorem WrFr.setg (h:WrFr w w' g pv pv') (i:Nat) (v:Value):WrFr w (w'.setCell ⟨g,i,none⟩ v) g pv pv' :=
 ⟨h.os,h.tape,h.output,by simp;exact h.size,fun k hk hg hp=>(Below.heap_setCell _ _ _ _ (fun e=>hg e)).trans (h.block k hk hg hp),h.own⟩
theorem WrFr.setr {ga m c:Nat} (h:WrFr w w' g pv (.slice (some ⟨ga,0,none⟩) m c)) (i:Nat) (v:Value):WrFr w (w'.setCell ⟨ga,i,none⟩ v) g pv (.slice (some ⟨ga,0,none⟩) m c):=by
 refine ⟨h.os,h.tape,h.output,by simp;exact h.size,fun k hk hg hp=>?_,h.own⟩
 refine (Below.heap_setCell _ _ _ _ (fun e0:k=ga=>?_)).trans (h.block k hk hg hp)
 subst e0
 rcases h.own with e | ⟨j,hj,e⟩
 ·exact hp e.symm
 ·have e2:some k=some j:=e
  injection e2 with e2
  omega
theorem and_one32 (v:Nat) (hv:v < 4294967296):bits .and .u32 (v:Int) 1=((v % 2:Nat):Int):=by
 rw [show (1:Int)=((1:Nat):Int) from rfl,u32_and_nat _ _ hv (by decide),Nat.and_one_is_mod]
/-- What a bit put into a byte gives. -/
theorem one_val (x:UInt8) (v t:Nat) (hv:v < 4294967296) (ht:t < 8) :
  bits .or .u8 (x.toNat:Int) (bits .and .u32 (v:Int) 1 % 256 * 2 ^ t % 256)=((UInt8.ofNat (x.toNat ||| v % 2 * 2 ^ t)).toNat:Int):=by
 have hb:v % 2 < 2:=Nat.mod_lt _ (by decide)
 have e0:bits .and .u32 (v:Int) 1=((v % 2:Nat):Int):=by
  rw [show (1:Int)=((1:Nat):Int) from rfl,u32_and_nat _ _ hv (by decide),Nat.and_one_is_mod]
 have hx:=x.toNat_lt
 have h256:=or_lt256 x.toNat (v % 2) t hx hb ht
 rw [e0]
 generalize v % 2=b at *
 have h1:2 ^ t≤2 ^ 7:=Nat.pow_le_pow_right (by decide) (by omega)
 have h2:b * 2 ^ t≤1 * 2 ^ t:=Nat.mul_le_mul_right _ (by omega)
 have e1:(b:Int) % 256=b:=Int.emod_eq_of_lt (by omega) (by omega)
 have e2:(b:Int) * 2 ^ t=((b * 2 ^ t:Nat):Int):=by push_cast;rfl
 rw [e1,e2]
 generalize b * 2 ^ t=u at *
 rw [Int.emod_eq_of_lt (by omega) (by omega),u8_or_nat _ _ hx (by omega)]
 simp only [UInt8.toNat_ofNat']
 rw [Nat.mod_eq_of_lt h256]
theorem WrFr.drew (h:WrFr w w' g pv pv'):WrFr w w'.drew g pv pv':=⟨h.os,h.tape,h.output,h.size,h.block,h.own⟩
theorem WrFr.grown {pv2:Value} (o:Obj) (h:(w.alloc o).grownBy w' pv.ownBlock) (hat:pv2.ownBlock=pv.ownBlock∨pv2.ownBlock=some (w.alloc o).heap.size):WrFr w w' g pv pv2:=by
 refine ⟨h.os,h.tape,h.output,Nat.le_trans (by simp) h.size,fun k hk _ hp=>?_,?_⟩
 ·exact (h.block k (by simp;omega) (fun e=>hp e.symm)).trans (heap_alloc_old w o hk)
 ·rcases hat with e | e
  ·exact .inl e
  ·exact .inr ⟨_,by simp,e⟩
theorem WrFr.below {B:Nat} (h:WrFr w w' g pv pv') (hB:B≤w.heap.size) (hg:B≤g) (hp:∀ k,pv.ownBlock=some k→B≤k):Below B w w' :=
 ⟨h.os,h.tape,h.output,h.size,fun k hk=>h.block k (by omega) (by omega) (fun e=>by have:=hp k e;omega)⟩
end
theorem ownB.at0 {w:World} {base n c:Nat} {A:Option Addr} {bs:List UInt8} (h:ownB w base (.slice A n c) bs) (hn:0 < n):n=bs.length∧∃ g,A=some ⟨g,0,none⟩∧base≤g∧g < w.heap.size:=by
 rcases h.2 with ⟨h',_⟩ | ⟨g,cap,cur,h',hb,hg,_⟩
 ·injection h' with _ h2;omega
 ·injection h' with h1 h2
  exact ⟨h2,g,h1,hb,(World.ownsRow.lt h g (by rw [h1];rfl)).2⟩
set_option maxRecDepth 100000 in
set_option maxHeartbeats 3200000 in
theorem one_any (g N v:Nat) (pv:Value) (bs:List UInt8) (L:List Nat) (w:World) (hA:Arr w g [pv,.int .i64 (N:Int)]) (ho:ownB w (g+1) pv bs) (hW:WB bs L) (hN:L.length=N) (hb:N≤1000000) (hv:v < 4294967296) :
  Calls Tryz.prog 182 #[.pointer (some ⟨g,0,none⟩),.int .u32 (v:Int)] w fun e w'=>e=.returned (.tuple #[])∧∃ pv' bs',Arr w' g [pv',.int .i64 ((N+1:Nat):Int)]∧ownB w' (g+1) pv' bs'∧WB bs' (L ++ [v % 2])∧WrFr w w' g pv pv':=by
 obtain ⟨Ap,cp,rfl,-,-,-⟩:=ho.form
 have HA:=Lib.hid hA
 have HO:=Lib.hid ho
 have HW:=Lib.hid hW
 have hRL:=room_len hW
 rw [hN] at hRL
 have HRL:=Lib.hid hRL
 have HPU:=Lib.hid (fun x hx=>WB.push hW (b:=v % 2) (Nat.mod_lt _ (by decide)) (x:=x) hx)
 rw [hN] at HPU
 have hsg:=hA.lt
 have hbl0:bs.length≤200000:=by have:=hW.1;omega
 have c0:=hA.cell (k:=0) rfl
 have c1:=hA.cell (k:=1) rfl
 clear hA ho hW
 have hq1:(N:Int).tdiv 8=((N / 8:Nat):Int):=rfl
 have hq2:(N:Int).tmod 8=((N % 8:Nat):Int):=rfl
 have ht:N % 8 < 8:=Nat.mod_lt _ (by decide)
 by_cases h8:N % 8=0
 ·have d8:((N:Int) % 8 == 0)=true:=by simp;omega
  have HRO:Hid (room bs N=bs ++ [0]):=(show _=_ by unfold room;rw [if_pos h8])
  go_enter Tryz.func182,Tryz.ntmps182
  go_upto_region 2 with (at_builtin;go_must (refine wpList_appendB rfl (.tmp 14) (.tmp 15) rfl (g+1) _ bs rfl (ownB.alloc HO.out _) (w.heap.size+1) 1 1 (some ⟨w.heap.size,0,none⟩) [0] rfl (rd_one w 0 0 rfl) (by omega) (by simp;omega) ?_;intro v1 w3 hown hgb hbl hat;obtain ⟨A3,c3,rfl,hr3,-,-⟩:=hown.form;have HF3:=Lib.hid (show WrFr w w3 g (.slice Ap bs.length cp) (.slice A3 (bs ++ [(0:UInt8)]).length c3) from WrFr.grown (g:=g) _ hgb hat);rw [show (bs ++ [(0:UInt8)]).length=bs.length+1 by simp] at hown HF3 ⊢;have HA3:=Lib.hid ((HA.out.alloc (.cells #[.int .u8 0] 5)).blw hbl (Nat.lt_succ_self g));have HO3:=Lib.hid hown;have c48:=HA3.out.cell (k:=0) rfl;have f48:=HA3.out.frozen 0;clear hown hbl hat hr3 HA HO hgb))
  obtain ⟨hml,ga,rfl,hga,hga2⟩:=ownB.at0 HO3.out (by omega)
  have HA:=Lib.hid (HA3.out.set 0 (.slice (some ⟨ga,0,none⟩) (bs.length+1) c3))
  have HO:=Lib.hid (ownB.far HO3.out (g:=g) (ownB_ne HO3.out (Nat.lt_succ_self g)) 0 (.slice (some ⟨ga,0,none⟩) (bs.length+1) c3))
  have HF:=Lib.hid (HF3.out.setg 0 (.slice (some ⟨ga,0,none⟩) (bs.length+1) c3))
  have HRB:=Lib.hid HRO.out
  rw [← HRO.out] at hml HO
  clear HA3 HO3 HF3 c48 f48 c0 c1
  generalize w3.setCell ⟨g,0,none⟩ (.slice (some ⟨ga,0,none⟩) (bs.length+1) c3)=wq at *
  obtain ⟨m,hm⟩:∃ m,bs.length+1=m:=⟨_,rfl⟩
  rw [hm] at hml HO HF HA
  simp only [hm]
  have HRB:Hid (room bs N=room bs N):=(show _=_ from rfl)
  have hne:¬ g=ga:=by omega
  have hne2:¬ ga=g:=by omega
  have hm8:N / 8 < m:=by omega
  obtain ⟨x,HX,cx⟩:=HO.out.byte hml (k:=N / 8) hm8
  have fx:=HO.out.frozen hml (N / 8)
  have c0:=HA.out.cell (k:=0) rfl
  have c1:=HA.out.cell (k:=1) rfl
  have f1:=HA.out.frozen 1
  have HVL:=Lib.hid (one_val x v (N % 8) hv ht)
  have HWN:=Lib.hid (HPU.out x (by rw [HRB.out];exact HX.out))
  rw [HRB.out] at HWN
  obtain ⟨y,hy⟩:∃ y:UInt8,UInt8.ofNat (x.toNat ||| v % 2 * 2 ^ (N % 8))=y:=⟨_,rfl⟩
  rw [hy] at HVL HWN
  have HOS:=Lib.hid (ownB.far (ownB.store HO.out hml (N / 8) y) (g:=g) (ownB_ne (ownB.store HO.out hml (N / 8) y) (Nat.lt_succ_self g)) 1 (.int .i64 ((N:Int)+1))).drew
  have HAS:=Lib.hid ((HA.out.far (p:=⟨ga,N / 8,none⟩) hne2 (.int .u8 (y.toNat:Int))).set 1 (.int .i64 ((N:Int)+1))).drew
  have HFS:=Lib.hid ((HF.out.setr (N / 8) (.int .u8 (y.toNat:Int))).setg 1 (.int .i64 ((N:Int)+1))).drew
  clear HO HA HF HX HPU hy
  have hvv:=HVL.out
  have eb:bits .and .u32 (v:Int) 1=((v % 2:Nat):Int):=and_one32 v hv
  rw [eb] at hvv
  have hb2:v % 2 < 2:=Nat.mod_lt _ (by decide)
  obtain ⟨s,hs,hs2⟩:∃ s:Nat,s < 256∧(((v % 2:Nat):Int) % 256 * 2 ^ (N % 8) % 256)=(s:Int):=by
   refine ⟨(((v % 2:Nat):Int) % 256 * 2 ^ (N % 8) % 256).toNat,?_,?_⟩ <;> omega
  rw [hs2] at hvv
  have HY:Hid (y.toNat < 256):=y.toNat_lt
  generalize y.toNat=yn at *
  generalize hbv:v % 2=b at *
  have HBV:=Lib.hid hbv
  clear hbv
  have eb2:(b:Int) % 256=b:=Int.emod_eq_of_lt (by omega) (by omega)
  rw [eb2] at hs2
  generalize hq:N / 8=q at *
  generalize htt:N % 8=t at *
  have hqI:(N:Int) / 8=(q:Int):=by omega
  have htI:(N:Int) % 8=(t:Int):=by omega
  have wq1:IntKind.i64.wrap (q:Int)=(q:Int):=wrap_i64_lt q (by omega)
  have wt1:IntKind.i64.wrap (t:Int)=(t:Int):=wrap_i64_lt t (by omega)
  have wb1:IntKind.u8.wrap (b:Int)=(b:Int):=by simp [IntKind.wrap,IntKind.bits,IntKind.signed];omega
  have ws1:IntKind.u8.wrap ((b:Int) * 2 ^ t)=(s:Int):=by rw [← hs2];simp [IntKind.wrap,IntKind.bits,IntKind.signed]
  have wb3:IntKind.u8.wrap (s:Int)=(s:Int):=by simp [IntKind.wrap,IntKind.bits,IntKind.signed];omega
  have hqm:(q:Int) < (m:Int):=by omega
  have hqm2:q < m:=by omega
  clear HVL HRL hm8 hRL hs2 hbl0
  try clear hml
  try (have HMM:=Lib.hid hm;clear hm)
  try clear h8
  try clear d8
  try clear hq htt
  go_wp2_with fail
  go_region_law (fail)
  all_goals
   go_simp
   go_wp2_with fail
   go_end0
   exact ⟨rfl,_,_,HAS.out,HOS.out,(by rw [HBV.out];exact HWN.out),(by first | exact HFS.out | (rw [HMM.out];exact HFS.out))⟩
 ·have d8:((N:Int) % 8 == 0)=false:=beq_eq_false_iff_ne.2 (by omega)
  have HRB:Hid (room bs N=bs):=(show _=_ by unfold room;rw [if_neg h8])
  have hml:bs.length=bs.length:=rfl
  rw [HRB.out] at hRL
  obtain ⟨-,ga,rfl,hga,hga2⟩:=ownB.at0 HO.out (by omega)
  have HF:=Lib.hid (WrFr.refl w g (.slice (some ⟨ga,0,none⟩) bs.length cp))
  obtain ⟨m,hm⟩:∃ m,bs.length=m:=⟨_,rfl⟩
  have hml:m=bs.length:=hm.symm
  rw [hm] at HO HA HF c0 hRL hbl0
  go_enter Tryz.func182,Tryz.ntmps182
  go_upto_region 2 with (fail)
  have hne:¬ g=ga:=by omega
  have hne2:¬ ga=g:=by omega
  have hm8:N / 8 < m:=by omega
  obtain ⟨x,HX,cx⟩:=HO.out.byte hml (k:=N / 8) hm8
  have fx:=HO.out.frozen hml (N / 8)
  have f1:=HA.out.frozen 1
  have HVL:=Lib.hid (one_val x v (N % 8) hv ht)
  have HWN:=Lib.hid (HPU.out x (by rw [HRB.out];exact HX.out))
  rw [HRB.out] at HWN
  obtain ⟨y,hy⟩:∃ y:UInt8,UInt8.ofNat (x.toNat ||| v % 2 * 2 ^ (N % 8))=y:=⟨_,rfl⟩
  rw [hy] at HVL HWN
  have HOS:=Lib.hid (ownB.far (ownB.store HO.out hml (N / 8) y) (g:=g) (ownB_ne (ownB.store HO.out hml (N / 8) y) (Nat.lt_succ_self g)) 1 (.int .i64 ((N:Int)+1))).drew
  have HAS:=Lib.hid ((HA.out.far (p:=⟨ga,N / 8,none⟩) hne2 (.int .u8 (y.toNat:Int))).set 1 (.int .i64 ((N:Int)+1))).drew
  have HFS:=Lib.hid ((HF.out.setr (N / 8) (.int .u8 (y.toNat:Int))).setg 1 (.int .i64 ((N:Int)+1))).drew
  clear HO HA HF HX HPU hy
  have hvv:=HVL.out
  have eb:bits .and .u32 (v:Int) 1=((v % 2:Nat):Int):=and_one32 v hv
  rw [eb] at hvv
  have hb2:v % 2 < 2:=Nat.mod_lt _ (by decide)
  obtain ⟨s,hs,hs2⟩:∃ s:Nat,s < 256∧(((v % 2:Nat):Int) % 256 * 2 ^ (N % 8) % 256)=(s:Int):=by
   refine ⟨(((v % 2:Nat):Int) % 256 * 2 ^ (N % 8) % 256).toNat,?_,?_⟩ <;> omega
  rw [hs2] at hvv
  have HY:Hid (y.toNat < 256):=y.toNat_lt
  generalize y.toNat=yn at *
  generalize hbv:v % 2=b at *
  have HBV:=Lib.hid hbv
  clear hbv
  have eb2:(b:Int) % 256=b:=Int.emod_eq_of_lt (by omega) (by omega)
  rw [eb2] at hs2
  generalize hq:N / 8=q at *
  generalize htt:N % 8=t at *
  have hqI:(N:Int) / 8=(q:Int):=by omega
  have htI:(N:Int) % 8=(t:Int):=by omega
  have wq1:IntKind.i64.wrap (q:Int)=(q:Int):=wrap_i64_lt q (by omega)
  have wt1:IntKind.i64.wrap (t:Int)=(t:Int):=wrap_i64_lt t (by omega)
  have wb1:IntKind.u8.wrap (b:Int)=(b:Int):=by simp [IntKind.wrap,IntKind.bits,IntKind.signed];omega
  have ws1:IntKind.u8.wrap ((b:Int) * 2 ^ t)=(s:Int):=by rw [← hs2];simp [IntKind.wrap,IntKind.bits,IntKind.signed]
  have wb3:IntKind.u8.wrap (s:Int)=(s:Int):=by simp [IntKind.wrap,IntKind.bits,IntKind.signed];omega
  have hqm:(q:Int) < (m:Int):=by omega
  have hqm2:q < m:=by omega
  clear HVL HRL hm8 hRL hs2 hbl0
  try clear hml
  try (have HMM:=Lib.hid hm;clear hm)
  try clear h8
  try clear d8
  try clear hq htt
  go_wp2_with fail
  go_region_law (fail)
  all_goals
   go_simp
   go_wp2_with fail
   go_end0
   exact ⟨rfl,_,_,HAS.out,HOS.out,(by rw [HBV.out];exact HWN.out),(by first | exact HFS.out | (rw [HMM.out];exact HFS.out))⟩
end Go.Proofs.YtebbdifhiihfkaaGreatDoor

/- Writers of bits: a code put. -/
namespace Go.Proofs.YtebbdifhiihfkaaGreatDoor
set_option linter.all false
open Go.RowKit
/-- A writer that holds bits. -/
def Wr (w:World) (g:Nat) (pv:Value) (bs:List UInt8) (L:List Nat):Prop:=Arr w g [pv,.int .i64 ((L.length:Nat):Int)]∧ownB w (g+1) pv bs∧WB bs L
theorem wrongBits_any (v m:Nat) (w:World) (hm:m≤24) (hv:v < 2 ^ m):Calls Tryz.prog 181 #[.int .u32 (v:Int),.int .i64 (m:Int)] w fun e w'=>e=.returned (.bool false)∧w=w':=by
 have e1:decide ((m:Int) < 0)=false:=decide_eq_false (by omega)
 have e2:decide ((m:Int) > 24)=false:=decide_eq_false (by omega)
 have e3:(v:Int) / 2 ^ m=0:=by
  rw [show ((2:Int) ^ m)=((2 ^ m:Nat):Int) by push_cast;rfl,← Int.natCast_ediv,Nat.div_eq_of_lt hv]
  rfl
 clear hv
 go_enter Tryz.func181,Tryz.ntmps181
 go_wp2_with fail
 go_ret
 exact ⟨rfl,rfl⟩
theorem newWriter_any (w:World):Calls Tryz.prog 146 #[] w fun e w'=>e=.returned (.pointer (some ⟨w.heap.size,0,none⟩))∧Wr w' w.heap.size (.slice none 0 0) [] []∧Below w.heap.size w w'∧w.heap.size < w'.heap.size:=by
 go_enter Tryz.func146,Tryz.ntmps146
 go_wp2_with fail
 go_ret
 exact ⟨rfl,⟨Arr.new w [.slice none 0 0,.int .i64 0] _,ownB.nil_ _ _,WB.nil⟩,(Below.refl _ _).alloc (Nat.le_refl _) _,by simp⟩
set_option maxRecDepth 100000 in
set_option maxHeartbeats 3200000 in
theorem code_any (g v m:Nat) (pv:Value) (bs:List UInt8) (L:List Nat) (w:World) (h:Wr w g pv bs L) (hb:L.length+m≤1000000) (hm:m≤24) (hv:v < 2 ^ m) :
  Calls Tryz.prog 169 #[.pointer (some ⟨g,0,none⟩),.int .u32 (v:Int),.int .i64 (m:Int)] w fun e w'=>e=.returned (.int .i64 0)∧∃ pv' bs',Wr w' g pv' bs' (L ++ msb v m m)∧WrFr w w' g pv pv':=by
 have HWG:=Lib.hid (fun w=>wrongBits_any v m w hm hv)
 have HW:=Lib.hid h
 have hv24:v < 16777216:=Nat.lt_of_lt_of_le hv (Nat.pow_le_pow_right (by decide) hm)
 have HM:Hid (L ++ msb v m 0=L):=(show _=_ by simp [msb])
 clear h hv
 go_enter Tryz.func169,Tryz.ntmps169
 go_wp2_with (go_at_call 181;(with_reducible refine (HWG.out _).mono ?_);go_must (rintro e w1 ⟨rfl,rfl⟩))
 go_loopw [12] (fun vi wr=>∃ k:Nat,k≤m∧vi=.int .i64 k∧∃ pq bq,Hid (Wr wr g pq bq (L ++ msb v m k))∧Hid (WrFr w wr g pv pq)) (fun vi _=>m - (intOf vi).toNat)
 case atStart=>exact ⟨0,Nat.zero_le _,rfl,pv,bs,(show Wr _ _ _ _ _ by rw [HM.out];exact HW.out),WrFr.refl _ _ _⟩
 case round =>
  clear HW HM
  obtain ⟨k,hk,rfl,pq,bq,HW,HF⟩:=hrel
  by_cases hlt:k < m
  ·obtain ⟨d,hd⟩:∃ d,m - 1 - k=d:=⟨_,rfl⟩
   have hdI:(m:Int) - 1 - (k:Int)=(d:Int):=by omega
   have hlen:(L ++ msb v m k).length=L.length+k:=by rw [List.length_append,msb_len]
   have hdv:v / 2 ^ d < 4294967296:=Nat.lt_of_le_of_lt (Nat.div_le_self _ _) (by omega)
   have HC:=Lib.hid (one_any g (L ++ msb v m k).length (v / 2 ^ d) pq bq _ wr HW.out.1 HW.out.2.1 HW.out.2.2 rfl (by omega) hdv)
   have HST:Hid (L ++ msb v m k ++ [v / 2 ^ d % 2]=L ++ msb v m (k+1)):=(show _=_ by rw [msb,hd,List.append_assoc])
   have HLN:Hid ((((L ++ msb v m k).length+1:Nat):Int)=(((L ++ msb v m (k+1)).length:Nat):Int)):=(show _=_ by rw [← HST.out];congr 1;simp;omega)
   rw [HST.out,HLN.out] at HC
   have hdvI:(v:Int) / 2 ^ d=((v / 2 ^ d:Nat):Int):=by rw [show ((2:Int) ^ d)=((2 ^ d:Nat):Int) by push_cast;rfl,← Int.natCast_ediv]
   generalize v / 2 ^ d=u at *
   clear hlen hd HST HLN
   go_wp2_with (go_at_call 182;(with_reducible refine HC.out.mono ?_);go_must (rintro e w5 ⟨rfl,pv5,bs5,hA5,hO5,hW5,hF5⟩;have HF5:=Lib.hid (HF.out.trans hF5);have HW5:Hid (Wr w5 g pv5 bs5 (L ++ msb v m (k+1))):=⟨hA5,hO5,hW5⟩;clear hA5 hO5 hW5 hF5))
   go_roundw
   case rel=>exact ⟨k+1,by omega,by go_num,pv5,bs5,HW5,HF5⟩
   case measure=>simp [intOf];omega
  ·obtain rfl:k=m:=by omega
   go_wp2_with fail
   go_ret
   exact ⟨rfl,pq,bq,HW.out,HF.out⟩
end Go.Proofs.YtebbdifhiihfkaaGreatDoor

/- aquref: lists of numbers held against one another, copied. -/
namespace Go.Proofs.YtebbdifhiihfkaaGreatDoor
set_option linter.all false
open Go.RowKit
end Go.Proofs.YtebbdifhiihfkaaGreatDoor

/- huff: what the chapter's examples fix. -/
namespace Go.Proofs.YtebbdifhiihfkaaGreatDoor
set_option linter.all false
open Go.RowKit
end Go.Proofs.YtebbdifhiihfkaaGreatDoor

/- The document's decoders. -/
namespace Go.Proofs.YtebbdifhiihfkaaGreatDoor
set_option linter.all false
open Go.RowKit
theorem codesL_len (ls:List Int):(codesL ls).length=ls.length:=by simp [codesL]
end Go.Proofs.YtebbdifhiihfkaaGreatDoor

/- HuffReads: any lengths, any bytes: what is read, up to the first error. -/
namespace Go.Proofs.YtebbdifhiihfkaaGreatDoor
set_option linter.all false
open Go.RowKit
theorem cloneB2_any (B n c:Nat) (A:Option Addr) (bs:List UInt8) (w:World) (h:RdB w B A n bs) (hm:n≤1099511627776) :
  Calls Tryz.prog 49 #[.slice A n c] w fun e w'=>∃ v,e=.returned v∧ownB w' w.heap.size v bs∧Below w.heap.size w w':=by
 have kn:=fun w=>Go.run_eql_slice_nil (P:=Tryz.prog) w 22 _ A n c Tryz.underlying22
 cases A with
 | none =>
  have h0:bs=[]:=by
   cases bs with
   | nil=>rfl
   | cons x l=>have h2:=h.len;obtain ⟨b,o,e,_⟩:=h.at_ (by rw [← h2];simp);cases e
  subst h0
  have hn:n=0:=by have:=h.len;simpa using this.symm
  subst hn
  go_enter Tryz.func49,Tryz.ntmps49
  go_wp2
  go_ret
  exact ⟨_,rfl,ownB.nil_ _ _,Below.refl _ _⟩
 | some a =>
  go_enter Tryz.func49,Tryz.ntmps49
  go_wp2_with (at_builtin;go_loud (refine wpList_appendB rfl (.tmp 5) (.tmp 6) rfl w.heap.size _ [] rfl (own_lit w [] (by simp)) w.heap.size n c (some a) bs rfl (Rd.alloc (Rd.here h) (Nat.le_refl _) _) (by simp;omega) (by simp) ?_);intro v1 w1 hown hg hb hat)
  go_ret
  exact ⟨_,rfl,hown,((Below.refl w.heap.size w).alloc (Nat.le_refl _) _).trans (hb)⟩
theorem newReader_any (B n c:Nat) (A:Option Addr) (bs:List UInt8) (w:World) (h:RdB w B A n bs) (hm:n≤1099511627776) :
  Calls Tryz.prog 100 #[.slice A n c] w fun e w'=>∃ g A' c',e=.returned (.pointer (some ⟨g,0,none⟩))∧w.heap.size≤g∧g < w'.heap.size∧Arr w' g (rdr A' n c' 0)∧RdB w' g A' n bs∧Below w.heap.size w w':=by
 have HC:=Lib.hid (cloneB2_any B n c A bs w h hm)
 have hl:=h.len
 clear h
 go_enter Tryz.func100,Tryz.ntmps100
 go_wp2_with (go_at_call 49;(with_reducible refine HC.out.mono ?_);go_must (rintro e w1 ⟨v,rfl,ho,hb⟩;obtain ⟨A1,c1,rfl,hr,-,-⟩:=ho.form;rw [hl] at hr ⊢;have HR:=Lib.hid hr;have HB:=Lib.hid hb;clear ho hr hb))
 go_ret
 exact ⟨_,A1,c1,rfl,HB.out.size,by simp,Arr.new w1 (rdr A1 n c1 0) _,Rd.alloc HR.out (Nat.le_refl _) _,HB.out.alloc HB.out.size _⟩
theorem at_any (g P:Nat) (w:World) (h:w.cell? ⟨g,1,none⟩=some (.int .i64 (P:Int))) :
  Calls Tryz.prog 106 #[.pointer (some ⟨g,0,none⟩)] w fun e w'=>e=.returned (.int .i64 (P:Int))∧w=w':=by
 go_enter Tryz.func106,Tryz.ntmps106
 go_wp2_with fail
 go_ret
 exact ⟨rfl,rfl⟩
end Go.Proofs.YtebbdifhiihfkaaGreatDoor

/- HuffBack: places written and read, plainly. -/
namespace Go.Proofs.YtebbdifhiihfkaaGreatDoor
set_option linter.all false
open Go.RowKit
theorem codeB_at {ls:List Int} {p t:Nat} (hp:ls[p]?=some (t:Int)) (h0:0 < t):codeB ls p=msb (fst ls t+cnt (ls.take p) t) t t:=by
 unfold codeB
 rw [codeAt_pos hp h0]
 rfl
theorem wbytes_any (g:Nat) (pv:Value) (bs:List UInt8) (L:List Nat) (w:World) (h:Wr w g pv bs L) (hb:L.length≤1000000) :
  Calls Tryz.prog 125 #[.pointer (some ⟨g,0,none⟩)] w fun e w'=>∃ v,e=.returned v∧ownB w' w.heap.size v bs∧Below w.heap.size w w':=by
 obtain ⟨h1,h2,h3⟩:=h
 obtain ⟨A,c,rfl,hr,-,-⟩:=h2.form
 have c0:=h1.cell (k:=0) rfl
 have HC:=Lib.hid (cloneB2_any w.heap.size bs.length c A bs w hr (by have:=h3.1;omega))
 clear h1 h2 h3 hr
 go_enter Tryz.func125,Tryz.ntmps125
 go_wp2_with (go_at_call 49;(with_reducible refine HC.out.mono ?_);go_must (rintro e w1 ⟨v,rfl,ho,hb⟩))
 go_ret
 exact ⟨_,rfl,ho,hb⟩
theorem Wr.drew {w:World} {g:Nat} {pv:Value} {bs:List UInt8} {L:List Nat} (h:Wr w g pv bs L):Wr w.drew g pv bs L:=⟨h.1.drew,h.2.1.drew,h.2.2⟩
theorem Wr.drewN {w:World} {g:Nat} {pv:Value} {bs:List UInt8} {L:List Nat} (h:Wr w g pv bs L) (q:Nat):Wr (w.drewN q) g pv bs L:=⟨h.1.drewN q,h.2.1.drewN q,h.2.2⟩
/-- Two rows in unlike blocks. -/
def Dis (a b:Value):Prop:=∀ k,a.ownBlock=some k→b.ownBlock ≠ some k
theorem ownI.same {w w':World} {base:Nat} {v:Value} {l:List Int} (h:ownI w base v l) (hb:∀ k,v.ownBlock=some k→w'.heap[k]?=w.heap[k]?):ownI w' base v l:=by
 refine ⟨h.1,?_⟩
 rcases h.2 with hn | ⟨g,cap,cur,rfl,hbg,hg,rest⟩
 ·exact .inl hn
 ·exact .inr ⟨g,cap,cur,rfl,hbg,(hb g rfl).trans hg,rest⟩
theorem ownI.wr {w w':World} {g:Nat} {pv pv' v:Value} {l:List Int} (h:ownI w (g+1) v l) (hf:WrFr w w' g pv pv') (hd:Dis pv v):ownI w' (g+1) v l :=
 h.same fun k hk=>hf.block k (World.ownsRow.lt h k hk).2 (by have:=(World.ownsRow.lt h k hk).1;omega) (fun e=>hd k e hk)
theorem Dis.wr {w w':World} {g:Nat} {pv pv' v:Value} {l:List Int} (h:ownI w (g+1) v l) (hf:WrFr w w' g pv pv') (hd:Dis pv v):Dis pv' v:=by
 intro k hk hv
 rcases hf.own with e | ⟨j,hj,e⟩
 ·exact hd k (e.symm.trans hk) hv
 ·rw [e] at hk
  injection hk with hk
  have:=(World.ownsRow.lt h k hv).2
  omega
/-- The writer while another row grows. -/
theorem Wr.gro {w w':World} {g:Nat} {pv v:Value} {bs:List UInt8} {L:List Nat} {l:List Int} (o:Obj) (h:Wr w g pv bs L) (hv:ownI w (g+1) v l) (hd:Dis pv v) (hg:(w.alloc o).grownBy w' v.ownBlock):Wr w' g pv bs L:=by
 obtain ⟨h1,h2,h3⟩:=h
 refine ⟨?_,?_,h3⟩
 ·have hl:=(h1.alloc o).lt
  obtain ⟨t,h1⟩:=h1.alloc o
  exact ⟨t,(hg.block g hl (fun e=>by have:=(World.ownsRow.lt hv g e.symm).1;omega)).trans h1⟩
 ·refine ownB.kept (h2.alloc o) hg ?_
  cases e:pv.ownBlock with
  | none=>exact .inl rfl
  | some k=>exact .inr (fun e2=>hd k e e2.symm)
theorem Dis.gro {w:World} {g:Nat} {pv v v':Value} {bs:List UInt8} {L:List Nat} (o:Obj) (h:Wr w g pv bs L) (hd:Dis pv v) (hat:v'.ownBlock=v.ownBlock∨v'.ownBlock=some (w.alloc o).heap.size):Dis pv v':=by
 intro k hk hv
 rcases hat with e | e
 ·exact hd k hk (e.symm.trans hv)
 ·rw [e] at hv
  injection hv with hv
  have:=(World.ownsRow.lt h.2.1 k hk).2
  simp at hv
  omega
end Go.Proofs.YtebbdifhiihfkaaGreatDoor

