/- XSto5 XDynR XFix5 -/
import Derived.Test.YteoolehdomjkkaaGreatMe43
import Derived.Test.YteoolehdomjkkaaGreatMe26
namespace Go.Proofs.YteoolehdomjkkaaGreat
set_option linter.all false
open Go.RowKit
/-- A list's first k, behind them 0. -/
def fillI (l:List Int) (k:Nat):List Int:=l.take k ++ List.replicate (l.length - k) 0
theorem fillI_len (l:List Int) (k:Nat) (h:k≤l.length):(fillI l k).length=l.length:=by unfold fillI;rw [List.length_append,List.length_take,List.length_replicate];omega
theorem fillI_zero (l:List Int):fillI l 0=List.replicate l.length 0:=by unfold fillI;simp
theorem fillI_all (l:List Int):fillI l l.length=l:=by unfold fillI;simp
theorem fillI_set {l:List Int} {k:Nat} {x:Int} (h:l[k]?=some x):(fillI l k).set k x=fillI l (k+1):=by
 obtain ⟨hk,hx⟩:=List.getElem?_eq_some_iff.1 h
 unfold fillI
 have e1:l.length - k=(l.length - (k+1))+1:=by omega
 have e2:(l.take k).length=k:=by rw [List.length_take];omega
 rw [e1,List.replicate_succ,List.set_append,if_neg (by omega),e2,Nat.sub_self,List.set_cons_zero,List.take_succ_eq_append_getElem hk,hx,List.append_assoc]
 rfl
theorem order5_any (w:World):Calls Tryz.prog 124 #[] w fun e w'=>e=.returned (.slice (some ⟨w.heap.size,0,none⟩) 19 19)∧ownI w' w.heap.size (.slice (some ⟨w.heap.size,0,none⟩) 19 19) (ordL.map fun (x:Nat)=>(x:Int))∧Below w.heap.size w w':=by
 have HO:=Lib.hid (own_litI w [16,17,18,0,8,7,9,6,10,5,11,4,12,3,13,2,14,1,15] (by decide))
 go_enter Tryz.func124,Tryz.ntmps124
 go_wp2_with fail
 go_ret
 exact ⟨rfl,HO.out,(Below.refl _ _).alloc (Nat.le_refl _) _⟩
set_option maxRecDepth 100000 in
set_option maxHeartbeats 3200000 in
theorem needed5_any (B n c:Nat) (A:Option Addr) (ls:List Int) (least:Nat) (L:Int) (hL:L=(least:Int)) (w:World) (h:RdI w B A n ls) (hB:B≤w.heap.size) (hn:n≤1000) (hl9:least≤1000) (hc:n≤c) (hc9:c≤maxLen) :
  Calls Tryz.prog 121 #[.slice A n c,.int .i64 L] w fun e w'=>e=.returned (.slice A (cutK ls least n) c)∧w=w':=by
 subst hL
 have HR:=Lib.hid h
 have HC:=Lib.hid hc
 have hc7:c≤9223372036854775807:=by unfold maxLen at hc9;omega
 clear h hc9
 go_enter Tryz.func121,Tryz.ntmps121
 go_wp2_with fail
 go_loopw [5] (fun vl wr=>∃ k:Nat,k≤n∧vl=.int .i64 (k:Nat)∧Hid (cutK ls least k=cutK ls least n)∧wr=w) (fun vl _=>(intOf vl).toNat)
 case atStart=>exact ⟨n,Nat.le_refl _,rfl,(show _=_ from rfl),rfl⟩
 case round =>
  obtain ⟨k,hk,rfl,HE,rfl⟩:=hrel
  by_cases hlt:least < k
  ·have hlti:(k:Int) > (least:Int):=by omega
   obtain ⟨m,rfl⟩:∃ m,k=m+1:=⟨k - 1,by omega⟩
   have hmi:((m+1:Nat):Int) - 1=(m:Int):=by omega
   obtain ⟨b,o,x,e0,hb,HX,e1⟩:=HR.out.one (k:=m) (by omega)
   subst e0
   have hmn:m < n:=by omega
   have hmn2:(m:Int) < (n:Int):=by omega
   by_cases hx:x=0
   ·have d1:(x == 0)=true:=by rw [hx];rfl
    have HE2:Hid (cutK ls least m=cutK ls least n):=(show _=_ by rw [← HE.out,cutK_on hlt HX.out hx])
    clear HX
    go_wp2_with fail
    go_roundw
    case rel=>exact ⟨m,by omega,by go_num,HE2,trivial⟩
    case measure=>simp [intOf] <;> omega
   ·have d1:(x == 0)=false:=beq_eq_false_iff_ne.2 hx
    have HE2:Hid (m+1=cutK ls least n):=(show _=_ by rw [← HE.out,cutK_off HX.out hx])
    have hmc:m+1≤c:=by have:=HC.out;omega
    have hmc2:((m+1:Nat):Int)≤(c:Int):=by omega
    clear HX
    obtain ⟨p,hp⟩:∃ p,m+1=p:=⟨_,rfl⟩
    have HPP:=Lib.hid hp
    rw [hp] at HE2 hmi hlti hmc hmc2 ⊢
    clear hp
    go_wp2_with fail
    go_ret
    exact ⟨by rw [← HE2.out];rfl,rfl⟩
  ·have hlti:¬ (k:Int) > (least:Int):=by omega
   have HE2:Hid (k=cutK ls least n):=(show _=_ by rw [← HE.out,cutK_least (by omega)])
   have hmc:k≤c:=by have:=HC.out;omega
   have hmc2:(k:Int)≤(c:Int):=by omega
   go_wp2_with fail
   go_ret
   exact ⟨by rw [← HE2.out];rfl,rfl⟩
set_option maxRecDepth 100000 in
set_option maxHeartbeats 3200000 in
theorem fixed5L_any (w:World):Calls Tryz.prog 25 #[] w fun e w'=>∃ ga gb,e=.returned (.tuple #[.slice (some ⟨ga,0,none⟩) 288 288,.slice (some ⟨gb,0,none⟩) 32 32])∧RdI w' w'.heap.size (some ⟨ga,0,none⟩) 288 fixL∧RdI w' w'.heap.size (some ⟨gb,0,none⟩) 32 fixD∧Below w.heap.size w w':=by
 have hm1:∀ w,(Instr.makeSlice 41 (.int .i64 288) (.int .i64 288)).run Tryz.prog w=.ok (.slice (some ⟨w.heap.size,0,none⟩) 288 288) (w.alloc (zeroI 288)):=fun w=>run_makeI w 288 (by omega)
 have hm2:∀ w,(Instr.makeSlice 41 (.int .i64 32) (.int .i64 32)).run Tryz.prog w=.ok (.slice (some ⟨w.heap.size,0,none⟩) 32 32) (w.alloc (zeroI 32)):=fun w=>run_makeI w 32 (by omega)
 go_enter Tryz.func25,Tryz.ntmps25
 go_upto_region 1 with fail
 go_cut [2,3] (fun u v wc=>∃ ga gb,u=.slice (some ⟨ga,0,none⟩) 288 288∧v=.slice (some ⟨gb,0,none⟩) 32 32∧(ga ≠ gb∧w.heap.size≤ga∧w.heap.size≤gb)∧ownI wc w.heap.size (.slice (some ⟨ga,0,none⟩) 288 288) (List.replicate 288 0)∧ownI wc w.heap.size (.slice (some ⟨gb,0,none⟩) 32 32) (List.replicate 32 0)∧Below w.heap.size w wc)
 case first =>
  go_region
  all_goals
   go_wp2_with fail
   go_meet
   case rel =>
    first
     | exact ⟨w.heap.size,w.heap.size+1,rfl,rfl,⟨by omega,by omega,by omega⟩,((own_zeroI w 288 (by omega)).alloc _).drew,(by have:=(own_zeroI (w.alloc (zeroI 288)) 32 (by omega)).mono (base':=w.heap.size) (by simp);simpa only [World.size_alloc] using this.drew),(((Below.refl w.heap.size w).alloc (Nat.le_refl _) _).alloc (by simp) _).drew⟩
     | exact ⟨w.heap.size+1,w.heap.size,rfl,rfl,⟨by omega,by omega,by omega⟩,(by have:=(own_zeroI (w.alloc (zeroI 32)) 288 (by omega)).mono (base':=w.heap.size) (by simp);simpa only [World.size_alloc] using this.drew),((own_zeroI w 32 (by omega)).alloc _).drew,(((Below.refl w.heap.size w).alloc (Nat.le_refl _) _).alloc (by simp) _).drew⟩
 case rest =>
  clear hm1 hm2
  obtain ⟨ga,gb,rfl,rfl,⟨hgab,hga,hgb⟩,hoa,hob,hbw⟩:=hcut
  have hfl:fixL.length=288:=by unfold fixL;rw [List.length_map,List.length_range]
  have hfd:fixD.length=32:=by unfold fixD;rw [List.length_replicate]
  have HOA:Hid (ownI wc w.heap.size (.slice (some ⟨ga,0,none⟩) 288 288) (fillI fixL 0)):=(show ownI _ _ _ _ by rw [fillI_zero,hfl];exact hoa)
  have HOB:Hid (ownI wc w.heap.size (.slice (some ⟨gb,0,none⟩) 32 32) (fillI fixD 0)):=(show ownI _ _ _ _ by rw [fillI_zero,hfd];exact hob)
  have HBW:=Lib.hid hbw
  have HFL:=Lib.hid hfl
  have HFD:=Lib.hid hfd
  clear hoa hob hbw hfl hfd
  go_wp2_with fail
  go_loopw [4] (fun vi wr=>∃ k:Nat,k≤288∧vi=.int .i64 k∧Hid (ownI wr w.heap.size (.slice (some ⟨ga,0,none⟩) 288 288) (fillI fixL k))∧Hid (ownI wr w.heap.size (.slice (some ⟨gb,0,none⟩) 32 32) (fillI fixD 0))∧Hid (Below w.heap.size w wr)) (fun vi _=>288 - (intOf vi).toNat)
  case atStart=>exact ⟨0,by omega,rfl,HOA,HOB,HBW⟩
  case round =>
   clear HOA HOB HBW
   obtain ⟨k,hk,rfl,HOA,HOB,HBW⟩:=hrel
   by_cases hlt:k < 288
   ·have hlti:(k:Int) < 288:=by omega
    have hlen:(fillI fixL k).length=288:=by rw [fillI_len _ _ (by rw [HFL.out];omega),HFL.out]
    have hx:fixL[k]?=some (fixO k):=by unfold fixL;rw [List.getElem?_map,List.getElem?_range hlt];rfl
    have HST:Hid (∀ x,x=fixO k→ownI (wr.setCell ⟨ga,k,none⟩ (.int .i64 x)) w.heap.size (.slice (some ⟨ga,0,none⟩) 288 288) (fillI fixL (k+1))):=(show ∀ x,_ from fun x e=>by
     have:=HOA.out.store hlen.symm k x
     rw [e] at this ⊢
     rw [fillI_set hx] at this
     exact this)
    have f7:=HOA.out.frozen hlen.symm k
    obtain ⟨z7,c7⟩:∃ z,wr.cell? ⟨ga,k,none⟩=some (.int .i64 z):=⟨_,HOA.out.cell hlen.symm (k:=k) (by rw [hlen];exact hlt)⟩
    have HOB2:Hid (∀ x,ownI (wr.setCell ⟨ga,k,none⟩ (.int .i64 x)) w.heap.size (.slice (some ⟨gb,0,none⟩) 32 32) (fillI fixD 0)):=(show ∀ x,_ from fun x=>HOB.out.far (g:=ga) (by intro e;injection e with e;exact hgab e.symm) k (.int .i64 x))
    have HBW2:Hid (∀ x,Below w.heap.size w (wr.setCell ⟨ga,k,none⟩ (.int .i64 x))):=(show ∀ x,_ from fun x=>HBW.out.setCell (p:=⟨ga,k,none⟩) hga (.int .i64 x))
    clear hlen hx HOA HOB HBW
    by_cases h144:k < 144
    ·have h144i:(k:Int) < 144:=by omega
     have hfo:(8:Int)=fixO k:=by unfold fixO;rw [if_pos h144]
     have HFO:=Lib.hid hfo
     clear hfo
     go_wp2_with fail
     go_roundw
     case rel=>exact ⟨k+1,by omega,by go_num,HST.out _ HFO.out,HOB2.out _,HBW2.out _⟩
     case measure=>simp [intOf] <;> omega
    ·have h144i:¬ (k:Int) < 144:=by omega
     by_cases h279:279 < k
     ·have h279i:(k:Int) > 279:=by omega
      have hfo:(8:Int)=fixO k:=by unfold fixO;rw [if_neg h144,if_neg (by omega),if_neg (by omega)]
      have HFO:=Lib.hid hfo
      clear hfo
      go_wp2_with fail
      go_roundw
      case rel=>exact ⟨k+1,by omega,by go_num,HST.out _ HFO.out,HOB2.out _,HBW2.out _⟩
      case measure=>simp [intOf] <;> omega
     ·have h279i:¬ (k:Int) > 279:=by omega
      by_cases h256:k < 256
      ·have h256i:(k:Int) < 256:=by omega
       have hfo:(9:Int)=fixO k:=by unfold fixO;rw [if_neg h144,if_pos h256]
       have HFO:=Lib.hid hfo
       clear hfo
       go_wp2_with fail
       go_roundw
       case rel=>exact ⟨k+1,by omega,by go_num,HST.out _ HFO.out,HOB2.out _,HBW2.out _⟩
       case measure=>simp [intOf] <;> omega
      ·have h256i:¬ (k:Int) < 256:=by omega
       have hfo:(7:Int)=fixO k:=by unfold fixO;rw [if_neg h144,if_neg h256,if_pos (by omega)]
       have HFO:=Lib.hid hfo
       clear hfo
       go_wp2_with fail
       go_roundw
       case rel=>exact ⟨k+1,by omega,by go_num,HST.out _ HFO.out,HOB2.out _,HBW2.out _⟩
       case measure=>simp [intOf] <;> omega
   ·obtain rfl:k=288:=by omega
    have HA9:Hid (ownI wr w.heap.size (.slice (some ⟨ga,0,none⟩) 288 288) fixL):=(show ownI _ _ _ _ by have:=HOA.out;rw [← HFL.out,fillI_all,HFL.out] at this;exact this)
    obtain ⟨wo,rfl⟩:∃ wo:World,wo=wr:=⟨_,rfl⟩
    clear HOA
    go_wp2_with fail
    go_loopw [5] (fun vi wr=>∃ k:Nat,k≤32∧vi=.int .i64 k∧Hid (ownI wr w.heap.size (.slice (some ⟨ga,0,none⟩) 288 288) fixL)∧Hid (ownI wr w.heap.size (.slice (some ⟨gb,0,none⟩) 32 32) (fillI fixD k))∧Hid (Below w.heap.size w wr)) (fun vi _=>32 - (intOf vi).toNat)
    case atStart=>exact ⟨0,by omega,rfl,HA9,HOB,HBW⟩
    case round =>
     clear HA9 HOB HBW
     obtain ⟨k,hk,rfl,HOA,HOB,HBW⟩:=hrel
     by_cases hlt:k < 32
     ·have hlti:(k:Int) < 32:=by omega
      have hlen:(fillI fixD k).length=32:=by rw [fillI_len _ _ (by rw [HFD.out];omega),HFD.out]
      have hx:fixD[k]?=some 5:=by unfold fixD;rw [List.getElem?_replicate,if_pos hlt]
      have hst:=HOB.out.store hlen.symm k 5
      rw [fillI_set hx] at hst
      have HST:=Lib.hid hst
      have f7:=HOB.out.frozen hlen.symm k
      obtain ⟨z7,c7⟩:∃ z,wr.cell? ⟨gb,k,none⟩=some (.int .i64 z):=⟨_,HOB.out.cell hlen.symm (k:=k) (by rw [hlen];exact hlt)⟩
      have HOA2:=Lib.hid (HOA.out.far (g:=gb) (by intro e;injection e with e;exact hgab e) k (.int .i64 5))
      have HBW2:=Lib.hid (HBW.out.setCell (p:=⟨gb,k,none⟩) hgb (.int .i64 5))
      clear hlen hx hst HOA HOB HBW
      go_wp2_with fail
      go_roundw
      case rel=>exact ⟨k+1,by omega,by go_num,HOA2,HST,HBW2⟩
      case measure=>simp [intOf] <;> omega
     ·obtain rfl:k=32:=by omega
      have HB9:Hid (ownI wr w.heap.size (.slice (some ⟨gb,0,none⟩) 32 32) fixD):=(show ownI _ _ _ _ by have:=HOB.out;rw [← HFD.out,fillI_all,HFD.out] at this;exact this)
      go_wp2_with fail
      go_ret2
      exact ⟨ga,gb,rfl,HOA.out.rd,HB9.out.rd,HBW.out⟩
set_option maxRecDepth 100000 in
set_option maxHeartbeats 3200000 in
theorem stored5_any (B n c:Nat) (A:Option Addr) (bs:List UInt8) (w:World) (h:RdB w B A n bs) (hB:B≤w.heap.size) (hn:n≤40000) :
  Calls Tryz.prog 65 #[.slice A n c] w fun e w'=>∃ g pv,e=.returned (.pointer (some ⟨g,0,none⟩))∧w.heap.size≤g∧RWr w' g pv (plainL bs)∧Below w.heap.size w w':=by
 have HR:=Lib.hid h
 have hl:=h.len
 obtain ⟨g,hg⟩:∃ g,w.heap.size=g:=⟨_,rfl⟩
 obtain ⟨w1,hw1⟩:∃ w1,w.alloc (.cells #[Value.slice none 0 0] 145)=w1:=⟨_,rfl⟩
 have HW1:Hid (RWr w1 g (.slice none 0 0) []):=(show RWr _ _ _ _ by rw [← hw1,← hg];exact ⟨Arr.new w [.slice none 0 0] _,ownB.nil_ _ _,fun b hb=>absurd hb List.not_mem_nil⟩)
 have HB1:Hid (Below g w w1):=(show Below _ _ _ by rw [← hw1,← hg];exact (Below.refl _ _).alloc (Nat.le_refl _) _)
 have hgw:g < w1.heap.size:=by rw [← hw1,← hg];simp
 have hal:(alignL (headL 0)).length=8:=by rw [alignL_len,headL_len]
 have HP0:=Lib.hid (wputR_any g 1 3 1 3 rfl rfl _ _ w1 HW1.out (by decide) (by decide) (by decide))
 rw [show ([]:List Nat) ++ lsb 1 3=headL 0 by decide] at HP0
 have hn2:(65535:Int) - (n:Int)=((65535 - n:Nat):Int):=by omega
 have cn1:(n:Int) % 4294967296=(n:Int):=by omega
 have cn2:((65535 - n:Nat):Int) % 4294967296=((65535 - n:Nat):Int):=by omega
 have HL0:Hid (alignL (headL 0) ++ lsb n 16 ++ lsb (65535 - n) 16 ++ bytesB (bs.take 0)=alignL (headL 0) ++ lsb n 16 ++ lsb (65535 - n) 16):=(show _=_ by simp [bytesB])
 have hlen:∀ k,k≤n→(alignL (headL 0) ++ lsb n 16 ++ lsb (65535 - n) 16 ++ bytesB (bs.take k)).length=40+8 * k:=fun k hk=>by
  rw [List.length_append,List.length_append,List.length_append,lsb_len,lsb_len,bytesB_len,List.length_take,hal,Nat.min_eq_left (by omega)]
 have HLN:=Lib.hid hlen
 have HPL:Hid (alignL (headL 0) ++ lsb n 16 ++ lsb (65535 - n) 16 ++ bytesB (bs.take n)=plainL bs):=(show _=_ by unfold plainL;rw [← hl,List.take_length])
 have hh0:(headL 0).length=3:=headL_len 0
 clear h hlen
 generalize headL 0=H0 at *
 go_enter Tryz.func65,Tryz.ntmps65
 simp only [hg]
 go_upto_region 7 with (first
  | (go_at_call 116;(with_reducible refine HP0.out.mono ?_);go_must (rintro e w2 ⟨rfl,p2,hw2,hf2⟩;have HF2:=Lib.hid hf2;have HAL:=Lib.hid (walignR_any g p2 H0 w2 hw2 (by omega));clear hw2 hf2))
  | (go_at_call 117;(with_reducible refine HAL.out.mono ?_);go_must (rintro e w3 ⟨rfl,p3,hw3,hf3⟩;have HF3:=Lib.hid (HF2.out.trans hf3);have HP1:=Lib.hid (wputR_any g n 16 (n:Int) 16 rfl rfl _ _ w3 hw3 (by rw [hal];omega) (by decide) (by show n < 65536;omega));clear hw3 hf3))
  | (go_at_call 116;(with_reducible refine HP1.out.mono ?_);go_must (rintro e w4 ⟨rfl,p4,hw4,hf4⟩;have HF4:=Lib.hid (HF3.out.trans hf4);have HP2:=Lib.hid (wputR_any g (65535 - n) 16 ((65535 - n:Nat):Int) 16 rfl rfl _ _ w4 hw4 (by rw [List.length_append,lsb_len,hal];omega) (by decide) (by show 65535 - n < 65536;omega));clear hw4 hf4))
  | (go_at_call 116;(with_reducible refine HP2.out.mono ?_);go_must (rintro e w5 ⟨rfl,p5,hw5,hf5⟩;have HF5:=Lib.hid (HF4.out.trans hf5);rw [← HL0.out] at hw5;have HW5:=Lib.hid hw5;clear hw5 hf5)))
 clear HP0 HW1 HL0
 go_loopw [4] (fun vi wr=>∃ k:Nat,k≤n∧vi=.int .i64 k∧∃ pq,Hid (RWr wr g pq (alignL H0 ++ lsb n 16 ++ lsb (65535 - n) 16 ++ bytesB (bs.take k)))∧Hid (WrFr w1 wr g (.slice none 0 0) pq)) (fun vi _=>n - (intOf vi).toNat)
 case atStart=>exact ⟨0,Nat.zero_le _,rfl,p5,HW5,HF5⟩
 case round =>
  clear HW5 HF5
  obtain ⟨k,hk,rfl,pq,HW,HF⟩:=hrel
  have hBW:Below g w wr:=HB1.out.trans (HF.out.below (Nat.le_of_lt hgw) (Nat.le_refl _) (fun k hk=>by cases hk))
  by_cases hlt:k < n
  ·have hlti:(k:Int) < (n:Int):=by omega
   obtain ⟨b,o,x,e0,hb,HXX,e1⟩:=(HR.out.blw (hBW.mono (by omega))).byte hlt
   subst e0
   have HS:=Lib.hid (bytesB_snoc HXX.out)
   have hx:=x.toNat_lt
   have HP:=Lib.hid (wputR_any g x.toNat 8 (x.toNat:Int) 8 rfl rfl _ _ _ HW.out (by rw [HLN.out k hk];omega) (by decide) (by simpa using hx))
   have HST:Hid (alignL H0 ++ lsb n 16 ++ lsb (65535 - n) 16 ++ bytesB (bs.take k) ++ lsb x.toNat 8=alignL H0 ++ lsb n 16 ++ lsb (65535 - n) 16 ++ bytesB (bs.take (k+1))):=(show _=_ by rw [HS.out,List.append_assoc,List.append_assoc])
   rw [HST.out] at HP
   clear HS HST
   go_wp2_with (go_at_call 116;(with_reducible refine HP.out.mono ?_);go_must (rintro e w5 ⟨rfl,p6,hw6,hf6⟩;have HW6:=Lib.hid hw6;have HF6:=Lib.hid (HF.out.trans hf6);clear hw6 hf6))
   go_roundw
   case rel=>exact ⟨k+1,by omega,by go_num,p6,HW6,HF6⟩
   case measure=>simp [intOf];omega
  ·obtain rfl:k=n:=by omega
   go_wp2_with fail
   go_ret
   exact ⟨g,pq,rfl,Nat.le_refl _,(by rw [← HPL.out];exact HW.out),hBW⟩
end Go.Proofs.YteoolehdomjkkaaGreat

/- flate: codes of lists with zeros at the end, plainly. -/
namespace Go.Proofs.YteoolehdomjkkaaGreat
set_option linter.all false
theorem cnt_app0 (l:List Int) (m n:Nat) (h:0 < n):cnt (l ++ List.replicate m 0) n=cnt l n:=by
 unfold cnt
 rw [List.count_append,List.count_replicate,if_neg (by simp;omega),Nat.add_zero]
theorem cz_app0 (l:List Int) (m:Nat):∀ n,cz (l ++ List.replicate m 0) n=cz l n
 | 0=>rfl
 | n+1=>cnt_app0 l m (n+1) (Nat.succ_pos n)
theorem fst_app0 (l:List Int) (m:Nat):∀ n,fst (l ++ List.replicate m 0) n=fst l n
 | 0=>rfl
 | n+1=>by rw [fst,fst,fst_app0 l m n,cz_app0]
theorem codeAt_app0 {l:List Int} {m p:Nat} (h:p < l.length):codeAt (l ++ List.replicate m 0) p=codeAt l p:=by
 have e:(l ++ List.replicate m 0).getD p 0=l.getD p 0:=by
  rw [List.getD_eq_getElem?_getD,List.getD_eq_getElem?_getD,List.getElem?_append_left h]
 have e2:(l ++ List.replicate m 0).take p=l.take p:=List.take_append_of_le_length (by omega)
 unfold codeAt
 rw [e,e2,fst_app0]
theorem cutK_zero {ls:List Int} {least:Nat}:∀ k j,cutK ls least k≤j→j < k→ls.getD j 0=0
 | 0,j,_,h=>absurd h (by omega)
 | k+1,j,h1,h2=>by
  unfold cutK at h1
  split at h1
  ·rename_i e
   by_cases hj:j=k
   ·rw [hj];exact e.2
   ·exact cutK_zero k j h1 (by omega)
  ·omega
theorem cutL_app (ls:List Int) (least:Nat):ls=cutL ls least ++ List.replicate (ls.length - cutK ls least ls.length) 0:=by
 have hk:=cutK_le ls least ls.length
 have e:ls.drop (cutK ls least ls.length)=List.replicate (ls.length - cutK ls least ls.length) 0:=by
  rw [List.eq_replicate_iff]
  refine ⟨List.length_drop,fun x hx=>?_⟩
  obtain ⟨i,hi⟩:=List.getElem?_of_mem hx
  rw [List.getElem?_drop] at hi
  have hlt:=(List.getElem?_eq_some_iff.1 hi).1
  have:=cutK_zero (ls:=ls) (least:=least) ls.length (cutK ls least ls.length+i) (Nat.le_add_right _ _) hlt
  rw [List.getD_eq_getElem?_getD,hi] at this
  exact this
 rw [← e]
 unfold cutL
 rw [List.take_append_drop]
theorem code_cut {ls:List Int} {least p:Nat} (h:p < (cutL ls least).length):codeB ls p=codeB (cutL ls least) p:=by
 have e:codeAt ls p=codeAt (cutL ls least) p:=by
  have:=codeAt_app0 (m:=ls.length - cutK ls least ls.length) h
  rw [← cutL_app] at this
  exact this
 unfold codeB
 rw [e]
/-- Are all numbers 0? -/
def zeroA (l:List Int):Bool:=l.all fun x=>x == 0
def unL (ts:List Tok):List Int:=lensOf (weighL ts) 15
def unD (ts:List Tok):List Int:=if zeroA (lensOf (weighD ts) 15)=true then (lensOf (weighD ts) 15).set 0 1 else lensOf (weighD ts) 15
theorem unL_len (ts:List Tok):(unL ts).length=286:=by unfold unL;rw [lensOf_len,weighL_len]
theorem unD_len (ts:List Tok):(unD ts).length=30:=by
 unfold unD
 split
 ·rw [List.length_set,lensOf_len,weighD_len]
 ·rw [lensOf_len,weighD_len]
theorem zeroA_rep {l:List Int} (h:zeroA l=true):l=List.replicate l.length 0:=by
 rw [List.eq_replicate_iff]
 refine ⟨rfl,fun x hx=>?_⟩
 have:=List.all_eq_true.1 h x hx
 simpa using this
theorem zeroA_snoc {l:List Int} {k:Nat} {x:Int} (h:l[k]?=some x):zeroA (l.take (k+1))=(zeroA (l.take k) && (x == 0)):=by
 obtain ⟨hk,hx⟩:=List.getElem?_eq_some_iff.1 h
 unfold zeroA
 rw [List.take_succ_eq_append_getElem hk,hx,List.all_append]
 simp
theorem dynL_un (ts:List Tok):dynL ts=cutL (unL ts) 257:=rfl
theorem dynD_un (ts:List Tok):dynD ts=cutL (unD ts) 1:=by
 have hlen:(lensOf (weighD ts) 15).length=30:=by rw [lensOf_len,weighD_len]
 unfold dynD unD
 generalize lensOf (weighD ts) 15=l at *
 by_cases hz:zeroA l=true
 ·have e:=zeroA_rep hz
  rw [hlen] at e
  rw [if_pos hz,e,if_pos (by decide)]
  decide
 ·rw [if_neg hz,if_neg]
  rintro ⟨h1,h2⟩
  refine hz (List.all_eq_true.2 fun x hx=>?_)
  obtain ⟨i,hi⟩:=List.getElem?_of_mem hx
  have hlt:=(List.getElem?_eq_some_iff.1 hi).1
  have h3:l.getD i 0=0:=by
   rcases Nat.eq_zero_or_pos i with rfl | hp
   ·exact h1
   ·exact cutK_zero (least:=1) 30 i (by omega) (by omega)
  rw [List.getD_eq_getElem?_getD,hi] at h3
  have h4:x=0:=h3
  simp [h4]
theorem unL_ok (ts:List Tok):CodesOK (unL ts):=lens_ok (by omega) (by omega) (by rw [weighL_len];decide) (by rw [weighL_len];omega)
theorem unD_ok (ts:List Tok):CodesOK (unD ts):=by
 have h0:CodesOK (lensOf (weighD ts) 15):=lens_ok (by omega) (by omega) (by rw [weighD_len];decide) (by rw [weighD_len];omega)
 have hlen:(lensOf (weighD ts) 15).length=30:=by rw [lensOf_len,weighD_len]
 unfold unD
 split
 ·rename_i hz
  have e:=zeroA_rep hz
  rw [hlen] at e
  rw [e]
  exact ⟨by decide,by decide +kernel,by decide +kernel⟩
 ·exact h0
theorem un_in {ts:List Tok} (h:∀ t ∈ ts,TokOK t):∀ t ∈ ts,TokIn (unL ts) (unD ts) t:=fun t ht =>
 ⟨by rw [unL_len];exact symT_lt (h t ht),fun p hp=>by rw [unD_len];exact dstT_lt (h t ht) p hp⟩
theorem tokB_un {ts:List Tok} (h:∀ t ∈ ts,TokOK t):∀ t ∈ ts,tokB (unL ts) (unD ts) t=tokB (dynL ts) (dynD ts) t:=fun t ht=>by
 obtain ⟨h1,h2⟩:=dyn_in h t ht
 have e1:∀ p,p < (dynL ts).length→codeB (unL ts) p=codeB (dynL ts) p:=fun p hp=>by rw [dynL_un] at hp ⊢;exact code_cut hp
 have e2:∀ p,p < (dynD ts).length→codeB (unD ts) p=codeB (dynD ts) p:=fun p hp=>by rw [dynD_un] at hp ⊢;exact code_cut hp
 unfold symT at h1
 unfold dstT at h2
 unfold tokB
 by_cases h0:t.1=0
 ·rw [if_pos h0] at h1
  rw [if_pos h0,if_pos h0,e1 _ h1]
 ·rw [if_neg h0] at h1 h2
  rw [if_neg h0,if_neg h0,e1 _ h1,e2 _ (h2 _ (by simp))]
theorem toksB_un {ts:List Tok} (h:∀ t ∈ ts,TokOK t):toksB (unL ts) (unD ts) ts=toksB (dynL ts) (dynD ts) ts:=by
 have e1:codeB (unL ts) 256=codeB (dynL ts) 256:=by
  rw [dynL_un]
  refine code_cut ?_
  rw [← dynL_un]
  have:=(dynL_rng ts).1
  omega
 have key:∀ us:List Tok,(∀ t ∈ us,t ∈ ts)→us.flatMap (tokB (unL ts) (unD ts))=us.flatMap (tokB (dynL ts) (dynD ts)):=by
  intro us
  induction us with
  | nil=>intro _;rfl
  | cons t r ih =>
   intro hu
   rw [List.flatMap_cons,List.flatMap_cons,tokB_un h t (hu t (by simp)),ih (fun x hx=>hu x (by simp [hx]))]
 unfold toksB
 rw [e1,key ts (fun t ht=>ht)]
end Go.Proofs.YteoolehdomjkkaaGreat

/- flate: the document's block by the fixed codes. -/
namespace Go.Proofs.YteoolehdomjkkaaGreat
set_option linter.all false
open Go.RowKit
theorem bxN {w:World} {g b:Nat} (h1:b < w.heap.size) (h2:b ≠ g):Bx w g (.slice none 0 0) b:=⟨h1,h2,fun e=>by cases e⟩
set_option maxRecDepth 100000 in
set_option maxHeartbeats 3200000 in
theorem fixed5_any (B n c:Nat) (A:Option Addr) (ts:List Tok) (w:World) (h:RdJ w B A n ts) (hB:B≤w.heap.size) (hn:n≤40000) (hok:∀ t ∈ ts,TokOK t) (hsz:tokSize ts≤40000) :
  Calls Tryz.prog 66 #[.slice A n c] w fun e w'=>∃ g pv,e=.returned (.pointer (some ⟨g,0,none⟩))∧w.heap.size≤g∧RWr w' g pv (fixB ts)∧Below w.heap.size w w':=by
 have HR:=Lib.hid h
 have hl:=h.len
 have HFX:=Lib.hid (fixed5L_any w)
 have HMX1:Hid (∀ k,k≤n→(headL 1).length+((ts.take k).flatMap (tokB fixL fixD)).length+100≤1000000):=(show ∀ k,_ from fun k hk=>by
  have h1:=toks_size fixL_ok fixD_ok (ts:=ts.take k) (fun t ht=>⟨hok t (List.mem_of_mem_take ht),fix_in (hok t (List.mem_of_mem_take ht))⟩)
  have h2:=tokSize_take ts k
  rw [headL_len]
  omega)
 have HIN1:Hid (∀ t ∈ ts,TokOK t∧TokIn fixL fixD t):=(show ∀ t ∈ _,_ from fun t ht=>⟨hok t ht,fix_in (hok t ht)⟩)
 have HL1:=Lib.hid fixL_len
 have HL2:=Lib.hid fixD_len
 have HO1:=Lib.hid fixL_ok
 have HO2:=Lib.hid fixD_ok
 have HH0:Hid (([]:List Nat) ++ lsb 1 1=[1]):=(show _=_ by decide)
 have HH1:Hid ([1] ++ lsb 1 2=headL 1):=(show _=_ by decide)
 have HFB:Hid (headL 1 ++ toksB fixL fixD ts=fixB ts):=(show _=_ from rfl)
 clear h hok hsz
 generalize fixL=fl at *
 generalize fixD=fd at *
 generalize headL 1=H1 at *
 go_enter Tryz.func66,Tryz.ntmps66
 go_upto_region 4 with (first
  | (go_at_call 25;(with_reducible refine HFX.out.mono ?_);go_must (rintro e w1 ⟨g1,g2,rfl,hr1,hr2,hb1⟩;have HB1:=Lib.hid hb1;have hz1:=hb1.size;have HR2:=Lib.hid hr2;have HC1:=Lib.hid (codes5_ok w1.heap.size 288 288 _ fl w1 hr1 (Nat.le_refl _) (by omega) HO1.out);clear hr1 hr2 hb1))
  | (go_at_call 118;(with_reducible refine HC1.out.mono ?_);go_must (rintro e w2 ⟨ga,ca,rfl,hga,hga2,hca,hb2⟩;have HCA:=Lib.hid hca;have hz2:=hb2.size;have HB2:=Lib.hid (HB1.out.trans (hb2.mono hz1));have HC2:=Lib.hid (codes5_ok w1.heap.size 32 32 _ fd w2 (RdI.blw HR2.out hb2) hz2 (by omega) HO2.out);clear hca hb2))
  | (go_at_call 118;(with_reducible refine HC2.out.mono ?_);go_must (rintro e w3 ⟨gb,cb,rfl,hgb,hgb2,hcb,hb3⟩;have HCB:=Lib.hid hcb;have hz3:=hb3.size;have HCA3:=Lib.hid (HCA.out.later hga2 hb3);have HB3:=Lib.hid (HB2.out.trans (hb3.mono (by omega)));clear hcb hb3 HCA)))
 obtain ⟨g,hg⟩:∃ g,w3.heap.size=g:=⟨_,rfl⟩
 obtain ⟨w4,hw4⟩:∃ w4,w3.alloc (.cells #[Value.slice none 0 0] 145)=w4:=⟨_,rfl⟩
 have HW4:Hid (RWr w4 g (.slice none 0 0) []):=(show RWr _ _ _ _ by rw [← hw4,← hg];exact ⟨Arr.new w3 [.slice none 0 0] _,ownB.nil_ _ _,fun b hb=>absurd hb List.not_mem_nil⟩)
 have hb34:Below w3.heap.size w3 w4:=by rw [← hw4];exact (Below.refl _ _).alloc (Nat.le_refl _) _
 have hz4:w4.heap.size=g+1:=by rw [← hw4,World.size_alloc,hg]
 have HB4:=Lib.hid (HB3.out.trans (hb34.mono (by omega)))
 have HCA4:=Lib.hid (HCA3.out.later (by omega) hb34)
 have HCB4:=Lib.hid (HCB.out.later hgb2 hb34)
 have HXA:=Lib.hid (bxN (w:=w4) (g:=g) (b:=ga) (by omega) (by omega))
 have HXB:=Lib.hid (bxN (w:=w4) (g:=g) (b:=gb) (by omega) (by omega))
 have HP0:=Lib.hid (wputR_any g 1 1 1 1 rfl rfl _ _ w4 HW4.out (by decide) (by decide) (by decide))
 rw [HH0.out] at HP0
 have hgw:w.heap.size≤g:=by omega
 clear hb34 HCA3 HCB HB1 HB2 HB3 HC1 HC2 HFX HR2
 go_wp2_with fail
 go_wp2_with (first
  | (go_at_call 116;(with_reducible refine HP0.out.mono ?_);go_must (rintro e w5 ⟨rfl,p5,hw5,hf5⟩;have HF5:=Lib.hid hf5;have HP1:=Lib.hid (wputR_any g 1 2 1 2 rfl rfl p5 [1] w5 hw5 (by decide) (by decide) (by decide));rw [HH1.out] at HP1;clear hw5 hf5))
  | (go_at_call 116;(with_reducible refine HP1.out.mono ?_);go_must (rintro e w6 ⟨rfl,p6,hw6,hf6⟩;have HF6:=Lib.hid (HF5.out.trans hf6);have hbw6:Below w.heap.size w w6:=HB4.out.trans (HF6.out.below HB4.out.size hgw (fun k hk=>by cases hk));have HBK:=Lib.hid (block5_any B n c 288 ca 32 cb ga gb g A ts fl fd p6 H1 w6 hw6 (HR.out.blw (hbw6.mono hB)) (HCA4.out.bx HXA.out HF6.out) (HCB4.out.bx HXB.out HF6.out) (HXA.out.wr HF6.out) (HXB.out.wr HF6.out) (by omega) (fun k hk=>by have:=(World.ownsRow.lt hw6.2.1 k hk).1;omega) (by omega) HL1.out.symm HL2.out.symm HIN1.out HO1.out HO2.out (by omega) HMX1.out);clear hw6 hf6))
  | (go_at_call 119;(with_reducible refine HBK.out.mono ?_);go_must (rintro e w7 ⟨rfl,p7,hw7,hf7⟩;rw [HFB.out] at hw7;have HW7:=Lib.hid hw7;have HF7:=Lib.hid (HF6.out.trans hf7);clear hw7 hf7)))
 go_ret
 exact ⟨g,p7,rfl,hgw,HW7.out,HB4.out.trans (HF7.out.below HB4.out.size hgw (fun k hk=>by cases hk))⟩
end Go.Proofs.YteoolehdomjkkaaGreat

