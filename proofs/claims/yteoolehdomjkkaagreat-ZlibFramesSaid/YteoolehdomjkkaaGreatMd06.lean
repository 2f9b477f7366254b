/- Merged: Huff5, Fl8, Fl9, Arr, Ref. -/
import Derived.Test.YteoolehdomjkkaaGreatMd05
import Derived.Test.YteoolehdomjkkaaGreatMd02
import Derived.Test.YteoolehdomjkkaaGreatMd01
/- huff: Lengths. -/
namespace Go.Proofs.YteoolehdomjkkaaGreat
set_option linter.all false
open Go.RowKit
def lenE (ws:List Int) (most:Int):Int:=if wrongH ws most then 1 else 0
def lenR (ws:List Int) (most:Int):List Int:=if wrongH ws most then [] else lensOf ws most.toNat
/-- What both Lengths give. -/
def LenPost (ws:List Int) (most:Int) (w:World) (e:Ending) (w':World):Prop :=
 ∃ A n c,e=.returned (.tuple #[.slice A n c,.int .i64 (lenE ws most)])∧n=(lenR ws most).length∧ownI w' w.heap.size (.slice A n c) (lenR ws most)∧Below w.heap.size w w'
theorem ownP.lo {w:World} {base n c:Nat} {A:Option Addr} {l:List MP} (h:ownP w base (.slice A n c) l):∀ a,A=some a→base≤a.block:=by
 intro a ha
 rcases h.2 with ⟨h',_⟩ | ⟨g,cap,cur,h',hb,_⟩
 ·injection h' with h1;rw [h1] at ha;cases ha
 ·injection h' with h1
  rw [h1] at ha
  injection ha with ha
  rw [← ha]
  exact hb
theorem isM.sg {w:World} {lo hi g:Nat} {t:Mem} {a:Nat} (h:isM w (Rng lo hi) a t) (hg:g < lo):isM w (Sg hi g) a t:=h.keep (fun _ _=>rfl) (fun b hb=>⟨hb.2,by have:=hb.1;omega⟩)
theorem rdP_grown {w w':World} {B n g:Nat} {A:Option Addr} {l:List MP} (h:RdP w B A n l) (hg:w.grownBy w' (some g)) (hB:B≤w.heap.size) (hA:∀ a,A=some a→g < a.block):RdP w' B A n l :=
 ⟨h.1,fun hn=>by
  obtain ⟨b,o,e,hb,hc⟩:=h.2 hn
  refine ⟨b,o,e,hb,fun j u hu=>?_⟩
  have:=hA _ e
  refine (World.cell?_of_block (hg.block b (by omega) (fun e=>?_))).trans (hc j u hu)
  injection e with e
  have:g < b:=this
  omega⟩
theorem stab_lenM (l:List Mem):(stab Mem.w l).length=l.length:=(stab_ss l).2.length
set_option maxRecDepth 100000 in
set_option maxHeartbeats 6400000 in
theorem lengths_any (B n c:Nat) (A:Option Addr) (ws:List Int) (most:Int) (w:World) (h:RdI w B A n ws) (hB1:B≤w.heap.size) (hn:n≤1099511627776) :
  Calls Tryz.prog 109 #[.slice A n c,.int .i64 most] w (LenPost ws most w):=by
 have hl:=h.len
 cases hw:wrongH ws most with
 | true =>
  have HW:=Lib.hid (wrong_any B n c A ws most w h hn)
  rw [hw] at HW
  have HE:Hid (lenE ws most=1∧lenR ws most=[]):=(show _∧_ by unfold lenE lenR;rw [hw];exact ⟨rfl,rfl⟩)
  clear h hl hw
  go_enter Tryz.func109,Tryz.ntmps109
  go_wp2_with (go_at_call 155;(with_reducible refine HW.out.mono ?_);go_must (rintro e w1 ⟨rfl,rfl⟩))
  go_ret2
  refine ⟨none,0,0,ret_tup2 rfl (by rw [HE.out.1];rfl),by rw [HE.out.2];rfl,by rw [HE.out.2];exact ownI.nil_ _ _,Below.refl _ _⟩
 | false =>
  have HW:=Lib.hid (wrong_any B n c A ws most w h hn)
  rw [hw] at HW
  obtain ⟨q1,q2,q3,q4,q5,q6⟩:=wrongH_false hw
  obtain ⟨m,rfl⟩:=Int.eq_ofNat_of_zero_le (show 0≤most by omega)
  have HE:Hid (lenE ws (m:Int)=0∧lenR ws (m:Int)=lensOf ws m):=(show _∧_ by unfold lenE lenR;rw [hw];exact ⟨rfl,rfl⟩)
  have H:=Lib.hid h
  have HL:=Lib.hid hl
  have HQ5:=Lib.hid q5
  have HQ6:=Lib.hid (show (leaves ws).length≤2 ^ m by simpa using q6)
  have hn1:1≤n:=by omega
  have hn2:n≤300:=by omega
  have hm1:1≤m:=by omega
  have hm2:m≤15:=by omega
  have HIT:=Lib.hid (fun (w':World) (hb:Below w.heap.size w w')=>items_any w.heap.size n c A ws w' ((h.blw (hb.mono hB1)).more hB1) hb.size hn)
  have hll:(leaves ws).length≤n:=by rw [leaves_length,← hl];exact posn_le ws
  clear h hl hw q1 q2 q3 q4 q5 q6
  by_cases hone:(leaves ws).length=1
  ·have HONE:=Lib.hid hone
   clear hone hll
   go_enter Tryz.func109,Tryz.ntmps109
   go_wp2_with (first
    | (go_at_call 155;(with_reducible refine HW.out.mono ?_);go_must (rintro e w1 ⟨rfl,rfl⟩))
    | (at_make;refine wpList_makeI rfl _ _ rfl n _ rfl rfl rfl (by omega) ?_;intro w1 hown hb1 hsz;have HO:=Lib.hid hown;have HB1:=Lib.hid hb1;clear hown hb1)
    | (go_at_call 156;(with_reducible refine (HIT.out _ HB1.out).mono ?_);go_must (rintro e w2 ⟨A1,n1,c1,zs1,rfl,hn1',hz1,hmm,hi1,hb2⟩;obtain ⟨z,rfl⟩:∃ z,zs1=[z]:=List.length_eq_one_iff.1 (by have:=congrArg List.length hmm;rw [(stab_ss _).2.length,List.length_map] at this;rw [this];exact HONE.out);obtain rfl:n1=1:=hn1';obtain ⟨A9,e9,h91⟩:∃ b,A1=some ⟨b,0,none⟩∧w2.cell? ⟨b,0,none⟩=some (.pointer (some ⟨z.1,0,none⟩)):=(by obtain ⟨_,g,eg,_,_⟩:=hz1.pos (by omega);subst eg;exact ⟨g,rfl,hz1.cell rfl (k:=0) (by simp)⟩);subst e9;obtain ⟨p,x,e8,hp8⟩:∃ p x,z.2=.leaf x p∧p < n:=(by have hmem:z.2 ∈ leaves ws:=(by have:z.2 ∈ stab Mem.w (leaves ws):=(by rw [← hmm];simp);exact stab_mem.1 this);obtain ⟨p,hp,e,_⟩:=leaves_mem hmem;exact ⟨p,_,e,by rw [← HL.out];exact hp⟩);have h7:=hi1 z (by simp);rw [e8] at h7;obtain ⟨s7,c70,c71,c72⟩:=h7;have HZE:Hid (stab Mem.w (leaves ws)=[.leaf x p]):=(show _=_ by rw [← hmm,List.map_singleton,e8]);have HB2:=Lib.hid (HB1.out.trans (hb2.mono HB1.out.size));have HO2:=Lib.hid (HO.out.later hb2);have e21:=HO2.out.cell (by simp) (k:=p) (by simpa using hp8);have f21:=HO2.out.frozen (by simp) p;clear hz1 hmm hi1 hb2 e8)))
   go_ret2
   refine ⟨some ⟨w.heap.size,0,none⟩,n,n,ret_tup2 rfl (by rw [HE.out.1];rfl),?_,?_,HB2.out.setCell (Nat.le_refl _) _⟩
   ·rw [HE.out.2,lensOf,if_pos HONE.out,bumps_len,List.length_replicate,HL.out]
   ·have e5:lensOf ws m=(List.replicate n 0).set p 1:=by
     rw [lensOf,if_pos HONE.out]
     have e6:leaves ws=[.leaf x p]:=by
      obtain ⟨t,ht⟩:=List.length_eq_one_iff.1 HONE.out
      have:=HZE.out
      rw [ht] at this ⊢
      exact this
     rw [e6,HL.out]
     show (List.replicate n (0:Int)).set p ((List.replicate n (0:Int)).getD p 0+1)=_
     rw [List.getD_eq_getElem?_getD,List.getElem?_replicate]
     simp [hp8]
    rw [HE.out.2,e5]
    exact HO2.out.store (by simp) p 1
  ·have HONE:=Lib.hid hone
   clear hone
   go_enter Tryz.func109,Tryz.ntmps109
   go_wp2_with (first
    | (go_at_call 155;(with_reducible refine HW.out.mono ?_);go_must (rintro e w1 ⟨rfl,rfl⟩))
    | (at_make;refine wpList_makeI rfl _ _ rfl n _ rfl rfl rfl (by omega) ?_;intro w1 hown hb1 hsz;have HO:=Lib.hid hown;have HB1:=Lib.hid hb1;clear hown hb1)
    | (go_at_call 156;(with_reducible refine (HIT.out _ HB1.out).mono ?_);go_must (rintro e w2 ⟨A1,n1,c1,zs1,rfl,hn1',hz1,hmm,hi1,hb2⟩;have hN:n1=(leaves ws).length:=(by have:=congrArg List.length hmm;rw [(stab_ss _).2.length,List.length_map] at this;omega);have HN:=Lib.hid hN;have HZ1:=Lib.hid hz1;have HMM:=Lib.hid hmm;have HI1:=Lib.hid hi1;have hn300:n1≤300:=(by omega);have hne:n1 ≠ 1:=(by have:=HONE.out;omega);have hne':((n1:Int) == 1)=false:=(beq_eq_false_iff_ne.2 (by omega));have HB2:=Lib.hid (HB1.out.trans (hb2.mono HB1.out.size));have HBX:=Lib.hid hb2;have HO2:=Lib.hid (HO.out.later hb2);clear hn1' hz1 hmm hi1 hb2 hN)))
   have hlc:n1≤c1∧c1≤maxLen:=by
    have h1:=HZ1.out.form
    obtain ⟨_,_,e,_,h2,h3⟩:=h1
    injection e with _ e1 e2
    subst e1 e2
    exact ⟨h2,h3⟩
   obtain ⟨hlc1,hlc2⟩:=hlc
   go_loopw [34,8] (fun vi v wr=>∃ (k:Nat) (A:Option Addr) (nl cl:Nat) (zl:List MP),vi=.int .i64 k∧k≤m - 1∧v=.slice A nl cl∧nl≤cl∧cl≤maxLen∧nl≤600∧Hid (RdP wr wr.heap.size A nl zl)∧Hid (∀ a,A=some a→w1.heap.size≤a.block) ∧
     Hid (∀ z ∈ zl,isM wr (Rng w1.heap.size wr.heap.size) z.1 z.2)∧Hid (zl.map Prod.snd=pmL (stab Mem.w (leaves ws)) k)∧Below w2.heap.size w2 wr)
    (fun vi _ _=>m - (intOf vi).toNat)
   case atStart=>exact ⟨0,A1,n1,c1,zs1,rfl,by omega,rfl,hlc1,hlc2,by omega,(show RdP _ _ _ _ _ from HZ1.out.rd),(show ∀ a,_ from HZ1.out.lo),HI1,HMM,Below.refl _ _⟩
   case round =>
    obtain ⟨k,Al,nl,cl,zl,rfl,hk,rfl,hl1,hl2,hl3,HR,HA,HI,HP,hB⟩:=hrel
    by_cases hlt:k < m - 1
    ·have hltz:(k:Int) < (m:Int) - 1:=by omega
     have hW5:=pm_weight15 (first:=stab Mem.w (leaves ws)) (fun t ht=>leaves_w HQ5.out t (stab_mem.1 ht)) (k:=k) (by omega)
     have HPK:=Lib.hid (packages_any w1.heap.size wr.heap.size nl cl Al zl wr HR.out hl1 hl2 (Nat.le_refl _) (by omega) HA.out (by have:=HBX.out.size;have:=hB.size;omega) HI.out (fun z hz=>hW5 z.2 (by rw [← HP.out];exact List.mem_map_of_mem hz)))
     have HMG:=Lib.hid (fun (wp:World) (hb:Below wr.heap.size wr wp) (A':Option Addr) (n' c':Nat) (zp:List MP) (ho:ownP wp wr.heap.size (.slice A' n' c') zp) (h1:n'≤600) (h2:n'≤c'∧c'≤maxLen) (hi:∀ z ∈ zp,isM wp (Rng w1.heap.size wp.heap.size) z.1 z.2) =>
      merged_any (fun _=>True) wp.heap.size n1 n' c1 c' A1 A' zs1 zp wp (((HZ1.out.rd.blw hB).blw (hb.mono hB.size)).more (by have:=hB.size;have:=hb.size;omega)) ho.rd hlc1 h2.1 hlc2 h2.2 (Nat.le_refl _) (by omega)
       (fun z hz=>hz.elim (fun h=>(((HI1.out z h).blw hB (Nat.le_refl _)).blw hb hB.size).weight) (fun h=>(hi z h).weight)))
     clear hW5
     go_wp2_with (first
      | (go_at_call 158;(with_reducible refine HPK.out.mono ?_);go_must (rintro e wp ⟨A3,n3,c3,zs3,rfl,hn3,ho3,hp3,hi3,hb3⟩;have hl9:n3≤600:=(by have e1:=congrArg List.length hp3;rw [packs_len,List.length_map,List.length_map] at e1;have:=HR.out.len;omega);have hl8:n3≤c3∧c3≤maxLen:=(by obtain ⟨_,_,e,_,h2,h3⟩:=ho3.form;injection e with _ e1 e2;subst e1 e2;exact ⟨h2,h3⟩);have HO3:=Lib.hid ho3;have HP3:=Lib.hid hp3;have HI3:=Lib.hid hi3;have HB3:=Lib.hid hb3;have HX3:=Lib.hid (HMG.out wp hb3 A3 n3 c3 zs3 ho3 hl9 hl8 hi3);clear hn3 ho3 hp3 hi3 hb3))
      | (go_at_call 157;(with_reducible refine HX3.out.mono ?_);go_must (rintro e wq ⟨A4,n4,c4,zs4,rfl,hn4,ho4,hp4,hb4⟩;have HN4:=Lib.hid hn4;have HO4:=Lib.hid ho4;have HP4:=Lib.hid hp4;have HB4:=Lib.hid hb4;clear hn4 ho4 hp4 hb4)))
     have hsz4:=HB4.out.size
     have hsz3:=HB3.out.size
     have hsz2:=hB.size
     have hszx:=HBX.out.size
     have hpm:zs4.map Prod.snd=pmL (stab Mem.w (leaves ws)) (k+1):=by
      rw [HP4.out,show (mw:MP→Int)=fun x=>Mem.w (Prod.snd x) from rfl,mrgBy_map,HP3.out,HP.out,HMM.out]
      rfl
     have hl4:n4≤c4∧c4≤maxLen:=by
      obtain ⟨_,_,e,_,h2,h3⟩:=HO4.out.form
      injection e with _ e1 e2
      subst e1 e2
      exact ⟨h2,h3⟩
     have hn4:n4≤600:=by
      have e1:=congrArg List.length hpm
      rw [pmL_len,List.length_map,stab_lenM,← HP.out,List.length_map] at e1
      have:=HR.out.len
      have:=HN.out
      have:=HN4.out
      omega
     go_roundw
     case rel =>
      refine ⟨k+1,A4,n4,c4,zs4,by go_num,by omega,rfl,hl4.1,hl4.2,hn4,(show RdP _ _ _ _ _ from HO4.out.rd),(show ∀ a,_ from fun a ha=>by have:=HO4.out.lo a ha;omega),(show ∀ z ∈ _,_ from fun z hz=>?_),hpm,(hB.trans (HB3.out.mono hsz2)).trans (HB4.out.mono (by omega))⟩
      have hz':=hz
      rw [HP4.out,mrgBy_mem] at hz'
      rcases hz' with h | h
      ·exact ((((HI1.out z h).blw hB (Nat.le_refl _)).blw HB3.out hsz2).blw HB4.out (by omega)).more (Nat.le_refl _) (by omega)
      ·exact ((HI3.out z h).blw HB4.out (Nat.le_refl _)).more (Nat.le_refl _) hsz4
     case measure=>simp [intOf];omega
    ·have hltz:¬ (k:Int) < (m:Int) - 1:=by omega
     obtain rfl:k=m - 1:=by omega
     have hlen:2 * n1 - 2≤nl:=by
      have e1:=congrArg List.length HP.out
      rw [List.length_map,HR.out.len] at e1
      have e2:=pm_enough (stab Mem.w (leaves ws)) (m - 1) (by rw [stab_lenM,show m - 1+1=m by omega];exact HQ6.out)
      rw [stab_lenM,← e1,← HN.out] at e2
      exact e2
     obtain ⟨q,hq⟩:∃ q,q=2 * n1 - 2:=⟨_,rfl⟩
     obtain ⟨wo,rfl⟩:∃ wo:World,wo=wr:=⟨_,rfl⟩
     have HQ:Hid (q=2 * (leaves ws).length - 2):=(show _=_ by rw [hq,HN.out])
     have HOL:Hid (ownI wo w.heap.size (.slice (some ⟨w.heap.size,0,none⟩) n n) (bumps (List.replicate n 0) (((zl.map Prod.snd).take 0).flatMap Mem.items))):=(show ownI _ _ _ _ from HO2.out.later hB)
     by_cases h0:n1=0
     ·have hs0:2 * (n1:Int) - 2 < 0:=by omega
      have hs1:¬ 0≤2 * (n1:Int) - 2:=by omega
      obtain rfl:q=0:=by omega
      clear hq
      go_wp2_with fail
      go_loopw [49] (fun vi wr=>∃ j:Nat,vi=.int .i64 j∧j≤0∧Hid (ownI wr w.heap.size (.slice (some ⟨w.heap.size,0,none⟩) n n) (bumps (List.replicate n 0) (((zl.map Prod.snd).take j).flatMap Mem.items)))∧Hid (wo.grownBy wr (some w.heap.size)))
       (fun vi _=>0 - (intOf vi).toNat)
      case atStart=>exact ⟨0,rfl,Nat.zero_le _,HOL,grown_refl0 _ _⟩
      case round =>
       obtain ⟨j,rfl,hjq,HOJ,HG⟩:=hrel
       by_cases hlt2:j < 0
       ·exfalso;omega
       ·obtain rfl:j=0:=by omega
        have HF:Hid (bumps (List.replicate n 0) (((zl.map Prod.snd).take 0).flatMap Mem.items)=lensOf ws m):=(show _=_ by rw [lensOf,if_neg HONE.out,HP.out,HQ.out,HL.out])
        go_wp2_with fail
        go_ret2
        refine ⟨some ⟨w.heap.size,0,none⟩,n,n,ret_tup2 rfl (by rw [HE.out.1];rfl),?_,?_,?_⟩
        ·rw [HE.out.2,← HF.out,bumps_len,List.length_replicate]
        ·rw [HE.out.2,← HF.out];exact HOJ.out
        ·exact (HB2.out.trans (hB.mono HB2.out.size)).grown HG.out (by have:=HB2.out.size;have:=hB.size;omega) (fun g hg=>by injection hg with hg;omega)
     ·have hs1:0≤2 * (n1:Int) - 2:=by omega
      have hs2:2 * (n1:Int) - 2≤cl:=by omega
      have hs3:(2 * (n1:Int) - 2).toNat=q:=by omega
      have hs4:q≤nl:=by omega
      clear hq
      go_wp2_with fail
      go_loopw [49] (fun vi wr=>∃ j:Nat,vi=.int .i64 j∧j≤q∧Hid (ownI wr w.heap.size (.slice (some ⟨w.heap.size,0,none⟩) n n) (bumps (List.replicate n 0) (((zl.map Prod.snd).take j).flatMap Mem.items)))∧Hid (wo.grownBy wr (some w.heap.size)))
       (fun vi _=>q - (intOf vi).toNat)
      case atStart=>exact ⟨0,rfl,Nat.zero_le _,HOL,grown_refl0 _ _⟩
      case round =>
       obtain ⟨j,rfl,hjq,HOJ,HG⟩:=hrel
       by_cases hlt2:j < q
       ·obtain ⟨b,o,z,eA,hb,HX,e1⟩:=(rdP_grown HR.out HG.out (Nat.le_refl _) (fun a ha=>Nat.lt_of_lt_of_le hsz (HA.out a ha))).one (show j < nl by omega)
        have hzm:z ∈ zl:=List.mem_of_getElem? HX.out
        have htm:z.2 ∈ pmL (stab Mem.w (leaves ws)) (m - 1):=by rw [← HP.out];exact List.mem_map_of_mem hzm
        have HST:Hid ((((zl.map Prod.snd).take (j+1)).flatMap Mem.items)=(((zl.map Prod.snd).take j).flatMap Mem.items) ++ z.2.items):=(show _=_ by
         have e5:(zl.map Prod.snd)[j]?=some z.2:=by rw [List.getElem?_map,HX.out];rfl
         obtain ⟨e6,e7⟩:=List.getElem?_eq_some_iff.1 e5
         rw [List.take_succ_eq_append_getElem e6,e7,List.flatMap_append]
         simp)
        have hS1:=pm_sizes (first:=stab Mem.w (leaves ws)) (fun t ht=>leaves_s t (stab_mem.1 ht)) (m - 1)
        have hpw:2 ^ (m - 1)≤2 ^ 14:=Nat.pow_le_pow_right (by omega) (by omega)
        have hS2:=flat_len (l:=(zl.map Prod.snd).take j) (M:=2 ^ (m - 1)) (fun t ht=>hS1 t (by rw [← HP.out];exact List.mem_of_mem_take ht))
        have hS3:((zl.map Prod.snd).take j).length * 2 ^ (m - 1)≤600 * 2 ^ 14:=Nat.mul_le_mul (by simp;omega) hpw
        have hS4:=hS1 z.2 htm
        have hpp:=pm_places (first:=stab Mem.w (leaves ws)) (n:=n) (fun t ht=>by have:=leaves_p t (stab_mem.1 ht);rwa [HL.out] at this) (m - 1) z.2 htm
        have HC:=Lib.hid (counts_any w.heap.size w.heap.size n n wo.heap.size (by omega) z.2 z.1 _ ((((zl.map Prod.snd).take j).flatMap Mem.items).length:Nat) wr (((HI.out z hzm).sg hsz).gro HG.out (Nat.le_refl _)) HG.out.size HOJ.out (by rw [bumps_len,List.length_replicate]) hpp
         (fun x hx=>by have:=bumps_rng (xs:=List.replicate n 0) (M:=0) (fun y hy=>by rw [List.eq_of_mem_replicate hy];omega) (by omega) x hx;omega) (by omega) (by omega))
        clear hS1 hS2 hS3 hS4 hpw hpp htm hzm
        subst eA
        go_wp2_with (go_at_call 159;(with_reducible refine HC.out.mono ?_);go_must (rintro e w9 ⟨rfl,ho9,hg9⟩;have HO9:=Lib.hid ho9;have HG9:=Lib.hid (grown_trans HG.out hg9);clear ho9 hg9))
        go_roundw
        case rel=>exact ⟨j+1,by go_num,by omega,(show ownI _ _ _ _ by rw [HST.out,bumps_append];exact HO9.out),HG9⟩
        case measure=>simp [intOf];omega
       ·obtain rfl:j=q:=by omega
        have HF:Hid (bumps (List.replicate n 0) (((zl.map Prod.snd).take j).flatMap Mem.items)=lensOf ws m):=(show _=_ by rw [lensOf,if_neg HONE.out,HP.out,HQ.out,HL.out])
        go_wp2_with fail
        go_ret2
        refine ⟨some ⟨w.heap.size,0,none⟩,n,n,ret_tup2 rfl (by rw [HE.out.1];rfl),?_,?_,?_⟩
        ·rw [HE.out.2,← HF.out,bumps_len,List.length_replicate]
        ·rw [HE.out.2,← HF.out];exact HOJ.out
        ·exact (HB2.out.trans (hB.mono HB2.out.size)).grown HG.out (by have:=HB2.out.size;have:=hB.size;omega) (fun g hg=>by injection hg with hg;omega)
end Go.Proofs.YteoolehdomjkkaaGreat

/- flate: zeros at a list's end cut away; how often each symbol stands. -/
namespace Go.Proofs.YteoolehdomjkkaaGreat
set_option linter.all false
open Go.RowKit
/-- How many stay of k when zeros at the end are cut away. -/
def cutK (ls:List Int) (least:Nat):Nat→Nat
 | 0=>0
 | k+1=>if least < k+1∧ls.getD k 0=0 then cutK ls least k else k+1
def cutL (ls:List Int) (least:Nat):List Int:=ls.take (cutK ls least ls.length)
theorem cutK_le (ls:List Int) (least:Nat):∀ k,cutK ls least k≤k
 | 0=>Nat.le_refl _
 | k+1=>by
  have:=cutK_le ls least k
  unfold cutK
  split <;> omega
theorem cutK_ge (ls:List Int) (least:Nat):∀ k,least≤k→least≤cutK ls least k
 | 0,h=>h
 | k+1,h=>by
  unfold cutK
  split
  ·rename_i e;exact cutK_ge ls least k (by omega)
  ·exact h
theorem cutK_on {ls:List Int} {least k:Nat} {x:Int} (h:least < k+1) (hx:ls[k]?=some x) (h0:x=0):cutK ls least (k+1)=cutK ls least k:=by
 have:least < k+1∧ls.getD k 0=0:=⟨h,by rw [List.getD_eq_getElem?_getD,hx];exact h0⟩
 exact if_pos this
theorem cutK_off {ls:List Int} {least k:Nat} {x:Int} (hx:ls[k]?=some x) (h0:¬ x=0):cutK ls least (k+1)=k+1 :=
 if_neg fun h=>h0 (by have:=h.2;rw [List.getD_eq_getElem?_getD,hx] at this;exact this)
theorem cutK_least {ls:List Int} {least k:Nat} (h:k≤least):cutK ls least k=k:=by
 cases k with
 | zero=>rfl
 | succ k=>exact if_neg fun e=>by omega
theorem cutL_len (ls:List Int) (least:Nat):(cutL ls least).length=cutK ls least ls.length:=by
 unfold cutL
 rw [List.length_take]
 have:=cutK_le ls least ls.length
 omega
def sliLen:Value→Nat
 | .slice _ k _=>k
 | _=>0
set_option maxRecDepth 100000 in
set_option maxHeartbeats 3200000 in
theorem cut_any (B n c:Nat) (A:Option Addr) (ls:List Int) (least:Nat) (w:World) (h:RdI w B A n ls) (hB:B≤w.heap.size) (hn:n≤1000) (hl9:least≤1000) (hc:n≤c) (hc9:c≤maxLen) :
  Calls Tryz.prog 110 #[.slice A n c,.int .i64 (least:Int)] w fun e w'=>e=.returned (.slice A (cutK ls least n) c)∧Below w.heap.size w w':=by
 have HR:=Lib.hid h
 have HC:=Lib.hid hc
 have hc7:c≤9223372036854775807:=by unfold maxLen at hc9;omega
 clear h hc9
 have HB0:=Lib.hid (Below.refl w.heap.size w)
 go_enter Tryz.func110,Tryz.ntmps110
 go_wp2_with fail
 go_loopw [0] (fun vl wr=>∃ k:Nat,k≤n∧vl=.slice A k c∧Hid (cutK ls least k=cutK ls least n)∧Hid (Below w.heap.size w wr)) (fun vl _=>sliLen vl)
 case atStart=>exact ⟨n,Nat.le_refl _,rfl,(show _=_ from rfl),HB0⟩
 case round =>
  clear HB0
  obtain ⟨k,hk,rfl,HE,HB1⟩:=hrel
  by_cases hlt:least < k
  ·have hlti:(least:Int) < (k:Int):=by omega
   obtain ⟨q,rfl⟩:∃ q,k=q+1:=⟨k - 1,by omega⟩
   have hqi:((q+1:Nat):Int) - 1=(q:Int):=by omega
   obtain ⟨b,o,x,rfl,hb,HX,e1⟩:=HR.out.one (show q < n by omega)
   have e1:=(HB1.out.cell (p:=⟨b,o+q,none⟩) (by show b < _;omega)).trans e1
   have hqc:q+1≤c:=by have:=HC.out;omega
   by_cases hx:x=0
   ·subst hx
    have d1:((0:Int) == 0)=true:=rfl
    have HE1:Hid (cutK ls least q=cutK ls least n):=(show _=_ by rw [← HE.out];exact (cutK_on hlt HX.out rfl).symm)
    obtain ⟨p,hp⟩:∃ p,q+1=p:=⟨_,rfl⟩
    rw [hp] at hqi hlti hqc
    simp only [hp]
    go_wp2_with fail
    go_roundw
    case rel=>exact ⟨q,by omega,rfl,HE1,HB1.out⟩
    case measure=>simp [sliLen];omega
   ·have d1:(x == 0)=false:=beq_eq_false_iff_ne.2 hx
    have HE1:Hid (q+1=cutK ls least n):=(show _=_ by rw [← HE.out];exact (cutK_off HX.out hx).symm)
    obtain ⟨p,hp⟩:∃ p,q+1=p:=⟨_,rfl⟩
    rw [hp] at hqi hlti hqc HE1
    simp only [hp]
    go_wp2_with fail
    go_ret
    exact ⟨by rw [← HE1.out];rfl,HB1.out⟩
  ·have hlti:¬ (least:Int) < (k:Int):=by omega
   have HE1:Hid (k=cutK ls least n):=(show _=_ by rw [← HE.out,cutK_least (by omega)])
   go_wp2_with fail
   go_ret
   exact ⟨by rw [← HE1.out];rfl,HB1.out⟩
end Go.Proofs.YteoolehdomjkkaaGreat

/- flate: how often each symbol stands. -/
namespace Go.Proofs.YteoolehdomjkkaaGreat
set_option linter.all false
open Go.RowKit
abbrev Tok:=Nat × Nat × Nat
/-- A byte, or a copy. -/
def TokOK (t:Tok):Prop:=(t.1=0∧t.2.2 < 256)∨(3≤t.1∧t.1≤258∧1≤t.2.1∧t.2.1≤32768)
def symT (t:Tok):Nat:=if t.1=0 then t.2.2 else 257+lenS t.1
def dstT (t:Tok):List Nat:=if t.1=0 then [] else [distS t.2.1]
def weighL (ts:List Tok):List Int:=bumps ((List.replicate 286 0).set 256 1) (ts.map symT)
def weighD (ts:List Tok):List Int:=bumps (List.replicate 30 0) (ts.flatMap dstT)
theorem symT_lt {t:Tok} (h:TokOK t):symT t < 286:=by
 unfold symT
 rcases h with ⟨h1,h2⟩ | ⟨h1,h2,_,_⟩
 ·rw [if_pos h1];omega
 ·rw [if_neg (by omega)]
  have:=(lenS_spec (x:=t.1) h1).1
  omega
theorem symV_at {y:Nat} (h:3≤y) (h2:y≤258):symV (y:Int)=(257+(lenS y:Int),((lenOf (lenS y)).2:Int),(y:Int) - ((lenOf (lenS y)).1:Int)):=by
 unfold symV
 rw [if_neg (by omega)]
 rfl
theorem dstV_at {y:Nat} (h:1≤y) (h2:y≤32768):dstV (y:Int)=((distS y:Int),((distOf (distS y)).2:Int),(y:Int) - ((distOf (distS y)).1:Int)):=by
 unfold dstV
 rw [if_neg (by omega)]
 rfl
theorem take_map_snoc {α:Type} {β:Type} (f:α→β) {l:List α} {k:Nat} {x:α} (h:l[k]?=some x):(l.take (k+1)).map f=(l.take k).map f ++ [f x]:=by
 obtain ⟨hk,hx⟩:=List.getElem?_eq_some_iff.1 h
 rw [List.take_succ_eq_append_getElem hk,hx]
 simp
theorem take_flat_snoc {α:Type} {β:Type} (f:α→List β) {l:List α} {k:Nat} {x:α} (h:l[k]?=some x):(l.take (k+1)).flatMap f=(l.take k).flatMap f ++ f x:=by
 obtain ⟨hk,hx⟩:=List.getElem?_eq_some_iff.1 h
 rw [List.take_succ_eq_append_getElem hk,hx]
 simp
theorem dstT_len (ts:List Tok):(ts.flatMap dstT).length≤ts.length:=by
 induction ts with
 | nil=>simp
 | cons t r ih =>
  rw [List.flatMap_cons,List.length_append,List.length_cons]
  have:(dstT t).length≤1:=by unfold dstT;split <;> simp
  omega
theorem w286_rng:∀ x ∈ ((List.replicate 286 (0:Int)).set 256 1),0≤x∧x≤1:=by
 intro x hx
 rcases List.mem_or_eq_of_mem_set hx with h | rfl
 ·rw [List.mem_replicate] at h;omega
 ·omega
theorem w30_rng:∀ x ∈ (List.replicate 30 (0:Int)),0≤x∧x≤1:=by
 intro x hx
 rw [List.mem_replicate] at hx
 omega
theorem weighL_len (ts:List Tok):(weighL ts).length=286:=by unfold weighL;rw [bumps_len,List.length_set,List.length_replicate]
theorem weighD_len (ts:List Tok):(weighD ts).length=30:=by unfold weighD;rw [bumps_len,List.length_replicate]
theorem weighL_rng (ts:List Tok):∀ x ∈ weighL ts,0≤x∧x≤1+ts.length:=by
 intro x hx
 have:=bumps_rng w286_rng (by omega) x hx
 rwa [List.length_map] at this
theorem weighD_rng (ts:List Tok):∀ x ∈ weighD ts,0≤x∧x≤1+ts.length:=by
 intro x hx
 have:=bumps_rng w30_rng (by omega) x hx
 have h2:=dstT_len ts
 omega
def zeroI (n:Nat):Obj:=.cells (madeCells (Value.int .i64 0).cells (n * 1)) 3
theorem run_makeI (w:World) (n:Nat) (hn:n≤1099511627776) :
  (Instr.makeSlice 41 (.int .i64 (n:Int)) (.int .i64 (n:Int))).run Tryz.prog w=.ok (.slice (some ⟨w.heap.size,0,none⟩) n n) (w.alloc (zeroI n)):=by
 obtain ⟨i0,hi,hz0,hz1,hz2⟩:=info_parts Tryz.info_I
 have hr:=run_make (P:=Tryz.prog) w 41 3 i0 _ Tryz.underlying41 hi hz0 .i64 .i64 n n (by omega) (Int.le_refl _) (by rw [hz2];omega) (by omega)
 simp only [Int.toNat_natCast,hz1] at hr
 exact hr
theorem own_zeroI (w:World) (n:Nat) (hn:n≤1099511627776):ownI (w.alloc (zeroI n)) w.heap.size (.slice (some ⟨w.heap.size,0,none⟩) n n) (List.replicate n 0):=by
 have h:=World.ownsRow_lit (base:=w.heap.size) (size:=1) (e:=3) w (madeCells (Value.int .i64 0).cells (n * 1)) n (Nat.le_refl _) (by unfold maxLen;omega) (size_madeCells _ _)
 unfold ownI
 rw [List.length_replicate]
 have e1:cI (List.replicate n (0:Int))=List.replicate n (Value.int .i64 0):=by simp [cI]
 rw [e1]
 have:(madeCells (Value.int .i64 0).cells (n * 1)).toList=List.replicate n (Value.int .i64 0):=by
  rw [Nat.mul_one];exact toList_madeCells_one _ _
 rwa [this] at h
theorem symbol_at (a s m r:Nat) (h:3≤a) (h2:a≤258) (hs:257+lenS a=s) (hm:(lenOf (lenS a)).2=m) (hr:a - (lenOf (lenS a)).1=r) (w:World):Calls Tryz.prog 26 #[.int .i64 (a:Int)] w fun e w'=>e=.returned (.tuple #[.int .i64 (s:Int),.int .i64 (m:Int),.int .i64 (r:Int)])∧w=w':=by
 refine (symbol_any (a:Int) w).mono ?_
 rintro e w' ⟨rfl,rfl⟩
 have:=(lenS_spec (x:=a) h).2.1
 rw [symV_at h h2]
 refine ⟨?_,rfl⟩
 rw [← hs,← hm,← hr,Int.natCast_sub this]
 rfl
theorem distance_at (a s m r:Nat) (h:1≤a) (h2:a≤32768) (hs:distS a=s) (hm:(distOf (distS a)).2=m) (hr:a - (distOf (distS a)).1=r) (w:World):Calls Tryz.prog 28 #[.int .i64 (a:Int)] w fun e w'=>e=.returned (.tuple #[.int .i64 (s:Int),.int .i64 (m:Int),.int .i64 (r:Int)])∧w=w':=by
 refine (distance_any (a:Int) w).mono ?_
 rintro e w' ⟨rfl,rfl⟩
 have:=(distS_spec (x:=a) h).2.1
 rw [dstV_at h h2]
 refine ⟨?_,rfl⟩
 rw [← hs,← hm,← hr,Int.natCast_sub this]
theorem bump_set {l:List Int} {p:Nat} {x:Int} (h:l[p]?=some x):bump l p=l.set p (x+1):=by
 unfold bump
 rw [List.getD_eq_getElem?_getD,h]
 rfl
theorem bumps_snoc (l:List Int) (ps:List Nat) (p:Nat):bumps l (ps ++ [p])=bump (bumps l ps) p:=by rw [bumps_append];rfl
set_option maxRecDepth 100000 in
set_option maxHeartbeats 3200000 in
theorem weigh_any (B n c:Nat) (A:Option Addr) (ts:List Tok) (w:World) (h:RdK w B A n ts) (hB:B≤w.heap.size) (hn:n≤50000) (hok:∀ t ∈ ts,TokOK t) :
  Calls Tryz.prog 108 #[.slice A n c] w fun e w'=>∃ ga gb,e=.returned (.tuple #[.slice (some ⟨ga,0,none⟩) 286 286,.slice (some ⟨gb,0,none⟩) 30 30])∧RdI w' w'.heap.size (some ⟨ga,0,none⟩) 286 (weighL ts)∧RdI w' w'.heap.size (some ⟨gb,0,none⟩) 30 (weighD ts)∧Below w.heap.size w w':=by
 have HR:=Lib.hid h
 have HOK:=Lib.hid hok
 have hl:=h.len
 have hm1:∀ w,(Instr.makeSlice 41 (.int .i64 286) (.int .i64 286)).run Tryz.prog w=.ok (.slice (some ⟨w.heap.size,0,none⟩) 286 286) (w.alloc (zeroI 286)):=fun w=>run_makeI w 286 (by omega)
 have hm2:∀ w,(Instr.makeSlice 41 (.int .i64 30) (.int .i64 30)).run Tryz.prog w=.ok (.slice (some ⟨w.heap.size,0,none⟩) 30 30) (w.alloc (zeroI 30)):=fun w=>run_makeI w 30 (by omega)
 clear h hok
 go_enter Tryz.func108,Tryz.ntmps108
 go_upto_region 1 with fail
 go_cut [4,5] (fun u v wc=>∃ ga gb,u=.slice (some ⟨ga,0,none⟩) 286 286∧v=.slice (some ⟨gb,0,none⟩) 30 30∧(ga ≠ gb∧w.heap.size≤ga∧w.heap.size≤gb∧ga < wc.heap.size∧gb < wc.heap.size)∧ownI wc w.heap.size (.slice (some ⟨ga,0,none⟩) 286 286) (List.replicate 286 0)∧ownI wc w.heap.size (.slice (some ⟨gb,0,none⟩) 30 30) (List.replicate 30 0)∧Below w.heap.size w wc)
 case first =>
  go_region
  all_goals
   go_wp2_with fail
   go_meet
   case rel =>
    first
     | exact ⟨w.heap.size,w.heap.size+1,rfl,rfl,⟨by omega,by omega,by omega,by simp;omega,by simp⟩,((own_zeroI w 286 (by omega)).alloc _).drew,(by have:=(own_zeroI (w.alloc (zeroI 286)) 30 (by omega)).mono (base':=w.heap.size) (by simp);simpa only [World.size_alloc] using this.drew),(((Below.refl w.heap.size w).alloc (Nat.le_refl _) _).alloc (by simp) _).drew⟩
     | exact ⟨w.heap.size+1,w.heap.size,rfl,rfl,⟨by omega,by omega,by omega,by simp,by simp;omega⟩,(by have:=(own_zeroI (w.alloc (zeroI 30)) 286 (by omega)).mono (base':=w.heap.size) (by simp);simpa only [World.size_alloc] using this.drew),((own_zeroI w 30 (by omega)).alloc _).drew,(((Below.refl w.heap.size w).alloc (Nat.le_refl _) _).alloc (by simp) _).drew⟩
 case rest =>
  clear hm1 hm2
  obtain ⟨ga,gb,rfl,rfl,⟨hgab,hga,hgb,hgaw,hgbw⟩,hoa,hob,hbw⟩:=hcut
  have c6:=hoa.cell (by rw [List.length_replicate]) (k:=256) (by rw [List.length_replicate];omega)
  have f6:=hoa.frozen (by rw [List.length_replicate]) 256
  have HOA:=Lib.hid (hoa.store (by rw [List.length_replicate]) 256 1)
  have HOB:=Lib.hid (hob.far (g:=ga) (by intro e;injection e with e;exact hgab e.symm) 256 (.int .i64 1))
  have HBW:=Lib.hid (hbw.setCell (p:=⟨ga,256,none⟩) hga (.int .i64 1))
  have hsz:(wc.setCell ⟨ga,256,none⟩ (.int .i64 1)).heap.size=wc.heap.size:=by simp
  clear hoa hob hbw
  go_wp2_with fail
  go_loopw [20] (fun vi wr=>∃ k:Nat,k≤n∧vi=.int .i64 k∧Hid (ownI wr w.heap.size (.slice (some ⟨ga,0,none⟩) 286 286) (bumps ((List.replicate 286 0).set 256 1) ((ts.take k).map symT)))∧Hid (ownI wr w.heap.size (.slice (some ⟨gb,0,none⟩) 30 30) (bumps (List.replicate 30 0) ((ts.take k).flatMap dstT)))∧Hid (Below w.heap.size w wr)∧ga < wr.heap.size∧gb < wr.heap.size) (fun vi _=>n - (intOf vi).toNat)
  case atStart=>exact ⟨0,Nat.zero_le _,rfl,HOA,HOB,HBW,by rw [hsz];exact hgaw,by rw [hsz];exact hgbw⟩
  case round =>
   clear HOA HOB HBW hsz hgaw hgbw
   obtain ⟨k,hk,rfl,HOA,HOB,HBW,hgaw,hgbw⟩:=hrel
   by_cases hlt:k < n
   ·have hlti:(k:Int) < (n:Int):=by omega
    obtain ⟨b,o,⟨a,d,y⟩,rfl,hb,HX,e1,e2,e3⟩:=(HR.out.blw (HBW.out.mono hB)).one hlt
    have hok:=HOK.out _ (List.mem_of_getElem? HX.out)
    have HLA:=Lib.hid (weighL_len (ts.take k))
    have HLB:=Lib.hid (weighD_len (ts.take k))
    have HRA:=Lib.hid (weighL_rng (ts.take k))
    have HRB:=Lib.hid (weighD_rng (ts.take k))
    have HTL:Hid ((ts.take k).length≤50000):=(show _≤_ by rw [List.length_take];omega)
    have HSA:Hid (bumps ((List.replicate 286 0).set 256 1) ((ts.take (k+1)).map symT)=bump (weighL (ts.take k)) (symT (a,d,y))):=(show _=_ by rw [take_map_snoc symT HX.out,bumps_snoc];rfl)
    have HSB:Hid (bumps (List.replicate 30 0) ((ts.take (k+1)).flatMap dstT)=bumps (weighD (ts.take k)) (dstT (a,d,y))):=(show _=_ by rw [take_flat_snoc dstT HX.out,bumps_append];rfl)
    have HOA:Hid (ownI wr w.heap.size (.slice (some ⟨ga,0,none⟩) 286 286) (weighL (ts.take k))):=HOA
    have HOB:Hid (ownI wr w.heap.size (.slice (some ⟨gb,0,none⟩) 30 30) (weighD (ts.take k))):=HOB
    generalize weighL (ts.take k)=la at *
    generalize weighD (ts.take k)=lb at *
    have hgaN:¬ ga=wr.heap.size:=by omega
    have hgbN:¬ gb=wr.heap.size:=by omega
    have hbN:¬ b=wr.heap.size:=by have:=HBW.out.size;omega
    by_cases ha:a=0
    ·have d1:((a:Int) == 0)=true:=by rw [ha];rfl
     have hy:y < 256:=by rcases hok with ⟨_,h⟩ | ⟨h,_⟩;exact h;(have:3≤a:=h);omega
     have hsym:symT (a,d,y)=y:=if_pos ha
     have hdst:dstT (a,d,y)=[]:=if_pos ha
     rw [hsym] at HSA
     rw [hdst] at HSB
     have hyl:y < la.length:=by rw [HLA.out];omega
     have HXV:=Lib.hid (List.getElem?_eq_getElem hyl)
     have c7:=HOA.out.cell HLA.out.symm hyl
     have f7:=HOA.out.frozen HLA.out.symm y
     have hr7:=HRA.out _ (List.getElem_mem hyl)
     generalize la[y]=x at *
     have HOA2:=Lib.hid (fun o'=>(HOA.out.store HLA.out.symm y (x+1)).alloc o')
     rw [← bump_set HXV.out,← HSA.out] at HOA2
     have HOB2:=Lib.hid (fun o'=>(HOB.out.far (g:=ga) (by intro e;injection e with e;exact hgab e.symm) y (.int .i64 (x+1))).alloc o')
     have HBW2:=Lib.hid (fun o'=>Below.alloc (HBW.out.setCell (p:=⟨ga,y,none⟩) hga (.int .i64 (x+1))) (by have:=HBW.out.size;simp;omega) o')
     have hx7:0≤x∧x≤50001:=by have:=HTL.out;omega
     clear HOA HOB HBW HRA HRB HTL hok hr7 HXV
     go_wp2_with fail
     go_roundw
     case rel=>exact ⟨k+1,by omega,by go_num,HOA2.out _,(show ownI _ _ _ _ by rw [HSB.out];exact HOB2.out _),HBW2.out _,by simp;omega,by simp;omega⟩
     case measure=>simp [intOf];omega
    ·have d1:((a:Int) == 0)=false:=beq_eq_false_iff_ne.2 (by omega)
     obtain ⟨h3,h4,h5,h6⟩:3≤a∧a≤258∧1≤d∧d≤32768:=by rcases hok with ⟨h,_⟩ | h;exact absurd h ha;exact h
     have hsym:symT (a,d,y)=257+lenS a:=if_neg ha
     have hdst:dstT (a,d,y)=[distS d]:=if_neg ha
     rw [hsym] at HSA
     rw [hdst] at HSB
     have q1:=(lenS_spec (x:=a) h3).1
     have q2:=(distS_spec (x:=d) h5).1
     obtain ⟨s,hs⟩:∃ s,257+lenS a=s:=⟨_,rfl⟩
     obtain ⟨q,hq⟩:∃ q,distS d=q:=⟨_,rfl⟩
     have HS1:=Lib.hid (fun w=>symbol_at a s _ _ h3 h4 hs rfl rfl w)
     have HS2:=Lib.hid (fun w=>distance_at d q _ _ h5 h6 hq rfl rfl w)
     generalize (lenOf (lenS a)).2=m1 at *
     generalize a - (lenOf (lenS a)).1=r1 at *
     generalize (distOf (distS d)).2=m2 at *
     generalize d - (distOf (distS d)).1=r2 at *
     rw [hs] at HSA
     rw [hq] at HSB
     have hsl:s < la.length:=by rw [HLA.out];omega
     have hql:q < lb.length:=by rw [HLB.out];omega
     have hs286:s < 286:=by omega
     have hq30:q < 30:=by omega
     have HXV:=Lib.hid (List.getElem?_eq_getElem hsl)
     have HYV:=Lib.hid (List.getElem?_eq_getElem hql)
     have c7:=HOA.out.cell HLA.out.symm hsl
     have f7:=HOA.out.frozen HLA.out.symm s
     have hr7:=HRA.out _ (List.getElem_mem hsl)
     have c8:=HOB.out.cell HLB.out.symm hql
     have f8:=HOB.out.frozen HLB.out.symm q
     have hr8:=HRB.out _ (List.getElem_mem hql)
     generalize la[s]=x at *
     generalize lb[q]=z at *
     have hgba:¬ gb=ga:=fun e=>hgab e.symm
     have HOA2:=Lib.hid (fun o'=>((HOA.out.store HLA.out.symm s (x+1)).far (g:=gb) (by intro e;injection e with e;exact hgab e) q (.int .i64 (z+1))).alloc o')
     rw [← bump_set HXV.out,← HSA.out] at HOA2
     have HOB2:=Lib.hid (fun o'=>((HOB.out.far (g:=ga) (by intro e;injection e with e;exact hgab e.symm) s (.int .i64 (x+1))).store HLB.out.symm q (z+1)).alloc o')
     have HSB2:Hid (lb.set q (z+1)=bumps (List.replicate 30 0) ((ts.take (k+1)).flatMap dstT)):=(show _=_ by rw [HSB.out,← bump_set HYV.out];rfl)
     rw [HSB2.out] at HOB2
     have HBW2:=Lib.hid (fun o'=>Below.alloc ((HBW.out.setCell (p:=⟨ga,s,none⟩) hga (.int .i64 (x+1))).setCell (p:=⟨gb,q,none⟩) hgb (.int .i64 (z+1))) (by have:=HBW.out.size;simp;omega) o')
     have hx7:0≤x∧x≤50001:=by have:=HTL.out;omega
     have hx8:0≤z∧z≤50001:=by have:=HTL.out;omega
     clear HOA HOB HBW HRA HRB HTL hok hr7 hr8 HXV HYV HSB HSB2 HSA q1 q2 hs hq
     go_wp2_with (first
      | (go_at_call 26;(with_reducible refine (HS1.out _).mono ?_);go_must (rintro e w5 ⟨rfl,rfl⟩))
      | (go_at_call 28;(with_reducible refine (HS2.out _).mono ?_);go_must (rintro e w5 ⟨rfl,rfl⟩)))
     go_roundw
     case rel=>exact ⟨k+1,by omega,by go_num,HOA2.out _,HOB2.out _,HBW2.out _,by simp;omega,by simp;omega⟩
     case measure=>simp [intOf];omega
   ·obtain rfl:k=n:=by omega
    have HT:Hid (ts.take k=ts):=(show _=_ from List.take_of_length_le (by omega))
    rw [HT.out] at HOA HOB
    have HRA:Hid (RdI wr wr.heap.size (some ⟨ga,0,none⟩) 286 (weighL ts)):=HOA.out.rd
    have HRB:Hid (RdI wr wr.heap.size (some ⟨gb,0,none⟩) 30 (weighD ts)):=HOB.out.rd
    clear HOA HOB
    go_wp2_with fail
    go_ret2
    exact ⟨ga,gb,rfl,HRA.out,HRB.out,HBW.out⟩
end Go.Proofs.YteoolehdomjkkaaGreat

/- A variable that is an array: its cells known as a list. -/
namespace Go.Proofs.YteoolehdomjkkaaGreat
set_option linter.all false
open Go.RowKit
/-- Block g is an array variable that holds cs. -/
def Arr (w:World) (g:Nat) (cs:List Value):Prop:=∃ t,w.heap[g]?=some (.cells cs.toArray t (0,0))
section
variable {w w' : World} {g : Nat} {cs : List Value}
theorem Arr.lt (h:Arr w g cs):g < w.heap.size:=by
 obtain ⟨t,h⟩:=h
 exact (Array.getElem?_eq_some_iff.1 h).1
theorem Arr.cell (h:Arr w g cs) {k:Nat} {v:Value} (hk:cs[k]?=some v):w.cell? ⟨g,k,none⟩=some v:=by
 obtain ⟨t,h⟩:=h
 rw [cell_of_row w g k _ t (0,0) h]
 simpa using hk
theorem Arr.frozen (h:Arr w g cs) (k:Nat):w.frozen? ⟨g,k,none⟩=false:=by
 obtain ⟨t,h⟩:=h
 simp [World.frozen?,h]
theorem Arr.set (h:Arr w g cs) (k:Nat) (v:Value):Arr (w.setCell ⟨g,k,none⟩ v) g (cs.set k v):=by
 obtain ⟨t,h⟩:=h
 refine ⟨t,?_⟩
 rw [setCell_eq_setRow w g k _ t (0,0) v h,setRow_heap w g _ _ t (0,0) h]
 simp
theorem Arr.row (h:Arr w g cs) (ds:List Value):Arr (w.setRow g ds.toArray) g ds:=by
 obtain ⟨t,h⟩:=h
 exact ⟨t,setRow_heap w g _ _ t (0,0) h⟩
theorem Arr.far (h:Arr w g cs) {p:Addr} (hp:p.block ≠ g) (v:Value):Arr (w.setCell p v) g cs:=by
 obtain ⟨t,h⟩:=h
 refine ⟨t,?_⟩
 rw [Below.heap_setCell _ _ _ _ (fun e=>hp e.symm)]
 exact h
theorem Arr.farRow (h:Arr w g cs) {g':Nat} (hp:g' ≠ g) (v:Array Value):Arr (w.setRow g' v) g cs:=by
 obtain ⟨t,h⟩:=h
 refine ⟨t,?_⟩
 rw [setRow_other _ _ _ _ (fun e=>hp e.symm)]
 exact h
theorem Arr.drewN (h:Arr w g cs) (k:Nat):Arr (w.drewN k) g cs:=h
theorem Arr.drew (h:Arr w g cs):Arr w.drew g cs:=h
theorem Arr.alloc (h:Arr w g cs) (o:Obj):Arr (w.alloc o) g cs:=by
 have hl:=h.lt
 obtain ⟨t,h⟩:=h
 exact ⟨t,(heap_alloc_old w o hl).trans h⟩
theorem Arr.new (w:World) (cs:List Value) (t:TypeId):Arr (w.alloc (.cells cs.toArray t)) w.heap.size cs:=⟨t,heap_alloc_new w _⟩
theorem Arr.later (h:Arr w g cs) (hb:Below w.heap.size w w'):Arr w' g cs:=by
 have hl:=h.lt
 obtain ⟨t,h⟩:=h
 exact ⟨t,(hb.block g hl).trans h⟩
theorem Arr.blw {B:Nat} (h:Arr w g cs) (hb:Below B w w') (hg:g < B):Arr w' g cs:=by
 obtain ⟨t,h⟩:=h
 exact ⟨t,(hb.block g hg).trans h⟩
theorem Arr.gro {row:Nat} (h:Arr w g cs) (hb:w.grownBy w' (some row)) (hg:g ≠ row):Arr w' g cs:=by
 have hl:=h.lt
 obtain ⟨t,h⟩:=h
 exact ⟨t,(hb.block g hl (fun e=>hg (by injection e))).trans h⟩
theorem below_setRow {B:Nat} {a w:World} (h:Below B a w) {g:Nat} (hg:B≤g) (cs:Array Value):Below B a (w.setRow g cs) :=
 h.trans ⟨rfl,rfl,rfl,by simp,fun k hk=>setRow_other _ _ _ _ (by omega)⟩
end
theorem step_load_row {P:Program} {w:World} {ops:Array Oper} {o:Oper} {a:Act} {K:Act→World→Prop} {Q:Exit→Act→World→Prop} {E:Prop} (hgd:o.guard=none) (ty:TypeId) (x:Operand) (ho:o.op=.load ty x)
  (g:Nat) (cs:List Value) (hx:a.eval x=.pointer (some ⟨g,0,none⟩)) (h:Arr w g cs) (d:TypeDesc) (hu:P.underlying ty=some d) (hd:(match d with | .struct _ | .array _ _=>true | _=>false)=true) (hi:(P.info? ty).map (·.size)=some cs.length)
  (hK:K (a.put o.dst (.agg cs.toArray)) w):if Region.wanted o (yielded ops a.tmps)=true then Oper.wp P o a w K Q else E:=by
 have hw:Region.wanted o (yielded ops a.tmps)=true:=by simp [Region.wanted,hgd]
 rw [if_pos hw]
 obtain ⟨t,h⟩:=h
 exact wp_load_row ty x ho g hx t _ (0,0) d h hu hd (by simpa using hi) hK
theorem step_store_row {P:Program} {w:World} {ops:Array Oper} {o:Oper} {a:Act} {K:Act→World→Prop} {Q:Exit→Act→World→Prop} {E:Prop} (hgd:o.guard=none) (ty:TypeId) (x y:Operand) (ho:o.op=.store ty x y)
  (g:Nat) (cs ds:List Value) (hx:a.eval x=.pointer (some ⟨g,0,none⟩)) (hy:a.eval y=.agg ds.toArray) (h:Arr w g cs) (hi:(P.info? ty).map (·.size)=some ds.length) (hl:cs.length=ds.length) (h1:∀ v ∈ ds,v.oneCell'=true)
  (hK:K (a.put o.dst undef) (w.setRow g ds.toArray)):if Region.wanted o (yielded ops a.tmps)=true then Oper.wp P o a w K Q else E:=by
 have hw:Region.wanted o (yielded ops a.tmps)=true:=by simp [Region.wanted,hgd]
 rw [if_pos hw]
 obtain ⟨t,h⟩:=h
 exact wp_store_row ty x y ho g ds.toArray hx hy t cs.toArray h (by simpa using hi) (by simpa using hl) (by rw [Array.all_eq_true_iff_forall_mem];intro v hv;exact h1 v (by simpa using hv)) hK
theorem wpList_storeRow {P:Program} {w:World} {ops:Array Oper} {rest:List Oper} {o:Oper} {a:Act} {Q:Exit→Act→World→Prop} (hgd:o.guard=none) (ty:TypeId) (x y:Operand) (ho:o.op=.store ty x y)
  (g:Nat) (cs ds:List Value) (hx:a.eval x=.pointer (some ⟨g,0,none⟩)) (hy:a.eval y=.agg ds.toArray) (h:Arr w g cs) (hi:(P.info? ty).map (·.size)=some ds.length) (hl:cs.length=ds.length) (h1:∀ v ∈ ds,v.oneCell'=true)
  (hK:wpList P ops Q rest (a.put o.dst undef) (w.setRow g ds.toArray)):wpList P ops Q (o :: rest) a w:=by
 obtain ⟨t,h⟩:=h
 exact wpList_store_row hgd ty x y ho g ds.toArray hx hy t cs.toArray h (by simpa using hi) (by simpa using hl) (by rw [Array.all_eq_true_iff_forall_mem];intro v hv;exact h1 v (by simpa using hv)) hK
/-- Two results that are arrays. -/
theorem results_cell2 {P:Program} {fn:Func} {p1 p2:Tmp} {ty1 ty2:TypeId} (h:fn.results=#[.cell p1 ty1,.cell p2 ty2]) (tmps:Array Value) (w:World) (g1 g2:Nat) (cs1 cs2:List Value) (d1 d2:TypeDesc)
  (hp1:tmps.getD p1 undef=.pointer (some ⟨g1,0,none⟩)) (hp2:tmps.getD p2 undef=.pointer (some ⟨g2,0,none⟩)) (h1:Arr w g1 cs1) (h2:Arr w g2 cs2)
  (hu1:P.underlying ty1=some d1) (hd1:(match d1 with | .struct _ | .array _ _=>true | _=>false)=true) (hi1:(P.info? ty1).map (·.size)=some cs1.length)
  (hu2:P.underlying ty2=some d2) (hd2:(match d2 with | .struct _ | .array _ _=>true | _=>false)=true) (hi2:(P.info? ty2).map (·.size)=some cs2.length) :
  (results fn tmps).run P w=.ok (.tuple #[.agg cs1.toArray,.agg cs2.toArray]) w:=by
 obtain ⟨t1,h1⟩:=h1
 obtain ⟨t2,h2⟩:=h2
 have hp1':tmps[p1]?.getD undef=.pointer (some ⟨g1,0,none⟩):=by simpa using hp1
 have hp2':tmps[p2]?.getD undef=.pointer (some ⟨g2,0,none⟩):=by simpa using hp2
 have r1:=run_loadVar_row (P:=P) w g1 t1 ty1 cs1.toArray (0,0) d1 h1 hu1 hd1 (by simpa using hi1)
 have r2:=run_loadVar_row (P:=P) w g2 t2 ty2 cs2.toArray (0,0) d2 h2 hu2 hd2 (by simpa using hi2)
 simp [results,h,hp1',hp2',asAddr,r1,r2]
end Go.Proofs.YteoolehdomjkkaaGreat

/- The reference's small helpers: a copy of bytes, two lists of bytes held against one another. -/
namespace Go.Proofs.YteoolehdomjkkaaGreat
set_option linter.all false
open Go.RowKit
/-- CopyBytes. -/
theorem copyB_any (B n c:Nat) (A:Option Addr) (bs:List UInt8) (w:World) (h:RdB w B A n bs) (hm:n≤140737488355328) :
  Calls Tryz.prog 21 #[.slice A n c] w fun e w'=>∃ v,e=.returned v∧ownB w' w.heap.size v bs∧Below w.heap.size w w':=by
 go_enter Tryz.func21,Tryz.ntmps21
 go_wp2_with (at_builtin;go_loud (refine wpList_appendB rfl (.tmp 3) (.tmp 4) rfl w.heap.size _ [] rfl (own_lit w [] (by simp)) w.heap.size n c A bs rfl (Rd.alloc (Rd.here h) (Nat.le_refl _) _) (by simp;omega) (by simp) ?_);intro v1 w1 hown hg hb hat)
 go_ret
 exact ⟨_,rfl,by simpa using hown,((Below.refl _ _).alloc (Nat.le_refl _) _).trans hb⟩
/-- Bytes: are two lists of bytes alike? -/
theorem bytes_any (B n c B' n' c':Nat) (A A':Option Addr) (xs ys:List UInt8) (w:World) (h:RdB w B A n xs) (h':RdB w B' A' n' ys) :
  Calls Tryz.prog 10 #[.slice A n c,.slice A' n' c'] w fun e w'=>e=.returned (.bool (xs == ys))∧w=w':=by
 have k1:=run_strB h (c:=c)
 have k2:=run_strB h' (c:=c')
 go_enter Tryz.func10,Tryz.ntmps10
 go_wp2_with fail
 go_ret
 exact ⟨rfl,rfl⟩
end Go.Proofs.YteoolehdomjkkaaGreat
