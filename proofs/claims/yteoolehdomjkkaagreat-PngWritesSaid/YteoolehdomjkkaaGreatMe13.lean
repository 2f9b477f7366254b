/- XHuff5 -/
import Derived.Test.YteoolehdomjkkaaGreatMe11
import Derived.Test.YteoolehdomjkkaaGreatMe12
namespace Go.Proofs.YteoolehdomjkkaaGreat
set_option linter.all false
open Go.RowKit
def lenE (ws:List Int) (most:Int):Int:=if wrongH ws most then 1 else 0
def lenR (ws:List Int) (most:Int):List Int:=if wrongH ws most then [] else lensOf ws most.toNat
/-- What both Lengths give. -/
def LenPost (ws:List Int) (most:Int) (w:World) (e:Ending) (w':World):Prop :=
 ∃ A n c,e=.returned (.tuple #[.slice A n c,.int .i64 (lenE ws most)])∧n=(lenR ws most).length∧ownI w' w.heap.size (.slice A n c) (lenR ws most)∧Below w.heap.size w w'
theorem ownP.lo {w:World} {base n c:Nat} {A:Option Addr} {l:List MP} (h:ownP w base (.slice A n c) l):∀ a,A=some a→base≤a.block:=by
 intro a ha
 rcases h.2 with ⟨h',_⟩ | ⟨g,cap,cur,h',hb,_⟩
 ·injection h' with h1;rw [h1] at ha;cases ha
 ·injection h' with h1
  rw [h1] at ha
  injection ha with ha
  rw [← ha]
  exact hb
theorem isM.sg {w:World} {lo hi g:Nat} {t:Mem} {a:Nat} (h:isM w (Rng lo hi) a t) (hg:g < lo):isM w (Sg hi g) a t:=h.keep (fun _ _=>rfl) (fun b hb=>⟨hb.2,by have:=hb.1;omega⟩)
theorem rdP_grown {w w':World} {B n g:Nat} {A:Option Addr} {l:List MP} (h:RdP w B A n l) (hg:w.grownBy w' (some g)) (hB:B≤w.heap.size) (hA:∀ a,A=some a→g < a.block):RdP w' B A n l :=
 ⟨h.1,fun hn=>by
  obtain ⟨b,o,e,hb,hc⟩:=h.2 hn
  refine ⟨b,o,e,hb,fun j u hu=>?_⟩
  have:=hA _ e
  refine (World.cell?_of_block (hg.block b (by omega) (fun e=>?_))).trans (hc j u hu)
  injection e with e
  have:g < b:=this
  omega⟩
theorem stab_lenM (l:List Mem):(stab Mem.w l).length=l.length:=(stab_ss l).2.length
set_option maxRecDepth 100000 in
set_option maxHeartbeats 6400000 in
theorem lengths_any (B n c:Nat) (A:Option Addr) (ws:List Int) (most:Int) (w:World) (h:RdI w B A n ws) (hB1:B≤w.heap.size) (hn:n≤1099511627776) :
  Calls Tryz.prog 109 #[.slice A n c,.int .i64 most] w (LenPost ws most w):=by
 have hl:=h.len
 cases hw:wrongH ws most with
 | true =>
  have HW:=Lib.hid (wrong_any B n c A ws most w h hn)
  rw [hw] at HW
  have HE:Hid (lenE ws most=1∧lenR ws most=[]):=(show _∧_ by unfold lenE lenR;rw [hw];exact ⟨rfl,rfl⟩)
  clear h hl hw
  go_enter Tryz.func109,Tryz.ntmps109
  go_wp2_with (go_at_call 155;(with_reducible refine HW.out.mono ?_);go_must (rintro e w1 ⟨rfl,rfl⟩))
  go_ret2
  refine ⟨none,0,0,ret_tup2 rfl (by rw [HE.out.1];rfl),by rw [HE.out.2];rfl,by rw [HE.out.2];exact ownI.nil_ _ _,Below.refl _ _⟩
 | false =>
  have HW:=Lib.hid (wrong_any B n c A ws most w h hn)
  rw [hw] at HW
  obtain ⟨q1,q2,q3,q4,q5,q6⟩:=wrongH_false hw
  obtain ⟨m,rfl⟩:=Int.eq_ofNat_of_zero_le (show 0≤most by omega)
  have HE:Hid (lenE ws (m:Int)=0∧lenR ws (m:Int)=lensOf ws m):=(show _∧_ by unfold lenE lenR;rw [hw];exact ⟨rfl,rfl⟩)
  have H:=Lib.hid h
  have HL:=Lib.hid hl
  have HQ5:=Lib.hid q5
  have HQ6:=Lib.hid (show (leaves ws).length≤2 ^ m by simpa using q6)
  have hn1:1≤n:=by omega
  have hn2:n≤300:=by omega
  have hm1:1≤m:=by omega
  have hm2:m≤15:=by omega
  have HIT:=Lib.hid (fun (w':World) (hb:Below w.heap.size w w')=>items_any w.heap.size n c A ws w' ((h.blw (hb.mono hB1)).more hB1) hb.size hn)
  have hll:(leaves ws).length≤n:=by rw [leaves_length,← hl];exact posn_le ws
  clear h hl hw q1 q2 q3 q4 q5 q6
  by_cases hone:(leaves ws).length=1
  ·have HONE:=Lib.hid hone
   clear hone hll
   go_enter Tryz.func109,Tryz.ntmps109
   go_wp2_with (first
    | (go_at_call 155;(with_reducible refine HW.out.mono ?_);go_must (rintro e w1 ⟨rfl,rfl⟩))
    | (at_make;refine wpList_makeI rfl _ _ rfl n _ rfl rfl rfl (by omega) ?_;intro w1 hown hb1 hsz;have HO:=Lib.hid hown;have HB1:=Lib.hid hb1;clear hown hb1)
    | (go_at_call 156;(with_reducible refine (HIT.out _ HB1.out).mono ?_);go_must (rintro e w2 ⟨A1,n1,c1,zs1,rfl,hn1',hz1,hmm,hi1,hb2⟩;obtain ⟨z,rfl⟩:∃ z,zs1=[z]:=List.length_eq_one_iff.1 (by have:=congrArg List.length hmm;rw [(stab_ss _).2.length,List.length_map] at this;rw [this];exact HONE.out);obtain rfl:n1=1:=hn1';obtain ⟨A9,e9,h91⟩:∃ b,A1=some ⟨b,0,none⟩∧w2.cell? ⟨b,0,none⟩=some (.pointer (some ⟨z.1,0,none⟩)):=(by obtain ⟨_,g,eg,_,_⟩:=hz1.pos (by omega);subst eg;exact ⟨g,rfl,hz1.cell rfl (k:=0) (by simp)⟩);subst e9;obtain ⟨p,x,e8,hp8⟩:∃ p x,z.2=.leaf x p∧p < n:=(by have hmem:z.2 ∈ leaves ws:=(by have:z.2 ∈ stab Mem.w (leaves ws):=(by rw [← hmm];simp);exact stab_mem.1 this);obtain ⟨p,hp,e,_⟩:=leaves_mem hmem;exact ⟨p,_,e,by rw [← HL.out];exact hp⟩);have h7:=hi1 z (by simp);rw [e8] at h7;obtain ⟨s7,c70,c71,c72⟩:=h7;have HZE:Hid (stab Mem.w (leaves ws)=[.leaf x p]):=(show _=_ by rw [← hmm,List.map_singleton,e8]);have HB2:=Lib.hid (HB1.out.trans (hb2.mono HB1.out.size));have HO2:=Lib.hid (HO.out.later hb2);have e21:=HO2.out.cell (by simp) (k:=p) (by simpa using hp8);have f21:=HO2.out.frozen (by simp) p;clear hz1 hmm hi1 hb2 e8)))
   go_ret2
   refine ⟨some ⟨w.heap.size,0,none⟩,n,n,ret_tup2 rfl (by rw [HE.out.1];rfl),?_,?_,HB2.out.setCell (Nat.le_refl _) _⟩
   ·rw [HE.out.2,lensOf,if_pos HONE.out,bumps_len,List.length_replicate,HL.out]
   ·have e5:lensOf ws m=(List.replicate n 0).set p 1:=by
     rw [lensOf,if_pos HONE.out]
     have e6:leaves ws=[.leaf x p]:=by
      obtain ⟨t,ht⟩:=List.length_eq_one_iff.1 HONE.out
      have:=HZE.out
      rw [ht] at this ⊢
      exact this
     rw [e6,HL.out]
     show (List.replicate n (0:Int)).set p ((List.replicate n (0:Int)).getD p 0+1)=_
     rw [List.getD_eq_getElem?_getD,List.getElem?_replicate]
     simp [hp8]
    rw [HE.out.2,e5]
    exact HO2.out.store (by simp) p 1
  ·have HONE:=Lib.hid hone
   clear hone
   go_enter Tryz.func109,Tryz.ntmps109
   go_wp2_with (first
    | (go_at_call 155;(with_reducible refine HW.out.mono ?_);go_must (rintro e w1 ⟨rfl,rfl⟩))
    | (at_make;refine wpList_makeI rfl _ _ rfl n _ rfl rfl rfl (by omega) ?_;intro w1 hown hb1 hsz;have HO:=Lib.hid hown;have HB1:=Lib.hid hb1;clear hown hb1)
    | (go_at_call 156;(with_reducible refine (HIT.out _ HB1.out).mono ?_);go_must (rintro e w2 ⟨A1,n1,c1,zs1,rfl,hn1',hz1,hmm,hi1,hb2⟩;have hN:n1=(leaves ws).length:=(by have:=congrArg List.length hmm;rw [(stab_ss _).2.length,List.length_map] at this;omega);have HN:=Lib.hid hN;have HZ1:=Lib.hid hz1;have HMM:=Lib.hid hmm;have HI1:=Lib.hid hi1;have hn300:n1≤300:=(by omega);have hne:n1 ≠ 1:=(by have:=HONE.out;omega);have hne':((n1:Int) == 1)=false:=(beq_eq_false_iff_ne.2 (by omega));have HB2:=Lib.hid (HB1.out.trans (hb2.mono HB1.out.size));have HBX:=Lib.hid hb2;have HO2:=Lib.hid (HO.out.later hb2);clear hn1' hz1 hmm hi1 hb2 hN)))
   have hlc:n1≤c1∧c1≤maxLen:=by
    have h1:=HZ1.out.form
    obtain ⟨_,_,e,_,h2,h3⟩:=h1
    injection e with _ e1 e2
    subst e1 e2
    exact ⟨h2,h3⟩
   obtain ⟨hlc1,hlc2⟩:=hlc
   go_loopw [34,8] (fun vi v wr=>∃ (k:Nat) (A:Option Addr) (nl cl:Nat) (zl:List MP),vi=.int .i64 k∧k≤m - 1∧v=.slice A nl cl∧nl≤cl∧cl≤maxLen∧nl≤600∧Hid (RdP wr wr.heap.size A nl zl)∧Hid (∀ a,A=some a→w1.heap.size≤a.block) ∧
     Hid (∀ z ∈ zl,isM wr (Rng w1.heap.size wr.heap.size) z.1 z.2)∧Hid (zl.map Prod.snd=pmL (stab Mem.w (leaves ws)) k)∧Below w2.heap.size w2 wr)
    (fun vi _ _=>m - (intOf vi).toNat)
   case atStart=>exact ⟨0,A1,n1,c1,zs1,rfl,by omega,rfl,hlc1,hlc2,by omega,(show RdP _ _ _ _ _ from HZ1.out.rd),(show ∀ a,_ from HZ1.out.lo),HI1,HMM,Below.refl _ _⟩
   case round =>
    obtain ⟨k,Al,nl,cl,zl,rfl,hk,rfl,hl1,hl2,hl3,HR,HA,HI,HP,hB⟩:=hrel
    by_cases hlt:k < m - 1
    ·have hltz:(k:Int) < (m:Int) - 1:=by omega
     have hW5:=pm_weight15 (first:=stab Mem.w (leaves ws)) (fun t ht=>leaves_w HQ5.out t (stab_mem.1 ht)) (k:=k) (by omega)
     have HPK:=Lib.hid (packages_any w1.heap.size wr.heap.size nl cl Al zl wr HR.out hl1 hl2 (Nat.le_refl _) (by omega) HA.out (by have:=HBX.out.size;have:=hB.size;omega) HI.out (fun z hz=>hW5 z.2 (by rw [← HP.out];exact List.mem_map_of_mem hz)))
     have HMG:=Lib.hid (fun (wp:World) (hb:Below wr.heap.size wr wp) (A':Option Addr) (n' c':Nat) (zp:List MP) (ho:ownP wp wr.heap.size (.slice A' n' c') zp) (h1:n'≤600) (h2:n'≤c'∧c'≤maxLen) (hi:∀ z ∈ zp,isM wp (Rng w1.heap.size wp.heap.size) z.1 z.2) =>
      merged_any (fun _=>True) wp.heap.size n1 n' c1 c' A1 A' zs1 zp wp (((HZ1.out.rd.blw hB).blw (hb.mono hB.size)).more (by have:=hB.size;have:=hb.size;omega)) ho.rd hlc1 h2.1 hlc2 h2.2 (Nat.le_refl _) (by omega)
       (fun z hz=>hz.elim (fun h=>(((HI1.out z h).blw hB (Nat.le_refl _)).blw hb hB.size).weight) (fun h=>(hi z h).weight)))
     clear hW5
     go_wp2_with (first
      | (go_at_call 158;(with_reducible refine HPK.out.mono ?_);go_must (rintro e wp ⟨A3,n3,c3,zs3,rfl,hn3,ho3,hp3,hi3,hb3⟩;have hl9:n3≤600:=(by have e1:=congrArg List.length hp3;rw [packs_len,List.length_map,List.length_map] at e1;have:=HR.out.len;omega);have hl8:n3≤c3∧c3≤maxLen:=(by obtain ⟨_,_,e,_,h2,h3⟩:=ho3.form;injection e with _ e1 e2;subst e1 e2;exact ⟨h2,h3⟩);have HO3:=Lib.hid ho3;have HP3:=Lib.hid hp3;have HI3:=Lib.hid hi3;have HB3:=Lib.hid hb3;have HX3:=Lib.hid (HMG.out wp hb3 A3 n3 c3 zs3 ho3 hl9 hl8 hi3);clear hn3 ho3 hp3 hi3 hb3))
      | (go_at_call 157;(with_reducible refine HX3.out.mono ?_);go_must (rintro e wq ⟨A4,n4,c4,zs4,rfl,hn4,ho4,hp4,hb4⟩;have HN4:=Lib.hid hn4;have HO4:=Lib.hid ho4;have HP4:=Lib.hid hp4;have HB4:=Lib.hid hb4;clear hn4 ho4 hp4 hb4)))
     have hsz4:=HB4.out.size
     have hsz3:=HB3.out.size
     have hsz2:=hB.size
     have hszx:=HBX.out.size
     have hpm:zs4.map Prod.snd=pmL (stab Mem.w (leaves ws)) (k+1):=by
      rw [HP4.out,show (mw:MP→Int)=fun x=>Mem.w (Prod.snd x) from rfl,mrgBy_map,HP3.out,HP.out,HMM.out]
      rfl
     have hl4:n4≤c4∧c4≤maxLen:=by
      obtain ⟨_,_,e,_,h2,h3⟩:=HO4.out.form
      injection e with _ e1 e2
      subst e1 e2
      exact ⟨h2,h3⟩
     have hn4:n4≤600:=by
      have e1:=congrArg List.length hpm
      rw [pmL_len,List.length_map,stab_lenM,← HP.out,List.length_map] at e1
      have:=HR.out.len
      have:=HN.out
      have:=HN4.out
      omega
     go_roundw
     case rel =>
      refine ⟨k+1,A4,n4,c4,zs4,by go_num,by omega,rfl,hl4.1,hl4.2,hn4,(show RdP _ _ _ _ _ from HO4.out.rd),(show ∀ a,_ from fun a ha=>by have:=HO4.out.lo a ha;omega),(show ∀ z ∈ _,_ from fun z hz=>?_),hpm,(hB.trans (HB3.out.mono hsz2)).trans (HB4.out.mono (by omega))⟩
      have hz':=hz
      rw [HP4.out,mrgBy_mem] at hz'
      rcases hz' with h | h
      ·exact ((((HI1.out z h).blw hB (Nat.le_refl _)).blw HB3.out hsz2).blw HB4.out (by omega)).more (Nat.le_refl _) (by omega)
      ·exact ((HI3.out z h).blw HB4.out (Nat.le_refl _)).more (Nat.le_refl _) hsz4
     case measure=>simp [intOf];omega
    ·have hltz:¬ (k:Int) < (m:Int) - 1:=by omega
     obtain rfl:k=m - 1:=by omega
     have hlen:2 * n1 - 2≤nl:=by
      have e1:=congrArg List.length HP.out
      rw [List.length_map,HR.out.len] at e1
      have e2:=pm_enough (stab Mem.w (leaves ws)) (m - 1) (by rw [stab_lenM,show m - 1+1=m by omega];exact HQ6.out)
      rw [stab_lenM,← e1,← HN.out] at e2
      exact e2
     obtain ⟨q,hq⟩:∃ q,q=2 * n1 - 2:=⟨_,rfl⟩
     obtain ⟨wo,rfl⟩:∃ wo:World,wo=wr:=⟨_,rfl⟩
     have HQ:Hid (q=2 * (leaves ws).length - 2):=(show _=_ by rw [hq,HN.out])
     have HOL:Hid (ownI wo w.heap.size (.slice (some ⟨w.heap.size,0,none⟩) n n) (bumps (List.replicate n 0) (((zl.map Prod.snd).take 0).flatMap Mem.items))):=(show ownI _ _ _ _ from HO2.out.later hB)
     by_cases h0:n1=0
     ·have hs0:2 * (n1:Int) - 2 < 0:=by omega
      have hs1:¬ 0≤2 * (n1:Int) - 2:=by omega
      obtain rfl:q=0:=by omega
      clear hq
      go_wp2_with fail
      go_loopw [49] (fun vi wr=>∃ j:Nat,vi=.int .i64 j∧j≤0∧Hid (ownI wr w.heap.size (.slice (some ⟨w.heap.size,0,none⟩) n n) (bumps (List.replicate n 0) (((zl.map Prod.snd).take j).flatMap Mem.items)))∧Hid (wo.grownBy wr (some w.heap.size)))
       (fun vi _=>0 - (intOf vi).toNat)
      case atStart=>exact ⟨0,rfl,Nat.zero_le _,HOL,grown_refl0 _ _⟩
      case round =>
       obtain ⟨j,rfl,hjq,HOJ,HG⟩:=hrel
       by_cases hlt2:j < 0
       ·exfalso;omega
       ·obtain rfl:j=0:=by omega
        have HF:Hid (bumps (List.replicate n 0) (((zl.map Prod.snd).take 0).flatMap Mem.items)=lensOf ws m):=(show _=_ by rw [lensOf,if_neg HONE.out,HP.out,HQ.out,HL.out])
        go_wp2_with fail
        go_ret2
        refine ⟨some ⟨w.heap.size,0,none⟩,n,n,ret_tup2 rfl (by rw [HE.out.1];rfl),?_,?_,?_⟩
        ·rw [HE.out.2,← HF.out,bumps_len,List.length_replicate]
        ·rw [HE.out.2,← HF.out];exact HOJ.out
        ·exact (HB2.out.trans (hB.mono HB2.out.size)).grown HG.out (by have:=HB2.out.size;have:=hB.size;omega) (fun g hg=>by injection hg with hg;omega)
     ·have hs1:0≤2 * (n1:Int) - 2:=by omega
      have hs2:2 * (n1:Int) - 2≤cl:=by omega
      have hs3:(2 * (n1:Int) - 2).toNat=q:=by omega
      have hs4:q≤nl:=by omega
      clear hq
      go_wp2_with fail
      go_loopw [49] (fun vi wr=>∃ j:Nat,vi=.int .i64 j∧j≤q∧Hid (ownI wr w.heap.size (.slice (some ⟨w.heap.size,0,none⟩) n n) (bumps (List.replicate n 0) (((zl.map Prod.snd).take j).flatMap Mem.items)))∧Hid (wo.grownBy wr (some w.heap.size)))
       (fun vi _=>q - (intOf vi).toNat)
      case atStart=>exact ⟨0,rfl,Nat.zero_le _,HOL,grown_refl0 _ _⟩
      case round =>
       obtain ⟨j,rfl,hjq,HOJ,HG⟩:=hrel
       by_cases hlt2:j < q
       ·obtain ⟨b,o,z,eA,hb,HX,e1⟩:=(rdP_grown HR.out HG.out (Nat.le_refl _) (fun a ha=>Nat.lt_of_lt_of_le hsz (HA.out a ha))).one (show j < nl by omega)
        have hzm:z ∈ zl:=List.mem_of_getElem? HX.out
        have htm:z.2 ∈ pmL (stab Mem.w (leaves ws)) (m - 1):=by rw [← HP.out];exact List.mem_map_of_mem hzm
        have HST:Hid ((((zl.map Prod.snd).take (j+1)).flatMap Mem.items)=(((zl.map Prod.snd).take j).flatMap Mem.items) ++ z.2.items):=(show _=_ by
         have e5:(zl.map Prod.snd)[j]?=some z.2:=by rw [List.getElem?_map,HX.out];rfl
         obtain ⟨e6,e7⟩:=List.getElem?_eq_some_iff.1 e5
         rw [List.take_succ_eq_append_getElem e6,e7,List.flatMap_append]
         simp)
        have hS1:=pm_sizes (first:=stab Mem.w (leaves ws)) (fun t ht=>leaves_s t (stab_mem.1 ht)) (m - 1)
        have hpw:2 ^ (m - 1)≤2 ^ 14:=Nat.pow_le_pow_right (by omega) (by omega)
        have hS2:=flat_len (l:=(zl.map Prod.snd).take j) (M:=2 ^ (m - 1)) (fun t ht=>hS1 t (by rw [← HP.out];exact List.mem_of_mem_take ht))
        have hS3:((zl.map Prod.snd).take j).length * 2 ^ (m - 1)≤600 * 2 ^ 14:=Nat.mul_le_mul (by simp;omega) hpw
        have hS4:=hS1 z.2 htm
        have hpp:=pm_places (first:=stab Mem.w (leaves ws)) (n:=n) (fun t ht=>by have:=leaves_p t (stab_mem.1 ht);rwa [HL.out] at this) (m - 1) z.2 htm
        have HC:=Lib.hid (counts_any w.heap.size w.heap.size n n wo.heap.size (by omega) z.2 z.1 _ ((((zl.map Prod.snd).take j).flatMap Mem.items).length:Nat) wr (((HI.out z hzm).sg hsz).gro HG.out (Nat.le_refl _)) HG.out.size HOJ.out (by rw [bumps_len,List.length_replicate]) hpp
         (fun x hx=>by have:=bumps_rng (xs:=List.replicate n 0) (M:=0) (fun y hy=>by rw [List.eq_of_mem_replicate hy];omega) (by omega) x hx;omega) (by omega) (by omega))
        clear hS1 hS2 hS3 hS4 hpw hpp htm hzm
        subst eA
        go_wp2_with (go_at_call 159;(with_reducible refine HC.out.mono ?_);go_must (rintro e w9 ⟨rfl,ho9,hg9⟩;have HO9:=Lib.hid ho9;have HG9:=Lib.hid (grown_trans HG.out hg9);clear ho9 hg9))
        go_roundw
        case rel=>exact ⟨j+1,by go_num,by omega,(show ownI _ _ _ _ by rw [HST.out,bumps_append];exact HO9.out),HG9⟩
        case measure=>simp [intOf];omega
       ·obtain rfl:j=q:=by omega
        have HF:Hid (bumps (List.replicate n 0) (((zl.map Prod.snd).take j).flatMap Mem.items)=lensOf ws m):=(show _=_ by rw [lensOf,if_neg HONE.out,HP.out,HQ.out,HL.out])
        go_wp2_with fail
        go_ret2
        refine ⟨some ⟨w.heap.size,0,none⟩,n,n,ret_tup2 rfl (by rw [HE.out.1];rfl),?_,?_,?_⟩
        ·rw [HE.out.2,← HF.out,bumps_len,List.length_replicate]
        ·rw [HE.out.2,← HF.out];exact HOJ.out
        ·exact (HB2.out.trans (hB.mono HB2.out.size)).grown HG.out (by have:=HB2.out.size;have:=hB.size;omega) (fun g hg=>by injection hg with hg;omega)
end Go.Proofs.YteoolehdomjkkaaGreat

