/- XNewG XNextG -/
import Derived.Test.YtebbdifhiihfkaaGreatDoorMh18
namespace Go.Proofs.YtebbdifhiihfkaaGreatDoor
set_option linter.all false
open Go.RowKit
/-- A decoder of one's own, from block lo on. -/
def DecG (w:World) (lo g:Nat) (ls:List Int):Prop:=∃ A c,Arr w g (decL ls 16 (.slice A (allP ls 15).length c))∧ownI w (g+1) (.slice A (allP ls 15).length c) (allP ls 15)∧lo≤g
theorem DecG.later {w w':World} {lo g:Nat} {ls:List Int} (h:DecG w lo g ls) (hb:Below w.heap.size w w'):DecG w' lo g ls:=by
 obtain ⟨A,c,h1,h2,h3⟩:=h
 exact ⟨A,c,h1.later hb,ownI.later h2 hb,h3⟩
def NewG (w:World) (ls:List Int) (e:Ending) (w':World):Prop :=
 ∃ v,e=.returned (.tuple #[v,.int .i64 (nwE ls)])∧(nwE ls=0→∃ g,v=.pointer (some ⟨g,0,none⟩)∧DecG w' w.heap.size g ls)∧(nwE ls ≠ 0→v=.pointer none)∧Below w.heap.size w w'
set_option maxRecDepth 100000 in
set_option maxHeartbeats 3200000 in
theorem new_gen (B n c:Nat) (A:Option Addr) (ls:List Int) (w:World) (h:RdI w B A n ls) (hB1:B≤w.heap.size) (hn:n≤1099511627776) :
  Calls Tryz.prog 160 #[.slice A n c] w fun e w'=>NewG w ls e w':=by
 have HC:=Lib.hid (codes_any B n c A ls w h hB1 hn)
 by_cases hE:cdE ls=0
 ·obtain ⟨g1,g2,g3⟩:=cdE_zero hE
  have HL:=Lib.hid h.len
  have hn3:n≤300:=by have:=h.len;omega
  have HBAD:=Lib.hid g1
  have HNW:Hid (nwE ls=if (allP ls 15).length=0 then 4 else 0):=(show _=_ by unfold nwE;rw [if_pos hE])
  have HBG:=Lib.hid (fun (w':World) (hb:Below w.heap.size w w')=>begins_any B n c A ls w' (h.blw (hb.mono hB1)) (Nat.le_trans hB1 hb.size) hn3 g1 g2)
  have H:=Lib.hid h
  rw [hE] at HC
  clear h hE g1 g2 g3
  go_enter Tryz.func160,Tryz.ntmps160
  go_wp2_with (first
   | (go_at_call 148;(with_reducible refine HC.out.mono ?_);go_must (rintro e w1 ⟨A1,n1,c1,rfl,-,-,hb1⟩;have HB1:=Lib.hid hb1;have hz1:=hb1.size;clear hb1))
   | (go_at_call 168;(with_reducible refine (HBG.out _ (HB1.out.alloc hz1 _)).mono ?_);go_must (rintro e w2 ⟨rfl,hb2⟩;have hz2:=hb2.size;simp only [World.size_alloc] at hz2;have HA0:=Lib.hid (show Arr w2 w1.heap.size decZ from Arr.later (Arr.new w1 decZ 236) hb2);have HB2:=Lib.hid ((HB1.out.alloc hz1 (.cells decZ.toArray 236)).trans (hb2.mono (by simp;omega)));clear hb2))
   | (refine wpList_storePart rfl 219 (.tmp 28) (.tmp 25) rfl w1.heap.size 0 decZ (cU (nextL ls 16)) (decM ls) rfl rfl HA0.out (Tryz.size_u16.trans (by simp [cU,nextL])) (by rw [nextL_len];decide) (cU_one _) (splice0 _ _ _ (by simp [cU,nextL])) ?_;have HA1:=Lib.hid (HA0.out.row (decM ls));have HB3:=Lib.hid (below_setRow HB2.out (g:=w1.heap.size) hz1 (decM ls).toArray))
   | (refine wpList_storePart rfl 220 (.tmp 30) (.tmp 26) rfl w1.heap.size 16 (decM ls) (cI (cntZ ls)) (decL ls 1 (.slice none 0 0)) rfl rfl HA1.out (Tryz.size_i16.trans (by simp [cI,cntZ,cntL])) (by rw [cntZ_len,decM_len];decide) (cI_one _) (by unfold decL;rw [frL_one];exact splice1 _ _ _ _ 16 (by rw [nextL_len]) (by simp [cI,cntZ,cntL])) ?_;have HA2:=Lib.hid (HA1.out.row (decL ls 1 (.slice none 0 0)));have HB4:=Lib.hid (below_setRow HB3.out (g:=w1.heap.size) hz1 (decL ls 1 (.slice none 0 0)).toArray)))
  clear HA0 HA1 HB1 HB2 HB3 HC HBG
  generalize hg:w1.heap.size=g at *
  generalize (w2.setRow g (decM ls).toArray).setRow g (decL ls 1 (.slice none 0 0)).toArray=wa at *
  have hsa:=HA2.out.lt
  go_loopw [7] (fun vi wr=>∃ l:Nat,1≤l∧l≤16∧vi=.int .i64 l∧∃ A c,Hid (Arr wr g (decL ls l (.slice A (allP ls (l - 1)).length c)))∧Hid (ownI wr (g+1) (.slice A (allP ls (l - 1)).length c) (allP ls (l - 1)))∧Hid (Below w.heap.size w wr))
   (fun vi _=>17 - (intOf vi).toNat)
  case atStart=>exact ⟨1,by omega,by omega,rfl,none,0,HA2,ownI.nil_ _ _,HB4⟩
  case round =>
   clear HA2 HB4
   obtain ⟨l,hl1,hl2,rfl,Ap,cp,HA,HO,HB⟩:=hrel
   by_cases hlt:l≤15
   ·have hlI:(l:Int)≤15:=by omega
    have hlI2:(l:Int) < 16:=by omega
    have c3:=HA.out.cell (decL_3 ls l _)
    have c2:=HA.out.cell ((decL_2' ls l _ (t:=l) (by omega)).trans (frL_zero ls (Nat.le_refl l) (by omega)))
    have f2:=HA.out.frozen (32+l)
    have hap:=allP_le ls (l - 1)
    have hap2:(allP ls (l - 1)).length≤4500:=Nat.le_trans hap (by have:=HL.out;rw [this];exact Nat.le_trans (Nat.mul_le_mul (show l - 1≤15 by omega) hn3) (by decide))
    clear hap
    have HAS:=Lib.hid (show Arr (wr.setCell ⟨g,32+l,none⟩ (.int .i64 ((allP ls (l - 1)).length:Int))).drew g (decL ls (l+1) (.slice Ap (allP ls (l - 1)).length cp)) from by
     rw [← decL_from ls _ hl1 (by omega)]
     exact (HA.out.set (32+l) _).drew)
    have HOS:=Lib.hid (ownI.drew (ownI.far HO.out (ownI.ne HO.out (show g < g+1 by omega)) (32+l) (.int .i64 ((allP ls (l - 1)).length:Int))))
    have HBS:=Lib.hid (Below.drew (HB.out.setCell (p:=⟨g,32+l,none⟩) (by show w.heap.size≤g;omega) (.int .i64 ((allP ls (l - 1)).length:Int))))
    clear HA HO HB
    go_wp2_with fail
    go_region_law (fail)
    go_simp
    go_wp2_with fail
    have HEND:Hid (allP ls (l - 1) ++ plc ls l n=allP ls (l+1 - 1)):=(show _=_ by
     obtain ⟨q,rfl⟩:∃ q,l=q+1:=⟨l - 1,by omega⟩
     rw [Nat.add_sub_cancel,Nat.add_sub_cancel,allP,HL.out])
    have HST:Hid (allP ls (l - 1)=allP ls (l - 1) ++ plc ls l 0):=(show _=_ by simp [plc])
    generalize hU:allP ls (l - 1)=U at *
    go_loopw [47] (fun vi wr=>∃ k:Nat,k≤n∧vi=.int .i64 k∧∃ A c,Hid (Arr wr g (decL ls (l+1) (.slice A (U ++ plc ls l k).length c)))∧Hid (ownI wr (g+1) (.slice A (U ++ plc ls l k).length c) (U ++ plc ls l k))∧Hid (Below w.heap.size w wr))
     (fun vi _=>n - (intOf vi).toNat)
    case atStart=>exact ⟨0,Nat.zero_le _,rfl,Ap,cp,by rw [← HST.out];exact HAS,by rw [← HST.out];exact HOS,HBS⟩
    case round =>
     clear HAS HOS HBS HST c3 c2 f2
     obtain ⟨k,hk,rfl,Aq,cq,HA,HO,HB⟩:=hrel
     by_cases hlt2:k < n
     ·obtain ⟨b,o,x,rfl,hb,HX,e1⟩:=(H.out.blw (HB.out.mono hB1)).one hlt2
      have hpl:(U ++ plc ls l k).length≤4800:=by
       rw [List.length_append,plc_len]
       have:=cnt_take ls k l
       have h2:=cnt_le ls l
       have h3:=HL.out
       omega
      by_cases hxl:x=(l:Int)
      ·subst hxl
       have HSP:Hid (U ++ plc ls l (k+1)=U ++ plc ls l k ++ [(k:Int)]):=(show _=_ by rw [plc,if_pos HX.out,List.append_assoc])
       have hsg:=HA.out.lt
       have c3:=HA.out.cell (decL_3 ls (l+1) _)
       have dxl:((l:Int) == (l:Int))=true:=by simp
       generalize hLK:U ++ plc ls l k=LK at *
       clear hLK
       go_wp2_with (at_builtin;go_must (refine wpList_appendI rfl (.tmp 59) (.tmp 61) rfl (g+1) _ LK rfl (ownI.alloc HO.out _) (wr.heap.size+1) 1 1 (some ⟨wr.heap.size,0,none⟩) [(k:Int)] rfl (rd_oneI wr (k:Int)) (by omega) (by simp;omega) ?_;intro v1 w3 hown hgb hbl hat;obtain ⟨A3,c3,rfl,hr3,-,-⟩:=hown.form;rw [show (LK ++ [(k:Int)]).length=LK.length+1 by simp] at hown ⊢;have HA3:=Lib.hid ((HA.out.alloc (.cells #[.int .i64 (k:Int)] 3)).blw hbl (Nat.lt_succ_self g));have HO3:=Lib.hid hown;have HB3:=Lib.hid ((HB.out.alloc (by omega) (.cells #[.int .i64 (k:Int)] 3)).trans (hbl.mono (by omega)));have c48:=HA3.out.cell (decL_3 ls (l+1) _);have f48:=HA3.out.frozen 48;clear hown hgb hbl hat hr3 HA HO HB))
       have HA4:=Lib.hid (HA3.out.set 48 (.slice A3 (LK.length+1) c3))
       rw [decL_place] at HA4
       have HO4:=Lib.hid (ownI.far HO3.out (ownI.ne HO3.out (show g < g+1 by omega)) 48 (.slice A3 (LK.length+1) c3))
       have HB4:=Lib.hid (HB3.out.setCell (p:=⟨g,48,none⟩) (by show w.heap.size≤g;omega) (.slice A3 (LK.length+1) c3))
       have HLE:Hid (LK.length+1=(U ++ plc ls l (k+1)).length):=(show _=_ by rw [HSP.out];simp)
       rw [← HSP.out,HLE.out] at HO4
       rw [HLE.out] at HA4 HB4
       go_roundw
       case rel=>exact ⟨k+1,by omega,by go_num,A3,c3,by rw [HLE.out];exact HA4,by rw [HLE.out];exact HO4,by rw [HLE.out];exact HB4⟩
       case measure=>simp [intOf];omega
      ·have HSP:Hid (plc ls l (k+1)=plc ls l k):=(show _=_ by rw [plc,if_neg (by rw [HX.out];simp;exact hxl)])
       have dxl:(x == (l:Int))=false:=beq_eq_false_iff_ne.2 hxl
       go_wp2_with fail
       go_roundw
       case rel=>exact ⟨k+1,by omega,by go_num,Aq,cq,by rw [HSP.out];exact HA,by rw [HSP.out];exact HO,HB⟩
       case measure=>simp [intOf];omega
     ·obtain rfl:k=n:=by omega
      rw [HEND.out] at HA HO
      go_wp2_with fail
      go_roundw
      case rel=>exact ⟨l+1,by omega,by omega,by go_num,Aq,cq,HA,HO,HB⟩
      case measure=>simp [intOf];omega
   ·obtain rfl:l=16:=by omega
    have c3:=HA.out.cell (decL_3 ls 16 _)
    have HD:Hid (DecG wr w.heap.size g ls):=(show DecG _ _ _ _ from ⟨Ap,cp,HA.out,HO.out,by omega⟩)
    have hap:(allP ls (16 - 1)).length≤4500:=Nat.le_trans (allP_le ls 15) (by have:=HL.out;omega)
    by_cases hz:(allP ls 15).length=0
    ·have HE:Hid (nwE ls=4):=(show _=_ by rw [HNW.out,if_pos hz])
     rw [show 16 - 1=15 from rfl,hz] at c3
     clear HA HO HNW hap hz
     go_wp2_with fail
     go_ret2
     exact ⟨_,ret_tup2 rfl (by rw [HE.out];rfl),fun h=>absurd (HE.out.symm.trans h) (by decide),fun _=>rfl,HB.out⟩
    ·have HE:Hid (nwE ls=0):=(show _=_ by rw [HNW.out,if_neg hz])
     rw [show 16 - 1=15 from rfl] at c3 hap
     clear HA HO HNW
     generalize (allP ls 15).length=m at *
     have dm:((m:Int) == 0)=false:=beq_eq_false_iff_ne.2 (by omega)
     go_wp2_with fail
     go_ret2
     exact ⟨_,ret_tup2 rfl (by rw [HE.out];rfl),fun _=>⟨g,rfl,HD.out⟩,fun h=>absurd HE.out h,HB.out⟩
 ·have HE:Hid (nwE ls=cdE ls∧cdE ls ≠ 0):=(show _∧_ by unfold nwE;rw [if_neg hE];exact ⟨rfl,hE⟩)
  have de:(cdE ls != 0)=true:=by simp [bne];exact hE
  clear h hE
  generalize cdE ls=E at *
  go_enter Tryz.func160,Tryz.ntmps160
  go_wp2_with (go_at_call 148;(with_reducible refine HC.out.mono ?_);go_must (rintro e w1 ⟨A1,n1,c1,rfl,-,-,hb1⟩))
  go_ret2
  exact ⟨_,ret_tup2 rfl (by rw [HE.out.1];rfl),fun h=>absurd (HE.out.1.symm.trans h) HE.out.2,fun _=>rfl,hb1⟩
end Go.Proofs.YtebbdifhiihfkaaGreatDoor

/- Decoders: the next place, the decoder being newer than the bits' reader. -/
namespace Go.Proofs.YtebbdifhiihfkaaGreatDoor
set_option linter.all false
open Go.RowKit
set_option maxRecDepth 100000 in
set_option maxHeartbeats 3200000 in
theorem next_gen (B n c gd gr P:Nat) (A:Option Addr) (ls:List Int) (bs:List UInt8) (w:World) (lo:Nat) (hd:DecG w lo gd ls) (hlo:gr < lo) (hr:Arr w gr (rdr A n c P)) (hb:RdB w B A n bs) (hg:B≤gr) (hP:P≤8 * n) (hn:n≤1099511627776)
  (hbad:badL ls=false) (hkr:krN ls≤32768) (hl3:ls.length≤300) :
  Calls Tryz.prog 179 #[.pointer (some ⟨gd,0,none⟩),.pointer (some ⟨gr,0,none⟩)] w fun e w'=>NextPost ls bs A n c P gr w e w':=by
 obtain ⟨Ad,cd,hd1,hd2,hd3⟩:=hd
 have HBAD:=Lib.hid hbad
 have HKR:=Lib.hid hkr
 have HL3:=Lib.hid hl3
 have HD:=Lib.hid hd1
 have HDR:=Lib.hid hd2
 have HR:=Lib.hid hr
 have HRB:=Lib.hid hb
 have hgs:=hr.lt
 have HBL:=Lib.hid hb.len
 clear hbad hkr hd1 hd2 hr hb hl3
 go_enter Tryz.func179,Tryz.ntmps179
 go_wp2_with fail
 go_loopw [7,6] (fun vt vv wr=>∃ t v Q:Nat,1≤t∧t≤16∧vt=.int .i64 t∧vv=.int .u32 v∧Hid (v < 2 ^ (t - 1))∧Hid (Q≤8 * n)∧Hid (Arr wr gr (rdr A n c Q))∧Hid (w.grownBy wr (some gr))∧Hid (nx ls bs (16 - t) t v Q=nx ls bs 15 1 0 P))
  (fun vt _ _=>17 - (intOf vt).toNat)
 case atStart=>exact ⟨1,0,P,by omega,by omega,rfl,rfl,(show 0 < 2 ^ (1 - 1) by decide),hP,HR,gb_refl _ _,(show _=_ from rfl)⟩
 case round =>
  clear HR
  obtain ⟨t,v,Q,ht1,ht2,rfl,rfl,HV,HQ,HA,HG,HN⟩:=hrel
  have hQ:=HQ.out
  by_cases hlt:t≤15
  ·have htI:(t:Int)≤15:=by omega
   have htI2:(t:Int) < 16:=by omega
   have HN1:Hid (nx ls bs (15 - t+1) t v Q=nx ls bs 15 1 0 P):=(show _=_ by
    have:=HN.out
    rwa [show 16 - t=15 - t+1 by omega] at this)
   by_cases hfit:8 * n < Q+1
   ·have HC:=Lib.hid (get1_short HA.out hn hQ hfit)
    have HE:Hid ((0,2,Q)=nx ls bs 15 1 0 P):=(show _=_ by rw [← HN1.out,nx_short (by rw [HBL.out];omega)])
    go_wp2_with (go_at_call 126;(with_reducible refine HC.out.mono ?_);go_must (rintro e w5 ⟨rfl,hb5⟩))
    go_ret2
    exact nextPost HE.out rfl (HA.out.gbN hb5) (gb_trans HG.out (gb_none hb5 gr))
   ·have HC:=Lib.hid (get1_any HA.out (HRB.out.blw (below_gb HG.out (by omega) hg)) hg hn (by omega))
    have hbt:=bitAt_lt bs Q
    obtain ⟨V,hV⟩:∃ V,v * 2+bitAt bs Q=V:=⟨_,rfl⟩
    obtain ⟨p1,p2,p3⟩:=pow_step HV.out ht1 hlt hbt hV
    have HP1:=Lib.hid p1
    have hor:=or_code v (bitAt bs Q) p3 hbt
    rw [hV] at hor
    have HVV:=Lib.hid hV
    have hns:¬ 8 * bs.length≤Q:=by rw [HBL.out];omega
    have HNS:=Lib.hid hns
    have hfs:=fst_small ls HBAD.out HKR.out t hlt
    have HBB:=Lib.hid (fun (h:Hit ls t V V)=>h)
    clear p1 hV hns
    generalize hbq:bitAt bs Q=bq at *
    have ed:=decL_0 ls 16 (.slice Ad (allP ls 15).length cd) (t:=t) (by omega)
    have ec:=decL_1 ls 16 (.slice Ad (allP ls 15).length cd) (t:=t) (by omega)
    have ef:=(decL_2' ls 16 (.slice Ad (allP ls 15).length cd) (t:=t) (by omega)).trans (frL_get ls (l:=16) ht1 (by omega) (by omega))
    have ep:=decL_3 ls 16 (.slice Ad (allP ls 15).length cd)
    have HED:=Lib.hid (fun (wx:World) (k:w.grownBy wx (some gr))=>HD.out.gro k (by omega))
    by_cases h1:V < fst ls t
    ·have HH:Hid (hitN ls t (v * 2+bq)=none):=(show _=_ by rw [HVV.out];exact hit_none (fun p h=>by have:=hit_bound ht1 h;omega))
     have HN2:Hid (nx ls bs (16 - (t+1)) (t+1) V (Q+1)=nx ls bs 15 1 0 P):=(show _=_ by
      rw [← HN1.out,nx_on HNS.out (by rw [hbq];exact HH.out),hbq,HVV.out,show 16 - (t+1)=15 - t by omega])
     generalize fst ls t=F at *
     generalize cz ls t=Z at *
     have dge:decide ((V:Int) - (F:Int) ≥ 0)=false:=decide_eq_false (by omega)
     clear HN HN1 HH hbq HV
     go_wp2_with (go_at_call 126;(with_reducible refine HC.out.mono ?_);go_must (rintro e w5 ⟨rfl,hA5,hG5⟩;have HA5:=Lib.hid hA5;have HG5:=Lib.hid (gb_trans HG.out hG5);have c0:=(HED.out w5 HG5.out).cell ed;have c1:=(HED.out w5 HG5.out).cell ec;clear hA5 hG5))
     go_roundw
     case rel=>exact ⟨t+1,V,Q+1,by omega,by omega,by go_num,rfl,HP1,(show Q+1≤8 * n by omega),HA5,HG5,HN2⟩
     case measure=>simp [intOf];omega
    ·obtain ⟨j,hj⟩:∃ j,V=fst ls t+j:=⟨V - fst ls t,by omega⟩
     have hvf:(V:Int) - (fst ls t:Int)=(j:Int):=by omega
     by_cases h2:j < cz ls t
     ·obtain ⟨p,hhit,hpl,hpp⟩:=hit_at ht1 (show fst ls t≤V by omega) (show V < fst ls t+cz ls t by omega)
      have hpx:=allP_get ht1 hpl 15 hlt
      rw [show V - fst ls t=j by omega] at hpx
      have hpm:=(List.getElem?_eq_some_iff.1 hpx).1
      have HPX:=Lib.hid hpx
      have HN2:Hid (((p:Int),0,Q+1)=nx ls bs 15 1 0 P):=(show _=_ by
       rw [← HN1.out,nx_hit HNS.out (by rw [hbq,HVV.out];exact hit_some hhit)])
      have hal:=allP_le ls 15
      have hal2:(allP ls 15).length≤4500:=by have:=HL3.out;omega
      generalize fst ls t=F at *
      generalize cz ls t=Z at *
      generalize (allP ls (t - 1)).length=fr at *
      have dge:decide ((j:Int) ≥ 0)=true:=decide_eq_true (by omega)
      have djz:decide ((j:Int) < (Z:Int))=true:=decide_eq_true (by omega)
      clear HN HN1 hbq HV hhit hpl hpx hal hj h1
      go_wp2_with (go_at_call 126;(with_reducible refine HC.out.mono ?_);go_must (rintro e w5 ⟨rfl,hA5,hG5⟩;have HA5:=Lib.hid hA5;have HG5:=Lib.hid (gb_trans HG.out hG5);have c0:=(HED.out w5 HG5.out).cell ed;have c1:=(HED.out w5 HG5.out).cell ec;have c2:=(HED.out w5 HG5.out).cell ef;have c3:=(HED.out w5 HG5.out).cell ep;obtain ⟨b7,o7,x7,rfl,hb7,HX7,e7⟩:=(ownI.rd (World.ownsRow.kept HDR.out HG5.out (.inr (ownI.ne HDR.out (by omega))))).one hpm;obtain rfl:x7=(p:Int):=Option.some.inj (HX7.out.symm.trans HPX.out);clear hA5 hG5))
      go_quiet (fail)
      go_wp2_with fail
      go_ret2
      exact nextPost HN2.out rfl (HA5.out.drewN _) (gb_drewN HG5.out _)
     ·have HH:Hid (hitN ls t (v * 2+bq)=none):=(show _=_ by rw [HVV.out];exact hit_none (fun p h=>by have:=hit_bound ht1 h;omega))
      have HN2:Hid (nx ls bs (16 - (t+1)) (t+1) V (Q+1)=nx ls bs 15 1 0 P):=(show _=_ by
       rw [← HN1.out,nx_on HNS.out (by rw [hbq];exact HH.out),hbq,HVV.out,show 16 - (t+1)=15 - t by omega])
      generalize fst ls t=F at *
      generalize cz ls t=Z at *
      have dge:decide ((j:Int) ≥ 0)=true:=decide_eq_true (by omega)
      have djz:decide ((j:Int) < (Z:Int))=false:=decide_eq_false (by omega)
      clear HN HN1 HH hbq HV hj h1
      go_wp2_with (go_at_call 126;(with_reducible refine HC.out.mono ?_);go_must (rintro e w5 ⟨rfl,hA5,hG5⟩;have HA5:=Lib.hid hA5;have HG5:=Lib.hid (gb_trans HG.out hG5);have c0:=(HED.out w5 HG5.out).cell ed;have c1:=(HED.out w5 HG5.out).cell ec;clear hA5 hG5))
      go_roundw
      case rel=>exact ⟨t+1,V,Q+1,by omega,by omega,by go_num,rfl,HP1,(show Q+1≤8 * n by omega),HA5,HG5,HN2⟩
      case measure=>simp [intOf];omega
  ·obtain rfl:t=16:=by omega
   have HE:Hid ((0,4,Q)=nx ls bs 15 1 0 P):=(show _=_ by rw [← HN.out];rfl)
   go_wp2_with fail
   go_ret2
   exact nextPost HE.out rfl HA.out HG.out
end Go.Proofs.YtebbdifhiihfkaaGreatDoor

