/- Merged: Iq2, Iq3, Iq4, Iq5, IqP. -/
import Derived.Deep.QuietTactic
import Derived.Test.YteoolehdomjkkaaGreatMd28
import Derived.Test.YteoolehdomjkkaaGreatMd12
import Derived.Test.YteoolehdomjkkaaGreatMd26
/- flate: the document's reader of blocks: a stored block. -/
namespace Go.Proofs.YteoolehdomjkkaaGreat
set_option linter.all false
open Go.RowKit
theorem plnF_over {bs:List UInt8} {most:Int}:∀ (k:Nat) {s:RS},s.e=0→(s.out.length:Int)≤most→most < (s.out.length:Int)+(k:Int)→¬ (plnF bs most k s).e=0
 | 0,s,he,h1,h2=>by omega
 | k+1,s,he,h1,h2=>by
  rw [plnF,if_pos he]
  by_cases hg:(getP bs s 8).2.e=0
  ·rw [if_pos hg]
   by_cases hm:most≤(s.out.length:Int)
   ·have hb:¬ (givesP most (getP bs s 8).2 (UInt8.ofNat (getP bs s 8).1)).e=0:=givesP_bad (by rw [getP_out];exact hm)
    rw [plnF_err hb]
    exact hb
   ·rw [givesP_ok (by rw [getP_out];omega),getP_out]
    refine plnF_over k hg ?_ ?_
    ·show ((s.out ++ [_]).length:Int)≤most
     rw [List.length_append];show ((s.out.length+1:Nat):Int)≤most;omega
    ·show most < ((s.out ++ [_]).length:Int)+_
     rw [List.length_append];show most < ((s.out.length+1:Nat):Int)+_;omega
  ·rw [if_neg hg];exact hg
theorem plnF_ok {bs:List UInt8} {most:Int} {k P:Nat} {out:List UInt8} (hf:P+8≤8 * bs.length) (hm:(out.length:Int) < most):plnF bs most (k+1) ⟨P,out,0⟩=plnF bs most k ⟨P+8,out ++ [UInt8.ofNat (getV bs P 8)],0⟩:=by
 rw [plnF,if_pos rfl,getP_ok rfl hf,if_pos rfl,givesP_ok hm]
theorem plnF_short {bs:List UInt8} {most:Int} {k P:Nat} {out:List UInt8} (hf:¬ P+8≤8 * bs.length):¬ (plnF bs most (k+1) ⟨P,out,0⟩).e=0:=by
 have hg:¬ (getP bs ⟨P,out,0⟩ 8).2.e=0:=getP_bad hf
 rw [plnF,if_pos rfl,if_neg hg]
 exact hg
theorem plain_go {bs:List UInt8} {most:Int} {P Q N:Nat} {out:List UInt8} (hQ:8 * ((P+7) / 8)=Q) (hf:Q+32≤8 * bs.length) (hN:getV bs Q 16=N) (hs:N+getV bs (Q+16) 16=65535):plainP bs most ⟨P,out,0⟩=plnF bs most N ⟨Q+32,out,0⟩:=by
 have e0:pl0 ⟨P,out,0⟩=⟨Q,out,0⟩:=by rw [← hQ];rfl
 have e1:getP bs (⟨Q,out,0⟩:RS) 16=(N,⟨Q+16,out,0⟩):=by rw [getP_ok rfl (by show Q+16≤_;omega),← hN]
 have e2:getP bs (⟨Q+16,out,0⟩:RS) 16=(getV bs (Q+16) 16,⟨Q+32,out,0⟩):=by rw [getP_ok rfl (by show Q+16+16≤_;omega)]
 unfold plainP pl3 pl2
 rw [e0,e1]
 show plnF bs most N (if (getP bs (⟨Q+16,out,0⟩:RS) 16).2.e=0∧¬ N+(getP bs (⟨Q+16,out,0⟩:RS) 16).1=65535 then _ else _)=_
 rw [e2,if_neg (fun h=>h.2 hs)]
theorem plain_bad {bs:List UInt8} {most:Int} {P Q:Nat} {out:List UInt8} (hQ:8 * ((P+7) / 8)=Q) (h:¬ (Q+32≤8 * bs.length∧getV bs Q 16+getV bs (Q+16) 16=65535)):¬ (plainP bs most ⟨P,out,0⟩).e=0:=by
 have e0:pl0 ⟨P,out,0⟩=⟨Q,out,0⟩:=by rw [← hQ];rfl
 have key:¬ (pl3 bs ⟨P,out,0⟩).e=0:=by
  unfold pl3
  by_cases h2:(pl2 bs ⟨P,out,0⟩).e=0
  ·have h3:(getP bs (getP bs (⟨Q,out,0⟩:RS) 16).2 16).2.e=0:=by
    unfold pl2 at h2
    rw [e0] at h2
    exact h2
   have f1:Q+16≤8 * bs.length:=by
    apply Classical.byContradiction
    intro hc
    exact getP_err (getP_bad (s:=⟨Q,out,0⟩) hc) h3
   rw [getP_ok (s:=⟨Q,out,0⟩) rfl f1] at h3
   have f2:Q+16+16≤8 * bs.length:=by
    apply Classical.byContradiction
    intro hc
    exact getP_bad (s:=⟨Q+16,out,0⟩) hc h3
   have hs:¬ getV bs Q 16+getV bs (Q+16) 16=65535:=fun e=>h ⟨by omega,e⟩
   rw [if_pos ⟨h2,by rw [e0,getP_ok (s:=⟨Q,out,0⟩) rfl f1];show ¬ getV bs Q 16+(getP bs (⟨Q+16,out,0⟩:RS) 16).1=65535;rw [getP_ok (s:=⟨Q+16,out,0⟩) rfl f2];exact hs⟩]
   exact fail_e (by decide)
  ·rw [if_neg (fun hh=>h2 hh.1)]
   exact h2
 unfold plainP
 rw [plnF_err key]
 exact key
theorem alignQ_any (g n c P:Nat) (A:Option Addr) (w:World) (h:Arr w g (rdr A n c P)) (hP:P≤8000000) :
  Calls Tryz.prog 166 #[.pointer (some ⟨g,0,none⟩)] w fun e w'=>e=.returned (.tuple #[])∧Arr w' g (rdr A n c (8 * ((P+7) / 8)))∧w.grownBy w' (some g):=by
 have c1:=h.cell (k:=1) rfl
 have f1:=h.frozen 1
 obtain ⟨Q,hQ⟩:∃ Q,(P+7) / 8=Q:=⟨_,rfl⟩
 rw [hQ]
 have e1:((P:Int)+7).tdiv 8=(Q:Int):=by rw [show (P:Int)+7=((P+7:Nat):Int) by omega,← hQ];rfl
 have e4:((P:Int)+7) / 8=(Q:Int):=by omega
 have e2:(Q:Int) * 8=((8 * Q:Nat):Int):=by omega
 have HA:=Lib.hid (h.set 1 (.int .i64 ((8 * Q:Nat):Int)))
 have HG:=Lib.hid (gb_set (o:=1) (gb_refl w (some g)) (.int .i64 ((8 * Q:Nat):Int)))
 have e3:wrap64 ((Q:Int) * 8)=(Q:Int) * 8:=wrap64_id _ (by omega) (by omega)
 have hq8:8 * Q≤8000008:=by omega
 clear h
 go_enter Tryz.func166,Tryz.ntmps166
 go_wp2_with fail
 (try simp only [Exit.inBlock,Exit.then])
 first | (refine bodyPost_ret (results_none rfl _ _ _) rfl ?_) | (refine bodyPost_end (results_none rfl _ _ _) rfl ?_)
 exact ⟨rfl,HA.out,HG.out⟩
section
variable (r g n c P : Nat) (A : Option Addr) (bs : List UInt8) (vo : Value) (out : List UInt8) (most : Int) (w : World)
/-- What a part of the document's reader leaves: true and the plain state, or false where the plain state is an error. -/
def IqPost (R:RS) (e:Ending) (w':World):Prop:=∃ ok P' vo' out',e=.returned (.bool ok)∧FI w' r g A n c P' bs vo' out' most∧RFr w w' r g vo vo'∧((ok=true∧R=⟨P',out',0⟩)∨(ok=false∧¬ R.e=0))
set_option maxRecDepth 100000 in
set_option maxHeartbeats 3200000 in
theorem istored_any (h:FI w r g A n c P bs vo out most) (ho:(out.length:Int)≤most) (hm:most≤1000000) :
  Calls Tryz.prog 131 #[.pointer (some ⟨r,0,none⟩)] w (IqPost r g n c A bs vo most w (plainP bs most ⟨P,out,0⟩)):=by
 obtain ⟨Q,hQ⟩:∃ Q,8 * ((P+7) / 8)=Q:=⟨_,rfl⟩
 have hbl:=h.rb.len
 have hfit:=h.fit
 have hbig:=h.big
 have hQn:Q≤8 * n:=by omega
 have c0:=h.arr.cell (k:=0) rfl
 obtain ⟨Ap,cp,hvo,-,-,-⟩:=h.own.form
 subst hvo
 have HAL:=Lib.hid (alignQ_any g n c P A w h.rd (by omega))
 rw [hQ] at HAL
 have HFA:Hid (∀ w1,Arr w1 g (rdr A n c Q)→w.grownBy w1 (some g)→FI w1 r g A n c Q bs (.slice Ap out.length cp) out most):=(show ∀ w1,_ from fun w1 ha hg=>h.moved ha hg hQn)
 have HBAD:=Lib.hid (fun hh=>plain_bad (bs:=bs) (most:=most) (out:=out) hQ hh)
 rw [hbl] at HBAD
 clear h
 by_cases f1:Q+16≤8 * n
 ·have HG1:=Lib.hid (fun w1 (h:FI w1 r g A n c Q bs (.slice Ap out.length cp) out most)=>iget_ok r g n c Q 16 A bs _ out most 16 w1 rfl h (by omega) f1)
  by_cases f2:Q+32≤8 * n
  ·have HG2:=Lib.hid (fun w1 (h:FI w1 r g A n c (Q+16) bs (.slice Ap out.length cp) out most)=>iget_ok r g n c (Q+16) 16 A bs _ out most 16 w1 rfl h (by omega) (by omega))
   have v1:=getV_lt bs Q 16
   have v2:=getV_lt bs (Q+16) 16
   have HGO:=Lib.hid (fun N hN hs=>plain_go (bs:=bs) (most:=most) (out:=out) (N:=N) hQ (by rw [hbl];exact f2) hN hs)
   generalize plainP bs most ⟨P,out,0⟩=R at *
   obtain ⟨N,hN⟩:∃ N,getV bs Q 16=N:=⟨_,rfl⟩
   obtain ⟨M,hM⟩:∃ M,getV bs (Q+16) 16=M:=⟨_,rfl⟩
   rw [hN] at HG1 v1 HBAD
   rw [hM] at HG2 v2 HBAD
   have HGO2:Hid (N+M=65535→R=plnF bs most N ⟨Q+32,out,0⟩):=(show _→_ from fun hs=>HGO.out N hN (by rw [hM];exact hs))
   clear HGO hN hM hQ
   obtain ⟨L,hL⟩:∃ L,out.length=L:=⟨_,rfl⟩
   rw [hL] at ho
   have HL:=Lib.hid hL
   have hsb:IntKind.i64.wrap (most - (L:Int))=most - (L:Int):=by obtain ⟨d,hd⟩:∃ d:Nat,most - (L:Int)=(d:Int):=⟨(most - (L:Int)).toNat,by omega⟩;rw [hd];exact wrap_i64_lt d (by omega)
   have hnmw:IntKind.i64.wrap ((N:Int)+(M:Int))=(N:Int)+(M:Int):=by rw [show (N:Int)+(M:Int)=((N+M:Nat):Int) by omega];exact wrap_i64_lt _ (by omega)
   simp only [hL] at HAL HFA HG1 HG2 c0 ⊢
   clear hL
   go_enter Tryz.func131,Tryz.ntmps131
   go_upto_region 4 with (first
    | (go_at_call 166;(with_reducible refine HAL.out.mono ?_);go_must (rintro e w1 ⟨rfl,ha1,hg1⟩;have HG11:=Lib.hid (HG1.out w1 (HFA.out w1 ha1 hg1));have HR1:=Lib.hid (RFr.ofG hg1 r (.slice Ap L cp));clear ha1 hg1))
    | (go_at_call 130;(with_reducible refine HG11.out.mono ?_);go_must (rintro e w2 ⟨rfl,hf2,hr2⟩;have HG22:=Lib.hid (HG2.out w2 hf2);have HR2:=Lib.hid (HR1.out.trans hr2);clear hf2 hr2 HG11))
    | (go_at_call 130;(with_reducible refine HG22.out.mono ?_);go_must (rintro e w3 ⟨rfl,hf3,hr3⟩;have HF3:=Lib.hid hf3;have HR3:=Lib.hid (HR2.out.trans hr3);have c31:=hf3.arr.cell (k:=1) rfl;have c32:=hf3.arr.cell (k:=2) rfl;clear hf3 hr3 HG22)))
   by_cases hnm:N+M=65535
   ·have hnmi:(N:Int)+(M:Int)=65535:=by omega
    have HRR:=Lib.hid (HGO2.out hnm)
    by_cases hov:(N:Int)≤most - (L:Int)
    ·have t1:¬ most - (L:Int) < (N:Int):=by omega
     go_quiet (fail)
     have HF30:Hid (FI (w3.drewN nq) r g A n c (Q+32) bs (.slice Ap L cp) out most):=(show FI _ _ _ _ _ _ _ _ _ _ _ from by have h9:=HF3.out.drewN nq;rw [Nat.add_assoc] at h9;exact h9)
     have HR30:=Lib.hid (HR3.out.drewN nq)
     have hN16:N < 65536:=v1
     clear HAL HFA HG1 HG2 HGO2 HBAD c31 c32 v1 v2 HF3 HR3
     go_wp2_with fail
     go_loopw [7] (fun vi wr=>∃ (i P':Nat) (vq:Value) (out':List UInt8),i≤N∧vi=.int .i64 i∧out'.length=L+i∧Hid (FI wr r g A n c P' bs vq out' most)∧Hid (RFr w wr r g (.slice Ap L cp) vq)∧Hid (R=plnF bs most (N - i) ⟨P',out',0⟩)) (fun vi _=>N - (intOf vi).toNat)
     case atStart=>exact ⟨0,_,_,out,Nat.zero_le _,rfl,HL.out,HF30,HR30,HRR⟩
     case round =>
      clear HF30 HR30 HRR HR1 HR2
      obtain ⟨i,P',vq,out',hi,rfl,hlo,HF,HR,HQ⟩:=hrel
      have HLO:=Lib.hid hlo
      obtain ⟨l',hl'⟩:∃ l',out'.length=l':=⟨_,rfl⟩
      rw [hl'] at hlo
      by_cases hlt:i < N
      ·have hlti:(i:Int) < (N:Int):=by omega
       have HQ2:Hid (R=plnF bs most (N - (i+1)+1) ⟨P',out',0⟩):=(show _=_ by rw [HQ.out,show N - (i+1)+1=N - i by omega])
       by_cases hf:P'+8≤8 * n
       ·have HG:=Lib.hid (iget_ok r g n c P' 8 A bs vq out' most 8 wr rfl HF.out (by omega) hf)
        have hv:=getV_lt bs P' 8
        obtain ⟨x,hx⟩:∃ x:UInt8,getV bs P' 8=x.toNat:=⟨UInt8.ofNat (getV bs P' 8),by rw [UInt8.toNat_ofNat'];exact (Nat.mod_eq_of_lt (by omega)).symm⟩
        have HST:Hid (R=plnF bs most (N - (i+1)) ⟨P'+8,out' ++ [x],0⟩):=(show _=_ by rw [HQ2.out,plnF_ok (by rw [hbl];exact hf) (by rw [hl'];omega),hx];simp)
        rw [hx] at HG
        have hx8:=x.toNat_lt
        have hx9:(x.toNat:Int) % 256=(x.toNat:Int):=Int.emod_eq_of_lt (by omega) (by omega)
        obtain ⟨Aq,cq,hvq,-,-,-⟩:=HF.out.own.form
        subst hvq
        rw [hl'] at HF HR HG
        have hlen2:out'.length+1≤140737488355328:=by rw [hl'];omega
        have HLO2:Hid ((out' ++ [x]).length=L+(i+1)):=(show _=_ by rw [List.length_append,hl',hlo];show L+i+1=_;omega)
        clear hx hv HQ HQ2 hl' HLO hlo
        go_wp2_with (first
         | (go_at_call 130;(with_reducible refine HG.out.mono ?_);go_must (rintro e w5 ⟨rfl,hf5,hr5⟩;have HF5:=Lib.hid hf5;have HR5:=Lib.hid (HR.out.trans hr5);have c51:=hf5.arr.cell (k:=1) rfl;have hr5l:r < w5.heap.size:=hf5.arr.lt;have hr5m:r+1≤w5.heap.size+1:=(by omega);clear hf5 hr5))
         | (at_builtin;go_must (refine wpList_appendB rfl (.tmp 67) (.tmp 70) rfl (r+1) (.slice Aq l' cq) out' rfl (ownB.alloc HF5.out.own _) (w5.heap.size+1) 1 1 (some ⟨w5.heap.size,0,none⟩) [x] rfl (rd_one w5 (x.toNat:Int) x rfl) hlen2 (by rw [World.size_alloc];exact hr5m) ?_;intro v6 w6 hown hgb hbl6 hat;obtain ⟨A6,c6,rfl,-,-,-⟩:=hown.form;obtain ⟨hf6,hr6,c61,f61⟩:=HF5.out.gave hown hgb hbl6 hat;obtain ⟨l6,hl6⟩:∃ l,(out' ++ [x]).length=l:=⟨_,rfl⟩;rw [hl6] at hf6 hr6 ⊢;clear hl6;have HF6:=Lib.hid hf6;have HR6:=Lib.hid (HR5.out.trans hr6);clear hf6 hr6 hown hgb hbl6 hat)))
        go_roundw
        case rel=>exact ⟨i+1,P'+8,_,out' ++ [x],by omega,by go_num,HLO2.out,HF6,HR6,HST⟩
        case measure=>simp [intOf];omega
       ·have HG:=Lib.hid (iget_bad r g n c P' 8 A bs vq out' most 8 wr rfl HF.out (by omega) hf)
        have HE:Hid (¬ R.e=0):=(show ¬ _ by rw [HQ2.out];exact plnF_short (by rw [hbl];exact hf))
        go_wp2_with (go_at_call 130;(with_reducible refine HG.out.mono ?_);go_must (rintro e w5 ⟨rfl,hf5,hr5⟩;have HF5:=Lib.hid hf5;have HR5:=Lib.hid (HR.out.trans hr5);clear hf5 hr5))
        go_ret
        unfold IqPost
        exact ⟨false,_,_,_,rfl,HF5.out,HR5.out,.inr ⟨rfl,HE.out⟩⟩
      ·obtain rfl:i=N:=by omega
       have hlti:¬ (i:Int) < (i:Int):=by omega
       have HE:Hid (R=⟨P',out',0⟩):=(show _=_ by rw [HQ.out,Nat.sub_self];rfl)
       go_wp2_with fail
       go_ret
       unfold IqPost
       exact ⟨true,_,_,_,rfl,HF.out,HR.out,.inl ⟨rfl,HE.out⟩⟩
    ·have t1:most - (L:Int) < (N:Int):=by omega
     have HE:Hid (¬ R.e=0):=(show ¬ _ by rw [HRR.out];exact plnF_over N rfl (by show ((out.length:Nat):Int)≤most;rw [HL.out];exact ho) (by show most < ((out.length:Nat):Int)+_;rw [HL.out];omega))
     go_quiet (fail)
     go_wp2_with fail
     go_ret
     unfold IqPost
     exact ⟨false,_,_,_,rfl,HF3.out.drewN _,HR3.out.drewN _,.inr ⟨rfl,HE.out⟩⟩
   ·have d3:((N:Int)+(M:Int) != 65535)=true:=by rw [bne_iff_ne];omega
    have HE:=Lib.hid (HBAD.out (fun hh=>hnm hh.2))
    go_quiet (fail)
    go_wp2_with fail
    go_ret
    unfold IqPost
    exact ⟨false,_,_,_,rfl,HF3.out.drewN _,HR3.out.drewN _,.inr ⟨rfl,HE.out⟩⟩
  ·have HG2:=Lib.hid (fun w1 (h:FI w1 r g A n c (Q+16) bs (.slice Ap out.length cp) out most)=>iget_bad r g n c (Q+16) 16 A bs _ out most 16 w1 rfl h (by omega) (by omega))
   have HE:=Lib.hid (HBAD.out (fun hh=>f2 hh.1))
   generalize plainP bs most ⟨P,out,0⟩=R at *
   generalize getV bs Q 16=N at *
   clear HBAD
   go_enter Tryz.func131,Tryz.ntmps131
   go_upto_region 4 with (first
    | (go_at_call 166;(with_reducible refine HAL.out.mono ?_);go_must (rintro e w1 ⟨rfl,ha1,hg1⟩;have HG11:=Lib.hid (HG1.out w1 (HFA.out w1 ha1 hg1));have HR1:=Lib.hid (RFr.ofG hg1 r (.slice Ap out.length cp));clear ha1 hg1))
    | (go_at_call 130;(with_reducible refine HG11.out.mono ?_);go_must (rintro e w2 ⟨rfl,hf2,hr2⟩;have HG22:=Lib.hid (HG2.out w2 hf2);have HR2:=Lib.hid (HR1.out.trans hr2);clear hf2 hr2 HG11))
    | (go_at_call 130;(with_reducible refine HG22.out.mono ?_);go_must (rintro e w3 ⟨rfl,hf3,hr3⟩;have HF3:=Lib.hid hf3;have HR3:=Lib.hid (HR2.out.trans hr3);clear hf3 hr3 HG22)))
   go_quiet (fail)
   go_wp2_with fail
   go_ret
   unfold IqPost
   exact ⟨false,_,_,_,rfl,HF3.out.drewN _,HR3.out.drewN _,.inr ⟨rfl,HE.out⟩⟩
 ·have HG1:=Lib.hid (fun w1 (h:FI w1 r g A n c Q bs (.slice Ap out.length cp) out most)=>iget_bad r g n c Q 16 A bs _ out most 16 w1 rfl h (by omega) f1)
  have HG2:=HG1
  have HE:=Lib.hid (HBAD.out (fun hh=>f1 (Nat.le_trans (by omega) hh.1)))
  generalize plainP bs most ⟨P,out,0⟩=R at *
  clear HBAD
  go_enter Tryz.func131,Tryz.ntmps131
  go_upto_region 4 with (first
   | (go_at_call 166;(with_reducible refine HAL.out.mono ?_);go_must (rintro e w1 ⟨rfl,ha1,hg1⟩;have HG11:=Lib.hid (HG1.out w1 (HFA.out w1 ha1 hg1));have HR1:=Lib.hid (RFr.ofG hg1 r (.slice Ap out.length cp));clear ha1 hg1))
   | (go_at_call 130;(with_reducible refine HG11.out.mono ?_);go_must (rintro e w2 ⟨rfl,hf2,hr2⟩;have HG22:=Lib.hid (HG2.out w2 hf2);have HR2:=Lib.hid (HR1.out.trans hr2);clear hf2 hr2 HG11))
   | (go_at_call 130;(with_reducible refine HG22.out.mono ?_);go_must (rintro e w3 ⟨rfl,hf3,hr3⟩;have HF3:=Lib.hid hf3;have HR3:=Lib.hid (HR2.out.trans hr3);clear hf3 hr3 HG22)))
  go_quiet (fail)
  go_wp2_with fail
  go_ret
  unfold IqPost
  exact ⟨false,_,_,_,rfl,HF3.out.drewN _,HR3.out.drewN _,.inr ⟨rfl,HE.out⟩⟩
end
end Go.Proofs.YteoolehdomjkkaaGreat

/- flate: the document's decoders apart from the document's reader. -/
namespace Go.Proofs.YteoolehdomjkkaaGreat
set_option linter.all false
open Go.RowKit
/-- A decoder none of whose blocks lies below lo. -/
def DecG5 (w:World) (lo g:Nat) (ls:List Int):Prop:=∃ A c,Arr w g [.slice A ls.length c]∧ownD w lo (.slice A ls.length c) (codesL ls)∧lo≤g
def New5G (w:World) (ls:List Int) (e:Ending) (w':World):Prop :=
 ∃ v,e=.returned (.tuple #[v,.int .i64 (nwE ls)])∧(nwE ls=0→∃ g,v=.pointer (some ⟨g,0,none⟩)∧DecG5 w' w.heap.size g ls)∧(nwE ls ≠ 0→v=.pointer none)∧Below w.heap.size w w'
set_option maxRecDepth 100000 in
set_option maxHeartbeats 3200000 in
theorem new5G_any (B n c:Nat) (A:Option Addr) (ls:List Int) (w:World) (h:RdI w B A n ls) (hB1:B≤w.heap.size) (hn:n≤1099511627776) :
  Calls Tryz.prog 167 #[.slice A n c] w fun e w'=>New5G w ls e w':=by
 have HC:=Lib.hid (codes5_any B n c A ls w h hB1 hn)
 by_cases hE:cdE ls=0
 ·obtain ⟨g1,g2,g3⟩:=cdE_zero hE
  have hL:cdL ls=codesL ls:=by unfold cdL;rw [if_pos hE]
  have HL:=Lib.hid h.len
  have hn3:n≤300:=by have:=h.len;omega
  have HBAD:=Lib.hid g1
  have HNW:Hid (nwE ls=if (allP ls 15).length=0 then 4 else 0):=(show _=_ by unfold nwE;rw [if_pos hE])
  rw [hE,hL,codesL_len,h.len] at HC
  clear h hE g1 g2 g3 hL
  go_enter Tryz.func167,Tryz.ntmps167
  go_wp2_with (go_at_call 118;(with_reducible refine HC.out.mono ?_);go_must (rintro e w1 ⟨A1,n1,c1,rfl,rfl,ho1,hb1⟩;have HB1:=Lib.hid hb1;have hz1:=hb1.size;have HR1:=Lib.hid (RdD.here ho1.rd);have HO1:=Lib.hid ho1;clear hb1 ho1))
  go_loopw [6] (fun vi wr=>∃ k:Nat,k≤n1∧vi=.int .i64 k∧Hid (∀ (i:Nat) (x:Int),i < k→ls[i]?=some x→¬ 0 < x)∧Hid (wr=w1)) (fun vi _=>n1 - (intOf vi).toNat)
  case atStart=>exact ⟨0,Nat.zero_le _,rfl,(show ∀ (i:Nat) (x:Int),i < 0→_ from fun i x hi=>absurd hi (by omega)),(show _=_ from rfl)⟩
  case round =>
   obtain ⟨k,hk,rfl,HS,HW⟩:=hrel
   obtain rfl:wr=w1:=HW.out
   by_cases hlt:k < n1
   ·obtain ⟨b,o,y,rfl,hb,HY,e1,e2⟩:=HR1.out.one hlt
    have hy:=codesL_at HY.out
    obtain ⟨x,hx⟩:∃ x,ls[k]?=some x:=⟨_,List.getElem?_eq_getElem (by rw [HL.out];exact hlt)⟩
    by_cases h0:0 < x
    ·obtain ⟨x0,x1⟩:=good_at HBAD.out hx
     obtain ⟨t,rfl⟩:=Int.eq_ofNat_of_zero_le x0
     rw [codeAt_pos hx (by omega)] at hy
     subst hy
     have HE:Hid (nwE ls=0):=(show _=_ by rw [HNW.out,if_neg (allP_some HBAD.out hx h0)])
     have HAN:=Lib.hid (Arr.new wr [Value.slice (some ⟨b,o,none⟩) n1 c1] 221)
     have HON:=Lib.hid (ownD.alloc HO1.out (.cells #[Value.slice (some ⟨b,o,none⟩) n1 c1] 221))
     have HBN:=Lib.hid (HB1.out.alloc hz1 (.cells #[Value.slice (some ⟨b,o,none⟩) n1 c1] 221))
     have d0:decide ((t:Int) > 0)=true:=decide_eq_true h0
     have HD:Hid (DecG5 (wr.alloc (.cells #[Value.slice (some ⟨b,o,none⟩) n1 c1] 221)) w.heap.size wr.heap.size ls):=(show DecG5 _ _ _ _ by
      refine ⟨some ⟨b,o,none⟩,c1,?_,?_,hz1⟩
      ·rw [HL.out];exact HAN.out
      ·rw [HL.out];exact HON.out)
     clear HY HS HAN HON hx e1
     go_wp2_with fail
     go_ret2
     exact ⟨_,ret_tup2 rfl (by rw [HE.out];rfl),fun _=>⟨_,rfl,HD.out⟩,fun h=>absurd HE.out h,HBN.out⟩
    ·rw [codeAt_zero hx h0] at hy
     subst hy
     have HS2:Hid (∀ (i:Nat) (x:Int),i < k+1→ls[i]?=some x→¬ 0 < x):=(show ∀ (i:Nat) (x:Int),i < k+1→_ from fun i x' hi hx'=>by
      by_cases e:i=k
      ·subst e
       rw [hx] at hx'
       injection hx' with e
       rw [← e]
       exact h0
      ·exact HS.out i x' (by omega) hx')
     clear HY HS hx e1
     go_wp2_with fail
     go_roundw
     case rel=>exact ⟨k+1,by omega,by go_num,HS2,(by first | exact Lib.hid trivial | exact Lib.hid rfl)⟩
     case measure=>simp [intOf];omega
   ·obtain rfl:k=n1:=by omega
    have HE:Hid (nwE ls=4):=(show _=_ by
     have h0:∀ (i:Nat) (x:Int),ls[i]?=some x→¬ 0 < x:=fun i x hx=>HS.out i x (by have:=(List.getElem?_eq_some_iff.1 hx).1;have:=HL.out;omega) hx
     rw [HNW.out,if_pos (by rw [allP_empty h0];rfl)])
    go_wp2_with fail
    go_ret2
    exact ⟨_,ret_tup2 rfl (by rw [HE.out];rfl),fun h=>absurd (HE.out.symm.trans h) (by decide),fun _=>rfl,HB1.out⟩
 ·have HE:Hid (nwE ls=cdE ls∧cdE ls ≠ 0):=(show _∧_ by unfold nwE;rw [if_neg hE];exact ⟨rfl,hE⟩)
  have de:(cdE ls != 0)=true:=by simp [bne];exact hE
  clear h hE
  generalize cdE ls=E at *
  go_enter Tryz.func167,Tryz.ntmps167
  go_wp2_with (go_at_call 118;(with_reducible refine HC.out.mono ?_);go_must (rintro e w1 ⟨A1,n1,c1,rfl,-,-,hb1⟩))
  go_ret2
  exact ⟨_,ret_tup2 rfl (by rw [HE.out.1];rfl),fun h=>absurd (HE.out.1.symm.trans h) HE.out.2,fun _=>rfl,hb1⟩
/-- A decoder newer than the reader, beside its row. -/
structure DK5 (w:World) (r g:Nat) (vo:Value) (gd:Nat) (ls:List Int):Prop where
 hr:r < gd
 hg:g < gd
 ne:vo.ownBlock ≠ some gd
 row:∃ A c lo,Arr w gd [.slice A ls.length c]∧ownD w lo (.slice A ls.length c) (codesL ls)∧r < lo∧g < lo∧Dis vo (.slice A ls.length c)
section
variable {w w' : World} {r g gd : Nat} {vo vo' : Value} {ls : List Int}
theorem ownD.rfr {v:Value} {l:List (Nat × Int)} {base:Nat} (h:ownD w base v l) (hf:RFr w w' r g vo vo') (hr:r < base) (hg:g < base) (hd:Dis vo v):ownD w' base v l:=by
 have hb:∀ k,v.ownBlock=some k→w'.heap[k]?=w.heap[k]?:=fun k hk=>by
  have:=World.ownsRow.lt h k hk
  exact hf.block k this.2 (by omega) (by omega) (fun e=>hd k e hk)
 refine ⟨h.1,?_⟩
 rcases h.2 with hn | ⟨q,cap,cur,rfl,hbg,hq,rest⟩
 ·exact .inl hn
 ·exact .inr ⟨q,cap,cur,rfl,hbg,(hb q rfl).trans hq,rest⟩
theorem DK5.fr (h:DK5 w r g vo gd ls) (hf:RFr w w' r g vo vo'):DK5 w' r g vo' gd ls:=by
 obtain ⟨A,c,lo,h1,h2,h4,h5,h3⟩:=h.row
 have hlt:=h1.lt
 have hr:=h.hr
 have hg:=h.hg
 have hA:Arr w' gd [.slice A ls.length c]:=by
  obtain ⟨t,ht⟩:=h1
  exact ⟨t,(hf.block gd hlt (by omega) (by omega) h.ne).trans ht⟩
 have hO:=ownD.rfr h2 hf h4 h5 h3
 have hD:=Dis.rfr2 (fun k hk=>(World.ownsRow.lt h2 k hk).2) hf h3
 refine ⟨hr,hg,fun e=>?_,A,c,lo,hA,hO,h4,h5,hD⟩
 rcases hf.own with e2 | ⟨j,hj,e2⟩
 ·exact h.ne (e2.symm.trans e)
 ·rw [e2] at e
  injection e with e
  omega
theorem DK5.new {lo:Nat} (h:DecG5 w lo gd ls) (hr:r < lo) (hg:g < lo) (hv:∀ k,vo.ownBlock=some k→k < lo):DK5 w r g vo gd ls:=by
 obtain ⟨A,c,h1,h2,h3⟩:=h
 refine ⟨by omega,by omega,fun e=>?_,A,c,lo,h1,h2,hr,hg,fun k hk hk2=>?_⟩
 ·have:=hv gd e
  omega
 ·have h4:=hv k hk
  have h5:=(World.ownsRow.lt h2 k hk2).1
  omega
theorem DK5.dec (h:DK5 w r g vo gd ls):Dec5 w w.heap.size gd ls:=by
 obtain ⟨A,c,lo,h1,h2,-⟩:=h.row
 exact ⟨A,c,h1,(ownD.rd h2),h1.lt⟩
end
end Go.Proofs.YteoolehdomjkkaaGreat

/- flate: the document's decoders: the next symbol, the decoder being newer than the reader. -/
namespace Go.Proofs.YteoolehdomjkkaaGreat
set_option linter.all false
open Go.RowKit
theorem ownD.gro {w w':World} {lo g:Nat} {v:Value} {l:List (Nat × Int)} (h:ownD w lo v l) (hg:w.grownBy w' (some g)) (hlt:g < lo):ownD w' lo v l:=by
 refine World.ownsRow.kept h hg ?_
 cases e:v.ownBlock with
 | none=>exact .inl rfl
 | some k=>exact .inr (fun e2=>by injection e2 with e2;have:=(World.ownsRow.lt h k e).1;omega)
set_option maxRecDepth 100000 in
set_option maxHeartbeats 3200000 in
theorem next5_gen (B n c gd gr P:Nat) (A:Option Addr) (ls:List Int) (bs:List UInt8) (w:World) (hgd:gr < gd) (hd:∃ A c lo,Arr w gd [.slice A ls.length c]∧ownD w lo (.slice A ls.length c) (codesL ls)∧gr < lo) (hr:Arr w gr (rdr A n c P)) (hb:RdB w B A n bs) (hg:B≤gr) (hP:P≤8 * n) (hn:n≤1099511627776)
  (hbad:badL ls=false) (hkr:krN ls≤32768) (hl3:ls.length≤300) :
  Calls Tryz.prog 168 #[.pointer (some ⟨gd,0,none⟩),.pointer (some ⟨gr,0,none⟩)] w fun e w'=>NextPost ls bs A n c P gr w e w':=by
 obtain ⟨Ad,cd,lo,hd1,hd2,hd3⟩:=hd
 have HBAD:=Lib.hid hbad
 have HKR:=Lib.hid hkr
 obtain ⟨m,hm⟩:∃ m,ls.length=m:=⟨_,rfl⟩
 rw [hm] at hd1 hd2 hl3
 have HLM:=Lib.hid hm
 have HD:=Lib.hid hd1
 have HDR:=Lib.hid hd2
 have HR:=Lib.hid hr
 have HRB:=Lib.hid hb
 have hgs:=hr.lt
 have HBL:=Lib.hid hb.len
 clear hbad hkr hd1 hd2 hr hb hm
 go_enter Tryz.func168,Tryz.ntmps168
 go_wp2_with fail
 go_loopw [7,6] (fun vt vv wr=>∃ t v Q:Nat,1≤t∧t≤16∧vt=.int .i64 t∧vv=.int .u32 v∧Hid (v < 2 ^ (t - 1))∧Hid (Q≤8 * n)∧Hid (Arr wr gr (rdr A n c Q))∧Hid (w.grownBy wr (some gr))∧Hid (nx ls bs (16 - t) t v Q=nx ls bs 15 1 0 P))
  (fun vt _ _=>17 - (intOf vt).toNat)
 case atStart=>exact ⟨1,0,P,by omega,by omega,rfl,rfl,(show 0 < 2 ^ (1 - 1) by decide),hP,HR,gb_refl _ _,(show _=_ from rfl)⟩
 case round =>
  clear HR
  obtain ⟨t,v,Q,ht1,ht2,rfl,rfl,HV,HQ,HA,HG,HN⟩:=hrel
  have hQ:=HQ.out
  by_cases hlt:t≤15
  ·have htI:(t:Int)≤15:=by omega
   have HN1:Hid (nx ls bs (15 - t+1) t v Q=nx ls bs 15 1 0 P):=(show _=_ by
    have:=HN.out
    rwa [show 16 - t=15 - t+1 by omega] at this)
   by_cases hfit:8 * n < Q+1
   ·have HC:=Lib.hid (getR1_short HA.out hn hQ hfit)
    have HE:Hid ((0,2,Q)=nx ls bs 15 1 0 P):=(show _=_ by rw [← HN1.out,nx_short (by rw [HBL.out];omega)])
    go_wp2_with (go_at_call 165;(with_reducible refine HC.out.mono ?_);go_must (rintro e w5 ⟨rfl,hb5⟩))
    go_ret2
    exact nextPost HE.out rfl (HA.out.gbN hb5) (gb_trans HG.out (gb_none hb5 gr))
   ·have HC:=Lib.hid (getR1_any HA.out (HRB.out.blw (below_gb HG.out (by omega) hg)) hg hn (by omega))
    have hbt:=bitAt_lt bs Q
    obtain ⟨V,hV⟩:∃ V,v * 2+bitAt bs Q=V:=⟨_,rfl⟩
    obtain ⟨p1,p2,p3⟩:=pow_step HV.out ht1 hlt hbt hV
    have HP1:=Lib.hid p1
    have hor:=or_code v (bitAt bs Q) p3 hbt
    rw [hV] at hor
    have HVV:=Lib.hid hV
    have hns:¬ 8 * bs.length≤Q:=by rw [HBL.out];omega
    have HNS:=Lib.hid hns
    clear p1 hV hns
    generalize hbq:bitAt bs Q=bq at *
    have HBQ:=Lib.hid hbq
    clear hbq HN HV
    go_wp2_with (go_at_call 165;(with_reducible refine HC.out.mono ?_);go_must (rintro e w5 ⟨rfl,hA5,hG5⟩;have HA5:=Lib.hid hA5;have HG5:=Lib.hid (gb_trans HG.out hG5);clear hA5 hG5))
    have HD5:=Lib.hid (HD.out.gro HG5.out (by omega))
    have HDR5:=Lib.hid (ownD.rd (ownD.gro HDR.out HG5.out hd3))
    clear HA HG HC
    obtain ⟨wo,rfl⟩:∃ wo:World,wo=wr:=⟨_,rfl⟩
    go_loopw [10] (fun vk wr=>∃ k:Nat,k≤m∧vk=.int .i64 k∧Hid (∀ p,p < k→¬ Hit ls t V p)∧Hid (wr=w5)) (fun vk _=>m - (intOf vk).toNat)
    case atStart=>exact ⟨0,Nat.zero_le _,rfl,(show ∀ p,p < 0→_ from fun p hp=>absurd hp (by omega)),(show _=_ from rfl)⟩
    case round =>
     obtain ⟨k,hk,rfl,HS,HW⟩:=hrel
     obtain rfl:wr=w5:=HW.out
     have c0:=HD5.out.cell (k:=0) rfl
     by_cases hlt2:k < m
     ·obtain ⟨b,o,y,rfl,hb,HY,e1,e2⟩:=HDR5.out.one hlt2
      have hy:=codesL_at HY.out
      obtain ⟨x,hx⟩:∃ x,ls[k]?=some x:=⟨_,List.getElem?_eq_getElem (by rw [HLM.out];exact hlt2)⟩
      obtain ⟨x0,x1⟩:=good_at HBAD.out hx
      obtain ⟨u,rfl⟩:=Int.eq_ofNat_of_zero_le x0
      have hnext:¬ Hit ls t V k→∀ p,p < k+1→¬ Hit ls t V p:=fun h p hp=>by
       by_cases e:p=k
       ·rw [e];exact h
       ·exact HS.out p (by omega)
      by_cases hut:u=t
      ·subst hut
       rw [codeAt_pos hx (by omega)] at hy
       have HX:=Lib.hid hx
       have hvb:fst ls u+cnt (ls.take k) u≤32768:=by
        have:=fst_small ls HBAD.out HKR.out u hlt
        have:=cnt_take ls k u
        have:=cz_cnt ls ht1
        omega
       have dut:((u:Int) == (u:Int))=true:=by simp
       by_cases hv:fst ls u+cnt (ls.take k) u=V
       ·have HE:Hid (((k:Int),0,Q+1)=nx ls bs 15 1 0 P):=(show _=_ by
         rw [← HN1.out,nx_hit HNS.out (by rw [HBQ.out,HVV.out];exact hit_some ⟨hx,hv⟩)])
        rw [hv] at hy
        subst hy
        have dvv:((V:Int) == (V:Int))=true:=by simp
        clear hnext HS hx HX HY hv
        go_wp2_with fail
        go_ret2
        exact nextPost HE.out rfl HA5.out HG5.out
       ·have HS2:=Lib.hid (hnext (fun h=>hv h.2))
        generalize fst ls u+cnt (ls.take k) u=V2 at *
        subst hy
        have dvv:((V2:Int) == (V:Int))=false:=beq_eq_false_iff_ne.2 (by omega)
        clear hnext HS hx HX HY hv
        go_wp2_with fail
        go_roundw
        case rel=>exact ⟨k+1,by omega,by go_num,HS2,(by first | exact Lib.hid trivial | exact Lib.hid rfl)⟩
        case measure=>simp [intOf];omega
      ·have HS2:=Lib.hid (hnext (fun h=>hut (by have:=h.1;rw [hx] at this;injection this with e;omega)))
       have hy2:y.2=(u:Int):=by
        by_cases h0:0 < u
        ·rw [hy,codeAt_pos hx h0]
        ·obtain rfl:u=0:=by omega
         rw [hy,codeAt_zero hx (by omega)];rfl
       rw [hy2] at e2
       have dut:((u:Int) == (t:Int))=false:=beq_eq_false_iff_ne.2 (by omega)
       clear hnext HS hx HY hy hy2
       go_wp2_with fail
       go_roundw
       case rel=>exact ⟨k+1,by omega,by go_num,HS2,(by first | exact Lib.hid trivial | exact Lib.hid rfl)⟩
       case measure=>simp [intOf];omega
     ·obtain rfl:k=m:=by omega
      have HN2:Hid (nx ls bs (16 - (t+1)) (t+1) V (Q+1)=nx ls bs 15 1 0 P):=(show _=_ by
       have hh:hitN ls t (v * 2+bitAt bs Q)=none:=by
        rw [HBQ.out,HVV.out]
        exact hit_none (fun p h=>HS.out p (by have:=(List.getElem?_eq_some_iff.1 h.1).1;have:=HLM.out;omega) h)
       rw [← HN1.out,nx_on HNS.out hh,HBQ.out,HVV.out,show 16 - (t+1)=15 - t by omega])
      go_wp2_with fail
      go_roundw
      case rel=>exact ⟨t+1,V,Q+1,by omega,by omega,by go_num,rfl,HP1,(show Q+1≤8 * n by omega),HA5,HG5,HN2⟩
      case measure=>simp [intOf];omega
  ·obtain rfl:t=16:=by omega
   have HE:Hid ((0,4,Q)=nx ls bs 15 1 0 P):=(show _=_ by rw [← HN.out];rfl)
   go_wp2_with fail
   go_ret2
   exact nextPost HE.out rfl HA.out HG.out
end Go.Proofs.YteoolehdomjkkaaGreat

/- flate: the document's reader of blocks: a symbol read; what lengths' and distances' symbols stand for. -/
namespace Go.Proofs.YteoolehdomjkkaaGreat
set_option linter.all false
open Go.RowKit
theorem inext_any (r g gd n c P:Nat) (A:Option Addr) (bs:List UInt8) (vo:Value) (out:List UInt8) (most:Int) (ls:List Int) (w:World) (h:FI w r g A n c P bs vo out most) (hd:DK5 w r g vo gd ls) (hok:OkL ls) :
  Calls Tryz.prog 168 #[.pointer (some ⟨gd,0,none⟩),.pointer (some ⟨g,0,none⟩)] w fun e w'=>e=.returned (.tuple #[.int .i64 (nx ls bs 15 1 0 P).1,.int .i64 (nx ls bs 15 1 0 P).2.1])∧FI w' r g A n c (nx ls bs 15 1 0 P).2.2 bs vo out most∧RFr w w' r g vo vo:=by
 obtain ⟨Ad,cd,lo,h1,h2,h3,h4,-⟩:=hd.row
 refine (next5_gen g n c gd g P A ls bs w hd.hg ⟨Ad,cd,lo,h1,h2,h4⟩ h.rd h.rb (Nat.le_refl _) h.fit (by have:=h.big;omega) hok.1 hok.2.1 hok.2.2).mono ?_
 rintro e w' ⟨he,ha,hg⟩
 have hl:=h.rb.len
 have hf:=h.fit
 have:=(nx_le ls bs 15 1 0 P (by omega)).1
 exact ⟨he,h.moved ha hg (by omega),RFr.ofG hg r vo⟩
theorem kinds29 {k:Nat} (h:k≤28):k=0∨k=1∨k=2∨k=3∨k=4∨k=5∨k=6∨k=7∨k=8∨k=9∨k=10∨k=11∨k=12∨k=13∨k=14∨k=15∨k=16∨k=17∨k=18∨k=19∨k=20∨k=21∨k=22∨k=23∨k=24∨k=25∨k=26∨k=27∨k=28:=by omega
set_option maxRecDepth 100000 in
set_option maxHeartbeats 6400000 in
theorem lengthOf5_any (k:Nat) (X:Int) (hX:X=257+(k:Int)) (h:k≤28) (w:World) :
  Calls Tryz.prog 169 #[.int .i64 X] w fun e w'=>e=.returned (.tuple #[.int .i64 ((lenOf k).1:Int),.int .i64 ((lenOf k).2:Int)])∧w=w':=by
 rcases kinds29 h with rfl | rfl | rfl | rfl | rfl | rfl | rfl | rfl | rfl | rfl | rfl | rfl | rfl | rfl | rfl | rfl | rfl | rfl | rfl | rfl | rfl | rfl | rfl | rfl | rfl | rfl | rfl | rfl | rfl
 all_goals
  subst hX
  go_enter Tryz.func169,Tryz.ntmps169
  go_wp2
  go_ret2
  exact ⟨rfl,rfl⟩
set_option maxRecDepth 100000 in
set_option maxHeartbeats 6400000 in
theorem distOf5_any (k:Nat) (X:Int) (hX:X=(k:Int)) (h:k < 30) (w:World) :
  Calls Tryz.prog 170 #[.int .i64 X] w fun e w'=>e=.returned (.tuple #[.int .i64 ((distOf k).1:Int),.int .i64 ((distOf k).2:Int)])∧w=w':=by
 have hk:k≤28∨k=29:=by omega
 rcases hk with hk | rfl
 ·rcases kinds29 hk with rfl | rfl | rfl | rfl | rfl | rfl | rfl | rfl | rfl | rfl | rfl | rfl | rfl | rfl | rfl | rfl | rfl | rfl | rfl | rfl | rfl | rfl | rfl | rfl | rfl | rfl | rfl | rfl | rfl
  all_goals
   subst hX
   go_enter Tryz.func170,Tryz.ntmps170
   go_wp2
   go_ret2
   exact ⟨rfl,rfl⟩
 ·subst hX
  go_enter Tryz.func170,Tryz.ntmps170
  go_wp2
  go_ret2
  exact ⟨rfl,rfl⟩
end Go.Proofs.YteoolehdomjkkaaGreat

/- flate: what the document's reader of blocks asks of lists of lengths, plainly. -/
namespace Go.Proofs.YteoolehdomjkkaaGreat
set_option linter.all false
/-- May a list of distances be? -/
def mayL (ls:List Int):Prop:=krV ls=32768∨cPos ls=0∨(cPos ls=1∧cOne ls=1)
instance (ls:List Int):Decidable (mayL ls):=by unfold mayL;infer_instance
theorem krN_pos {ls:List Int} (h:∀ (k:Nat) (x:Int),ls[k]?=some x→¬ 0 < x):krN ls=0:=by
 unfold krN
 have:(ls.map fun x=>if 0 < x then 2 ^ (15 - x.toNat) else 0)=ls.map fun _=>0:=by
  apply List.map_congr_left
  intro x hx
  obtain ⟨k,hk⟩:=List.getElem?_of_mem hx
  rw [if_neg (h k x hk)]
 rw [this]
 clear this h
 induction ls with
 | nil=>rfl
 | cons y r ih=>simpa using ih
theorem cPos_zero {ls:List Int}:cPos ls=0 ↔ ∀ (k:Nat) (x:Int),ls[k]?=some x→¬ 0 < x:=by
 unfold cPos
 rw [List.countP_eq_zero]
 constructor
 ·intro h k x hk
  have:=h x (List.mem_of_getElem? hk)
  simpa using this
 ·intro h x hx
  obtain ⟨k,hk⟩:=List.getElem?_of_mem hx
  simpa using h k x hk
theorem nw_empty {ls:List Int} (h:cPos ls=0):¬ nwE ls=0:=by
 unfold nwE
 split
 ·rw [if_pos (by rw [allP_empty (cPos_zero.1 h)];rfl)]
  decide
 ·assumption
theorem krV_eq {ls:List Int} (h1:badL ls=false) (h2:ls.length≤300):krV ls=(krN ls:Int):=by
 unfold krV
 rw [if_neg]
 rintro (h | h)
 ·omega
 ·rw [h1] at h;cases h
theorem nw_of {ls:List Int} (h1:badL ls=false) (h2:ls.length≤300) (h3:krN ls≤32768) (h4:¬ cPos ls=0):nwE ls=0:=by
 have hc:cdE ls=0:=by
  unfold cdE
  have:krE ls=0:=by
   unfold krE
   rw [if_neg]
   rintro (h | h)
   ·omega
   ·rw [h1] at h;cases h
  rw [if_pos this,if_neg (by omega)]
 unfold nwE
 rw [if_pos hc,if_neg]
 intro h5
 apply h4
 rw [cPos_zero]
 intro k x hk h0
 exact allP_some h1 hk h0 h5
theorem krV_full {ls:List Int} (h:krV ls=32768):nwE ls=0∧badL ls=false∧ls.length≤300∧krN ls=32768:=by
 unfold krV at h
 split at h
 ·exact absurd h (by decide)
 ·rename_i h0
  have h1:badL ls=false:=by
   cases e:badL ls with
   | false=>rfl
   | true=>exact absurd (.inr e) h0
  have h2:ls.length≤300:=by
   by_cases e:300 < ls.length
   ·exact absurd (.inl e) h0
   ·omega
  have h3:krN ls=32768:=by omega
  refine ⟨nw_of h1 h2 (by omega) (fun h4=>?_),h1,h2,h3⟩
  have:=krN_pos (cPos_zero.1 h4)
  omega
theorem krV_nw {ls:List Int} (h:nwE ls=0):krV ls≤32768:=by
 obtain ⟨h1,h2,h3⟩:=nwE_ok h
 rw [krV_eq h1 h3]
 omega
theorem decP_full {ls:List Int} {s:RS} (he:s.e=0):(decP ls false s).e=0 ↔ krV ls=32768:=by
 unfold decP
 rw [if_pos he]
 constructor
 ·intro h
  split at h
  ·rename_i h1
   split at h
   ·exact absurd h (fail_e (by decide))
   ·rename_i h2
    have:=krV_nw h1
    have h3:¬ krV ls < 32768:=fun h3=>h2 ⟨h3,fun h4=>absurd h4.1 (by decide)⟩
    omega
  ·exact absurd h (fail_e (by decide))
 ·intro h
  rw [if_pos (krV_full h).1,if_neg (fun h2=>by have:=h2.1;omega)]
  exact he
theorem may_dec {ls:List Int} {s:RS} (he:s.e=0) (h1:badL ls=false) (h2:ls.length≤300):(noneP ls=true∨(decP ls true s).e=0) ↔ mayL ls:=by
 unfold decP mayL noneP
 rw [if_pos he]
 constructor
 ·rintro (h | h)
  ·exact .inr (.inl (by simpa using h))
  ·split at h
   ·rename_i h3
    split at h
    ·exact absurd h (fail_e (by decide))
    ·rename_i h4
     have h5:=krV_nw h3
     by_cases h6:krV ls=32768
     ·exact .inl h6
     ·refine .inr (.inr ?_)
      have:¬ ¬ (true=true∧cPos ls=1∧cOne ls=1):=fun h7=>h4 ⟨by omega,h7⟩
      exact (Classical.not_not.1 this).2
   ·exact absurd h (fail_e (by decide))
 ·rintro (h | h | h)
  ·refine .inr ?_
   rw [if_pos (krV_full h).1,if_neg (fun h2=>by have:=h2.1;omega)]
   exact he
  ·exact .inl (by rw [h];rfl)
  ·refine .inr ?_
   have h3:krN ls≤32768:=by
    have key:∀ l:List Int,krN l≤32768 * l.countP (fun x=>decide (0 < x)):=fun l=>by
     induction l with
     | nil=>simp [krN]
     | cons x r ih =>
      have e:krN (x :: r)=(if 0 < x then 2 ^ (15 - x.toNat) else 0)+krN r:=by unfold krN;simp
      rw [e,List.countP_cons]
      by_cases hx:0 < x
      ·have:2 ^ (15 - x.toNat)≤2 ^ 15:=Nat.pow_le_pow_right (by decide) (Nat.sub_le 15 _)
       rw [if_pos hx,if_pos (by simpa using hx)]
       omega
      ·rw [if_neg hx,if_neg (by simpa using hx)]
       omega
    have:=key ls
    have h4:ls.countP (fun x=>decide (0 < x))=1:=h.1
    rw [h4] at this
    omega
   rw [if_pos (nw_of h1 h2 h3 (by omega)),if_neg (fun h2=>h2.2 ⟨rfl,h⟩)]
   exact he
theorem badL_app (a b:List Int):badL (a ++ b)=(badL a || badL b):=by unfold badL;rw [List.any_append]
theorem badL_rep {x:Int} (h0:0≤x) (h1:x≤15) (n:Nat):badL (List.replicate n x)=false:=by
 unfold badL
 rw [List.any_eq_false]
 intro y hy
 obtain ⟨-,rfl⟩:=List.mem_replicate.1 hy
 simp
 omega
theorem badL_one {x:Int} (h0:0≤x) (h1:x≤15):badL [x]=false:=badL_rep h0 h1 1
theorem repP_good {l:List Int} {x:Int} {n all:Nat} {s:RS} (h:badL l=false) (h0:0≤x) (h1:x≤15):badL (repP l x n all s).1=false:=by
 unfold repP
 split
 ·show badL (l ++ List.replicate n x)=false
  rw [badL_app,h,badL_rep h0 h1];rfl
 ·exact h
theorem listF_good {bs:List UInt8} {ls:List Int} {all:Nat}:∀ (f:Nat) {l:List Int} {s:RS},badL l=false→badL (listF bs ls all f l s).1=false
 | 0,l,s,h=>h
 | f+1,l,s,h=>by
  obtain ⟨q,hq,-,-⟩:=nextP_val bs ls s
  rw [listF]
  split
  ·split
   ·split
    ·rename_i h1
     refine listF_good f ?_
     rw [badL_app,h,badL_one (by rw [hq];omega) (by omega)];rfl
    ·split
     ·split
      ·exact h
      ·rename_i h2
       refine listF_good f (repP_good h ?_ ?_)
       ·obtain ⟨x,hx⟩:∃ x,l[l.length - 1]?=some x:=⟨_,List.getElem?_eq_getElem (by omega)⟩
        rw [List.getD_eq_getElem?_getD,hx]
        exact (good_at h hx).1
       ·obtain ⟨x,hx⟩:∃ x,l[l.length - 1]?=some x:=⟨_,List.getElem?_eq_getElem (by omega)⟩
        rw [List.getD_eq_getElem?_getD,hx]
        exact (good_at h hx).2
     ·split
      ·exact listF_good f (repP_good h (by decide) (by decide))
      ·exact listF_good f (repP_good h (by decide) (by decide))
   ·exact h
  ·exact h
theorem ownLs_good (bs:List UInt8) (s:RS):badL (ownLs bs s).1=false:=by
 unfold ownLs listD
 split
 ·exact listF_good _ rfl
 ·rfl
theorem badL_take {ls:List Int} (h:badL ls=false) (n:Nat):badL (ls.take n)=false∧badL (ls.drop n)=false:=by
 have:badL (ls.take n ++ ls.drop n)=false:=by rw [List.take_append_drop];exact h
 rw [badL_app,Bool.or_eq_false_iff] at this
 exact this
theorem dd_eq {ls:List Int} {s:RS} (he:s.e=0):(if noneP ls=true then none else decD ls s)=(if nwE ls=0 then some ls else none):=by
 by_cases h:noneP ls=true
 ·rw [if_pos h,if_neg (nw_empty (by unfold noneP at h;simpa using h))]
 ·rw [if_neg h]
  unfold decD
  by_cases h2:nwE ls=0
  ·rw [if_pos h2,if_pos ⟨he,h2⟩]
  ·rw [if_neg h2,if_neg (fun hh=>h2 hh.2)]
/-- What a block of its own codes wants of its lists. -/
def ownGood (all:List Int) (n:Nat):Prop:=0 < all.getD 256 0∧krV (all.take n)=32768∧mayL (all.drop n)
theorem ownT_go {bs:List UInt8} {most:Int} {all:List Int} {n f:Nat} {s:RS} (he:s.e=0) (hb:badL all=false) (hl:all.length≤316) (hn:257≤n) (hg:ownGood all n):ownT bs most all n f s=toksF bs most (all.take n) (if nwE (all.drop n)=0 then some (all.drop n) else none) f s:=by
 obtain ⟨g1,g2,g3⟩:=hg
 have e1:own1 all s=s:=by unfold own1;rw [if_neg (by omega)]
 have e2:own2 all n s=s:=by
  unfold own2
  rw [e1]
  exact (decP_zero ((decP_full he).2 g2)).2.1
 have h3:=(may_dec he (badL_take hb n).2 (by rw [List.length_drop];omega)).2 g3
 have e3:own3 all n s=s:=by
  unfold own3
  rw [e2]
  by_cases h:noneP (all.drop n)=true
  ·rw [if_pos h]
  ·rw [if_neg h]
   rcases h3 with h4 | h4
   ·exact absurd h4 h
   ·exact (decP_zero h4).2.1
 unfold ownT
 rw [if_pos he,e3,if_pos he]
 unfold ownDD
 rw [e2,dd_eq he]
theorem ownT_bad {bs:List UInt8} {most:Int} {all:List Int} {n f:Nat} {s:RS} (he:s.e=0) (hb:badL all=false) (hl:all.length≤316) (hn:257≤n) (hg:¬ ownGood all n):¬ (ownT bs most all n f s).e=0:=by
 unfold ownT
 rw [if_pos he]
 have h3:¬ (own3 all n s).e=0:=by
  intro h
  have h2:(own2 all n s).e=0:=by
   unfold own3 at h
   split at h
   ·exact h
   ·exact decP_e0 h
  have h1:(own1 all s).e=0:=decP_e0 (ls:=all.take n) (a:=false) h2
  have e1:own1 all s=s:=(own1_zero h1).2
  have g1:¬ all.getD 256 0=0:=by
   intro h4
   unfold own1 at h1
   rw [if_pos h4] at h1
   exact fail_e (by decide) h1
  have g1b:0≤all.getD 256 0:=by
   rw [List.getD_eq_getElem?_getD]
   cases e:all[256]? with
   | none=>exact Int.le_refl 0
   | some x=>exact (good_at hb e).1
  have e2:own2 all n s=s:=by
   have:=(decP_zero (ls:=all.take n) (a:=false) h2).2.1
   unfold own2
   rw [this,e1]
  have g2:krV (all.take n)=32768:=by
   unfold own2 at h2
   rw [e1] at h2
   exact (decP_full he).1 h2
  refine hg ⟨by omega,g2,(may_dec he (badL_take hb n).2 (by rw [List.length_drop];omega)).1 ?_⟩
  unfold own3 at h
  rw [e2] at h
  split at h
  ·rename_i h4;exact .inl h4
  ·exact .inr h
 rw [if_neg h3]
 exact h3
end Go.Proofs.YteoolehdomjkkaaGreat
