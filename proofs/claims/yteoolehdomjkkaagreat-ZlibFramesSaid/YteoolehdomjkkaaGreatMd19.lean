/- Merged: Lz3, Lz4, Find5, SymR, Sym5. -/
import Derived.Test.YteoolehdomjkkaaGreatMd18
import Derived.Test.YteoolehdomjkkaaGreatMd17
import Derived.Test.YteoolehdomjkkaaGreatMd02
/- lz: the match at a place. -/
namespace Go.Proofs.YteoolehdomjkkaaGreat
set_option linter.all false
open Go.RowKit
theorem matF_stop {b:List UInt8} {at_ f p best dist:Nat} (h:p=0∨32768 < at_ - (p - 1)):matF b at_ f p best dist=(best,dist):=by
 cases f with
 | zero=>rfl
 | succ f=>exact if_pos h
theorem matF_more {b:List UInt8} {at_ f p best dist:Nat} (h:¬ (p=0∨32768 < at_ - (p - 1))):matF b at_ (f+1) p best dist=if best < comP b (p - 1) at_ then matF b at_ f (prevP b (p - 1)) (comP b (p - 1) at_) (at_ - (p - 1)) else matF b at_ f (prevP b (p - 1)) best dist:=if_neg h
set_option maxRecDepth 100000 in
set_option maxHeartbeats 3200000 in
theorem match_any (B n c0 c m i:Nat) (A:Option Addr) (bs:List UInt8) (vp:Value) (w:World) (h:Ch w c m i vp bs) (hr:RdB w B A n bs) (hi:i < n) (hn:n≤40000) (hcap:n≤c0) :
  Calls Tryz.prog 102 #[.pointer (some ⟨c,0,none⟩),.slice A n c0,.int .i64 (i:Int)] w fun e w'=>e=.returned (.tuple #[.int .i64 ((matP bs i).1:Int),.int .i64 ((matP bs i).2:Int)])∧∃ q,w'=w.drewN q:=by
 have hf:=h.own.form
 rw [prevL_len] at hf
 obtain ⟨Ap,cp,rfl,-,-,-⟩:=hf
 have H:=Lib.hid h
 have HR:=Lib.hid hr
 have e0:=h.arr.cell (k:=0) rfl
 have e1:=h.arr.cell (k:=1) rfl
 have hl:=hr.len
 by_cases hi3:i+3≤n
 ·obtain ⟨b,o,rfl,hb,hcell⟩:=hr.at_ (by omega)
  have k0:=hcell i (by omega)
  have k1:=hcell (i+1) (by omega)
  have k2:=hcell (i+2) (by omega)
  rw [← Nat.add_assoc] at k1 k2
  have HT:Hid (tri bs i=(bs[i],bs[i+1],bs[i+2])):=(show _=_ by unfold tri;rw [getD_at (List.getElem?_eq_getElem (by omega)),getD_at (List.getElem?_eq_getElem (by omega)),getD_at (List.getElem?_eq_getElem (by omega))])
  have HLP:=Lib.hid (lastP_le bs (tri bs i) i).1
  have HMP:Hid (matP bs i=matF bs i (64 - 0) (lastP bs i (tri bs i)) 0 0):=(show _=_ by unfold matP;rw [if_neg (by omega)])
  rw [HT.out] at HLP HMP
  generalize bs[i]=x at *
  generalize bs[i+1]=y at *
  generalize bs[i+2]=z at *
  have hi3i:¬ (n:Int) < (i:Int)+3:=by omega
  have HM:=Lib.hid (h.drewN 1).map
  obtain ⟨s,hs⟩:∃ s,i+3=s:=⟨_,rfl⟩
  have hs2:(i:Int)+3=(s:Int):=by omega
  have hs3:IntKind.i64.wrap ((i:Int)+3)=(s:Int):=by rw [hs2];exact wrap_i64_lt s (by omega)
  have hs10:IntKind.i64.wrap (s:Int)=(s:Int):=wrap_i64_lt s (by omega)
  have hs4:s≤n:=by omega
  have hs5:s - i=3:=by omega
  have hs6:i≤s:=by omega
  clear h hr hcell
  go_enter Tryz.func102,Tryz.ntmps102
  go_upto_region 4 with fail
  generalize hL:lastP bs i (x,y,z)=L at *
  have hrun:(Instr.lookup 117 (.map (some m)) (.agg #[.int .u8 (x.toNat:Int),.int .u8 (y.toNat:Int),.int .u8 (z.toNat:Int)]) false).run Tryz.prog w.drew=.ok (.int .i64 (L:Int)) w.drew:=by rw [← hL];exact HM.out.look (x,y,z)
  have hat:∀ (w:World) (a:Option Addr) (l c:Nat),3≤l→(Instr.arrayAt 183 (.slice a l c)).run Tryz.prog w=.ok (.pointer a) w:=fun w a l c hl=>run_arrayAt w 183 _ 3 a l c Tryz.underlying183 hl
  have hat3:=hat w.drew (some ⟨b,o+i,none⟩) 3 (c0 - i) (Nat.le_refl _)
  have hs7:0≤(s:Int)∧(s:Int)≤(c0:Int):=by omega
  have hs8:¬ c0=i:=by omega
  have hs9:s≤c0:=by omega
  clear hL hat
  go_cut [8,9,10] (fun v1 v2 v3 wc=>v1=.int .i64 0∧v2=.int .i64 0∧v3=.int .i64 (L:Int)∧Hid (∃ q,wc=w.drewN q))
  case first =>
   go_region_law (fail)
   all_goals
    go_wp2_with fail
    go_meet
    case rel=>exact ⟨rfl,rfl,rfl,(show ∃ q,_ from ⟨1,rfl⟩)⟩
  case rest =>
   obtain ⟨rfl,rfl,rfl,HW0⟩:=hcut
   have HC0:Hid (matF bs i (64 - 0) L 0 0=matP bs i):=(show _=_ from HMP.out.symm)
   have hL0:=HLP.out
   clear hrun hat3 hs3 hs7 hs8 hs9 hs10 HM HMP k0 k1 k2 HT
   go_wp2_with fail
   go_loopw [29,10,8,9] (fun vj vq vb vd wr=>∃ (j p best dist:Nat),j≤64∧vj=.int .i64 j∧vq=.int .i64 p∧vb=.int .i64 best∧vd=.int .i64 dist∧p≤i∧best≤258∧dist≤40000∧Hid (matF bs i (64 - j) p best dist=matP bs i)∧Hid (∃ q,wr=w.drewN q)) (fun vj _ _ _ _=>64 - (intOf vj).toNat)
   case atStart=>exact ⟨0,L,0,0,by omega,rfl,rfl,rfl,rfl,hL0,by omega,by omega,HC0,HW0⟩
   case round =>
    clear HC0 HW0 hL0
    obtain ⟨j,p,best,dist,hj,rfl,rfl,rfl,rfl,hp,hbe,hdi,HC,HW⟩:=hrel
    by_cases h1:j < 64
    ·have h1i:(j:Int) < 64:=by omega
     by_cases hp0:p=0
     ·have d1:((p:Int) == 0)=true:=by rw [hp0];rfl
      have HS2:Hid (matP bs i=(best,dist)):=(show _=_ by rw [← HC.out,matF_stop (.inl hp0)])
      go_wp2_with fail
      go_ret2
      exact ⟨by rw [HS2.out];rfl,HW.out⟩
     ·have d1:((p:Int) == 0)=false:=beq_eq_false_iff_ne.2 (by omega)
      obtain ⟨P,hP⟩:∃ P,p - 1=P:=⟨_,rfl⟩
      have hP2:(p:Int) - 1=(P:Int):=by omega
      have hPi:P < i:=by omega
      obtain ⟨D,hD⟩:∃ D,i - P=D:=⟨_,rfl⟩
      have hD2:(i:Int) - (P:Int)=(D:Int):=by omega
      have hDn:D≤40000:=by omega
      by_cases h3:32768 < D
      ·have h3i:(32768:Int) < (D:Int):=by omega
       have HS2:Hid (matP bs i=(best,dist)):=(show _=_ by rw [← HC.out,matF_stop (.inr (by omega))])
       go_wp2_with fail
       go_ret2
       exact ⟨by rw [HS2.out];rfl,HW.out⟩
      ·have h3i:¬ (32768:Int) < (D:Int):=by omega
       obtain ⟨-,g,rfl,-,-⟩:=H.out.own.pos (by omega)
       have hgc:=H.out.own.cell (by rw [prevL_len]) (k:=P) (by rw [prevL_len];exact hPi)
       have hgv:(prevL bs i)[P]'(by rw [prevL_len];exact hPi)=((prevP bs P:Nat):Int):=by
        have:=prevL_get bs hPi
        rw [List.getElem?_eq_getElem (by rw [prevL_len];exact hPi)] at this
        injection this
       rw [hgv] at hgc
       have hN:=(prevP_le bs P).1
       have HS:Hid (matF bs i (64 - j) p best dist=if best < comP bs P i then matF bs i (64 - (j+1)) (prevP bs P) (comP bs P i) D else matF bs i (64 - (j+1)) (prevP bs P) best dist):=(show _=_ by rw [show 64 - j=(64 - (j+1))+1 by omega,matF_more (by omega),hP,hD])
       rw [HC.out] at HS
       have HCM:=Lib.hid (fun (w':World) (h:RdB w' B (some ⟨b,o,none⟩) n bs)=>common_any B n c0 P i (some ⟨b,o,none⟩) bs w' h (by omega) (by omega) hn)
       have hC:=(comP_le bs P i (by omega)).1
       generalize prevP bs P=N at *
       generalize comP bs P i=C at *
       have HRr:Hid (RdB wr B (some ⟨b,o,none⟩) n bs):=(show RdB _ _ _ _ _ by obtain ⟨q,rfl⟩:=HW.out;exact Rd.drewN HR.out q)
       have HFA:Hid (∀ w',(∃ q,w'=wr.drewN q)→w'.cell? ⟨c,1,none⟩=some (.slice (some ⟨g,0,none⟩) i cp)∧w'.cell? ⟨g,P,none⟩=some (.int .i64 (N:Int))∧∃ q,w'=w.drewN q):=(show ∀ w',_ by
        obtain ⟨q0,rfl⟩:=HW.out
        rintro w' ⟨q,rfl⟩
        exact ⟨e1,hgc,q0+q,by rw [World.drewN_drewN]⟩)
       clear hgc hgv hD hP
       by_cases hCb:best < C
       ·have hCi:(best:Int) < (C:Int):=by omega
        rw [if_pos hCb] at HS
        go_wp2_with ((go_at_call 150;(with_reducible refine (HCM.out _ HRr.out).mono ?_);go_must (rintro e w5 ⟨rfl,hq5⟩;obtain ⟨c15,r15,hw5⟩:=HFA.out w5 hq5;have HW5:=Lib.hid hw5;clear hq5 hw5)))
        go_roundw
        case rel=>exact ⟨j+1,N,C,D,by omega,by go_num,rfl,rfl,rfl,by omega,hC,hDn,HS.out.symm,HW5⟩
        case measure=>simp [intOf];omega
       ·have hCi:¬ (best:Int) < (C:Int):=by omega
        rw [if_neg hCb] at HS
        go_wp2_with ((go_at_call 150;(with_reducible refine (HCM.out _ HRr.out).mono ?_);go_must (rintro e w5 ⟨rfl,hq5⟩;obtain ⟨c15,r15,hw5⟩:=HFA.out w5 hq5;have HW5:=Lib.hid hw5;clear hq5 hw5)))
        go_roundw
        case rel=>exact ⟨j+1,N,best,dist,by omega,by go_num,rfl,rfl,rfl,by omega,hbe,hdi,HS.out.symm,HW5⟩
        case measure=>simp [intOf];omega
    ·obtain rfl:j=64:=by omega
     have h1i:¬ (64:Int) < 64:=by omega
     have HS2:Hid (matP bs i=(best,dist)):=(show _=_ by rw [← HC.out];rfl)
     go_wp2_with fail
     go_ret2
     exact ⟨by rw [HS2.out];rfl,HW.out⟩
 ·have hi3i:(n:Int) < (i:Int)+3:=by omega
  have HMP:Hid (matP bs i=(0,0)):=(show _=_ by unfold matP;rw [if_pos (by omega)])
  clear h hr
  go_enter Tryz.func102,Tryz.ntmps102
  go_wp2_with fail
  go_ret2
  exact ⟨by rw [HMP.out];rfl,0,rfl⟩
end Go.Proofs.YteoolehdomjkkaaGreat

/- lz: Find. -/
namespace Go.Proofs.YteoolehdomjkkaaGreat
set_option linter.all false
open Go.RowKit
theorem Ch.grown {w w':World} {c m i:Nat} {vp:Value} {bs:List UInt8} {row:Option Nat} (h:Ch w c m i vp bs) (hg:w.grownBy w' row) (h1:row ≠ some c) (h2:row ≠ some m) (h3:vp.ownBlock=none∨vp.ownBlock ≠ row):Ch w' c m i vp bs:=by
 refine ⟨?_,h.map.keep (hg.block m h.map.lt (fun e=>h2 e.symm)),World.ownsRow.kept h.own hg h3,h.lt⟩
 have hl:=h.arr.lt
 obtain ⟨t,ht⟩:=h.arr
 exact ⟨t,(hg.block c hl (fun e=>h1 e.symm)).trans ht⟩
theorem ownK.rfr {w w':World} {r g:Nat} {pv pv' v:Value} {l:List (Nat × Nat × Nat)} (h:ownK w (r+1) v l) (hf:RFr w w' r g pv pv') (hgr:g < r) (hd:Dis pv v):ownK w' (r+1) v l:=by
 have hb:∀ k,v.ownBlock=some k→w'.heap[k]?=w.heap[k]?:=fun k hk=>by
  have:=World.ownsRow.lt h k hk
  exact hf.block k this.2 (by omega) (by omega) (fun e=>hd k e hk)
 refine ⟨h.1,?_⟩
 rcases h.2 with hn | ⟨g,cap,cur,rfl,hbg,hg,rest⟩
 ·exact .inl hn
 ·exact .inr ⟨g,cap,cur,rfl,hbg,(hb g rfl).trans hg,rest⟩
theorem Dis.rfr {w w':World} {r g:Nat} {pv pv' v:Value} (h:∀ k,v.ownBlock=some k→k < w.heap.size) (hf:RFr w w' r g pv pv') (hd:Dis pv v):Dis pv' v:=by
 intro k hk hv
 rcases hf.own with e | ⟨j,hj,e⟩
 ·exact hd k (e.symm.trans hk) hv
 ·rw [e] at hk
  injection hk with hk
  have:=h k hv
  omega
theorem Dis.app {n:Nat} {vp v v':Value} (hd:Dis vp v) (hp:∀ k,vp.ownBlock=some k→k < n) (ha:v'.ownBlock=v.ownBlock∨v'.ownBlock=some n):Dis vp v':=by
 intro k hk hv
 rcases ha with e | e
 ·exact hd k hk (e.symm.trans hv)
 ·rw [e] at hv
  injection hv with hv
  have:=hp k hk
  omega
theorem findF_at {b:List UInt8} {f i:Nat} (h:i < b.length):findF b (f+1) i=tokAt b i :: findF b f (i+stepAt b i):=if_pos h
theorem findF_past {b:List UInt8} {i:Nat} (h:b.length≤i):∀ f,findF b f i=[]
 | 0=>rfl
 | f+1=>if_neg (by omega)
theorem RFr.below3 {w w':World} {r g B:Nat} {pv pv':Value} {i:Nat} {bs:List UInt8} (hf:RFr w w' r g pv pv') (h:Ch w r g i pv bs) (hB:B≤g):Below B w w':=by
 have h1:=h.map.lt
 have h2:=h.lt
 exact hf.below (by omega) (by omega) hB (fun k hk=>by have:=(World.ownsRow.lt h.own k hk).1;omega)
theorem find_step {w w2:World} {c m i nv:Nat} {vp:Value} {Av:Option Addr} {bs:List UInt8} {D:List Tok} (h:Ch w2 c m i vp bs) (hk:ownK w2 (c+1) (.slice Av D.length nv) D) (hd:Dis vp (.slice Av D.length nv)) (hb:Below m w w2) (o1 o2:Obj) :
  ownK ((w2.alloc o1).alloc o2) (c+1) (.slice Av D.length nv) D∧c+1≤((w2.alloc o1).alloc o2).heap.size ∧
   ∀ (v5:Value) (w5:World),((w2.alloc o1).alloc o2).grownBy w5 (Value.slice Av D.length nv).ownBlock→Below (c+1) ((w2.alloc o1).alloc o2) w5→(v5.ownBlock=(Value.slice Av D.length nv).ownBlock∨v5.ownBlock=some ((w2.alloc o1).alloc o2).heap.size) →
    Ch w5 c m i vp bs∧Dis vp v5∧Below m w w5:=by
 have hc:=h.arr.lt
 have hmc:=h.lt
 have hs:=hb.size
 have hm:=h.map.lt
 have hmw:m≤w2.heap.size:=by omega
 refine ⟨(hk.alloc _).alloc _,by rw [World.size_alloc,World.size_alloc];omega,fun v5 w5 hg hb5 ha=>?_⟩
 refine ⟨((h.alloc o1).alloc o2).grown hg (ownK.ne hk (by omega)) (ownK.ne hk (by omega)) ?_,Dis.app hd (fun k hk=>?_) ha,?_⟩
 ·cases e:vp.ownBlock with
  | none=>exact .inl rfl
  | some k=>exact .inr (fun e2=>hd k e e2.symm)
 ·have:=(World.ownsRow.lt h.own k hk).2
  rw [World.size_alloc,World.size_alloc]
  omega
 ·exact ((hb.alloc hmw o1).alloc (by rw [World.size_alloc];omega) o2).trans (hb5.mono (by omega))
set_option maxRecDepth 100000 in
set_option maxHeartbeats 3200000 in
theorem find_any (B n c0:Nat) (A:Option Addr) (bs:List UInt8) (w:World) (h:RdB w B A n bs) (hB:B≤w.heap.size) (hn:n≤40000) (hcap:n≤c0) :
  Calls Tryz.prog 56 #[.slice A n c0] w (FindPost (findP bs) w):=by
 have HR:=Lib.hid h
 have hl:=h.len
 have hmm:∀ (t:TypeId) (w:World),(Instr.makeMap t none).run Tryz.prog w=.ok (.map (some w.heap.size)) (w.alloc (.map #[] 0)):=fun _ _=>rfl
 have hn4:¬ (40000:Int) < (n:Int):=by omega
 clear h
 go_enter Tryz.func56,Tryz.ntmps56
 go_wp2_with fail
 generalize hw1:(w.alloc _).alloc _=w1
 obtain ⟨m,hm⟩:∃ m,w.heap.size=m:=⟨_,rfl⟩
 obtain ⟨c,hc⟩:∃ c,w.heap.size+1=c:=⟨_,rfl⟩
 simp only [hc]
 have HC1:Hid (Ch w1 c m 0 (.slice none 0 0) bs):=(show Ch _ _ _ _ _ _ by
  rw [← hw1,← hc,← hm]
  refine ⟨?_,?_,?_,Nat.lt_succ_self _⟩
  ·have:=Arr.new (w.alloc (.map #[] 0)) [.map (some w.heap.size),.slice none 0 0] 119
   rw [World.size_alloc] at this
   exact this
  ·have e:lastP bs 0=fun _=>0:=rfl
   rw [e]
   exact (isM3.made w).alloc _
  ·exact ownI.nil_ _ _)
 have HB1:Hid (Below m w w1):=(show Below _ _ _ by rw [← hw1,← hm];exact ((Below.refl w.heap.size w).alloc (Nat.le_refl _) (.map #[] 0)).alloc (by simp) _)
 have HK1:Hid (ownK w1 (c+1) (.slice none 0 0) []):=ownK.nil_ _ _
 have HD1:Hid (Dis (.slice none 0 0) (.slice none 0 0)):=(show Dis _ _ from fun k hk=>by cases hk)
 have HE1:Hid ([] ++ findF bs n 0=findP bs):=(show _=_ by rw [← hl];rfl)
 have hmc:m < c:=by omega
 clear hw1 hmm
 rw [hm] at hB hc
 have HBB:=Lib.hid hB
 go_loopw [6,5] (fun vi vl wr=>∃ (i f:Nat) (D:List Tok) (vp:Value),i≤n∧vi=.int .i64 i∧n≤i+f∧D.length≤i∧Hid (D ++ findF bs f i=findP bs)∧Hid (Ch wr c m i vp bs)∧Hid (ownK wr (c+1) vl D)∧Hid (Dis vp vl)∧Hid (Below m w wr)) (fun vi _ _=>n - (intOf vi).toNat)
 case atStart=>exact ⟨0,n,[],.slice none 0 0,Nat.zero_le _,rfl,by omega,Nat.le_refl _,HE1,HC1,HK1,HD1,HB1⟩
 case round =>
  clear HE1 HC1 HK1 HD1 HB1
  obtain ⟨i,f,D,vp,hi,rfl,hf,hDi,HE,HC,HK,HD,HB⟩:=hrel
  obtain ⟨Av,nv,rfl,-⟩:=HK.out.form
  obtain ⟨wo,rfl⟩:∃ wo:World,wo=wr:=⟨_,rfl⟩
  by_cases hlt:i < n
  ·have hlti:(i:Int) < (n:Int):=by omega
   obtain ⟨f,rfl⟩:∃ g,f=g+1:=⟨f - 1,by omega⟩
   rw [findF_at (by omega)] at HE
   have hst:=stepAt_ok (b:=bs) (at_:=i) (by omega)
   have HSA:Hid (stepAt bs i=if (matP bs i).1=0 then 1 else (matP bs i).1):=(show _=_ from rfl)
   have HTA:Hid (tokAt bs i=if (matP bs i).1=0 then (0,0,(bs.getD i 0).toNat) else ((matP bs i).1,(matP bs i).2,0)):=(show _=_ from rfl)
   have HRo:Hid (RdB wo B A n bs):=HR.out.blw (HB.out.mono HBB.out)
   have HMA:=Lib.hid (match_any B n c0 c m i A bs vp wo HC.out HRo.out hlt hn hcap)
   have hmo:=matP_ok bs i
   generalize (matP bs i).1=a at *
   generalize (matP bs i).2=d at *
   have HX:Hid (∀ w2,(∃ q,w2=wo.drewN q)→Ch w2 c m i vp bs∧ownK w2 (c+1) (.slice Av D.length nv) D∧Below m w w2∧RdB w2 B A n bs):=(show ∀ w2,_ by
    rintro w2 ⟨q,rfl⟩
    exact ⟨HC.out.drewN q,HK.out.drewN q,bdrewN HB.out q,Rd.drewN HRo.out q⟩)
   by_cases ha:a=0
   ·have d1:((a:Int) == 0)=true:=by rw [ha];rfl
    obtain ⟨b,o,x,rfl,hb,HXX,e1⟩:=HRo.out.byte hlt
    have x8:=x.toNat_lt
    rw [if_pos ha] at HSA HTA
    rw [HSA.out,HTA.out,getD_at HXX.out] at HE
    clear hmo HSA HTA hst
    have HAP:=Lib.hid (fun w2 (h1:Ch w2 c m i vp bs) (h2:ownK w2 (c+1) (.slice Av D.length nv) D) (h3:Below m w w2)=>find_step h1 h2 HD.out h3 (.cells #[.int .i64 0,.int .i64 0,.int .i64 (x.toNat:Int)] 122) (.cells #[.int .i64 0,.int .i64 0,.int .i64 (x.toNat:Int)] 122))
    have hLn:(D ++ [(0,0,x.toNat)]).length=D.length+1:=by simp
    have hq1:D.length+1≤1099511627776:=by omega
    go_wp2_with (first
     | (go_at_call 102;(with_reducible refine HMA.out.mono ?_);go_must (rintro e w2 ⟨rfl,hq2⟩;obtain ⟨hc2,hk2,hb2,hr2⟩:=HX.out w2 hq2;have e12:w2.cell? ⟨b,o+i,none⟩=some (.int .u8 (x.toNat:Int)):=(by obtain ⟨q,rfl⟩:=hq2;exact e1);have hz2:=hb2.size;have hbw:b < w2.heap.size:=(by omega);have hbN:¬ b=w2.heap.size:=(by omega);obtain ⟨hk3,hz3,hn3⟩:=HAP.out w2 hc2 hk2 hb2;have HK3:=Lib.hid hk3;have HN3:=Lib.hid hn3;have HR3:Hid (RdK ((w2.alloc (.cells #[.int .i64 0,.int .i64 0,.int .i64 (x.toNat:Int)] 122)).alloc (.cells #[.int .i64 0,.int .i64 0,.int .i64 (x.toNat:Int)] 122)) (w2.heap.size+1+1) (some ⟨w2.heap.size+1,0,none⟩) 1 [(0,0,x.toNat)]):=(show RdK _ _ _ _ _ by have:=rd_oneK (w2.alloc (.cells #[.int .i64 0,.int .i64 0,.int .i64 (x.toNat:Int)] 122)) (0,0,x.toNat) 122 (0,0);rw [World.size_alloc] at this;exact this);clear hq2 hc2 hk2 hb2 hr2 hk3 hn3))
     | (at_builtin;go_must (refine wpList_appendK rfl (.tmp 38) (.tmp 40) rfl (c+1) (.slice Av D.length nv) D rfl HK3.out (w2.heap.size+1+1) 1 1 (some ⟨w2.heap.size+1,0,none⟩) [(0,0,x.toNat)] rfl HR3.out hq1 hz3 ?_;intro v5 w5 ho5 hg5 hb5 ha5;obtain ⟨hc5,hd5,hw5⟩:=HN3.out v5 w5 hg5 hb5 ha5;obtain ⟨A5,c5,rfl,-⟩:=ho5.form;rw [hLn] at ho5 hd5;have HC5:=Lib.hid hc5;have HD5:=Lib.hid hd5;have HB5:=Lib.hid hw5;have HK5:=Lib.hid ho5;clear ho5 hg5 hb5 ha5 hc5 hd5 hw5)))
    have HZ5:Hid (RFr w5 w5 c m vp vp):=RFr.refl _ _ _ _
    have HC50:Hid (Ch w5 c m (i+0) vp bs):=(show Ch _ _ _ _ _ _ from HC5.out)
    go_loopw [43] (fun vj wr=>∃ (j:Nat) (vq:Value),j≤1∧vj=.int .i64 j∧Hid (Ch wr c m (i+j) vq bs)∧Hid (RFr w5 wr c m vp vq)) (fun vj _=>1 - (intOf vj).toNat)
    case atStart=>exact ⟨0,vp,Nat.zero_le _,rfl,HC50,HZ5⟩
    case round =>
     clear HZ5 HC50
     obtain ⟨j,vq,hja,rfl,HCj,HFj⟩:=hrel
     have HBj:Hid (Below m w wr):=(show Below _ _ _ from HB5.out.trans (HFj.out.below3 HC5.out (Nat.le_refl _)))
     by_cases hj:j < 1
     ·have hji:(j:Int) < 1:=by omega
      have HAD:=Lib.hid (adds_any B n c0 c m (i+j) _ bs vq wr HCj.out (HR.out.blw (HBj.out.mono HBB.out)) HBB.out (by omega) hn hcap)
      go_wp2_with ((go_at_call 103;(with_reducible refine HAD.out.mono ?_);go_must (rintro e w6 ⟨rfl,vr,hc6,hf6⟩;have HC6:=Lib.hid hc6;have HF6:=Lib.hid (RFr.trans HFj.out hf6);clear hc6 hf6)))
      go_roundw
      case rel=>exact ⟨j+1,vr,by omega,by go_num,HC6,HF6⟩
      case measure=>simp [intOf];omega
     ·obtain rfl:j=1:=by omega
      have hji:¬ (1:Int) < 1:=by omega
      have hq5:=fun k hk=>(World.ownsRow.lt HK5.out k hk).2
      have HKj:=Lib.hid (ownK.rfr HK5.out HFj.out hmc HD5.out)
      have HDj:=Lib.hid (Dis.rfr hq5 HFj.out HD5.out)
      have HEj:Hid (D ++ [(0,0,x.toNat)] ++ findF bs f (i+1)=findP bs):=(show _=_ by rw [← HE.out];simp)
      clear hq5
      go_wp2_with fail
      go_roundw
      case rel=>exact ⟨i+1,by omega,by go_num,f,by omega,D ++ [(0,0,x.toNat)],by rw [hLn];omega,HEj,vq,HCj,HKj,HDj⟩
      case measure=>simp [intOf];omega
   ·have d1:((a:Int) == 0)=false:=beq_eq_false_iff_ne.2 (by omega)
    obtain ⟨g3,g4,g5,g6,g7,g8⟩:3≤a∧a≤258∧i+a≤bs.length∧1≤d∧d≤32768∧d≤i:=by rcases hmo with h | h;exact absurd h ha;exact h
    rw [if_neg ha] at HSA HTA
    rw [HSA.out,HTA.out] at HE
    clear hmo HSA HTA hst
    have HAP:=Lib.hid (fun w2 (h1:Ch w2 c m i vp bs) (h2:ownK w2 (c+1) (.slice Av D.length nv) D) (h3:Below m w w2)=>find_step h1 h2 HD.out h3 (.cells #[.int .i64 (a:Int),.int .i64 (d:Int),.int .i64 0] 122) (.cells #[.int .i64 (a:Int),.int .i64 (d:Int),.int .i64 0] 122))
    have hLn:(D ++ [(a,d,0)]).length=D.length+1:=by simp
    have hq1:D.length+1≤1099511627776:=by omega
    go_wp2_with (first
     | (go_at_call 102;(with_reducible refine HMA.out.mono ?_);go_must (rintro e w2 ⟨rfl,hq2⟩;obtain ⟨hc2,hk2,hb2,hr2⟩:=HX.out w2 hq2;obtain ⟨hk3,hz3,hn3⟩:=HAP.out w2 hc2 hk2 hb2;have HK3:=Lib.hid hk3;have HN3:=Lib.hid hn3;have HR3:Hid (RdK ((w2.alloc (.cells #[.int .i64 (a:Int),.int .i64 (d:Int),.int .i64 0] 122)).alloc (.cells #[.int .i64 (a:Int),.int .i64 (d:Int),.int .i64 0] 122)) (w2.heap.size+1+1) (some ⟨w2.heap.size+1,0,none⟩) 1 [(a,d,0)]):=(show RdK _ _ _ _ _ by have:=rd_oneK (w2.alloc (.cells #[.int .i64 (a:Int),.int .i64 (d:Int),.int .i64 0] 122)) (a,d,0) 122 (0,0);rw [World.size_alloc] at this;exact this);clear hq2 hc2 hk2 hb2 hr2 hk3 hn3))
     | (at_builtin;go_must (refine wpList_appendK rfl (.tmp 38) (.tmp 40) rfl (c+1) (.slice Av D.length nv) D rfl HK3.out (w2.heap.size+1+1) 1 1 (some ⟨w2.heap.size+1,0,none⟩) [(a,d,0)] rfl HR3.out hq1 hz3 ?_;intro v5 w5 ho5 hg5 hb5 ha5;obtain ⟨hc5,hd5,hw5⟩:=HN3.out v5 w5 hg5 hb5 ha5;obtain ⟨A5,c5,rfl,-⟩:=ho5.form;rw [hLn] at ho5 hd5;have HC5:=Lib.hid hc5;have HD5:=Lib.hid hd5;have HB5:=Lib.hid hw5;have HK5:=Lib.hid ho5;clear ho5 hg5 hb5 ha5 hc5 hd5 hw5)))
    have HZ5:Hid (RFr w5 w5 c m vp vp):=RFr.refl _ _ _ _
    have HC50:Hid (Ch w5 c m (i+0) vp bs):=(show Ch _ _ _ _ _ _ from HC5.out)
    go_loopw [43] (fun vj wr=>∃ (j:Nat) (vq:Value),j≤a∧vj=.int .i64 j∧Hid (Ch wr c m (i+j) vq bs)∧Hid (RFr w5 wr c m vp vq)) (fun vj _=>a - (intOf vj).toNat)
    case atStart=>exact ⟨0,vp,Nat.zero_le _,rfl,HC50,HZ5⟩
    case round =>
     clear HZ5 HC50
     obtain ⟨j,vq,hja,rfl,HCj,HFj⟩:=hrel
     have HBj:Hid (Below m w wr):=(show Below _ _ _ from HB5.out.trans (HFj.out.below3 HC5.out (Nat.le_refl _)))
     by_cases hj:j < a
     ·have hji:(j:Int) < (a:Int):=by omega
      have HAD:=Lib.hid (adds_any B n c0 c m (i+j) _ bs vq wr HCj.out (HR.out.blw (HBj.out.mono HBB.out)) HBB.out (by omega) hn hcap)
      go_wp2_with ((go_at_call 103;(with_reducible refine HAD.out.mono ?_);go_must (rintro e w6 ⟨rfl,vr,hc6,hf6⟩;have HC6:=Lib.hid hc6;have HF6:=Lib.hid (RFr.trans HFj.out hf6);clear hc6 hf6)))
      go_roundw
      case rel=>exact ⟨j+1,vr,by omega,by go_num,HC6,HF6⟩
      case measure=>simp [intOf];omega
     ·obtain rfl:j=a:=by omega
      have hji:¬ (j:Int) < (j:Int):=by omega
      have hq5:=fun k hk=>(World.ownsRow.lt HK5.out k hk).2
      have HKj:=Lib.hid (ownK.rfr HK5.out HFj.out hmc HD5.out)
      have HDj:=Lib.hid (Dis.rfr hq5 HFj.out HD5.out)
      have HEj:Hid (D ++ [(j,d,0)] ++ findF bs f (i+j)=findP bs):=(show _=_ by rw [← HE.out];simp)
      clear hq5
      go_wp2_with fail
      go_roundw
      case rel=>exact ⟨i+j,by omega,by go_num,f,by omega,D ++ [(j,d,0)],by rw [hLn];omega,HEj,vq,HCj,HKj,HDj⟩
      case measure=>simp [intOf];omega
  ·obtain rfl:i=n:=by omega
   have HE2:Hid (D=findP bs):=(show _=_ by rw [← HE.out,findF_past (by omega),List.append_nil])
   go_wp2_with fail
   go_ret2
   refine ⟨Av,D.length,nv,rfl,by rw [HE2.out],?_,by rw [hm];exact HB.out⟩
   rw [← HE2.out]
   exact ownK.rd HK.out
end Go.Proofs.YteoolehdomjkkaaGreat

/- lz: the document's tokens. -/
namespace Go.Proofs.YteoolehdomjkkaaGreat
set_option linter.all false
open Go.RowKit
def FindPost5 (ts:List Tok) (w:World) (e:Ending) (w':World):Prop:=∃ A n c,e=.returned (.tuple #[.slice A n c,.int .i64 0])∧n=ts.length∧RdJ w' w'.heap.size A n ts∧Below w.heap.size w w'
set_option maxRecDepth 100000 in
set_option maxHeartbeats 3200000 in
theorem find5_any (B n c0:Nat) (A:Option Addr) (bs:List UInt8) (w:World) (h:RdB w B A n bs) (hB:B≤w.heap.size) (hn:n≤40000) :
  Calls Tryz.prog 64 #[.slice A n c0] w (FindPost5 (findP bs) w):=by
 have HR:=Lib.hid h
 have hl:=h.len
 have hn4:¬ (40000:Int) < (n:Int):=by omega
 clear h
 have HB1:Hid (Below w.heap.size w w):=Below.refl _ _
 have HK1:Hid (ownJ w w.heap.size (.slice none 0 0) []):=ownJ.nil_ _ _
 have HE1:Hid ([] ++ findF bs n 0=findP bs):=(show _=_ by rw [← hl];rfl)
 go_enter Tryz.func64,Tryz.ntmps64
 go_wp2_with fail
 go_loopw [5,4] (fun vi vl wr=>∃ (i f:Nat) (D:List Tok),i≤n∧vi=.int .i64 i∧n≤i+f∧D.length≤i∧Hid (D ++ findF bs f i=findP bs)∧Hid (ownJ wr w.heap.size vl D)∧Hid (Below w.heap.size w wr)) (fun vi _ _=>n - (intOf vi).toNat)
 case atStart=>exact ⟨0,n,[],Nat.zero_le _,rfl,by omega,Nat.le_refl _,HE1,HK1,HB1⟩
 case round =>
  clear HE1 HK1 HB1
  obtain ⟨i,f,D,hi,rfl,hf,hDi,HE,HK,HB⟩:=hrel
  obtain ⟨Av,nv,rfl,-⟩:=HK.out.form
  by_cases hlt:i < n
  ·have hlti:(i:Int) < (n:Int):=by omega
   obtain ⟨f,rfl⟩:∃ g,f=g+1:=⟨f - 1,by omega⟩
   rw [findF_at (by omega)] at HE
   have hst:=stepAt_ok (b:=bs) (at_:=i) (by omega)
   have HSA:Hid (stepAt bs i=if (matP bs i).1=0 then 1 else (matP bs i).1):=(show _=_ from rfl)
   have HTA:Hid (tokAt bs i=if (matP bs i).1=0 then (0,0,(bs.getD i 0).toNat) else ((matP bs i).1,(matP bs i).2,0)):=(show _=_ from rfl)
   have HRo:Hid (RdB wr B A n bs):=HR.out.blw (HB.out.mono hB)
   have HMA:=Lib.hid (match5_any B n c0 i A bs wr HRo.out hlt hn)
   have hmo:=matP_ok bs i
   generalize (matP bs i).1=a at *
   generalize (matP bs i).2=d at *
   have hzw:=HB.out.size
   have HX:Hid (∀ w2 o,(∃ q,w2=wr.drewN q)→ownJ (w2.alloc o) w.heap.size (.slice Av D.length nv) D∧Below w.heap.size w (w2.alloc o)∧w.heap.size≤(w2.alloc o).heap.size):=(show ∀ w2 o,_ by
    rintro w2 o ⟨q,rfl⟩
    exact ⟨(HK.out.drewN q).alloc o,(bdrewN HB.out q).alloc hzw o,by rw [World.size_alloc];exact Nat.le_succ_of_le hzw⟩)
   have hq1:D.length+1≤1099511627776:=by omega
   by_cases ha:a=0
   ·have d1:((a:Int) == 0)=true:=by rw [ha];rfl
    obtain ⟨b,o,x,rfl,hb,HXX,e1⟩:=HRo.out.byte hlt
    have x8:=x.toNat_lt
    rw [if_pos ha] at HSA HTA
    rw [HSA.out,HTA.out,getD_at HXX.out] at HE
    have HEj:Hid (D ++ [(0,0,x.toNat)] ++ findF bs f (i+1)=findP bs):=(show _=_ by rw [← HE.out];simp)
    clear hmo HSA HTA hst HXX
    have hLn:(D ++ [(0,0,x.toNat)]).length=D.length+1:=by simp
    go_wp2_with (first
     | (go_at_call 115;(with_reducible refine HMA.out.mono ?_);go_must (rintro e w2 ⟨rfl,hq2⟩;have e12:w2.cell? ⟨b,o+i,none⟩=some (.int .u8 (x.toNat:Int)):=(by obtain ⟨q,rfl⟩:=hq2;exact e1);obtain ⟨hk3,hb3,hz3⟩:=HX.out w2 (.cells #[.int .i64 0,.int .i64 0,.int .i64 (x.toNat:Int)] 143) hq2;have HK3:=Lib.hid hk3;have HB3:=Lib.hid hb3;have HR3:=Lib.hid (rd_oneJ w2 (0,0,x.toNat) 143 (0,0));clear hk3 hb3))
     | (at_builtin;go_must (refine wpList_appendJ rfl (.tmp 23) (.tmp 30) rfl w.heap.size (.slice Av D.length nv) D rfl HK3.out (w2.heap.size+1) 1 1 (some ⟨w2.heap.size,0,none⟩) [(0,0,x.toNat)] rfl HR3.out hq1 hz3 ?_;intro v5 w5 ho5 hg5 hb5 ha5;obtain ⟨A5,c5,rfl,-⟩:=ho5.form;rw [hLn] at ho5 ⊢;have HO5:=Lib.hid ho5;have HB5:=Lib.hid (HB3.out.trans hb5);clear ho5 hg5 hb5 ha5)))
    go_roundw
    case rel=>exact ⟨i+1,f,D ++ [(0,0,x.toNat)],by omega,by go_num,by omega,by rw [hLn];omega,HEj,HO5,HB5⟩
    case measure=>simp [intOf];omega
   ·have d1:((a:Int) == 0)=false:=beq_eq_false_iff_ne.2 (by omega)
    obtain ⟨g3,g4,g5,g6,g7,g8⟩:3≤a∧a≤258∧i+a≤bs.length∧1≤d∧d≤32768∧d≤i:=by rcases hmo with h | h;exact absurd h ha;exact h
    rw [if_neg ha] at HSA HTA
    rw [HSA.out,HTA.out] at HE
    have HEj:Hid (D ++ [(a,d,0)] ++ findF bs f (i+a)=findP bs):=(show _=_ by rw [← HE.out];simp)
    clear hmo HSA HTA hst
    have hLn:(D ++ [(a,d,0)]).length=D.length+1:=by simp
    go_wp2_with (first
     | (go_at_call 115;(with_reducible refine HMA.out.mono ?_);go_must (rintro e w2 ⟨rfl,hq2⟩;obtain ⟨hk3,hb3,hz3⟩:=HX.out w2 (.cells #[.int .i64 (a:Int),.int .i64 (d:Int),.int .i64 0] 143) hq2;have HK3:=Lib.hid hk3;have HB3:=Lib.hid hb3;have HR3:=Lib.hid (rd_oneJ w2 (a,d,0) 143 (0,0));clear hk3 hb3))
     | (at_builtin;go_must (refine wpList_appendJ rfl (.tmp 34) (.tmp 38) rfl w.heap.size (.slice Av D.length nv) D rfl HK3.out (w2.heap.size+1) 1 1 (some ⟨w2.heap.size,0,none⟩) [(a,d,0)] rfl HR3.out hq1 hz3 ?_;intro v5 w5 ho5 hg5 hb5 ha5;obtain ⟨A5,c5,rfl,-⟩:=ho5.form;rw [hLn] at ho5 ⊢;have HO5:=Lib.hid ho5;have HB5:=Lib.hid (HB3.out.trans hb5);clear ho5 hg5 hb5 ha5)))
    go_roundw
    case rel=>exact ⟨i+a,f,D ++ [(a,d,0)],by omega,by go_num,by omega,by rw [hLn];omega,HEj,HO5,HB5⟩
    case measure=>simp [intOf];omega
  ·obtain rfl:i=n:=by omega
   have HE2:Hid (D=findP bs):=(show _=_ by rw [← HE.out,findF_past (by omega)];simp)
   go_wp2_with fail
   go_ret2
   refine ⟨_,_,_,rfl,by rw [← HE2.out],?_,HB.out⟩
   rw [← HE2.out]
   exact HK.out.rd
end Go.Proofs.YteoolehdomjkkaaGreat

/- flate: the document's symbols, plainly. -/
namespace Go.Proofs.YteoolehdomjkkaaGreat
set_option linter.all false
theorem scan_at {f:Nat→Nat × Nat} {x k s n:Nat} (hm:∀ i j,i < j→j≤n→(f i).1 < (f j).1) (h1:k≤n∧(f k).1≤x∧∀ j,k < j→j≤n→x < (f j).1) (hs:s≤n) (h2:(f s).1≤x) (h3:s < n→x < (f (s+1)).1):k=s:=by
 refine scan_uniq hm h1 ⟨hs,h2,fun j hj hn=>?_⟩
 have h4:=h3 (by omega)
 by_cases e:j=s+1
 ·rw [e];exact h4
 ·have:=hm (s+1) j (by omega) hn
  omega
theorem lenS_low {y:Nat} (h:3≤y) (h2:y < 11):lenS y=y - 3∧lenOf (y - 3)=(y,0):=by
 have e1:lenOf (y - 3)=(y,0):=by
  unfold lenOf grp
  rw [if_neg (by omega),if_pos (by omega),show 3+(y - 3)=y by omega]
 refine ⟨scan_at len_mono (lenS_spec h) (by omega) (by rw [e1];exact Nat.le_refl _) (fun _=>?_),e1⟩
 by_cases e:y=10
 ·subst e;decide
 ·unfold lenOf grp
  rw [if_neg (by omega),if_pos (by omega)]
  show y < 3+(y - 3+1)
  omega
theorem lenOf_at0:∀ k,k < 6→∀ q,q < 8→k=0∨q < 4∨((lenOf (4 * k+q)).1=3+q * 2 ^ k∧(lenOf (4 * k+q)).2=k∧(lenOf (4 * k+q+1)).1+(if 4 * k+q=27 then 1 else 0)=3+(q+1) * 2 ^ k):=by decide
theorem lenOf_at (k:Nat) (hk:k < 6) (q:Nat) (hq:q < 8) (h1:1≤k) (h4:4≤q):lenOf (4 * k+q)=(3+q * 2 ^ k,k)∧(lenOf (4 * k+q+1)).1+(if 4 * k+q=27 then 1 else 0)=3+(q+1) * 2 ^ k:=by
 rcases lenOf_at0 k hk q hq with h | h | ⟨a,b,c⟩
 ·omega
 ·omega
 ·exact ⟨Prod.ext a b,c⟩
theorem lenS_form {n k:Nat} (h1:8≤n) (h2:n < 255) (hk:1≤k) (hk1:n / 2 ^ (k+2)≤1) (hk2:k=1∨1 < n / 2 ^ (k+1)):k < 6∧4≤n / 2 ^ k∧n / 2 ^ k < 8∧lenS (n+3)=4 * k+n / 2 ^ k∧lenOf (4 * k+n / 2 ^ k)=(3+n / 2 ^ k * 2 ^ k,k):=by
 have hk6:k < 6:=by
  refine Nat.lt_of_not_le fun h=>?_
  rcases hk2 with e | e
  ·omega
  ·have h3:2 ^ 7≤2 ^ (k+1):=Nat.pow_le_pow_right (by decide) (by omega)
   have h4:n / 2 ^ (k+1)≤n / 2 ^ 7:=Nat.div_le_div_left h3 (by decide)
   have h5:n / 2 ^ 7≤1:=by show n / 128≤1;omega
   omega
 have hp:0 < 2 ^ k:=Nat.two_pow_pos k
 have e2:n / 2 ^ (k+2)=n / 2 ^ k / 4:=by rw [Nat.pow_add,← Nat.div_div_eq_div_mul]
 have e1:n / 2 ^ (k+1)=n / 2 ^ k / 2:=by rw [Nat.pow_add,← Nat.div_div_eq_div_mul]
 rw [e2] at hk1
 rw [e1] at hk2
 have q1:4≤n / 2 ^ k:=by
  rcases hk2 with e | e
  ·subst e;show 4≤n / 2;omega
  ·omega
 have q2:n / 2 ^ k < 8:=by omega
 have hd:=Nat.div_add_mod n (2 ^ k)
 have hm:=Nat.mod_lt n hp
 obtain ⟨f1,f2⟩:=lenOf_at k hk6 (n / 2 ^ k) q2 hk q1
 generalize n / 2 ^ k=q at *
 refine ⟨hk6,q1,q2,scan_at len_mono (lenS_spec (by omega)) (by omega) ?_ (fun h=>?_),f1⟩
 ·rw [f1]
  show 3+q * 2 ^ k≤n+3
  rw [Nat.mul_comm] at hd
  omega
 ·by_cases e27:4 * k+q=27
  ·have e28:(lenOf (4 * k+q+1)).1=258:=by rw [e27];rfl
   rw [e28]
   omega
  ·rw [if_neg e27,Nat.add_mul,Nat.one_mul] at f2
   rw [Nat.mul_comm] at hd
   generalize (lenOf (4 * k+q+1)).1=z at *
   generalize n % 2 ^ k=r at *
   generalize q * 2 ^ k=u at *
   generalize 2 ^ k=t at *
   omega
theorem distS_low {y:Nat} (h:1≤y) (h2:y < 5):distS y=y - 1∧distOf (y - 1)=(y,0):=by
 rcases (show y=1∨y=2∨y=3∨y=4 by omega) with rfl | rfl | rfl | rfl <;> decide
theorem distOf_at0:∀ k,k < 14→∀ q,q < 4→k=0∨q < 2∨((distOf (2 * k+q)).1=1+q * 2 ^ k∧(distOf (2 * k+q)).2=k∧(distOf (2 * k+q+1)).1=1+(q+1) * 2 ^ k):=by decide
theorem distOf_at (k:Nat) (hk:k < 14) (q:Nat) (hq:q < 4) (h1:1≤k) (h4:2≤q):distOf (2 * k+q)=(1+q * 2 ^ k,k)∧(distOf (2 * k+q+1)).1=1+(q+1) * 2 ^ k:=by
 rcases distOf_at0 k hk q hq with h | h | ⟨a,b,c⟩
 ·omega
 ·omega
 ·exact ⟨Prod.ext a b,c⟩
theorem distS_form {n k:Nat} (h1:4≤n) (h2:n < 32768) (hk:1≤k) (hk1:n / 2 ^ (k+1)≤1) (hk2:k=1∨1 < n / 2 ^ k):k < 14∧2≤n / 2 ^ k∧n / 2 ^ k < 4∧distS (n+1)=2 * k+n / 2 ^ k∧distOf (2 * k+n / 2 ^ k)=(1+n / 2 ^ k * 2 ^ k,k):=by
 have hk6:k < 14:=by
  refine Nat.lt_of_not_le fun h=>?_
  rcases hk2 with e | e
  ·omega
  ·have h3:2 ^ 14≤2 ^ k:=Nat.pow_le_pow_right (by decide) (by omega)
   have h4:n / 2 ^ k≤n / 2 ^ 14:=Nat.div_le_div_left h3 (by decide)
   have h5:n / 2 ^ 14≤1:=by show n / 16384≤1;omega
   omega
 have hp:0 < 2 ^ k:=Nat.two_pow_pos k
 have e1:n / 2 ^ (k+1)=n / 2 ^ k / 2:=by rw [Nat.pow_add,← Nat.div_div_eq_div_mul]
 rw [e1] at hk1
 have q1:2≤n / 2 ^ k:=by
  rcases hk2 with e | e
  ·subst e;show 2≤n / 2;omega
  ·omega
 have q2:n / 2 ^ k < 4:=by omega
 have hd:=Nat.div_add_mod n (2 ^ k)
 have hm:=Nat.mod_lt n hp
 obtain ⟨f1,f2⟩:=distOf_at k hk6 (n / 2 ^ k) q2 hk q1
 generalize n / 2 ^ k=q at *
 refine ⟨hk6,q1,q2,scan_at dist_mono (distS_spec (by omega)) (by omega) ?_ (fun h=>?_),f1⟩
 ·rw [f1]
  show 1+q * 2 ^ k≤n+1
  rw [Nat.mul_comm] at hd
  omega
 ·rw [Nat.add_mul] at f2
  rw [Nat.mul_comm] at hd
  generalize q * 2 ^ k=u at *
  generalize 2 ^ k=t at *
  generalize (distOf (2 * k+q+1)).1=z at *
  generalize n % t=r at *
  omega
/-- What a symbol says, as the document reckons it. -/
theorem symV_low {y:Nat} (h:3≤y) (h2:y < 11):symV (y:Int)=(((254+y:Nat):Int),0,0):=by
 obtain ⟨e1,e2⟩:=lenS_low h h2
 unfold symV
 rw [if_neg (by omega),show ((y:Int)).toNat=y from rfl,e1,e2]
 show ((257:Int)+((y - 3:Nat):Int),((0:Nat):Int),(y:Int) - (y:Int))=_
 rw [Int.sub_self,show (257:Int)+((y - 3:Nat):Int)=((254+y:Nat):Int) by omega]
 rfl
theorem symV_top:symV 258=(285,0,0):=by decide
theorem symV_form {n k:Nat} (h1:8≤n) (h2:n < 255) (hk:1≤k) (hk1:n / 2 ^ (k+2)≤1) (hk2:k=1∨1 < n / 2 ^ (k+1)):symV ((n+3:Nat):Int)=(((257+4 * k+n / 2 ^ k:Nat):Int),(k:Int),((n % 2 ^ k:Nat):Int)):=by
 obtain ⟨g1,g2,g3,g4,g5⟩:=lenS_form h1 h2 hk hk1 hk2
 have hd:=Nat.div_add_mod n (2 ^ k)
 rw [Nat.mul_comm] at hd
 unfold symV
 rw [if_neg (by omega),show (((n+3:Nat):Int)).toNat=n+3 from rfl,g4,g5]
 show ((257:Int)+((4 * k+n / 2 ^ k:Nat):Int),((k:Nat):Int),((n+3:Nat):Int) - ((3+n / 2 ^ k * 2 ^ k:Nat):Int))=_
 rw [show (257:Int)+((4 * k+n / 2 ^ k:Nat):Int)=((257+4 * k+n / 2 ^ k:Nat):Int) by omega]
 generalize n / 2 ^ k * 2 ^ k=u at *
 rw [show ((n+3:Nat):Int) - ((3+u:Nat):Int)=((n % 2 ^ k:Nat):Int) by omega]
theorem dstV_low {y:Nat} (h:1≤y) (h2:y < 5):dstV (y:Int)=(((y - 1:Nat):Int),0,0):=by
 obtain ⟨e1,e2⟩:=distS_low h h2
 unfold dstV
 rw [if_neg (by omega),show ((y:Int)).toNat=y from rfl,e1,e2]
 show (((y - 1:Nat):Int),((0:Nat):Int),(y:Int) - (y:Int))=_
 rw [Int.sub_self]
 rfl
theorem dstV_form {n k:Nat} (h1:4≤n) (h2:n < 32768) (hk:1≤k) (hk1:n / 2 ^ (k+1)≤1) (hk2:k=1∨1 < n / 2 ^ k):dstV ((n+1:Nat):Int)=(((2 * k+n / 2 ^ k:Nat):Int),(k:Int),((n % 2 ^ k:Nat):Int)):=by
 obtain ⟨g1,g2,g3,g4,g5⟩:=distS_form h1 h2 hk hk1 hk2
 have hd:=Nat.div_add_mod n (2 ^ k)
 rw [Nat.mul_comm] at hd
 unfold dstV
 rw [if_neg (by omega),show (((n+1:Nat):Int)).toNat=n+1 from rfl,g4,g5]
 show (((2 * k+n / 2 ^ k:Nat):Int),((k:Nat):Int),((n+1:Nat):Int) - ((1+n / 2 ^ k * 2 ^ k:Nat):Int))=_
 generalize n / 2 ^ k * 2 ^ k=u at *
 rw [show ((n+1:Nat):Int) - ((1+u:Nat):Int)=((n % 2 ^ k:Nat):Int) by omega]
end Go.Proofs.YteoolehdomjkkaaGreat

/- flate: the document's symbols. -/
namespace Go.Proofs.YteoolehdomjkkaaGreat
set_option linter.all false
open Go.RowKit
theorem mask_mod (n k:Nat) (h:n < 65536) (hk:k < 16):bits .and .i64 (n:Int) (((2 ^ k:Nat):Int) - 1)=((n % 2 ^ k:Nat):Int):=by
 have h1:0 < 2 ^ k:=Nat.two_pow_pos k
 have h2:2 ^ k≤2 ^ 15:=Nat.pow_le_pow_right (by decide) (by omega)
 rw [show (((2 ^ k:Nat):Int) - 1)=((2 ^ k - 1:Nat):Int) by omega,i64_and_nat _ _ (by omega) (by omega),Nat.and_two_pow_sub_one_eq_mod]
set_option maxRecDepth 100000 in
set_option maxHeartbeats 3200000 in
theorem symbol5_any (x:Int) (w:World):Calls Tryz.prog 27 #[.int .i64 x] w fun e w'=>e=.returned (.tuple #[.int .i64 (symV x).1,.int .i64 (symV x).2.1,.int .i64 (symV x).2.2])∧w=w':=by
 by_cases h1:x < 3
 ·have HV:Hid (symV x=(-1,0,0)):=(show _=_ from if_pos (.inl h1))
  go_enter Tryz.func27,Tryz.ntmps27
  go_wp2_with fail
  go_ret3
  exact ⟨by rw [HV.out];rfl,rfl⟩
 ·by_cases h2:258 < x
  ·have HV:Hid (symV x=(-1,0,0)):=(show _=_ from if_pos (.inr h2))
   go_enter Tryz.func27,Tryz.ntmps27
   go_wp2_with fail
   go_ret3
   exact ⟨by rw [HV.out];rfl,rfl⟩
  ·obtain ⟨y,rfl⟩:=Int.eq_ofNat_of_zero_le (show 0≤x by omega)
   by_cases h258:y=258
   ·subst h258
    have HV:=Lib.hid symV_top
    go_enter Tryz.func27,Tryz.ntmps27
    go_wp2_with fail
    go_ret3
    refine ⟨?_,rfl⟩
    have e:=HV.out
    show Ending.returned _=Ending.returned (.tuple #[.int .i64 (symV 258).1,.int .i64 (symV 258).2.1,.int .i64 (symV 258).2.2])
    rw [e]
    rfl
   ·have d258:((y:Int) == 258)=false:=beq_eq_false_iff_ne.2 (by omega)
    by_cases h11:y < 11
    ·have h11i:(y:Int) < 11:=by omega
     have HV:=Lib.hid (symV_low (y:=y) (by omega) h11)
     go_enter Tryz.func27,Tryz.ntmps27
     go_wp2_with fail
     go_ret3
     exact ⟨by rw [HV.out];simp,rfl⟩
    ·have h11i:¬ (y:Int) < 11:=by omega
     obtain ⟨n,rfl⟩:∃ n,y=n+3:=⟨y - 3,by omega⟩
     have hn3:((n+3:Nat):Int) - 3=(n:Int):=by omega
     have HV:Hid (∀ k,1≤k→n / 2 ^ (k+2)≤1→(k=1∨1 < n / 2 ^ (k+1))→symV ((n+3:Nat):Int)=(((257+4 * k+n / 2 ^ k:Nat):Int),(k:Int),((n % 2 ^ k:Nat):Int))∧k < 6) :=
      (show ∀ k,_ from fun k g1 g2 g3=>⟨symV_form (by omega) (by omega) g1 g2 g3,(lenS_form (by omega) (by omega) g1 g2 g3).1⟩)
     have hn8:8≤n∧n < 255:=by omega
     go_enter Tryz.func27,Tryz.ntmps27
     go_wp2_with fail
     go_loopw [6] (fun vi wr=>∃ k:Nat,1≤k∧k < 8∧vi=.int .i64 k∧Hid (k=1∨1 < n / 2 ^ (k+1))∧wr=w) (fun vi _=>8 - (intOf vi).toNat)
     case atStart=>exact ⟨1,Nat.le_refl _,by omega,rfl,(show _∨_ from .inl rfl),rfl⟩
     case round =>
      obtain ⟨k,hk1,hk8,rfl,HG,rfl⟩:=hrel
      have hd2:(k:Int)+2=((k+2:Nat):Int):=by omega
      have hqI:(n:Int) / 2 ^ (k+2)=((n / 2 ^ (k+2):Nat):Int):=by rw [show ((2:Int) ^ (k+2))=((2 ^ (k+2):Nat):Int) by push_cast;rfl,← Int.natCast_ediv]
      by_cases ht:1 < n / 2 ^ (k+2)
      ·have hk7:k+1 < 8:=by
        refine Nat.lt_of_not_le fun hh=>?_
        obtain rfl:k=7:=by omega
        have:n / 2 ^ (7+2)≤0:=by show n / 512≤0;omega
        omega
       have HG2:Hid (k+1=1∨1 < n / 2 ^ (k+1+1)):=(show _∨_ from .inr ht)
       obtain ⟨d,hdd⟩:∃ d,k+2=d:=⟨_,rfl⟩
       rw [hdd] at hd2 hqI ht
       have hti:((n / 2 ^ d:Nat):Int) > 1:=by omega
       have hd64:d < 64:=by omega
       generalize n / 2 ^ d=q at *
       clear hdd
       go_wp2_with fail
       go_roundw
       case rel=>exact ⟨k+1,by omega,hk7,by go_num,HG2,trivial⟩
       case measure=>simp [intOf];omega
      ·obtain ⟨e1,e2⟩:=HV.out k hk1 (by omega) HG.out
       rw [show ((n+3:Nat):Int)=(n:Int)+3 by push_cast;rfl] at e1
       have HE:=Lib.hid e1
       have hqI2:(n:Int) / 2 ^ k=((n / 2 ^ k:Nat):Int):=by rw [show ((2:Int) ^ k)=((2 ^ k:Nat):Int) by push_cast;rfl,← Int.natCast_ediv]
       have hmm:=mask_mod n k (by omega) (by omega)
       have hM:(2:Int) ^ k=((2 ^ k:Nat):Int):=by push_cast;rfl
       have hM2:2 ^ k≤2 ^ 6:=Nat.pow_le_pow_right (by decide) (by omega)
       have hMp:0 < 2 ^ k:=Nat.two_pow_pos k
       have hq9:n / 2 ^ k≤n:=Nat.div_le_self _ _
       generalize hdd:k+2=d at *
       have hti:¬ ((n / 2 ^ d:Nat):Int) > 1:=by omega
       have hd64:d < 64:=by omega
       generalize n / 2 ^ d=q at *
       generalize n / 2 ^ k=r at *
       generalize n % 2 ^ k=t at *
       generalize hMM:2 ^ k=M at *
       rw [hM] at hqI2
       clear hdd ht e1 hMM
       go_wp2_with fail
       go_ret3
       exact ⟨by rw [HE.out];simp,rfl⟩
set_option maxRecDepth 100000 in
set_option maxHeartbeats 3200000 in
theorem distance5_any (x:Int) (w:World):Calls Tryz.prog 29 #[.int .i64 x] w fun e w'=>e=.returned (.tuple #[.int .i64 (dstV x).1,.int .i64 (dstV x).2.1,.int .i64 (dstV x).2.2])∧w=w':=by
 by_cases h1:x < 1
 ·have HV:Hid (dstV x=(-1,0,0)):=(show _=_ from if_pos (.inl h1))
  go_enter Tryz.func29,Tryz.ntmps29
  go_wp2_with fail
  go_ret3
  exact ⟨by rw [HV.out];rfl,rfl⟩
 ·by_cases h2:32768 < x
  ·have HV:Hid (dstV x=(-1,0,0)):=(show _=_ from if_pos (.inr h2))
   go_enter Tryz.func29,Tryz.ntmps29
   go_wp2_with fail
   go_ret3
   exact ⟨by rw [HV.out];rfl,rfl⟩
  ·obtain ⟨n,hn⟩:=Int.eq_ofNat_of_zero_le (show 0≤x - 1 by omega)
   obtain rfl:x=((n+1:Nat):Int):=by omega
   have hn3:((n+1:Nat):Int) - 1=(n:Int):=by omega
   by_cases h4:n < 4
   ·have h4i:(n:Int) < 4:=by omega
    have hv0:=dstV_low (y:=n+1) (by omega) (by omega)
    rw [show ((n+1:Nat):Int)=(n:Int)+1 by push_cast;rfl] at hv0
    have HV:=Lib.hid hv0
    clear hv0
    go_enter Tryz.func29,Tryz.ntmps29
    go_wp2_with fail
    go_ret3
    exact ⟨by rw [HV.out];simp,rfl⟩
   ·have h4i:¬ (n:Int) < 4:=by omega
    have HV:Hid (∀ k,1≤k→n / 2 ^ (k+1)≤1→(k=1∨1 < n / 2 ^ k)→dstV ((n+1:Nat):Int)=(((2 * k+n / 2 ^ k:Nat):Int),(k:Int),((n % 2 ^ k:Nat):Int))∧k < 14) :=
     (show ∀ k,_ from fun k g1 g2 g3=>⟨dstV_form (by omega) (by omega) g1 g2 g3,(distS_form (by omega) (by omega) g1 g2 g3).1⟩)
    have hn8:4≤n∧n < 32768:=by omega
    go_enter Tryz.func29,Tryz.ntmps29
    go_wp2_with fail
    go_loopw [6] (fun vi wr=>∃ k:Nat,1≤k∧k < 16∧vi=.int .i64 k∧Hid (k=1∨1 < n / 2 ^ k)∧wr=w) (fun vi _=>16 - (intOf vi).toNat)
    case atStart=>exact ⟨1,Nat.le_refl _,by omega,rfl,(show _∨_ from .inl rfl),rfl⟩
    case round =>
     obtain ⟨k,hk1,hk8,rfl,HG,rfl⟩:=hrel
     have hd2:(k:Int)+1=((k+1:Nat):Int):=by omega
     have hqI:(n:Int) / 2 ^ (k+1)=((n / 2 ^ (k+1):Nat):Int):=by rw [show ((2:Int) ^ (k+1))=((2 ^ (k+1):Nat):Int) by push_cast;rfl,← Int.natCast_ediv]
     by_cases ht:1 < n / 2 ^ (k+1)
     ·have hk7:k+1 < 16:=by
       refine Nat.lt_of_not_le fun hh=>?_
       obtain rfl:k=15:=by omega
       have:n / 2 ^ (15+1)≤0:=by show n / 65536≤0;omega
       omega
      have HG2:Hid (k+1=1∨1 < n / 2 ^ (k+1)):=(show _∨_ from .inr ht)
      have HKD:Hid (∀ d,k+1=d→(d=1∨1 < n / 2 ^ d)):=(show ∀ d,_ from fun d hd=>by rw [← hd];exact HG2.out)
      obtain ⟨d,hdd⟩:∃ d,k+1=d:=⟨_,rfl⟩
      have HG3:Hid (∀ d',d'=d→(d'=1∨1 < n / 2 ^ d')):=(show ∀ d',_ from fun d' e=>HKD.out d' (hdd.trans e.symm))
      rw [hdd] at hd2 hqI ht hk7
      have hti:((n / 2 ^ d:Nat):Int) > 1:=by omega
      have hdk:k < d:=by omega
      have hd64:d < 64:=by omega
      have hd1:1≤d:=by omega
      generalize n / 2 ^ d=q at *
      clear HG2 HKD hdd
      go_wp2_with fail
      go_roundw
      case rel=>exact ⟨d,hd1,hk7,rfl,(show _∨_ from HG3.out d rfl),trivial⟩
      case measure=>simp [intOf];omega
     ·obtain ⟨e1,e2⟩:=HV.out k hk1 (by omega) HG.out
      rw [show ((n+1:Nat):Int)=(n:Int)+1 by push_cast;rfl] at e1
      have HE:=Lib.hid e1
      have hqI2:(n:Int) / 2 ^ k=((n / 2 ^ k:Nat):Int):=by rw [show ((2:Int) ^ k)=((2 ^ k:Nat):Int) by push_cast;rfl,← Int.natCast_ediv]
      have hmm:=mask_mod n k (by omega) (by omega)
      have hM:(2:Int) ^ k=((2 ^ k:Nat):Int):=by push_cast;rfl
      have hM2:2 ^ k≤2 ^ 14:=Nat.pow_le_pow_right (by decide) (by omega)
      have hMp:0 < 2 ^ k:=Nat.two_pow_pos k
      have hq9:n / 2 ^ k≤n:=Nat.div_le_self _ _
      obtain ⟨d,hdd⟩:∃ d,k+1=d:=⟨_,rfl⟩
      rw [hdd] at hd2 hqI ht
      have hti:¬ ((n / 2 ^ d:Nat):Int) > 1:=by omega
      have hd64:d < 64:=by omega
      generalize n / 2 ^ d=q at *
      generalize n / 2 ^ k=r at *
      generalize n % 2 ^ k=t at *
      generalize hMM:2 ^ k=M at *
      rw [hM] at hqI2
      clear hdd ht e1 hMM
      go_wp2_with fail
      go_ret3
      exact ⟨by rw [HE.out];simp,rfl⟩
end Go.Proofs.YteoolehdomjkkaaGreat
