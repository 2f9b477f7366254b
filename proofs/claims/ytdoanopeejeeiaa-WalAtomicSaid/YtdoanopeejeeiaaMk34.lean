/- XWle -/
import Derived.Test.YtdoanopeejeeiaaMk33
namespace Go.Proofs.Ytdoanopeejeeiaa
set_option linter.all false
open Go.RowKit Go.Maps
theorem upD_any (lo d:Nat) (h:Hn) (s:Dk) (w:World) (H:DkOk w lo d h s) :
  Calls Try.prog 23 #[.pointer (some ⟨d,0,none⟩)] w fun e w'=>e=.returned (.bool (!s.down))∧w=w':=by
 have c7:=H.arr.cell (k:=7) rfl
 clear H
 go_enter Try.func23,Try.ntmps23
 go_wp2_with fail
 go_ret
 exact ⟨rfl,rfl⟩
/-- A fall is set. -/
theorem DkOk.setF {w:World} {lo d:Nat} {h:Hn} {s:Dk} (k:DkOk w lo d h s) (n:Nat) {A:Option Addr} {m c:Nat} {bs:Bs} (hr:RowAt w (h.S d) A m bs) :
  DkOk ((w.setCell ⟨d,5,none⟩ (.int .i64 (n:Int))).setCell ⟨d,6,none⟩ (.slice A m c)) lo d { h with mA:=A,mn:=m,mc:=c } { s with falls:=n,mask:=bs }∧Fr (h.T d) w ((w.setCell ⟨d,5,none⟩ (.int .i64 (n:Int))).setCell ⟨d,6,none⟩ (.slice A m c)):=by
 obtain ⟨q1,F1⟩:=k.cell 5 (.int .i64 (n:Int)) (s':={ s with falls:=n }) rfl rfl rfl rfl rfl rfl
 have F2:Fr (h.T d) (w.setCell ⟨d,5,none⟩ (.int .i64 (n:Int))) ((w.setCell ⟨d,5,none⟩ (.int .i64 (n:Int))).setCell ⟨d,6,none⟩ (.slice A m c)):=(Fr.refl _ _).setCell (p:=⟨d,6,none⟩) (.inl rfl) _
 have hb:∀ g,g ≠ d→((w.setCell ⟨d,5,none⟩ (.int .i64 (n:Int))).setCell ⟨d,6,none⟩ (.slice A m c)).heap[g]?=(w.setCell ⟨d,5,none⟩ (.int .i64 (n:Int))).heap[g]?:=fun g hg=>Below.heap_setCell _ _ _ _ hg
 have hT:TT (w.setCell ⟨d,5,none⟩ (.int .i64 (n:Int))) (h.S d) (h.S d):=TT.refl _ _
 have hne:h.pv.ownBlock ≠ some d:=fun e=>(k.pne d e).1 rfl
 refine ⟨⟨q1.arr.set 6 _,k.ne1,k.ne2,k.ne3,k.lo1,k.lo2,k.lo3,k.pne,q1.now.fr F2.S hT (hb _ (fun e=>k.ne1 e.symm)),q1.dur.fr F2.S hT (hb _ (fun e=>k.ne2 e.symm)),q1.own.far hne 6 _,q1.pr.fr F2.S hT,(hr.fr F1.S (TT.refl _ _)).fr F2.S hT,k.size⟩,F1.trans F2⟩
set_option maxRecDepth 100000 in
set_option maxHeartbeats 3200000 in
theorem crashAt_any (lo d:Nat) (h:Hn) (s:Dk) (n:Int) (A:Option Addr) (m c:Nat) (bs:Bs) (w:World) (H:DkOk w lo d h s) (hr:RdB w w.heap.size A m bs) (hm:m≤1000000) (hU:∀ g,w.heap.size≤g→¬ h.U g) :
  Calls Try.prog 20 #[.pointer (some ⟨d,0,none⟩),.int .i64 n,.slice A m c] w fun e w'=>(∃ v,e=.returned v)∧∃ h',DkOk w' lo d h' { s with falls:=n.toNat,mask:=bs }∧Fr (h.T d) w w'∧h'.T d=h.T d∧h'.U=h.U:=by
 have HCL:=Lib.hid (cloneB3_any w.heap.size m c A bs w hr (by omega))
 have HH:=Lib.hid H
 have HHT:=Lib.hid (H.rest hU)
 have hdl:=H.arr.lt
 obtain ⟨N,hN⟩:∃ N:Nat,max n 0=(N:Int):=⟨n.toNat,by omega⟩
 have HN:Hid (n.toNat=N):=(show _=_ by omega)
 clear H hr hU
 go_enter Try.func20,Try.ntmps20
 go_wp2_with (go_at_call 39;(with_reducible refine HCL.out.mono ?_);go_must (rintro e w5 ⟨v5,rfl,ho5,hb5⟩;obtain ⟨A5,c5,e5,-⟩:=ho5.form;obtain ⟨n5,hn5⟩:∃ n5,bs.length=n5:=⟨_,rfl⟩;rw [hn5] at e5;subst e5;have HK:=Lib.hid (HH.out.later hb5);have HO5:=Lib.hid ho5;have HB5:=Lib.hid hb5;have a5:=HK.out.arr.cell (k:=5) rfl;have a6:=HK.out.arr.cell (k:=6) rfl;have b5:=HK.out.arr.frozen 5;have b6:=HK.out.arr.frozen 6;clear hb5 ho5 hn5))
 (try simp only [Exit.inBlock,Exit.then]);first | (refine bodyPost_ret (results_none rfl _ _ _) rfl ?_) | (refine bodyPost_end (results_none rfl _ _ _) rfl ?_)
 obtain ⟨q1,q2⟩:=HK.out.setF N (c:=c5) (RowAt.own2 HO5.out (fun z hz=>HHT.out z hz))
 rw [HN.out]
 exact ⟨⟨_,rfl⟩,_,q1,(Fr.of _ HB5.out).trans q2,rfl,rfl⟩
set_option maxRecDepth 100000 in
set_option maxHeartbeats 3200000 in
theorem copyM_any (lo d:Nat) (h:Hn) (s:Dk) (w:World) (H:DkOk w lo d h s) (hmk:s.mask.length≤1000000) (hp:s.pend.length≤1000000) :
  Calls Try.prog 33 #[.pointer (some ⟨d,0,none⟩)] w fun e w'=>∃ h',e=.returned (.pointer (some ⟨w.heap.size,0,none⟩))∧DkOk w' w.heap.size w.heap.size h' s∧(∀ g,¬ h'.U g)∧Below w.heap.size w w':=by
 have HB1:=(Below.refl _ w).alloc (Nat.le_refl _) (.cells (h.cells s).toArray 61)
 have AN:=Arr.new w (h.cells s) 61
 have AO:=H.arr.later HB1
 obtain ⟨r1,hm1,hr1,hs1⟩:=H.now
 obtain ⟨r2,hm2,hr2,hs2⟩:=H.dur
 have HM1:=Lib.hid (hm1.later HB1)
 have HM2:=Lib.hid (hm2.later HB1)
 have c0:=H.arr.cell (k:=0) rfl
 have c1:=H.arr.cell (k:=1) rfl
 have c2:=H.arr.cell (k:=2) rfl
 have c3:=H.arr.cell (k:=3) rfl
 have c4:=H.arr.cell (k:=4) rfl
 have c5:=H.arr.cell (k:=5) rfl
 have c6:=H.arr.cell (k:=6) rfl
 have c7:=H.arr.cell (k:=7) rfl
 have hdl:=H.arr.lt
 have hdn:=Nat.ne_of_lt hdl
 have HH:=Lib.hid H
 have HHB1:=Lib.hid HB1
 have HAN:=Lib.hid AN
 have HAO:=Lib.hid AO
 have HR1:=Lib.hid hr1
 have HS1:=Lib.hid hs1
 have HR2:=Lib.hid hr2
 have HS2:=Lib.hid hs2
 clear HB1 AN AO hm1 hm2 hr1 hr2 hs1 hs2 H
 go_enter Try.func33,Try.ntmps33
 go_upto_region 2 with fail
 obtain ⟨W1,hW1⟩:∃ W1,W1=w.alloc (.cells (h.cells s).toArray 61):=⟨_,rfl⟩
 have hW2:w.alloc (.cells #[.int .i64 (s.n:Int),.map (some h.nb),.map (some h.db),.slice h.pA h.pn h.pc,.int .i64 (s.writes:Int),.int .i64 (s.falls:Int),.slice h.mA h.mn h.mc,.bool s.down] 61)=W1:=hW1.symm
 rw [hW2]
 rw [← hW1] at HHB1 HAN HAO HM1 HM2
 have hs1:W1.heap.size=w.heap.size+1:=by rw [hW1];simp
 obtain ⟨D,hD⟩:∃ D,D=w.heap.size:=⟨_,rfl⟩
 rw [← hD] at HAN hs1
 rw [← hD]
 have HDD:=Lib.hid hD
 have HSZ:=Lib.hid hs1
 clear hD hs1
 clear hW1 hW2 c0 c1 c2 c3 c4 c5 c6 c7
 have HC1:=Lib.hid (fun (w':World) (hb:Below W1.heap.size W1 w')=>cloneM_any h.nb r1 w' (HM1.out.later hb))
 have HC2:=Lib.hid (fun (w':World) (hb:Below W1.heap.size W1 w')=>cloneM_any h.db r2 w' (HM2.out.later hb))
 have c1:=HAO.out.cell (k:=1) rfl
 have c2:=HAO.out.cell (k:=2) rfl
 go_cut [] (fun wx=>∃ g1 g2,Arr wx D [.int .i64 (s.n:Int),.map (some g1),.map (some g2),.slice h.pA h.pn h.pc,.int .i64 (s.writes:Int),.int .i64 (s.falls:Int),.slice h.mA h.mn h.mc,.bool s.down]∧isMap wx g1 r1∧isMap wx g2 r2∧Below D w wx∧D < g1∧D < g2∧g1 ≠ g2)
 case first =>
  have hX:=Below.refl W1.heap.size W1
  go_region_law (first
   | (go_simp;go_at_call 41;(with_reducible refine (HC1.out _ ?_).mono ?_);(first | exact hX | exact Below.drew hX);go_must (rintro e w2 ⟨rfl,hm1,hz1,hb1⟩;have HX2:=Lib.hid (show Below W1.heap.size W1 w2 by first | exact bstep hX hb1 (Nat.le_refl _) | exact bstep (Below.drew hX) hb1 (Nat.le_refl _));have HMA:=Lib.hid hm1;have c12:=(HAO.out.later HX2.out).cell (k:=1) rfl;have c22:=(HAO.out.later HX2.out).cell (k:=2) rfl;clear hb1 hm1))
   | (go_simp;go_at_call 41;(with_reducible refine (HC2.out _ HX2.out).mono ?_);go_must (rintro e w3 ⟨rfl,hm2,hz2,hb2⟩;have HMB:=Lib.hid hm2;have HMA3:=Lib.hid (HMA.out.later hb2);have HX3:=Lib.hid (bstep HX2.out hb2 (Nat.le_refl _));have d13:=(HAN.out.later HX3.out).cell (k:=1) rfl;have d23:=(HAN.out.later HX3.out).cell (k:=2) rfl;have e13:=(HAN.out.later HX3.out).frozen 1;have e23:=(HAN.out.later HX3.out).frozen 2;clear hb2 hm2)))
  all_goals
   go_wp2_with fail
   go_meet
   case rel =>
    have hD:=HDD.out
    have hs1:=HSZ.out
    have q1:=((HAN.out.later HX3.out).set 1 (.map (some W1.heap.size))).set 2 (.map (some w2.heap.size))
    refine ⟨W1.heap.size,w2.heap.size,q1,?_,?_,?_,by omega,by have:=HX2.out.size;omega,by have:=hz1;have h2:W1.drew.heap.size=W1.heap.size:=rfl;omega⟩
    ·exact HMA3.out.keep ((Below.heap_setCell _ _ _ _ (show W1.heap.size ≠ D by omega)).trans (Below.heap_setCell _ _ _ _ (show W1.heap.size ≠ D by omega)))
    ·exact HMB.out.keep ((Below.heap_setCell _ _ _ _ (show w2.heap.size ≠ D by have:=HX2.out.size;omega)).trans (Below.heap_setCell _ _ _ _ (show w2.heap.size ≠ D by have:=HX2.out.size;omega)))
    ·have b1:Below D w w3:=(HHB1.out.mono (by omega)).trans (HX3.out.mono (by omega))
     exact (b1.setCell (p:=⟨D,1,none⟩) (Nat.le_refl _) _).setCell (p:=⟨D,2,none⟩) (Nat.le_refl _) _
 case rest =>
 obtain ⟨g1,g2,hAc,hma,hmb,hBx,l1,l2,l3⟩:=hcut
 have HBX:Hid (Below w.heap.size w wc):=(show Below _ _ _ by rw [← HDD.out];exact hBx)
 have HK:=Lib.hid (HH.out.later HBX.out)
 have HAC:=Lib.hid hAc
 have HMA:=Lib.hid hma
 have HMB:=Lib.hid hmb
 have c3:=HK.out.arr.cell (k:=3) rfl
 have c6:=HK.out.arr.cell (k:=6) rfl
 have hpn:h.pn=h.pl.length:=by
  obtain ⟨A0,cc0,e0,-⟩:=HK.out.own.form
  unfold Hn.pv at e0
  injection e0
 have hpl2:=HK.out.pr.1
 have hmn:h.mn≤1000000:=by rw [← HK.out.mask.1];exact hmk
 obtain ⟨mk,hmke⟩:∃ b,s.mask=b:=⟨_,rfl⟩
 have HCP:=Lib.hid (fun (w':World) (hb:Below wc.heap.size wc w')=>cloneH_any w'.heap.size h.pn h.pc h.pA h.pl w' (ownH.rd (show ownH w' lo (.slice h.pA h.pn h.pc) h.pl from HK.out.own.later hb)) (by omega))
 have HMK:Hid (RdB wc wc.heap.size h.mA h.mn mk):=(show RdB _ _ _ _ _ by have:=HK.out.mask.2.2;rw [hmke] at this;exact this)
 have HCM:=Lib.hid (fun (w':World) (hb:Below wc.heap.size wc w')=>cloneB3_any w'.heap.size h.mn h.mc h.mA mk w' (HMK.out.later hb) (by omega))
 have hDl:D < wc.heap.size:=HAC.out.lt
 have hg1:=HMA.out.lt
 have hg2:=HMB.out.lt
 clear hAc hma hmb hBx HC1 HC2 HM1 HM2 HAN HAO HHB1 c1 c2
 have HNN:=Lib.hid hmn
 have HME:=Lib.hid hmke
 have HPN:=Lib.hid hpn
 clear hmn hpn hpl2 hmke hmk
 go_upto_region 3 with fail
 have hX:=Below.refl wc.heap.size wc
 go_region_law (first
  | (go_simp;go_at_call 51;(with_reducible refine (HCP.out _ ?_).mono ?_);(first | exact hX | exact Below.drew hX);go_must (rintro e w5 ⟨A5,n5,c5,rfl,ho5,hb5⟩;have HX5:=Lib.hid (show Below wc.heap.size wc w5 by first | exact bstep hX hb5 (Nat.le_refl _) | exact bstep (Below.drew hX) hb5 (Nat.le_refl _));have HO5:=Lib.hid (show ownH w5 wc.heap.size (.slice A5 n5 c5) h.pl from ho5);have c65:=(HK.out.arr.later HX5.out).cell (k:=6) rfl;clear hb5 ho5))
  | (go_simp;go_at_call 39;(with_reducible refine (HCM.out _ HX5.out).mono ?_);go_must (rintro e w6 ⟨v6,rfl,ho6,hb6⟩;obtain ⟨A6,k6,e6,-⟩:=ho6.form;obtain ⟨n6,hn6⟩:∃ n6,mk.length=n6:=⟨_,rfl⟩;rw [hn6] at e6;subst e6;clear hn6;have HM6:=Lib.hid ho6;have hs65:=hb6.size;have HX6:=Lib.hid (bstep HX5.out hb6 (Nat.le_refl _));have HO6:=Lib.hid (HO5.out.later hb6);have d36:=(HAC.out.later HX6.out).cell (k:=3) rfl;have d66:=(HAC.out.later HX6.out).cell (k:=6) rfl;have f36:=(HAC.out.later HX6.out).frozen 3;have f66:=(HAC.out.later HX6.out).frozen 6;clear hb6 ho6)))
 all_goals
  go_wp2_with fail
  go_ret
  have hD:=HDD.out
  have hsz6:=HX6.out.size
  have hbl:∀ g,g ≠ D→((w6.setCell ⟨D,3,none⟩ (.slice A5 n5 c5)).setCell ⟨D,6,none⟩ (.slice A6 n6 k6)).heap[g]?=w6.heap[g]?:=fun g hg=>(Below.heap_setCell _ _ _ _ hg).trans (Below.heap_setCell _ _ _ _ hg)
  have hBf:Below w.heap.size w ((w6.setCell ⟨D,3,none⟩ (.slice A5 n5 c5)).setCell ⟨D,6,none⟩ (.slice A6 n6 k6)):=((HBX.out.trans (HX6.out.mono HBX.out.size)).setCell (p:=⟨D,3,none⟩) (show w.heap.size≤D by omega) _).setCell (p:=⟨D,6,none⟩) (show w.heap.size≤D by omega) _
  have hlt5:=World.ownsRow.lt HO6.out
  have hTS:TT w (h.S d) (Hn.S ⟨g1,g2,A5,n5,c5,h.pl,A6,n6,k6,fun _=>False⟩ D):=by
   rintro g ((e | e | e | e) | e)
   ·exact .inr (by have e2:g=D:=e;omega)
   ·exact .inr (by have e2:g=g1:=e;omega)
   ·exact .inr (by have e2:g=g2:=e;omega)
   ·exact .inr (by have:=(hlt5 g e).1;have:=HBX.out.size;omega)
   ·exact absurd e id
  refine ⟨⟨g1,g2,A5,n5,c5,h.pl,A6,n6,k6,fun _=>False⟩,by rw [← hD];rfl,?_,fun g e=>e,hBf⟩
  rw [← hD]
  refine ⟨((HAC.out.later HX6.out).set 3 _).set 6 _,(show D ≠ g1 by omega),(show D ≠ g2 by omega),l3,Nat.le_refl _,(show D≤g1 by omega),(show D≤g2 by omega),fun g e=>?_,?_,?_,?_,HH.out.pr.fr (Fr.of _ hBf) hTS,?_,HH.out.size⟩
  ·have:=(hlt5 g e).1
   exact ⟨by omega,(show g ≠ g1 by omega),(show g ≠ g2 by omega)⟩
  ·refine ⟨r1,(HMA.out.later HX6.out).keep (hbl _ (by omega)),HR1.out,fun k bs e=>?_⟩
   obtain ⟨v,e1,e2⟩:=HS1.out k bs e
   exact ⟨v,e1,e2.fr (Fr.of _ hBf) hTS⟩
  ·refine ⟨r2,(HMB.out.later HX6.out).keep (hbl _ (by omega)),HR2.out,fun k bs e=>?_⟩
   obtain ⟨v,e1,e2⟩:=HS2.out k bs e
   exact ⟨v,e1,e2.fr (Fr.of _ hBf) hTS⟩
  ·have hne:(Value.slice A5 n5 c5).ownBlock ≠ some D:=fun e=>by have:=(hlt5 D e).1;omega
   exact ((HO6.out.far hne 3 _).far hne 6 _).mono (by omega)
  ·show RowAt _ _ A6 n6 s.mask
   rw [HME.out]
   have hT6:∀ z,w5.heap.size≤z→¬ Hn.S ⟨g1,g2,A5,n5,c5,h.pl,A6,n6,k6,fun _=>False⟩ D z:=by
    intro z hz hS
    have h5:=HX5.out.size
    rcases hS with (e | e | e | e) | e
    ·have e2:z=D:=e;omega
    ·have e2:z=g1:=e;omega
    ·have e2:z=g2:=e;omega
    ·have:=(World.ownsRow.lt HO5.out z e).2;omega
    ·exact e
   have q0:RowAt w6 (Hn.S ⟨g1,g2,A5,n5,c5,h.pl,A6,n6,k6,fun _=>False⟩ D) A6 n6 mk:=RowAt.own2 HM6.out hT6
   exact q0.fr (((Fr.refl _ w6).setCell (p:=⟨D,3,none⟩) (.inl (.inl rfl)) _).setCell (p:=⟨D,6,none⟩) (.inl (.inl rfl)) _) (TT.refl _ _)
end Go.Proofs.Ytdoanopeejeeiaa

