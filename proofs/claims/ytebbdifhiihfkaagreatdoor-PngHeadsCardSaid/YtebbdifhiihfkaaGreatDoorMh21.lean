/- XFl10 XFl11 XFl12 -/
import Derived.Test.YtebbdifhiihfkaaGreatDoorMh15
import Derived.Test.YtebbdifhiihfkaaGreatDoorMh20
import Derived.StillTailTactics
namespace Go.Proofs.YtebbdifhiihfkaaGreatDoor
set_option linter.all false
open Go.RowKit
theorem wrong_ok {ws:List Int} {m:Nat} (h1:1≤ws.length) (h2:ws.length≤300) (hm:1≤m) (hm2:m≤15) (hr:∀ x ∈ ws,0≤x∧x≤1000000) (hp:ws.length≤2 ^ m):wrongH ws (m:Int)=false:=by
 have hb:badW ws=false:=by
  unfold badW
  rw [List.any_eq_false]
  intro x hx
  have:=hr x hx
  simp
  omega
 have hq:posn ws≤ws.length:=List.length_filter_le _ _
 have h5:¬ 2 ^ ((m:Int)).toNat < posn ws:=by
  rw [show ((m:Int)).toNat=m from rfl]
  omega
 unfold wrongH
 rw [hb,decide_eq_false (by omega),decide_eq_false (by omega),decide_eq_false (by omega),decide_eq_false (by omega),decide_eq_false h5]
 rfl
theorem lensOf_length (ws:List Int) (m:Nat):(lensOf ws m).length=ws.length:=by
 unfold lensOf
 split <;> simp [bumps_len]
theorem lens_any (B n c:Nat) (A:Option Addr) (ws:List Int) (M:Int) (m:Nat) (hM:M=(m:Int)) (w:World) (h:RdI w B A n ws) (hB:B≤w.heap.size) (h1:1≤n) (h2:n≤300) (hm:1≤m) (hm2:m≤15) (hr:∀ x ∈ ws,0≤x∧x≤1000000) (hp:n≤2 ^ m) :
  Calls Tryz.prog 153 #[.slice A n c,.int .i64 M] w fun e w'=>∃ g c',e=.returned (.tuple #[.slice (some ⟨g,0,none⟩) n c',.int .i64 0])∧n≤c'∧c'≤maxLen∧w.heap.size≤g∧ownI w' w.heap.size (.slice (some ⟨g,0,none⟩) n c') (lensOf ws m)∧Below w.heap.size w w':=by
 subst hM
 have hl:=h.len
 refine (lengths_any B n c A ws (m:Int) w h hB (by omega)).mono ?_
 rintro e w' ⟨A',n',c',rfl,hn',ho,hb⟩
 have hw:=wrong_ok (ws:=ws) (m:=m) (by omega) (by omega) hm hm2 hr (by omega)
 have e1:lenE ws (m:Int)=0:=by unfold lenE;rw [hw];rfl
 have e2:lenR ws (m:Int)=lensOf ws m:=by unfold lenR;rw [hw];rfl
 rw [e2] at hn' ho
 rw [lensOf_length,hl] at hn'
 subst hn'
 obtain ⟨_,g,rfl,hg,_⟩:=ho.pos (by omega)
 obtain ⟨A2,c2,e3,q1,q2,q3⟩:=ho.form
 injection e3 with e3 e4 e5
 subst e5
 exact ⟨g,c',by rw [e1],by omega,q3,hg,ho,hb⟩
theorem RdI.far {w:World} {B b o n:Nat} {l:List Int} (h:RdI w B (some ⟨b,o,none⟩) n l) {p:Addr} (hp:b ≠ p.block) (v:Value):RdI (w.setCell p v) B (some ⟨b,o,none⟩) n l:=by
 refine ⟨h.1,fun hn=>?_⟩
 obtain ⟨b',o',e,hb,hc⟩:=h.2 hn
 injection e with e
 injection e with e1 e2
 subst e1 e2
 exact ⟨b,o,rfl,hb,fun j u hu=>(World.cell?_of_block (a:=⟨b,o+j,none⟩) (Below.heap_setCell _ _ _ _ hp)).trans (hc j u hu)⟩
theorem cut_lit (B n c:Nat) (A:Option Addr) (ls:List Int) (L:Int) (least:Nat) (hL:L=(least:Int)) (w:World) (h:RdI w B A n ls) (hB:B≤w.heap.size) (hn:n≤1000) (hl9:least≤1000) (hc:n≤c) (hc9:c≤maxLen) :
  Calls Tryz.prog 154 #[.slice A n c,.int .i64 L] w fun e w'=>e=.returned (.slice A (cutK ls least n) c)∧Below w.heap.size w w':=by
 subst hL
 exact cut_any B n c A ls least w h hB hn hl9 hc hc9
def dynL (ts:List Tok):List Int:=cutL (lensOf (weighL ts) 15) 257
def dynD (ts:List Tok):List Int:=if (lensOf (weighD ts) 15).getD 0 0=0∧cutK (lensOf (weighD ts) 15) 1 30=1 then [1] else cutL (lensOf (weighD ts) 15) 1
theorem dynL_len (ts:List Tok):(dynL ts).length=cutK (lensOf (weighL ts) 15) 257 286:=by unfold dynL;rw [cutL_len,lensOf_length,weighL_len]
theorem dynL_rng (ts:List Tok):257≤(dynL ts).length∧(dynL ts).length≤286:=by
 rw [dynL_len]
 exact ⟨cutK_ge _ _ _ (by omega),cutK_le _ _ _⟩
theorem rd_one1 {w:World} {B b o:Nat} {x:Int} (hb:b < B) (h:w.cell? ⟨b,o,none⟩=some (.int .i64 x)):RdI w B (some ⟨b,o,none⟩) 1 [x]:=by
 refine ⟨rfl,fun _=>⟨b,o,rfl,hb,fun j u hj=>?_⟩⟩
 cases j with
 | zero=>simp [cI] at hj;subst hj;exact h
 | succ j=>simp [cI] at hj
set_option maxRecDepth 100000 in
set_option maxHeartbeats 3200000 in
theorem dynamic_any (B n c:Nat) (A:Option Addr) (ts:List Tok) (w:World) (h:RdK w B A n ts) (hB:B≤w.heap.size) (hn:n≤50000) (hok:∀ t ∈ ts,TokOK t) :
  Calls Tryz.prog 121 #[.slice A n c] w fun e w'=>∃ g1 n1 c1 g2 n2 c2,e=.returned (.agg #[.slice (some ⟨g1,0,none⟩) n1 c1,.slice (some ⟨g2,0,none⟩) n2 c2])∧w.heap.size≤g1∧w.heap.size≤g2∧n1=(dynL ts).length∧n2=(dynD ts).length∧RdI w' w'.heap.size (some ⟨g1,0,none⟩) n1 (dynL ts)∧RdI w' w'.heap.size (some ⟨g2,0,none⟩) n2 (dynD ts)∧Below w.heap.size w w':=by
 have hl:=h.len
 have HWG:=Lib.hid (fun o=>weigh_any B n c A ts (w.alloc o) (h.alloc hB o) (by simp;omega) hn hok)
 have HLL:=Lib.hid (weighL_len ts)
 have HLD:=Lib.hid (weighD_len ts)
 have HRL:Hid (∀ x ∈ weighL ts,0≤x∧x≤1000000):=(show ∀ x ∈ _,_ from fun x hx=>by have:=weighL_rng ts x hx;omega)
 have HRD:Hid (∀ x ∈ weighD ts,0≤x∧x≤1000000):=(show ∀ x ∈ _,_ from fun x hx=>by have:=weighD_rng ts x hx;omega)
 have HDL:Hid (dynL ts=cutL (lensOf (weighL ts) 15) 257):=(show _=_ from rfl)
 have HDD:Hid (dynD ts=if (lensOf (weighD ts) 15).getD 0 0=0∧cutK (lensOf (weighD ts) 15) 1 30=1 then [1] else cutL (lensOf (weighD ts) 15) 1):=(show _=_ from rfl)
 have HL2:Hid ((lensOf (weighL ts) 15).length=286):=(show _=_ by rw [lensOf_length,HLL.out])
 have HD2:Hid ((lensOf (weighD ts) 15).length=30):=(show _=_ by rw [lensOf_length,HLD.out])
 clear h hok
 generalize weighL ts=wl at *
 generalize weighD ts=wd at *
 generalize dynL ts=dl at *
 generalize dynD ts=dd at *
 have HL1:=Lib.hid (fun (w2:World) (ga:Nat) (h:RdI w2 w2.heap.size (some ⟨ga,0,none⟩) 286 wl)=>lens_any w2.heap.size 286 286 _ wl 15 15 rfl w2 h (Nat.le_refl _) (by omega) (by omega) (by omega) (by omega) HRL.out (by decide))
 have HL3:=Lib.hid (fun (w2:World) (ga:Nat) (h:RdI w2 w2.heap.size (some ⟨ga,0,none⟩) 30 wd)=>lens_any w2.heap.size 30 30 _ wd 15 15 rfl w2 h (Nat.le_refl _) (by omega) (by omega) (by omega) (by omega) HRD.out (by decide))
 generalize lensOf wl 15=la at *
 generalize lensOf wd 15=lb at *
 have hm1:=cutK_ge lb 1 30 (by omega)
 have hm2:=cutK_le lb 1 30
 have HCB:Hid (cutL lb 1=lb.take (cutK lb 1 30)):=(show _=_ by unfold cutL;rw [HD2.out])
 have HCA:Hid (cutL la 257=la.take (cutK la 257 286)):=(show _=_ by unfold cutL;rw [HL2.out])
 have ha2:=cutK_le la 257 286
 have HCT:=Lib.hid (fun (w4:World) (gb c4:Nat) (h:RdI w4 w4.heap.size (some ⟨gb,0,none⟩) 30 lb) (q1:30≤c4) (q2:c4≤maxLen)=>cut_lit w4.heap.size 30 c4 _ lb 1 1 rfl w4 h (Nat.le_refl _) (by omega) (by omega) q1 q2)
 have HCU:=Lib.hid (fun (B:Nat) (w4:World) (gb c4:Nat) (h:RdI w4 B (some ⟨gb,0,none⟩) 286 la) (hB:B≤w4.heap.size) (q1:286≤c4) (q2:c4≤maxLen)=>cut_lit B 286 c4 _ la 257 257 rfl w4 h hB (by omega) (by omega) q1 q2)
 obtain ⟨m,hm⟩:∃ m,cutK lb 1 30=m:=⟨_,rfl⟩
 obtain ⟨q,hq⟩:∃ q,cutK la 257 286=q:=⟨_,rfl⟩
 rw [hm] at hm1 hm2 HCB HCT HDD
 rw [hq] at ha2 HCA HCU
 have hx0l:0 < lb.length:=by rw [HD2.out];omega
 obtain ⟨x0,hx0⟩:∃ x0,lb[0]=x0:=⟨_,rfl⟩
 have HX0:Hid (lb[0]?=some x0):=(show _=_ by rw [← hx0];exact List.getElem?_eq_getElem hx0l)
 have HG0:Hid (lb.getD 0 0=x0):=(show _=_ by rw [List.getD_eq_getElem?_getD,HX0.out];rfl)
 rw [HG0.out] at HDD
 have hA0:=Arr.new w [.slice none 0 0,.slice none 0 0] 152
 have HB0:=Lib.hid ((Below.refl w.heap.size w).alloc (Nat.le_refl _) (.cells #[Value.slice none 0 0,Value.slice none 0 0] 152))
 have HA0:=Lib.hid hA0
 clear hA0 HLL HLD HRL HRD hm hq
 go_enter Tryz.func121,Tryz.ntmps121
 go_upto_region 4 with (first
  | (go_at_call 152;(with_reducible refine (HWG.out _).mono ?_);go_must (rintro e w1 ⟨ga,gb,rfl,hra,hrb,hb1⟩;have HA1:=Lib.hid (HA0.out.later hb1);have HB1:=Lib.hid (HB0.out.trans (hb1.mono (by simp)));have HRA:=Lib.hid hra;have HRB:=Lib.hid hrb;have hz1:w.heap.size+1≤w1.heap.size:=(by have:=hb1.size;rwa [World.size_alloc] at this);clear hra hrb hb1))
  | (go_at_call 153;(with_reducible refine (HL1.out _ _ HRA.out).mono ?_);go_must (rintro e w2 ⟨g2,c2,rfl,q1,q2,hg2,ho2,hb2⟩;have HO2:=Lib.hid ho2;have HQ2:=Lib.hid (And.intro q1 q2);have HA2:=Lib.hid (HA1.out.later hb2);have HB2:=Lib.hid (HB1.out.trans (hb2.mono (by omega)));have HRB2:=Lib.hid (HRB.out.later hb2);have hz2:=hb2.size;clear ho2 hb2 q1 q2 HRA))
  | (go_at_call 153;(with_reducible refine (HL3.out _ _ HRB2.out).mono ?_);go_must (rintro e w3 ⟨g3,c3,rfl,q1,q2,hg3,ho3,hb3⟩;have HO3:=Lib.hid ho3;have HQ3:=Lib.hid (And.intro q1 q2);have HA3:=Lib.hid (HA2.out.later hb3);have HB3:=Lib.hid (HB2.out.trans (hb3.mono (by omega)));have HR2:=Lib.hid (RdI.blw HO2.out.rd hb3);have hz3:=hb3.size;have hg2w:=(World.ownsRow.lt HO2.out g2 rfl).2;have hg3w:=(World.ownsRow.lt ho3 g3 rfl).2;clear ho3 hb3 q1 q2 HRB2)))
 go_upto_region 5 with (go_at_call 154;(with_reducible refine (HCT.out _ _ _ HO3.out.rd HQ3.out.1 HQ3.out.2).mono ?_);go_must (rintro e w4 ⟨rfl,hb4⟩;have HA4:=Lib.hid (HA3.out.later hb4);have HB4:=Lib.hid (HB3.out.trans (hb4.mono (by omega)));have HO4:=Lib.hid (ownI.later HO3.out hb4);have c30:=ownI.cell HO4.out HD2.out.symm (k:=0) hx0l;have f30:=ownI.frozen HO4.out HD2.out.symm 0;rw [hx0] at c30;have HR4:=Lib.hid (RdI.blw HR2.out (hb4.mono hz3));have hz4:=hb4.size;have HRB4:=Lib.hid (RdI.cut (k:=0) (m:=m) (A':=some ⟨g3,0,none⟩) HO4.out.rd (by omega) (fun _=>rfl));clear hb4 HO3 HR2 HA3 HB3))
 have hm1i:(0:Int) < (m:Int):=by omega
 by_cases hx:x0=0
 ·have d1:(x0 == 0)=true:=by rw [hx];rfl
  by_cases h1:m=1
  ·subst h1
   have HDE:Hid (dd=[1]):=(show _=_ by rw [HDD.out,if_pos ⟨hx,rfl⟩])
   have HDN:Hid (1=([1]:List Int).length):=(show _=_ from rfl)
   have HR5:=Lib.hid (RdI.far HR4.out (p:=⟨g3,0,none⟩) (by show g2 ≠ g3;omega) (.int .i64 1))
   have HA5:=Lib.hid (HA4.out.far (p:=⟨g3,0,none⟩) (by show g3 ≠ w.heap.size;omega) (.int .i64 1))
   have HB5:=Lib.hid (HB4.out.setCell (p:=⟨g3,0,none⟩) (by show w.heap.size≤g3;omega) (.int .i64 1))
   have hz5:w2.heap.size≤(w4.setCell ⟨g3,0,none⟩ (.int .i64 1)).heap.size:=by simp;omega
   have HD5:Hid (RdI (w4.setCell ⟨g3,0,none⟩ (.int .i64 1)) (w4.setCell ⟨g3,0,none⟩ (.int .i64 1)).heap.size (some ⟨g3,0,none⟩) 1 [1]):=(show RdI _ _ _ _ _ from by
    have h5:=HO4.out.store HD2.out.symm 0 1
    have h6:=ownI.cell h5 (by rw [List.length_set];exact HD2.out.symm) (k:=0) (by rw [List.length_set];exact hx0l)
    rw [List.getElem_set_self] at h6
    exact rd_one1 (by simp;omega) h6)
   generalize hw5:w4.setCell ⟨g3,0,none⟩ (.int .i64 1)=w5 at *
   go_wp2_with fail
   (try simp only [hw5])
   go_wp2_with ((go_at_call 154;(with_reducible refine (HCU.out _ _ _ _ HR5.out (by omega) HQ2.out.1 HQ2.out.2).mono ?_);go_must (rintro e w6 ⟨rfl,hb6⟩;have HA6:=Lib.hid (Arr.later HA5.out hb6);have c60:=HA6.out.cell (k:=0) rfl;have c61:=HA6.out.cell (k:=1) rfl;have f60:=HA6.out.frozen 0;have f61:=HA6.out.frozen 1;have HB6:=Lib.hid (HB5.out.trans (hb6.mono (by omega)));have HD6:=Lib.hid (RdI.later HD5.out hb6);have HL6:=Lib.hid (RdI.here (RdI.blw (RdI.cut (k:=0) (m:=q) (A':=some ⟨g2,0,none⟩) HR5.out (by omega) (fun _=>rfl)) (hb6.mono (by omega))));clear hb6)))
   refine bodyPost_ret (v:=.agg #[.slice (some ⟨g2,0,none⟩) q c2,.slice (some ⟨g3,0,none⟩) 1 c3]) ?_ rfl ?_
   ·unfold results
    go_simp
   ·refine ⟨_,q,c2,_,1,c3,rfl,by omega,by omega,?_,?_,?_,?_,?_⟩
    ·rw [HDL.out,HCA.out,List.length_take,HL2.out];omega
    ·rw [HDE.out];exact HDN.out
    ·rw [HDL.out,HCA.out]
     have:=RdI.far (RdI.far HL6.out (p:=⟨w.heap.size,0,none⟩) (by show g2 ≠ w.heap.size;omega) (.slice (some ⟨g2,0,none⟩) q c2)) (p:=⟨w.heap.size,1,none⟩) (by show g2 ≠ w.heap.size;omega) (.slice (some ⟨g3,0,none⟩) 1 c3)
     simpa using this
    ·rw [HDE.out]
     have:=RdI.far (RdI.far HD6.out (p:=⟨w.heap.size,0,none⟩) (by show g3 ≠ w.heap.size;omega) (.slice (some ⟨g2,0,none⟩) q c2)) (p:=⟨w.heap.size,1,none⟩) (by show g3 ≠ w.heap.size;omega) (.slice (some ⟨g3,0,none⟩) 1 c3)
     simpa using this
    ·exact (HB6.out.setCell (p:=⟨w.heap.size,0,none⟩) (Nat.le_refl _) _).setCell (p:=⟨w.heap.size,1,none⟩) (Nat.le_refl _) _
  ·have hxm:¬ (x0=0∧m=1):=fun e=>h1 e.2
   have d2:((m:Int) == 1)=false:=beq_eq_false_iff_ne.2 (by omega)
   have HDE:Hid (dd=lb.take m):=(show _=_ by rw [HDD.out,if_neg hxm,HCB.out])
   have HDN:Hid (m=(lb.take m).length):=(show _=_ by rw [List.length_take,HD2.out];omega)
   have HR5:=Lib.hid HR4.out
   have HA5:=Lib.hid HA4.out
   have HB5:=Lib.hid HB4.out
   have HD5:Hid (RdI w4 w4.heap.size (some ⟨g3,0,none⟩) m (lb.take m)):=HRB4
   have hz5:w2.heap.size≤w4.heap.size:=by omega
   go_wp2_with ((go_at_call 154;(with_reducible refine (HCU.out _ _ _ _ HR5.out (by omega) HQ2.out.1 HQ2.out.2).mono ?_);go_must (rintro e w6 ⟨rfl,hb6⟩;have HA6:=Lib.hid (Arr.later HA5.out hb6);have c60:=HA6.out.cell (k:=0) rfl;have c61:=HA6.out.cell (k:=1) rfl;have f60:=HA6.out.frozen 0;have f61:=HA6.out.frozen 1;have HB6:=Lib.hid (HB5.out.trans (hb6.mono (by omega)));have HD6:=Lib.hid (RdI.later HD5.out hb6);have HL6:=Lib.hid (RdI.here (RdI.blw (RdI.cut (k:=0) (m:=q) (A':=some ⟨g2,0,none⟩) HR5.out (by omega) (fun _=>rfl)) (hb6.mono (by omega))));clear hb6)))
   refine bodyPost_ret (v:=.agg #[.slice (some ⟨g2,0,none⟩) q c2,.slice (some ⟨g3,0,none⟩) m c3]) ?_ rfl ?_
   ·unfold results
    go_simp
   ·refine ⟨_,q,c2,_,m,c3,rfl,by omega,by omega,?_,?_,?_,?_,?_⟩
    ·rw [HDL.out,HCA.out,List.length_take,HL2.out];omega
    ·rw [HDE.out];exact HDN.out
    ·rw [HDL.out,HCA.out]
     have:=RdI.far (RdI.far HL6.out (p:=⟨w.heap.size,0,none⟩) (by show g2 ≠ w.heap.size;omega) (.slice (some ⟨g2,0,none⟩) q c2)) (p:=⟨w.heap.size,1,none⟩) (by show g2 ≠ w.heap.size;omega) (.slice (some ⟨g3,0,none⟩) m c3)
     simpa using this
    ·rw [HDE.out]
     have:=RdI.far (RdI.far HD6.out (p:=⟨w.heap.size,0,none⟩) (by show g3 ≠ w.heap.size;omega) (.slice (some ⟨g2,0,none⟩) q c2)) (p:=⟨w.heap.size,1,none⟩) (by show g3 ≠ w.heap.size;omega) (.slice (some ⟨g3,0,none⟩) m c3)
     simpa using this
    ·exact (HB6.out.setCell (p:=⟨w.heap.size,0,none⟩) (Nat.le_refl _) _).setCell (p:=⟨w.heap.size,1,none⟩) (Nat.le_refl _) _
 ·have hxm:¬ (x0=0∧m=1):=fun e=>hx e.1
  have d1:(x0 == 0)=false:=beq_eq_false_iff_ne.2 hx
  have HDE:Hid (dd=lb.take m):=(show _=_ by rw [HDD.out,if_neg hxm,HCB.out])
  have HDN:Hid (m=(lb.take m).length):=(show _=_ by rw [List.length_take,HD2.out];omega)
  have HR5:=Lib.hid HR4.out
  have HA5:=Lib.hid HA4.out
  have HB5:=Lib.hid HB4.out
  have HD5:Hid (RdI w4 w4.heap.size (some ⟨g3,0,none⟩) m (lb.take m)):=HRB4
  have hz5:w2.heap.size≤w4.heap.size:=by omega
  go_wp2_with ((go_at_call 154;(with_reducible refine (HCU.out _ _ _ _ HR5.out (by omega) HQ2.out.1 HQ2.out.2).mono ?_);go_must (rintro e w6 ⟨rfl,hb6⟩;have HA6:=Lib.hid (Arr.later HA5.out hb6);have c60:=HA6.out.cell (k:=0) rfl;have c61:=HA6.out.cell (k:=1) rfl;have f60:=HA6.out.frozen 0;have f61:=HA6.out.frozen 1;have HB6:=Lib.hid (HB5.out.trans (hb6.mono (by omega)));have HD6:=Lib.hid (RdI.later HD5.out hb6);have HL6:=Lib.hid (RdI.here (RdI.blw (RdI.cut (k:=0) (m:=q) (A':=some ⟨g2,0,none⟩) HR5.out (by omega) (fun _=>rfl)) (hb6.mono (by omega))));clear hb6)))
  refine bodyPost_ret (v:=.agg #[.slice (some ⟨g2,0,none⟩) q c2,.slice (some ⟨g3,0,none⟩) m c3]) ?_ rfl ?_
  ·unfold results
   go_simp
  ·refine ⟨_,q,c2,_,m,c3,rfl,by omega,by omega,?_,?_,?_,?_,?_⟩
   ·rw [HDL.out,HCA.out,List.length_take,HL2.out];omega
   ·rw [HDE.out];exact HDN.out
   ·rw [HDL.out,HCA.out]
    have:=RdI.far (RdI.far HL6.out (p:=⟨w.heap.size,0,none⟩) (by show g2 ≠ w.heap.size;omega) (.slice (some ⟨g2,0,none⟩) q c2)) (p:=⟨w.heap.size,1,none⟩) (by show g2 ≠ w.heap.size;omega) (.slice (some ⟨g3,0,none⟩) m c3)
    simpa using this
   ·rw [HDE.out]
    have:=RdI.far (RdI.far HD6.out (p:=⟨w.heap.size,0,none⟩) (by show g3 ≠ w.heap.size;omega) (.slice (some ⟨g2,0,none⟩) q c2)) (p:=⟨w.heap.size,1,none⟩) (by show g3 ≠ w.heap.size;omega) (.slice (some ⟨g3,0,none⟩) m c3)
    simpa using this
   ·exact (HB6.out.setCell (p:=⟨w.heap.size,0,none⟩) (Nat.le_refl _) _).setCell (p:=⟨w.heap.size,1,none⟩) (Nat.le_refl _) _
end Go.Proofs.YtebbdifhiihfkaaGreatDoor

/- flate: codes' rows beside a writer; what tokens are in bits. -/
namespace Go.Proofs.YtebbdifhiihfkaaGreatDoor
set_option linter.all false
open Go.RowKit
/-- A list's codes may be written. -/
def CodesOK (ls:List Int):Prop:=ls.length≤300∧badL ls=false∧krN ls≤32768
theorem CodesOK.cd {ls:List Int} (h:CodesOK ls):cdE ls=0∧cdL ls=codesL ls:=by
 have h1:krE ls=0:=by unfold krE;rw [if_neg];intro e;rcases e with e | e;have:=h.1;omega;rw [h.2.1] at e;cases e
 have h2:cdE ls=0:=by unfold cdE;rw [if_pos h1,if_neg (by have:=h.2.2;omega)]
 exact ⟨h2,by unfold cdL;rw [if_pos h2]⟩
theorem codesL_get {ls:List Int} {p:Nat} (h:p < (codesL ls).length):(codesL ls)[p]=codeAt ls p:=by simp [codesL]
theorem codes_ok (B n c:Nat) (A:Option Addr) (ls:List Int) (w:World) (h:RdI w B A n ls) (hB:B≤w.heap.size) (hn:1≤n) (hok:CodesOK ls) :
  Calls Tryz.prog 148 #[.slice A n c] w fun e w'=>∃ g c',e=.returned (.tuple #[.slice (some ⟨g,0,none⟩) n c',.int .i64 0])∧w.heap.size≤g∧ownC w' w.heap.size (.slice (some ⟨g,0,none⟩) n c') (codesL ls)∧Below w.heap.size w w':=by
 have hl:=h.len
 refine (codes_any B n c A ls w h hB (by have:=hok.1;omega)).mono ?_
 rintro e w' ⟨A',n',c',rfl,hn',ho,hb⟩
 rw [hok.cd.2] at ho hn'
 rw [codesL_len,hl] at hn'
 subst hn'
 obtain ⟨_,g,rfl,hg,_⟩:=ho.pos (by omega)
 exact ⟨g,c',by rw [hok.cd.1],hg,ho,hb⟩
theorem fcode_at (g:Nat) (ls:List Int) (p:Nat) (hp:p < ls.length) (hok:CodesOK ls) (pv:Value) (bs:List UInt8) (L:List Nat) (w:World) (h:Wr w g pv bs L) (hb:L.length+15≤1000000) :
  Calls Tryz.prog 149 #[wrV g,.agg #[.int .u32 ((codeAt ls p).1:Int),.int .i64 (codeAt ls p).2]] w fun e w'=>e=.returned (.tuple #[])∧∃ pv' bs',Wr w' g pv' bs' (L ++ codeB ls p)∧WrFr w w' g pv pv':=by
 obtain ⟨t,ht,e,hv⟩:=codeAt_ok hok.2.1 hok.2.2 p hp
 unfold codeB
 rw [e]
 exact fcode_any g (codeAt ls p).1 t pv bs L w h (by omega) (by omega) hv
theorem codeB_le {ls:List Int} {p:Nat} (hp:p < ls.length) (hok:CodesOK ls):(codeB ls p).length≤15:=by
 obtain ⟨t,ht,e,hv⟩:=codeAt_ok hok.2.1 hok.2.2 p hp
 unfold codeB
 rw [e,msb_len]
 exact ht
/-- The cells of a row of codes beside a writer. -/
def CodeCells (w:World) (g1:Nat) (ls:List Int):Prop:=∀ p,p < ls.length→w.cell? ⟨g1,p * 2,none⟩=some (.int .u32 ((codeAt ls p).1:Int))∧w.cell? ⟨g1,p * 2+1,none⟩=some (.int .i64 (codeAt ls p).2)
theorem CodeCells.of {w:World} {base g1 n c:Nat} {ls:List Int} (h:ownC w base (.slice (some ⟨g1,0,none⟩) n c) (codesL ls)) (hn:n=ls.length):CodeCells w g1 ls:=by
 intro p hp
 have hp':p < (codesL ls).length:=by rw [codesL_len];exact hp
 have:=ownC.cell h (by rw [codesL_len];exact hn) (k:=p) hp'
 rw [codesL_get hp'] at this
 exact this
theorem CodeCells.bx {w w':World} {g g1:Nat} {pv pv':Value} {ls:List Int} (h:CodeCells w g1 ls) (hx:Bx w g pv g1) (hf:WrFr w w' g pv pv'):CodeCells w' g1 ls :=
 fun p hp=>⟨hx.cell hf (h p hp).1,hx.cell hf (h p hp).2⟩
theorem CodeCells.later {w w':World} {g1:Nat} {ls:List Int} (h:CodeCells w g1 ls) (hg:g1 < w.heap.size) (hb:Below w.heap.size w w'):CodeCells w' g1 ls :=
 fun p hp=>⟨(World.cell?_of_block (a:=⟨g1,p * 2,none⟩) (hb.block g1 hg)).trans (h p hp).1,(World.cell?_of_block (a:=⟨g1,p * 2+1,none⟩) (hb.block g1 hg)).trans (h p hp).2⟩
theorem Wr.later {w w':World} {g:Nat} {pv:Value} {bs:List UInt8} {L:List Nat} (h:Wr w g pv bs L) (hb:Below w.heap.size w w'):Wr w' g pv bs L:=⟨h.1.later hb,h.2.1.later hb,h.2.2⟩
theorem Bx.of {w w':World} {g b:Nat} {pv:Value} {bs:List UInt8} {L:List Nat} (h:Wr w g pv bs L) (hb:w.heap.size≤b) (hlt:b < w'.heap.size):Bx w' g pv b:=by
 refine ⟨hlt,?_,fun e=>?_⟩
 ·have:=h.1.lt;omega
 ·have:=(World.ownsRow.lt h.2.1 _ e).2;omega
theorem WrFr.of {w w':World} {g:Nat} {pv:Value} (hb:Below w.heap.size w w'):WrFr w w' g pv pv:=⟨hb.os,hb.tape,hb.output,hb.size,fun k hk _ _=>hb.block k hk,.inl rfl⟩
/-- A token's bits. -/
def tokB (ll dd:List Int) (t:Tok):List Nat :=
 if t.1=0 then codeB ll t.2.2
 else codeB ll (257+lenS t.1) ++ lsb (t.1 - (lenOf (lenS t.1)).1) (lenOf (lenS t.1)).2 ++ codeB dd (distS t.2.1) ++ lsb (t.2.1 - (distOf (distS t.2.1)).1) (distOf (distS t.2.1)).2
def toksB (ll dd:List Int) (ts:List Tok):List Nat:=ts.flatMap (tokB ll dd) ++ codeB ll 256
/-- The codes that tokens want are there. -/
def TokIn (ll dd:List Int) (t:Tok):Prop:=symT t < ll.length∧∀ p ∈ dstT t,p < dd.length
theorem lenOf_fit {k x:Nat} (hk:k≤28) (h1:(lenOf k).1≤x) (h2:∀ j,k < j→j≤28→x < (lenOf j).1) (h3:x≤258):x - (lenOf k).1 < 2 ^ (lenOf k).2:=by
 have key:∀ k,k≤28→(k=28→x≤258)→(k < 28→x < (lenOf (k+1)).1)→(lenOf k).1≤x→x - (lenOf k).1 < 2 ^ (lenOf k).2:=by
  intro k hk h1 h2 h3
  rcases le28 hk with rfl | rfl | rfl | rfl | rfl | rfl | rfl | rfl | rfl | rfl | rfl | rfl | rfl | rfl | rfl | rfl | rfl | rfl | rfl | rfl | rfl | rfl | rfl | rfl | rfl | rfl | rfl | rfl | rfl <;>
   ·simp [lenOf,grp] at h1 h2 h3 ⊢;omega
 exact key k hk (fun _=>h3) (fun e=>h2 (k+1) (by omega) (by omega)) h1
theorem distOf_fit {k x:Nat} (hk:k≤29) (h1:(distOf k).1≤x) (h2:∀ j,k < j→j≤29→x < (distOf j).1) (h3:x≤32768):x - (distOf k).1 < 2 ^ (distOf k).2:=by
 have key:∀ k,k≤29→(k=29→x≤32768)→(k < 29→x < (distOf (k+1)).1)→(distOf k).1≤x→x - (distOf k).1 < 2 ^ (distOf k).2:=by
  intro k hk h1 h2 h3
  rcases le29 hk with rfl | rfl | rfl | rfl | rfl | rfl | rfl | rfl | rfl | rfl | rfl | rfl | rfl | rfl | rfl | rfl | rfl | rfl | rfl | rfl | rfl | rfl | rfl | rfl | rfl | rfl | rfl | rfl | rfl | rfl <;>
   ·simp [distOf,grp] at h1 h2 h3 ⊢;omega
 exact key k hk (fun _=>h3) (fun e=>h2 (k+1) (by omega) (by omega)) h1
theorem lenS_fit {x:Nat} (h:3≤x) (h3:x≤258):x - (lenOf (lenS x)).1 < 2 ^ (lenOf (lenS x)).2:=by
 have:=lenS_spec h
 exact lenOf_fit this.1 this.2.1 this.2.2 h3
theorem distS_fit {x:Nat} (h:1≤x) (h3:x≤32768):x - (distOf (distS x)).1 < 2 ^ (distOf (distS x)).2:=by
 have:=distS_spec h
 exact distOf_fit this.1 this.2.1 this.2.2 h3
theorem tokB_le {ll dd:List Int} (h1:CodesOK ll) (h2:CodesOK dd) {t:Tok} (hok:TokOK t) (hin:TokIn ll dd t):(tokB ll dd t).length≤if t.1=0 then 15 else 48:=by
 unfold tokB
 by_cases e:t.1=0
 ·rw [if_pos e,if_pos e]
  have:=hin.1
  unfold symT at this
  rw [if_pos e] at this
  exact codeB_le this h1
 ·rw [if_neg e,if_neg e]
  obtain ⟨h3,h4,h5,h6⟩:3≤t.1∧t.1≤258∧1≤t.2.1∧t.2.1≤32768:=by rcases hok with ⟨h,_⟩ | h;exact absurd h e;exact h
  have hs:=hin.1
  unfold symT at hs
  rw [if_neg e] at hs
  have hd:=hin.2 (distS t.2.1) (by unfold dstT;rw [if_neg e];simp)
  have q1:=codeB_le hs h1
  have q2:=codeB_le hd h2
  have q3:=lenOf_le (lenS_spec h3).1
  have q4:=distOf_le (distS_spec h5).1
  rw [List.length_append,List.length_append,List.length_append,lsb_len,lsb_len]
  omega
end Go.Proofs.YtebbdifhiihfkaaGreatDoor

/- flate: tokens written. -/
namespace Go.Proofs.YtebbdifhiihfkaaGreatDoor
set_option linter.all false
open Go.RowKit
theorem toks_take {ll dd:List Int} {ts:List Tok} {k:Nat} {t:Tok} (h:ts[k]?=some t):(ts.take (k+1)).flatMap (tokB ll dd)=(ts.take k).flatMap (tokB ll dd) ++ tokB ll dd t:=take_flat_snoc _ h
theorem take_sub {α:Type} {P:α→Prop} {l:List α} (h:∀ x ∈ l,P x) (k:Nat):∀ x ∈ l.take k,P x:=fun x hx=>h x (List.mem_of_mem_take hx)
set_option maxRecDepth 100000 in
set_option maxHeartbeats 6400000 in
theorem tokens_any (B n c nl cl nd cd g:Nat) (A Al Ad:Option Addr) (ts:List Tok) (ll dd:List Int) (pv:Value) (bs:List UInt8) (L:List Nat) (w:World)
  (hW:Wr w g pv bs L) (h:RdK w B A n ts) (hll:RdI w B Al nl ll) (hdd:RdI w B Ad nd dd) (hB:B≤g) (hn:n≤50000)
  (hok:∀ t ∈ ts,TokOK t∧TokIn ll dd t) (hol:CodesOK ll) (hod:CodesOK dd) (h256:256 < nl) (hnd:1≤nd) (hmax:∀ k,k≤n→L.length+((ts.take k).flatMap (tokB ll dd)).length+100≤1000000) :
  Calls Tryz.prog 120 #[wrV g,.slice A n c,.agg #[.slice Al nl cl,.slice Ad nd cd]] w fun e w'=>e=.returned (.tuple #[])∧∃ pv' bs',Wr w' g pv' bs' (L ++ toksB ll dd ts)∧WrFr w w' g pv pv':=by
 have HR:=Lib.hid h
 have HOK:=Lib.hid hok
 have HOL:=Lib.hid hol
 have HOD:=Lib.hid hod
 have HMX:=Lib.hid hmax
 have hl:=h.len
 have hll2:=hll.len
 have hdd2:=hdd.len
 have hgw:=hW.1.lt
 have HPB:Hid (∀ k,pv.ownBlock=some k→B≤k):=(show ∀ k,_ from fun k hk=>by have:=(World.ownsRow.lt hW.2.1 k hk).1;omega)
 have HC1:=Lib.hid (codes_ok B nl cl Al ll ((w.alloc (.cells #[.pointer (some ⟨g,0,none⟩)] 155)).alloc (.cells #[.slice Al nl cl,.slice Ad nd cd] 152)) ((hll.alloc (by omega) _).alloc (by rw [World.size_alloc];omega) _) (by rw [World.size_alloc,World.size_alloc];omega) (by omega) hol)
 have HW2:=Lib.hid ((hW.alloc (.cells #[.pointer (some ⟨g,0,none⟩)] 155)).alloc (.cells #[.slice Al nl cl,.slice Ad nd cd] 152))
 have HX0:=Lib.hid ((Bx.new hW (.cells #[.pointer (some ⟨g,0,none⟩)] 155)).alloc (.cells #[.slice Al nl cl,.slice Ad nd cd] 152))
 have HA0:=Lib.hid ((Arr.new w [.pointer (some ⟨g,0,none⟩)] 155).alloc (.cells #[.slice Al nl cl,.slice Ad nd cd] 152))
 have HA1:Hid (Arr ((w.alloc (.cells #[.pointer (some ⟨g,0,none⟩)] 155)).alloc (.cells #[.slice Al nl cl,.slice Ad nd cd] 152)) (w.heap.size+1) [.slice Al nl cl,.slice Ad nd cd]):=(show Arr _ _ _ by have:=Arr.new (w.alloc (.cells #[.pointer (some ⟨g,0,none⟩)] 155)) [.slice Al nl cl,.slice Ad nd cd] 152;rwa [World.size_alloc] at this)
 have HF2:=Lib.hid (((WrFr.refl w g pv).alloc (.cells #[.pointer (some ⟨g,0,none⟩)] 155)).alloc (.cells #[.slice Al nl cl,.slice Ad nd cd] 152))
 have HD2:=Lib.hid ((hdd.alloc (by omega) (.cells #[.pointer (some ⟨g,0,none⟩)] 155)).alloc (by rw [World.size_alloc];omega) (.cells #[.slice Al nl cl,.slice Ad nd cd] 152))
 have HR2:=Lib.hid ((h.alloc (by omega) (.cells #[.pointer (some ⟨g,0,none⟩)] 155)).alloc (by rw [World.size_alloc];omega) (.cells #[.slice Al nl cl,.slice Ad nd cd] 152))
 have HS2:Hid (((w.alloc (.cells #[.pointer (some ⟨g,0,none⟩)] 155)).alloc (.cells #[.slice Al nl cl,.slice Ad nd cd] 152)).heap.size=w.heap.size+2):=(show _=_ by rw [World.size_alloc,World.size_alloc])
 clear hW h hll hdd hok hol hod hmax
 go_enter Tryz.func120,Tryz.ntmps120
 go_upto_region 3 with (first
  | (go_at_call 148;(with_reducible refine HC1.out.mono ?_);go_must (rintro e w3 ⟨g3,c3,rfl,hg3,ho3,hb3⟩;have hz3:=hb3.size;rw [HS2.out] at hz3 hg3;have hg3w:=(World.ownsRow.lt ho3 g3 rfl).2;have HCC3:=Lib.hid (CodeCells.of ho3 hll2.symm);have HW3:=Lib.hid (HW2.out.later hb3);have HX3:=Lib.hid (Bx.of HW2.out (w':=w3) (b:=g3) (by rw [HS2.out];omega) hg3w);have hf3:=(WrFr.of (g:=g) (pv:=pv) hb3);have HX03:=Lib.hid (HX0.out.wr hf3);have HA03:=Lib.hid (HA0.out.wr HX0.out hf3);have HA13:=HA1.out.later hb3;have c31:=HA13.cell (k:=1) rfl;have HF3:=Lib.hid (HF2.out.trans hf3);have HC2:=Lib.hid (codes_ok B nd cd Ad dd w3 (RdI.blw HD2.out (hb3.mono (by rw [HS2.out];omega))) (by omega) hnd HOD.out);have HR3:=Lib.hid (RdK.blw HR2.out (hb3.mono (by rw [HS2.out];omega)));clear ho3 hb3 hf3 HC1 HW2 HX0 HA0 HA1 HF2 HD2 HR2 HA13))
  | (go_at_call 148;(with_reducible refine HC2.out.mono ?_);go_must (rintro e w4 ⟨g4,c4,rfl,hg4,ho4,hb4⟩;have hz4:=hb4.size;have hg4w:=(World.ownsRow.lt ho4 g4 rfl).2;have HDD4:=Lib.hid (CodeCells.of ho4 hdd2.symm);have HCC4:=Lib.hid (HCC3.out.later hg3w hb4);have HW4:=Lib.hid (HW3.out.later hb4);have hf4:=(WrFr.of (g:=g) (pv:=pv) hb4);have HX4:=Lib.hid (HX3.out.wr hf4);have HY4:=Lib.hid (Bx.of HW3.out (w':=w4) (b:=g4) hg4 hg4w);have HX04:=Lib.hid (HX03.out.wr hf4);have HA04:=Lib.hid (HA03.out.wr HX03.out hf4);have HF4:=Lib.hid (HF3.out.trans hf4);have HR4:=Lib.hid (RdK.blw HR3.out (hb4.mono (by omega)));clear ho4 hb4 hf4 HC2 HCC3 HW3 HX3 HX03 HA03 HF3 HR3 c31)))
 clear HS2
 have HL0:Hid (L ++ (ts.take 0).flatMap (tokB ll dd)=L):=(show _=_ by simp)
 go_wp2_with fail
 go_loopw [29] (fun vi wr=>∃ k:Nat,k≤n∧vi=.int .i64 k∧∃ pq bq,Hid (Wr wr g pq bq (L ++ (ts.take k).flatMap (tokB ll dd)))∧Hid (WrFr w4 wr g pv pq)) (fun vi _=>n - (intOf vi).toNat)
 case atStart=>exact ⟨0,Nat.zero_le _,rfl,pv,bs,(show Wr _ _ _ _ _ by rw [HL0.out];exact HW4.out),WrFr.refl _ _ _⟩
 case round =>
  clear HW4 HL0
  obtain ⟨k,hk,rfl,pq,bq,HW,HF⟩:=hrel
  have hszr:=HF.out.size
  by_cases hlt:k < n
  ·have hlti:(k:Int) < (n:Int):=by omega
   obtain ⟨b,o,⟨a,d,y⟩,rfl,hb,HX,e1,e2,e3⟩:=(HR4.out.blw (HF.out.below (B:=B) (by omega) hB HPB.out)).one hlt
   have hok:=HOK.out _ (List.mem_of_getElem? HX.out)
   have HST:Hid (L ++ (ts.take (k+1)).flatMap (tokB ll dd)=L ++ (ts.take k).flatMap (tokB ll dd) ++ tokB ll dd (a,d,y)):=(show _=_ by rw [toks_take HX.out,List.append_assoc])
   have hmx:=HMX.out k hk
   have hlenk:(L ++ (ts.take k).flatMap (tokB ll dd)).length+100≤1000000:=by rw [List.length_append];omega
   generalize L ++ (ts.take k).flatMap (tokB ll dd)=LL at *
   have hbN:¬ b=wr.heap.size:=by omega
   obtain ⟨w5,hw5⟩:∃ w5,wr.alloc (.cells #[.int .i64 (a:Int),.int .i64 (d:Int),.int .i64 (y:Int)] 184)=w5:=⟨_,rfl⟩
   obtain ⟨b5,hb5⟩:∃ b5,wr.heap.size=b5:=⟨_,rfl⟩
   have HW5:Hid (Wr w5 g pq bq LL):=(show Wr _ _ _ _ _ by rw [← hw5];exact HW.out.alloc _)
   have HF5:Hid (WrFr w4 w5 g pv pq):=(show WrFr _ _ _ _ _ by rw [← hw5];exact HF.out.alloc _)
   have HT5:Hid (Arr w5 b5 [.int .i64 (a:Int),.int .i64 (d:Int),.int .i64 (y:Int)]):=(show Arr _ _ _ by rw [← hw5,← hb5];exact Arr.new wr [.int .i64 (a:Int),.int .i64 (d:Int),.int .i64 (y:Int)] _)
   have HXT5:Hid (Bx w5 g pq b5):=(show Bx _ _ _ _ by rw [← hw5,← hb5];exact Bx.new HW.out _)
   have HX05:=Lib.hid (HX04.out.wr HF5.out)
   have c50:=(HA04.out.wr HX04.out HF5.out).cell (k:=0) rfl
   have t50:=HT5.out.cell (k:=0) rfl
   have t51:=HT5.out.cell (k:=1) rfl
   have t52:=HT5.out.cell (k:=2) rfl
   clear HW HF
   by_cases ha:a=0
   ·have d1:((a:Int) == 0)=true:=by rw [ha];rfl
    have hw5z:wr.alloc (.cells #[.int .i64 0,.int .i64 (d:Int),.int .i64 (y:Int)] 184)=w5:=by rw [← hw5,ha];rfl
    have hy:y < ll.length:=by have:=hok.2.1;unfold symT at this;rw [if_pos ha] at this;exact this
    have hyn:(y:Int) < (nl:Int):=by omega
    have htk:tokB ll dd (a,d,y)=codeB ll y:=if_pos ha
    rw [htk] at HST
    obtain ⟨q1,q2⟩:=HCC4.out.bx HX4.out HF5.out y hy
    have HC:=Lib.hid (fcode_at g ll y hy HOL.out _ _ _ _ HW5.out.drew (by omega))
    generalize codeAt ll y=cv at *
    go_wp2_with fail
    go_still_tail 6,(by kernel_rfl)
    go_wp2_with ((go_at_call 149;(with_reducible refine HC.out.mono ?_);go_must (rintro e w6 ⟨rfl,p6,bs6,hw6,hf6⟩;rw [← HST.out] at hw6;have HW6:=Lib.hid hw6;have HF6:=Lib.hid (HF5.out.drew.trans hf6);clear hw6 hf6)))
    go_roundw
    case rel=>exact ⟨k+1,by omega,by go_num,p6,bs6,HW6,HF6⟩
    case measure=>simp [intOf];omega
   ·have d1:((a:Int) == 0)=false:=beq_eq_false_iff_ne.2 (by omega)
    obtain ⟨h3,h4,h5,h6⟩:3≤a∧a≤258∧1≤d∧d≤32768:=by rcases hok.1 with ⟨h,_⟩ | h;exact absurd h ha;exact h
    have hs9:257+lenS a < ll.length:=by have:=hok.2.1;unfold symT at this;rw [if_neg ha] at this;exact this
    have hd9:distS d < dd.length:=hok.2.2 (distS d) (by unfold dstT;rw [if_neg ha];simp)
    have htk:tokB ll dd (a,d,y)=codeB ll (257+lenS a) ++ lsb (a - (lenOf (lenS a)).1) (lenOf (lenS a)).2 ++ codeB dd (distS d) ++ lsb (d - (distOf (distS d)).1) (distOf (distS d)).2:=if_neg ha
    rw [htk] at HST
    have hfit1:=lenS_fit h3 h4
    have hfit2:=distS_fit h5 h6
    have hb1:=(lenOf_le (lenS_spec h3).1).2
    have hb2:=(distOf_le (distS_spec h5).1).2
    obtain ⟨s,hs⟩:∃ s,257+lenS a=s:=⟨_,rfl⟩
    obtain ⟨q,hq⟩:∃ q,distS d=q:=⟨_,rfl⟩
    obtain ⟨m1,hm1⟩:∃ m1,(lenOf (lenS a)).2=m1:=⟨_,rfl⟩
    obtain ⟨m2,hm2⟩:∃ m2,(distOf (distS d)).2=m2:=⟨_,rfl⟩
    obtain ⟨r1,hr1⟩:∃ r1,a - (lenOf (lenS a)).1=r1:=⟨_,rfl⟩
    obtain ⟨r2,hr2⟩:∃ r2,d - (distOf (distS d)).1=r2:=⟨_,rfl⟩
    have HS1:=Lib.hid (fun w=>symbol_at a s m1 r1 h3 h4 hs hm1 hr1 w)
    have HS2:=Lib.hid (fun w=>distance_at d q m2 r2 h5 h6 hq hm2 hr2 w)
    rw [hs] at hs9 HST
    rw [hm1] at hfit1 hb1 HST
    rw [hr1] at hfit1 HST
    rw [hm2] at hfit2 hb2 HST
    rw [hr2] at hfit2 HST
    rw [hq] at hd9 HST
    rw [← List.append_assoc,← List.append_assoc,← List.append_assoc] at HST
    clear hs hq hm1 hm2 hr1 hr2 htk hok
    have hsn:(s:Int) < (nl:Int):=by omega
    have hqn:(q:Int) < (nd:Int):=by omega
    obtain ⟨q1,q2⟩:=HCC4.out.bx HX4.out HF5.out s hs9
    have hcl1:=codeB_le hs9 HOL.out
    have hcl2:=codeB_le hd9 HOD.out
    have HC:=Lib.hid (fcode_at g ll s hs9 HOL.out _ _ _ _ HW5.out.drew (by omega))
    generalize codeAt ll s=cv at *
    go_wp2_with (go_at_call 150;(with_reducible refine (HS1.out _).mono ?_);go_must (rintro e w9 ⟨rfl,rfl⟩))
    go_still_tail 5,(by kernel_rfl)
    go_wp2_with (first
     | (go_at_call 149;(with_reducible refine HC.out.mono ?_);go_must (rintro e w6 ⟨rfl,p6,bs6,hw6,hf6⟩;have HT6:=Lib.hid (HT5.out.drew.wr HXT5.out.drew hf6);have HXT6:=Lib.hid (HXT5.out.drew.wr hf6);have HF6:=Lib.hid (HF5.out.drew.trans hf6);have c60:=(HA04.out.wr HX04.out HF6.out).cell (k:=0) rfl;have t61:=HT6.out.cell (k:=1) rfl;have HP:=Lib.hid (fput_lit g (r1:Int) (m1:Int) r1 m1 rfl rfl _ _ _ _ hw6 (by rw [List.length_append];omega) (by omega) hfit1);clear hw6 hf6))
     | (go_at_call 147;(with_reducible refine HP.out.mono ?_);go_must (rintro e w7 ⟨rfl,p7,bs7,hw7,hf7⟩;have HW7:=Lib.hid hw7;have HT7:=Lib.hid (HT6.out.wr HXT6.out hf7);have HXT7:=Lib.hid (HXT6.out.wr hf7);have HF7:=Lib.hid (HF6.out.trans hf7);have c70:=(HA04.out.wr HX04.out HF7.out).cell (k:=0) rfl;have t71:=HT7.out.cell (k:=1) rfl;clear hw7 hf7))
     | (go_at_call 151;(with_reducible refine (HS2.out _).mono ?_);go_must (rintro e w9 ⟨rfl,rfl⟩)))
    obtain ⟨k1,k2⟩:=HDD4.out.bx HY4.out HF7.out q hd9
    have HC2:=Lib.hid (fcode_at g dd q hd9 HOD.out _ _ _ _ HW7.out.drew (by rw [List.length_append,List.length_append,lsb_len];omega))
    generalize codeAt dd q=cu at *
    go_still_tail 5,(by kernel_rfl)
    go_wp2_with (first
     | (go_at_call 149;(with_reducible refine HC2.out.mono ?_);go_must (rintro e w8 ⟨rfl,p8,bs8,hw8,hf8⟩;have HF8:=Lib.hid (HF7.out.drew.trans hf8);have c80:=(HA04.out.wr HX04.out HF8.out).cell (k:=0) rfl;have HP2:=Lib.hid (fput_lit g (r2:Int) (m2:Int) r2 m2 rfl rfl _ _ _ _ hw8 (by rw [List.length_append,List.length_append,List.length_append,lsb_len];omega) (by omega) hfit2);clear hw8 hf8))
     | (go_at_call 147;(with_reducible refine HP2.out.mono ?_);go_must (rintro e w9 ⟨rfl,p9,bs9,hw9,hf9⟩;rw [← HST.out] at hw9;have HW9:=Lib.hid hw9;have HF9:=Lib.hid (HF8.out.trans hf9);clear hw9 hf9)))
    go_roundw
    case rel=>exact ⟨k+1,by omega,by go_num,p9,bs9,HW9,HF9⟩
    case measure=>simp [intOf];omega
  ·obtain rfl:k=n:=by omega
   have HT:Hid (L ++ (ts.take k).flatMap (tokB ll dd) ++ codeB ll 256=L ++ toksB ll dd ts):=(show _=_ by rw [List.take_of_length_le (by omega),List.append_assoc];rfl)
   have hmx:=HMX.out k (Nat.le_refl _)
   have hlen:(L ++ (ts.take k).flatMap (tokB ll dd)).length+100≤1000000:=by rw [List.length_append];omega
   generalize L ++ (ts.take k).flatMap (tokB ll dd)=LL at *
   have HW5:=Lib.hid HW.out
   have HF5:=Lib.hid HF.out
   obtain ⟨w5,rfl⟩:∃ w5:World,w5=wr:=⟨_,rfl⟩
   have c50:=(HA04.out.wr HX04.out HF5.out).cell (k:=0) rfl
   obtain ⟨q1,q2⟩:=HCC4.out.bx HX4.out HF5.out 256 (by omega)
   have q1:w5.cell? ⟨g3,512,none⟩=_:=q1
   have q2:w5.cell? ⟨g3,513,none⟩=_:=q2
   have hsn:(256:Int) < (nl:Int):=by omega
   have HC:=Lib.hid (fcode_at g ll 256 (by omega) HOL.out _ _ _ _ HW5.out.drew (by omega))
   generalize codeAt ll 256=cv at *
   go_wp2_with fail
   go_still_tail 4,(by kernel_rfl)
   go_wp2_with (go_at_call 149;(with_reducible refine HC.out.mono ?_);go_must (rintro e w6 ⟨rfl,p6,bs6,hw6,hf6⟩;rw [HT.out] at hw6;have HW6:=Lib.hid hw6;have HF6:=Lib.hid (HF5.out.drew.trans hf6);clear hw6 hf6))
   (try simp only [Exit.inBlock,Exit.then])
   first | (refine bodyPost_ret (results_none rfl _ _ _) rfl ?_) | (refine bodyPost_end (results_none rfl _ _ _) rfl ?_)
   exact ⟨rfl,p6,bs6,HW6.out,HF4.out.trans HF6.out⟩
end Go.Proofs.YtebbdifhiihfkaaGreatDoor

