/- XDyn5 XDyn6 XDyn7 -/
import Derived.Test.YteoolehdomjkkaaGreatMe44
import Derived.Test.YteoolehdomjkkaaGreatMe46
import Derived.Test.YteoolehdomjkkaaGreatMe49
namespace Go.Proofs.YteoolehdomjkkaaGreat
set_option linter.all false
open Go.RowKit
theorem lens5_ok (B n c:Nat) (A:Option Addr) (ws:List Int) (M:Int) (m:Nat) (hM:M=(m:Int)) (w:World) (h:RdI w B A n ws) (hB:B≤w.heap.size) (h1:1≤n) (h2:n≤300) (hm:1≤m) (hm2:m≤15) (hr:∀ x ∈ ws,0≤x∧x≤1000000) (hp:n≤2 ^ m) :
  Calls Tryz.prog 120 #[.slice A n c,.int .i64 M] w fun e w'=>∃ g c',e=.returned (.tuple #[.slice (some ⟨g,0,none⟩) n c',.int .i64 0])∧n≤c'∧c'≤maxLen∧w.heap.size≤g∧g < w'.heap.size∧ownI w' w.heap.size (.slice (some ⟨g,0,none⟩) n c') (lensOf ws m)∧Below w.heap.size w w':=by
 subst hM
 have hl:=h.len
 refine (len5_any B n c A ws (m:Int) w h hB (by omega)).mono ?_
 rintro e w' ⟨A',n',c',rfl,hn',ho,hb⟩
 have hw:=wrong_ok (ws:=ws) (m:=m) (by omega) (by omega) hm hm2 hr (by omega)
 have e1:lenE ws (m:Int)=0:=by unfold lenE;rw [hw];rfl
 have e2:lenR ws (m:Int)=lensOf ws m:=by unfold lenR;rw [hw];rfl
 rw [e2] at hn' ho
 rw [lensOf_length,hl] at hn'
 subst hn'
 obtain ⟨_,g,rfl,hg,hg2⟩:=ho.pos (by omega)
 obtain ⟨A2,c2,e3,q1,q2,q3⟩:=ho.form
 injection e3 with e3 e4 e5
 subst e5
 exact ⟨g,c',by rw [e1],by omega,q3,hg,hg2,ho,hb⟩
theorem CodeCells.blw {w w':World} {B g1:Nat} {ls:List Int} (h:CodeCells w g1 ls) (hg:g1 < B) (hb:Below B w w'):CodeCells w' g1 ls :=
 fun p hp=>⟨(World.cell?_of_block (a:=⟨g1,p * 2,none⟩) (hb.block g1 hg)).trans (h p hp).1,(World.cell?_of_block (a:=⟨g1,p * 2+1,none⟩) (hb.block g1 hg)).trans (h p hp).2⟩
theorem RdI.fst0 {w:World} {B n m:Nat} {a:Addr} {l:List Int} (h:RdI w B (some a) n l) (hm:m≤n):RdI w B (some a) m (l.take m):=by
 have:=RdI.cut h (k:=0) (m:=m) (by omega) (A':=some a) (fun _=>rfl)
 rwa [List.drop_zero] at this
set_option maxRecDepth 100000 in
set_option maxHeartbeats 12800000 in
def dyn5_A :
  (P1:Prop) ×' (P1→∀ (B n c:Nat) (A:Option Addr) (ts:List Tok) (w:World) (h:RdJ w B A n ts) (hB:B≤w.heap.size) (hn:n≤40000) (hok:∀ t ∈ ts,TokOK t) (hsz:tokSize ts≤40000),Calls Tryz.prog 67 #[.slice A n c] w fun e w'=>∃ g pv,e=.returned (.pointer (some ⟨g,0,none⟩))∧w.heap.size≤g∧RWr w' g pv (ownBits ts)∧Below w.heap.size w w'):=by
 refine' ⟨_,fun k1=>_⟩
 rotate_left 1
 ·have HKX:=Lib.hid k1
  clear k1
  intro B n c A ts w h hB hn hok hsz
  have HR:=Lib.hid h
  have HOK:=Lib.hid hok
  have HSZ:=Lib.hid hsz
  have hl:=h.len
  have hm1:∀ w,(Instr.makeSlice 41 (.int .i64 286) (.int .i64 286)).run Tryz.prog w=.ok (.slice (some ⟨w.heap.size,0,none⟩) 286 286) (w.alloc (zeroI 286)):=fun w=>run_makeI w 286 (by omega)
  have hm2:∀ w,(Instr.makeSlice 41 (.int .i64 30) (.int .i64 30)).run Tryz.prog w=.ok (.slice (some ⟨w.heap.size,0,none⟩) 30 30) (w.alloc (zeroI 30)):=fun w=>run_makeI w 30 (by omega)
  clear h hok hsz
  go_enter Tryz.func67,Tryz.ntmps67
  go_upto_region 1 with fail
  go_cut [3,4] (fun u v wc=>∃ ga gb,u=.slice (some ⟨ga,0,none⟩) 286 286∧v=.slice (some ⟨gb,0,none⟩) 30 30∧(ga ≠ gb∧w.heap.size≤ga∧w.heap.size≤gb∧ga < wc.heap.size∧gb < wc.heap.size)∧ownI wc w.heap.size (.slice (some ⟨ga,0,none⟩) 286 286) (List.replicate 286 0)∧ownI wc w.heap.size (.slice (some ⟨gb,0,none⟩) 30 30) (List.replicate 30 0)∧Below w.heap.size w wc)
  case first =>
   go_region
   all_goals
    go_wp2_with fail
    go_meet
    case rel =>
     first
      | exact ⟨w.heap.size,w.heap.size+1,rfl,rfl,⟨by omega,by omega,by omega,by simp;omega,by simp⟩,((own_zeroI w 286 (by omega)).alloc _).drew,(by have:=(own_zeroI (w.alloc (zeroI 286)) 30 (by omega)).mono (base':=w.heap.size) (by simp);simpa only [World.size_alloc] using this.drew),(((Below.refl w.heap.size w).alloc (Nat.le_refl _) _).alloc (by simp) _).drew⟩
      | exact ⟨w.heap.size+1,w.heap.size,rfl,rfl,⟨by omega,by omega,by omega,by simp,by simp;omega⟩,(by have:=(own_zeroI (w.alloc (zeroI 30)) 286 (by omega)).mono (base':=w.heap.size) (by simp);simpa only [World.size_alloc] using this.drew),((own_zeroI w 30 (by omega)).alloc _).drew,(((Below.refl w.heap.size w).alloc (Nat.le_refl _) _).alloc (by simp) _).drew⟩
  case rest =>
   clear hm1 hm2
   obtain ⟨ga,gb,rfl,rfl,⟨hgab,hga,hgb,hgaw,hgbw⟩,hoa,hob,hbw⟩:=hcut
   have c6:=hoa.cell (by rw [List.length_replicate]) (k:=256) (by rw [List.length_replicate];omega)
   have f6:=hoa.frozen (by rw [List.length_replicate]) 256
   have HOA:=Lib.hid (hoa.store (by rw [List.length_replicate]) 256 1)
   have HOB:=Lib.hid (hob.far (g:=ga) (by intro e;injection e with e;exact hgab e.symm) 256 (.int .i64 1))
   have HBW:=Lib.hid (hbw.setCell (p:=⟨ga,256,none⟩) hga (.int .i64 1))
   have hsz:(wc.setCell ⟨ga,256,none⟩ (.int .i64 1)).heap.size=wc.heap.size:=by simp
   clear hoa hob hbw
   go_wp2_with fail
   go_loopw [5] (fun vi wr=>∃ k:Nat,k≤n∧vi=.int .i64 k∧Hid (ownI wr w.heap.size (.slice (some ⟨ga,0,none⟩) 286 286) (bumps ((List.replicate 286 0).set 256 1) ((ts.take k).map symT)))∧Hid (ownI wr w.heap.size (.slice (some ⟨gb,0,none⟩) 30 30) (bumps (List.replicate 30 0) ((ts.take k).flatMap dstT)))∧Hid (Below w.heap.size w wr)∧ga < wr.heap.size∧gb < wr.heap.size) (fun vi _=>n - (intOf vi).toNat)
   case atStart=>exact ⟨0,Nat.zero_le _,rfl,HOA,HOB,HBW,by rw [hsz];exact hgaw,by rw [hsz];exact hgbw⟩
   case round =>
    clear HOA HOB HBW hsz hgaw hgbw
    obtain ⟨k,hk,rfl,HOA,HOB,HBW,hgaw,hgbw⟩:=hrel
    by_cases hlt:k < n
    ·have hlti:(k:Int) < (n:Int):=by omega
     obtain ⟨b,o,⟨a,d,y⟩,e0,hb,HX,e1,e2,e3⟩:=(HR.out.blw (HBW.out.mono hB)).one hlt
     subst e0
     have hok:=HOK.out _ (List.mem_of_getElem? HX.out)
     have HLA:=Lib.hid (weighL_len (ts.take k))
     have HLB:=Lib.hid (weighD_len (ts.take k))
     have HRA:=Lib.hid (weighL_rng (ts.take k))
     have HRB:=Lib.hid (weighD_rng (ts.take k))
     have HTL:Hid ((ts.take k).length≤50000):=(show _≤_ by rw [List.length_take];omega)
     have HSA:Hid (bumps ((List.replicate 286 0).set 256 1) ((ts.take (k+1)).map symT)=bump (weighL (ts.take k)) (symT (a,d,y))):=(show _=_ by rw [take_map_snoc symT HX.out,bumps_snoc];rfl)
     have HSB:Hid (bumps (List.replicate 30 0) ((ts.take (k+1)).flatMap dstT)=bumps (weighD (ts.take k)) (dstT (a,d,y))):=(show _=_ by rw [take_flat_snoc dstT HX.out,bumps_append];rfl)
     have HOA:Hid (ownI wr w.heap.size (.slice (some ⟨ga,0,none⟩) 286 286) (weighL (ts.take k))):=HOA
     have HOB:Hid (ownI wr w.heap.size (.slice (some ⟨gb,0,none⟩) 30 30) (weighD (ts.take k))):=HOB
     generalize weighL (ts.take k)=la at *
     generalize weighD (ts.take k)=lb at *
     have hbga:¬ b=ga:=by omega
     have hbgb:¬ b=gb:=by omega
     have hgba:¬ gb=ga:=fun e=>hgab e.symm
     have hgaN:¬ ga=b:=by omega
     have hgbN:¬ gb=b:=by omega
     by_cases ha:a=0
     ·have d1:((a:Int) == 0)=true:=by rw [ha];rfl
      have hy:y < 256:=by rcases hok with ⟨_,h⟩ | ⟨h,_⟩;exact h;(have:3≤a:=h);omega
      have hsym:symT (a,d,y)=y:=if_pos ha
      have hdst:dstT (a,d,y)=[]:=if_pos ha
      rw [hsym] at HSA
      rw [hdst] at HSB
      have hyl:y < la.length:=by rw [HLA.out];omega
      have HXV:=Lib.hid (List.getElem?_eq_getElem hyl)
      have c7:=HOA.out.cell HLA.out.symm hyl
      have f7:=HOA.out.frozen HLA.out.symm y
      have hr7:=HRA.out _ (List.getElem_mem hyl)
      generalize la[y]=x at *
      have HOA2:=Lib.hid (HOA.out.store HLA.out.symm y (x+1))
      rw [← bump_set HXV.out,← HSA.out] at HOA2
      have HOB2:=Lib.hid (HOB.out.far (g:=ga) (by intro e;injection e with e;exact hgab e.symm) y (.int .i64 (x+1)))
      have HBW2:=Lib.hid (HBW.out.setCell (p:=⟨ga,y,none⟩) hga (.int .i64 (x+1)))
      have hx7:0≤x∧x≤50001:=by have:=HTL.out;omega
      have hy286:(y:Int) < 286:=by omega
      have hy286n:y < 286:=by omega
      clear HOA HOB HBW HRA HRB HTL hok hr7 HXV
      go_wp2_with fail
      go_roundw
      case rel=>exact ⟨k+1,by omega,by go_num,HOA2,(show ownI _ _ _ _ by rw [HSB.out];exact HOB2.out),HBW2,by simp;omega,by simp;omega⟩
      case measure=>simp [intOf];omega
     ·have d1:((a:Int) == 0)=false:=beq_eq_false_iff_ne.2 (by omega)
      obtain ⟨h3,h4,h5,h6⟩:3≤a∧a≤258∧1≤d∧d≤32768:=by rcases hok with ⟨h,_⟩ | h;exact absurd h ha;exact h
      have hsym:symT (a,d,y)=257+lenS a:=if_neg ha
      have hdst:dstT (a,d,y)=[distS d]:=if_neg ha
      rw [hsym] at HSA
      rw [hdst] at HSB
      have q1:=(lenS_spec (x:=a) h3).1
      have q2:=(distS_spec (x:=d) h5).1
      obtain ⟨s,hs⟩:∃ s,257+lenS a=s:=⟨_,rfl⟩
      obtain ⟨q,hq⟩:∃ q,distS d=q:=⟨_,rfl⟩
      have HS1:=Lib.hid (fun w=>symbol5_at a s _ _ h3 h4 hs rfl rfl w)
      have HS2:=Lib.hid (fun w=>distance5_at d q _ _ h5 h6 hq rfl rfl w)
      generalize (lenOf (lenS a)).2=m1 at *
      generalize a - (lenOf (lenS a)).1=r1 at *
      generalize (distOf (distS d)).2=m2 at *
      generalize d - (distOf (distS d)).1=r2 at *
      rw [hs] at HSA
      rw [hq] at HSB
      have hsl:s < la.length:=by rw [HLA.out];omega
      have hql:q < lb.length:=by rw [HLB.out];omega
      have hs286:s < 286:=by omega
      have hq30:q < 30:=by omega
      have hs286i:(s:Int) < 286:=by omega
      have hq30i:(q:Int) < 30:=by omega
      have HXV:=Lib.hid (List.getElem?_eq_getElem hsl)
      have HYV:=Lib.hid (List.getElem?_eq_getElem hql)
      have c7:=HOA.out.cell HLA.out.symm hsl
      have f7:=HOA.out.frozen HLA.out.symm s
      have hr7:=HRA.out _ (List.getElem_mem hsl)
      have c8:=HOB.out.cell HLB.out.symm hql
      have f8:=HOB.out.frozen HLB.out.symm q
      have hr8:=HRB.out _ (List.getElem_mem hql)
      generalize la[s]=x at *
      generalize lb[q]=z at *
      have HOA2:=Lib.hid ((HOA.out.store HLA.out.symm s (x+1)).far (g:=gb) (by intro e;injection e with e;exact hgab e) q (.int .i64 (z+1)))
      rw [← bump_set HXV.out,← HSA.out] at HOA2
      have HOB2:=Lib.hid ((HOB.out.far (g:=ga) (by intro e;injection e with e;exact hgab e.symm) s (.int .i64 (x+1))).store HLB.out.symm q (z+1))
      have HSB2:Hid (lb.set q (z+1)=bumps (List.replicate 30 0) ((ts.take (k+1)).flatMap dstT)):=(show _=_ by rw [HSB.out,← bump_set HYV.out];rfl)
      rw [HSB2.out] at HOB2
      have HBW2:=Lib.hid ((HBW.out.setCell (p:=⟨ga,s,none⟩) hga (.int .i64 (x+1))).setCell (p:=⟨gb,q,none⟩) hgb (.int .i64 (z+1)))
      have hx7:0≤x∧x≤50001:=by have:=HTL.out;omega
      have hx8:0≤z∧z≤50001:=by have:=HTL.out;omega
      clear HOA HOB HBW HRA HRB HTL hok hr7 hr8 HXV HYV HSB HSB2 HSA q1 q2 hs hq
      go_wp2_with (first
       | (go_at_call 27;(with_reducible refine (HS1.out _).mono ?_);go_must (rintro e w5 ⟨rfl,rfl⟩))
       | (go_at_call 29;(with_reducible refine (HS2.out _).mono ?_);go_must (rintro e w5 ⟨rfl,rfl⟩)))
      go_roundw
      case rel=>exact ⟨k+1,by omega,by go_num,HOA2,HOB2,HBW2,by simp;omega,by simp;omega⟩
      case measure=>simp [intOf];omega
    ·obtain rfl:k=n:=by omega
     have HT:Hid (ts.take k=ts):=(show _=_ from List.take_of_length_le (by omega))
     rw [HT.out] at HOA HOB
     obtain ⟨wo,rfl⟩:∃ wo:World,wo=wr:=⟨_,rfl⟩
     have HOU:Hid (ownI wo w.heap.size (.slice (some ⟨ga,0,none⟩) 286 286) (weighL ts)):=HOA
     have HOV:Hid (ownI wo w.heap.size (.slice (some ⟨gb,0,none⟩) 30 30) (weighD ts)):=HOB
     clear HT HOA HOB
     have HLX:=Lib.hid (lens5_ok wo.heap.size 286 286 _ (weighL ts) 15 15 rfl wo HOU.out.rd (Nat.le_refl _) (by omega) (by omega) (by omega) (by omega) (fun x hx=>by have:=weighL_rng ts x hx;omega) (by decide))
     have HLY:=Lib.hid (fun w' (hb:Below wo.heap.size wo w')=>lens5_ok wo.heap.size 30 30 _ (weighD ts) 15 15 rfl w' (RdI.blw HOV.out.rd hb) hb.size (by omega) (by omega) (by omega) (by omega) (fun x hx=>by have:=weighD_rng ts x hx;omega) (by decide))
     have HLX:Hid (Calls _ _ _ _ fun e w'=>∃ g c',e=.returned (.tuple #[.slice (some ⟨g,0,none⟩) 286 c',.int .i64 0])∧286≤c'∧c'≤maxLen∧wo.heap.size≤g∧g < w'.heap.size∧ownI w' wo.heap.size (.slice (some ⟨g,0,none⟩) 286 c') (unL ts)∧Below wo.heap.size wo w'):=HLX
     have HUD:Hid (unD ts=if zeroA (lensOf (weighD ts) 15)=true then (lensOf (weighD ts) 15).set 0 1 else lensOf (weighD ts) 15):=(show _=_ from rfl)
     have HDL:Hid ((lensOf (weighD ts) 15).length=30):=(show _=_ by rw [lensOf_len,weighD_len])
     generalize lensOf (weighD ts) 15=lD at *
     have hzo:=HBW.out.size
     have HT0:=Lib.hid (HR.out.blw (HBW.out.mono hB))
     clear HOU HOV c6 f6
     go_wp2_with (first
      | (go_at_call 120;(with_reducible refine HLX.out.mono ?_);go_must (rintro e w1 ⟨gx,cx,rfl,hcx,hcx2,hgx,hgx2,ho1,hb1⟩;have HO1:=Lib.hid ho1;have HB1:=Lib.hid hb1;have hz1:=hb1.size;have HLY1:=Lib.hid (HLY.out w1 hb1);clear ho1 hb1))
      | (go_at_call 120;(with_reducible refine HLY1.out.mono ?_);go_must (rintro e w2 ⟨gy,cy,rfl,hcy,hcy2,hgy,hgy2,ho2,hb2⟩;have HOY:=Lib.hid ho2;have HRX:=Lib.hid (RdI.blw (ownI.rd HO1.out) hb2);have HB2:=Lib.hid (HB1.out.trans (hb2.mono hz1));have hz2:=hb2.size;clear ho2 hb2 HO1)))
     clear HLX HLY HLY1 HB1
     go_loopw [16,17] (fun vb vi wr=>∃ i:Nat,i≤30∧vi=.int .i64 i∧vb=.bool (zeroA (lD.take i))∧wr=w2) (fun _ vi _=>30 - (intOf vi).toNat)
     case atStart=>exact ⟨0,by omega,rfl,rfl,rfl⟩
     case round =>
      obtain ⟨i,hi,rfl,rfl,rfl⟩:=hrel
      by_cases hi30:i < 30
      ·have hii:(i:Int) < 30:=by omega
       have hil:i < lD.length:=by rw [HDL.out];exact hi30
       have cy7:=ownI.cell HOY.out HDL.out.symm hil
       have HXI:=Lib.hid (List.getElem?_eq_getElem hil)
       obtain ⟨x,hx⟩:∃ x,lD[i]=x:=⟨_,rfl⟩
       rw [hx] at cy7 HXI
       have HZS:=Lib.hid (zeroA_snoc HXI.out)
       clear hx HXI
       by_cases hz:zeroA (lD.take i)=true
       ·rw [hz] at HZS ⊢
        by_cases hx0:x=0
        ·have d1:(x == 0)=true:=by rw [hx0];rfl
         rw [d1] at HZS
         have HZS2:Hid ((.bool true:Value)=.bool (zeroA (lD.take (i+1)))):=(show _=_ by rw [HZS.out];rfl)
         clear HZS
         go_wp2_with fail
         go_roundw
         case rel=>exact ⟨i+1,by omega,by go_num,HZS2.out,trivial⟩
         case measure=>simp [intOf];omega
        ·have d1:(x == 0)=false:=beq_eq_false_iff_ne.2 hx0
         rw [d1] at HZS
         have HZS2:Hid ((.bool false:Value)=.bool (zeroA (lD.take (i+1)))):=(show _=_ by rw [HZS.out];rfl)
         clear HZS
         go_wp2_with fail
         go_roundw
         case rel=>exact ⟨i+1,by omega,by go_num,HZS2.out,trivial⟩
         case measure=>simp [intOf];omega
       ·have hz2f:zeroA (lD.take i)=false:=by simpa using hz
        rw [hz2f] at HZS ⊢
        have HZS2:Hid ((.bool false:Value)=.bool (zeroA (lD.take (i+1)))):=(show _=_ by rw [HZS.out];rfl)
        clear HZS
        go_wp2_with fail
        go_roundw
        case rel=>exact ⟨i+1,by omega,by go_num,HZS2.out,trivial⟩
        case measure=>simp [intOf];omega
      ·obtain rfl:i=30:=by omega
       have hii:¬ (30:Int) < 30:=by omega
       have HZA:Hid (lD.take 30=lD):=(show _=_ from List.take_of_length_le (by rw [HDL.out];exact Nat.le_refl _))
       rw [HZA.out]
       obtain ⟨zb,hzb⟩:∃ zb,zeroA lD=zb:=⟨_,rfl⟩
       rw [hzb]
       have HZB:=Lib.hid hzb
       have cy0:=ownI.cell HOY.out HDL.out.symm (k:=0) (by rw [HDL.out];omega)
       have fy0:=ownI.frozen HOY.out HDL.out.symm 0
       obtain ⟨x0,hx0⟩:∃ x,lD[0]'(by rw [HDL.out];omega)=x:=⟨_,rfl⟩
       rw [hx0] at cy0
       have HOYS:=Lib.hid (ownI.store HOY.out HDL.out.symm 0 1)
       obtain ⟨wb,rfl⟩:∃ wb:World,wb=wr:=⟨_,rfl⟩
       clear hx0 hzb
       go_upto_if 116 with fail
       go_cut [16] (fun v wc=>Hid (ownI wc w1.heap.size (.slice (some ⟨gy,0,none⟩) 30 cy) (unD ts))∧Hid (Below w1.heap.size wb wc)∧wc.heap.size=wb.heap.size)
       case first =>
        cases zb with
        | true =>
         have HU:Hid (unD ts=lD.set 0 1):=(show _=_ by rw [HUD.out,if_pos HZB.out])
         go_wp2_with fail
         go_meet
         case rel=>exact ⟨(show ownI _ _ _ _ by rw [HU.out];exact HOYS.out),(show Below _ _ _ from (Below.refl _ _).setCell (p:=⟨gy,0,none⟩) hgy _),by simp⟩
        | false =>
         have HU:Hid (unD ts=lD):=(show _=_ by rw [HUD.out,if_neg (by rw [HZB.out];decide)])
         go_wp2_with fail
         go_meet
         case rel=>exact ⟨(show ownI _ _ _ _ by rw [HU.out];exact HOY.out),(show Below _ _ _ from Below.refl _ _),rfl⟩
       case rest =>
        obtain ⟨HOD,HBD,hzd⟩:=hcut
        clear HOYS HUD cy0 fy0 HZB HZA
        rename_i z0 z1 z2 z3 z4 z5 z6 z7 z8 z9 z10 z11 z12 z13 z14 z15 z16 z17 z18 z19 z20 z21 z22 z23 z24 z25 z26 z27 z28 z29 z30 z31 z32 z33 z34 z35 z36 z37 z38 z39 z40 z41 z42 z43 z44 z45 z46 z47 z48 z49 z50 z51 z52 z53 z54 z55 z56 z57 z58 z59 z60 z61 z62 z63 z64 z65 z66 z67 z68 z69 z70 z71 z72 z73 z74 z75 z76 z77 z78 z79 z80 z81 z82 z83 z84 z85 z86 z87 z88 z89 z90 z91 z92 z93 z94 z95 z96 z97 z98 z99 z100 z101 z102 z103 z104 z105 z106 z107 z108 z109 z110 z111 z112 z113 z114 z115 z116 z117 z118 z119 z120 z121 z122 z123 z124 z125 z126 z127 z128 z129 z130 z131 z132 z133 z134 z135 z136 z137 z138 z139 z140 z141 z142 z143 z144 z145 z146 z147 z148 z149 z150 z151 z152 z153 z154 z155 z156 z157 z158 z159 z160 z161 z162 z163 z164 z165 z166 z167 z168 z169 z170 z171 z172 z173 z174 z175 z176 z177 z178 z179 z180 z181 z182 z183 z184 z185 z186 z187 z188 z189 z190 z191 z192 z193 z194 z195 z196 z197 z198 z199 z200 z201 z202 z203 z204 z205 z206 z207 z208 z209 z210 z211 z212 z213 z214 z215 z216 z217 z218 z219 z220 z221 z222 z223 z224 z225 z226 z227 z228 z229 z230 z231 z232 z233 z234 z235 z236 z237 z238 z239 z240 z241 z242 z243 z244 z245 z246 z247 z248 z249 z250 z251 z252 z253 z254 z255 z256 z257 z258 z259 z260 z261 z262 z263 z264 z265 z266 z267 z268 z269 z270 z271 z272 z273 z274 z275 z276 z277 z278 z279 z280 z281 z282 z283 z284 z285 z286 z287 z288 z289 z290 z291 z292 z293 z294 z295 z296 z297 z298 z299 z300 z301 z302 z303 z304 z305 z306 z307 z308 z309
        revert B c A ts w hB HOK HSZ z0 z1 z2 z3 z4 z5 z6 z7 z8 z9 z10 z11 z12 z13 z14 z15 z16 z17 z18 z19 z20 z21 z22 z23 z24 z25 z26 z27 z28 z29 z30 z31 z32 z33 z34 z35 z36 z37 z38 z39 z40 z41 z42 z43 z44 z45 z46 z47 z48 z49 z50 z51 z52 z53 z54 z55 z56 z57 z58 z59 z60 z61 z62 z63 z64 z65 z66 z67 z68 z69 z70 z71 z72 z73 z74 z75 z76 z77 z78 z79 z80 z81 z82 z83 z84 z85 z86 z87 z88 z89 z90 z91 z92 z93 z94 z95 z96 z97 z98 z99 z100 z101 z102 z103 z104 z105 z106 z107 z108 z109 z110 z111 z112 z113 z114 z115 z116 z117 z118 z119 z120 z121 z122 z123 z124 z125 z126 z127 z128 z129 z130 z131 z132 z133 z134 z135 z136 z137 z138 z139 z140 z141 z142 z143 z144 z145 z146 z147 z148 z149 z150 z151 z152 z153 z154 z155 z156 z157 z158 z159 z160 z161 z162 z163 z164 z165 z166 z167 z168 z169 z170 z171 z172 z173 z174 z175 z176 z177 z178 z179 z180 z181 z182 z183 z184 z185 z186 z187 z188 z189 z190 z191 z192 z193 z194 z195 z196 z197 z198 z199 z200 z201 z202 z203 z204 z205 z206 z207 z208 z209 z210 z211 z212 z213 z214 z215 z216 z217 z218 z219 z220 z221 z222 z223 z224 z225 z226 z227 z228 z229 z230 z231 ga gb hgab hga hgb z232 u6 u7 u8 u9 u10 u11 z233 z234 z235 z236 z237 z238 z239 z240 z241 z242 z243 z244 z245 z246 z247 z248 z249 z250 z251 z252 z253 z254 z255 z256 z257 z258 z259 z260 z261 z262 z263 z264 z265 z266 z267 z268 z269 z270 z271 z272 z273 z274 z275 z276 z277 z278 z279 z280 z281 z282 z283 z284 z285 z286 k hn HR hl hk hlt wo HBW hgaw hgbw HLX lD HDL hzo HT0 z287 z288 z289 w1 gx cx hcx hcx2 hgx hgx2 hz1 gy cy hcy hcy2 hgy z290 z291 z292 z293 z294 z295 z296 z297 z298 z299 z300 z301 z302 z303 z304 hi hi30 hii zb x0 wb hgy2 HOY HRX HB2 hz2 z305 z306 z307 z308 z309 wc u16 u34 u35 u36 u37 u38 u39 u40 u41 u42 u43 u44 u45 u46 u47 u48 u49 u50 u51 u52 u53 u54 u55 u56 u57 u58 u59 u60 u61 u62 u63 u64 u65 u66 u67 u68 u69 u70 u71 u72 u73 u74 u75 u76 u77 u78 u79 u80 u81 u82 u83 u84 u85 u86 u87 u88 u89 u90 u91 u92 u93 u94 u95 u96 u97 u98 u99 u100 u101 u102 u103 u104 u105 u106 u107 u108 u109 u110 u111 u112 u113 u114 u115 u116 u117 u118 u119 u120 u121 u122 u123 u124 u125 u126 u127 u128 u129 u130 u131 u132 u133 u134 u135 u136 u137 u138 u139 u140 u141 u142 u143 u144 u145 u146 u147 u148 u149 u150 u151 u152 u153 u154 u155 u156 u157 u158 u159 u160 u161 u162 u163 u164 u165 u166 u167 u168 u169 u170 u171 u172 u173 u174 u175 u176 u177 u178 u179 u180 u181 u182 u183 u184 u185 u186 u187 u188 u189 u190 u191 u192 u193 u194 u195 u196 u197 u198 u199 u200 u201 u202 u203 u204 u205 u206 u207 u208 u209 u210 u211 u212 u213 u214 u215 u216 u217 u218 u219 u220 u221 u222 u223 u224 u225 u226 u227 u228 u229 u230 u231 u232 u233 u234 u235 u236 u237 u238 u239 u240 u241 u242 u243 u244 u245 u246 u247 u248 u249 u250 u251 u252 u253 u254 u255 u256 u257 u258 u259 u260 u261 u262 u263 HOD HBD hzd
        exact HKX.out
end Go.Proofs.YteoolehdomjkkaaGreat

/- flate: the document's block by codes of its own: its rows and codes. -/
namespace Go.Proofs.YteoolehdomjkkaaGreat
set_option linter.all false
open Go.RowKit
set_option maxRecDepth 100000 in
set_option maxHeartbeats 12800000 in
def dyn5_B :
  (P2:Prop) ×' (P2→dyn5_A.1):=by
 refine' ⟨_,fun k1=>_⟩
 rotate_left 1
 ·have HKY:=Lib.hid k1
  clear k1
  intro B c A ts w hB HOK HSZ z0 z1 z2 z3 z4 z5 z6 z7 z8 z9 z10 z11 z12 z13 z14 z15 z16 z17 z18 z19 z20 z21 z22 z23 z24 z25 z26 z27 z28 z29 z30 z31 z32 z33 z34 z35 z36 z37 z38 z39 z40 z41 z42 z43 z44 z45 z46 z47 z48 z49 z50 z51 z52 z53 z54 z55 z56 z57 z58 z59 z60 z61 z62 z63 z64 z65 z66 z67 z68 z69 z70 z71 z72 z73 z74 z75 z76 z77 z78 z79 z80 z81 z82 z83 z84 z85 z86 z87 z88 z89 z90 z91 z92 z93 z94 z95 z96 z97 z98 z99 z100 z101 z102 z103 z104 z105 z106 z107 z108 z109 z110 z111 z112 z113 z114 z115 z116 z117 z118 z119 z120 z121 z122 z123 z124 z125 z126 z127 z128 z129 z130 z131 z132 z133 z134 z135 z136 z137 z138 z139 z140 z141 z142 z143 z144 z145 z146 z147 z148 z149 z150 z151 z152 z153 z154 z155 z156 z157 z158 z159 z160 z161 z162 z163 z164 z165 z166 z167 z168 z169 z170 z171 z172 z173 z174 z175 z176 z177 z178 z179 z180 z181 z182 z183 z184 z185 z186 z187 z188 z189 z190 z191 z192 z193 z194 z195 z196 z197 z198 z199 z200 z201 z202 z203 z204 z205 z206 z207 z208 z209 z210 z211 z212 z213 z214 z215 z216 z217 z218 z219 z220 z221 z222 z223 z224 z225 z226 z227 z228 z229 z230 z231 ga gb hgab hga hgb z232 u6 u7 u8 u9 u10 u11 z233 z234 z235 z236 z237 z238 z239 z240 z241 z242 z243 z244 z245 z246 z247 z248 z249 z250 z251 z252 z253 z254 z255 z256 z257 z258 z259 z260 z261 z262 z263 z264 z265 z266 z267 z268 z269 z270 z271 z272 z273 z274 z275 z276 z277 z278 z279 z280 z281 z282 z283 z284 z285 z286 k hn HR hl hk hlt wo HBW hgaw hgbw HLX lD HDL hzo HT0 z287 z288 z289 w1 gx cx hcx hcx2 hgx hgx2 hz1 gy cy hcy hcy2 hgy z290 z291 z292 z293 z294 z295 z296 z297 z298 z299 z300 z301 z302 z303 z304 hi hi30 hii zb x0 wb hgy2 HOY HRX HB2 hz2 z305 z306 z307 z308 z309 wc u16 u34 u35 u36 u37 u38 u39 u40 u41 u42 u43 u44 u45 u46 u47 u48 u49 u50 u51 u52 u53 u54 u55 u56 u57 u58 u59 u60 u61 u62 u63 u64 u65 u66 u67 u68 u69 u70 u71 u72 u73 u74 u75 u76 u77 u78 u79 u80 u81 u82 u83 u84 u85 u86 u87 u88 u89 u90 u91 u92 u93 u94 u95 u96 u97 u98 u99 u100 u101 u102 u103 u104 u105 u106 u107 u108 u109 u110 u111 u112 u113 u114 u115 u116 u117 u118 u119 u120 u121 u122 u123 u124 u125 u126 u127 u128 u129 u130 u131 u132 u133 u134 u135 u136 u137 u138 u139 u140 u141 u142 u143 u144 u145 u146 u147 u148 u149 u150 u151 u152 u153 u154 u155 u156 u157 u158 u159 u160 u161 u162 u163 u164 u165 u166 u167 u168 u169 u170 u171 u172 u173 u174 u175 u176 u177 u178 u179 u180 u181 u182 u183 u184 u185 u186 u187 u188 u189 u190 u191 u192 u193 u194 u195 u196 u197 u198 u199 u200 u201 u202 u203 u204 u205 u206 u207 u208 u209 u210 u211 u212 u213 u214 u215 u216 u217 u218 u219 u220 u221 u222 u223 u224 u225 u226 u227 u228 u229 u230 u231 u232 u233 u234 u235 u236 u237 u238 u239 u240 u241 u242 u243 u244 u245 u246 u247 u248 u249 u250 u251 u252 u253 u254 u255 u256 u257 u258 u259 u260 u261 u262 u263 HOD HBD hzd
  have hz2b:w1.heap.size≤wb.heap.size:=by omega
  have HTC:=Lib.hid (HT0.out.blw ((HB2.out.trans (HBD.out.mono hz1)).mono (by omega)))
  have HBC:=Lib.hid (HBW.out.trans ((HB2.out.trans (HBD.out.mono hz1)).mono hzo))
  have HRXc:=Lib.hid (RdI.blw HRX.out HBD.out)
  have hBo:B≤wc.heap.size:=by omega
  have hgy3:gy < wc.heap.size:=by omega
  have hw1c:w1.heap.size≤wc.heap.size:=by omega
  have hwc:w.heap.size≤wc.heap.size:=by omega
  have HCX:=Lib.hid (codes5_ok w1.heap.size 286 cx _ (unL ts) wc HRXc.out hw1c (by omega) (unL_ok ts))
  have HRYc:=Lib.hid (ownI.rd HOD.out)
  have HLX2:=Lib.hid (unL_len ts)
  have HLY2:=Lib.hid (unD_len ts)
  have HXL:Hid ((unL ts).take (cutK (unL ts) 257 286)=dynL ts):=(show _=_ by rw [dynL_un];unfold cutL;rw [HLX2.out])
  have HYL:Hid ((unD ts).take (cutK (unD ts) 1 30)=dynD ts):=(show _=_ by rw [dynD_un];unfold cutL;rw [HLY2.out])
  have hkx1:=cutK_ge (unL ts) 257 286 (by omega)
  have hkx2:=cutK_le (unL ts) 257 286
  have hky1:=cutK_ge (unD ts) 1 30 (by omega)
  have hky2:=cutK_le (unD ts) 1 30
  have HLDX:Hid ((dynL ts).length=cutK (unL ts) 257 286):=(show _=_ by rw [← HXL.out,List.length_take,HLX2.out];omega)
  have HLDY:Hid ((dynD ts).length=cutK (unD ts) 1 30):=(show _=_ by rw [← HYL.out,List.length_take,HLY2.out];omega)
  have HNX:=Lib.hid (fun w' (h:RdI w' w1.heap.size (some ⟨gx,0,none⟩) 286 (unL ts)) (hb:w1.heap.size≤w'.heap.size)=>needed5_any w1.heap.size 286 cx _ (unL ts) 257 257 rfl w' h hb (by omega) (by omega) hcx hcx2)
  have HNY:=Lib.hid (fun w' (h:RdI w' wc.heap.size (some ⟨gy,0,none⟩) 30 (unD ts)) (hb:wc.heap.size≤w'.heap.size)=>needed5_any wc.heap.size 30 cy _ (unD ts) 1 1 rfl w' h hb (by omega) (by omega) hcy hcy2)
  obtain ⟨K1,hK1⟩:∃ K,cutK (unL ts) 257 286=K:=⟨_,rfl⟩
  obtain ⟨K2,hK2⟩:∃ K,cutK (unD ts) 1 30=K:=⟨_,rfl⟩
  rw [hK1] at HXL hkx1 hkx2 HLDX HNX
  rw [hK2] at HYL hky1 hky2 HLDY HNY
  have HR9:Hid (∀ x ∈ dynL ts ++ dynD ts,0≤x∧x≤15):=(show ∀ x ∈ _,_ from fun x hx=>by
   rw [List.mem_append] at hx
   rcases hx with h | h
   ·exact (dynL_ok ts).rng x h
   ·exact (dynD_ok ts).rng x h)
  have HLB:Hid (listsB (dynL ts) (dynD ts)=lsb (K1 - 257) 5 ++ lsb (K2 - 1) 5 ++ lsb (hcK (lensC (runsP (dynL ts ++ dynD ts))) 19 - 4) 4 ++ (ordL.take (hcK (lensC (runsP (dynL ts ++ dynD ts))) 19)).flatMap (ordF (lensC (runsP (dynL ts ++ dynD ts)))) ++ (runsP (dynL ts ++ dynD ts)).flatMap (sgnB (lensC (runsP (dynL ts ++ dynD ts))))):=(show _=_ by rw [← HLDX.out,← HLDY.out];rfl)
  have hLL:(dynL ts ++ dynD ts).length=K1+K2:=by rw [List.length_append,HLDX.out,HLDY.out]
  have HOWN:Hid (ownBits ts=headL 2 ++ listsB (dynL ts) (dynD ts) ++ toksB (unL ts) (unD ts) ts):=(show _=_ by unfold ownBits;rw [toksB_un HOK.out])
  have HUX:=Lib.hid (unL_ok ts)
  have HUY:=Lib.hid (unD_ok ts)
  have HIN:Hid (∀ t ∈ ts,TokOK t∧TokIn (unL ts) (unD ts) t):=(show ∀ t ∈ _,_ from fun t ht=>⟨HOK.out t ht,un_in HOK.out t ht⟩)
  generalize dynL ts=DL at *
  generalize dynD ts=DD at *
  generalize unL ts=UL at *
  generalize unD ts=UD at *
  clear hK1 hK2 HRX HBD HB2 HT0 HBW hzd HOD
  go_upto_region 24 with (first
   | (go_at_call 118;(with_reducible refine HCX.out.mono ?_);go_must (rintro e w3 ⟨gp,cp,rfl,hgp,hgp2,hcp,hb3⟩;have HCP:=Lib.hid hcp;have HB3:=Lib.hid hb3;have hz3:=hb3.size;have HCY:=Lib.hid (codes5_ok wc.heap.size 30 cy _ UD w3 (RdI.blw HRYc.out hb3) hz3 (by omega) HUY.out);clear hcp hb3))
   | (go_at_call 118;(with_reducible refine HCY.out.mono ?_);go_must (rintro e w4 ⟨gq,cq,rfl,hgq,hgq2,hcq,hb4⟩;have HCQ:=Lib.hid hcq;have hz4:=hb4.size;have HCP4:=Lib.hid (HCP.out.later hgp2 hb4);have hbc4:=HB3.out.trans (hb4.mono hz3);have HB4:=Lib.hid hbc4;have HRX4:=Lib.hid (RdI.blw HRXc.out (hbc4.mono hw1c));have HRY4:=Lib.hid (RdI.blw HRYc.out hbc4);have HNX4:=Lib.hid (HNX.out w4 HRX4.out (by omega));have HNY4:=Lib.hid (HNY.out w4 HRY4.out (by omega));clear hcq hb4 hbc4 HCP HB3))
   | (go_at_call 121;(with_reducible refine HNX4.out.mono ?_);go_must (rintro e w5 ⟨rfl,rfl⟩))
   | (go_at_call 121;(with_reducible refine HNY4.out.mono ?_);go_must (rintro e w5 ⟨rfl,rfl⟩)))
  have HRX5:=Lib.hid (RdI.fst0 HRX4.out hkx2)
  have HRY5:=Lib.hid (RdI.fst0 HRY4.out hky2)
  rw [HXL.out] at HRX5
  rw [HYL.out] at HRY5
  have HBC4:=Lib.hid (HBC.out.trans (HB4.out.mono hwc))
  have HTC4:=Lib.hid (HTC.out.blw (HB4.out.mono (by omega)))
  have hw4:w.heap.size≤w4.heap.size:=by omega
  have HCI:=Lib.hid (copyI_any w1.heap.size K1 cx _ DL w4 HRX5.out (by omega))
  have hq24:DL.length+K2≤1099511627776:=by rw [HLDX.out];omega
  clear HCX HCY HNX HNX4 HNY HNY4 HXL HYL HRX4 HRY4 HTC HBC HB4 HRXc HRYc
  go_wp2_with (first
   | (go_at_call 123;(with_reducible refine HCI.out.mono ?_);go_must (rintro e w5 ⟨A5,c5,rfl,hc5,hc59,ho5,hb5⟩;have HO5:=Lib.hid ho5;have HB5:=Lib.hid hb5;have hz5:=hb5.size;have HRY6:=Lib.hid (RdI.blw HRY5.out (hb5.mono (by omega)));clear ho5 hb5))
   | (at_builtin;(refine wpList_appendI rfl (.tmp 134) (.tmp 135) rfl w4.heap.size _ DL rfl HO5.out wc.heap.size K2 cy _ DD rfl HRY6.out hq24 hz5 ?_;intro v6 w6 h6 hg6 hb6 hat6;obtain ⟨A6,c6,hv6,hr6,-,-⟩:=h6.form;rw [hLL] at hv6 hr6;subst hv6;have hb46:=HB5.out.trans hb6;have hz6:=hb46.size;have HB6:=Lib.hid hb46;have HRU:=Lib.hid (runs5_any w6.heap.size (K1+K2) c6 A6 (DL ++ DD) w6 hr6 (Nat.le_refl _) (by omega) (fun x hx=>(HR9.out x hx).1));clear h6 hg6 hb6 hat6 hb46 hr6))
   | (go_at_call 122;(with_reducible refine HRU.out.mono ?_);go_must (rintro e w7 ⟨v7,rfl,ho7,hb7⟩;have HO7:=Lib.hid ho7;have HB7:=Lib.hid (HB6.out.trans (hb7.mono hz6));have hz7:=hb7.size;clear ho7 hb7))
   | (at_make;refine wpList_makeI rfl _ _ rfl 19 _ rfl rfl rfl (by omega) ?_;intro w8 hown hb8 hsz8;have HOW:=Lib.hid hown;have HB8:=Lib.hid hb8;clear hown hb8))
  have HSO:Hid (∀ s ∈ runsP (DL ++ DD),SgnOK s):=(show ∀ s ∈ _,_ from runsF_ok (DL ++ DD).length (DL ++ DD) HR9.out)
  have hSL:(runsP (DL ++ DD)).length≤K1+K2:=by
   have:=runsF_len (DL ++ DD).length (DL ++ DD)
   rw [← hLL]
   exact this
  generalize runsP (DL ++ DD)=SS at *
  obtain ⟨AR,cR,rfl,hRR,-,-⟩:=HO7.out.form
  obtain ⟨nS,hnS⟩:∃ nS,SS.length=nS:=⟨_,rfl⟩
  rw [hnS] at hSL hRR
  simp only [hnS]
  obtain ⟨gW,hgW⟩:∃ gW,w7.heap.size=gW:=⟨_,rfl⟩
  have HRR:=Lib.hid hRR
  have HNS:=Lib.hid hnS
  rw [hgW] at HOW HB8 hsz8 HRR
  simp only [hgW]
  clear hRR HO7 hnS HRU HR9 hLL HCI
  go_loopw [24] (fun vi wr=>∃ j:Nat,j≤nS∧vi=.int .i64 j∧Hid (ownI wr gW (.slice (some ⟨gW,0,none⟩) 19 19) (wgtC (SS.take j)))∧Hid (Below gW w7 wr)∧gW < wr.heap.size) (fun vi _=>nS - (intOf vi).toNat)
  case atStart=>exact ⟨0,Nat.zero_le _,rfl,HOW,HB8,hsz8⟩
  case round =>
   clear HOW HB8 hsz8
   obtain ⟨j,hj,rfl,HOW,HB8,hgw6⟩:=hrel
   by_cases hjt:j < nS
   ·have hjti:(j:Int) < (nS:Int):=by omega
    obtain ⟨b,o,⟨x,m,y⟩,e0,hb,HX,e1,e2,e3⟩:=(RdN.blw HRR.out HB8.out).one hjt
    subst e0
    have hx19:x < 19:=(HSO.out _ (List.mem_of_getElem? HX.out)).1
    have HLA:=Lib.hid (wgtC_len (SS.take j))
    have HRA:=Lib.hid (wgtC_rng (SS.take j))
    have HTL:Hid ((SS.take j).length≤400):=(show _≤_ by rw [List.length_take];omega)
    have HSA:Hid (wgtC (SS.take (j+1))=bump (wgtC (SS.take j)) x):=(show _=_ by unfold wgtC;rw [take_map_snoc (fun s:Sgn=>s.1) HX.out,bumps_snoc])
    generalize wgtC (SS.take j)=la at *
    have hgaN:¬ gW=b:=by omega
    have hbN:¬ b=gW:=by omega
    have hyl:x < la.length:=by rw [HLA.out];omega
    have HXV:=Lib.hid (List.getElem?_eq_getElem hyl)
    have c7:=HOW.out.cell HLA.out.symm hyl
    have f7:=HOW.out.frozen HLA.out.symm x
    have hr7:=HRA.out _ (List.getElem_mem hyl)
    generalize la[x]=z at *
    have HOW2:=Lib.hid (HOW.out.store HLA.out.symm x (z+1))
    rw [← bump_set HXV.out,← HSA.out] at HOW2
    have HB82:=Lib.hid (HB8.out.setCell (p:=⟨gW,x,none⟩) (Nat.le_refl _) (.int .i64 (z+1)))
    have hz7':0≤z∧z≤500:=by have:=HTL.out;omega
    have hx19i:(x:Int) < 19:=by omega
    clear HOW HB8 HRA HTL hr7 HXV HSA
    go_wp2_with fail
    go_roundw
    case rel=>exact ⟨j+1,by omega,by go_num,HOW2,HB82,by simp;omega⟩
    case measure=>simp [intOf];omega
   ·obtain rfl:nS=j:=by omega
    rw [show SS.take nS=SS from List.take_of_length_le (by rw [HNS.out];exact Nat.le_refl _)] at HOW
    obtain ⟨wd,rfl⟩:∃ wd:World,wd=wr:=⟨_,rfl⟩
    have hzd:=HB8.out.size
    have HLE:=Lib.hid (lens5_ok wd.heap.size 19 19 _ (wgtC SS) 7 7 rfl wd HOW.out.rd (Nat.le_refl _) (by omega) (by omega) (by omega) (by omega) (fun x hx=>by have:=wgtC_rng SS x hx;rw [HNS.out] at this;omega) (by decide))
    have HCO:=Lib.hid (lensC_ok SS)
    have HCL:=Lib.hid (lensC_len SS)
    have HCR:=Lib.hid (lensC_rng SS)
    have HLE:Hid (Calls _ _ _ _ fun e w'=>∃ g c',e=.returned (.tuple #[.slice (some ⟨g,0,none⟩) 19 c',.int .i64 0])∧19≤c'∧c'≤maxLen∧wd.heap.size≤g∧g < w'.heap.size∧ownI w' wd.heap.size (.slice (some ⟨g,0,none⟩) 19 c') (lensC SS)∧Below wd.heap.size wd w'):=HLE
    generalize lensC SS=CL at *
    have HRRd:=Lib.hid (RdN.blw HRR.out HB8.out)
    have HOR:=Lib.hid (fun w=>order5_any w)
    clear HOW
    go_upto_block 6 with (first
     | (go_at_call 120;(with_reducible refine HLE.out.mono ?_);go_must (rintro e w9 ⟨gz,cz,rfl,-,-,hgz,hgz2,ho9,hb9⟩;have HO9:=Lib.hid ho9;have HB9:=Lib.hid hb9;have hz9:=hb9.size;have HCD:=Lib.hid (codes5_ok w9.heap.size 19 cz _ CL w9 ho9.rd (Nat.le_refl _) (by omega) HCO.out);clear ho9 hb9))
     | (go_at_call 118;(with_reducible refine HCD.out.mono ?_);go_must (rintro e w10 ⟨gk,ck,rfl,hgk,hgk2,hck,hb10⟩;have HCK:=Lib.hid hck;have HO10:=Lib.hid (ownI.later HO9.out hb10);have HB10:=Lib.hid (HB9.out.trans (hb10.mono hz9));have hz10:=hb10.size;clear hck hb10 HO9))
     | (go_at_call 124;(with_reducible refine (HOR.out w10).mono ?_);go_must (rintro e w11 ⟨rfl,ho11,hb11⟩;have HOO:=Lib.hid ho11;have HOZ:=Lib.hid (ownI.later HO10.out hb11);have HCK11:=Lib.hid (HCK.out.later hgk2 hb11);have HB11:=Lib.hid (HB10.out.trans (hb11.mono (by omega)));have hz11:=hb11.size;have hgo2:=(World.ownsRow.lt ho11 w10.heap.size rfl).2;clear ho11 hb11 HO10 HCK)))
    obtain ⟨gor,hgor⟩:∃ g,w10.heap.size=g:=⟨_,rfl⟩
    rw [hgor] at HOO hgo2
    simp only [hgor]
    go_cut [30] from 166 to 180 (fun v wc=>v=.int .i64 ((hcK CL 19:Nat):Int)∧wc=w11)
    case first =>
     go_wp2_with fail
     go_loopw [30] (fun vi wr=>∃ q:Nat,4≤q∧q≤19∧vi=.int .i64 q∧Hid (hcK CL q=hcK CL 19)∧wr=w11) (fun vi _=>(intOf vi).toNat)
     case atStart=>exact ⟨19,by omega,Nat.le_refl _,rfl,(show _=_ from rfl),rfl⟩
     case round =>
      obtain ⟨q,hq4,hq19,rfl,HQ,hwe⟩:=hrel
      subst hwe
      by_cases hq:4 < q
      ·have hqi:(q:Int) > 4:=by omega
       obtain ⟨t,rfl⟩:∃ t,q=t+1:=⟨q - 1,by omega⟩
       have hqt:((t+1:Nat):Int) - 1=(t:Int):=by omega
       obtain ⟨yy,hyy⟩:∃ y,ordL[t]?=some y:=⟨_,List.getElem?_eq_getElem (by show t < 19;omega)⟩
       have hy19:=ordL_lt hyy
       have hy19i:(yy:Int) < 19:=by omega
       have ht19:t < 19:=by omega
       have ht19i:(t:Int) < 19:=by omega
       have hyl:yy < CL.length:=by rw [HCL.out];exact hy19
       have HY:=Lib.hid (List.getElem?_eq_getElem hyl)
       have HYY:=Lib.hid hyy
       have cl7:=ownI.cell HOZ.out HCL.out.symm hyl
       have co:=ownI.cell HOO.out rfl (k:=t) (by show t < 19;omega)
       have hco:(ordL.map fun (x:Nat)=>(x:Int))[t]'(by show t < 19;omega)=(yy:Int):=(by rw [List.getElem_map];have:=hyy;rw [List.getElem?_eq_getElem (by show t < 19;omega)] at this;injection this with this;rw [this])
       rw [hco] at co
       obtain ⟨v,hv⟩:∃ v,CL[yy]=v:=⟨_,rfl⟩
       rw [hv] at cl7 HY
       clear hyy hv hco
       by_cases hv0:v=0
       ·have d1:(v == 0)=true:=by rw [hv0];rfl
        have HQ2:Hid (hcK CL t=hcK CL 19):=(show _=_ by rw [← HQ.out];exact (hcK_on hq HYY.out HY.out hv0).symm)
        go_wp2_with fail
        go_roundw
        case rel=>exact ⟨t,by omega,by omega,by go_num,HQ2,trivial⟩
        case measure=>simp [intOf] <;> omega
       ·have d1:(v == 0)=false:=beq_eq_false_iff_ne.2 hv0
        have HQ2:Hid (t+1=hcK CL 19):=(show _=_ by rw [← HQ.out];exact (hcK_off HYY.out HY.out hv0).symm)
        go_wp2_with fail
        go_meet
        case rel=>exact ⟨by rw [← HQ2.out];try rfl,by first | rfl | trivial⟩
      ·have hqi:¬ (q:Int) > 4:=by omega
       have HQ2:Hid (q=hcK CL 19):=(show _=_ by rw [← HQ.out,hcK_least (by omega)])
       go_wp2_with fail
       go_meet
       case rel=>exact ⟨by rw [← HQ2.out];try rfl,by first | rfl | trivial⟩
    case rest =>
     obtain ⟨rfl,hwe⟩:=hcut
     rw [hwe]
     clear hwe
     have hN4:=hcK_ge CL 19 (by omega)
     have hN19:=hcK_le CL 19
     obtain ⟨N,hN⟩:∃ N,hcK CL 19=N:=⟨_,rfl⟩
     rw [hN] at hN4 hN19 HLB
     simp only [hN]
     clear hN
     try clear HOR
     try clear HLE
     try clear HLX
     try clear HCD
     rename_i y0 y1 y2 y3 y4 y5 y6 y7 y8 y9 y10 y11 y12 y13 y14 y15 y16 y17 y18 y19 y20 y21 y22 y23 y24 y25 y26 y27 y28 y29 y30 y31 y32 y33 y34 y35 y36 y37
     revert B c A ts w hB HOK HSZ z0 z1 z2 z3 z4 z5 z6 z7 z8 z9 z10 z11 z12 z13 z14 z15 z16 z17 z18 z19 z20 z21 z22 z23 z24 z25 z26 z27 z28 z29 z30 z31 z32 z33 z34 z35 z36 z37 z38 z39 z40 z41 z42 z43 z44 z45 z46 z47 z48 z49 z50 z51 z52 z53 z54 z55 z56 z57 z58 z59 z60 z61 z62 z63 z64 z65 z66 z67 z68 z69 z70 z71 z72 z73 z74 z75 z76 z77 z78 z79 z80 z81 z82 z83 z84 z85 z86 z87 z88 z89 z90 z91 z92 z93 z94 z95 z96 z97 z98 z99 z100 z101 z102 z103 z104 z105 z106 z107 z108 z109 z110 z111 z112 z113 z114 z115 z116 z117 z118 z119 z120 z121 z122 z123 z124 z125 z126 z127 z128 z129 z130 z131 z132 z133 z134 z135 z136 z137 z138 z139 z140 z141 z142 z143 z144 z145 z146 z147 z148 z149 z150 z151 z152 z153 z154 z155 z156 z157 z158 z159 z160 z161 z162 z163 z164 z165 z166 z167 z168 z169 z170 z171 z172 z173 z174 z175 z176 z177 z178 z179 z180 z181 z182 z183 z184 z185 z186 z187 z188 z189 z190 z191 z192 z193 z194 z195 z196 z197 z198 z199 z200 z201 z202 z203 z204 z205 z206 z207 z208 z209 z210 z211 z212 z213 z214 z215 z216 z217 z218 z219 z220 z221 z222 z223 z224 z225 z226 z227 z228 z229 z230 z231 ga gb hgab hga hgb z232 u6 u7 u8 u9 u10 u11 z233 z234 z235 z236 z237 z238 z239 z240 z241 z242 z243 z244 z245 z246 z247 z248 z249 z250 z251 z252 z253 z254 z255 z256 z257 z258 z259 z260 z261 z262 z263 z264 z265 z266 z267 z268 z269 z270 z271 z272 z273 z274 z275 z276 z277 z278 z279 z280 z281 z282 z283 z284 z285 z286 k hn HR hl hk hlt wo hgaw hgbw lD HDL hzo z287 z288 z289 w1 gx cx hcx hcx2 hgx hgx2 hz1 gy cy hcy hcy2 hgy z290 z291 z292 z293 z294 z295 z296 z297 z298 z299 z300 z301 z302 z303 z304 hi hi30 zb x0 wb hgy2 HOY hz2 z305 z306 z307 y0 u16 u34 u35 u36 u37 u38 u39 u40 u41 u42 u43 u44 u45 u46 u47 u48 u49 u50 u51 u52 u53 u54 u55 u56 u57 u58 u59 u60 u61 u62 u63 u64 u65 u66 u67 u68 u69 u70 u71 u72 u73 u74 u75 u76 u77 u78 u79 u80 u81 u82 u83 u84 u85 u86 u87 u88 u89 u90 u91 u92 u93 u94 u95 u96 u97 u98 u99 u100 u101 u102 u103 u104 u105 u106 u107 u108 u109 u110 u111 u112 u113 u114 u115 u116 u117 u118 u119 u120 u121 u122 u123 u124 u125 u126 u127 u128 u129 u130 u131 u132 u133 u134 u135 u136 u137 u138 y1 y2 y3 y4 y5 y6 y7 y8 y9 y10 y11 y12 y13 y14 y15 y16 u155 u156 u157 u158 u159 u160 u161 u162 u163 u164 u165 y17 y18 y19 y20 y21 y22 y23 y24 y25 y26 y27 y28 y29 y30 y31 u181 u182 u183 u184 u185 u186 u187 u188 u189 u190 u191 u192 u193 u194 u195 u196 u197 u198 u199 u200 u201 u202 u203 u204 u205 u206 u207 u208 u209 u210 u211 u212 u213 u214 u215 u216 u217 u218 u219 u220 u221 u222 u223 u224 u225 u226 u227 u228 u229 u230 u231 u232 u233 u234 u235 u236 u237 u238 u239 u240 u241 u242 u243 u244 u245 u246 u247 u248 u249 u250 u251 u252 u253 u254 u255 u256 u257 u258 u259 u260 u261 u262 u263 hz2b hBo hgy3 hw1c hwc K1 hkx2 hkx1 K2 hky2 hky1 DL HLDX DD HLDY UL HLX2 HUX UD HLY2 HUY HIN HOWN w3 gp cp hgp hgp2 hz3 hii w4 gq cq hgq hgq2 HCQ hz4 HCP4 HRX5 HRY5 HBC4 HTC4 hw4 hq24 w5 A5 c5 hc5 hc59 HO5 HB5 hz5 HRY6 w6 A6 c6 hz6 HB6 w7 HB7 hz7 w8 y32 SS HSO AR cR nS hSL gW hgW HRR HNS u139 u140 u141 u142 u143 u144 u145 u146 u147 u148 u149 u150 u151 u152 u153 u154 hj hjt wd HB8 hgw6 hzd HLE CL HCO HCL HCR HRRd y33 y34 y35 w9 gz cz hgz hgz2 HB9 hz9 w10 gk ck hgk hgk2 HB10 hz10 w11 HOZ HCK11 HB11 hz11 y36 y37 gor hgo2 HOO hgor wc u166 u167 u168 u169 u170 u171 u172 u173 u174 u175 u176 u177 u178 u179 u180 N HLB hN19 hN4
     exact HKY.out
end Go.Proofs.YteoolehdomjkkaaGreat

/- flate: the document's block by codes of its own: the writer. -/
namespace Go.Proofs.YteoolehdomjkkaaGreat
set_option linter.all false
open Go.RowKit
set_option maxRecDepth 100000 in
set_option maxHeartbeats 12800000 in
theorem dyn5_C:dyn5_B.1:=by
 intro B c A ts w hB HOK HSZ z0 z1 z2 z3 z4 z5 z6 z7 z8 z9 z10 z11 z12 z13 z14 z15 z16 z17 z18 z19 z20 z21 z22 z23 z24 z25 z26 z27 z28 z29 z30 z31 z32 z33 z34 z35 z36 z37 z38 z39 z40 z41 z42 z43 z44 z45 z46 z47 z48 z49 z50 z51 z52 z53 z54 z55 z56 z57 z58 z59 z60 z61 z62 z63 z64 z65 z66 z67 z68 z69 z70 z71 z72 z73 z74 z75 z76 z77 z78 z79 z80 z81 z82 z83 z84 z85 z86 z87 z88 z89 z90 z91 z92 z93 z94 z95 z96 z97 z98 z99 z100 z101 z102 z103 z104 z105 z106 z107 z108 z109 z110 z111 z112 z113 z114 z115 z116 z117 z118 z119 z120 z121 z122 z123 z124 z125 z126 z127 z128 z129 z130 z131 z132 z133 z134 z135 z136 z137 z138 z139 z140 z141 z142 z143 z144 z145 z146 z147 z148 z149 z150 z151 z152 z153 z154 z155 z156 z157 z158 z159 z160 z161 z162 z163 z164 z165 z166 z167 z168 z169 z170 z171 z172 z173 z174 z175 z176 z177 z178 z179 z180 z181 z182 z183 z184 z185 z186 z187 z188 z189 z190 z191 z192 z193 z194 z195 z196 z197 z198 z199 z200 z201 z202 z203 z204 z205 z206 z207 z208 z209 z210 z211 z212 z213 z214 z215 z216 z217 z218 z219 z220 z221 z222 z223 z224 z225 z226 z227 z228 z229 z230 z231 ga gb hgab hga hgb z232 u6 u7 u8 u9 u10 u11 z233 z234 z235 z236 z237 z238 z239 z240 z241 z242 z243 z244 z245 z246 z247 z248 z249 z250 z251 z252 z253 z254 z255 z256 z257 z258 z259 z260 z261 z262 z263 z264 z265 z266 z267 z268 z269 z270 z271 z272 z273 z274 z275 z276 z277 z278 z279 z280 z281 z282 z283 z284 z285 z286 k hn HR hl hk hlt wo hgaw hgbw lD HDL hzo z287 z288 z289 w1 gx cx hcx hcx2 hgx hgx2 hz1 gy cy hcy hcy2 hgy z290 z291 z292 z293 z294 z295 z296 z297 z298 z299 z300 z301 z302 z303 z304 hi hi30 zb x0 wb hgy2 HOY hz2 z305 z306 z307 y0 u16 u34 u35 u36 u37 u38 u39 u40 u41 u42 u43 u44 u45 u46 u47 u48 u49 u50 u51 u52 u53 u54 u55 u56 u57 u58 u59 u60 u61 u62 u63 u64 u65 u66 u67 u68 u69 u70 u71 u72 u73 u74 u75 u76 u77 u78 u79 u80 u81 u82 u83 u84 u85 u86 u87 u88 u89 u90 u91 u92 u93 u94 u95 u96 u97 u98 u99 u100 u101 u102 u103 u104 u105 u106 u107 u108 u109 u110 u111 u112 u113 u114 u115 u116 u117 u118 u119 u120 u121 u122 u123 u124 u125 u126 u127 u128 u129 u130 u131 u132 u133 u134 u135 u136 u137 u138 y1 y2 y3 y4 y5 y6 y7 y8 y9 y10 y11 y12 y13 y14 y15 y16 u155 u156 u157 u158 u159 u160 u161 u162 u163 u164 u165 y17 y18 y19 y20 y21 y22 y23 y24 y25 y26 y27 y28 y29 y30 y31 u181 u182 u183 u184 u185 u186 u187 u188 u189 u190 u191 u192 u193 u194 u195 u196 u197 u198 u199 u200 u201 u202 u203 u204 u205 u206 u207 u208 u209 u210 u211 u212 u213 u214 u215 u216 u217 u218 u219 u220 u221 u222 u223 u224 u225 u226 u227 u228 u229 u230 u231 u232 u233 u234 u235 u236 u237 u238 u239 u240 u241 u242 u243 u244 u245 u246 u247 u248 u249 u250 u251 u252 u253 u254 u255 u256 u257 u258 u259 u260 u261 u262 u263 hz2b hBo hgy3 hw1c hwc K1 hkx2 hkx1 K2 hky2 hky1 DL HLDX DD HLDY UL HLX2 HUX UD HLY2 HUY HIN HOWN w3 gp cp hgp hgp2 hz3 hii w4 gq cq hgq hgq2 HCQ hz4 HCP4 HRX5 HRY5 HBC4 HTC4 hw4 hq24 w5 A5 c5 hc5 hc59 HO5 HB5 hz5 HRY6 w6 A6 c6 hz6 HB6 w7 HB7 hz7 w8 y32 SS HSO AR cR nS hSL gW hgW HRR HNS u139 u140 u141 u142 u143 u144 u145 u146 u147 u148 u149 u150 u151 u152 u153 u154 hj hjt wd HB8 hgw6 hzd HLE CL HCO HCL HCR HRRd y33 y34 y35 w9 gz cz hgz hgz2 HB9 hz9 w10 gk ck hgk hgk2 HB10 hz10 w11 HOZ HCK11 HB11 hz11 y36 y37 gor hgo2 HOO hgor wc u166 u167 u168 u169 u170 u171 u172 u173 u174 u175 u176 u177 u178 u179 u180 N HLB hN19 hN4
 obtain ⟨g,hg⟩:∃ g,w11.heap.size=g:=⟨_,rfl⟩
 obtain ⟨w12,hw12⟩:∃ w12,w11.alloc (.cells #[Value.slice none 0 0] 145)=w12:=⟨_,rfl⟩
 have HW12:Hid (RWr w12 g (.slice none 0 0) []):=(show RWr _ _ _ _ by rw [← hw12,← hg];exact ⟨Arr.new w11 [.slice none 0 0] _,ownB.nil_ _ _,fun b hb=>absurd hb List.not_mem_nil⟩)
 have hb112:Below w11.heap.size w11 w12:=by rw [← hw12];exact (Below.refl _ _).alloc (Nat.le_refl _) _
 have hz12:w12.heap.size=g+1:=by rw [← hw12,World.size_alloc,hg]
 have hB8b:Below w4.heap.size w7 wd:=HB8.out.mono (by omega)
 have hB11b:Below w4.heap.size wd w11:=HB11.out.mono (by omega)
 have hB4:Below w4.heap.size w4 w11:=(HB7.out.trans hB8b).trans hB11b
 have hB412:Below w4.heap.size w4 w12:=hB4.trans (hb112.mono (by omega))
 have HBW12:=Lib.hid (HBC4.out.trans (hB412.mono hw4))
 have HT:=Lib.hid ((HTC4.out.blw (hB412.mono (by omega))).more (show B≤g by omega))
 have HS:=Lib.hid ((RdN.blw (RdN.blw HRRd.out (HB11.out.mono (by omega))) (hb112.mono (by omega))).more (show gW≤g by omega))
 have hrz:=RdI.blw (ownI.rd HOZ.out) hb112
 have hro:=RdI.blw (ownI.rd HOO.out) hb112
 rw [hg] at hrz hro
 have HZ:=Lib.hid hrz
 have HO:=Lib.hid hro
 have hgk3:gk < g:=by omega
 have hgp3:gp < g:=by omega
 have hgq3:gq < g:=by omega
 have HK:=Lib.hid (HCK11.out.blw (B:=w11.heap.size) (by omega) hb112)
 have HP:=Lib.hid (HCP4.out.blw (B:=w4.heap.size) (by omega) hB412)
 have HQ:=Lib.hid (HCQ.out.blw (B:=w4.heap.size) (by omega) hB412)
 have hgw:w.heap.size≤g:=by omega
 have hg12:g≤w12.heap.size:=by omega
 have HBL:Hid (∀ w' p,WrFr w12 w' g (.slice none 0 0) p→Below g w12 w'):=(show ∀ w' p,_ from fun w' p hf=>hf.below hg12 (Nat.le_refl _) (fun k hk=>by cases hk))
 have HXK:=Lib.hid (bxN (w:=w12) (g:=g) (b:=gk) (by omega) (by omega))
 have HXP:=Lib.hid (bxN (w:=w12) (g:=g) (b:=gp) (by omega) (by omega))
 have HXQ:=Lib.hid (bxN (w:=w12) (g:=g) (b:=gq) (by omega) (by omega))
 clear hB8b hB11b hB4 hB412 hb112 hrz hro HB7 HB8 HB11 HBC4 HTC4 HRRd HOZ HOO HCK11 HCP4 HCQ HRX5 HRY5 HRR HOK HDL hzo HOY HR
 obtain ⟨a1,ha1⟩:∃ a,K1 - 257=a:=⟨_,rfl⟩
 obtain ⟨a2,ha2⟩:∃ a,K2 - 1=a:=⟨_,rfl⟩
 obtain ⟨a3,ha3⟩:∃ a,N - 4=a:=⟨_,rfl⟩
 rw [ha1,ha2,ha3] at HLB
 have e1:(K1:Int) - 257=(a1:Int):=by omega
 have e2:(K2:Int) - 1=(a2:Int):=by omega
 have e3:(N:Int) - 4=(a3:Int):=by omega
 have ce1:(a1:Int) % 4294967296=(a1:Int):=by omega
 have ce2:(a2:Int) % 4294967296=(a2:Int):=by omega
 have ce3:(a3:Int) % 4294967296=(a3:Int):=by omega
 have HP1:=Lib.hid (wputR_any g 1 1 1 1 rfl rfl _ _ w12 HW12.out (by decide) (by decide) (by decide))
 rw [show ([]:List Nat) ++ lsb 1 1=[1] by decide] at HP1
 have HH2:Hid ([1] ++ lsb 2 2=headL 2):=(show _=_ by decide)
 have HHL:=Lib.hid (headL_len 2)
 generalize headL 2=H2 at *
 go_wp2_with (first
  | (go_at_call 116;(with_reducible refine HP1.out.mono ?_);go_must (rintro e w13 ⟨rfl,p13,hw13,hf13⟩;have HF13:=Lib.hid hf13;have HP2:=Lib.hid (wputR_any g 2 2 2 2 rfl rfl p13 [1] w13 hw13 (by decide) (by decide) (by decide));rw [HH2.out] at HP2;clear hw13 hf13))
  | (go_at_call 116;(with_reducible refine HP2.out.mono ?_);go_must (rintro e w14 ⟨rfl,p14,hw14,hf14⟩;have HF14:=Lib.hid (HF13.out.trans hf14);have HP3:=Lib.hid (wputR_any g a1 5 (a1:Int) 5 rfl rfl p14 H2 w14 hw14 (by have:=HHL.out;omega) (by decide) (by show a1 < 32;omega));clear hw14 hf14))
  | (go_at_call 116;(with_reducible refine HP3.out.mono ?_);go_must (rintro e w15 ⟨rfl,p15,hw15,hf15⟩;have HF15:=Lib.hid (HF14.out.trans hf15);have HP4:=Lib.hid (wputR_any g a2 5 (a2:Int) 5 rfl rfl p15 _ w15 hw15 (by have:=HHL.out;rw [List.length_append,lsb_len];omega) (by decide) (by show a2 < 32;omega));clear hw15 hf15))
  | (go_at_call 116;(with_reducible refine HP4.out.mono ?_);go_must (rintro e w16 ⟨rfl,p16,hw16,hf16⟩;have HF16:=Lib.hid (HF15.out.trans hf16);have HP5:=Lib.hid (wputR_any g a3 4 (a3:Int) 4 rfl rfl p16 _ w16 hw16 (by have:=HHL.out;rw [List.length_append,List.length_append,lsb_len,lsb_len];omega) (by decide) (by show a3 < 16;omega));clear hw16 hf16))
  | (go_at_call 116;(with_reducible refine HP5.out.mono ?_);go_must (rintro e w17 ⟨rfl,p17,hw17,hf17⟩;have HF17:=Lib.hid (HF16.out.trans hf17);have HW17:=Lib.hid hw17;clear hw17 hf17)))
 clear HP1 HP2 HP3 HP4 HP5 HF13 HF14 HF15 HF16
 obtain ⟨L3,hL3⟩:∃ L3,H2 ++ lsb a1 5 ++ lsb a2 5 ++ lsb a3 4=L3:=⟨_,rfl⟩
 have hL3n:L3.length≤100:=by have:=HHL.out;rw [← hL3,List.length_append,List.length_append,List.length_append,lsb_len,lsb_len,lsb_len];omega
 rw [hL3] at HW17
 have HL30:Hid (L3 ++ ((ordL.take N).take 0).flatMap (ordF CL)=L3):=(show _=_ by simp)
 go_loopw [32] (fun vi wr=>∃ i:Nat,i≤N∧vi=.int .i64 i∧∃ pq,Hid (RWr wr g pq (L3 ++ ((ordL.take N).take i).flatMap (ordF CL)))∧Hid (WrFr w12 wr g (.slice none 0 0) pq)) (fun vi _=>N - (intOf vi).toNat)
 case atStart=>exact ⟨0,Nat.zero_le _,rfl,p17,(show RWr _ _ _ _ by rw [HL30.out];exact HW17.out),HF17⟩
 case round =>
  clear HW17 HL30 HF17
  obtain ⟨i,hi,rfl,pq,HW,HF⟩:=hrel
  by_cases hlt:i < N
  ·have hlti:(i:Int) < (N:Int):=by omega
   have hbl:=HBL.out wr pq HF.out
   obtain ⟨bo,oo,xo,eo,hbo,HXO,co⟩:=(RdI.blw HO.out hbl).one (k:=i) (by omega)
   injection eo with eo;injection eo with eo1 eo2;subst eo1 eo2
   rw [Nat.zero_add] at co
   obtain ⟨y,hy,hxo⟩:=ordI_get HXO.out
   subst hxo
   have hy19:=ordL_lt hy
   have hyi:(y:Int) < 19:=by omega
   have hi19:(i:Int) < 19:=by omega
   have hi19n:i < 19:=by omega
   have hyl:y < CL.length:=by rw [HCL.out];exact hy19
   obtain ⟨bz,oz,xz,ez,hbz,HXZ,cl⟩:=(RdI.blw HZ.out hbl).one (k:=y) hy19
   injection ez with ez;injection ez with ez1 ez2;subst ez1 ez2
   rw [Nat.zero_add] at cl
   have hv:=HCR.out _ (List.mem_of_getElem? HXZ.out)
   obtain ⟨t,ht⟩:=Int.eq_ofNat_of_zero_le hv.1
   have HTT:Hid (ordF CL y=lsb t 3):=(show _=_ by unfold ordF;rw [List.getD_eq_getElem?_getD,HXZ.out];show lsb xz.toNat 3=_;rw [ht];rfl)
   rw [ht] at cl hv
   have ht8:t < 8:=by omega
   have ct:(t:Int) % 4294967296=(t:Int):=by omega
   have HST:Hid (L3 ++ ((ordL.take N).take (i+1)).flatMap (ordF CL)=L3 ++ ((ordL.take N).take i).flatMap (ordF CL) ++ lsb t 3):=(show _=_ by rw [take_flat_snoc (ordF CL) (l:=ordL.take N) (k:=i) (x:=y) (by rw [List.getElem?_take,if_pos hlt];exact hy),HTT.out,List.append_assoc])
   have hll:(L3 ++ ((ordL.take N).take i).flatMap (ordF CL)).length≤200:=by rw [List.length_append,ords_len,List.length_take,List.length_take];omega
   generalize L3 ++ ((ordL.take N).take i).flatMap (ordF CL)=LL at *
   have HPP:=Lib.hid (wputR_any g t 3 (t:Int) 3 rfl rfl _ _ _ HW.out (by omega) (by decide) ht8)
   clear hv ht HTT hy HW HXO HXZ hbl
   go_wp2_with (go_at_call 116;(with_reducible refine HPP.out.mono ?_);go_must (rintro e w14 ⟨rfl,p14,hw14,hf14⟩;rw [← HST.out] at hw14;have HW14:=Lib.hid hw14;have HF14:=Lib.hid (HF.out.trans hf14);clear hw14 hf14))
   go_roundw
   case rel=>exact ⟨i+1,by omega,by go_num,p14,HW14,HF14⟩
   case measure=>simp [intOf];omega
  ·obtain rfl:i=N:=by omega
   rw [show (ordL.take i).take i=ordL.take i from by rw [List.take_take,Nat.min_self]] at HW
   obtain ⟨L4,hL4⟩:∃ L4,L3 ++ (ordL.take i).flatMap (ordF CL)=L4:=⟨_,rfl⟩
   have hL4n:L4.length≤200:=by rw [← hL4,List.length_append,ords_len,List.length_take];omega
   rw [hL4] at HW
   have HFIN:Hid (L4 ++ SS.flatMap (sgnB CL)=H2 ++ listsB DL DD):=(show _=_ by rw [HLB.out,← hL4,← hL3];simp only [List.append_assoc])
   have HSB:=Lib.hid (fun k=>sgns_le HCO.out HCL.out (ss:=SS.take k) (take_sub HSO.out k))
   obtain ⟨we,rfl⟩:∃ we:World,we=wr:=⟨_,rfl⟩
   clear hL4 hL3 HLB HCR
   have HL40:Hid (L4 ++ (SS.take 0).flatMap (sgnB CL)=L4):=(show _=_ by simp)
   go_wp2_with fail
   go_loopw [33] (fun vi wr=>∃ j:Nat,j≤nS∧vi=.int .i64 j∧∃ pq,Hid (RWr wr g pq (L4 ++ (SS.take j).flatMap (sgnB CL)))∧Hid (WrFr w12 wr g (.slice none 0 0) pq)) (fun vi _=>nS - (intOf vi).toNat)
   case atStart=>exact ⟨0,Nat.zero_le _,rfl,pq,(show RWr _ _ _ _ by rw [HL40.out];exact HW.out),HF⟩
   case round =>
    clear HW HF HL40
    obtain ⟨j,hj,rfl,pq,HW,HF⟩:=hrel
    by_cases hjt:j < nS
    ·have hjti:(j:Int) < (nS:Int):=by omega
     obtain ⟨b,o,⟨x,m,y⟩,e0,hb,HX,s1,s2,s3⟩:=(RdN.blw HS.out (HBL.out wr pq HF.out)).one hjt
     subst e0
     have hok:=HSO.out _ (List.mem_of_getElem? HX.out)
     have hx19:x < 19:=hok.1
     have hm:m < 2 ^ y:=hok.2.1
     have hy7:y≤7:=hok.2.2
     have hx19i:(x:Int) < 19:=by omega
     have hxl:x < CL.length:=by rw [HCL.out];exact hx19
     have hm32:m < 4294967296:=Nat.lt_of_lt_of_le hm (Nat.le_trans (Nat.pow_le_pow_right (by decide) hy7) (by decide))
     have cm:(m:Int) % 4294967296=(m:Int):=Int.emod_eq_of_lt (by omega) (by omega)
     have HST:Hid (L4 ++ (SS.take (j+1)).flatMap (sgnB CL)=L4 ++ (SS.take j).flatMap (sgnB CL) ++ codeB CL x ++ lsb m y):=(show _=_ by rw [take_flat_snoc (sgnB CL) HX.out];unfold sgnB;simp only [List.append_assoc])
     have hll:(L4 ++ (SS.take j).flatMap (sgnB CL)).length≤920000:=by rw [List.length_append];have:=HSB.out j;rw [List.length_take] at this;omega
     generalize L4 ++ (SS.take j).flatMap (sgnB CL)=LL at *
     obtain ⟨q1,q2⟩:=HK.out.bx HXK.out HF.out x hxl
     have hcl1:=codeB_le hxl HCO.out
     have HC:=Lib.hid (wcode_at g CL x hxl HCO.out _ _ _ HW.out.drew (by omega))
     generalize codeAt CL x=cv at *
     clear HW hok
     go_wp2_with fail
     go_still_tail 19,(by kernel_rfl)
     go_wp2_with ((go_at_call 125;(with_reducible refine HC.out.mono ?_);go_must (rintro e w6' ⟨rfl,p6,hw6,hf6⟩;have HW6:=Lib.hid hw6;have HF6:=Lib.hid (HF.out.drew.trans hf6);clear hw6 hf6)))
     obtain ⟨b2,o2,⟨x2,m2,y2⟩,e0,hb2,HX2,s4,s5,s6⟩:=(RdN.blw HS.out (HBL.out w6' p6 HF6.out)).one hjt
     injection e0 with e0;injection e0 with eo1 eo2;subst eo1 eo2
     have hxe:(x2,m2,y2)=(x,m,y):=by have:=HX2.out.symm.trans HX.out;injection this
     injection hxe with hx1 hx2;injection hx2 with hx2 hx3;subst hx1 hx2 hx3
     have HPP:=Lib.hid (wputR_any g m2 y2 (m2:Int) (y2:Int) rfl rfl _ _ _ HW6.out.drew (by rw [List.length_append];omega) (by omega) hm)
     clear HX HX2 HW6
     go_still_tail 12,(by kernel_rfl)
     go_wp2_with ((go_at_call 116;(with_reducible refine HPP.out.mono ?_);go_must (rintro e w7' ⟨rfl,p7,hw7,hf7⟩;rw [← HST.out] at hw7;have HW7:=Lib.hid hw7;have HF7:=Lib.hid (HF6.out.drew.trans hf7);clear hw7 hf7)))
     go_roundw
     case rel=>exact ⟨j+1,by omega,by go_num,p7,HW7,HF7⟩
     case measure=>simp [intOf];omega
    ·obtain rfl:j=nS:=by omega
     rw [show SS.take j=SS from List.take_of_length_le (by rw [HNS.out];exact Nat.le_refl _),HFIN.out] at HW
     have hbl:=HBL.out wr pq HF.out
     have HMX:Hid (∀ q,q≤k→(H2 ++ listsB DL DD).length+((ts.take q).flatMap (tokB UL UD)).length+100≤1000000):=(show ∀ q,_ from fun q hq=>by
      have h1:=toks_size HUX.out HUY.out (ts:=ts.take q) (fun t ht=>HIN.out t (List.mem_of_mem_take ht))
      have h2:=tokSize_take ts q
      have h4:=HSB.out j
      rw [show SS.take j=SS from List.take_of_length_le (by rw [HNS.out];exact Nat.le_refl _)] at h4
      have h6:=HNS.out
      have h3:(H2 ++ listsB DL DD).length≤8000:=by
       rw [← HFIN.out,List.length_append]
       omega
      have h5:=HSZ.out
      omega)
     have HBK:=Lib.hid (block5_any g k c 286 cp 30 cq gp gq g A ts UL UD pq (H2 ++ listsB DL DD) wr HW.out (HT.out.blw hbl) (HP.out.bx HXP.out HF.out) (HQ.out.bx HXQ.out HF.out) (HXP.out.wr HF.out) (HXQ.out.wr HF.out) (Nat.le_refl _) (fun k hk=>by have:=(World.ownsRow.lt HW.out.2.1 k hk).1;omega) (by omega) HLX2.out.symm HLY2.out.symm HIN.out HUX.out HUY.out (by omega) HMX.out)
     clear hbl
     go_wp2_with (go_at_call 119;(with_reducible refine HBK.out.mono ?_);go_must (rintro e w18 ⟨rfl,p18,hw18,hf18⟩;rw [← HOWN.out] at hw18;have HW18:=Lib.hid hw18;have HF18:=Lib.hid (HF.out.trans hf18);clear hw18 hf18))
     go_ret
     exact ⟨g,p18,rfl,hgw,HW18.out,HBW12.out.trans ((HBL.out w18 p18 HF18.out).mono hgw)⟩
theorem dynamic5_any (B n c:Nat) (A:Option Addr) (ts:List Tok) (w:World) (h:RdJ w B A n ts) (hB:B≤w.heap.size) (hn:n≤40000) (hok:∀ t ∈ ts,TokOK t) (hsz:tokSize ts≤40000) :
  Calls Tryz.prog 67 #[.slice A n c] w fun e w'=>∃ g pv,e=.returned (.pointer (some ⟨g,0,none⟩))∧w.heap.size≤g∧RWr w' g pv (ownBits ts)∧Below w.heap.size w w':=dyn5_A.2 (dyn5_B.2 dyn5_C) B n c A ts w h hB hn hok hsz
end Go.Proofs.YteoolehdomjkkaaGreat

