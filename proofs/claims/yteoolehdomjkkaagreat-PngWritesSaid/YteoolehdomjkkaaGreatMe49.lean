/- XLen5 -/
import Derived.Test.YteoolehdomjkkaaGreatMe48
import Derived.Test.YteoolehdomjkkaaGreatMe13
import Derived.Test.YteoolehdomjkkaaGreatMe05
import Derived.Deep.RegionHeld3
import Derived.Deep.CutBlock
namespace Go.Proofs.YteoolehdomjkkaaGreat
set_option linter.all false
open Go.RowKit
theorem len_bad {ws:List Int} {most:Int} {w w':World} (hw:wrongH ws most=true) (hb:Below w.heap.size w w'):LenPost ws most w (.returned (.tuple #[.slice none 0 0,.int .i64 1])) w':=by
 have h1:lenE ws most=1:=by unfold lenE;rw [if_pos hw]
 have h2:lenR ws most=[]:=by unfold lenR;rw [if_pos hw]
 exact ⟨none,0,0,by rw [h1],by rw [h2];rfl,by rw [h2];exact ownI.nil_ _ _,hb⟩
theorem badW_all {ws:List Int} (h:badW ws=false):∀ x ∈ ws,0≤x∧x≤1073741824:=fun x hx=>by
 unfold badW at h
 rw [List.any_eq_false] at h
 have:=h x hx
 simp at this
 omega
theorem cell_alloc3 {w:World} {b i:Nat} {v:Value} (h:w.cell? ⟨b,i,none⟩=some v) (o:Obj):(w.alloc o).cell? ⟨b,i,none⟩=some v:=(World.cell?_alloc_lt w o _ (block_lt_of_cell (a:=⟨b,i,none⟩) h)).trans h
theorem alloc_le3 (w:World) (o:Obj):w.heap.size≤(w.alloc o).heap.size:=by simp
theorem below_undrew2 {w w':World} (h:Below w.drew.heap.size w.drew w'):Below w.heap.size w w':=⟨h.os,h.tape,h.output,h.size,h.block⟩
theorem rdI_drew2 {w:World} {B n:Nat} {A:Option Addr} {l:List Int} (h:RdI w B A n l):RdI w.drew B A n l:=h
theorem wrap_i64_id2 {x:Int} (h0:0≤x) (h1:x≤4611686018427387904):IntKind.i64.wrap x=x:=by
 obtain ⟨n,rfl⟩:=Int.eq_ofNat_of_zero_le h0
 exact wrap_i64_lt n (by omega)
theorem Cs4.drew {w:World} {bl o d:Nat} {x y:MX} (h:Cs4 w bl o d x y):Cs4 w.drew bl o d x y:=h
theorem Cs4.al {w:World} {bl o d:Nat} {x y:MX} (h:Cs4 w bl o d x y) (ob:Obj):Cs4 (w.alloc ob) bl o d x y:=⟨cell_alloc3 h.1 _,cell_alloc3 h.2.1 _,cell_alloc3 h.2.2.1 _,cell_alloc3 h.2.2.2 _⟩
theorem wrong_bad {ws:List Int} {most:Int} (h:badW ws=true):wrongH ws most=true:=by unfold wrongH;simp [h]
theorem alloc_le2 (w:World) (o o':Obj):w.heap.size+1≤((w.drew.alloc o).alloc o').heap.size:=by simp
theorem wrong_fst {ws:List Int} {most:Int} (h:ws.length < 1∨300 < ws.length∨most < 1∨15 < most):wrongH ws most=true:=by
 unfold wrongH
 rcases h with h | h | h | h <;> simp [h]
theorem cell_blw3 {w w':World} {b i:Nat} {v:Value} {B:Nat} (hb:Below B w w') (hl:b < B) (h:w.cell? ⟨b,i,none⟩=some v):w'.cell? ⟨b,i,none⟩=some v:=(hb.cell (p:=⟨b,i,none⟩) hl).trans h
theorem one_memE (W:World) (i:Nat) (x:Int):ownE ((W.drew.alloc (.cells #[.int .i64 (i:Int)] 3)).alloc (.cells #[.int .i64 x,.slice (some ⟨W.heap.size,0,none⟩) 1 1] 203)) (W.heap.size+1) (.slice (some ⟨W.heap.size+1,0,none⟩) 1 1) [(.leaf x i,some ⟨W.heap.size,0,none⟩,1,1)]:=by
 have:=own_oneE (W.drew.alloc (.cells #[.int .i64 (i:Int)] 3)) (.leaf x i,some ⟨W.heap.size,0,none⟩,1,1)
 rw [show (W.drew.alloc (.cells #[.int .i64 (i:Int)] 3)).heap.size=W.heap.size+1 from by rw [World.size_alloc];rfl] at this
 exact this
set_option maxRecDepth 100000 in
set_option maxHeartbeats 6400000 in
theorem len5_any (B n c:Nat) (A:Option Addr) (ws:List Int) (most:Int) (w:World) (h:RdI w B A n ws) (hB1:B≤w.heap.size) (hn:n≤1000) :
  Calls Tryz.prog 120 #[.slice A n c,.int .i64 most] w fun e w'=>LenPost ws most w e w':=by
 have hl:=h.len
 by_cases hbad:ws.length < 1∨300 < ws.length∨most < 1∨15 < most
 ·have HBP:=Lib.hid (len_bad (w:=w) (w':=w) (wrong_fst hbad) (Below.refl _ _))
  rw [hl] at hbad
  clear h hl
  by_cases h1:n < 1
  ·go_enter Tryz.func120,Tryz.ntmps120
   go_wp2_with fail
   go_ret2
   exact HBP.out
  ·by_cases h2:300 < n
   ·go_enter Tryz.func120,Tryz.ntmps120
    go_wp2_with fail
    go_ret2
    exact HBP.out
   ·by_cases h3:most < 1
    ·have d3:decide (most < 1)=true:=decide_eq_true h3
     go_enter Tryz.func120,Tryz.ntmps120
     go_wp2_with fail
     go_ret2
     exact HBP.out
    ·have h4:15 < most:=by omega
     have d3:decide (most < 1)=false:=decide_eq_false h3
     have d4:decide (most > 15)=true:=decide_eq_true h4
     go_enter Tryz.func120,Tryz.ntmps120
     go_wp2_with fail
     go_ret2
     exact HBP.out
 ·obtain ⟨m,rfl⟩:=Int.eq_ofNat_of_zero_le (show 0≤most by omega)
  have hn1:1≤n:=by omega
  have hn2:n≤300:=by omega
  have hm1:1≤m:=by omega
  have hm2:m≤15:=by omega
  have H:=Lib.hid h
  have HL:=Lib.hid hl
  clear hbad h hl
  go_enter Tryz.func120,Tryz.ntmps120
  go_wp2_with fail
  go_loopw [7,6] (fun vi vt wr=>∃ (i:Nat) (L:List MX) (Ai:Option Addr) (ci:Nat),i≤n∧vi=.int .i64 i∧vt=.slice Ai L.length ci∧L.length≤i∧Hid (L=[]→Ai=none∧ci=0)∧Hid (badW (ws.take i)=false)∧Hid (L.map (·.1)=stab Mem.w (leaves (ws.take i))) ∧
    Hid (ownE wr w.heap.size (.slice Ai L.length ci) L)∧Hid (MO wr (.slice Ai L.length ci) L)∧Hid (Below w.heap.size w wr))
   (fun vi _ _=>n - (intOf vi).toNat)
  case atStart=>exact ⟨0,[],none,0,Nat.zero_le _,rfl,rfl,Nat.le_refl _,(show _→_ from fun _=>⟨rfl,rfl⟩),(show _=_ from rfl),(show _=_ from rfl),ownE.nil_ _ _,MO.nil _ _,Below.refl _ _⟩
  case round =>
   obtain ⟨i,L,Ai,ci,hi,rfl,rfl,hLi,HNIL,HBD,HST,HO,HMO,HB⟩:=hrel
   by_cases hlt:i < n
   ·obtain ⟨b,o,x,rfl,hb,HX,e1⟩:=(H.out.blw (HB.out.mono hB1)).one hlt
    by_cases hbx:x < 0∨1073741824 < x
    ·have HBP:=Lib.hid (len_bad (w:=w) (w':=wr) (most:=(m:Int)) (wrong_bad (badW_of HX.out hbx)) HB.out)
     rcases hbx with hx | hx
     ·have d1:decide (x < 0)=true:=decide_eq_true hx
      go_wp2_with fail
      go_ret2
      exact HBP.out
     ·have d1:decide (x < 0)=false:=decide_eq_false (by omega)
      have d2:decide (x > 1073741824)=true:=decide_eq_true hx
      go_wp2_with fail
      go_ret2
      exact HBP.out
    ·have HBD2:Hid (badW (ws.take (i+1))=false):=(show _=_ by
      obtain ⟨hik,ex⟩:=List.getElem?_eq_some_iff.1 HX.out
      have h0:=HBD.out
      unfold badW at h0 ⊢
      rw [List.take_succ_eq_append_getElem hik,ex,List.any_append,h0]
      simp
      omega)
     have d1:decide (x < 0)=false:=decide_eq_false (by omega)
     have d2:decide (x > 1073741824)=false:=decide_eq_false (by omega)
     by_cases hx0:x=0
     ·subst hx0
      have HST2:Hid (L.map (·.1)=stab Mem.w (leaves (ws.take (i+1)))):=(show _=_ by
       obtain ⟨hik,ex⟩:=List.getElem?_eq_some_iff.1 HX.out
       rw [List.take_succ_eq_append_getElem hik,ex,leaves_snoc,if_neg (by omega),List.append_nil]
       exact HST.out)
      go_wp2_with fail
      go_roundw
      case rel=>exact ⟨i+1,L,Ai,ci,by omega,by go_num,rfl,by omega,HNIL,HBD2,HST2,HO,HMO,HB⟩
      case measure=>simp [intOf];omega
     ·have hxp:0 < x:=by omega
      have d3:(x == 0)=false:=beq_eq_false_iff_ne.2 hx0
      have HXP:=Lib.hid hxp
      obtain ⟨wo,rfl⟩:∃ wo:World,wo=wr:=⟨_,rfl⟩
      go_upto_block 2 with fail
      go_cut [8] from 32 to 89 (fun vk wc=>∃ k:Nat,vk=.int .i64 k∧k≤L.length∧Hid (∀ y ∈ L.drop k,x < mxw y)∧Hid (k=0∨∃ y,L[k - 1]?=some y∧mxw y≤x)∧Hid (∃ q,wc=wo.drewN q))
      case first =>
       go_wp2_with fail
       go_loopw [8] (fun vk wr=>∃ k:Nat,k≤L.length∧vk=.int .i64 k∧Hid (∀ y ∈ L.drop k,x < mxw y)∧Hid (∃ q,wr=wo.drewN q)) (fun vk _=>(intOf vk).toNat)
       case atStart=>exact ⟨L.length,Nat.le_refl _,rfl,(show ∀ y ∈ _,_ from fun y hy=>by rw [List.drop_length] at hy;cases hy),(show ∃ q,_ from ⟨0,rfl⟩)⟩
       case round =>
        obtain ⟨k,hk,rfl,HGT,HW⟩:=hrel
        by_cases hk0:k=0
        ·subst hk0
         have HW2:Hid (∀ p,∃ q,wr.drewN p=wo.drewN q):=(show ∀ p,_ from fun p=>by obtain ⟨q,e⟩:=HW.out;exact ⟨q+p,by rw [e,World.drewN_drewN]⟩)
         go_wp2_with fail
         go_quiet (fail)
         go_wp2_with fail
         go_meet
         case rel=>exact ⟨0,rfl,Nat.zero_le _,HGT,.inl rfl,HW2.out _⟩
        ·obtain ⟨j,hj⟩:∃ j,k=j+1:=⟨k - 1,by omega⟩
         have hjl:j < L.length:=by omega
         obtain ⟨hLn,gi,rfl,hgi,hgi2⟩:=HO.out.pos (by omega)
         obtain ⟨q0,hq0⟩:=HW.out
         obtain ⟨y0,hy0⟩:∃ y0,L[j]=y0:=⟨_,rfl⟩
         have hc:=(HO.out.cell rfl hjl).1
         rw [hy0] at hc
         have c0:wr.cell? ⟨gi,j * 2,none⟩=some (.int .i64 y0.1.w):=by rw [hq0];exact hc
         have c1:wr.cell? ⟨b,o+i,none⟩=some (.int .i64 x):=by rw [hq0];exact e1
         have HW2:Hid (∀ p,∃ q,wr.drewN p=wo.drewN q):=(show ∀ p,_ from fun p=>⟨q0+p,by rw [hq0,World.drewN_drewN]⟩)
         have hkj:(k:Int) - 1=(j:Int):=by omega
         have hjI:(j:Int) < (L.length:Int):=by omega
         have hk0p:0 < k:=by omega
         have hkI:decide ((k:Int) > 0)=true:=decide_eq_true (by omega)
         have hkN:decide (0 < k)=true:=decide_eq_true (by omega)
         have hkI2:(0:Int) < (k:Int):=by omega
         have HKJ:=Lib.hid hj
         have HJL:=Lib.hid hjl
         have HY0:=Lib.hid hy0
         have hiI:(i:Int) < (n:Int):=by omega
         clear hc hq0 hj hk0 hLn hy0
         by_cases hlt2:x < y0.1.w
         ·have dgt:decide (y0.1.w > x)=true:=decide_eq_true hlt2
          have HGT2:Hid (∀ y ∈ L.drop j,x < mxw y):=(show ∀ y ∈ _,_ from fun y hy=>by
           have hjl2:j < L.length:=HJL.out
           rw [List.drop_eq_getElem_cons hjl2] at hy
           rcases List.mem_cons.1 hy with e | hy
           ·rw [e,HY0.out];exact hlt2
           ·exact HGT.out y (by rw [HKJ.out];exact hy))
          go_wp2_with fail
          go_quiet (fail)
          go_wp2_with fail
          go_roundw
          case rel=>exact ⟨j,by omega,rfl,HGT2,HW2.out _⟩
          case measure=>have:=HKJ.out;simp [intOf];omega
         ·have dgt:decide (y0.1.w > x)=false:=decide_eq_false (by omega)
          have HLE2:Hid (k=0∨∃ y,L[k - 1]?=some y∧mxw y≤x):=(show _∨_ from .inr ⟨y0,by
           have e:k - 1=j:=by have:=HKJ.out;omega
           rw [e,← HY0.out]
           exact List.getElem?_eq_getElem _,by show y0.1.w≤x;omega⟩)
          go_wp2_with fail
          go_quiet (fail)
          go_wp2_with fail
          go_meet
          case rel=>exact ⟨k,rfl,by omega,HGT,HLE2,HW2.out _⟩
      case rest =>
       obtain ⟨k,rfl,hk,HGT,HLE,HW⟩:=hcut
       obtain ⟨q0,rfl⟩:=HW.out
       have HBq:=Lib.hid (bdrewN HB.out q0)
       have HOq:=Lib.hid (HO.out.drewN q0)
       have HMq:=Lib.hid (HMO.out.drewN q0)
       have e1q:(wo.drewN q0).cell? ⟨b,o+i,none⟩=some (.int .i64 x):=e1
       clear HO HMO HB e1 HW
       generalize wo.drewN q0=wq at *
       have HST2:=Lib.hid (fun (A9:Option Addr)=>ins_ok (x':=(.leaf x i,A9,1,1)) HX.out HXP.out HST.out hk HGT.out HLE.out rfl)
       have hsq:=HBq.out.size
       have hbq:b < wq.heap.size:=by omega
       have e1d:wq.drew.cell? ⟨b,o+i,none⟩=some (.int .i64 x):=e1q
       have hiI:(i:Int) < (n:Int):=by omega
       by_cases hLn:L=[]
       ·subst hLn
        obtain ⟨hAi,hci⟩:=HNIL.out rfl
        subst hAi hci
        obtain rfl:k=0:=Nat.le_zero.1 hk
        obtain ⟨x',hx'⟩:∃ x':MX,x'=(.leaf x i,some ⟨wq.heap.size,0,none⟩,1,1):=⟨_,rfl⟩
        have HN2:=Lib.hid (one_memE wq i x)
        rw [← hx'] at HN2
        have hq1:[x'].length+0≤1099511627776:=by show 1+0≤_;omega
        have hq2:([]:List MX).length+([x'] ++ ([]:List MX)).length≤1099511627776:=by show 0+1≤_;omega
        have HB2:=Lib.hid ((((Below.refl wq.heap.size wq).drew).alloc (Nat.le_refl _) (.cells #[.int .i64 (i:Int)] 3)).alloc (by rw [World.size_alloc];exact Nat.le_succ _) (.cells #[.int .i64 x,.slice (some ⟨wq.heap.size,0,none⟩) 1 1] 203))
        have HR2:=Lib.hid (RdI.alloc (rd_oneI wq.drew (i:Int)) (by rw [World.size_alloc];exact Nat.le_refl _) (.cells #[.int .i64 x,.slice (some ⟨wq.heap.size,0,none⟩) 1 1] 203))
        have f2:=cell_alloc3 (cell_alloc3 e1d (.cells #[.int .i64 (i:Int)] 3)) (.cells #[.int .i64 x,.slice (some ⟨wq.heap.size,0,none⟩) 1 1] 203)
        have hbl:b < wq.heap.size+1:=by omega
        have hblw:b < w.heap.size:=by omega
        have hle2:wq.heap.size+1≤((wq.drew.alloc (.cells #[.int .i64 (i:Int)] 3)).alloc (.cells #[.int .i64 x,.slice (some ⟨wq.heap.size,0,none⟩) 1 1] 203)).heap.size:=alloc_le2 _ _ _
        have hle3:w.heap.size≤((wq.drew.alloc (.cells #[.int .i64 (i:Int)] 3)).alloc (.cells #[.int .i64 x,.slice (some ⟨wq.heap.size,0,none⟩) 1 1] 203)).heap.size:=Nat.le_trans hsq (Nat.le_trans (Nat.le_succ _) hle2)
        go_upto_region 13 with (fail)
        go_region_held3 (fun w'=>w'.cell? ⟨b,o+i,none⟩=some (.int .i64 x))
         (first | (with_reducible exact e1q) | (with_reducible exact e1d) | (with_reducible exact f2) | (with_reducible exact f3) | (with_reducible exact f4) | (with_reducible exact cell_alloc3 e1d _) | go_keep)
         (first
         | (refine step_appendE rfl (.tmp 84) (.tmp 87) rfl (wq.heap.size+1) (.slice (some ⟨wq.heap.size+1,0,none⟩) 1 1) [x'] rfl HN2.out wq.heap.size 0 0 none [] rfl RdE.nil_ hq1 hle2 ?_;intro v3 w3 h3 hg3 hb3 hat3;have f3:=cell_blw3 hb3 hbl f2;have HG3:=Lib.hid hg3;have HB3:=Lib.hid hb3;have hle4:=Nat.le_trans hle3 hb3.size;obtain ⟨A3,c3,rfl,hr3,-,-⟩:=h3.form;clear h3 hg3 hb3 hat3)
         | (refine step_appendE rfl (.tmp 76) (.tmp 88) rfl w.heap.size (.slice none 0 0) [] rfl (ownE.nil_ _ _) w3.heap.size _ c3 A3 ([x'] ++ []) rfl hr3 hq2 hle4 ?_;intro v4 w4 h4 hg4 hb4 hat4;have f4:=cell_blw3 hb4 hblw f3;obtain ⟨A4,c4,rfl,hr4,-,-⟩:=h4.form;have HO4:=Lib.hid (show ownE w4 w.heap.size (.slice A4 1 c4) [x'] from h4);have HG4:=Lib.hid hg4;have HB4:=Lib.hid hb4;have HAT4:=Lib.hid hat4;clear h4 hg4 hb4 hat4 hr4))
        all_goals
         go_wp2_with fail
         have hle5:wq.heap.size+1≤w3.heap.size:=Nat.le_trans hle2 HB3.out.size
         have HRX:=Lib.hid (show RdI w3 w3.heap.size x'.2.1 x'.2.2.1 (plI x'.1.items) from by rw [hx'];exact (HR2.out.blw HB3.out).more hle5)
         have HM3:=Lib.hid (show MO w3 (.slice none 0 0) [x'] from fun y hy=>by
          rw [List.mem_singleton] at hy
          subst hy
          refine ⟨HRX.out,fun a ha=>⟨(fun e=>by cases e),?_⟩⟩
          rw [hx'] at ha
          injection ha with ha
          subst ha
          exact Nat.lt_of_lt_of_le (Nat.lt_succ_self _) hle5)
         have HM4:=Lib.hid (MO.app (v':=.slice A4 1 c4) HM3.out HG4.out HAT4.out)
         have HB5:=Lib.hid (HBq.out.trans ((HB2.out.mono hsq).trans ((HB3.out.mono (Nat.le_succ_of_le hsq)).trans HB4.out)))
         have HST4:Hid ([x'].map (·.1)=stab Mem.w (leaves (ws.take (i+1)))):=(show _=_ by rw [hx'];exact HST2.out (some ⟨wq.heap.size,0,none⟩))
         have HNN:Hid ([x']=[]→A4=none∧c4=0):=(show _→_ from fun e=>by cases e)
         go_roundw
         case rel=>exact ⟨i+1,[x'],A4,c4,by omega,by go_num,rfl,by show 1≤i+1;omega,HNN,HBD2,HST4,HO4,HM4,HB5⟩
         case measure=>simp [intOf];omega
       ·have hLpos:0 < L.length:=List.length_pos_iff.2 hLn
        obtain ⟨-,gi,rfl,hgi,hgi2⟩:=HOq.out.pos hLpos
        have hlci:L.length≤ci:=by
         obtain ⟨_,_,e,_,h2,_⟩:=HOq.out.form
         injection e with _ _ e3
         omega
        have hci0:¬ ci=0:=by omega
        have hkc:(k:Int)≤(ci:Int):=by omega
        have hkL:(k:Int)≤(L.length:Int):=by omega
        have hk0I:(0:Int)≤(k:Int):=by omega
        obtain ⟨x',hx'⟩:∃ x':MX,x'=(.leaf x i,some ⟨wq.heap.size,0,none⟩,1,1):=⟨_,rfl⟩
        have HN2:=Lib.hid (one_memE wq i x)
        rw [← hx'] at HN2
        have hlen4:(L.take k ++ ([x'] ++ L.drop k)).length=L.length+1:=by simp;omega
        have hq1:[x'].length+(L.length - k)≤1099511627776:=by simp;omega
        have hq2:(L.take k).length+([x'] ++ L.drop k).length≤1099511627776:=by simp;omega
        have HB2:=Lib.hid ((((Below.refl wq.heap.size wq).drew).alloc (Nat.le_refl _) (.cells #[.int .i64 (i:Int)] 3)).alloc (by rw [World.size_alloc];exact Nat.le_succ _) (.cells #[.int .i64 x,.slice (some ⟨wq.heap.size,0,none⟩) 1 1] 203))
        have HO2:=Lib.hid (((HOq.out.drew).alloc (.cells #[.int .i64 (i:Int)] 3)).alloc (.cells #[.int .i64 x,.slice (some ⟨wq.heap.size,0,none⟩) 1 1] 203))
        have HM2:=Lib.hid (((HMq.out.drew).alloc (.cells #[.int .i64 (i:Int)] 3)).alloc (.cells #[.int .i64 x,.slice (some ⟨wq.heap.size,0,none⟩) 1 1] 203))
        have HR2:=Lib.hid (RdI.alloc (rd_oneI wq.drew (i:Int)) (by rw [World.size_alloc];exact Nat.le_refl _) (.cells #[.int .i64 x,.slice (some ⟨wq.heap.size,0,none⟩) 1 1] 203))
        have f2:=cell_alloc3 (cell_alloc3 e1d (.cells #[.int .i64 (i:Int)] 3)) (.cells #[.int .i64 x,.slice (some ⟨wq.heap.size,0,none⟩) 1 1] 203)
        have hneV:(Value.slice (some ⟨gi,0,none⟩) L.length ci).ownBlock ≠ (Value.slice (some ⟨wq.heap.size+1,0,none⟩) 1 1).ownBlock:=by
         intro e
         have e2:some gi=some (wq.heap.size+1):=e
         injection e2 with e2
         omega
        have hbl:b < wq.heap.size+1:=by omega
        have hblw:b < w.heap.size:=by omega
        have hle2:wq.heap.size+1≤((wq.drew.alloc (.cells #[.int .i64 (i:Int)] 3)).alloc (.cells #[.int .i64 x,.slice (some ⟨wq.heap.size,0,none⟩) 1 1] 203)).heap.size:=alloc_le2 _ _ _
        have hle3:w.heap.size≤((wq.drew.alloc (.cells #[.int .i64 (i:Int)] 3)).alloc (.cells #[.int .i64 x,.slice (some ⟨wq.heap.size,0,none⟩) 1 1] 203)).heap.size:=Nat.le_trans hsq (Nat.le_trans (Nat.le_succ _) hle2)
        by_cases hck:ci=k
        ·have hLK:L.length=k:=by omega
         have HLK:=Lib.hid hLK
         obtain rfl:k=ci:=hck.symm
         clear hlci hkc hLK
         have HI2:=Lib.hid (show RdE ((wq.drew.alloc (.cells #[.int .i64 (i:Int)] 3)).alloc (.cells #[.int .i64 x,.slice (some ⟨wq.heap.size,0,none⟩) 1 1] 203)) wq.heap.size (some ⟨gi,0,none⟩) (L.length - k) (L.drop k) from by
          have e1:L.length=k:=HLK.out
          rw [List.drop_eq_nil_of_le (by omega),show L.length - k=0 by omega]
          exact RdE.nil_)
         go_upto_region 13 with (fail)
         go_region_held3 (fun w'=>w'.cell? ⟨b,o+i,none⟩=some (.int .i64 x))
          (first | (with_reducible exact e1q) | (with_reducible exact e1d) | (with_reducible exact f2) | (with_reducible exact f3) | (with_reducible exact f4) | (with_reducible exact cell_alloc3 e1d _) | go_keep)
          (first
          | (refine step_appendE rfl (.tmp 84) (.tmp 87) rfl (wq.heap.size+1) (.slice (some ⟨wq.heap.size+1,0,none⟩) 1 1) [x'] rfl HN2.out wq.heap.size (L.length - k) _ _ (L.drop k) rfl HI2.out hq1 hle2 ?_;intro v3 w3 h3 hg3 hb3 hat3;have f3:=cell_blw3 hb3 hbl f2;have HO3:=Lib.hid (ownE.kept HO2.out hg3 (.inr hneV));have HG3:=Lib.hid hg3;have HB3:=Lib.hid hb3;have hle4:=Nat.le_trans hle3 hb3.size;obtain ⟨A3,c3,rfl,hr3,-,-⟩:=h3.form;clear h3 hg3 hb3 hat3)
          | (refine step_appendE rfl (.tmp 76) (.tmp 88) rfl w.heap.size (.slice (some ⟨gi,0,none⟩) k k) (L.take k) rfl (ownE.take HO3.out hk hLpos) w3.heap.size _ c3 A3 ([x'] ++ L.drop k) rfl hr3 hq2 hle4 ?_;intro v4 w4 h4 hg4 hb4 hat4;have f4:=cell_blw3 hb4 hblw f3;obtain ⟨A4,c4,rfl,hr4,-,-⟩:=h4.form;rw [hlen4] at h4 hat4 ⊢;have HO4:=Lib.hid h4;have HG4:=Lib.hid hg4;have HB4:=Lib.hid hb4;have HAT4:=Lib.hid hat4;clear h4 hg4 hb4 hat4 hr4))
         all_goals
          go_wp2_with fail
          have HLT:=Lib.hid (show ∀ y ∈ L,∀ a,y.2.1=some a→a.block < wq.heap.size from fun y hy a ha=>((HMq.out y hy).2 a ha).2)
          have hle5:wq.heap.size+1≤w3.heap.size:=Nat.le_trans hle2 HB3.out.size
          have HRX:=Lib.hid (show RdI w3 w3.heap.size x'.2.1 x'.2.2.1 (plI x'.1.items) from by rw [hx'];exact (HR2.out.blw HB3.out).more hle5)
          have HAX:x'.2.1=some ⟨wq.heap.size,0,none⟩:=by rw [hx']
          have HM4:=Lib.hid (ins_mo (k:=k) (v4:=.slice A4 (L.length+1) c4) HM2.out HLT.out HG3.out HRX.out HAX (Nat.lt_of_lt_of_le (Nat.lt_succ_self _) hle5) hgi2 HG4.out HAT4.out)
          have HB5:=Lib.hid (HBq.out.trans ((HB2.out.mono hsq).trans ((HB3.out.mono (Nat.le_succ_of_le hsq)).trans HB4.out)))
          have HST4:Hid ((L.take k ++ ([x'] ++ L.drop k)).map (·.1)=stab Mem.w (leaves (ws.take (i+1)))):=(show _=_ by rw [hx'];exact HST2.out (some ⟨wq.heap.size,0,none⟩))
          have HNN:Hid (L.take k ++ ([x'] ++ L.drop k)=[]→A4=none∧c4=0):=(show _→_ from fun e=>absurd (congrArg List.length e) (by rw [hlen4];simp))
          go_roundw
          case rel=>exact ⟨i+1,L.take k ++ ([x'] ++ L.drop k),A4,c4,by omega,by go_num,by rw [hlen4],by rw [hlen4];omega,HNN,HBD2,HST4,by rw [hlen4];exact HO4,by rw [hlen4];exact HM4,HB5⟩
          case measure=>simp [intOf];omega
        ·have hck2:¬ k=ci:=fun e=>hck e.symm
         have HI2:=Lib.hid (show RdE _ wq.heap.size (some ⟨gi,k * 2,none⟩) (L.length - k) (L.drop k) from by
          have h1:=RdE.cut (RdE.here HOq.out.rd) (k:=k) (m:=L.length - k) (by omega) (A':=some ⟨gi,k * 2,none⟩) (fun _=>by simp [add_none])
          rw [List.take_of_length_le (by rw [List.length_drop];exact Nat.le_refl _)] at h1
          exact RdE.blw h1 HB2.out)
         go_upto_region 13 with (fail)
         go_region_held3 (fun w'=>w'.cell? ⟨b,o+i,none⟩=some (.int .i64 x))
          (first | (with_reducible exact e1q) | (with_reducible exact e1d) | (with_reducible exact f2) | (with_reducible exact f3) | (with_reducible exact f4) | (with_reducible exact cell_alloc3 e1d _) | go_keep)
          (first
          | (refine step_appendE rfl (.tmp 84) (.tmp 87) rfl (wq.heap.size+1) (.slice (some ⟨wq.heap.size+1,0,none⟩) 1 1) [x'] rfl HN2.out wq.heap.size (L.length - k) _ _ (L.drop k) rfl HI2.out hq1 hle2 ?_;intro v3 w3 h3 hg3 hb3 hat3;have f3:=cell_blw3 hb3 hbl f2;have HO3:=Lib.hid (ownE.kept HO2.out hg3 (.inr hneV));have HG3:=Lib.hid hg3;have HB3:=Lib.hid hb3;have hle4:=Nat.le_trans hle3 hb3.size;obtain ⟨A3,c3,rfl,hr3,-,-⟩:=h3.form;clear h3 hg3 hb3 hat3)
          | (refine step_appendE rfl (.tmp 76) (.tmp 88) rfl w.heap.size (.slice (some ⟨gi,0,none⟩) k ci) (L.take k) rfl (ownE.take HO3.out hk hLpos) w3.heap.size _ c3 A3 ([x'] ++ L.drop k) rfl hr3 hq2 hle4 ?_;intro v4 w4 h4 hg4 hb4 hat4;have f4:=cell_blw3 hb4 hblw f3;obtain ⟨A4,c4,rfl,hr4,-,-⟩:=h4.form;rw [hlen4] at h4 hat4 ⊢;have HO4:=Lib.hid h4;have HG4:=Lib.hid hg4;have HB4:=Lib.hid hb4;have HAT4:=Lib.hid hat4;clear h4 hg4 hb4 hat4 hr4))
         all_goals
          go_wp2_with fail
          have HLT:=Lib.hid (show ∀ y ∈ L,∀ a,y.2.1=some a→a.block < wq.heap.size from fun y hy a ha=>((HMq.out y hy).2 a ha).2)
          have hle5:wq.heap.size+1≤w3.heap.size:=Nat.le_trans hle2 HB3.out.size
          have HRX:=Lib.hid (show RdI w3 w3.heap.size x'.2.1 x'.2.2.1 (plI x'.1.items) from by rw [hx'];exact (HR2.out.blw HB3.out).more hle5)
          have HAX:x'.2.1=some ⟨wq.heap.size,0,none⟩:=by rw [hx']
          have HM4:=Lib.hid (ins_mo (k:=k) (v4:=.slice A4 (L.length+1) c4) HM2.out HLT.out HG3.out HRX.out HAX (Nat.lt_of_lt_of_le (Nat.lt_succ_self _) hle5) hgi2 HG4.out HAT4.out)
          have HB5:=Lib.hid (HBq.out.trans ((HB2.out.mono hsq).trans ((HB3.out.mono (Nat.le_succ_of_le hsq)).trans HB4.out)))
          have HST4:Hid ((L.take k ++ ([x'] ++ L.drop k)).map (·.1)=stab Mem.w (leaves (ws.take (i+1)))):=(show _=_ by rw [hx'];exact HST2.out (some ⟨wq.heap.size,0,none⟩))
          have HNN:Hid (L.take k ++ ([x'] ++ L.drop k)=[]→A4=none∧c4=0):=(show _→_ from fun e=>absurd (congrArg List.length e) (by rw [hlen4];simp))
          go_roundw
          case rel=>exact ⟨i+1,L.take k ++ ([x'] ++ L.drop k),A4,c4,by omega,by go_num,by rw [hlen4],by rw [hlen4];omega,HNN,HBD2,HST4,by rw [hlen4];exact HO4,by rw [hlen4];exact HM4,HB5⟩
          case measure=>simp [intOf];omega
   ·obtain rfl:i=n:=by omega
    have hws:ws.take i=ws:=List.take_of_length_le (by rw [HL.out];exact Nat.le_refl _)
    rw [hws] at HST HBD
    have hnl:L.length=posn ws:=by
     have:=congrArg List.length HST.out
     rwa [List.length_map,stab_lenM,leaves_length] at this
    have hll:(leaves ws).length=L.length:=by rw [hnl,leaves_length]
    have HLL:=Lib.hid hll
    have HWR:Hid (wrongH ws (m:Int)=decide (2 ^ m < L.length)):=(show _=_ by
     unfold wrongH
     rw [HBD.out,HL.out,decide_eq_false (show ¬ i < 1 by omega),decide_eq_false (show ¬ 300 < i by omega),decide_eq_false (show ¬ (m:Int) < 1 by omega),decide_eq_false (show ¬ (15:Int) < (m:Int) by omega),hnl]
     simp)
    have hsh:=shl_lt L.length m hm2
    have HWS:=Lib.hid (badW_all HBD.out)
    clear hll hnl hws
    by_cases hmany:2 ^ m < L.length
    ·have HBP:=Lib.hid (len_bad (w:=w) (w':=wr) (most:=(m:Int)) (by rw [HWR.out];exact decide_eq_true hmany) HB.out)
     rw [decide_eq_true hmany] at hsh
     clear hmany
     go_wp2_with fail
     go_ret2
     exact HBP.out
    ·have hwf:wrongH ws (m:Int)=false:=by rw [HWR.out];exact decide_eq_false hmany
     have HE:Hid (lenE ws (m:Int)=0∧lenR ws (m:Int)=lensOf ws m):=(show _∧_ by unfold lenE lenR;rw [hwf];exact ⟨rfl,rfl⟩)
     rw [decide_eq_false hmany] at hsh
     have HMY:=Lib.hid hmany
     clear hmany hwf
     have hsz:=HB.out.size
     by_cases hone:L.length=1
     ·obtain ⟨x0,rfl⟩:=List.length_eq_one_iff.1 hone
      have hx0:x0.1 ∈ leaves ws:=stab_mem.1 (by rw [← HST.out];simp)
      obtain ⟨p,hp,hpe,-⟩:=leaves_mem hx0
      obtain ⟨t0,A0,n0,c0⟩:=x0
      dsimp only at hpe
      generalize ws[p]=wp at hpe
      have hlv:leaves ws=[t0]:=by
       obtain ⟨t,ht⟩:=List.length_eq_one_iff.1 (HLL.out.trans hone)
       have:=HST.out
       rw [ht] at this ⊢
       simp [stab,insR] at this
       rw [this]
      have HLV:=Lib.hid hlv
      have hr0:=(HMO.out (t0,A0,n0,c0) (by simp)).1
      dsimp only at hr0
      rw [show plI t0.items=[(p:Int)] by rw [hpe];rfl] at hr0
      have hn0:n0=1:=hr0.len.symm
      subst hn0
      have HPE:=Lib.hid hpe
      obtain ⟨-,gi,rfl,hgi,hgi2⟩:=HO.out.pos (show 0 < [(t0,A0,1,c0)].length by simp)
      have HR0:=Lib.hid hr0
      have hpi:p < i:=by rw [← HL.out];exact hp
      clear hr0 hpe hlv hone hp hx0
      have hsh1:decide (wrap64 (2 ^ m) < (1:Int))=false:=hsh
      have hsh2:¬ wrap64 (2 ^ m) < (1:Int):=of_decide_eq_false hsh1
      clear hsh
      simp only [List.length_singleton]
      go_wp2_with (at_make;refine wpList_makeI rfl _ _ rfl i _ rfl rfl rfl (by omega) ?_;intro w1 hown hb1 hsz1;have HOU:=Lib.hid hown;have HB1:=Lib.hid hb1;have c1:=((ownE.later HO.out hb1).cell rfl (show 0 < [(t0,A0,1,c0)].length by simp)).2;obtain ⟨b5,o5,x5,rfl,hb5,HX5,e5⟩:=(RdI.blw HR0.out hb1).one (show 0 < 1 by omega);obtain rfl:x5=(p:Int):=(Option.some.inj HX5.out).symm;have o6:=hown.cell (by simp) (k:=p) (by simp;exact hpi);have f6:=hown.frozen (by simp) p;dsimp only at c1;rw [List.getElem_replicate] at o6;rw [Nat.add_zero] at e5;clear hown hb1 HX5)
      go_ret2
      have e5x:lensOf ws m=(List.replicate i 0).set p 1:=by
       rw [lensOf,if_pos (by rw [HLV.out];rfl),HLV.out,HPE.out,HL.out]
       show (List.replicate i (0:Int)).set p ((List.replicate i (0:Int)).getD p 0+1)=_
       rw [List.getD_eq_getElem?_getD,List.getElem?_replicate]
       simp [hpi]
      refine ⟨some ⟨wr.heap.size,0,none⟩,i,i,ret_tup2 rfl (by rw [HE.out.1];rfl),?_,?_,(HB.out.trans (HB1.out.mono hsz)).setCell hsz _⟩
      ·rw [HE.out.2,e5x];simp
      ·rw [HE.out.2,e5x]
       exact (HOU.out.store (by simp) p 1).mono hsz
     ·by_cases hzero:L.length=0
      ·have d1:((L.length:Int) == 1)=false:=beq_eq_false_iff_ne.2 (by omega)
       have d2:decide ((L.length:Int) < 2)=true:=decide_eq_true (by omega)
       have hlz:lensOf ws m=List.replicate i 0:=by
        rw [lensOf,if_neg (by rw [HLL.out];exact hone),HLL.out,hzero,HL.out]
        rfl
       have HLZ:=Lib.hid hlz
       clear hlz hzero hone
       generalize L.length=ll at *
       have hsh2:¬ wrap64 (2 ^ m) < (ll:Int):=of_decide_eq_false hsh
       go_wp2_with (at_make;refine wpList_makeI rfl _ _ rfl i _ rfl rfl rfl (by omega) ?_;intro w1 hown hb1 hsz1;have HOU:=Lib.hid hown;have HB1:=Lib.hid hb1;clear hown hb1)
       go_ret2
       refine ⟨some ⟨wr.heap.size,0,none⟩,i,i,ret_tup2 rfl (by rw [HE.out.1];rfl),?_,?_,HB.out.trans (HB1.out.mono hsz)⟩
       ·rw [HE.out.2,HLZ.out];simp
       ·rw [HE.out.2,HLZ.out]
        exact HOU.out.mono hsz
      ·have d1:((L.length:Int) == 1)=false:=beq_eq_false_iff_ne.2 (by omega)
       have d2:decide ((L.length:Int) < 2)=false:=decide_eq_false (by omega)
       have hl2:2≤L.length:=by omega
       have hLpos:0 < L.length:=by omega
       obtain ⟨-,gi,rfl,hgi,hgi2⟩:=HO.out.pos hLpos
       have HLB:=Lib.hid (show ∀ x ∈ L,∀ a,x.2.1=some a→a.block < wr.heap.size from fun x hx a ha=>((HMO.out x hx).2 a ha).2)
       have HONE:=Lib.hid hone
       have HLN:Hid (L.length=L.length):=(show _=_ from rfl)
       clear hone hzero HLN
       have hsh2:¬ wrap64 (2 ^ m) < (L.length:Int):=of_decide_eq_false hsh
       have HR0:=Lib.hid (RdE.here HO.out.rd)
       have HMK:=Lib.hid HMO.out.ok
       have HGI:=Lib.hid hgi2
       clear HO HMO hsh
       go_wp2_with (at_make;refine wpList_makeI rfl _ _ rfl i _ rfl rfl rfl (by omega) ?_;intro w1 hown hb1 hsz1;have HOU:=Lib.hid hown;have HB1:=Lib.hid hb1;have HR1:=Lib.hid (RdE.later HR0.out hb1);have HM1:=Lib.hid ((HMK.out.blw hb1).more hb1.size);clear hown hb1)
       have HBW1:=Lib.hid (HB.out.trans (HB1.out.mono hsz))
       generalize hgo:wr.heap.size=go at *
       have HGO:=Lib.hid hgo
       clear hgo HR0 HMK
       go_loopw [11,10] (fun vi vl wr=>∃ (k:Nat) (Al:Option Addr) (cl:Nat) (Z:List MX),1≤k∧k≤m∧vi=.int .i64 k∧vl=.slice Al Z.length cl∧Hid (Z.map (·.1)=pmL (stab Mem.w (leaves ws)) (k - 1))∧Hid (RdE wr wr.heap.size Al Z.length Z)∧Hid (MOk wr wr.heap.size Z) ∧
         Hid (∀ x ∈ Z,∀ a,x.2.1=some a→a.block ≠ go)∧Hid (∀ a,Al=some a→a.block ≠ go)∧Z.length≤600∧Hid (Below w1.heap.size w1 wr))
        (fun vi _ _=>m - (intOf vi).toNat)
       case atStart=>exact ⟨1,_,ci,L,Nat.le_refl _,hm1,rfl,rfl,(show _=_ from HST.out),HR1,HM1,(show ∀ x ∈ L,_ from fun x hx a ha=>Nat.ne_of_lt (HLB.out x hx a ha)),(show ∀ a,_ from fun a ha=>by injection ha with ha;subst ha;exact Nat.ne_of_lt hgi2),by omega,Below.refl _ _⟩
       case round =>
        obtain ⟨k,Al,cl,Z,hk1,hk2,rfl,rfl,HZ,HR,HM,HNG,HAG,hZ6,HBZ⟩:=hrel
        by_cases hltm:k < m
        ·have hW5:=pm_weight15 (first:=stab Mem.w (leaves ws)) (fun t ht=>leaves_w HWS.out t (stab_mem.1 ht)) (k:=k - 1) (by omega)
         have HW5:=Lib.hid (show ∀ x ∈ Z,0≤x.1.w∧x.1.w≤1125899906842624 from fun x hx=>hW5 x.1 (by rw [← HZ.out];exact List.mem_map_of_mem hx))
         have hS1:=pm_sizes (first:=stab Mem.w (leaves ws)) (fun t ht=>leaves_s t (stab_mem.1 ht)) (k - 1)
         have hpw:2 ^ (k - 1)≤2 ^ 14:=Nat.pow_le_pow_right (by omega) (by omega)
         have HS1:=Lib.hid (show ∀ x ∈ Z,x.1.items.length≤16384 from fun x hx=>by have:=hS1 x.1 (by rw [← HZ.out];exact List.mem_map_of_mem hx);omega)
         clear hW5 hS1 hpw
         have hgow:go < wr.heap.size:=by have:=HBZ.out.size;omega
         obtain ⟨wo,rfl⟩:∃ wo:World,wo=wr:=⟨_,rfl⟩
         have HPK:Hid (([]:List MX).map (·.1) ++ packs ((Z.drop 0).map (·.1))=packs (Z.map (·.1))):=(show _=_ from rfl)
         go_wp2_with fail
         go_loopw [13,12] (fun vi vp wr=>∃ (d:Nat) (P:List MX) (Ap:Option Addr) (cp:Nat),d≤Z.length∧vi=.int .i64 d∧vp=.slice Ap P.length cp∧P.length * 2=d∧Hid (P.map (·.1) ++ packs ((Z.drop d).map (·.1))=packs (Z.map (·.1)))∧Hid (ownE wr wo.heap.size (.slice Ap P.length cp) P)∧Hid (MO wr (.slice Ap P.length cp) P)∧Hid (∀ x ∈ P,∀ a,x.2.1=some a→wo.heap.size≤a.block)∧Hid (Below wo.heap.size wo wr))
          (fun vi _ _=>Z.length - (intOf vi).toNat)
         case atStart=>exact ⟨0,[],none,0,Nat.zero_le _,rfl,rfl,rfl,HPK,ownE.nil_ _ _,MO.nil _ _,(show ∀ x ∈ _,_ from fun x hx=>by cases hx),Below.refl _ _⟩
         case round =>
          clear HPK
          obtain ⟨d,P,Ap,cp,hd,rfl,rfl,hPd,HPK,HOP,HMP,HNP,HBP⟩:=hrel
          by_cases hlt4:d+1 < Z.length
          ·obtain ⟨bl,o,x,eA,hb,HX,e1,e2⟩:=(RdE.blw HR.out HBP.out).one (show d < Z.length by omega)
           obtain ⟨bl2,o2,y,eA2,hb2,HY,g1,g2⟩:=(RdE.blw HR.out HBP.out).one hlt4
           rw [eA] at eA2
           injection eA2 with eA2
           injection eA2 with eb eo
           subst eb eo
           subst eA
           have HPS2:=Lib.hid (packs_two HX.out HY.out)
           have hxm:x ∈ Z:=List.mem_of_getElem? HX.out
           have hym:y ∈ Z:=List.mem_of_getElem? HY.out
           have hwx:=HW5.out x hxm
           have hwy:=HW5.out y hym
           have hsx:=HS1.out x hxm
           have hsy:=HS1.out y hym
           have hbs:=HBP.out.size
           have HIX:=Lib.hid (((HM.out x hxm).blw HBP.out).more hbs)
           have HIY:=Lib.hid (((HM.out y hym).blw HBP.out).more hbs)
           have s0:Cs4 wr bl o d x y:=⟨e1,e2,g1,g2⟩
           obtain ⟨t,A3,n3,c3⟩:=x
           obtain ⟨u,A6,n6,c6⟩:=y
           dsimp only at hwx hwy hsx hsy HIX HIY HPS2
           have hn3:(plI t.items).length=n3:=HIX.out.len
           have hn6:(plI u.items).length=n6:=HIY.out.len
           have hn3b:n3≤16384:=by rw [← hn3];simpa [plI] using hsx
           have hn6b:n6≤16384:=by rw [← hn6];simpa [plI] using hsy
           obtain ⟨nn,hnn⟩:∃ nn,(plI t.items ++ plI u.items).length=nn:=⟨_,rfl⟩
           have hq1:(plI t.items).length+n6≤1099511627776:=by omega
           have hq2:P.length+1≤1099511627776:=by omega
           have hq3:n3≤1099511627776:=by omega
           have HCP:=Lib.hid (copyI_any wr.heap.size n3 c3 A3 (plI t.items) wr.drew (rdI_drew2 HIX.out) hq3)
           have hblr:bl < wr.heap.size:=by omega
           have hdI:(d:Int) < (Z.length:Int):=by omega
           have hd1I:(d:Int)+1 < (Z.length:Int):=by omega
           have hd0I:(0:Int)≤(d:Int)+1:=by omega
           have hdN:((d:Int)+1).toNat=d+1:=by omega
           have hPd2:P.length * 2+2=d+2:=by omega
           have hd2:d+2≤Z.length:=by omega
           have HPD:=Lib.hid hPd2
           have HN36:=Lib.hid (And.intro hn3 hn6)
           clear e1 e2 g1 g2 hsx hsy hn3 hn6 hxm hym hPd HX HY
           have hwd:IntKind.i64.wrap ((d:Int)+1)=(d:Int)+1:=(by have:=wrap_i64_lt (d+1) (by omega);simpa using this)
           have hww:IntKind.i64.wrap (t.w+u.w)=t.w+u.w:=wrap_i64_id2 (by omega) (by omega)
           go_upto_region 29 with (fail)
           go_region_held3 (fun w'=>w'.cell? ⟨bl,o+d * 2,none⟩=some (.int .i64 t.w)∧w'.cell? ⟨bl,o+d * 2+1,none⟩=some (.slice A3 n3 c3)∧w'.cell? ⟨bl,o+(d+1) * 2,none⟩=some (.int .i64 u.w)∧w'.cell? ⟨bl,o+(d+1) * 2+1,none⟩=some (.slice A6 n6 c6))
            (first | (with_reducible exact s0) | (with_reducible exact s0.drew) | (with_reducible exact s4) | (with_reducible exact s5) | (with_reducible exact s5.al _) | (with_reducible exact s7))
            (first
            | (go_at_call 123;(with_reducible refine HCP.out.mono ?_);go_must (rintro e w4 ⟨A4,c4,rfl,-,-,ho4,hb4⟩;have HB4:=below_undrew2 hb4;have s4:=s0.blw HB4 hblr;have z4:=HB4.size))
            | (refine step_appendI rfl (.tmp 145) (.tmp 151) rfl wr.heap.size (.slice A4 n3 c4) (plI t.items) rfl ho4 wr.heap.size n6 _ A6 (plI u.items) rfl (RdI.blw HIY.out HB4) hq1 z4 ?_;intro v5 w5 h5 hg5 hb5 hat5;have HB5:=HB4.trans hb5;have s5:=s0.blw HB5 hblr;have z5:=HB5.size;obtain ⟨A5,c5,rfl,hr5,-,-⟩:=h5.form;rw [hnn] at h5 hr5 ⊢;have H5:=Lib.hid h5;have HR5:=Lib.hid hr5;clear h5 hg5 hb5 hat5 hr5)
            | (refine step_appendE rfl (.tmp 127) (.tmp 154) rfl wo.heap.size (.slice Ap P.length cp) P rfl (ownE.alloc (ownE.later HOP.out HB5) _) (w5.heap.size+1) 1 1 (some ⟨w5.heap.size,0,none⟩) [(Mem.node t u,A5,nn,c5)] rfl (rd_oneE w5 (Mem.node t u,A5,nn,c5) _ _) hq2 (Nat.le_trans hbs (Nat.le_trans z5 (alloc_le3 _ _))) ?_;intro v7 w7 h7 hg7 hb7 hat7;have s7:=(s5.al _).blw hb7 hb;obtain ⟨A7,c7,rfl,hr7,-,-⟩:=h7.form;have H7:=Lib.hid h7;have HG7:=Lib.hid hg7;have HB7:=Lib.hid hb7;have HAT7:=Lib.hid hat7;clear h7 hg7 hb7 hat7 hr7))
           all_goals
            go_wp2_with fail
            have HPK2:Hid ((P ++ [(Mem.node t u,A5,nn,c5)]).map (·.1) ++ packs ((Z.drop (d+2)).map (·.1))=packs (Z.map (·.1))):=(show _=_ by
             rw [← HPK.out,HPS2.out,List.map_append,List.append_assoc];rfl)
            have hA5:∀ a,A5=some a→wr.heap.size≤a.block∧a.block < w5.heap.size:=fun a ha=>by
             have h5:=H5.out
             rw [ha] at h5
             exact World.ownsRow.lt h5 a.block rfl
            have HA5:=Lib.hid hA5
            have HX5:=Lib.hid (show RdI w5 w5.heap.size A5 nn (plI (Mem.node t u).items) from by
             show RdI w5 w5.heap.size A5 nn (plI (t.items ++ u.items))
             rw [plI_append]
             exact HR5.out)
            have HM7:=Lib.hid (pack_mo (x':=(Mem.node t u,A5,nn,c5)) (vP':=.slice A7 (P ++ [(Mem.node t u,A5,nn,c5)]).length c7) (HMP.out.later HB5) HX5.out (fun a ha=>⟨fun e=>by
             have h1:=(World.ownsRow.lt HOP.out a.block e).2
             have h2:=(HA5.out a ha).1
             omega,(HA5.out a ha).2⟩) HG7.out HAT7.out)
            have HNP7:=Lib.hid (show ∀ x ∈ P ++ [((Mem.node t u,A5,nn,c5):MX)],∀ a,x.2.1=some a→wo.heap.size≤a.block from fun x hx a ha=>by
             rcases List.mem_append.1 hx with h1 | h1
             ·exact HNP.out x h1 a ha
             ·rw [List.mem_singleton] at h1
              subst h1
              exact Nat.le_trans hbs (HA5.out a ha).1)
            have HB8:=Lib.hid (((HBP.out.trans (HB5.mono hbs)).alloc (Nat.le_trans hbs z5) _).trans HB7.out)
            have HL8:Hid ((P ++ [((Mem.node t u,A5,nn,c5):MX)]).length=P.length+1):=(show _=_ by simp)
            have hp2:(P ++ [((Mem.node t u,A5,nn,c5):MX)]).length * 2=d+2:=by rw [HL8.out];omega
            clear hwd hww
            go_roundw
            case rel=>exact ⟨d+2,P ++ [(Mem.node t u,A5,nn,c5)],A7,c7,hd2,by go_num,by first | rfl | rw [HL8.out],hp2,HPK2,H7,HM7,HNP7,HB8⟩
            case measure=>simp [intOf];omega
          ·have hPL:Hid (P.map (·.1)=packs (Z.map (·.1))):=(show _=_ by
            have:=HPK.out
            rwa [packs_end (by omega),List.append_nil] at this)
           have hPl2:P.length≤300:=by omega
           have hd1:¬ (d:Int)+1 < (Z.length:Int):=by omega
           have HRI:=Lib.hid (show RdE wr wr.heap.size (some ⟨gi,0,none⟩) L.length L from (((RdE.blw HR1.out HBZ.out).more HBZ.out.size).blw HBP.out).more HBP.out.size)
           have HSO:=Lib.hid (sorted_any wr.heap.size L.length ci wr.heap.size P.length cp (some ⟨gi,0,none⟩) Ap L P wr HRI.out (RdE.here HOP.out.rd) (Nat.le_refl _) (Nat.le_refl _) (by omega) (by omega))
           have hl300:L.length≤300:=by omega
           go_wp2_with (go_at_call 164;(with_reducible refine HSO.out.mono ?_);go_must (rintro e w9 ⟨A9,n9,c9,rfl,hn9,ho9,hb9⟩;have HO9:=Lib.hid ho9;have HB9:=Lib.hid hb9;have HN9:=Lib.hid hn9;clear ho9 hb9 hn9))
           have hml:=mx_len (L.length+P.length) L P (Nat.le_refl _)
           have HZ9:Hid ((mrgBy mxw L P).map (·.1)=pmL (stab Mem.w (leaves ws)) k):=(show _=_ by
            rw [mx_map _ L P (Nat.le_refl _),hPL.out,HZ.out,HST.out]
            obtain ⟨k',rfl⟩:∃ k',k=k'+1:=⟨k - 1,by omega⟩
            rfl)
           have hn9:n9=(mrgBy mxw L P).length:=by rw [hml];exact HN9.out
           have HNG9:=Lib.hid (show ∀ x ∈ mrgBy mxw L P,∀ a,x.2.1=some a→a.block ≠ go from fun x hx a ha=>by
            rcases mx_mem _ L P (Nat.le_refl _) x hx with h1 | h1
            ·exact Nat.ne_of_lt (HLB.out x h1 a ha)
            ·have:=HNP.out x h1 a ha
             omega)
           have hbs:=HBP.out.size
           have hzs:=HBZ.out.size
           have HM9:=Lib.hid (show MOk w9 w9.heap.size (mrgBy mxw L P) from fun x hx=>by
            have hw9:=HB9.out.size
            rcases mx_mem _ L P (Nat.le_refl _) x hx with h1 | h1
            ·exact ((((((HM1.out x h1).blw HBZ.out).more hzs).blw HBP.out).more hbs).blw HB9.out).more hw9
            ·exact (((HMP.out x h1).1).blw HB9.out).more hw9)
           have HAG9:=Lib.hid (show ∀ a,A9=some a→a.block ≠ go from fun a ha=>by
            subst ha
            have:=(World.ownsRow.lt HO9.out a.block rfl).1
            omega)
           have HR9:=Lib.hid (RdE.here HO9.out.rd)
           have HB99:=Lib.hid ((HBZ.out.trans (HBP.out.mono hzs)).trans (HB9.out.mono (by omega)))
           have hz6:(mrgBy mxw L P).length≤600:=by omega
           rw [hn9] at HR9
           rw [hn9]
           go_roundw
           case rel=>exact ⟨k+1,A9,c9,mrgBy mxw L P,by omega,by omega,by go_num,rfl,HZ9,HR9,HM9,HNG9,HAG9,hz6,HB99⟩
           case measure=>simp [intOf];omega
        ·obtain rfl:k=m:=by omega
         obtain ⟨q,hq⟩:∃ q,q=2 * L.length - 2:=⟨_,rfl⟩
         have hqI:2 * (L.length:Int) - 2=(q:Int):=by omega
         have hqZ:q≤Z.length:=by
          have h1:=pm_enough (stab Mem.w (leaves ws)) (k - 1) (by rw [stab_lenM,HLL.out,show k - 1+1=k by omega];exact Nat.le_of_not_lt HMY.out)
          have h2:=congrArg List.length HZ.out
          rw [List.length_map] at h2
          rw [stab_lenM,HLL.out] at h1
          omega
         have HQ:=Lib.hid hq
         have hl300:L.length≤300:=by omega
         obtain ⟨wo,rfl⟩:∃ wo:World,wo=wr:=⟨_,rfl⟩
         have HOL:=Lib.hid (show ownI wo go (.slice (some ⟨go,0,none⟩) i i) (bumps (List.replicate i 0) (((Z.map (·.1)).take 0).flatMap Mem.items)) from HOU.out.later HBZ.out)
         have hgow:go < wo.heap.size:=by have:=HBZ.out.size;omega
         go_wp2_with fail
         go_loopw [14] (fun vi wr=>∃ j:Nat,vi=.int .i64 j∧j≤q∧Hid (ownI wr go (.slice (some ⟨go,0,none⟩) i i) (bumps (List.replicate i 0) (((Z.map (·.1)).take j).flatMap Mem.items)))∧Hid (wo.grownBy wr (some go)))
          (fun vi _=>q - (intOf vi).toNat)
         case atStart=>exact ⟨0,rfl,Nat.zero_le _,HOL,gb_refl2 _ _⟩
         case round =>
          clear HOL
          obtain ⟨j,rfl,hjq,HOJ,HG⟩:=hrel
          by_cases hlt2:j < q
          ·have hjZ:j < Z.length:=by omega
           obtain ⟨b,o,x,eA,hb,HX,-,-⟩:=HR.out.one hjZ
           have hxm:x ∈ Z:=List.mem_of_getElem? HX.out
           have htm:x.1 ∈ pmL (stab Mem.w (leaves ws)) (k - 1):=by rw [← HZ.out];exact List.mem_map_of_mem hxm
           have hS1:=pm_sizes (first:=stab Mem.w (leaves ws)) (fun t ht=>leaves_s t (stab_mem.1 ht)) (k - 1)
           have hpw:2 ^ (k - 1)≤2 ^ 14:=Nat.pow_le_pow_right (by omega) (by omega)
           have hS2:=flat_len (l:=(Z.map (·.1)).take j) (M:=2 ^ (k - 1)) (fun t ht=>hS1 t (by rw [← HZ.out];exact List.mem_of_mem_take ht))
           have hS3:((Z.map (·.1)).take j).length * 2 ^ (k - 1)≤600 * 2 ^ 14:=Nat.mul_le_mul (by simp;omega) hpw
           have hS4:=hS1 x.1 htm
           have HPP:=Lib.hid (pm_places (first:=stab Mem.w (leaves ws)) (n:=i) (fun t ht=>by have:=leaves_p t (stab_mem.1 ht);rwa [HL.out] at this) (k - 1) x.1 htm)
           have HIT:=Lib.hid (HM.out x hxm)
           have HIN:=Lib.hid (HNG.out x hxm)
           have HSTEP:Hid ((((Z.map (·.1)).take (j+1)).flatMap Mem.items)=(((Z.map (·.1)).take j).flatMap Mem.items) ++ x.1.items):=(show _=_ by
            have e5:(Z.map (·.1))[j]?=some x.1:=by rw [List.getElem?_map,HX.out];rfl
            obtain ⟨e6,e7⟩:=List.getElem?_eq_some_iff.1 e5
            rw [List.take_succ_eq_append_getElem e6,e7,List.flatMap_append]
            simp)
           obtain ⟨t,A3,n3,c3⟩:=x
           dsimp only at hS4 HPP HIT HIN HSTEP
           have hn3:t.items.length=n3:=by have:=HIT.out.len;simpa [plI] using this
           have HN3:=Lib.hid hn3
           have hRB:∀ y ∈ bumps (List.replicate i 0) (((Z.map (·.1)).take j).flatMap Mem.items),(0:Int)≤y∧y≤9830400:=fun y hy=>by
            have:=bumps_rng (xs:=List.replicate i 0) (M:=0) (fun z hz=>by rw [List.eq_of_mem_replicate hz];omega) (by omega) y hy
            omega
           have HRB:=Lib.hid hRB
           have hUL:(bumps (List.replicate i 0) (((Z.map (·.1)).take j).flatMap Mem.items)).length=i:=by rw [bumps_len,List.length_replicate]
           have HUL:=Lib.hid hUL
           have HTL:Hid (bumps (List.replicate i 0) (((Z.map (·.1)).take (j+1)).flatMap Mem.items)=bumps (bumps (List.replicate i 0) (((Z.map (·.1)).take j).flatMap Mem.items)) t.items):=(show _=_ by rw [HSTEP.out,bumps_append])
           have hn4:n3≤16384:=by omega
           clear hS1 hS2 hS3 hS4 hpw htm hxm hRB hUL hn3
           generalize bumps (List.replicate i 0) (((Z.map (·.1)).take j).flatMap Mem.items)=U at *
           subst eA
           obtain ⟨wp,rfl⟩:∃ wp:World,wp=wr:=⟨_,rfl⟩
           have hjZI:(j:Int) < (Z.length:Int):=by omega
           have hjqI:(j:Int) < (q:Int):=by omega
           go_wp2_with fail
           go_loopw [15] (fun ve wr=>∃ e:Nat,ve=.int .i64 e∧e≤n3∧Hid (ownI wr go (.slice (some ⟨go,0,none⟩) i i) (bumps U (t.items.take e)))∧Hid (wo.grownBy wr (some go))) (fun ve _=>n3 - (intOf ve).toNat)
           case atStart=>exact ⟨0,rfl,Nat.zero_le _,HOJ,HG⟩
           case round =>
            clear HOJ HG
            obtain ⟨e,rfl,hen,HOE,HG⟩:=hrel
            obtain ⟨b9,o9,x9,eA,hb9,HX9,g1,g2⟩:=(rdE_far HR.out HG.out (Nat.le_refl _) (fun a ha e'=>HAG.out a ha (by injection e' with e';exact e'.symm))).one hjZ
            injection eA with eA
            injection eA with eb eo
            subst eb eo
            obtain rfl:x9=(t,A3,n3,c3):=Option.some.inj (HX9.out.symm.trans HX.out)
            dsimp only at g1 g2
            by_cases hlt3:e < n3
            ·obtain ⟨b8,o8,y8,rfl,hb8,HY8,e8⟩:=(rdI_far2 HIT.out HG.out (Nat.le_refl _) (fun a ha e'=>HIN.out a ha (by injection e' with e';exact e'.symm))).one hlt3
             obtain ⟨p,rfl,hp⟩:=plI_get HY8.out
             have hpi:p < i:=HPP.out p (List.mem_of_getElem? hp)
             have hbl:(bumps U (t.items.take e)).length=i:=by rw [bumps_len,HUL.out]
             have o6:=HOE.out.cell (by rw [hbl]) (k:=p) (by rw [hbl];exact hpi)
             have f6:=HOE.out.frozen (by rw [hbl]) p
             have hv:=bumps_rng (ps:=t.items.take e) HRB.out (by omega) ((bumps U (t.items.take e))[p]'(by rw [hbl];exact hpi)) (List.getElem_mem _)
             have hte:(t.items.take e).length≤16384:=by rw [List.length_take];omega
             have HST5:Hid (bumps U (t.items.take (e+1))=(bumps U (t.items.take e)).set p ((bumps U (t.items.take e))[p]'(by rw [hbl];exact hpi)+1)):=(show _=_ by
              obtain ⟨q1,q2⟩:=List.getElem?_eq_some_iff.1 hp
              rw [List.take_succ_eq_append_getElem q1,q2,bumps_append]
              show (bumps U (t.items.take e)).set p ((bumps U (t.items.take e)).getD p 0+1)=_
              rw [List.getD_eq_getElem?_getD,List.getElem?_eq_getElem (by rw [hbl];exact hpi)]
              rfl)
             have HSO:=Lib.hid (HOE.out.store (by rw [hbl]) p ((bumps U (t.items.take e))[p]'(by rw [hbl];exact hpi)+1))
             rw [← HST5.out] at HSO
             generalize (bumps U (t.items.take e))[p]'(by rw [hbl];exact hpi)=v at *
             have HG2:=Lib.hid (gb_set2 (o:=p) HG.out (.int .i64 (v+1)))
             have hv0:0≤v:=hv.1
             have hv1:v≤20000000:=by omega
             have hpI:(p:Int) < (i:Int):=by omega
             have heI:(e:Int) < (n3:Int):=by omega
             clear HOE HG hv hte hbl hp HX9 HY8 HST5
             go_wp2_with fail
             go_roundw
             case rel=>exact ⟨e+1,by go_num,by omega,HSO,HG2⟩
             case measure=>simp [intOf];omega
            ·obtain rfl:e=n3:=by omega
             have HOF:=HOE.out
             rw [List.take_of_length_le (by rw [HN3.out];exact Nat.le_refl _),← HTL.out] at HOF
             go_wp2_with fail
             go_roundw
             case rel=>exact ⟨j+1,by go_num,by omega,HOF,HG⟩
             case measure=>simp [intOf];omega
          ·obtain rfl:j=q:=by omega
           have HF:Hid (bumps (List.replicate i 0) (((Z.map (·.1)).take j).flatMap Mem.items)=lensOf ws k):=(show _=_ by rw [lensOf,if_neg (by rw [HLL.out];exact HONE.out),HZ.out,HLL.out,HQ.out,HL.out])
           have HBE:=Lib.hid (HBW1.out.trans (HBZ.out.mono HBW1.out.size))
           go_wp2_with fail
           go_ret2
           refine ⟨some ⟨go,0,none⟩,i,i,ret_tup2 rfl (by rw [HE.out.1];rfl),?_,?_,?_⟩
           ·rw [HE.out.2,← HF.out,bumps_len,List.length_replicate]
           ·rw [HE.out.2,← HF.out]
            exact HOJ.out.mono (by omega)
           ·exact HBE.out.grown HG.out (by have:=HBE.out.size;omega) (fun g hg=>by injection hg with hg;omega)
end Go.Proofs.YteoolehdomjkkaaGreat

