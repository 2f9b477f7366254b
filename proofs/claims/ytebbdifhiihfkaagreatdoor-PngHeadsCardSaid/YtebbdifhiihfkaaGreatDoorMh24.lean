/- XFl14 XFl7 XFl15 -/
import Derived.Test.YtebbdifhiihfkaaGreatDoorMh23
import Derived.Test.YtebbdifhiihfkaaGreatDoorMh20
import Derived.StillTailTactics
import Derived.Deep.RegionHeld3
import Derived.Deep.CutBlock
namespace Go.Proofs.YtebbdifhiihfkaaGreatDoor
set_option linter.all false
open Go.RowKit
theorem own_nilAt {W:World} {g base:Nat} (hg:g=W.heap.size) (hb:base≤g):ownI (W.alloc (.cells #[] 3)) base (.slice (some ⟨g,0,none⟩) 0 0) []:=by
 subst hg
 exact (own_litI W [] (by simp)).mono hb
theorem alloc_le (w:World) (o:Obj):w.heap.size≤(w.alloc o).heap.size:=by simp
theorem cell_blw {w w':World} {b i:Nat} {v:Value} {B:Nat} (hb:Below B w w') (hl:b < B) (h:w.cell? ⟨b,i,none⟩=some v):w'.cell? ⟨b,i,none⟩=some v:=(hb.cell (p:=⟨b,i,none⟩) hl).trans h
theorem cell_alloc2 {w:World} {b i:Nat} {v:Value} (h:w.cell? ⟨b,i,none⟩=some v) (o:Obj):(w.alloc o).cell? ⟨b,i,none⟩=some v:=(World.cell?_alloc_lt w o _ (block_lt_of_cell (a:=⟨b,i,none⟩) h)).trans h
theorem sgnB_le {cl:List Int} (h:CodesOK cl) (hl:cl.length=19) {s:Sgn} (hs:SgnOK s):(sgnB cl s).length≤22:=by
 unfold sgnB
 rw [List.length_append,lsb_len]
 have:=codeB_le (ls:=cl) (p:=s.1) (by rw [hl];exact hs.1) h
 have:=hs.2.2
 omega
theorem sgns_le {cl:List Int} (h:CodesOK cl) (hl:cl.length=19):∀ {ss:List Sgn},(∀ s ∈ ss,SgnOK s)→(ss.flatMap (sgnB cl)).length≤22 * ss.length:=by
 intro ss
 induction ss with
 | nil=>intro _;simp
 | cons t r ih =>
  intro h3
  have:=ih (fun u hu=>h3 u (by simp [hu]))
  have:=sgnB_le h hl (h3 t (by simp))
  rw [List.flatMap_cons,List.length_append,List.length_cons]
  omega
def ordF (cl:List Int) (k:Nat):List Nat:=lsb (cl.getD k 0).toNat 3
theorem ords_len (cl:List Int) (l:List Nat):(l.flatMap (ordF cl)).length=3 * l.length:=by
 induction l with
 | nil=>rfl
 | cons x r ih=>rw [List.flatMap_cons,List.length_append,ih];unfold ordF;rw [lsb_len,List.length_cons];omega
theorem hcK_on {cl:List Int} {k:Nat} {y:Nat} {x:Int} (h:4 < k+1) (hy:ordL[k]?=some y) (hx:cl[y]?=some x) (h0:x=0):hcK cl (k+1)=hcK cl k:=by
 have e1:ordL.getD k 0=y:=by rw [List.getD_eq_getElem?_getD,hy];rfl
 have:4 < k+1∧cl.getD (ordL.getD k 0) 0=0:=⟨h,by rw [e1,List.getD_eq_getElem?_getD,hx];exact h0⟩
 exact if_pos this
theorem hcK_off {cl:List Int} {k:Nat} {y:Nat} {x:Int} (hy:ordL[k]?=some y) (hx:cl[y]?=some x) (h0:¬ x=0):hcK cl (k+1)=k+1:=by
 have e1:ordL.getD k 0=y:=by rw [List.getD_eq_getElem?_getD,hy];rfl
 exact if_neg fun h=>h0 (by have:=h.2;rw [e1,List.getD_eq_getElem?_getD,hx] at this;exact this)
theorem hcK_least {cl:List Int} {k:Nat} (h:k≤4):hcK cl k=k:=by
 cases k with
 | zero=>rfl
 | succ k=>exact if_neg fun e=>by omega
theorem ordL_lt {k y:Nat} (h:ordL[k]?=some y):y < 19:=by
 have:∀ z ∈ ordL,z < 19:=by decide
 exact this y (List.mem_of_getElem? h)
set_option maxRecDepth 100000 in
set_option maxHeartbeats 6400000 in
theorem lists_any (B nl cl nd cd g:Nat) (Al Ad:Option Addr) (ll dd:List Int) (pv:Value) (bs:List UInt8) (L:List Nat) (w:World)
  (hW:Wr w g pv bs L) (hll:RdI w B Al nl ll) (hdd:RdI w B Ad nd dd) (hB:B≤g) (hcl:nl≤286) (h257:257≤nl) (hnd:1≤nd) (hnd2:nd≤30)
  (hol:CodesOK ll) (hod:CodesOK dd) (hmax:L.length≤900000) :
  Calls Tryz.prog 122 #[wrV g,.agg #[.slice Al nl cl,.slice Ad nd cd]] w fun e w'=>e=.returned (.tuple #[])∧∃ pv' bs',Wr w' g pv' bs' (L ++ listsB ll dd)∧WrFr w w' g pv pv':=by
 have hll2:=hll.len
 have hdd2:=hdd.len
 have hgw:=hW.1.lt
 obtain ⟨w2,hw2⟩:∃ w2,(w.alloc (.cells #[.pointer (some ⟨g,0,none⟩)] 155)).alloc (.cells #[.slice Al nl cl,.slice Ad nd cd] 152)=w2:=⟨_,rfl⟩
 have hz2:w.heap.size+2≤w2.heap.size:=by rw [← hw2,World.size_alloc,World.size_alloc];omega
 have HW2:Hid (Wr w2 g pv bs L):=(show Wr _ _ _ _ _ by rw [← hw2];exact (hW.alloc _).alloc _)
 have HX0:Hid (Bx w2 g pv w.heap.size):=(show Bx _ _ _ _ by rw [← hw2];exact (Bx.new hW _).alloc _)
 have HX1:Hid (Bx w2 g pv (w.heap.size+1)):=(show Bx _ _ _ _ by rw [← hw2];have:=Bx.new (hW.alloc (.cells #[.pointer (some ⟨g,0,none⟩)] 155)) (.cells #[.slice Al nl cl,.slice Ad nd cd] 152);rwa [World.size_alloc] at this)
 have HA0:Hid (Arr w2 w.heap.size [.pointer (some ⟨g,0,none⟩)]):=(show Arr _ _ _ by rw [← hw2];exact (Arr.new w [.pointer (some ⟨g,0,none⟩)] 155).alloc _)
 have HA1:Hid (Arr w2 (w.heap.size+1) [.slice Al nl cl,.slice Ad nd cd]):=(show Arr _ _ _ by rw [← hw2];have:=Arr.new (w.alloc (.cells #[.pointer (some ⟨g,0,none⟩)] 155)) [.slice Al nl cl,.slice Ad nd cd] 152;rwa [World.size_alloc] at this)
 have HF2:Hid (WrFr w w2 g pv pv):=(show WrFr _ _ _ _ _ by rw [← hw2];exact ((WrFr.refl w g pv).alloc _).alloc _)
 have HL2:Hid (RdI w2 B Al nl ll):=(show RdI _ _ _ _ _ by rw [← hw2];exact (hll.alloc (by omega) _).alloc (by rw [World.size_alloc];omega) _)
 have HD2:Hid (RdI w2 B Ad nd dd):=(show RdI _ _ _ _ _ by rw [← hw2];exact (hdd.alloc (by omega) _).alloc (by rw [World.size_alloc];omega) _)
 have s0:=HA1.out.cell (k:=0) rfl
 have s1:=HA1.out.cell (k:=1) rfl
 clear hW hll hdd
 go_enter Tryz.func122,Tryz.ntmps122
 go_upto_region 1 with (fail)
 have s0d:w2.drew.cell? ⟨w.heap.size+1,0,none⟩=some (.slice Al nl cl):=s0
 have s1d:w2.drew.cell? ⟨w.heap.size+1,1,none⟩=some (.slice Ad nd cd):=s1
 have hb1:w.heap.size+1 < w2.heap.size:=by omega
 have hn5:ownI (w2.drew.alloc (.cells #[] 3)) w2.heap.size (.slice (some ⟨w2.heap.size,0,none⟩) 0 0) []:=own_nilAt (W:=w2.drew) rfl (Nat.le_refl _)
 have HLd:Hid (RdI (w2.drew.alloc (.cells #[] 3)) B Al nl ll):=(show RdI _ _ _ _ _ from RdI.alloc (w:=w2.drew) HL2.out (by show B≤w2.heap.size;omega) _)
 have hBd:Below w2.heap.size w2 (w2.drew.alloc (.cells #[] 3)):=((Below.refl w2.heap.size w2).drew).alloc (Nat.le_refl _) _
 have hq1:([]:List Int).length+nl≤1099511627776:=by simp;omega
 have hq2:(([]:List Int) ++ ll).length+nd≤1099511627776:=by simp;omega
 have hr9:∀ x ∈ ll ++ dd,0≤x:=fun x hx=>by
  rw [List.mem_append] at hx
  rcases hx with h | h
  ·exact (hol.rng x h).1
  ·exact (hod.rng x h).1
 have HR9:=Lib.hid hr9
 have hrl:(ll ++ dd).length=nl+nd:=by rw [List.length_append,hll2,hdd2]
 clear hr9
 go_cut [4] (fun v wc=>Hid (ownG wc w2.heap.size v (runsP (ll ++ dd)))∧Hid (Below w2.heap.size w2 wc))
 case first =>
  go_region_held3 (fun w'=>w'.cell? ⟨w.heap.size+1,0,none⟩=some (.slice Al nl cl)∧w'.cell? ⟨w.heap.size+1,1,none⟩=some (.slice Ad nd cd))
   (first | (with_reducible exact ⟨s0,s1⟩) | (with_reducible exact ⟨s0d,s1d⟩) | (with_reducible exact ⟨cell_alloc2 s0d _,cell_alloc2 s1d _⟩) | (with_reducible exact ⟨s06,s16⟩) | (with_reducible exact ⟨s07,s17⟩) | (with_reducible exact ⟨s08,s18⟩) | go_keep)
   (first
   | (refine step_appendI rfl (.tmp 17) (.tmp 19) rfl w2.heap.size (.slice (some ⟨w2.heap.size,0,none⟩) 0 0) [] rfl hn5 B nl _ _ ll rfl HLd.out hq1 (alloc_le _ _) ?_;intro v6 w6 h6 hg6 hb6 hat6;have hX6:Below w2.heap.size w2 w6:=Below.trans hBd hb6;have z6:=hX6.size;have s06:=cell_blw hX6 hb1 s0;have s16:=cell_blw hX6 hb1 s1;clear hg6 hb6 hat6)
   | (refine step_appendI rfl (.tmp 20) (.tmp 22) rfl w2.heap.size v6 ([] ++ ll) rfl h6 B nd _ _ dd rfl (RdI.blw HD2.out (hX6.mono (by omega))) hq2 z6 ?_;intro v7 w7 h7 hg7 hb7 hat7;have hX7:Below w2.heap.size w2 w7:=Below.trans hX6 hb7;have z7:=hX7.size;have s07:=cell_blw hX7 hb1 s0;have s17:=cell_blw hX7 hb1 s1;clear hg7 hb7 hat7;rw [List.nil_append] at h7;obtain ⟨A7,c7,rfl,hr7,-,-⟩:=h7.form;rw [hrl] at hr7)
   | (go_at_call 155;(with_reducible refine (runs_any _ _ _ _ _ _ hr7 (Nat.le_refl _) (by omega) HR9.out).mono ?_);go_must (rintro e w8 ⟨v8,rfl,ho8,hb8⟩;have hX8:Below w2.heap.size w2 w8:=Below.trans hX7 (hb8.mono z7);have s08:=cell_blw hX8 hb1 s0;have s18:=cell_blw hX8 hb1 s1)))
  all_goals
   go_wp2_with fail
   go_meet
   case rel=>exact ⟨ownG.mono ho8 z7,hX8⟩
 case rest =>
  clear hn5 HLd hBd hq1 hq2 HR9 s0d s1d hrl HL2 HD2
  obtain ⟨wa,rfl⟩:∃ wa:World,wa=wc:=⟨_,rfl⟩
  obtain ⟨HSS,HBC⟩:=hcut
  have HSO:=Lib.hid (runsF_ok (ll ++ dd).length (ll ++ dd) (fun x hx=>by
   rw [List.mem_append] at hx
   rcases hx with h | h
   ·exact hol.rng x h
   ·exact hod.rng x h))
  have hSL:(runsP (ll ++ dd)).length≤nl+nd:=by
   have:=runsF_len (ll ++ dd).length (ll ++ dd)
   have h2:(ll ++ dd).length=nl+nd:=by rw [List.length_append,hll2,hdd2]
   rw [← h2]
   exact this
  have HLB:Hid (listsB ll dd=lsb (nl - 257) 5 ++ lsb (nd - 1) 5 ++ lsb (hcK (lensC (runsP (ll ++ dd))) 19 - 4) 4 ++ (ordL.take (hcK (lensC (runsP (ll ++ dd))) 19)).flatMap (ordF (lensC (runsP (ll ++ dd)))) ++ (runsP (ll ++ dd)).flatMap (sgnB (lensC (runsP (ll ++ dd))))):=(show _=_ by rw [← hll2,← hdd2];rfl)
  have HSO:Hid (∀ s ∈ runsP (ll ++ dd),SgnOK s):=HSO
  generalize runsP (ll ++ dd)=SS at *
  obtain ⟨AR,cR,rfl,hRR,-,-⟩:=HSS.out.form
  have HRR:=Lib.hid hRR
  obtain ⟨nS,hnS⟩:∃ nS,SS.length=nS:=⟨_,rfl⟩
  rw [hnS] at hSL HRR HSS
  simp only [hnS]
  have hzc:=HBC.out.size
  obtain ⟨gW,hgW⟩:∃ gW,wa.heap.size=gW:=⟨_,rfl⟩
  clear hRR hll2 hdd2
  go_wp2_with (at_make;refine wpList_makeI rfl _ _ rfl 19 _ rfl rfl rfl (by omega) ?_;intro w6 hown hb6 hsz6;have HOW:=Lib.hid hown;have HB6:=Lib.hid hb6;clear hown hb6)
  rw [hgW] at HOW
  have hgw6:gW < w6.heap.size:=by omega
  go_loopw [28] (fun vi wr=>∃ k:Nat,k≤nS∧vi=.int .i64 k∧Hid (ownI wr gW (.slice (some ⟨gW,0,none⟩) 19 19) (wgtC (SS.take k)))∧Hid (Below wa.heap.size wa wr)∧gW < wr.heap.size) (fun vi _=>nS - (intOf vi).toNat)
  case atStart=>exact ⟨0,Nat.zero_le _,rfl,HOW,HB6,hgw6⟩
  case round =>
   clear HOW HB6 hgw6 hsz6
   obtain ⟨k,hk,rfl,HOW,HB6,hgw6⟩:=hrel
   by_cases hlt:k < nS
   ·have hlti:(k:Int) < (nS:Int):=by omega
    obtain ⟨b,o,⟨x,m,y⟩,rfl,hb,HX,e1,e2,e3⟩:=(RdG.later HRR.out HB6.out).one hlt
    have hok:=HSO.out _ (List.mem_of_getElem? HX.out)
    have hx19:x < 19:=hok.1
    have HLA:=Lib.hid (wgtC_len (SS.take k))
    have HRA:=Lib.hid (wgtC_rng (SS.take k))
    have HTL:Hid ((SS.take k).length≤400):=(show _≤_ by rw [List.length_take];omega)
    have HSA:Hid (wgtC (SS.take (k+1))=bump (wgtC (SS.take k)) x):=(show _=_ by unfold wgtC;rw [take_map_snoc (fun s:Sgn=>s.1) HX.out,bumps_snoc])
    generalize wgtC (SS.take k)=la at *
    have hgaN:¬ gW=wr.heap.size:=by omega
    have hbN:¬ b=wr.heap.size:=by omega
    have hyl:x < la.length:=by rw [HLA.out];omega
    have HXV:=Lib.hid (List.getElem?_eq_getElem hyl)
    have c7:=HOW.out.cell HLA.out.symm hyl
    have f7:=HOW.out.frozen HLA.out.symm x
    have hr7:=HRA.out _ (List.getElem_mem hyl)
    generalize la[x]=z at *
    have HOW2:=Lib.hid (fun o'=>(HOW.out.store HLA.out.symm x (z+1)).alloc o')
    rw [← bump_set HXV.out,← HSA.out] at HOW2
    have HB62:=Lib.hid (fun o'=>Below.alloc (HB6.out.setCell (p:=⟨gW,x,none⟩) (by show wa.heap.size≤gW;omega) (.int .i64 (z+1))) (by have:=HB6.out.size;simp;omega) o')
    have hz7:0≤z∧z≤500:=by have:=HTL.out;omega
    clear HOW HB6 HRA HTL hok hr7 HXV HSA
    go_wp2_with fail
    go_roundw
    case rel=>exact ⟨k+1,by omega,by go_num,HOW2.out _,HB62.out _,by simp;omega⟩
    case measure=>simp [intOf];omega
   ·obtain rfl:nS=k:=by omega
    rw [show SS.take nS=SS from List.take_of_length_le (by omega)] at HOW
    obtain ⟨wo,rfl⟩:∃ wo:World,wo=wr:=⟨_,rfl⟩
    have hzo:=HB6.out.size
    have HLE:=Lib.hid (lens_any wo.heap.size 19 19 _ (wgtC SS) 7 7 rfl wo HOW.out.rd (Nat.le_refl _) (by omega) (by omega) (by omega) (by omega) (fun x hx=>by have:=wgtC_rng SS x hx;omega) (by decide))
    have HCO:=Lib.hid (lensC_ok SS)
    have HCL:=Lib.hid (lensC_len SS)
    have HCR:=Lib.hid (lensC_rng SS)
    have HLE:Hid (Calls _ _ _ _ fun e w'=>∃ g c',e=.returned (.tuple #[.slice (some ⟨g,0,none⟩) 19 c',.int .i64 0])∧19≤c'∧c'≤maxLen∧wo.heap.size≤g∧ownI w' wo.heap.size (.slice (some ⟨g,0,none⟩) 19 c') (lensC SS)∧Below wo.heap.size wo w'):=HLE
    generalize lensC SS=CL at *
    clear HOW
    go_upto_region 10 with (first
     | (go_at_call 153;(with_reducible refine HLE.out.mono ?_);go_must (rintro e w7 ⟨g7,c7,rfl,-,-,hg7,ho7,hb7⟩;have HO7:=Lib.hid ho7;have HB7:=Lib.hid (HB6.out.trans (hb7.mono hzo));have hz7:=hb7.size;have hg7w:=(World.ownsRow.lt ho7 g7 rfl).2;have HCD:=Lib.hid (codes_ok w7.heap.size 19 c7 _ CL w7 ho7.rd (Nat.le_refl _) (by omega) HCO.out);clear ho7 hb7 HLE))
     | (go_at_call 148;(with_reducible refine HCD.out.mono ?_);go_must (rintro e w8 ⟨g8,c8,rfl,hg8,ho8,hb8⟩;have HO78:=Lib.hid (ownI.later HO7.out hb8);have HB8:=Lib.hid (HB7.out.trans (hb8.mono (by omega)));have HC8:=Lib.hid (CodeCells.of ho8 HCL.out.symm);have hz8:=hb8.size;have hg8w:=(World.ownsRow.lt ho8 g8 rfl).2;clear ho8 hb8 HO7 HB7 HCD)))
    have HB9:=Lib.hid (Below.refl w8.heap.size w8)
    go_upto_block 2 with fail
    go_cut [12] from 50 to 64 (fun v wc=>v=.int .i64 ((hcK CL 19:Nat):Int)∧Hid (Below w8.heap.size w8 wc))
    case first =>
     go_wp2_with fail
     go_loopw [12] (fun vi wr=>∃ q:Nat,4≤q∧q≤19∧vi=.int .i64 q∧Hid (hcK CL q=hcK CL 19)∧Hid (Below w8.heap.size w8 wr)) (fun vi _=>(intOf vi).toNat)
     case atStart=>exact ⟨19,by omega,Nat.le_refl _,rfl,(show _=_ from rfl),HB9⟩
     case round =>
      clear HB9
      obtain ⟨q,hq4,hq19,rfl,HQ,HB9⟩:=hrel
      have HOR:=Lib.hid (fun w=>order_any w)
      by_cases hq:4 < q
      ·have hqi:(4:Int) < (q:Int):=by omega
       obtain ⟨t,rfl⟩:∃ t,q=t+1:=⟨q - 1,by omega⟩
       have hqt:((t+1:Nat):Int) - 1=(t:Int):=by omega
       obtain ⟨yy,hyy⟩:∃ y,ordL[t]?=some y:=⟨_,List.getElem?_eq_getElem (by show t < 19;omega)⟩
       have hy19:=ordL_lt hyy
       have hyl:yy < CL.length:=by rw [HCL.out];exact hy19
       have HY:=Lib.hid (List.getElem?_eq_getElem hyl)
       have HYY:=Lib.hid hyy
       have cl7:=ownI.cell (ownI.later HO78.out HB9.out) HCL.out.symm hyl
       have hgN:¬ g7=wr.heap.size:=by have:=HB9.out.size;omega
       obtain ⟨v,hv⟩:∃ v,CL[yy]=v:=⟨_,rfl⟩
       rw [hv] at cl7 HY
       clear hyy hv
       obtain ⟨q,hqq⟩:∃ q,t+1=q:=⟨_,rfl⟩
       have HOR1:=Lib.hid (order_any wr)
       by_cases hv0:v=0
       ·have d1:(v == 0)=true:=by rw [hv0];rfl
        have HQ2:Hid (hcK CL t=hcK CL 19):=(show _=_ by rw [← HQ.out];exact (hcK_on hq HYY.out HY.out hv0).symm)
        rw [hqq] at hqt hqi
        simp only [hqq]
        go_wp2_with (go_at_call 131;(with_reducible refine HOR1.out.mono ?_);go_must (rintro e w9 ⟨rfl,ho9,hb9⟩;have co:=ownI.cell ho9 rfl (k:=t) (by show t < 19;omega);have hbx:=HB9.out.trans (hb9.mono HB9.out.size);have cl8:=(World.cell?_of_block (a:=⟨g7,yy,none⟩) (hb9.block g7 (by have:=HB9.out.size;omega))).trans cl7;have HBX:=Lib.hid hbx;have hco:(ordL.map fun (x:Nat)=>(x:Int))[t]'(by show t < 19;omega)=(yy:Int):=(by rw [List.getElem_map];have:=HYY.out;rw [List.getElem?_eq_getElem (by show t < 19;omega)] at this;injection this with this;rw [this]);rw [hco] at co;clear ho9 hb9 hbx hco))
        go_roundw
        case rel=>exact ⟨t,by omega,by omega,rfl,HQ2,HBX⟩
        case measure=>simp [intOf];omega
       ·have d1:(v == 0)=false:=beq_eq_false_iff_ne.2 hv0
        have HQ2:Hid (t+1=hcK CL 19):=(show _=_ by rw [← HQ.out];exact (hcK_off HYY.out HY.out hv0).symm)
        rw [hqq] at hqt hqi HQ2
        simp only [hqq]
        go_wp2_with (go_at_call 131;(with_reducible refine HOR1.out.mono ?_);go_must (rintro e w9 ⟨rfl,ho9,hb9⟩;have co:=ownI.cell ho9 rfl (k:=t) (by show t < 19;omega);have hbx:=HB9.out.trans (hb9.mono HB9.out.size);have cl8:=(World.cell?_of_block (a:=⟨g7,yy,none⟩) (hb9.block g7 (by have:=HB9.out.size;omega))).trans cl7;have HBX:=Lib.hid hbx;have hco:(ordL.map fun (x:Nat)=>(x:Int))[t]'(by show t < 19;omega)=(yy:Int):=(by rw [List.getElem_map];have:=HYY.out;rw [List.getElem?_eq_getElem (by show t < 19;omega)] at this;injection this with this;rw [this]);rw [hco] at co;clear ho9 hb9 hbx hco))
        go_meet
        case rel=>exact ⟨by rw [← HQ2.out],HBX⟩
      ·have hqi:¬ (4:Int) < (q:Int):=by omega
       have HQ2:Hid (q=hcK CL 19):=(show _=_ by rw [← HQ.out,hcK_least (by omega)])
       go_wp2_with fail
       go_meet
       case rel=>exact ⟨by rw [← HQ2.out],HB9⟩
    case rest =>
     clear HB9
     obtain ⟨rfl,HB9⟩:=hcut
     have hN4:=hcK_ge CL 19 (by omega)
     have hN19:=hcK_le CL 19
     obtain ⟨N,hN⟩:∃ N,hcK CL 19=N:=⟨_,rfl⟩
     rw [hN] at hN4 hN19 HLB
     simp only [hN]
     clear hN
     have hz9:=HB9.out.size
     have HBT:=Lib.hid ((HBC.out.trans (HB8.out.mono (by omega))).trans (HB9.out.mono (by omega)))
     have HW9:=HW2.out.later HBT.out
     have hf9:=WrFr.of (g:=g) (pv:=pv) HBT.out
     have HF9:=Lib.hid (HF2.out.trans hf9)
     have HX09:=Lib.hid (HX0.out.wr hf9)
     have HX19:=Lib.hid (HX1.out.wr hf9)
     have HA09:=Lib.hid (HA0.out.wr HX0.out hf9)
     have HA19:=Lib.hid (HA1.out.wr HX1.out hf9)
     have hg2w:g+1≤w2.heap.size:=HW2.out.1.lt
     have HO9:=Lib.hid ((ownI.later HO78.out HB9.out).mono (base':=g+1) (by omega))
     have HDI9:Hid (Dis pv (.slice (some ⟨g7,0,none⟩) 19 c7)):=(show Dis _ _ from Dis.new HW2.out.2.1 (b2:=w2.heap.size) (fun k hk=>by have e:some g7=some k:=hk;injection e with e;omega) (Nat.le_refl _))
     have HC9:=Lib.hid (HC8.out.later hg8w HB9.out)
     have HX89:=Lib.hid (Bx.of HW2.out (w':=wc) (b:=g8) (by omega) (by omega))
     have HDS9:=Lib.hid (Dis.new HW2.out.2.1 (fun k hk=>(World.ownsRow.lt HSS.out k hk).1) (Nat.le_refl _))
     have HS9:=Lib.hid ((ownG.later HSS.out ((HB8.out).trans (HB9.out.mono (by omega)))).mono (base':=g+1) hg2w)
     have c0:=HA09.out.cell (k:=0) rfl
     have c1:=HA19.out.cell (k:=0) rfl
     have c2:=HA19.out.cell (k:=1) rfl
     obtain ⟨a1,ha1⟩:∃ a,nl - 257=a:=⟨_,rfl⟩
     obtain ⟨a2,ha2⟩:∃ a,nd - 1=a:=⟨_,rfl⟩
     obtain ⟨a3,ha3⟩:∃ a,N - 4=a:=⟨_,rfl⟩
     rw [ha1,ha2,ha3] at HLB
     have e1:(nl:Int) - 256 - 1=(a1:Int):=by omega
     have e2:(nd:Int) - 1=(a2:Int):=by omega
     have e3:(N:Int) - 4=(a3:Int):=by omega
     have HP1:=Lib.hid (fput_lit g (a1:Int) 5 a1 5 rfl rfl _ _ _ _ HW9 (by omega) (by decide) (by show a1 < 32;omega))
     clear HW9 hf9 HBT HB9 HB8 HB6 HBC HX0 HX1 HA0 HA1 HO78 HC8 HSS
     go_wp2_with (first
      | (go_at_call 147;(with_reducible refine HP1.out.mono ?_);go_must (rintro e w10 ⟨rfl,p10,b10,hw10,hf10⟩;have HF10:=Lib.hid hf10;have c0:=(HA09.out.wr HX09.out hf10).cell (k:=0) rfl;have c1:=(HA19.out.wr HX19.out hf10).cell (k:=0) rfl;have c2:=(HA19.out.wr HX19.out hf10).cell (k:=1) rfl;have HP2:=Lib.hid (fput_lit g (a2:Int) 5 a2 5 rfl rfl _ _ _ _ hw10 (by rw [List.length_append,lsb_len];omega) (by decide) (by show a2 < 32;omega));clear hw10 hf10 HP1))
      | (go_at_call 147;(with_reducible refine HP2.out.mono ?_);go_must (rintro e w11 ⟨rfl,p11,b11,hw11,hf11⟩;have HF11:=Lib.hid (HF10.out.trans hf11);have c0:=(HA09.out.wr HX09.out HF11.out).cell (k:=0) rfl;have HP3:=Lib.hid (fput_lit g (a3:Int) 4 a3 4 rfl rfl _ _ _ _ hw11 (by rw [List.length_append,List.length_append,lsb_len,lsb_len];omega) (by decide) (by show a3 < 16;omega));clear hw11 hf11 HP2 HF10))
      | (go_at_call 147;(with_reducible refine HP3.out.mono ?_);go_must (rintro e w12 ⟨rfl,p12,b12,hw12,hf12⟩;have HF12:=Lib.hid (HF11.out.trans hf12);have HW12:=Lib.hid hw12;have HOR12:=Lib.hid (order_any w12);have hgo:=hw12.1.lt;clear hw12 hf12 HP3 HF11))
      | (go_at_call 131;(with_reducible refine HOR12.out.mono ?_);go_must (rintro e w13 ⟨rfl,ho13,hb13⟩;have HF13:=Lib.hid (HF12.out.trans (WrFr.of hb13));have HW13:=Lib.hid (HW12.out.later hb13);have HOD13:=Lib.hid (ownI.mono ho13 (base':=g+1) hgo);have HDO13:Hid (Dis p12 (.slice (some ⟨w12.heap.size,0,none⟩) 19 19)):=(show Dis _ _ from Dis.new HW12.out.2.1 (b2:=w12.heap.size) (fun k hk=>by have e:some w12.heap.size=some k:=hk;injection e with e;omega) (Nat.le_refl _));clear ho13 hb13 HF12)))
     obtain ⟨L3,hL3⟩:∃ L3,L ++ lsb a1 5 ++ lsb a2 5 ++ lsb a3 4=L3:=⟨_,rfl⟩
     have hL3n:L3.length≤900100:=by rw [← hL3,List.length_append,List.length_append,List.length_append,lsb_len,lsb_len,lsb_len];omega
     rw [hL3] at HW13
     obtain ⟨go,hgoe⟩:∃ go,w12.heap.size=go:=⟨_,rfl⟩
     rw [hgoe] at HOD13 HDO13
     simp only [hgoe]
     have hgoe2:g < go:=by omega
     clear hgoe hgo HW12
     have HL30:Hid (L3 ++ ((ordL.take N).take 0).flatMap (ordF CL)=L3):=(show _=_ by simp)
     have HFR0:=Lib.hid (WrFr.refl w13 g p12)
     go_loopw [86] (fun vi wr=>∃ i:Nat,i≤N∧vi=.int .i64 i∧∃ pq bq,Hid (Wr wr g pq bq (L3 ++ ((ordL.take N).take i).flatMap (ordF CL)))∧Hid (WrFr w13 wr g p12 pq)) (fun vi _=>N - (intOf vi).toNat)
     case atStart=>exact ⟨0,Nat.zero_le _,rfl,p12,b12,(show Wr _ _ _ _ _ by rw [HL30.out];exact HW13.out),HFR0⟩
     case round =>
      clear HW13 HL30 HFR0
      obtain ⟨i,hi,rfl,pq,bq,HW,HFR⟩:=hrel
      have HF:=Lib.hid (HF13.out.trans HFR.out)
      by_cases hlt:i < N
      ·have hlti:(i:Int) < (N:Int):=by omega
       obtain ⟨y,hy⟩:∃ y,ordL[i]?=some y:=⟨_,List.getElem?_eq_getElem (by show i < 19;omega)⟩
       have hy19:=ordL_lt hy
       have hyi:(y:Int) < 19:=by omega
       have hyl:y < CL.length:=by rw [HCL.out];exact hy19
       have co:=ownI.cell (HOD13.out.wr HFR.out HDO13.out) rfl (k:=i) (by show i < 19;omega)
       have hco:(ordL.map fun (x:Nat)=>(x:Int))[i]'(by show i < 19;omega)=(y:Int):=(by rw [List.getElem_map];have:=hy;rw [List.getElem?_eq_getElem (by show i < 19;omega)] at this;injection this with this;rw [this])
       rw [hco] at co
       have cl:=ownI.cell (HO9.out.wr HF.out HDI9.out) HCL.out.symm hyl
       have hv:=HCR.out _ (List.getElem_mem hyl)
       obtain ⟨t,ht⟩:=Int.eq_ofNat_of_zero_le hv.1
       have HT:Hid (ordF CL y=lsb t 3):=(show _=_ by unfold ordF;rw [List.getD_eq_getElem?_getD,List.getElem?_eq_getElem hyl];show lsb (CL[y]).toNat 3=_;rw [ht];rfl)
       rw [ht] at cl hv
       have ht8:t < 8:=by omega
       have HST:Hid (L3 ++ ((ordL.take N).take (i+1)).flatMap (ordF CL)=L3 ++ ((ordL.take N).take i).flatMap (ordF CL) ++ lsb t 3):=(show _=_ by rw [take_flat_snoc (ordF CL) (l:=ordL.take N) (k:=i) (x:=y) (by rw [List.getElem?_take,if_pos hlt];exact hy),HT.out,List.append_assoc])
       have hll:(L3 ++ ((ordL.take N).take i).flatMap (ordF CL)).length≤900200:=by rw [List.length_append,ords_len,List.length_take,List.length_take];omega
       generalize L3 ++ ((ordL.take N).take i).flatMap (ordF CL)=LL at *
       have c0:=(HA09.out.wr HX09.out HF.out).cell (k:=0) rfl
       have HP:=Lib.hid (fput_lit g (t:Int) 3 t 3 rfl rfl _ _ _ _ HW.out.drew (by omega) (by decide) ht8)
       have HFRd:=Lib.hid HFR.out.drew
       clear hco hv ht HT hy HW HFR HF
       go_wp2_with fail
       go_still_tail 5,(by kernel_rfl)
       go_wp2_with (go_at_call 147;(with_reducible refine HP.out.mono ?_);go_must (rintro e w14 ⟨rfl,p14,b14,hw14,hf14⟩;rw [← HST.out] at hw14;have HW14:=Lib.hid hw14;have HF14:=Lib.hid (HFRd.out.trans hf14);clear hw14 hf14))
       go_roundw
       case rel=>exact ⟨i+1,by omega,by go_num,p14,b14,HW14,HF14⟩
       case measure=>simp [intOf];omega
      ·obtain rfl:i=N:=by omega
       rw [show (ordL.take i).take i=ordL.take i from by rw [List.take_take,Nat.min_self]] at HW
       obtain ⟨L4,hL4⟩:∃ L4,L3 ++ (ordL.take i).flatMap (ordF CL)=L4:=⟨_,rfl⟩
       have hL4n:L4.length≤900200:=by rw [← hL4,List.length_append,ords_len,List.length_take];omega
       rw [hL4] at HW
       have HFIN:Hid (L4 ++ SS.flatMap (sgnB CL)=L ++ listsB ll dd):=(show _=_ by rw [HLB.out,← hL4,← hL3];simp only [List.append_assoc])
       have HSB:=Lib.hid (fun k=>sgns_le HCO.out HCL.out (ss:=SS.take k) (take_sub HSO.out k))
       obtain ⟨wo,rfl⟩:∃ wo:World,wo=wr:=⟨_,rfl⟩
       clear hL4 hL3 HLB HFR HOD13 HDO13 HO9 HDI9 HCR
       have HL40:Hid (L4 ++ (SS.take 0).flatMap (sgnB CL)=L4):=(show _=_ by simp)
       go_wp2_with fail
       go_loopw [99] (fun vi wr=>∃ k:Nat,k≤nS∧vi=.int .i64 k∧∃ pq bq,Hid (Wr wr g pq bq (L4 ++ (SS.take k).flatMap (sgnB CL)))∧Hid (WrFr wc wr g pv pq)) (fun vi _=>nS - (intOf vi).toNat)
       case atStart=>exact ⟨0,Nat.zero_le _,rfl,pq,bq,(show Wr _ _ _ _ _ by rw [HL40.out];exact HW.out),HF⟩
       case round =>
        clear HW HF HL40
        obtain ⟨k,hk,rfl,pq,bq,HW,HF⟩:=hrel
        by_cases hlt:k < nS
        ·have hlti:(k:Int) < (nS:Int):=by omega
         obtain ⟨b,o,⟨x,m,y⟩,rfl,hb,HX,e1,e2,e3⟩:=(ownG.wr HS9.out HF.out HDS9.out).rd.one hlt
         have hok:=HSO.out _ (List.mem_of_getElem? HX.out)
         have hx19:x < 19:=hok.1
         have hm:m < 2 ^ y:=hok.2.1
         have hy7:y≤7:=hok.2.2
         have hx19i:(x:Int) < 19:=by omega
         have hxl:x < CL.length:=by rw [HCL.out];exact hx19
         have HST:Hid (L4 ++ (SS.take (k+1)).flatMap (sgnB CL)=L4 ++ (SS.take k).flatMap (sgnB CL) ++ codeB CL x ++ lsb m y):=(show _=_ by rw [take_flat_snoc (sgnB CL) HX.out];unfold sgnB;simp only [List.append_assoc])
         have hll:(L4 ++ (SS.take k).flatMap (sgnB CL)).length≤920000:=by rw [List.length_append];have:=HSB.out k;rw [List.length_take] at this;omega
         generalize L4 ++ (SS.take k).flatMap (sgnB CL)=LL at *
         have hbN:¬ b=wr.heap.size:=by omega
         obtain ⟨w5,hw5⟩:∃ w5,wr.alloc (.cells #[.int .i64 (x:Int),.int .i64 (m:Int),.int .i64 (y:Int)] 202)=w5:=⟨_,rfl⟩
         obtain ⟨b5,hb5⟩:∃ b5,wr.heap.size=b5:=⟨_,rfl⟩
         have HW5:Hid (Wr w5 g pq bq LL):=(show Wr _ _ _ _ _ by rw [← hw5];exact HW.out.alloc _)
         have HF5:Hid (WrFr wc w5 g pv pq):=(show WrFr _ _ _ _ _ by rw [← hw5];exact HF.out.alloc _)
         have HT5:Hid (Arr w5 b5 [.int .i64 (x:Int),.int .i64 (m:Int),.int .i64 (y:Int)]):=(show Arr _ _ _ by rw [← hw5,← hb5];exact Arr.new wr [.int .i64 (x:Int),.int .i64 (m:Int),.int .i64 (y:Int)] _)
         have HXT5:Hid (Bx w5 g pq b5):=(show Bx _ _ _ _ by rw [← hw5,← hb5];exact Bx.new HW.out _)
         have c50:=(HA09.out.wr HX09.out HF5.out).cell (k:=0) rfl
         have t50:=HT5.out.cell (k:=0) rfl
         have t51:=HT5.out.cell (k:=1) rfl
         have t52:=HT5.out.cell (k:=2) rfl
         obtain ⟨q1,q2⟩:=HC9.out.bx HX89.out HF5.out x hxl
         have hcl1:=codeB_le hxl HCO.out
         have HC:=Lib.hid (fcode_at g CL x hxl HCO.out _ _ _ _ HW5.out.drew (by omega))
         generalize codeAt CL x=cv at *
         clear HW HF hok
         go_wp2_with fail
         go_still_tail 6,(by kernel_rfl)
         go_wp2_with (first
          | (go_at_call 149;(with_reducible refine HC.out.mono ?_);go_must (rintro e w6 ⟨rfl,p6,bs6,hw6,hf6⟩;have HT6:=Lib.hid (HT5.out.drew.wr HXT5.out.drew hf6);have HF6:=Lib.hid (HF5.out.drew.trans hf6);have c60:=(HA09.out.wr HX09.out HF6.out).cell (k:=0) rfl;have t61:=HT6.out.cell (k:=1) rfl;have t62:=HT6.out.cell (k:=2) rfl;have HP:=Lib.hid (fput_lit g (m:Int) (y:Int) m y rfl rfl _ _ _ _ hw6 (by rw [List.length_append];omega) (by omega) hm);clear hw6 hf6))
          | (go_at_call 147;(with_reducible refine HP.out.mono ?_);go_must (rintro e w7 ⟨rfl,p7,bs7,hw7,hf7⟩;rw [← HST.out] at hw7;have HW7:=Lib.hid hw7;have HF7:=Lib.hid (HF6.out.trans hf7);clear hw7 hf7)))
         go_roundw
         case rel=>exact ⟨k+1,by omega,by go_num,p7,bs7,HW7,HF7⟩
         case measure=>simp [intOf];omega
        ·obtain rfl:k=nS:=by omega
         rw [show SS.take k=SS from List.take_of_length_le (by omega),HFIN.out] at HW
         go_wp2_with fail
         (try simp only [Exit.inBlock,Exit.then])
         first | (refine bodyPost_ret (results_none rfl _ _ _) rfl ?_) | (refine bodyPost_end (results_none rfl _ _ _) rfl ?_)
         exact ⟨rfl,pq,bq,HW.out,HF9.out.trans HF.out⟩
end Go.Proofs.YtebbdifhiihfkaaGreatDoor

/- flate: a stored block. -/
namespace Go.Proofs.YtebbdifhiihfkaaGreatDoor
set_option linter.all false
open Go.RowKit
def bytesB (bs:List UInt8):List Nat:=bs.flatMap fun x=>lsb x.toNat 8
/-- The bits of a stored block. -/
def plainL (bs:List UInt8):List Nat:=alignL (headL 0) ++ lsb bs.length 16 ++ lsb (65535 - bs.length) 16 ++ bytesB bs
theorem bytesB_len (bs:List UInt8):(bytesB bs).length=8 * bs.length:=by
 induction bs with
 | nil=>rfl
 | cons x r ih =>
  unfold bytesB at ih ⊢
  rw [List.flatMap_cons,List.length_append,lsb_len,ih,List.length_cons]
  omega
theorem bytesB_snoc {bs:List UInt8} {k:Nat} {x:UInt8} (h:bs[k]?=some x):bytesB (bs.take (k+1))=bytesB (bs.take k) ++ lsb x.toNat 8:=by
 obtain ⟨hk,hx⟩:=List.getElem?_eq_some_iff.1 h
 rw [List.take_succ_eq_append_getElem hk,hx]
 simp [bytesB]
theorem plainL_len (bs:List UInt8):(plainL bs).length=40+8 * bs.length:=by
 unfold plainL
 rw [List.length_append,List.length_append,List.length_append,alignL_len,headL_len,lsb_len,lsb_len,bytesB_len]
set_option maxRecDepth 100000 in
set_option maxHeartbeats 3200000 in
theorem plain_any (B n c:Nat) (A:Option Addr) (bs:List UInt8) (w:World) (h:RdB w B A n bs) (hB:B≤w.heap.size) (hn:n≤40000) :
  Calls Tryz.prog 123 #[.slice A n c] w fun e w'=>∃ g pv bz,e=.returned (.pointer (some ⟨g,0,none⟩))∧w.heap.size≤g∧Wr w' g pv bz (plainL bs)∧Below w.heap.size w w'∧(∀ k,pv.ownBlock=some k→w.heap.size≤k):=by
 have HR:=Lib.hid h
 have hl:=h.len
 have HN:=Lib.hid (begin_lit 0 0 rfl (by decide) w)
 have hal:(alignL (headL 0)).length=8:=by rw [alignL_len,headL_len]
 have hn2:(65535:Int) - (n:Int)=((65535 - n:Nat):Int):=by omega
 have HL0:Hid (alignL (headL 0) ++ lsb n 16 ++ lsb (65535 - n) 16 ++ bytesB (bs.take 0)=alignL (headL 0) ++ lsb n 16 ++ lsb (65535 - n) 16):=(show _=_ by simp [bytesB])
 have hlen:∀ k,k≤n→(alignL (headL 0) ++ lsb n 16 ++ lsb (65535 - n) 16 ++ bytesB (bs.take k)).length=40+8 * k:=fun k hk=>by
  rw [List.length_append,List.length_append,List.length_append,lsb_len,lsb_len,bytesB_len,List.length_take,hal,Nat.min_eq_left (by omega)]
 have HLN:=Lib.hid hlen
 have HPL:Hid (alignL (headL 0) ++ lsb n 16 ++ lsb (65535 - n) 16 ++ bytesB (bs.take n)=plainL bs):=(show _=_ by unfold plainL;rw [← hl,List.take_length])
 clear h hlen
 go_enter Tryz.func123,Tryz.ntmps123
 go_wp2_with (first
  | (go_at_call 119;(with_reducible refine HN.out.mono ?_);go_must (rintro e w1 ⟨g,pv,bz,rfl,hg,hw1,hb1,hpv⟩;have HPV:=Lib.hid hpv;have HX:=Lib.hid (Bx.new hw1 (.cells #[Value.pointer (some ⟨g,0,none⟩)] 155));have HA:=Lib.hid (Arr.new w1 [.pointer (some ⟨g,0,none⟩)] 155);have HB1:=Lib.hid (hb1.alloc hb1.size (.cells #[Value.pointer (some ⟨g,0,none⟩)] 155));have hwa:=hw1.alloc (.cells #[Value.pointer (some ⟨g,0,none⟩)] 155);have HAL:=Lib.hid (align_any g _ _ _ _ hwa (by rw [headL_len];omega));have hsz1:=hb1.size;obtain ⟨b3,hb3⟩:∃ b,w1.heap.size=b:=⟨_,rfl⟩;rw [hb3] at HX HA;simp only [hb3];clear hw1 hb1 hwa hpv))
  | (go_at_call 156;(with_reducible refine HAL.out.mono ?_);go_must (rintro e w2 ⟨rfl,hw2,hf2⟩;have HF2:=Lib.hid hf2;have HX2:=Lib.hid (HX.out.wr hf2);have HA2:=Lib.hid (HA.out.wr HX.out hf2);have HP1:=Lib.hid (fput_lit g (n:Int) 16 n 16 rfl rfl _ _ _ _ hw2 (by rw [hal];omega) (by decide) (by omega));have c2:=HA2.out.cell (k:=0) rfl;clear hw2 hf2 HX HA HAL))
  | (go_at_call 147;(with_reducible refine HP1.out.mono ?_);go_must (rintro e w3 ⟨rfl,pv3,bs3,hw3,hf3⟩;have HF3:=Lib.hid (HF2.out.trans hf3);have HX3:=Lib.hid (HX2.out.wr hf3);have HA3:=Lib.hid (HA2.out.wr HX2.out hf3);have HP2:=Lib.hid (fput_lit g ((65535 - n:Nat):Int) 16 (65535 - n) 16 rfl rfl _ _ _ _ hw3 (by rw [List.length_append,lsb_len,hal];omega) (by decide) (by omega));have c3:=HA3.out.cell (k:=0) rfl;clear hw3 hf3 HX2 HA2 HP1 HF2))
  | (go_at_call 147;(with_reducible refine HP2.out.mono ?_);go_must (rintro e w4 ⟨rfl,pv4,bs4,hw4,hf4⟩;have HF4:=Lib.hid (HF3.out.trans hf4);have HX4:=Lib.hid (HX3.out.wr hf4);have HA4:=Lib.hid (HA3.out.wr HX3.out hf4);rw [← HL0.out] at hw4;have HW4:=Lib.hid hw4;clear hw4 hf4 HX3 HA3 HP2 HF3)))
 go_loopw [21] (fun vi wr=>∃ k:Nat,k≤n∧vi=.int .i64 k∧∃ pq bq,Hid (Wr wr g pq bq (alignL (headL 0) ++ lsb n 16 ++ lsb (65535 - n) 16 ++ bytesB (bs.take k)))∧Hid (WrFr (w1.alloc (.cells #[Value.pointer (some ⟨g,0,none⟩)] 155)) wr g pv pq)∧Hid (Bx wr g pq b3)∧Hid (Arr wr b3 [.pointer (some ⟨g,0,none⟩)])) (fun vi _=>n - (intOf vi).toNat)
 case atStart=>exact ⟨0,Nat.zero_le _,rfl,pv4,bs4,HW4,HF4,HX4,HA4⟩
 case round =>
  clear HW4 HF4 HX4 HA4
  obtain ⟨k,hk,rfl,pq,bq,HW,HF,HX,HA⟩:=hrel
  have hBW:Below w.heap.size w wr:=HB1.out.trans (HF.out.below (by rw [World.size_alloc];omega) hg HPV.out)
  have c3:=HA.out.cell (k:=0) rfl
  by_cases hlt:k < n
  ·have hlti:(k:Int) < (n:Int):=by omega
   obtain ⟨b,o,x,rfl,hb,HXX,e1⟩:=(HR.out.blw (hBW.mono hB)).byte hlt
   have HS:=Lib.hid (bytesB_snoc HXX.out)
   have hx:=x.toNat_lt
   have HP:=Lib.hid (fput_lit g (x.toNat:Int) 8 x.toNat 8 rfl rfl _ _ _ _ HW.out (by rw [HLN.out k hk];omega) (by decide) (by simpa using hx))
   have HST:Hid (alignL (headL 0) ++ lsb n 16 ++ lsb (65535 - n) 16 ++ bytesB (bs.take k) ++ lsb x.toNat 8=alignL (headL 0) ++ lsb n 16 ++ lsb (65535 - n) 16 ++ bytesB (bs.take (k+1))):=(show _=_ by rw [HS.out,List.append_assoc,List.append_assoc])
   rw [HST.out] at HP
   clear HS HST
   go_wp2_with (go_at_call 147;(with_reducible refine HP.out.mono ?_);go_must (rintro e w5 ⟨rfl,pv5,bs5,hw5,hf5⟩;have HW5:=Lib.hid hw5;have HF5:=Lib.hid (HF.out.trans hf5);have HX5:=Lib.hid (HX.out.wr hf5);have HA5:=Lib.hid (HA.out.wr HX.out hf5);clear hw5 hf5))
   go_roundw
   case rel=>exact ⟨k+1,by omega,by go_num,pv5,bs5,HW5,HF5,HX5,HA5⟩
   case measure=>simp [intOf];omega
  ·obtain rfl:k=n:=by omega
   go_wp2_with fail
   go_ret
   refine ⟨g,pq,bq,rfl,hg,(by rw [← HPL.out];exact HW.out),hBW,fun q hq=>?_⟩
   have:=(World.ownsRow.lt HW.out.2.1 q hq).1
   omega
end Go.Proofs.YtebbdifhiihfkaaGreatDoor

/- flate: Deflate, plainly; Find of no bytes. -/
namespace Go.Proofs.YtebbdifhiihfkaaGreatDoor
set_option linter.all false
open Go.RowKit
/-- So many bytes do tokens stand for. -/
def tokSize (ts:List Tok):Nat:=(ts.map fun t=>max t.1 1).sum
theorem tokSize_take (ts:List Tok) (k:Nat):tokSize (ts.take k)≤tokSize ts:=by
 have:tokSize ts=tokSize (ts.take k)+tokSize (ts.drop k):=by
  unfold tokSize
  rw [← List.sum_append,← List.map_append,List.take_append_drop]
 omega
theorem tokSize_len (ts:List Tok):ts.length≤tokSize ts:=by
 induction ts with
 | nil=>simp
 | cons t r ih =>
  unfold tokSize at ih ⊢
  rw [List.map_cons,List.sum_cons,List.length_cons]
  omega
theorem toks_size {ll dd:List Int} (h1:CodesOK ll) (h2:CodesOK dd):∀ {ts:List Tok},(∀ t ∈ ts,TokOK t∧TokIn ll dd t)→(ts.flatMap (tokB ll dd)).length≤16 * tokSize ts:=by
 intro ts
 induction ts with
 | nil=>intro _;simp
 | cons t r ih =>
  intro h
  have h5:=ih (fun u hu=>h u (by simp [hu]))
  have h3:=tokB_le h1 h2 (h t (by simp)).1 (h t (by simp)).2
  have h4:=(h t (by simp)).1
  unfold tokSize at h5 ⊢
  rw [List.flatMap_cons,List.length_append,List.map_cons,List.sum_cons]
  split at h3
  ·omega
  ·have:3≤t.1:=by rcases h4 with ⟨e,_⟩ | ⟨e,_⟩;omega;exact e
   omega
theorem fixL_len:fixL.length=288:=by simp [fixL]
theorem fixD_len:fixD.length=32:=by simp [fixD]
theorem fixL_ok:CodesOK fixL:=⟨by rw [fixL_len];omega,by decide +kernel,by decide +kernel⟩
theorem fixD_ok:CodesOK fixD:=⟨by rw [fixD_len];omega,by decide +kernel,by decide +kernel⟩
theorem dstT_lt {t:Tok} (h:TokOK t):∀ p ∈ dstT t,p < 30:=by
 intro p hp
 unfold dstT at hp
 split at hp
 ·cases hp
 ·rename_i e
  rw [List.mem_singleton] at hp
  obtain ⟨h3,h4,h5,h6⟩:3≤t.1∧t.1≤258∧1≤t.2.1∧t.2.1≤32768:=by rcases h with ⟨h,_⟩ | h;exact absurd h e;exact h
  have:=(distS_spec h5).1
  omega
theorem fix_in {t:Tok} (h:TokOK t):TokIn fixL fixD t:=⟨by rw [fixL_len];have:=symT_lt h;omega,fun p hp=>by rw [fixD_len];have:=dstT_lt h p hp;omega⟩
theorem cutK_pos {ls:List Int} {least p:Nat} {x:Int} (hx:ls[p]?=some x) (h0:¬ x=0):∀ k,p < k→p < cutK ls least k
 | 0,h=>absurd h (by omega)
 | k+1,h=>by
  unfold cutK
  split
  ·rename_i e
   by_cases hk:p=k
   ·subst hk
    exact absurd (by have:=e.2;rw [List.getD_eq_getElem?_getD,hx] at this;exact this) h0
   ·exact cutK_pos hx h0 k (by omega)
  ·exact h
theorem lens_pos {ws:List Int} {m p:Nat} (hm:1≤m) (hq:ws.length≤2 ^ m) {x:Int} (hx:ws[p]?=some x) (h0:0 < x):∃ y,(lensOf ws m)[p]?=some y∧¬ y=0:=by
 have hp:=(List.getElem?_eq_some_iff.1 hx).1
 have:=lnat_pos (ws:=ws) hm (by rw [leaves_length];exact Nat.le_trans (List.length_filter_le _ _) hq) hp (by rw [wOf_get hx];exact h0)
 exact ⟨_,lensOf_get ws m hp,by omega⟩
theorem bumps_pos {xs:List Int} {ps:List Nat} {p:Nat} (h0:∀ x ∈ xs,0≤x) (hp:p ∈ ps) (hl:p < xs.length):∃ x,(bumps xs ps)[p]?=some x∧0 < x:=by
 have hl2:p < (bumps xs ps).length:=by rw [bumps_len];exact hl
 refine ⟨_,List.getElem?_eq_getElem hl2,?_⟩
 have h1:=bumps_get xs ps p hl
 rw [List.getD_eq_getElem?_getD,List.getElem?_eq_getElem hl2,List.getD_eq_getElem?_getD,List.getElem?_eq_getElem hl] at h1
 have h2:(bumps xs ps)[p]=xs[p]+(ps.count p:Int):=h1
 have h3:=h0 _ (List.getElem_mem hl)
 have h4:=List.count_pos_iff.2 hp
 rw [h2]
 omega
theorem dyn_in {ts:List Tok} (h:∀ t ∈ ts,TokOK t):∀ t ∈ ts,TokIn (dynL ts) (dynD ts) t:=by
 intro t ht
 refine ⟨?_,fun p hp=>?_⟩
 ·rw [dynL_len]
  have hs:=symT_lt (h t ht)
  obtain ⟨x,hx,h0⟩:=bumps_pos (xs:=(List.replicate 286 (0:Int)).set 256 1) (ps:=ts.map symT) (p:=symT t) (fun x hx=>(w286_rng x hx).1) (List.mem_map.2 ⟨t,ht,rfl⟩) (by rw [List.length_set,List.length_replicate];exact hs)
  obtain ⟨y,hy,hy0⟩:=lens_pos (ws:=weighL ts) (m:=15) (by omega) (by rw [weighL_len];decide) hx h0
  exact cutK_pos hy hy0 286 hs
 ·have hs:=dstT_lt (h t ht) p hp
  obtain ⟨x,hx,h0⟩:=bumps_pos (xs:=List.replicate 30 (0:Int)) (ps:=ts.flatMap dstT) (p:=p) (fun x hx=>(w30_rng x hx).1) (List.mem_flatMap.2 ⟨t,ht,hp⟩) (by rw [List.length_replicate];exact hs)
  obtain ⟨y,hy,hy0⟩:=lens_pos (ws:=weighD ts) (m:=15) (by omega) (by rw [weighD_len];decide) hx h0
  have hc:=cutK_pos (least:=1) hy hy0 30 hs
  unfold dynD
  split
  ·rename_i e
   have hp0:p=0:=by omega
   subst hp0
   exact absurd (by have:=e.1;rw [List.getD_eq_getElem?_getD,hy] at this;exact this) hy0
  ·rw [cutL_len,lensOf_len,weighD_len];exact hc
def fixB (ts:List Tok):List Nat:=headL 1 ++ toksB fixL fixD ts
def ownBits (ts:List Tok):List Nat:=headL 2 ++ listsB (dynL ts) (dynD ts) ++ toksB (dynL ts) (dynD ts) ts
def best1 (bs:List UInt8) (ts:List Tok):List Nat:=if (fixB ts).length < (plainL bs).length then fixB ts else plainL bs
/-- The bits of the one block. -/
def deflB (bs:List UInt8) (ts:List Tok):List Nat:=if (ownBits ts).length < (best1 bs ts).length then ownBits ts else best1 bs ts
theorem listsB_le {ll dd:List Int} (h1:ll.length≤286) (h2:dd.length≤30) (hl:CodesOK ll) (hd:CodesOK dd):(listsB ll dd).length≤8000:=by
 have hs:∀ s ∈ runsP (ll ++ dd),SgnOK s:=runsF_ok (ll ++ dd).length (ll ++ dd) (fun x hx=>by
  rw [List.mem_append] at hx
  rcases hx with h | h
  ·exact hl.rng x h
  ·exact hd.rng x h)
 have hn:(runsP (ll ++ dd)).length≤316:=by
  have:=runsF_len (ll ++ dd).length (ll ++ dd)
  have h3:(ll ++ dd).length≤316:=by rw [List.length_append];omega
  exact Nat.le_trans this h3
 have h5:=sgns_le (lensC_ok (runsP (ll ++ dd))) (lensC_len _) hs
 have h6:=ordB_len (lensC (runsP (ll ++ dd))) (hcK (lensC (runsP (ll ++ dd))) 19)
 have h7:=hcK_le (lensC (runsP (ll ++ dd))) 19
 unfold listsB
 rw [List.length_append,List.length_append,List.length_append,List.length_append,lsb_len,lsb_len,lsb_len]
 omega
/-- What Find gives. -/
def FindPost (ts:List Tok) (w:World) (e:Ending) (w':World):Prop:=∃ A n c,e=.returned (.tuple #[.slice A n c,.int .i64 0])∧n=ts.length∧RdK w' w'.heap.size A n ts∧Below w.heap.size w w'
end Go.Proofs.YtebbdifhiihfkaaGreatDoor

