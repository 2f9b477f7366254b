/- XPng2 XPng3 -/
import Derived.Test.YtebbdifhiihfkaaGreatDoorMh30
import Derived.Test.YtebbdifhiihfkaaGreatDoorMh10
import Derived.Test.YtebbdifhiihfkaaGreatDoorMh09
import Derived.Deep.RegionHeld3
namespace Go.Proofs.YtebbdifhiihfkaaGreatDoor
set_option linter.all false
open Go.RowKit
set_option maxRecDepth 100000 in
theorem colours_one (w:World):Calls Tryz.prog 75 #[.int .i64 1] w fun e w'=>e=.returned (.int .u8 0)∧Below w.heap.size w w':=by
 go_enter Tryz.func75,Tryz.ntmps75
 go_wp2_with fail
 go_ret
 exact ⟨rfl,(Below.refl w.heap.size w).alloc (Nat.le_refl _) _⟩
theorem big_one (w:World):Calls Tryz.prog 46 #[.int .i64 1,.int .i64 4] w fun e w'=>∃ v,e=.returned (.tuple #[v,.int .i64 0])∧ownB w' w.heap.size v [0,0,0,1]∧Below w.heap.size w w':=by
 have h:=big_any 1 4 w
 rw [show beR 1 4=(([0,0,0,1]:List UInt8),(0:Int)) by kernel_rfl] at h
 exact h
/-- A file of rows. -/
def fileL (bz C1 N C C3:List UInt8):List UInt8:=layL (layL (layL [137,80,78,71,13,10,26,10] [0,0,0,13] [73,72,68,82] [0,0,0,1,0,0,0,1,8,0,0,0,0] C1) N [73,68,65,84] bz C) [0,0,0,0] [73,69,78,68] [] C3
set_option maxRecDepth 100000 in
set_option maxHeartbeats 6400000 in
theorem file_one (B n c:Nat) (A:Option Addr) (rs:List UInt8) (w:World) (h:RdB w B A n rs) (hB:B≤w.heap.size) (hn:n≤1000) (hcap:n≤c) :
  Calls Tryz.prog 44 #[.agg #[.int .i64 1,.int .i64 1,.int .i64 1,.int .i64 8],.int .u8 0,.slice A n c] w fun e w'=>∃ g9 n9 c9 D C1 N C C3,e=.returned (.tuple #[.slice (some ⟨g9,0,none⟩) n9 c9,.int .i64 0])∧RowM w' g9 n9 c9 (fileL D C1 N C C3)∧Below w.heap.size w w':=by
 obtain ⟨S,hS,hS4⟩:=big4 (adler_lt rs)
 obtain ⟨w1,hw1⟩:∃ w1,w.alloc (.cells #[.int .i64 1,.int .i64 1,.int .i64 1,.int .i64 8] 37)=w1:=⟨_,rfl⟩
 obtain ⟨bk,hbk⟩:∃ b,w.heap.size=b:=⟨_,rfl⟩
 have HA1:Hid (Arr w1 bk [.int .i64 1,.int .i64 1,.int .i64 1,.int .i64 8]):=(show Arr _ _ _ by rw [← hw1,← hbk];exact Arr.new w [.int .i64 1,.int .i64 1,.int .i64 1,.int .i64 8] _)
 have HR1:RdB w1 B A n rs:=by rw [← hw1];exact Rd.alloc h hB _
 have hz1:w1.heap.size=bk+1:=by rw [← hw1,World.size_alloc,hbk]
 have HB1:Hid (Below bk w w1):=(show Below _ _ _ by rw [← hw1,← hbk];exact (Below.refl w.heap.size w).alloc (Nat.le_refl _) _)
 have HPK:=Lib.hid (pack_any B n c A rs S w1 HR1 (by omega) (by omega) hcap hS hS4)
 have hrl:=h.len
 clear h HR1 hS
 go_enter Tryz.func44,Tryz.ntmps44
 simp only [hw1,hbk]
 go_upto_region 6 with (first
  | (go_at_call 74;(with_reducible refine HPK.out.mono ?_);go_must (rintro e w2 ⟨v2,bz,rfl,ho2,hz2,hb2⟩;have hbz:=best_len hz2;obtain ⟨A2,c2,hv2,hr2,-,-⟩:=ho2.form;obtain ⟨n2,hn2⟩:∃ L,(packL bz S).length=L:=⟨_,rfl⟩;rw [hn2] at hv2 hr2;subst hv2;have HD2:=Lib.hid hr2;have HA2:=Lib.hid (HA1.out.later hb2);have a20:=HA2.out.cell (k:=0) rfl;have a21:=HA2.out.cell (k:=1) rfl;have hs2:=hb2.size;have HB2:=Lib.hid (HB1.out.trans (hb2.mono (by omega)));have hnn:n2≤2000:=(by rw [← hn2];unfold packL;rw [List.length_append,List.length_append];show 2+bz.length+S.length≤_;omega);clear ho2 hz2 hb2 hr2))
  | (go_at_call 46;(with_reducible refine (big_one w2).mono ?_);go_must (rintro e w3 ⟨v3,rfl,ho3,hb3⟩;have HO3:=Lib.hid ho3;have HA3:=Lib.hid (HA2.out.later hb3);have a31:=HA3.out.cell (k:=1) rfl;have HD3:=Lib.hid (RdB.blw HD2.out hb3);have hs3:=hb3.size;have HB3:=Lib.hid (HB2.out.trans (hb3.mono (by omega)));clear ho3 hb3))
  | (go_at_call 46;(with_reducible refine (big_one w3).mono ?_);go_must (rintro e w4 ⟨v4,rfl,ho4,hb4⟩;have HO4:=Lib.hid ho4;have HO34:=Lib.hid (ownB.later HO3.out hb4);have HA4:=Lib.hid (HA3.out.later hb4);have HD4:=Lib.hid (RdB.blw HD3.out (hb4.mono (by omega)));have hs4:=hb4.size;have HB4:=Lib.hid (HB3.out.trans (hb4.mono (by omega)));clear ho4 hb4)))
 obtain ⟨A3,c3,rfl,-,-,-⟩:=HO34.out.form
 obtain ⟨A4,c4,rfl,hr4,-,-⟩:=HO4.out.form
 have HO3d:Hid (ownB w4.drew w2.heap.size (.slice A3 4 c3) [0,0,0,1]):=HO34
 have HR4d:Hid (RdB w4.drew w4.heap.size A4 4 [0,0,0,1]):=hr4
 have s2:w4.drew.cell? ⟨bk,2,none⟩=some (.int .i64 1):=HA4.out.cell (k:=2) rfl
 have s3:w4.drew.cell? ⟨bk,3,none⟩=some (.int .i64 8):=HA4.out.cell (k:=3) rfl
 have hbk2:bk < w2.heap.size:=by omega
 have hq1:([0,0,0,1]:List UInt8).length+4≤140737488355328:=by decide
 have hq2:w2.heap.size≤w4.drew.heap.size:=by show w2.heap.size≤w4.heap.size;omega
 have hq3:([0,0,0,1,0,0,0,1]:List UInt8).length+5≤140737488355328:=by decide
 clear hr4 HO34 hw1
 go_cut [14] (fun v wc=>Hid (ownB wc w2.heap.size v [0,0,0,1,0,0,0,1,8,0,0,0,0])∧Hid (Below w2.heap.size w4 wc))
 case first =>
  go_region_held3 (fun w'=>w'.cell? ⟨bk,2,none⟩=some (.int .i64 1)∧w'.cell? ⟨bk,3,none⟩=some (.int .i64 8))
   (first | (with_reducible exact ⟨s2,s3⟩) | (with_reducible exact ⟨s26,s36⟩) | (with_reducible exact ⟨s27,s37⟩) | (with_reducible exact ⟨s29,s39⟩) | (with_reducible exact ⟨cell_alloc2 s27 _,cell_alloc2 s37 _⟩) | go_keep)
   (first
   | (refine step_appendB rfl (.tmp 38) (.tmp 46) rfl w2.heap.size v6 [0,0,0,1,0,0,0,1] rfl (ownB.alloc (ownB.later HO6.out HB7.out) _) _ 5 5 (some ⟨w7.heap.size,0,none⟩) [8,0,0,0,0] rfl (rd_lit w7 5 (0,0) [8,0,0,0,0]) hq3 hq8 ?_;intro v9 w9 ho9 hg9 hb9 ha9;have hX9:Below w2.heap.size w4 w9:=((hX7.alloc hq7 _).trans hb9);have s29:=cell_blw hb9 hbk2 (cell_alloc2 s27 _);have s39:=cell_blw hb9 hbk2 (cell_alloc2 s37 _);clear hg9 hb9 ha9)
   | (refine step_appendB rfl (.tmp 36) (.tmp 37) rfl w2.heap.size (.slice A3 4 c3) [0,0,0,1] rfl HO3d.out w4.heap.size 4 c4 A4 [0,0,0,1] rfl HR4d.out hq1 hq2 ?_;intro v6 w6 ho6 hg6 hb6 ha6;have HO6:Hid (ownB w6 w2.heap.size v6 [0,0,0,1,0,0,0,1]):=ho6;have s26:=cell_blw hb6 hbk2 s2;have s36:=cell_blw hb6 hbk2 s3;have hX6:Below w2.heap.size w4 w6:=⟨hb6.os,hb6.tape,hb6.output,hb6.size,hb6.block⟩;have hq6:w2.heap.size≤w6.heap.size:=Nat.le_trans hq2 hb6.size;have hbk6:bk < w6.heap.size:=Nat.lt_of_lt_of_le hbk2 hq6;clear ho6 hg6 hb6 ha6)
   | (go_at_call 75;(with_reducible refine (colours_one w6).mono ?_);go_must (rintro e w7 ⟨rfl,hb7⟩;have HB7:=Lib.hid hb7;have s27:=cell_blw hb7 hbk6 s26;have s37:=cell_blw hb7 hbk6 s36;have hX7:Below w2.heap.size w4 w7:=hX6.trans (hb7.mono hq6);have hq7:w2.heap.size≤w7.heap.size:=Nat.le_trans hq6 hb7.size;have hq8:w2.heap.size≤(w7.alloc (.cells #[.int .u8 8,.int .u8 0,.int .u8 0,.int .u8 0,.int .u8 0] 5)).heap.size:=Nat.le_trans hq7 (alloc_le _ _);clear hb7)))
  all_goals
   go_wp2_with fail
   go_meet
   case rel=>exact ⟨ho9,hX9⟩
 case rest =>
  obtain ⟨HH,HX⟩:=hcut
  clear s2 s3 hq1 hq3 HO3d HR4d
  have kc:=conv_const
  obtain ⟨A14,c14,hv14,hr14,-,-⟩:=HH.out.form
  have hv14:u14=.slice A14 13 c14:=hv14
  subst hv14
  have hzc:w2.heap.size≤wc.heap.size:=by have:=HX.out.size;omega
  have hbc:bk≤wc.heap.size:=by omega
  obtain ⟨C1,hC1,hC14⟩:=big4 (crc_lt ([73,72,68,82] ++ [0,0,0,1,0,0,0,1,8,0,0,0,0]))
  obtain ⟨N,hN,hN4⟩:=big4 (show n2 < 4294967296 by omega)
  obtain ⟨C,hC,hC4⟩:=big4 (crc_lt ([73,68,65,84] ++ packL bz S))
  obtain ⟨C3,hC3,hC34⟩:=big4 (crc_lt ([73,69,78,68] ++ []))
  have HD:=Lib.hid (RdB.blw HD4.out HX.out)
  have HBC:=Lib.hid (HB4.out.trans (HX.out.mono (by omega)))
  obtain ⟨wm,hwm0⟩:∃ wm,wc.alloc (.cells #[.int .u8 137,.int .u8 80,.int .u8 78,.int .u8 71,.int .u8 13,.int .u8 10,.int .u8 26,.int .u8 10] 5 (8,9))=wm:=⟨_,rfl⟩
  have hrm:RowM wm wc.heap.size 8 8 [137,80,78,71,13,10,26,10]:=by rw [← hwm0];exact const_row wc [137,80,78,71,13,10,26,10] (8,9) (.inr (by decide))
  have hm14:RdB wm wc.heap.size A14 13 [0,0,0,1,0,0,0,1,8,0,0,0,0]:=by rw [← hwm0];exact Rd.alloc hr14 (Nat.le_refl _) _
  have HM:=Lib.hid (show RdB wm w2.heap.size A2 n2 (packL bz S) by rw [← hwm0];exact Rd.alloc HD.out hzc _)
  have HBM:=Lib.hid (show Below bk w wm by rw [← hwm0];exact HBC.out.alloc hbc _)
  have HL1:=Lib.hid (lay_any wc.heap.size wc.heap.size 13 c14 wc.heap.size 8 8 A14 [137,80,78,71,13,10,26,10] [0,0,0,1,0,0,0,1,8,0,0,0,0] [73,72,68,82] [0,0,0,13] C1 ⟨#[73,72,68,82]⟩ wm rfl rfl hrm (Nat.le_refl _) hm14 (Nat.le_refl _) (by omega) (by omega) (by kernel_rfl) rfl hC1 hC14)
  generalize hd1:layL [137,80,78,71,13,10,26,10] [0,0,0,13] [73,72,68,82] [0,0,0,1,0,0,0,1,8,0,0,0,0] C1=D1 at *
  have HL2:=Lib.hid (fun w10 g c (ho:RowM w10 g 33 c D1) (hg:wc.heap.size≤g) (hr:RdB w10 w2.heap.size A2 n2 (packL bz S))=>lay_any wc.heap.size w2.heap.size n2 c2 g 33 c A2 D1 (packL bz S) [73,68,65,84] N C ⟨#[73,68,65,84]⟩ w10 rfl rfl ho hg hr hzc (by omega) (by omega) hN hN4 hC hC4)
  generalize hd2:layL D1 N [73,68,65,84] (packL bz S) C=D2 at *
  obtain ⟨n11,hn11⟩:∃ k,33+4+(4+n2)+4=k:=⟨_,rfl⟩
  rw [hn11] at HL2
  have HL3:=Lib.hid (fun w11 g c (ho:RowM w11 g n11 c D2) (hg:wc.heap.size≤g)=>lay_any wc.heap.size wc.heap.size 0 0 g n11 c none D2 [] [73,69,78,68] [0,0,0,0] C3 ⟨#[73,69,78,68]⟩ w11 rfl rfl ho hg rdB_nil0 (Nat.le_refl _) (by omega) (by omega) (by kernel_rfl) rfl hC3 hC34)
  obtain ⟨n12,hn12⟩:∃ k,n11+4+(4+0)+4=k:=⟨_,rfl⟩
  rw [hn12] at HL3
  have HD1:=Lib.hid hd1
  have HD2':=Lib.hid hd2
  clear hd1 hd2 hC hC1 hC3 hN hn2 hr14 hrm hm14
  go_wp2_with (first
   | (go_at_call 76;(with_reducible refine HL1.out.mono ?_);go_must (rintro e w10 ⟨g10,c10,rfl,ho10,hg10,hb10⟩;have HL22:=Lib.hid (HL2.out w10 g10 c10 ho10 hg10 (RdB.blw HM.out (hb10.mono hzc)));have HB10:=Lib.hid (HBM.out.trans (hb10.mono hbc));clear ho10 hb10))
   | (go_at_call 76;(with_reducible refine HL22.out.mono ?_);go_must (rintro e w11 ⟨g11,c11,rfl,ho11,hg11,hb11⟩;have HL33:=Lib.hid (HL3.out w11 g11 c11 ho11 hg11);have HB11:=Lib.hid (HB10.out.trans (hb11.mono hbc));clear ho11 hb11))
   | (go_at_call 76;(with_reducible refine HL33.out.mono ?_);go_must (rintro e w12 ⟨g12,c12,rfl,ho12,hg12,hb12⟩;have HO12:=Lib.hid ho12;have HB12:=Lib.hid (HB11.out.trans (hb12.mono hbc));clear ho12 hb12)))
  go_ret2
  refine ⟨g12,n12,c12,packL bz S,C1,N,C,C3,rfl,?_,HB12.out⟩
  have:=HO12.out
  rw [← HD2'.out,← HD1.out] at this
  exact this
end Go.Proofs.YtebbdifhiihfkaaGreatDoor

/- png: what the chapter's example fixes. -/
namespace Go.Proofs.YtebbdifhiihfkaaGreatDoor
set_option linter.all false
open Go.RowKit
set_option maxRecDepth 100000 in
theorem bpp_one (w:World):Calls Tryz.prog 73 #[.agg #[.int .i64 1,.int .i64 1,.int .i64 1,.int .i64 8]] w fun e w'=>e=.returned (.int .i64 1)∧Below w.heap.size w w':=by
 go_enter Tryz.func73,Tryz.ntmps73
 go_wp2_with fail
 go_ret
 exact ⟨rfl,(Below.refl w.heap.size w).alloc (Nat.le_refl _) _⟩
theorem best_one:bestR 1 [] [7]=(0,[7],0):=by decide +kernel
theorem row_one:Sh.row ⟨1,1,1,8⟩=1:=by decide
theorem may_one:Sh.mayR ⟨1,1,1,8⟩ 1=true:=by decide
set_option maxRecDepth 100000 in
set_option maxHeartbeats 3200000 in
theorem filtered_one (B c:Nat) (A:Option Addr) (w:World) (h:RdB w B A 1 [7]) (hB:B≤w.heap.size) (hcap:1≤c) :
  Calls Tryz.prog 43 #[.agg #[.int .i64 1,.int .i64 1,.int .i64 1,.int .i64 8,.slice A 1 c]] w fun e w'=>∃ v,e=.returned (.tuple #[v,.int .i64 0])∧ownB w' w.heap.size v [0,7]∧Below w.heap.size w w':=by
 obtain ⟨b,o,rfl,hb,-⟩:=h.at_ (by omega)
 obtain ⟨w1,hw1⟩:∃ w1,w.alloc (.cells #[.int .i64 1,.int .i64 1,.int .i64 1,.int .i64 8,.slice (some ⟨b,o,none⟩) 1 c] 39)=w1:=⟨_,rfl⟩
 obtain ⟨bk,hbk⟩:∃ b,w.heap.size=b:=⟨_,rfl⟩
 have HA1:Hid (Arr w1 bk [.int .i64 1,.int .i64 1,.int .i64 1,.int .i64 8,.slice (some ⟨b,o,none⟩) 1 c]):=(show Arr _ _ _ by rw [← hw1,← hbk];exact Arr.new w [.int .i64 1,.int .i64 1,.int .i64 1,.int .i64 8,.slice (some ⟨b,o,none⟩) 1 c] _)
 have HR1:Hid (RdB w1 B (some ⟨b,o,none⟩) 1 [7]):=(show RdB _ _ _ _ _ by rw [← hw1];exact Rd.alloc h hB _)
 have HB1:Hid (Below bk w w1):=(show Below _ _ _ by rw [← hw1,← hbk];exact (Below.refl w.heap.size w).alloc (Nat.le_refl _) _)
 have hz1:w1.heap.size=bk+1:=by rw [← hw1,World.size_alloc,hbk]
 have HRW:Hid (Calls Tryz.prog 71 #[.agg #[.int .i64 1,.int .i64 1,.int .i64 1,.int .i64 8]] w1 fun e w'=>e=.returned (.int .i64 1)∧Below w1.heap.size w1 w'):=(show Calls _ _ _ _ _ by have:=row_any ⟨1,1,1,8⟩ w1;rw [row_one] at this;exact this)
 have a0:=HA1.out.cell (k:=0) rfl
 have a1:=HA1.out.cell (k:=1) rfl
 have a2:=HA1.out.cell (k:=2) rfl
 have a3:=HA1.out.cell (k:=3) rfl
 clear h
 rw [hbk] at hB
 go_enter Tryz.func43,Tryz.ntmps43
 simp only [hw1,hbk]
 go_wp2_with (go_at_call 71;(with_reducible refine HRW.out.mono ?_);go_must (rintro e w2 ⟨rfl,hb2⟩;have HA2:=Lib.hid (HA1.out.later hb2);have HR2:=Lib.hid (RdB.blw HR1.out (hb2.mono (by omega)));have b0:=HA2.out.cell (k:=0) rfl;have b1:=HA2.out.cell (k:=1) rfl;have b2:=HA2.out.cell (k:=2) rfl;have b3:=HA2.out.cell (k:=3) rfl;have b4:=HA2.out.cell (k:=4) rfl;have hz2:=hb2.size;have HB2:=Lib.hid (HB1.out.trans (hb2.mono (by omega)));clear hb2 a0 a1 a2 a3))
 have HBE:Hid (∀ w3 A' c',RdB w3 B A' 1 [7]→B≤w3.heap.size→Calls Tryz.prog 72 #[.int .i64 1,.slice none 0 0,.slice A' 1 c'] w3 fun e w'=>∃ v,e=.returned (.tuple #[.int .i64 0,v,.int .i64 0])∧ownB w' w3.heap.size v [7]∧Below w3.heap.size w3 w'):=(show ∀ w3 A' c',_ from fun w3 A' c' h hB=>by
  have:=best_any 1 0 0 0 B 1 c' none A' [] [7] w3 Rd.none_ h (Nat.zero_le _) hB (by omega)
  rw [best_one] at this
  exact this)
 clear hw1 HRW HA1 HR1 HB1
 have hBw:B≤w2.heap.size:=by omega
 have hbw:bk+1≤w2.heap.size:=by omega
 go_loopw [18,5,6] (fun vk vo vp wr=>(vk=.int .i64 0∧vo=.slice none 0 0∧vp=.slice none 0 0∧wr=w2)∨(vk=.int .i64 1∧Hid (ownB wr bk vo [0,7])∧Hid (Below bk w wr))) (fun vk _ _ _=>1 - (intOf vk).toNat)
 case atStart=>exact .inl ⟨rfl,rfl,rfl,rfl⟩
 case round =>
  rcases hrel with ⟨rfl,rfl,rfl,rfl⟩ | ⟨rfl,HO,HB⟩
  ·go_wp2_with (first
    | (go_at_call 73;(with_reducible refine (bpp_one _).mono ?_);go_must (rintro e w3 ⟨rfl,hb3⟩;have hz3:=hb3.size;have HR3:=Lib.hid (RdB.blw HR2.out (hb3.mono hBw));have HBE3:=Lib.hid (HBE.out w3 _ c HR3.out (by omega));have HB3:=Lib.hid (HB2.out.trans (hb3.mono (by omega)));clear hb3))
    | (go_at_call 72;(with_reducible refine HBE3.out.mono ?_);go_must (rintro e w4 ⟨v4,rfl,ho4,hb4⟩;obtain ⟨A4,c4,hv4,-,-,-⟩:=ho4.form;have hv4:v4=.slice A4 1 c4:=hv4;subst hv4;have hz4:=hb4.size;have HO4:=Lib.hid (ownB.alloc ho4 (.cells #[.int .u8 0] 5));have HB4:=Lib.hid ((HB3.out.trans (hb4.mono (by omega))).alloc (by omega) (.cells #[.int .u8 0] 5));have hq1:bk≤(w4.alloc (.cells #[.int .u8 0] 5)).heap.size:=(by rw [World.size_alloc];omega);clear ho4 hb4))
    | (at_builtin;(refine wpList_appendB rfl (.tmp 49) (.tmp 50) rfl bk v5 [0] rfl HO5.out _ 1 c4 A4 [7] rfl HR5.out (by decide) hq2 ?_;intro v6 w6 ho6 hg6 hb6 ha6;have HO6:Hid (ownB w6 bk v6 [0,7]):=ho6;have HB6:=Lib.hid (HB5.out.trans hb6);clear ho6 hg6 hb6 ha6))
    | (at_builtin;(refine wpList_appendB rfl (.tmp 45) (.tmp 48) rfl bk (.slice none 0 0) [] rfl (ownB.nil_ _ _) (w4.heap.size+1) 1 1 (some ⟨w4.heap.size,0,none⟩) [0] rfl (rd_one w4 0 0 rfl) (by decide) hq1 ?_;intro v5 w5 ho5 hg5 hb5 ha5;have HO5:Hid (ownB w5 bk v5 [0]):=ho5;have hq2:=Nat.le_trans hq1 hb5.size;have HR5:=Lib.hid (ownB.rd (World.ownsRow.kept HO4.out hg5 (by cases e:(Value.slice A4 1 c4).ownBlock with
      | none=>exact .inl rfl
      | some k=>exact .inr (by intro e2;cases e2))));have HB5:=Lib.hid (HB4.out.trans hb5);clear ho5 hg5 hb5 ha5)))
   go_roundw
   case rel=>exact .inr ⟨rfl,HO6,HB6⟩
   case measure=>simp [intOf]
  ·go_wp2_with fail
   go_ret2
   exact ⟨_,rfl,HO.out,HB.out⟩
set_option maxRecDepth 100000 in
set_option maxHeartbeats 3200000 in
theorem encode_one (B c:Nat) (A:Option Addr) (w:World) (h:RdB w B A 1 [7]) (hB:B≤w.heap.size) (hcap:1≤c) :
  Calls Tryz.prog 16 #[.agg #[.int .i64 1,.int .i64 1,.int .i64 1,.int .i64 8,.slice A 1 c]] w fun e w'=>∃ g9 n9 c9 D C1 N C C3,e=.returned (.tuple #[.slice (some ⟨g9,0,none⟩) n9 c9,.int .i64 0])∧RowM w' g9 n9 c9 (fileL D C1 N C C3)∧Below w.heap.size w w':=by
 obtain ⟨w1,hw1⟩:∃ w1,w.alloc (.cells #[.int .i64 1,.int .i64 1,.int .i64 1,.int .i64 8,.slice A 1 c] 39)=w1:=⟨_,rfl⟩
 obtain ⟨bk,hbk⟩:∃ b,w.heap.size=b:=⟨_,rfl⟩
 have HA1:Hid (Arr w1 bk [.int .i64 1,.int .i64 1,.int .i64 1,.int .i64 8,.slice A 1 c]):=(show Arr _ _ _ by rw [← hw1,← hbk];exact Arr.new w [.int .i64 1,.int .i64 1,.int .i64 1,.int .i64 8,.slice A 1 c] _)
 have HR1:Hid (RdB w1 B A 1 [7]):=(show RdB _ _ _ _ _ by rw [← hw1];exact Rd.alloc h hB _)
 have HB1:Hid (Below bk w w1):=(show Below _ _ _ by rw [← hw1,← hbk];exact (Below.refl w.heap.size w).alloc (Nat.le_refl _) _)
 have hz1:w1.heap.size=bk+1:=by rw [← hw1,World.size_alloc,hbk]
 have HMY:Hid (Calls Tryz.prog 15 #[.agg #[.int .i64 1,.int .i64 1,.int .i64 1,.int .i64 8,.slice A 1 c]] w1 fun e w'=>e=.returned (.bool true)∧Below w1.heap.size w1 w'):=(show Calls _ _ _ _ _ by have:=may_any ⟨1,1,1,8⟩ A 1 c w1;rw [may_one] at this;exact this)
 have a0:=HA1.out.cell (k:=0) rfl
 have a1:=HA1.out.cell (k:=1) rfl
 have a2:=HA1.out.cell (k:=2) rfl
 have a3:=HA1.out.cell (k:=3) rfl
 have a4:=HA1.out.cell (k:=4) rfl
 clear h
 rw [hbk] at hB
 go_enter Tryz.func16,Tryz.ntmps16
 simp only [hw1,hbk]
 go_wp2_with (first
  | (go_at_call 15;(with_reducible refine HMY.out.mono ?_);go_must (rintro e w2 ⟨rfl,hb2⟩;have HA2:=Lib.hid (HA1.out.later hb2);have hz2:=hb2.size;have HFI:=Lib.hid (filtered_one B c A w2 (RdB.blw HR1.out (hb2.mono (by omega))) (by omega) hcap);have b0:=HA2.out.cell (k:=0) rfl;have b1:=HA2.out.cell (k:=1) rfl;have b2:=HA2.out.cell (k:=2) rfl;have b3:=HA2.out.cell (k:=3) rfl;have b4:=HA2.out.cell (k:=4) rfl;have HB2:=Lib.hid (HB1.out.trans (hb2.mono (by omega)));clear hb2 a0 a1 a2 a3 a4))
  | (go_at_call 43;(with_reducible refine HFI.out.mono ?_);go_must (rintro e w3 ⟨v3,rfl,ho3,hb3⟩;obtain ⟨A3,c3,hv3,hr3,hc3,-⟩:=ho3.form;have hv3:v3=.slice A3 2 c3:=hv3;subst hv3;have HA3:=Lib.hid (HA2.out.later hb3);have hz3:=hb3.size;have HFL:=Lib.hid (file_one w3.heap.size 2 c3 A3 [0,7] w3 hr3 (Nat.le_refl _) (by omega) hc3);have d0:=HA3.out.cell (k:=0) rfl;have d1:=HA3.out.cell (k:=1) rfl;have d2:=HA3.out.cell (k:=2) rfl;have d3:=HA3.out.cell (k:=3) rfl;have HB3:=Lib.hid (HB2.out.trans (hb3.mono (by omega)));clear ho3 hb3 hr3 b0 b1 b2 b3 b4))
  | (go_at_call 44;(with_reducible refine HFL.out.mono ?_);go_must (rintro e w4 ⟨g9,n9,c9,D,C1,N,C,C3,rfl,hr4,hb4⟩;have HR4:=Lib.hid hr4;have HB4:=Lib.hid (HB3.out.trans (hb4.mono (by omega)));clear hr4 hb4)))
 go_ret2
 exact ⟨g9,n9,c9,D,C1,N,C,C3,rfl,HR4.out,HB4.out⟩
theorem fileL_take (D C1 N C C3:List UInt8):(fileL D C1 N C C3).take 16=[137,80,78,71,13,10,26,10,0,0,0,13,73,72,68,82]:=rfl
theorem fileL_len (D C1 N C C3:List UInt8):17≤(fileL D C1 N C C3).length:=by
 unfold fileL layL
 simp only [List.length_append,List.length_cons,List.length_nil]
 omega
set_option maxRecDepth 100000 in
set_option maxHeartbeats 3200000 in
theorem first13_any (w:World):Calls Tryz.prog 7 #[] w fun e w'=>e=.returned (.bool true)∧Below w.heap.size w w':=by
 have kc:=conv_const
 have HE:=Lib.hid (encode_one (w.heap.size+1) 1 (some ⟨w.heap.size,0,none⟩) (w.alloc (.cells #[.int .u8 7] 5)) (rd_lit w 5 (0,0) [7]) (by simp) (Nat.le_refl _))
 go_enter Tryz.func7,Tryz.ntmps7
 go_wp2_with (go_at_call 16;(with_reducible refine HE.out.mono ?_);go_must (rintro e w1 ⟨g9,n9,c9,D,C1,N,C,C3,rfl,hr1,hb1⟩;have hl:=fileL_len D C1 N C C3;rw [hr1.len] at hl;have hc9:n9≤c9:=(by obtain ⟨_,_,_,_,_,h,_⟩:=hr1;exact h);have h16:=RdB.pre hr1.rd (m:=16) (by omega);rw [fileL_take] at h16;have k1:=run_strB (n:=16) (c:=c9) h16;have hi1:((16:Nat):Int) < (n9:Int):=(by omega);have hi2:(16:Int) < (n9:Int):=(by omega);have hi3:(16:Int)≤(c9:Int):=(by omega);have hi4:16≤c9:=(by omega);have HB1:=Lib.hid (((Below.refl w.heap.size w).alloc (Nat.le_refl _) (.cells #[.int .u8 7] 5)).trans (hb1.mono (by simp)));clear hb1 hr1 hl))
 go_ret
 exact ⟨rfl,HB1.out⟩
end Go.Proofs.YtebbdifhiihfkaaGreatDoor

