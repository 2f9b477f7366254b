/- XPK XPg2 -/
import Derived.Test.YteoolehdomjkkaaGreatMe31
import Derived.Test.YteoolehdomjkkaaGreatMe35
import Derived.Test.YteoolehdomjkkaaGreatMe32
import Derived.Deep.RegionHeld3
namespace Go.Proofs.YteoolehdomjkkaaGreat
set_option linter.all false
open Go.RowKit
theorem packL_len0 (bz S:List UInt8):(packL bz S).length=2+bz.length+S.length:=by
 unfold packL
 rw [List.length_append,List.length_append]
 rfl
theorem big4b0 {x:Nat} {S:List UInt8} (h:x < 4294967296) (hS:beR (x:Int) 4=(S,0)):S=beB x 4:=by
 have hk:numOk (x:Int) 4:=⟨by omega,by omega,by omega,by show (x:Int) / 2 ^ (8 * 4)≤0;omega⟩
 unfold beR at hS
 rw [if_pos hk] at hS
 injection hS with hS _
 exact hS.symm
/-- A pack of bytes. -/
def PK (b l:List UInt8):Prop:=∃ bz S,l=packL bz S∧WB bz (deflB b (findP b))∧S=beB (adler b) 4
theorem PK.uniq {b l l':List UInt8} (h:PK b l) (k:PK b l'):l=l':=by
 obtain ⟨bz,S,rfl,hw,rfl⟩:=h
 obtain ⟨bz',S',rfl,hw',rfl⟩:=k
 rw [hw.uniq hw']
theorem PK.len {b l:List UInt8} (h:PK b l):l.length≤b.length+11:=by
 obtain ⟨bz,S,rfl,hw,rfl⟩:=h
 have h1:=best_len hw
 rw [packL_len0,beB_len]
 omega
theorem packK_any (B n c:Nat) (A:Option Addr) (bs:List UInt8) (w:World) (h:RdB w B A n bs) (hB:B≤w.heap.size) (hn:n≤40000) (hcap:n≤c) :
  Calls Tryz.prog 32 #[.slice A n c] w fun e w'=>∃ v l,e=.returned (.tuple #[v,.int .i64 0])∧ownB w' w.heap.size v l∧PK bs l∧Below w.heap.size w w':=by
 obtain ⟨S,hS,hS4⟩:=big4 (adler_lt bs)
 refine (pack_any B n c A bs S w h hB hn hcap hS hS4).mono ?_
 rintro e w' ⟨v,bz,he,ho,hw,hb⟩
 exact ⟨v,_,he,ho,⟨bz,S,rfl,hw,big4b0 (adler_lt bs) hS⟩,hb⟩
end Go.Proofs.YteoolehdomjkkaaGreat

/- png: a file of rows. -/
namespace Go.Proofs.YteoolehdomjkkaaGreat
set_option linter.all false
open Go.RowKit
/-- A colour type. -/
def colV (C:Nat):UInt8:=if C=1 then 0 else if C=2 then 4 else if C=3 then 2 else 6
set_option maxRecDepth 100000 in
theorem colours_any (C:Nat) (hC:1≤C∧C≤4) (w:World):Calls Tryz.prog 84 #[.int .i64 (C:Int)] w fun e w'=>e=.returned (.int .u8 ((colV C).toNat:Int))∧Below w.heap.size w w':=by
 rcases (show C=1∨C=2∨C=3∨C=4 by omega) with rfl | rfl | rfl | rfl
 all_goals
  go_enter Tryz.func84,Tryz.ntmps84
  go_wp2_with fail
  go_ret
  exact ⟨rfl,(Below.refl w.heap.size w).alloc (Nat.le_refl _) _⟩
theorem big4e {x:Nat} (h:x < 4294967296):beR (x:Int) 4=(beB x 4,0)∧(beB x 4).length=4:=by
 obtain ⟨S,hS,h4⟩:=big4 h
 have e:=big4b0 h hS
 subst e
 exact ⟨hS,h4⟩
theorem bigN_any (x:Nat) (h:x < 4294967296) (w:World):Calls Tryz.prog 72 #[.int .i64 (x:Int),.int .i64 4] w fun e w'=>∃ v,e=.returned (.tuple #[v,.int .i64 0])∧ownB w' w.heap.size v (beB x 4)∧Below w.heap.size w w':=by
 have h1:=big_any (x:Int) 4 w
 rw [(big4e h).1] at h1
 exact h1
/-- A chunk behind what is there, its numbers reckoned. -/
def ckL (out ks data:List UInt8):List UInt8:=layL out (beB data.length 4) ks data (beB (crc (ks ++ data)) 4)
theorem lay2_any (base B m c2 g0 n0 cap0:Nat) (A:Option Addr) (out data ks:List UInt8) (S:ByteArray) (w:World) (hS:S.data.toList=ks) (hks:ks.length=4) (ho:RowM w g0 n0 cap0 out) (hg0:base≤g0) (hr:RdB w B A m data) (hB:B≤base)
  (hm:m≤1000000) (hout:n0≤1000000) :
  Calls Tryz.prog 85 #[.slice (some ⟨g0,0,none⟩) n0 cap0,.string S,.slice A m c2] w fun e w'=>∃ g9 c9,e=.returned (.slice (some ⟨g9,0,none⟩) (n0+4+(4+m)+4) c9)∧RowM w' g9 (n0+4+(4+m)+4) c9 (ckL out ks data)∧base≤g9∧Below base w w':=by
 have hl:=hr.len
 have e1:=big4e (show m < 4294967296 by omega)
 have e2:=big4e (crc_lt (ks ++ data))
 unfold ckL
 rw [hl]
 exact lay_any base B m c2 g0 n0 cap0 A out data ks (beB m 4) (beB (crc (ks ++ data)) 4) S w hS hks ho hg0 hr hB hm hout e1.1 e1.2 e2.1 e2.2
/-- A head's bytes, a file's. -/
def hdrL (W H C D:Nat) (L:UInt8):List UInt8:=beB W 4 ++ beB H 4 ++ [UInt8.ofNat D,colV C,0,0,L]
def fileP (hd z:List UInt8):List UInt8:=ckL (ckL (ckL [137,80,78,71,13,10,26,10] [73,72,68,82] hd) [73,68,65,84] z) [73,69,78,68] []
def FileI (hd rs l:List UInt8):Prop:=∃ z,PK rs z∧l=fileP hd z
theorem FileI.uniq {hd rs l l':List UInt8} (h:FileI hd rs l) (h':FileI hd rs l'):l=l':=by
 obtain ⟨z,hz,rfl⟩:=h
 obtain ⟨z',hz',rfl⟩:=h'
 rw [hz.uniq hz']
set_option maxRecDepth 100000 in
set_option maxHeartbeats 6400000 in
theorem file_8 (W H C B n c:Nat) (A:Option Addr) (rs:List UInt8) (L:UInt8) (w:World) (h:RdB w B A n rs) (hB:B≤w.heap.size) (hn:n≤40000) (hcap:n≤c) (hW:W≤256) (hH:H≤256) (hC:1≤C∧C≤4) :
  Calls Tryz.prog 43 #[.agg #[.int .i64 (W:Int),.int .i64 (H:Int),.int .i64 (C:Int),.int .i64 8],.int .u8 (L.toNat:Int),.slice A n c] w fun e w'=>∃ g9 n9 c9 l,e=.returned (.tuple #[.slice (some ⟨g9,0,none⟩) n9 c9,.int .i64 0])∧RowM w' g9 n9 c9 l∧FileI (hdrL W H C 8 L) rs l∧Below w.heap.size w w':=by
 obtain ⟨w1,hw1⟩:∃ w1,w.alloc (.cells #[.int .i64 (W:Int),.int .i64 (H:Int),.int .i64 (C:Int),.int .i64 8] 23)=w1:=⟨_,rfl⟩
 obtain ⟨bk,hbk⟩:∃ b,w.heap.size=b:=⟨_,rfl⟩
 have HA1:Hid (Arr w1 bk [.int .i64 (W:Int),.int .i64 (H:Int),.int .i64 (C:Int),.int .i64 8]):=(show Arr _ _ _ by rw [← hw1,← hbk];exact Arr.new w [.int .i64 (W:Int),.int .i64 (H:Int),.int .i64 (C:Int),.int .i64 8] _)
 have HR1:RdB w1 B A n rs:=by rw [← hw1];exact Rd.alloc h hB _
 have hz1:w1.heap.size=bk+1:=by rw [← hw1,World.size_alloc,hbk]
 have HB1:Hid (Below bk w w1):=(show Below _ _ _ by rw [← hw1,← hbk];exact (Below.refl w.heap.size w).alloc (Nat.le_refl _) _)
 have HPK:=Lib.hid (packK_any B n c A rs w1 HR1 (by omega) (by omega) hcap)
 have hrl:=h.len
 have HCL:=Lib.hid (fun w=>colours_any C hC w)
 obtain ⟨cv,hcv⟩:∃ cv,colV C=cv:=⟨_,rfl⟩
 rw [hcv] at HCL
 have HHD:Hid (hdrL W H C 8 L=beB W 4 ++ beB H 4 ++ [UInt8.ofNat 8,cv,0,0,L]):=(show _=_ by unfold hdrL;rw [hcv])
 have HBW:=Lib.hid (fun w=>bigN_any W (by omega) w)
 have HBH:=Lib.hid (fun w=>bigN_any H (by omega) w)
 have HTL:Hid (∀ w7:World,RdB (w7.alloc (.cells #[.int .u8 8,.int .u8 (cv.toNat:Int),.int .u8 0,.int .u8 0,.int .u8 (L.toNat:Int)] 5)) (w7.heap.size+1) (some ⟨w7.heap.size,0,none⟩) 5 [UInt8.ofNat 8,cv,0,0,L]):=(show ∀ w7:World,_ from fun w7=>by
  have:=rd_lit w7 5 (0,0) [UInt8.ofNat 8,cv,0,0,L]
  have e:(cb [UInt8.ofNat 8,cv,0,0,L]).toArray=#[.int .u8 8,.int .u8 (cv.toNat:Int),.int .u8 0,.int .u8 0,.int .u8 (L.toNat:Int)]:=by
   rfl
  rw [e] at this
  exact this)
 have hwl:(beB W 4).length=4:=beB_len _ _
 have hhl:(beB H 4).length=4:=beB_len _ _
 generalize hdrL W H C 8 L=HD0 at *
 generalize beB W 4=bw at *
 generalize beB H 4=bh at *
 have HWL:=Lib.hid hwl
 have HHL:=Lib.hid hhl
 clear hcv hwl hhl
 clear h HR1
 go_enter Tryz.func43,Tryz.ntmps43
 simp only [hw1,hbk]
 go_upto_region 6 with (first
  | (go_at_call 32;(with_reducible refine HPK.out.mono ?_);go_must (rintro e w2 ⟨v2,zl,rfl,ho2,hz2,hb2⟩;have hbz:=hz2.len;obtain ⟨A2,c2,hv2,hr2,-,-⟩:=ho2.form;obtain ⟨n2,hn2⟩:∃ L,zl.length=L:=⟨_,rfl⟩;rw [hn2] at hv2 hr2;subst hv2;have HD2:=Lib.hid hr2;have HA2:=Lib.hid (HA1.out.later hb2);have a20:=HA2.out.cell (k:=0) rfl;have a21:=HA2.out.cell (k:=1) rfl;have hs2:=hb2.size;have HB2:=Lib.hid (HB1.out.trans (hb2.mono (by omega)));have hnn:n2≤50000:=(by omega);have HZ2:=Lib.hid hz2;clear ho2 hz2 hb2 hr2))
  | (go_at_call 72;(with_reducible refine (HBW.out w2).mono ?_);go_must (rintro e w3 ⟨v3,rfl,ho3,hb3⟩;have HO3:=Lib.hid ho3;have HA3:=Lib.hid (HA2.out.later hb3);have a31:=HA3.out.cell (k:=1) rfl;have HD3:=Lib.hid (RdB.blw HD2.out hb3);have hs3:=hb3.size;have HB3:=Lib.hid (HB2.out.trans (hb3.mono (by omega)));clear ho3 hb3))
  | (go_at_call 72;(with_reducible refine (HBH.out w3).mono ?_);go_must (rintro e w4 ⟨v4,rfl,ho4,hb4⟩;have HO4:=Lib.hid ho4;have HO34:=Lib.hid (ownB.later HO3.out hb4);have HA4:=Lib.hid (HA3.out.later hb4);have HD4:=Lib.hid (RdB.blw HD3.out (hb4.mono (by omega)));have hs4:=hb4.size;have HB4:=Lib.hid (HB3.out.trans (hb4.mono (by omega)));clear ho4 hb4)))
 obtain ⟨A3,c3,rfl,-,-,-⟩:=HO34.out.form
 obtain ⟨A4,c4,rfl,hr4,-,-⟩:=HO4.out.form
 rw [HWL.out] at HO34 ⊢
 rw [HHL.out] at hr4 ⊢
 have HO3d:Hid (ownB w4.drew w2.heap.size (.slice A3 4 c3) bw):=HO34
 have HR4d:Hid (RdB w4.drew w4.heap.size A4 4 bh):=hr4
 have s2:w4.drew.cell? ⟨bk,2,none⟩=some (.int .i64 (C:Int)):=HA4.out.cell (k:=2) rfl
 have s3:w4.drew.cell? ⟨bk,3,none⟩=some (.int .i64 8):=HA4.out.cell (k:=3) rfl
 have hbk2:bk < w2.heap.size:=by omega
 have hq1:bw.length+4≤140737488355328:=by rw [HWL.out];decide
 have hq2:w2.heap.size≤w4.drew.heap.size:=by show w2.heap.size≤w4.heap.size;omega
 have hq3:(bw ++ bh).length+5≤140737488355328:=by rw [List.length_append,HWL.out,HHL.out];decide
 clear hr4 HO34 hw1
 go_cut [14] (fun v wc=>Hid (ownB wc w2.heap.size v (bw ++ bh ++ [UInt8.ofNat 8,cv,0,0,L]))∧Hid (Below w2.heap.size w4 wc))
 case first =>
  go_region_held3 (fun w'=>w'.cell? ⟨bk,2,none⟩=some (.int .i64 (C:Int))∧w'.cell? ⟨bk,3,none⟩=some (.int .i64 8))
   (first | (with_reducible exact ⟨s2,s3⟩) | (with_reducible exact ⟨s26,s36⟩) | (with_reducible exact ⟨s27,s37⟩) | (with_reducible exact ⟨s29,s39⟩) | (with_reducible exact ⟨cell_alloc2 s27 _,cell_alloc2 s37 _⟩) | go_keep)
   (first
   | (refine step_appendB rfl (.tmp 38) (.tmp 46) rfl w2.heap.size v6 (bw ++ bh) rfl (ownB.alloc (ownB.later HO6.out HB7.out) _) _ 5 5 (some ⟨w7.heap.size,0,none⟩) [UInt8.ofNat 8,cv,0,0,L] rfl (HTL.out w7) hq3 hq8 ?_;intro v9 w9 ho9 hg9 hb9 ha9;have hX9:Below w2.heap.size w4 w9:=((hX7.alloc hq7 _).trans hb9);have s29:=cell_blw hb9 hbk2 (cell_alloc2 s27 _);have s39:=cell_blw hb9 hbk2 (cell_alloc2 s37 _);clear hg9 hb9 ha9)
   | (refine step_appendB rfl (.tmp 36) (.tmp 37) rfl w2.heap.size (.slice A3 4 c3) bw rfl HO3d.out w4.heap.size 4 c4 A4 bh rfl HR4d.out hq1 hq2 ?_;intro v6 w6 ho6 hg6 hb6 ha6;have HO6:Hid (ownB w6 w2.heap.size v6 (bw ++ bh)):=ho6;have s26:=cell_blw hb6 hbk2 s2;have s36:=cell_blw hb6 hbk2 s3;have hX6:Below w2.heap.size w4 w6:=⟨hb6.os,hb6.tape,hb6.output,hb6.size,hb6.block⟩;have hq6:w2.heap.size≤w6.heap.size:=Nat.le_trans hq2 hb6.size;have hbk6:bk < w6.heap.size:=Nat.lt_of_lt_of_le hbk2 hq6;clear ho6 hg6 hb6 ha6)
   | (go_at_call 84;(with_reducible refine (HCL.out w6).mono ?_);go_must (rintro e w7 ⟨rfl,hb7⟩;have HB7:=Lib.hid hb7;have s27:=cell_blw hb7 hbk6 s26;have s37:=cell_blw hb7 hbk6 s36;have hX7:Below w2.heap.size w4 w7:=hX6.trans (hb7.mono hq6);have hq7:w2.heap.size≤w7.heap.size:=Nat.le_trans hq6 hb7.size;have hq8:w2.heap.size≤(w7.alloc (.cells #[.int .u8 8,.int .u8 (cv.toNat:Int),.int .u8 0,.int .u8 0,.int .u8 (L.toNat:Int)] 5)).heap.size:=Nat.le_trans hq7 (alloc_le _ _);clear hb7)))
  all_goals
   go_wp2_with fail
   go_meet
   case rel=>exact ⟨ho9,hX9⟩
 case rest =>
  obtain ⟨HH,HX⟩:=hcut
  clear s2 s3 hq1 hq3 HO3d HR4d
  have kc:=conv_const
  obtain ⟨A14,c14,hv14,hr14,-,-⟩:=HH.out.form
  have hl14:(bw ++ bh ++ [UInt8.ofNat 8,cv,0,0,L]).length=13:=by rw [List.length_append,List.length_append,HWL.out,HHL.out];rfl
  rw [hl14] at hv14 hr14
  subst hv14
  obtain ⟨hd,hhd⟩:∃ hd,bw ++ bh ++ [UInt8.ofNat 8,cv,0,0,L]=hd:=⟨_,rfl⟩
  rw [hhd] at hr14 HHD hl14
  have HH14:=Lib.hid hl14
  clear hhd hl14
  have hzc:w2.heap.size≤wc.heap.size:=by have:=HX.out.size;omega
  have hbc:bk≤wc.heap.size:=by omega
  have HD:=Lib.hid (RdB.blw HD4.out HX.out)
  have HBC:=Lib.hid (HB4.out.trans (HX.out.mono (by omega)))
  obtain ⟨wm,hwm0⟩:∃ wm,wc.alloc (.cells #[.int .u8 137,.int .u8 80,.int .u8 78,.int .u8 71,.int .u8 13,.int .u8 10,.int .u8 26,.int .u8 10] 5 (8,9))=wm:=⟨_,rfl⟩
  have hrm:RowM wm wc.heap.size 8 8 [137,80,78,71,13,10,26,10]:=by rw [← hwm0];exact const_row wc [137,80,78,71,13,10,26,10] (8,9) (.inr (by decide))
  have hm14:RdB wm wc.heap.size A14 13 hd:=by rw [← hwm0];exact Rd.alloc hr14 (Nat.le_refl _) _
  have HM:=Lib.hid (show RdB wm w2.heap.size A2 n2 zl by rw [← hwm0];exact Rd.alloc HD.out hzc _)
  have HBM:=Lib.hid (show Below bk w wm by rw [← hwm0];exact HBC.out.alloc hbc _)
  have HL1:=Lib.hid (lay2_any wc.heap.size wc.heap.size 13 c14 wc.heap.size 8 8 A14 [137,80,78,71,13,10,26,10] hd [73,72,68,82] ⟨#[73,72,68,82]⟩ wm rfl rfl hrm (Nat.le_refl _) hm14 (Nat.le_refl _) (by omega) (by omega))
  generalize hd1:ckL [137,80,78,71,13,10,26,10] [73,72,68,82] hd=D1 at *
  have HL2:=Lib.hid (fun w10 g c (ho:RowM w10 g 33 c D1) (hg:wc.heap.size≤g) (hr:RdB w10 w2.heap.size A2 n2 zl)=>lay2_any wc.heap.size w2.heap.size n2 c2 g 33 c A2 D1 zl [73,68,65,84] ⟨#[73,68,65,84]⟩ w10 rfl rfl ho hg hr hzc (by omega) (by omega))
  generalize hd2:ckL D1 [73,68,65,84] zl=D2 at *
  obtain ⟨n11,hn11⟩:∃ k,33+4+(4+n2)+4=k:=⟨_,rfl⟩
  rw [hn11] at HL2
  have HL3:=Lib.hid (fun w11 g c (ho:RowM w11 g n11 c D2) (hg:wc.heap.size≤g)=>lay2_any wc.heap.size wc.heap.size 0 0 g n11 c none D2 [] [73,69,78,68] ⟨#[73,69,78,68]⟩ w11 rfl rfl ho hg rdB_nil0 (Nat.le_refl _) (by omega) (by omega))
  obtain ⟨n12,hn12⟩:∃ k,n11+4+(4+0)+4=k:=⟨_,rfl⟩
  rw [hn12] at HL3
  have HD1:=Lib.hid hd1
  have HD2':=Lib.hid hd2
  clear hd1 hd2 hn2 hr14 hrm hm14
  go_wp2_with (first
   | (go_at_call 85;(with_reducible refine HL1.out.mono ?_);go_must (rintro e w10 ⟨g10,c10,rfl,ho10,hg10,hb10⟩;have HL22:=Lib.hid (HL2.out w10 g10 c10 ho10 hg10 (RdB.blw HM.out (hb10.mono hzc)));have HB10:=Lib.hid (HBM.out.trans (hb10.mono hbc));clear ho10 hb10))
   | (go_at_call 85;(with_reducible refine HL22.out.mono ?_);go_must (rintro e w11 ⟨g11,c11,rfl,ho11,hg11,hb11⟩;have HL33:=Lib.hid (HL3.out w11 g11 c11 ho11 hg11);have HB11:=Lib.hid (HB10.out.trans (hb11.mono hbc));clear ho11 hb11))
   | (go_at_call 85;(with_reducible refine HL33.out.mono ?_);go_must (rintro e w12 ⟨g12,c12,rfl,ho12,hg12,hb12⟩;have HO12:=Lib.hid ho12;have HB12:=Lib.hid (HB11.out.trans (hb12.mono hbc));clear ho12 hb12)))
  go_ret2
  refine ⟨g12,n12,c12,_,rfl,HO12.out,⟨zl,HZ2.out,?_⟩,HB12.out⟩
  rw [HHD.out]
  unfold fileP
  rw [HD1.out,HD2'.out]
set_option maxRecDepth 100000 in
set_option maxHeartbeats 6400000 in
theorem file_16 (W H C B n c:Nat) (A:Option Addr) (rs:List UInt8) (L:UInt8) (w:World) (h:RdB w B A n rs) (hB:B≤w.heap.size) (hn:n≤40000) (hcap:n≤c) (hW:W≤256) (hH:H≤256) (hC:1≤C∧C≤4) :
  Calls Tryz.prog 43 #[.agg #[.int .i64 (W:Int),.int .i64 (H:Int),.int .i64 (C:Int),.int .i64 16],.int .u8 (L.toNat:Int),.slice A n c] w fun e w'=>∃ g9 n9 c9 l,e=.returned (.tuple #[.slice (some ⟨g9,0,none⟩) n9 c9,.int .i64 0])∧RowM w' g9 n9 c9 l∧FileI (hdrL W H C 16 L) rs l∧Below w.heap.size w w':=by
 obtain ⟨w1,hw1⟩:∃ w1,w.alloc (.cells #[.int .i64 (W:Int),.int .i64 (H:Int),.int .i64 (C:Int),.int .i64 16] 23)=w1:=⟨_,rfl⟩
 obtain ⟨bk,hbk⟩:∃ b,w.heap.size=b:=⟨_,rfl⟩
 have HA1:Hid (Arr w1 bk [.int .i64 (W:Int),.int .i64 (H:Int),.int .i64 (C:Int),.int .i64 16]):=(show Arr _ _ _ by rw [← hw1,← hbk];exact Arr.new w [.int .i64 (W:Int),.int .i64 (H:Int),.int .i64 (C:Int),.int .i64 16] _)
 have HR1:RdB w1 B A n rs:=by rw [← hw1];exact Rd.alloc h hB _
 have hz1:w1.heap.size=bk+1:=by rw [← hw1,World.size_alloc,hbk]
 have HB1:Hid (Below bk w w1):=(show Below _ _ _ by rw [← hw1,← hbk];exact (Below.refl w.heap.size w).alloc (Nat.le_refl _) _)
 have HPK:=Lib.hid (packK_any B n c A rs w1 HR1 (by omega) (by omega) hcap)
 have hrl:=h.len
 have HCL:=Lib.hid (fun w=>colours_any C hC w)
 obtain ⟨cv,hcv⟩:∃ cv,colV C=cv:=⟨_,rfl⟩
 rw [hcv] at HCL
 have HHD:Hid (hdrL W H C 16 L=beB W 4 ++ beB H 4 ++ [UInt8.ofNat 16,cv,0,0,L]):=(show _=_ by unfold hdrL;rw [hcv])
 have HBW:=Lib.hid (fun w=>bigN_any W (by omega) w)
 have HBH:=Lib.hid (fun w=>bigN_any H (by omega) w)
 have HTL:Hid (∀ w7:World,RdB (w7.alloc (.cells #[.int .u8 16,.int .u8 (cv.toNat:Int),.int .u8 0,.int .u8 0,.int .u8 (L.toNat:Int)] 5)) (w7.heap.size+1) (some ⟨w7.heap.size,0,none⟩) 5 [UInt8.ofNat 16,cv,0,0,L]):=(show ∀ w7:World,_ from fun w7=>by
  have:=rd_lit w7 5 (0,0) [UInt8.ofNat 16,cv,0,0,L]
  have e:(cb [UInt8.ofNat 16,cv,0,0,L]).toArray=#[.int .u8 16,.int .u8 (cv.toNat:Int),.int .u8 0,.int .u8 0,.int .u8 (L.toNat:Int)]:=by
   rfl
  rw [e] at this
  exact this)
 have hwl:(beB W 4).length=4:=beB_len _ _
 have hhl:(beB H 4).length=4:=beB_len _ _
 generalize hdrL W H C 16 L=HD0 at *
 generalize beB W 4=bw at *
 generalize beB H 4=bh at *
 have HWL:=Lib.hid hwl
 have HHL:=Lib.hid hhl
 clear hcv hwl hhl
 clear h HR1
 go_enter Tryz.func43,Tryz.ntmps43
 simp only [hw1,hbk]
 go_upto_region 6 with (first
  | (go_at_call 32;(with_reducible refine HPK.out.mono ?_);go_must (rintro e w2 ⟨v2,zl,rfl,ho2,hz2,hb2⟩;have hbz:=hz2.len;obtain ⟨A2,c2,hv2,hr2,-,-⟩:=ho2.form;obtain ⟨n2,hn2⟩:∃ L,zl.length=L:=⟨_,rfl⟩;rw [hn2] at hv2 hr2;subst hv2;have HD2:=Lib.hid hr2;have HA2:=Lib.hid (HA1.out.later hb2);have a20:=HA2.out.cell (k:=0) rfl;have a21:=HA2.out.cell (k:=1) rfl;have hs2:=hb2.size;have HB2:=Lib.hid (HB1.out.trans (hb2.mono (by omega)));have hnn:n2≤50000:=(by omega);have HZ2:=Lib.hid hz2;clear ho2 hz2 hb2 hr2))
  | (go_at_call 72;(with_reducible refine (HBW.out w2).mono ?_);go_must (rintro e w3 ⟨v3,rfl,ho3,hb3⟩;have HO3:=Lib.hid ho3;have HA3:=Lib.hid (HA2.out.later hb3);have a31:=HA3.out.cell (k:=1) rfl;have HD3:=Lib.hid (RdB.blw HD2.out hb3);have hs3:=hb3.size;have HB3:=Lib.hid (HB2.out.trans (hb3.mono (by omega)));clear ho3 hb3))
  | (go_at_call 72;(with_reducible refine (HBH.out w3).mono ?_);go_must (rintro e w4 ⟨v4,rfl,ho4,hb4⟩;have HO4:=Lib.hid ho4;have HO34:=Lib.hid (ownB.later HO3.out hb4);have HA4:=Lib.hid (HA3.out.later hb4);have HD4:=Lib.hid (RdB.blw HD3.out (hb4.mono (by omega)));have hs4:=hb4.size;have HB4:=Lib.hid (HB3.out.trans (hb4.mono (by omega)));clear ho4 hb4)))
 obtain ⟨A3,c3,rfl,-,-,-⟩:=HO34.out.form
 obtain ⟨A4,c4,rfl,hr4,-,-⟩:=HO4.out.form
 rw [HWL.out] at HO34 ⊢
 rw [HHL.out] at hr4 ⊢
 have HO3d:Hid (ownB w4.drew w2.heap.size (.slice A3 4 c3) bw):=HO34
 have HR4d:Hid (RdB w4.drew w4.heap.size A4 4 bh):=hr4
 have s2:w4.drew.cell? ⟨bk,2,none⟩=some (.int .i64 (C:Int)):=HA4.out.cell (k:=2) rfl
 have s3:w4.drew.cell? ⟨bk,3,none⟩=some (.int .i64 16):=HA4.out.cell (k:=3) rfl
 have hbk2:bk < w2.heap.size:=by omega
 have hq1:bw.length+4≤140737488355328:=by rw [HWL.out];decide
 have hq2:w2.heap.size≤w4.drew.heap.size:=by show w2.heap.size≤w4.heap.size;omega
 have hq3:(bw ++ bh).length+5≤140737488355328:=by rw [List.length_append,HWL.out,HHL.out];decide
 clear hr4 HO34 hw1
 go_cut [14] (fun v wc=>Hid (ownB wc w2.heap.size v (bw ++ bh ++ [UInt8.ofNat 16,cv,0,0,L]))∧Hid (Below w2.heap.size w4 wc))
 case first =>
  go_region_held3 (fun w'=>w'.cell? ⟨bk,2,none⟩=some (.int .i64 (C:Int))∧w'.cell? ⟨bk,3,none⟩=some (.int .i64 16))
   (first | (with_reducible exact ⟨s2,s3⟩) | (with_reducible exact ⟨s26,s36⟩) | (with_reducible exact ⟨s27,s37⟩) | (with_reducible exact ⟨s29,s39⟩) | (with_reducible exact ⟨cell_alloc2 s27 _,cell_alloc2 s37 _⟩) | go_keep)
   (first
   | (refine step_appendB rfl (.tmp 38) (.tmp 46) rfl w2.heap.size v6 (bw ++ bh) rfl (ownB.alloc (ownB.later HO6.out HB7.out) _) _ 5 5 (some ⟨w7.heap.size,0,none⟩) [UInt8.ofNat 16,cv,0,0,L] rfl (HTL.out w7) hq3 hq8 ?_;intro v9 w9 ho9 hg9 hb9 ha9;have hX9:Below w2.heap.size w4 w9:=((hX7.alloc hq7 _).trans hb9);have s29:=cell_blw hb9 hbk2 (cell_alloc2 s27 _);have s39:=cell_blw hb9 hbk2 (cell_alloc2 s37 _);clear hg9 hb9 ha9)
   | (refine step_appendB rfl (.tmp 36) (.tmp 37) rfl w2.heap.size (.slice A3 4 c3) bw rfl HO3d.out w4.heap.size 4 c4 A4 bh rfl HR4d.out hq1 hq2 ?_;intro v6 w6 ho6 hg6 hb6 ha6;have HO6:Hid (ownB w6 w2.heap.size v6 (bw ++ bh)):=ho6;have s26:=cell_blw hb6 hbk2 s2;have s36:=cell_blw hb6 hbk2 s3;have hX6:Below w2.heap.size w4 w6:=⟨hb6.os,hb6.tape,hb6.output,hb6.size,hb6.block⟩;have hq6:w2.heap.size≤w6.heap.size:=Nat.le_trans hq2 hb6.size;have hbk6:bk < w6.heap.size:=Nat.lt_of_lt_of_le hbk2 hq6;clear ho6 hg6 hb6 ha6)
   | (go_at_call 84;(with_reducible refine (HCL.out w6).mono ?_);go_must (rintro e w7 ⟨rfl,hb7⟩;have HB7:=Lib.hid hb7;have s27:=cell_blw hb7 hbk6 s26;have s37:=cell_blw hb7 hbk6 s36;have hX7:Below w2.heap.size w4 w7:=hX6.trans (hb7.mono hq6);have hq7:w2.heap.size≤w7.heap.size:=Nat.le_trans hq6 hb7.size;have hq8:w2.heap.size≤(w7.alloc (.cells #[.int .u8 16,.int .u8 (cv.toNat:Int),.int .u8 0,.int .u8 0,.int .u8 (L.toNat:Int)] 5)).heap.size:=Nat.le_trans hq7 (alloc_le _ _);clear hb7)))
  all_goals
   go_wp2_with fail
   go_meet
   case rel=>exact ⟨ho9,hX9⟩
 case rest =>
  obtain ⟨HH,HX⟩:=hcut
  clear s2 s3 hq1 hq3 HO3d HR4d
  have kc:=conv_const
  obtain ⟨A14,c14,hv14,hr14,-,-⟩:=HH.out.form
  have hl14:(bw ++ bh ++ [UInt8.ofNat 16,cv,0,0,L]).length=13:=by rw [List.length_append,List.length_append,HWL.out,HHL.out];rfl
  rw [hl14] at hv14 hr14
  subst hv14
  obtain ⟨hd,hhd⟩:∃ hd,bw ++ bh ++ [UInt8.ofNat 16,cv,0,0,L]=hd:=⟨_,rfl⟩
  rw [hhd] at hr14 HHD hl14
  have HH14:=Lib.hid hl14
  clear hhd hl14
  have hzc:w2.heap.size≤wc.heap.size:=by have:=HX.out.size;omega
  have hbc:bk≤wc.heap.size:=by omega
  have HD:=Lib.hid (RdB.blw HD4.out HX.out)
  have HBC:=Lib.hid (HB4.out.trans (HX.out.mono (by omega)))
  obtain ⟨wm,hwm0⟩:∃ wm,wc.alloc (.cells #[.int .u8 137,.int .u8 80,.int .u8 78,.int .u8 71,.int .u8 13,.int .u8 10,.int .u8 26,.int .u8 10] 5 (8,9))=wm:=⟨_,rfl⟩
  have hrm:RowM wm wc.heap.size 8 8 [137,80,78,71,13,10,26,10]:=by rw [← hwm0];exact const_row wc [137,80,78,71,13,10,26,10] (8,9) (.inr (by decide))
  have hm14:RdB wm wc.heap.size A14 13 hd:=by rw [← hwm0];exact Rd.alloc hr14 (Nat.le_refl _) _
  have HM:=Lib.hid (show RdB wm w2.heap.size A2 n2 zl by rw [← hwm0];exact Rd.alloc HD.out hzc _)
  have HBM:=Lib.hid (show Below bk w wm by rw [← hwm0];exact HBC.out.alloc hbc _)
  have HL1:=Lib.hid (lay2_any wc.heap.size wc.heap.size 13 c14 wc.heap.size 8 8 A14 [137,80,78,71,13,10,26,10] hd [73,72,68,82] ⟨#[73,72,68,82]⟩ wm rfl rfl hrm (Nat.le_refl _) hm14 (Nat.le_refl _) (by omega) (by omega))
  generalize hd1:ckL [137,80,78,71,13,10,26,10] [73,72,68,82] hd=D1 at *
  have HL2:=Lib.hid (fun w10 g c (ho:RowM w10 g 33 c D1) (hg:wc.heap.size≤g) (hr:RdB w10 w2.heap.size A2 n2 zl)=>lay2_any wc.heap.size w2.heap.size n2 c2 g 33 c A2 D1 zl [73,68,65,84] ⟨#[73,68,65,84]⟩ w10 rfl rfl ho hg hr hzc (by omega) (by omega))
  generalize hd2:ckL D1 [73,68,65,84] zl=D2 at *
  obtain ⟨n11,hn11⟩:∃ k,33+4+(4+n2)+4=k:=⟨_,rfl⟩
  rw [hn11] at HL2
  have HL3:=Lib.hid (fun w11 g c (ho:RowM w11 g n11 c D2) (hg:wc.heap.size≤g)=>lay2_any wc.heap.size wc.heap.size 0 0 g n11 c none D2 [] [73,69,78,68] ⟨#[73,69,78,68]⟩ w11 rfl rfl ho hg rdB_nil0 (Nat.le_refl _) (by omega) (by omega))
  obtain ⟨n12,hn12⟩:∃ k,n11+4+(4+0)+4=k:=⟨_,rfl⟩
  rw [hn12] at HL3
  have HD1:=Lib.hid hd1
  have HD2':=Lib.hid hd2
  clear hd1 hd2 hn2 hr14 hrm hm14
  go_wp2_with (first
   | (go_at_call 85;(with_reducible refine HL1.out.mono ?_);go_must (rintro e w10 ⟨g10,c10,rfl,ho10,hg10,hb10⟩;have HL22:=Lib.hid (HL2.out w10 g10 c10 ho10 hg10 (RdB.blw HM.out (hb10.mono hzc)));have HB10:=Lib.hid (HBM.out.trans (hb10.mono hbc));clear ho10 hb10))
   | (go_at_call 85;(with_reducible refine HL22.out.mono ?_);go_must (rintro e w11 ⟨g11,c11,rfl,ho11,hg11,hb11⟩;have HL33:=Lib.hid (HL3.out w11 g11 c11 ho11 hg11);have HB11:=Lib.hid (HB10.out.trans (hb11.mono hbc));clear ho11 hb11))
   | (go_at_call 85;(with_reducible refine HL33.out.mono ?_);go_must (rintro e w12 ⟨g12,c12,rfl,ho12,hg12,hb12⟩;have HO12:=Lib.hid ho12;have HB12:=Lib.hid (HB11.out.trans (hb12.mono hbc));clear ho12 hb12)))
  go_ret2
  refine ⟨g12,n12,c12,_,rfl,HO12.out,⟨zl,HZ2.out,?_⟩,HB12.out⟩
  rw [HHD.out]
  unfold fileP
  rw [HD1.out,HD2'.out]
theorem file_any (W H C D B n c:Nat) (A:Option Addr) (rs:List UInt8) (L:UInt8) (w:World) (h:RdB w B A n rs) (hB:B≤w.heap.size) (hn:n≤40000) (hcap:n≤c) (hW:W≤256) (hH:H≤256) (hC:1≤C∧C≤4) (hD:D=8∨D=16) :
  Calls Tryz.prog 43 #[.agg #[.int .i64 (W:Int),.int .i64 (H:Int),.int .i64 (C:Int),.int .i64 (D:Int)],.int .u8 (L.toNat:Int),.slice A n c] w fun e w'=>∃ g9 n9 c9 l,e=.returned (.tuple #[.slice (some ⟨g9,0,none⟩) n9 c9,.int .i64 0])∧RowM w' g9 n9 c9 l∧FileI (hdrL W H C D L) rs l∧Below w.heap.size w w':=by
 rcases hD with rfl | rfl
 ·exact file_8 W H C B n c A rs L w h hB hn hcap hW hH hC
 ·exact file_16 W H C B n c A rs L w h hB hn hcap hW hH hC
theorem file0_any (W H C D B n c:Nat) (A:Option Addr) (rs:List UInt8) (w:World) (h:RdB w B A n rs) (hB:B≤w.heap.size) (hn:n≤40000) (hcap:n≤c) (hW:W≤256) (hH:H≤256) (hC:1≤C∧C≤4) (hD:D=8∨D=16) :
  Calls Tryz.prog 43 #[.agg #[.int .i64 (W:Int),.int .i64 (H:Int),.int .i64 (C:Int),.int .i64 (D:Int)],.int .u8 0,.slice A n c] w fun e w'=>∃ g9 n9 c9 l,e=.returned (.tuple #[.slice (some ⟨g9,0,none⟩) n9 c9,.int .i64 0])∧RowM w' g9 n9 c9 l∧FileI (hdrL W H C D 0) rs l∧Below w.heap.size w w' :=
 file_any W H C D B n c A rs 0 w h hB hn hcap hW hH hC hD
theorem file1_any (W H C D B n c:Nat) (A:Option Addr) (rs:List UInt8) (w:World) (h:RdB w B A n rs) (hB:B≤w.heap.size) (hn:n≤40000) (hcap:n≤c) (hW:W≤256) (hH:H≤256) (hC:1≤C∧C≤4) (hD:D=8∨D=16) :
  Calls Tryz.prog 43 #[.agg #[.int .i64 (W:Int),.int .i64 (H:Int),.int .i64 (C:Int),.int .i64 (D:Int)],.int .u8 1,.slice A n c] w fun e w'=>∃ g9 n9 c9 l,e=.returned (.tuple #[.slice (some ⟨g9,0,none⟩) n9 c9,.int .i64 0])∧RowM w' g9 n9 c9 l∧FileI (hdrL W H C D 1) rs l∧Below w.heap.size w w' :=
 file_any W H C D B n c A rs 1 w h hB hn hcap hW hH hC hD
end Go.Proofs.YteoolehdomjkkaaGreat

