/- XPc9 -/
import Derived.Test.YtebbdifhiihfkaaGreatDoorMh39
import Derived.Deep.RegionHeld3
import Derived.Laws.Externs
import Derived.Shelf.Bytes.SlIndexAt
namespace Go.Proofs.YtebbdifhiihfkaaGreatDoor
set_option linter.all false
open Go.RowKit
theorem index_chV (c:UInt8):Lib.indexByte [0,4,2,6] c=(chV c:Int) - 1:=by
 unfold chV
 by_cases h0:c=0
 ·subst h0;rfl
 ·rw [if_neg h0]
  by_cases h4:c=4
  ·subst h4;rfl
  ·rw [if_neg h4]
   by_cases h2:c=2
   ·subst h2;rfl
   ·rw [if_neg h2]
    by_cases h6:c=6
    ·subst h6;rfl
    ·rw [if_neg h6]
     have e0:((0:UInt8) == c)=false:=beq_eq_false_iff_ne.2 (fun e=>h0 e.symm)
     have e4:((4:UInt8) == c)=false:=beq_eq_false_iff_ne.2 (fun e=>h4 e.symm)
     have e2:((2:UInt8) == c)=false:=beq_eq_false_iff_ne.2 (fun e=>h2 e.symm)
     have e6:((6:UInt8) == c)=false:=beq_eq_false_iff_ne.2 (fun e=>h6 e.symm)
     simp only [Lib.indexByte,e0,e4,e2,e6]
     rfl
set_option maxRecDepth 100000 in
theorem indexByte4_any (B g:Nat) (c:UInt8) (w:World) (h:RdB w B (some ⟨g,0,none⟩) 4 [0,4,2,6]):Calls Tryz.prog 80 #[.slice (some ⟨g,0,none⟩) 4 4,.int .u8 (c.toNat:Int)] w fun e w'=>e=.returned (.int .i64 ((chV c:Int) - 1))∧w=w':=by
 obtain ⟨b,o,e,-,hc⟩:=h.at_ (by decide)
 injection e with e
 injection e with e1 e2
 subst e1 e2
 have hx:=Lib.run_indexByteAt (P:=Tryz.prog) w ⟨g,0,none⟩ 4 4 [0,4,2,6] rfl (fun i hi=>by
  have h1:=hc i hi
  rw [add_none,h1]
  rcases (show i=0∨i=1∨i=2∨i=3 by omega) with rfl | rfl | rfl | rfl <;> rfl) (c.toNat:Int)
 have hv:Lib.indexByte (Lib.bytesOf [0,4,2,6]) ((c.toNat:Int)).toNat.toUInt8=(chV c:Int) - 1:=by
  have h1:((c.toNat:Int)).toNat.toUInt8=c:=by rw [Int.toNat_natCast];exact UInt8.ofNat_toNat
  rw [h1]
  exact index_chV c
 rw [hv] at hx
 clear hc hv
 go_enter Tryz.func80,Tryz.ntmps80
 go_wp2
 rw [run_callFunc_extern Tryz.func98 (by kernel_rfl) (by kernel_rfl) (by kernel_rfl) (e:=Extern.BytealgIndexByte.indexByte) (by kernel_rfl),hx]
 simp only [Result.andThen]
 rw [Oper.upon_value]
 go_wp2
 go_ret
 exact ⟨rfl,rfl⟩
theorem chV_le (c:UInt8):chV c≤4:=by
 unfold chV
 split
 ·omega
 ·split
  ·omega
  ·split
   ·omega
   ·split <;> omega
set_option maxRecDepth 100000 in
theorem channels_any (c:UInt8) (w:World):Calls Tryz.prog 54 #[.int .u8 (c.toNat:Int)] w fun e w'=>e=.returned (.int .i64 (chV c:Int))∧Below w.heap.size w w':=by
 have HI:=Lib.hid (indexByte4_any (w.heap.size+1) w.heap.size c (w.alloc (.cells #[.int .u8 0,.int .u8 4,.int .u8 2,.int .u8 6] 5)) (rd_lit w 5 (0,0) [0,4,2,6]))
 have hle:=chV_le c
 generalize chV c=v at *
 have hw:IntKind.i64.wrap ((v:Int) - 1+1)=(v:Int):=by rw [show (v:Int) - 1+1=(v:Int) by omega];exact wrap_i64_lt _ (by omega)
 have hw2:(v:Int) - 1+1=(v:Int):=by omega
 have hw3:IntKind.i64.wrap (v:Int)=(v:Int):=wrap_i64_lt _ (by omega)
 go_enter Tryz.func54,Tryz.ntmps54
 go_wp2_with (go_at_call 80;(with_reducible refine HI.out.mono ?_);go_must (rintro e w1 ⟨rfl,rfl⟩))
 go_ret
 exact ⟨rfl,(Below.refl w.heap.size w).alloc (Nat.le_refl _) _⟩
def ShP (W H C D:Nat) (E:Int) (L:Bool) (b:Nat) (w:World) (e:Ending) (w':World):Prop :=
 ∃ la,e=.returned (.tuple #[.agg #[.int .i64 (W:Int),.int .i64 (H:Int),.int .i64 (C:Int),.int .i64 (D:Int)],.bool la,.int .i64 E])∧(E=0→la=L)∧Below b w w'
def ShPost (hd:List UInt8) (w:World) (e:Ending) (w':World):Prop:=ShP (hdW hd) (hdH hd) (hdC hd) (hdD hd) (hdErr hd) (hdLa hd) w.heap.size w e w'
set_option maxRecDepth 100000 in
set_option maxHeartbeats 6400000 in
theorem pshape_any (B c:Nat) (A:Option Addr) (hd:List UInt8) (w:World) (h:RdB w B A 13 hd) (hB:B≤w.heap.size) (hc:13≤c) :
  Calls Tryz.prog 27 #[.slice A 13 c] w fun e w'=>ShPost hd w e w':=by
 have hl:=h.len
 have eW:nxL hd 0=hdW hd:=rfl
 have eH:nxL hd 4=hdH hd:=rfl
 have hWl:hdW hd < 4294967296:=beV4_lt _
 have hHl:hdH hd < 4294967296:=beV4_lt _
 have HR1:=Lib.hid (fun w1 (h:RdB w1 B A 13 hd)=>readBig_any B 13 c A hd 0 4 w1 h hc (by omega))
 have HR2:=Lib.hid (fun w1 (h:RdB w1 B A 13 hd)=>readBig_any B 13 c A hd 4 4 w1 h hc (by omega))
 rw [show rdR beV hd 0 4=((hdW hd:Int),0) from rd4_ok (k:=0) (by omega)] at HR1
 rw [show rdR beV hd 4 4=((hdH hd:Int),0) from rd4_ok (k:=4) (by omega)] at HR2
 obtain ⟨b,o,rfl,hb,hcell⟩:=h.at_ (by decide)
 have x8:=hcell 8 (by omega)
 have x9:=hcell 9 (by omega)
 have x10:=hcell 10 (by omega)
 have x11:=hcell 11 (by omega)
 have x12:=hcell 12 (by omega)
 have g8:hd[8]=hd.getD 8 0:=by rw [List.getD_eq_getElem?_getD,List.getElem?_eq_getElem (by omega)];rfl
 have g9:hd[9]=hd.getD 9 0:=by rw [List.getD_eq_getElem?_getD,List.getElem?_eq_getElem (by omega)];rfl
 have g10:hd[10]=hd.getD 10 0:=by rw [List.getD_eq_getElem?_getD,List.getElem?_eq_getElem (by omega)];rfl
 have g11:hd[11]=hd.getD 11 0:=by rw [List.getD_eq_getElem?_getD,List.getElem?_eq_getElem (by omega)];rfl
 have g12:hd[12]=hd.getD 12 0:=by rw [List.getD_eq_getElem?_getD,List.getElem?_eq_getElem (by omega)];rfl
 rw [g8] at x8
 rw [g9] at x9
 rw [g10] at x10
 rw [g11] at x11
 rw [g12] at x12
 have HCH:=Lib.hid (fun w=>channels_any (hd.getD 9 0) w)
 have hDl:(hd.getD 8 0).toNat < 256:=(hd.getD 8 0).toNat_lt
 have hCl:hdC hd≤4:=chV_le _
 have eC:chV (hd.getD 9 0)=hdC hd:=rfl
 have eD:(hd.getD 8 0).toNat=hdD hd:=rfl
 rw [eC] at HCH
 rw [eD] at x8 hDl
 have HHB:Hid (HdBad hd ↔ ((hd.getD 10 0).toNat ≠ 0∨(hd.getD 11 0).toNat ≠ 0∨1 < (hd.getD 12 0).toNat∨hdC hd=0∨(hdD hd ≠ 8∧hdD hd ≠ 16)∨hdW hd=0∨hdH hd=0)):=(show _ ↔ _ by
  have key:∀ x:UInt8,x ≠ 0 ↔ x.toNat ≠ 0:=fun x=>⟨fun h e=>h (UInt8.toNat.inj e),fun h e=>h (by rw [e];rfl)⟩
  unfold HdBad
  rw [key,key])
 have HLA:Hid (hdLa hd=((hd.getD 12 0).toNat == 1)):=(show _=_ by
  unfold hdLa
  rw [Bool.eq_iff_iff,beq_iff_eq,beq_iff_eq]
  exact ⟨fun e=>by rw [e];rfl,fun e=>UInt8.toNat.inj e⟩)
 have HSH:Hid (hdSh hd=⟨(hdW hd:Int),(hdH hd:Int),(hdC hd:Int),(hdD hd:Int)⟩):=rfl
 have HMY:=Lib.hid (fun w=>mayS_any ⟨(hdW hd:Int),(hdH hd:Int),(hdC hd:Int),(hdD hd:Int)⟩ w)
 dsimp only [Sh.v] at HMY
 unfold ShPost
 obtain ⟨E,hE⟩:∃ E,hdErr hd=E:=⟨_,rfl⟩
 obtain ⟨L,hL⟩:∃ L,hdLa hd=L:=⟨_,rfl⟩
 have HE:Hid ((if HdBad hd then (4:Int) else if (hdSh hd).may=true then 0 else 10)=E):=hE
 rw [HSH.out] at HE
 rw [hE,hL]
 have HL:Hid (((hd.getD 12 0).toNat == 1)=L):=(show _=_ from HLA.out.symm.trans hL)
 have HRD:=Lib.hid h
 clear hE hL HLA HSH h hcell g8 g9 g10 g11 g12 hl eW eH eC eD
 generalize hdW hd=W at *
 generalize hdH hd=H at *
 generalize hdC hd=C at *
 generalize hdD hd=D at *
 generalize hd.getD 9 0=c9 at *
 generalize (hd.getD 10 0).toNat=y10 at *
 generalize (hd.getD 11 0).toNat=y11 at *
 generalize (hd.getD 12 0).toNat=y12 at *
 have hD2:IntKind.i64.wrap (D:Int)=(D:Int):=wrap_i64_lt _ (by omega)
 obtain ⟨w1,hw1⟩:∃ w1,w.alloc (.cells #[.int .i64 0,.int .i64 0,.int .i64 0,.int .i64 0] 37)=w1:=⟨_,rfl⟩
 obtain ⟨bk,hbk⟩:∃ b,w.heap.size=b:=⟨_,rfl⟩
 have HA1:Hid (Arr w1 bk [.int .i64 0,.int .i64 0,.int .i64 0,.int .i64 0]):=(show Arr _ _ _ by rw [← hw1,← hbk];exact Arr.new w [.int .i64 0,.int .i64 0,.int .i64 0,.int .i64 0] _)
 have HRD1:Hid (RdB w1 B (some ⟨b,o,none⟩) 13 hd):=(show RdB _ _ _ _ _ by rw [← hw1];exact Rd.alloc HRD.out hB _)
 have HB1:Hid (Below bk w w1):=(show Below _ _ _ by rw [← hw1,← hbk];exact (Below.refl w.heap.size w).alloc (Nat.le_refl _) _)
 have hz1:bk+1≤w1.heap.size:=by rw [← hw1,World.size_alloc,hbk];exact Nat.le_refl _
 have HQ1:=Lib.hid (HR1.out w1 HRD1.out)
 have HQ2:=Lib.hid (HR2.out w1 HRD1.out)
 have v8:=bsame HB1.out (show b < bk by omega) x8
 have v9:=bsame HB1.out (show b < bk by omega) x9
 have v10:=bsame HB1.out (show b < bk by omega) x10
 have v11:=bsame HB1.out (show b < bk by omega) x11
 have v12:=bsame HB1.out (show b < bk by omega) x12
 clear HR1 HR2 x8 x9 x10 x11 x12
 rw [hbk] at hB
 have hblt:b < w1.heap.size:=by omega
 go_enter Tryz.func27,Tryz.ntmps27
 simp only [hw1,hbk]
 go_upto_region 3 with (first
  | (go_at_call 18;(with_reducible refine HQ1.out.mono ?_);go_must (rintro e w2 ⟨rfl,rfl⟩))
  | (go_at_call 18;(with_reducible refine HQ2.out.mono ?_);go_must (rintro e w2 ⟨rfl,rfl⟩)))
 clear hw1 HQ1 HQ2
 go_cut [9] (fun v9' wx=>∃ g,v9'=.pointer (some ⟨g,0,none⟩)∧Arr wx g [.int .i64 (W:Int),.int .i64 (H:Int),.int .i64 (C:Int),.int .i64 (D:Int)]∧g ≠ bk∧Below w1.heap.size w1 wx)
 case first =>
  have vA8:(w1.alloc (.cells #[.int .i64 0,.int .i64 0,.int .i64 0,.int .i64 0] 37)).cell? ⟨b,o+8,none⟩=some (.int .u8 (D:Int)):=(World.cell?_alloc_lt w1 (.cells #[.int .i64 0,.int .i64 0,.int .i64 0,.int .i64 0] 37) ⟨b,o+8,none⟩ hblt).trans v8
  have hsA:(w1.alloc (.cells #[.int .i64 0,.int .i64 0,.int .i64 0,.int .i64 0] 37)).heap.size=w1.heap.size+1:=World.size_alloc _ _
  have hbn1:¬ b=w1.heap.size:=by omega
  have vA9:(w1.alloc (.cells #[.int .i64 0,.int .i64 0,.int .i64 0,.int .i64 0] 37)).cell? ⟨b,o+9,none⟩=some (.int .u8 (c9.toNat:Int)):=(World.cell?_alloc_lt w1 (.cells #[.int .i64 0,.int .i64 0,.int .i64 0,.int .i64 0] 37) ⟨b,o+9,none⟩ hblt).trans v9
  go_region_held3 (fun w'=>w'.cell? ⟨b,o+9,none⟩=some (.int .u8 (c9.toNat:Int))∧w'.cell? ⟨b,o+8,none⟩=some (.int .u8 (D:Int)))
   (first | go_keep | (with_reducible exact ⟨v9w,v8w⟩) | (with_reducible exact ⟨v9,v8⟩) | (with_reducible exact ⟨bsame HB9.out hblt v9,bsame HB9.out hblt v8⟩))
   (first | (go_at_call 54;(with_reducible refine (HCH.out _).mono ?_);go_must (rintro e w3 ⟨rfl,hb3⟩;(first
   | (have hb3':Below w1.heap.size w1 w3:=⟨hb3.os,hb3.tape,hb3.output,hb3.size,hb3.block⟩;have HB3:=Lib.hid hb3';have v8w:=bsame hb3' hblt v8;have v9w:=bsame hb3' hblt v9;have hz3:=hb3'.size;have hl3:b < w3.heap.size:=(by omega);have hn3:¬ b=w3.heap.size:=(by omega);have HS9:Hid (Arr (w3.alloc (.cells #[.int .i64 (W:Int),.int .i64 (H:Int),.int .i64 (C:Int),.int .i64 (D:Int)] 37)) w3.heap.size [.int .i64 (W:Int),.int .i64 (H:Int),.int .i64 (C:Int),.int .i64 (D:Int)]):=(show Arr _ _ _ from Arr.new w3 [.int .i64 (W:Int),.int .i64 (H:Int),.int .i64 (C:Int),.int .i64 (D:Int)] _);have HB9:=Lib.hid (HB3.out.alloc hz3 (.cells #[.int .i64 (W:Int),.int .i64 (H:Int),.int .i64 (C:Int),.int .i64 (D:Int)] 37));have hg9:w3.heap.size ≠ bk:=(by omega);clear hb3 hb3')
   | (have hb3':Below (w1.alloc (.cells #[.int .i64 0,.int .i64 0,.int .i64 0,.int .i64 0] 37)).heap.size (w1.alloc (.cells #[.int .i64 0,.int .i64 0,.int .i64 0,.int .i64 0] 37)) w3:=⟨hb3.os,hb3.tape,hb3.output,hb3.size,hb3.block⟩;have HB3:=Lib.hid hb3';have v8w:=bsame hb3' (by omega) vA8;have v9w:=bsame hb3' (by omega) vA9;have HA9:=Lib.hid ((Arr.new w1 [.int .i64 0,.int .i64 0,.int .i64 0,.int .i64 0] 37).later hb3');have a90:=HA9.out.cell (k:=0) rfl;have a91:=HA9.out.cell (k:=1) rfl;have a92:=HA9.out.cell (k:=2) rfl;have a93:=HA9.out.cell (k:=3) rfl;have z90:=HA9.out.frozen 0;have z91:=HA9.out.frozen 1;have z92:=HA9.out.frozen 2;have z93:=HA9.out.frozen 3;have hz3:=hb3'.size;have hl3:b < w3.heap.size:=(by omega);have hn3:¬ b=w3.heap.size:=(by omega);have HS9:Hid (Arr ((((w3.setCell ⟨w1.heap.size,0,none⟩ (.int .i64 (W:Int))).setCell ⟨w1.heap.size,1,none⟩ (.int .i64 (H:Int))).setCell ⟨w1.heap.size,2,none⟩ (.int .i64 (C:Int))).setCell ⟨w1.heap.size,3,none⟩ (.int .i64 (D:Int))) w1.heap.size [.int .i64 (W:Int),.int .i64 (H:Int),.int .i64 (C:Int),.int .i64 (D:Int)]):=(show Arr _ _ _ from ((((HA9.out.set 0 (.int .i64 (W:Int))).set 1 (.int .i64 (H:Int))).set 2 (.int .i64 (C:Int))).set 3 (.int .i64 (D:Int))));have HB9:Hid (Below w1.heap.size w1 ((((w3.setCell ⟨w1.heap.size,0,none⟩ (.int .i64 (W:Int))).setCell ⟨w1.heap.size,1,none⟩ (.int .i64 (H:Int))).setCell ⟨w1.heap.size,2,none⟩ (.int .i64 (C:Int))).setCell ⟨w1.heap.size,3,none⟩ (.int .i64 (D:Int)))):=(show Below _ _ _ from ((((((Below.refl w1.heap.size w1).alloc (Nat.le_refl _) (.cells #[.int .i64 0,.int .i64 0,.int .i64 0,.int .i64 0] 37)).trans (HB3.out.mono (by omega))).setCell (p:=⟨w1.heap.size,0,none⟩) (Nat.le_refl _) _).setCell (p:=⟨w1.heap.size,1,none⟩) (Nat.le_refl _) _).setCell (p:=⟨w1.heap.size,2,none⟩) (Nat.le_refl _) _).setCell (p:=⟨w1.heap.size,3,none⟩) (Nat.le_refl _) _);have hg9:w1.heap.size ≠ bk:=(by omega);clear hb3 hb3')))))
  all_goals
   go_wp2_with fail
   go_meet
   case rel =>
    exact ⟨_,rfl,HS9.out,hg9,HB9.out⟩
 case rest =>
 obtain ⟨g,rfl,HG,hgb,HBc⟩:=hcut
 have HGA:=Lib.hid HG
 have HBKA:=Lib.hid (HA1.out.later HBc)
 have HBC:=Lib.hid (HB1.out.trans (HBc.mono (by omega)))
 have u10:=bsame HBc (show b < w1.heap.size by omega) v10
 have u11:=bsame HBc (show b < w1.heap.size by omega) v11
 have u12:=bsame HBc (show b < w1.heap.size by omega) v12
 have s0:=HGA.out.cell (k:=0) rfl
 have s1:=HGA.out.cell (k:=1) rfl
 have s2:=HGA.out.cell (k:=2) rfl
 have s3:=HGA.out.cell (k:=3) rfl
 have b0:=HBKA.out.cell (k:=0) rfl
 have b1:=HBKA.out.cell (k:=1) rfl
 have b2:=HBKA.out.cell (k:=2) rfl
 have b3:=HBKA.out.cell (k:=3) rfl
 have z0:=HBKA.out.frozen 0
 have z1:=HBKA.out.frozen 1
 have z2:=HBKA.out.frozen 2
 have z3:=HBKA.out.frozen 3
 have hgb2:¬ g=bk:=hgb
 have hgb3:¬ bk=g:=fun e=>hgb e.symm
 have e12:((y12:Int) == 1)=L:=by
  rw [← HL.out,Bool.eq_iff_iff,beq_iff_eq,beq_iff_eq]
  omega
 have hzc:w1.heap.size≤wc.heap.size:=HBc.size
 clear HG HBc v8 v9 v10 v11 v12 HB1 HA1 HRD1 HRD HCH
 by_cases t10:¬ y10=0
 ·have t10i:((y10:Int) != 0)=true:=by rw [bne_iff_ne];omega
  have hE4:E=4:=by rw [← HE.out,if_pos (HHB.out.2 (by omega))]
  have HEE:=Lib.hid hE4
  clear HE HHB hE4 t10
  go_wp2_with fail
  refine bodyPost_ret (v:=.tuple #[.agg #[.int .i64 (W:Int),.int .i64 (H:Int),.int .i64 (C:Int),.int .i64 (D:Int)],.bool false,.int .i64 4]) ?_ rfl ?_
  ·unfold results
   go_simp
  ·unfold ShP
   rw [HEE.out]
   exact ⟨false,rfl,fun h=>absurd h (by decide),(((HBC.out.setCell (p:=⟨bk,0,none⟩) (Nat.le_refl _) _).setCell (p:=⟨bk,1,none⟩) (Nat.le_refl _) _).setCell (p:=⟨bk,2,none⟩) (Nat.le_refl _) _).setCell (p:=⟨bk,3,none⟩) (Nat.le_refl _) _⟩
 ·have t10i:((y10:Int) != 0)=false:=by rw [bne_eq_false_iff_eq];omega
  by_cases t11:¬ y11=0
  ·have t11i:((y11:Int) != 0)=true:=by rw [bne_iff_ne];omega
   have hE4:E=4:=by rw [← HE.out,if_pos (HHB.out.2 (by omega))]
   have HEE:=Lib.hid hE4
   clear HE HHB hE4 t11
   go_wp2_with fail
   refine bodyPost_ret (v:=.tuple #[.agg #[.int .i64 (W:Int),.int .i64 (H:Int),.int .i64 (C:Int),.int .i64 (D:Int)],.bool false,.int .i64 4]) ?_ rfl ?_
   ·unfold results
    go_simp
   ·unfold ShP
    rw [HEE.out]
    exact ⟨false,rfl,fun h=>absurd h (by decide),(((HBC.out.setCell (p:=⟨bk,0,none⟩) (Nat.le_refl _) _).setCell (p:=⟨bk,1,none⟩) (Nat.le_refl _) _).setCell (p:=⟨bk,2,none⟩) (Nat.le_refl _) _).setCell (p:=⟨bk,3,none⟩) (Nat.le_refl _) _⟩
  ·have t11i:((y11:Int) != 0)=false:=by rw [bne_eq_false_iff_eq];omega
   by_cases t12:1 < y12
   ·have t12i:(1:Int) < (y12:Int):=by omega
    have hE4:E=4:=by rw [← HE.out,if_pos (HHB.out.2 (by omega))]
    have HEE:=Lib.hid hE4
    clear HE HHB hE4 t12
    go_wp2_with fail
    refine bodyPost_ret (v:=.tuple #[.agg #[.int .i64 (W:Int),.int .i64 (H:Int),.int .i64 (C:Int),.int .i64 (D:Int)],.bool false,.int .i64 4]) ?_ rfl ?_
    ·unfold results
     go_simp
    ·unfold ShP
     rw [HEE.out]
     exact ⟨false,rfl,fun h=>absurd h (by decide),(((HBC.out.setCell (p:=⟨bk,0,none⟩) (Nat.le_refl _) _).setCell (p:=⟨bk,1,none⟩) (Nat.le_refl _) _).setCell (p:=⟨bk,2,none⟩) (Nat.le_refl _) _).setCell (p:=⟨bk,3,none⟩) (Nat.le_refl _) _⟩
   ·have t12i:¬ (1:Int) < (y12:Int):=by omega
    by_cases tC:C=0
    ·have tCi:((C:Int) == 0)=true:=by rw [beq_iff_eq];omega
     have hE4:E=4:=by rw [← HE.out,if_pos (HHB.out.2 (by omega))]
     have HEE:=Lib.hid hE4
     clear HE HHB hE4 tC
     go_wp2_with fail
     refine bodyPost_ret (v:=.tuple #[.agg #[.int .i64 (W:Int),.int .i64 (H:Int),.int .i64 (C:Int),.int .i64 (D:Int)],.bool false,.int .i64 4]) ?_ rfl ?_
     ·unfold results
      go_simp
     ·unfold ShP
      rw [HEE.out]
      exact ⟨false,rfl,fun h=>absurd h (by decide),(((HBC.out.setCell (p:=⟨bk,0,none⟩) (Nat.le_refl _) _).setCell (p:=⟨bk,1,none⟩) (Nat.le_refl _) _).setCell (p:=⟨bk,2,none⟩) (Nat.le_refl _) _).setCell (p:=⟨bk,3,none⟩) (Nat.le_refl _) _⟩
    ·have tCi:((C:Int) == 0)=false:=by rw [beq_eq_false_iff_ne];omega
     by_cases tD:¬ D=8∧¬ D=16
     ·have d8:((D:Int) != 8)=true:=by rw [bne_iff_ne];omega
      have d16:((D:Int) != 16)=true:=by rw [bne_iff_ne];omega
      have hE4:E=4:=by rw [← HE.out,if_pos (HHB.out.2 (by omega))]
      have HEE:=Lib.hid hE4
      clear HE HHB hE4 tD
      go_wp2_with fail
      refine bodyPost_ret (v:=.tuple #[.agg #[.int .i64 (W:Int),.int .i64 (H:Int),.int .i64 (C:Int),.int .i64 (D:Int)],.bool false,.int .i64 4]) ?_ rfl ?_
      ·unfold results
       go_simp
      ·unfold ShP
       rw [HEE.out]
       exact ⟨false,rfl,fun h=>absurd h (by decide),(((HBC.out.setCell (p:=⟨bk,0,none⟩) (Nat.le_refl _) _).setCell (p:=⟨bk,1,none⟩) (Nat.le_refl _) _).setCell (p:=⟨bk,2,none⟩) (Nat.le_refl _) _).setCell (p:=⟨bk,3,none⟩) (Nat.le_refl _) _⟩
     ·have hDD:D=8∨D=16:=by omega
      clear tD
      rcases hDD with hDe | hDe
      ·have d8:((D:Int) != 8)=false:=by rw [bne_eq_false_iff_eq];omega
       have HDE:=Lib.hid hDe
       clear hDe
       by_cases tW:W=0
       ·have tWi:((W:Int) == 0)=true:=by rw [beq_iff_eq];omega
        have hE4:E=4:=by rw [← HE.out,if_pos (HHB.out.2 (by omega))]
        have HEE:=Lib.hid hE4
        clear HE HHB hE4 tW
        go_wp2_with fail
        refine bodyPost_ret (v:=.tuple #[.agg #[.int .i64 (W:Int),.int .i64 (H:Int),.int .i64 (C:Int),.int .i64 (D:Int)],.bool false,.int .i64 4]) ?_ rfl ?_
        ·unfold results
         go_simp
        ·unfold ShP
         rw [HEE.out]
         exact ⟨false,rfl,fun h=>absurd h (by decide),(((HBC.out.setCell (p:=⟨bk,0,none⟩) (Nat.le_refl _) _).setCell (p:=⟨bk,1,none⟩) (Nat.le_refl _) _).setCell (p:=⟨bk,2,none⟩) (Nat.le_refl _) _).setCell (p:=⟨bk,3,none⟩) (Nat.le_refl _) _⟩
       ·have tWi:((W:Int) == 0)=false:=by rw [beq_eq_false_iff_ne];omega
        by_cases tH:H=0
        ·have tHi:((H:Int) == 0)=true:=by rw [beq_iff_eq];omega
         have hE4:E=4:=by rw [← HE.out,if_pos (HHB.out.2 (by omega))]
         have HEE:=Lib.hid hE4
         clear HE HHB hE4 tH
         go_wp2_with fail
         refine bodyPost_ret (v:=.tuple #[.agg #[.int .i64 (W:Int),.int .i64 (H:Int),.int .i64 (C:Int),.int .i64 (D:Int)],.bool false,.int .i64 4]) ?_ rfl ?_
         ·unfold results
          go_simp
         ·unfold ShP
          rw [HEE.out]
          exact ⟨false,rfl,fun h=>absurd h (by decide),(((HBC.out.setCell (p:=⟨bk,0,none⟩) (Nat.le_refl _) _).setCell (p:=⟨bk,1,none⟩) (Nat.le_refl _) _).setCell (p:=⟨bk,2,none⟩) (Nat.le_refl _) _).setCell (p:=⟨bk,3,none⟩) (Nat.le_refl _) _⟩
        ·have tHi:((H:Int) == 0)=false:=by rw [beq_eq_false_iff_ne];omega
         have hnb:¬ HdBad hd:=fun h=>by have h1:=HHB.out.1 h;have h2:=HDE.out;omega
         have hEm:=HE.out
         rw [if_neg hnb] at hEm
         obtain ⟨mv,hmv⟩:∃ mv,Sh.may ⟨(W:Int),(H:Int),(C:Int),((D:Nat):Int)⟩=mv:=⟨_,rfl⟩
         rw [hmv] at hEm HMY
         clear hmv hnb HE HHB
         cases mv with
         | true =>
          rw [if_pos rfl] at hEm
          have HEE:=Lib.hid hEm.symm
          clear hEm
          go_upto_region 8 with (first
           | (go_at_call 41;(with_reducible refine (HMY.out _).mono ?_);go_must (rintro e w5 ⟨rfl,hb5⟩;have HGA5:=Lib.hid (HGA.out.later hb5);have HBK5:=Lib.hid (HBKA.out.later hb5);have HB5:=Lib.hid (HBC.out.trans (hb5.mono (by omega)));have r0:=HGA5.out.cell (k:=0) rfl;have r1:=HGA5.out.cell (k:=1) rfl;have r2:=HGA5.out.cell (k:=2) rfl;have r3:=HGA5.out.cell (k:=3) rfl;have a0:=HBK5.out.cell (k:=0) rfl;have a1:=HBK5.out.cell (k:=1) rfl;have a2:=HBK5.out.cell (k:=2) rfl;have a3:=HBK5.out.cell (k:=3) rfl;have f0:=HBK5.out.frozen 0;have f1:=HBK5.out.frozen 1;have f2:=HBK5.out.frozen 2;have f3:=HBK5.out.frozen 3;have m12:=bsame hb5 (show b < wc.heap.size by omega) u12;clear hb5)))
          go_region
          all_goals
           go_wp2_with fail
           refine bodyPost_ret (v:=.tuple #[.agg #[.int .i64 (W:Int),.int .i64 (H:Int),.int .i64 (C:Int),.int .i64 (D:Int)],.bool L,.int .i64 0]) ?_ rfl ?_
           ·unfold results
            go_simp
           ·unfold ShP
            rw [HEE.out]
            exact ⟨L,rfl,fun _=>rfl,Below.drew ((((HB5.out.setCell (p:=⟨bk,0,none⟩) (Nat.le_refl _) _).setCell (p:=⟨bk,1,none⟩) (Nat.le_refl _) _).setCell (p:=⟨bk,2,none⟩) (Nat.le_refl _) _).setCell (p:=⟨bk,3,none⟩) (Nat.le_refl _) _)⟩
         | false =>
          rw [if_neg (by decide)] at hEm
          have HEE:=Lib.hid hEm.symm
          clear hEm
          go_wp2_with (first
           | (go_at_call 41;(with_reducible refine (HMY.out _).mono ?_);go_must (rintro e w5 ⟨rfl,hb5⟩;have HGA5:=Lib.hid (HGA.out.later hb5);have HBK5:=Lib.hid (HBKA.out.later hb5);have HB5:=Lib.hid (HBC.out.trans (hb5.mono (by omega)));have r0:=HGA5.out.cell (k:=0) rfl;have r1:=HGA5.out.cell (k:=1) rfl;have r2:=HGA5.out.cell (k:=2) rfl;have r3:=HGA5.out.cell (k:=3) rfl;have a0:=HBK5.out.cell (k:=0) rfl;have a1:=HBK5.out.cell (k:=1) rfl;have a2:=HBK5.out.cell (k:=2) rfl;have a3:=HBK5.out.cell (k:=3) rfl;have f0:=HBK5.out.frozen 0;have f1:=HBK5.out.frozen 1;have f2:=HBK5.out.frozen 2;have f3:=HBK5.out.frozen 3;have m12:=bsame hb5 (show b < wc.heap.size by omega) u12;clear hb5)))
          refine bodyPost_ret (v:=.tuple #[.agg #[.int .i64 (W:Int),.int .i64 (H:Int),.int .i64 (C:Int),.int .i64 (D:Int)],.bool false,.int .i64 10]) ?_ rfl ?_
          ·unfold results
           go_simp
          ·unfold ShP
           rw [HEE.out]
           exact ⟨false,rfl,fun h=>absurd h (by decide),(((HB5.out.setCell (p:=⟨bk,0,none⟩) (Nat.le_refl _) _).setCell (p:=⟨bk,1,none⟩) (Nat.le_refl _) _).setCell (p:=⟨bk,2,none⟩) (Nat.le_refl _) _).setCell (p:=⟨bk,3,none⟩) (Nat.le_refl _) _⟩
      ·have d8:((D:Int) != 8)=true:=by rw [bne_iff_ne];omega
       have d16:((D:Int) != 16)=false:=by rw [bne_eq_false_iff_eq];omega
       have HDE:=Lib.hid hDe
       clear hDe
       by_cases tW:W=0
       ·have tWi:((W:Int) == 0)=true:=by rw [beq_iff_eq];omega
        have hE4:E=4:=by rw [← HE.out,if_pos (HHB.out.2 (by omega))]
        have HEE:=Lib.hid hE4
        clear HE HHB hE4 tW
        go_wp2_with fail
        refine bodyPost_ret (v:=.tuple #[.agg #[.int .i64 (W:Int),.int .i64 (H:Int),.int .i64 (C:Int),.int .i64 (D:Int)],.bool false,.int .i64 4]) ?_ rfl ?_
        ·unfold results
         go_simp
        ·unfold ShP
         rw [HEE.out]
         exact ⟨false,rfl,fun h=>absurd h (by decide),(((HBC.out.setCell (p:=⟨bk,0,none⟩) (Nat.le_refl _) _).setCell (p:=⟨bk,1,none⟩) (Nat.le_refl _) _).setCell (p:=⟨bk,2,none⟩) (Nat.le_refl _) _).setCell (p:=⟨bk,3,none⟩) (Nat.le_refl _) _⟩
       ·have tWi:((W:Int) == 0)=false:=by rw [beq_eq_false_iff_ne];omega
        by_cases tH:H=0
        ·have tHi:((H:Int) == 0)=true:=by rw [beq_iff_eq];omega
         have hE4:E=4:=by rw [← HE.out,if_pos (HHB.out.2 (by omega))]
         have HEE:=Lib.hid hE4
         clear HE HHB hE4 tH
         go_wp2_with fail
         refine bodyPost_ret (v:=.tuple #[.agg #[.int .i64 (W:Int),.int .i64 (H:Int),.int .i64 (C:Int),.int .i64 (D:Int)],.bool false,.int .i64 4]) ?_ rfl ?_
         ·unfold results
          go_simp
         ·unfold ShP
          rw [HEE.out]
          exact ⟨false,rfl,fun h=>absurd h (by decide),(((HBC.out.setCell (p:=⟨bk,0,none⟩) (Nat.le_refl _) _).setCell (p:=⟨bk,1,none⟩) (Nat.le_refl _) _).setCell (p:=⟨bk,2,none⟩) (Nat.le_refl _) _).setCell (p:=⟨bk,3,none⟩) (Nat.le_refl _) _⟩
        ·have tHi:((H:Int) == 0)=false:=by rw [beq_eq_false_iff_ne];omega
         have hnb:¬ HdBad hd:=fun h=>by have h1:=HHB.out.1 h;have h2:=HDE.out;omega
         have hEm:=HE.out
         rw [if_neg hnb] at hEm
         obtain ⟨mv,hmv⟩:∃ mv,Sh.may ⟨(W:Int),(H:Int),(C:Int),((D:Nat):Int)⟩=mv:=⟨_,rfl⟩
         rw [hmv] at hEm HMY
         clear hmv hnb HE HHB
         cases mv with
         | true =>
          rw [if_pos rfl] at hEm
          have HEE:=Lib.hid hEm.symm
          clear hEm
          go_upto_region 8 with (first
           | (go_at_call 41;(with_reducible refine (HMY.out _).mono ?_);go_must (rintro e w5 ⟨rfl,hb5⟩;have HGA5:=Lib.hid (HGA.out.later hb5);have HBK5:=Lib.hid (HBKA.out.later hb5);have HB5:=Lib.hid (HBC.out.trans (hb5.mono (by omega)));have r0:=HGA5.out.cell (k:=0) rfl;have r1:=HGA5.out.cell (k:=1) rfl;have r2:=HGA5.out.cell (k:=2) rfl;have r3:=HGA5.out.cell (k:=3) rfl;have a0:=HBK5.out.cell (k:=0) rfl;have a1:=HBK5.out.cell (k:=1) rfl;have a2:=HBK5.out.cell (k:=2) rfl;have a3:=HBK5.out.cell (k:=3) rfl;have f0:=HBK5.out.frozen 0;have f1:=HBK5.out.frozen 1;have f2:=HBK5.out.frozen 2;have f3:=HBK5.out.frozen 3;have m12:=bsame hb5 (show b < wc.heap.size by omega) u12;clear hb5)))
          go_region
          all_goals
           go_wp2_with fail
           refine bodyPost_ret (v:=.tuple #[.agg #[.int .i64 (W:Int),.int .i64 (H:Int),.int .i64 (C:Int),.int .i64 (D:Int)],.bool L,.int .i64 0]) ?_ rfl ?_
           ·unfold results
            go_simp
           ·unfold ShP
            rw [HEE.out]
            exact ⟨L,rfl,fun _=>rfl,Below.drew ((((HB5.out.setCell (p:=⟨bk,0,none⟩) (Nat.le_refl _) _).setCell (p:=⟨bk,1,none⟩) (Nat.le_refl _) _).setCell (p:=⟨bk,2,none⟩) (Nat.le_refl _) _).setCell (p:=⟨bk,3,none⟩) (Nat.le_refl _) _)⟩
         | false =>
          rw [if_neg (by decide)] at hEm
          have HEE:=Lib.hid hEm.symm
          clear hEm
          go_wp2_with (first
           | (go_at_call 41;(with_reducible refine (HMY.out _).mono ?_);go_must (rintro e w5 ⟨rfl,hb5⟩;have HGA5:=Lib.hid (HGA.out.later hb5);have HBK5:=Lib.hid (HBKA.out.later hb5);have HB5:=Lib.hid (HBC.out.trans (hb5.mono (by omega)));have r0:=HGA5.out.cell (k:=0) rfl;have r1:=HGA5.out.cell (k:=1) rfl;have r2:=HGA5.out.cell (k:=2) rfl;have r3:=HGA5.out.cell (k:=3) rfl;have a0:=HBK5.out.cell (k:=0) rfl;have a1:=HBK5.out.cell (k:=1) rfl;have a2:=HBK5.out.cell (k:=2) rfl;have a3:=HBK5.out.cell (k:=3) rfl;have f0:=HBK5.out.frozen 0;have f1:=HBK5.out.frozen 1;have f2:=HBK5.out.frozen 2;have f3:=HBK5.out.frozen 3;have m12:=bsame hb5 (show b < wc.heap.size by omega) u12;clear hb5)))
          refine bodyPost_ret (v:=.tuple #[.agg #[.int .i64 (W:Int),.int .i64 (H:Int),.int .i64 (C:Int),.int .i64 (D:Int)],.bool false,.int .i64 10]) ?_ rfl ?_
          ·unfold results
           go_simp
          ·unfold ShP
           rw [HEE.out]
           exact ⟨false,rfl,fun h=>absurd h (by decide),(((HB5.out.setCell (p:=⟨bk,0,none⟩) (Nat.le_refl _) _).setCell (p:=⟨bk,1,none⟩) (Nat.le_refl _) _).setCell (p:=⟨bk,2,none⟩) (Nat.le_refl _) _).setCell (p:=⟨bk,3,none⟩) (Nat.le_refl _) _⟩
end Go.Proofs.YtebbdifhiihfkaaGreatDoor

