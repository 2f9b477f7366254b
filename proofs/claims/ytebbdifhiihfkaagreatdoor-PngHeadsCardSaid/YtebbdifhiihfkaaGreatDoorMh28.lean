/- XFl16 XBestP -/
import Derived.Test.YtebbdifhiihfkaaGreatDoorMh24
namespace Go.Proofs.YtebbdifhiihfkaaGreatDoor
set_option linter.all false
open Go.RowKit
theorem WrFr.blw {w w':World} {g B:Nat} {pv pv':Value} {bs:List UInt8} {L:List Nat} (hf:WrFr w w' g pv pv') (h:Wr w g pv bs L) (hB:B≤g) (hs:B≤w.heap.size):Below B w w' :=
 hf.below hs hB (fun k hk=>by have:=(World.ownsRow.lt h.2.1 k hk).1;omega)
theorem WrFr.later {w w':World} {g B:Nat} {pv pv':Value} {bs:List UInt8} {L:List Nat} (hf:WrFr w w' g pv pv') (h:Wr w g pv bs L):Below g w w':=hf.blw h (Nat.le_refl _) (Nat.le_of_lt h.1.lt)
def bestK (bs:List UInt8) (ts:List Tok):Nat→List Nat
 | 0=>plainL bs
 | 1=>best1 bs ts
 | _=>deflB bs ts
theorem bestK_len (bs:List UInt8) (ts:List Tok) (k:Nat):(bestK bs ts k).length≤(plainL bs).length:=by
 have h1:(best1 bs ts).length≤(plainL bs).length:=by unfold best1;split <;> omega
 have h2:(deflB bs ts).length≤(plainL bs).length:=by unfold deflB;split <;> omega
 match k with
 | 0=>exact Nat.le_refl _
 | 1=>exact h1
 | _+2=>exact h2
set_option maxRecDepth 100000 in
set_option maxHeartbeats 6400000 in
theorem deflate_any (B n c:Nat) (A:Option Addr) (bs:List UInt8) (ts:List Tok) (w:World) (h:RdB w B A n bs) (hB:B≤w.heap.size) (hn:n≤40000)
  (hfind:Calls Tryz.prog 117 #[.slice A n c] w (FindPost ts w)) (hok:∀ t ∈ ts,TokOK t) (hsz:tokSize ts≤40000) :
  Calls Tryz.prog 97 #[.slice A n c] w fun e w'=>∃ v bz,e=.returned (.tuple #[v,.int .i64 0])∧ownB w' w.heap.size v bz∧WB bz (deflB bs ts)∧Below w.heap.size w w':=by
 have HR:=Lib.hid h
 have HFI:=Lib.hid hfind
 have HOK:=Lib.hid hok
 have htn:ts.length≤40000:=Nat.le_trans (tokSize_len ts) hsz
 have HFIX:=Lib.hid (fun w=>fixed_any w)
 have HBG1:=Lib.hid (fun w=>begin_lit 1 1 rfl (by decide) w)
 have HBG2:=Lib.hid (fun w=>begin_lit 2 2 rfl (by decide) w)
 have HMX1:Hid (∀ k,k≤ts.length→(headL 1).length+((ts.take k).flatMap (tokB fixL fixD)).length+100≤1000000):=(show ∀ k,_ from fun k hk=>by
  have h1:=toks_size fixL_ok fixD_ok (ts:=ts.take k) (fun t ht=>⟨hok t (List.mem_of_mem_take ht),fix_in (hok t (List.mem_of_mem_take ht))⟩)
  have h2:=tokSize_take ts k
  rw [headL_len]
  omega)
 have HLS:Hid ((listsB (dynL ts) (dynD ts)).length≤8000):=(show _≤_ from listsB_le (dynL_rng ts).2 (dynD_rng ts).2 (dynL_ok ts) (dynD_ok ts))
 have HMX2:Hid (∀ k,k≤ts.length→(headL 2 ++ listsB (dynL ts) (dynD ts)).length+((ts.take k).flatMap (tokB (dynL ts) (dynD ts))).length+100≤1000000):=(show ∀ k,_ from fun k hk=>by
  have h1:=toks_size (dynL_ok ts) (dynD_ok ts) (ts:=ts.take k) (fun t ht=>⟨hok t (List.mem_of_mem_take ht),dyn_in hok t (List.mem_of_mem_take ht)⟩)
  have h2:=tokSize_take ts k
  have h3:=HLS.out
  rw [List.length_append,headL_len]
  omega)
 have HIN1:Hid (∀ t ∈ ts,TokOK t∧TokIn fixL fixD t):=(show ∀ t ∈ _,_ from fun t ht=>⟨hok t ht,fix_in (hok t ht)⟩)
 have HIN2:Hid (∀ t ∈ ts,TokOK t∧TokIn (dynL ts) (dynD ts) t):=(show ∀ t ∈ _,_ from fun t ht=>⟨hok t ht,dyn_in hok t ht⟩)
 have HLO:=Lib.hid (dynL_ok ts)
 have HDO:=Lib.hid (dynD_ok ts)
 have HLR:=Lib.hid (dynL_rng ts)
 have HDR:=Lib.hid (dynD_rng ts)
 have HPN:=Lib.hid (plainL_len bs)
 have hl:=h.len
 clear h hfind hok
 obtain ⟨N,hN⟩:∃ N,ts.length=N:=⟨_,rfl⟩
 obtain ⟨N1,hN1⟩:∃ N,(dynL ts).length=N:=⟨_,rfl⟩
 obtain ⟨N2,hN2⟩:∃ N,(dynD ts).length=N:=⟨_,rfl⟩
 rw [hN1] at HLR
 rw [hN2] at HDR
 rw [hN] at HMX1 HMX2 htn
 have HN:=Lib.hid hN
 have HN1:=Lib.hid hN1
 have HN2:=Lib.hid hN2
 obtain ⟨q1,q2⟩:=HLR.out
 obtain ⟨q3,q4⟩:=HDR.out
 have HPL:Hid (bestK bs ts 0=plainL bs):=(show _=_ from rfl)
 clear hN hN1 hN2 HLR HDR hl
 go_enter Tryz.func97,Tryz.ntmps97
 go_wp2_with (first
  | (go_at_call 117;(with_reducible refine HFI.out.mono ?_);go_must (rintro e w1 ⟨At,nt,ct,rfl,hnt,hr1,hb1⟩;have hnt2:=hnt.trans HN.out;subst hnt2;have HT1:=Lib.hid hr1;have HB1:=Lib.hid hb1;have hz1:=hb1.size;obtain ⟨b6,hb6⟩:∃ b,w1.heap.size=b:=⟨_,rfl⟩;have HA6:=Lib.hid (Arr.new w1 [.slice none 0 0,.slice none 0 0] 152);rw [hb6] at HA6;simp only [hb6];have HB1a:=Lib.hid ((Below.refl w1.heap.size w1).alloc (Nat.le_refl _) (.cells #[Value.slice none 0 0,Value.slice none 0 0] 152));have hs1a:(w1.alloc (.cells #[Value.slice none 0 0,Value.slice none 0 0] 152)).heap.size=b6+1:=(by rw [World.size_alloc,hb6]);have HS1a:=Lib.hid hs1a;have hb6:=Lib.hid hb6;clear hr1 hnt hb1 HFI hs1a))
  | (go_at_call 118;(with_reducible refine (HFIX.out _).mono ?_);go_must (rintro e w2 ⟨gl,cl,gd,cd,rfl,hgl,hgd,hrl,hrd,hb2⟩;rw [HS1a.out] at hgl hgd;have ha2:=HA6.out.later hb2;have c60:=ha2.cell (k:=0) rfl;have c61:=ha2.cell (k:=1) rfl;have f60:=ha2.frozen 0;have f61:=ha2.frozen 1;obtain ⟨w3,hw3⟩:∃ w3,(w2.setCell ⟨b6,0,none⟩ (.slice (some ⟨gl,0,none⟩) 288 cl)).setCell ⟨b6,1,none⟩ (.slice (some ⟨gd,0,none⟩) 32 cd)=w3:=⟨_,rfl⟩;have hz3:w3.heap.size=w2.heap.size:=(by rw [← hw3];simp);have HA3:Hid (Arr w3 b6 [.slice (some ⟨gl,0,none⟩) 288 cl,.slice (some ⟨gd,0,none⟩) 32 cd]):=(show Arr _ _ _ from by rw [← hw3];exact (ha2.set 0 _).set 1 _);have HL3:Hid (RdI w3 w3.heap.size (some ⟨gl,0,none⟩) 288 fixL):=(show RdI _ _ _ _ _ from by rw [hz3,← hw3];exact RdI.far (RdI.far hrl (p:=⟨b6,0,none⟩) (by show gl ≠ b6;omega) _) (p:=⟨b6,1,none⟩) (by show gl ≠ b6;omega) _);have HD3:Hid (RdI w3 w3.heap.size (some ⟨gd,0,none⟩) 32 fixD):=(show RdI _ _ _ _ _ from by rw [hz3,← hw3];exact RdI.far (RdI.far hrd (p:=⟨b6,0,none⟩) (by show gd ≠ b6;omega) _) (p:=⟨b6,1,none⟩) (by show gd ≠ b6;omega) _);have HB3:Hid (Below w1.heap.size w1 w3):=(show Below _ _ _ from by rw [← hw3];exact ((HB1a.out.trans (hb2.mono (by rw [HS1a.out,hb6.out];omega))).setCell (p:=⟨b6,0,none⟩) (by show w1.heap.size≤b6;rw [hb6.out];exact Nat.le_refl _) _).setCell (p:=⟨b6,1,none⟩) (by show w1.heap.size≤b6;rw [hb6.out];exact Nat.le_refl _) _);have hz3b:b6 < w3.heap.size:=HA3.out.lt;clear hz3 ha2 hrl hrd hb2 HA6 HB1a HS1a HFIX))
  | (go_at_call 119;(with_reducible refine (HBG1.out _).mono ?_);go_must (rintro e w4 ⟨g1,p4,z4,rfl,hg1,hw4,hb4,hp4⟩;have HX4:=Lib.hid (Bx.new hw4 (.cells #[Value.pointer (some ⟨g1,0,none⟩)] 155));have HA4:=Lib.hid (Arr.new w4 [.pointer (some ⟨g1,0,none⟩)] 155);have HB4:=Lib.hid (hb4.alloc hb4.size (.cells #[Value.pointer (some ⟨g1,0,none⟩)] 155));have HA34:=Lib.hid ((HA3.out.later hb4).alloc (.cells #[Value.pointer (some ⟨g1,0,none⟩)] 155));have c70:=HA34.out.cell (k:=0) rfl;have c71:=HA34.out.cell (k:=1) rfl;have HP4:=Lib.hid hp4;have hz4:=hb4.size;obtain ⟨b7,hb7⟩:∃ b,w4.heap.size=b:=⟨_,rfl⟩;rw [hb7] at HX4 HA4;have HTK:=Lib.hid (tokens_any w3.heap.size nt ct 288 cl 32 cd g1 At (some ⟨gl,0,none⟩) (some ⟨gd,0,none⟩) ts fixL fixD p4 z4 (headL 1) _ (hw4.alloc (.cells #[Value.pointer (some ⟨g1,0,none⟩)] 155)) ((RdK.more (RdK.blw HT1.out HB3.out) HB3.out.size).blw HB4.out) (HL3.out.blw HB4.out) (HD3.out.blw HB4.out) hg1 (by omega) HIN1.out fixL_ok fixD_ok (by omega) (by omega) HMX1.out);simp only [hb7];have hb7:=Lib.hid hb7;have HW4:=Lib.hid (hw4.alloc (.cells #[Value.pointer (some ⟨g1,0,none⟩)] 155));clear hw4 hb4 hp4 HL3 HD3 HIN1 HMX1 HBG1))
  | (go_at_call 120;(with_reducible refine HTK.out.mono ?_);go_must (rintro e w6 ⟨rfl,p6,z6,hw6,hf6⟩;have HW6:Hid (Wr w6 g1 p6 z6 (fixB ts)):=hw6;have HB6:=Lib.hid (HB4.out.trans (hf6.blw HW4.out hg1 HB4.out.size));have HA46:=Lib.hid (HA4.out.wr HX4.out hf6);have HX46:=Lib.hid (HX4.out.wr hf6);have HA36:=Lib.hid (HA3.out.blw HB6.out hz3b);have hz6:=HB6.out.size;have HT6:=Lib.hid ((RdK.blw HT1.out HB3.out).blw (HB6.out.mono HB3.out.size));have HX36:Hid (Bx w6 g1 p6 b6):=(show Bx _ _ _ _ from ⟨by omega,by omega,fun e=>by have:=(World.ownsRow.lt hw6.2.1 _ e).1;omega⟩);have HDY:=Lib.hid (dynamic_any w1.heap.size nt ct At ts w6 HT6.out (by rw [hb6.out];omega) (by omega) HOK.out);clear hw6 hf6 HTK HW4 HA34 HA4 HX4 HB4 HA3 c70 c71))
  | (go_at_call 121;(with_reducible refine HDY.out.mono ?_);go_must (rintro e w7 ⟨ga,na,ca,gb,nb,cb,rfl,hga,hgb,hna,hnb,hra,hrb,hb7b⟩;have hna2:=hna.trans HN1.out;subst hna2;have hnb2:=hnb.trans HN2.out;subst hnb2;have ha7:=HA36.out.later hb7b;have c80:=ha7.cell (k:=0) rfl;have c81:=ha7.cell (k:=1) rfl;have f80:=ha7.frozen 0;have f81:=ha7.frozen 1;obtain ⟨w8,hw8⟩:∃ w8,(w7.setCell ⟨b6,0,none⟩ (.slice (some ⟨ga,0,none⟩) na ca)).setCell ⟨b6,1,none⟩ (.slice (some ⟨gb,0,none⟩) nb cb)=w8:=⟨_,rfl⟩;have hz8:w8.heap.size=w7.heap.size:=(by rw [← hw8];simp);have HA8:Hid (Arr w8 b6 [.slice (some ⟨ga,0,none⟩) na ca,.slice (some ⟨gb,0,none⟩) nb cb]):=(show Arr _ _ _ from by rw [← hw8];exact (ha7.set 0 _).set 1 _);have HL8:Hid (RdI w8 w8.heap.size (some ⟨ga,0,none⟩) na (dynL ts)):=(show RdI _ _ _ _ _ from by rw [hz8,← hw8];exact RdI.far (RdI.far hra (p:=⟨b6,0,none⟩) (by show ga ≠ b6;omega) _) (p:=⟨b6,1,none⟩) (by show ga ≠ b6;omega) _);have HD8:Hid (RdI w8 w8.heap.size (some ⟨gb,0,none⟩) nb (dynD ts)):=(show RdI _ _ _ _ _ from by rw [hz8,← hw8];exact RdI.far (RdI.far hrb (p:=⟨b6,0,none⟩) (by show gb ≠ b6;omega) _) (p:=⟨b6,1,none⟩) (by show gb ≠ b6;omega) _);have hx7:Bx w7 g1 p6 b6:=HX36.out.wr (WrFr.of (pv:=p6) hb7b);have HW8:Hid (Wr w8 g1 p6 z6 (fixB ts)):=(show Wr _ _ _ _ _ from by rw [← hw8];exact ((HW6.out.later hb7b).far hx7 0 _).far ⟨by rw [World.size_setCell];exact hx7.lt,hx7.ne,hx7.nv⟩ 1 _);have HB8:Hid (Below w1.heap.size w1 w8):=(show Below _ _ _ from by rw [← hw8];exact (((HB3.out.trans (HB6.out.mono HB3.out.size)).trans (hb7b.mono (by rw [hb6.out];omega))).setCell (p:=⟨b6,0,none⟩) (by show w1.heap.size≤b6;rw [hb6.out];exact Nat.le_refl _) _).setCell (p:=⟨b6,1,none⟩) (by show w1.heap.size≤b6;rw [hb6.out];exact Nat.le_refl _) _);have HA78:Hid (Arr w8 b7 [.pointer (some ⟨g1,0,none⟩)]):=(show Arr _ _ _ from by rw [← hw8];exact ((HA46.out.later hb7b).far (p:=⟨b6,0,none⟩) (by show b6 ≠ b7;rw [← hb7.out];omega) _).far (p:=⟨b6,1,none⟩) (by show b6 ≠ b7;rw [← hb7.out];omega) _);have hz8b:=HA8.out.lt;have hz8c:=HA78.out.lt;have hz8d:w6.heap.size≤w8.heap.size:=(by rw [hz8];exact hb7b.size);clear hz8 ha7 hra hrb hb7b hna hnb HDY HA36 HA46 HX46 HX36 HW6 hx7))
  | (go_at_call 119;(with_reducible refine (HBG2.out _).mono ?_);go_must (rintro e w9 ⟨g2,p9,z9,rfl,hg2,hw9,hb9,hp9⟩;have HX9:=Lib.hid (Bx.new hw9 (.cells #[Value.pointer (some ⟨g2,0,none⟩)] 155));have HA9:=Lib.hid (Arr.new w9 [.pointer (some ⟨g2,0,none⟩)] 155);have HB9:=Lib.hid (hb9.alloc hb9.size (.cells #[Value.pointer (some ⟨g2,0,none⟩)] 155));have HA89:=Lib.hid ((HA8.out.later hb9).alloc (.cells #[Value.pointer (some ⟨g2,0,none⟩)] 155));have c90:=HA89.out.cell (k:=0) rfl;have c91:=HA89.out.cell (k:=1) rfl;have hz9:=hb9.size;obtain ⟨b8,hb8⟩:∃ b,w9.heap.size=b:=⟨_,rfl⟩;rw [hb8] at HX9 HA9;have HLI:=Lib.hid (lists_any w8.heap.size na ca nb cb g2 (some ⟨ga,0,none⟩) (some ⟨gb,0,none⟩) (dynL ts) (dynD ts) p9 z9 (headL 2) _ (hw9.alloc (.cells #[Value.pointer (some ⟨g2,0,none⟩)] 155)) (HL8.out.blw HB9.out) (HD8.out.blw HB9.out) hg2 q2 q1 q3 q4 HLO.out HDO.out (by rw [headL_len];omega));have HX69:Hid (Bx (w9.alloc (.cells #[Value.pointer (some ⟨g2,0,none⟩)] 155)) g2 p9 b6):=(show Bx _ _ _ _ from ⟨by rw [World.size_alloc];omega,by omega,fun e=>by have:=(World.ownsRow.lt hw9.2.1 _ e).1;omega⟩);simp only [hb8];have hb8:=Lib.hid hb8;have HW9:=Lib.hid (hw9.alloc (.cells #[Value.pointer (some ⟨g2,0,none⟩)] 155));clear hw9 hb9 hp9 HBG2))
  | (go_at_call 122;(with_reducible refine HLI.out.mono ?_);go_must (rintro e w10 ⟨rfl,p10,z10,hw10,hf10⟩;have HA910:=Lib.hid (HA9.out.wr HX9.out hf10);have HX910:=Lib.hid (HX9.out.wr hf10);have HB10:=Lib.hid (HB9.out.trans (hf10.blw HW9.out hg2 HB9.out.size));have ha10:=HA89.out.wr HX69.out hf10;have ca0:=ha10.cell (k:=0) rfl;have ca1:=ha10.cell (k:=1) rfl;have ca2:=HA910.out.cell (k:=0) rfl;have hz10:=HB10.out.size;have HTK2:=Lib.hid (tokens_any w8.heap.size nt ct na ca nb cb g2 At (some ⟨ga,0,none⟩) (some ⟨gb,0,none⟩) ts (dynL ts) (dynD ts) p10 z10 (headL 2 ++ listsB (dynL ts) (dynD ts)) _ hw10 ((RdK.more (RdK.blw HT1.out HB8.out) HB8.out.size).blw HB10.out) (HL8.out.blw HB10.out) (HD8.out.blw HB10.out) hg2 (by omega) HIN2.out HLO.out HDO.out (by omega) q3 HMX2.out);have HW10:=Lib.hid hw10;clear hw10 hf10 ha10 HLI HW9 HA89 HX69 HA9 HX9))
  | (go_at_call 120;(with_reducible refine HTK2.out.mono ?_);go_must (rintro e w12 ⟨rfl,p12,z12,hw12,hf12⟩;have HW12:Hid (Wr w12 g2 p12 z12 (ownBits ts)):=hw12;have HB12:=Lib.hid (HB10.out.trans (hf12.blw HW10.out hg2 HB10.out.size));have HA912:=Lib.hid (HA910.out.wr HX910.out hf12);have hz12:=HB12.out.size;have HPA:=Lib.hid (plain_any B n c A bs w12 (HR.out.blw ((HB1.out.trans (HB8.out.mono hz1)).trans (HB12.out.mono (by have:=HB8.out.size;omega)) |>.mono hB)) (by have:=HB8.out.size;omega) hn);clear hw12 hf12 HTK2 HW10 HA910 HX910))
  | (go_at_call 123;(with_reducible refine HPA.out.mono ?_);go_must (rintro e w13 ⟨g3,p13,z13,rfl,hg3,hw13,hb13,hp13⟩;have HW13:=Lib.hid hw13;have HW2:=Lib.hid (HW12.out.later hb13);have HW1:=Lib.hid (HW8.out.later (HB12.out.trans (hb13.mono hz12)));have HB13:=Lib.hid ((HB12.out.trans (hb13.mono hz12)));have c20:=(HA78.out.later HB13.out).cell (k:=0) rfl;have c21:=(HA912.out.later hb13).cell (k:=0) rfl;clear hw13 hb13 hp13 HPA HW8 HW12)))
 generalize hw14:w13.alloc _=w14
 obtain ⟨b14,hb14⟩:∃ b,w13.heap.size=b:=⟨_,rfl⟩
 simp only [hb14]
 have HX14:Hid (Arr w14 b14 [.pointer (some ⟨g1,0,none⟩),.pointer (some ⟨g2,0,none⟩)]):=(show Arr _ _ _ by rw [← hw14,← hb14];exact Arr.new w13 [.pointer (some ⟨g1,0,none⟩),.pointer (some ⟨g2,0,none⟩)] _)
 have HV1:Hid (Wr w14 g1 p6 z6 (fixB ts)):=(show Wr _ _ _ _ _ by rw [← hw14];exact HW1.out.alloc _)
 have HV2:Hid (Wr w14 g2 p12 z12 (ownBits ts)):=(show Wr _ _ _ _ _ by rw [← hw14];exact HW2.out.alloc _)
 have HV3:Hid (Wr w14 g3 p13 z13 (bestK bs ts 0)):=(show Wr _ _ _ _ _ by rw [← hw14];exact HW13.out.alloc _)
 have HB14:Hid (Below w.heap.size w w14):=(show Below _ _ _ by rw [← hw14];exact Below.alloc ((HB1.out.trans (HB8.out.mono hz1)).trans (HB13.out.mono (by have:=HB8.out.size;omega))) (by have:=HB8.out.size;have:=HB13.out.size;omega) _)
 have cc0:=HX14.out.cell (k:=0) rfl
 have cc1:=HX14.out.cell (k:=1) rfl
 have HBK1:Hid (bestK bs ts 1=if (fixB ts).length < (bestK bs ts 0).length then fixB ts else bestK bs ts 0):=(show _=_ from rfl)
 have HBK2:Hid (bestK bs ts 2=if (ownBits ts).length < (bestK bs ts 1).length then ownBits ts else bestK bs ts 1):=(show _=_ from rfl)
 have HBD:Hid (bestK bs ts 2=deflB bs ts):=(show _=_ from rfl)
 have HBL:Hid ((bestK bs ts 2).length≤400000):=(show _≤_ by have h1:=bestK_len bs ts 2;have h2:=HPN.out;have h3:=HR.out.len;omega)
 clear hw14 hb14 HW1 HW2 HW13 HB1 HB8 HB13 HB12 HB10 HB6 HB3 HL8 HD8 HA8 HA78 HA912 HT1 HT6 HR HOK HIN2 HLO HDO HMX2 HLS HPN hw3 hw8 c20 c21 c80 c81 f80 f81 c60 c61 f60 f61 c90 c91 ca0 ca1 ca2 HPL
 generalize fixB ts=F1 at *
 generalize ownBits ts=F2 at *
 go_loopw [49,9] (fun vi vb wr=>∃ k:Nat,k≤2∧vi=.int .i64 k∧wr=w14∧∃ gx px zx,vb=.pointer (some ⟨gx,0,none⟩)∧Hid (Wr w14 gx px zx (bestK bs ts k))) (fun vi _ _=>2 - (intOf vi).toNat)
 case atStart=>exact ⟨0,by omega,rfl,rfl,g3,p13,z13,rfl,HV3⟩
 case round =>
  clear HV3
  obtain ⟨k,hk,rfl,rfl,gx,px,zx,rfl,HVX⟩:=hrel
  have HBX:=Lib.hid (bitsN_any gx px zx _ wr HVX.out)
  by_cases hlt:k < 2
  ·rcases (show k=0∨k=1 by omega) with rfl | rfl
   ·have HBF:=Lib.hid (bitsN_any g1 p6 z6 _ wr HV1.out)
    by_cases hl:F1.length < (bestK bs ts 0).length
    ·have hli:((F1.length:Nat):Int) < (((bestK bs ts 0).length:Nat):Int):=by omega
     rw [if_pos hl] at HBK1
     have HV1':Hid (Wr wr g1 p6 z6 (bestK bs ts 1)):=(show Wr _ _ _ _ _ by rw [HBK1.out];exact HV1.out)
     clear HBK1
     generalize bestK bs ts 0=X0 at *
     generalize F1.length=l1 at *
     generalize X0.length=l0 at *
     go_wp2_with (first
      | (go_at_call 124;(with_reducible refine HBF.out.mono ?_);go_must (rintro e w15 ⟨rfl,rfl⟩))
      | (go_at_call 124;(with_reducible refine HBX.out.mono ?_);go_must (rintro e w15 ⟨rfl,rfl⟩)))
     go_roundw
     case rel=>exact ⟨1,by omega,rfl,trivial,g1,p6,z6,rfl,HV1'⟩
     case measure=>simp [intOf]
    ·have hli:¬ ((F1.length:Nat):Int) < (((bestK bs ts 0).length:Nat):Int):=by omega
     rw [if_neg hl] at HBK1
     have HV1':Hid (Wr wr gx px zx (bestK bs ts 1)):=(show Wr _ _ _ _ _ by rw [HBK1.out];exact HVX.out)
     clear HBK1
     generalize bestK bs ts 0=X0 at *
     generalize F1.length=l1 at *
     generalize X0.length=l0 at *
     go_wp2_with (first
      | (go_at_call 124;(with_reducible refine HBF.out.mono ?_);go_must (rintro e w15 ⟨rfl,rfl⟩))
      | (go_at_call 124;(with_reducible refine HBX.out.mono ?_);go_must (rintro e w15 ⟨rfl,rfl⟩)))
     go_roundw
     case rel=>exact ⟨1,by omega,rfl,trivial,gx,px,zx,rfl,HV1'⟩
     case measure=>simp [intOf]
   ·have HBF:=Lib.hid (bitsN_any g2 p12 z12 _ wr HV2.out)
    by_cases hl:F2.length < (bestK bs ts 1).length
    ·have hli:((F2.length:Nat):Int) < (((bestK bs ts 1).length:Nat):Int):=by omega
     rw [if_pos hl] at HBK2
     have HV1':Hid (Wr wr g2 p12 z12 (bestK bs ts 2)):=(show Wr _ _ _ _ _ by rw [HBK2.out];exact HV2.out)
     clear HBK2 HBK1
     generalize bestK bs ts 1=X1 at *
     generalize F2.length=l1 at *
     generalize X1.length=l0 at *
     go_wp2_with (first
      | (go_at_call 124;(with_reducible refine HBF.out.mono ?_);go_must (rintro e w15 ⟨rfl,rfl⟩))
      | (go_at_call 124;(with_reducible refine HBX.out.mono ?_);go_must (rintro e w15 ⟨rfl,rfl⟩)))
     go_roundw
     case rel=>exact ⟨2,by omega,rfl,trivial,g2,p12,z12,rfl,HV1'⟩
     case measure=>simp [intOf]
    ·have hli:¬ ((F2.length:Nat):Int) < (((bestK bs ts 1).length:Nat):Int):=by omega
     rw [if_neg hl] at HBK2
     have HV1':Hid (Wr wr gx px zx (bestK bs ts 2)):=(show Wr _ _ _ _ _ by rw [HBK2.out];exact HVX.out)
     clear HBK2 HBK1
     generalize bestK bs ts 1=X1 at *
     generalize F2.length=l1 at *
     generalize X1.length=l0 at *
     go_wp2_with (first
      | (go_at_call 124;(with_reducible refine HBF.out.mono ?_);go_must (rintro e w15 ⟨rfl,rfl⟩))
      | (go_at_call 124;(with_reducible refine HBX.out.mono ?_);go_must (rintro e w15 ⟨rfl,rfl⟩)))
     go_roundw
     case rel=>exact ⟨2,by omega,rfl,trivial,gx,px,zx,rfl,HV1'⟩
     case measure=>simp [intOf]
  ·obtain rfl:k=2:=by omega
   have HBY:=Lib.hid (wbytes_any gx px zx _ wr HVX.out (by have:=HBL.out;omega))
   have HWZ:Hid (WB zx (deflB bs ts)):=(show WB _ _ by rw [← HBD.out];exact HVX.out.2.2)
   clear HBK1 HBK2
   go_wp2_with (go_at_call 125;(with_reducible refine HBY.out.mono ?_);go_must (rintro e w16 ⟨v16,rfl,ho16,hb16⟩;have HO16:=Lib.hid (ownB.mono ho16 HB14.out.size);have HB16:=Lib.hid (HB14.out.trans (hb16.mono HB14.out.size));clear ho16 hb16))
   go_ret2
   exact ⟨v16,zx,rfl,HO16.out,HWZ.out,HB16.out⟩
end Go.Proofs.YtebbdifhiihfkaaGreatDoor

/- flate: what is compressed is no longer than stored, nor than by the fixed codes: plainly. -/
namespace Go.Proofs.YtebbdifhiihfkaaGreatDoor
set_option linter.all false
/-- What a token costs by the fixed codes. -/
def costF (t:Tok):Nat:=if t.1=0 then (if t.2.2 < 144 then 8 else 9) else 7+(lenOf (lenS t.1)).2+5+(distOf (distS t.2.1)).2+(if 279 < 257+lenS t.1 then 1 else 0)
theorem codeB_len {ls:List Int} {p:Nat} (hp:p < ls.length) (hok:CodesOK ls) {t:Nat} (ht:ls[p]?=some (t:Int)):(codeB ls p).length=t:=by
 obtain ⟨t',_,e,_⟩:=codeAt_ok hok.2.1 hok.2.2 p hp
 unfold codeB
 rw [e,msb_len]
 have hg:ls.getD p 0=(t:Int):=by rw [List.getD_eq_getElem?_getD,ht];rfl
 have h1:(codeAt ls p).2=(t:Int):=by
  unfold codeAt
  rw [hg]
  split
  ·rfl
  ·show (0:Int)=t
   omega
 rw [e] at h1
 show ((t':Nat):Int).toNat=t
 omega
theorem fixL_get {p:Nat} (h:p < 288):fixL[p]?=some (fixO p):=by
 unfold fixL
 rw [List.getElem?_map,List.getElem?_range h]
 rfl
theorem fixB_code {p t:Nat} (h:p < 288) (ht:fixO p=(t:Int)):(codeB fixL p).length=t:=codeB_len (by rw [fixL_len];exact h) fixL_ok (by rw [fixL_get h,ht])
theorem fixB_dist {p:Nat} (h:p < 30):(codeB fixD p).length=5:=codeB_len (by rw [fixD_len];omega) fixD_ok (by unfold fixD;rw [List.getElem?_replicate,if_pos (by omega)];rfl)
theorem tokF_len {t:Tok} (h:TokOK t):(tokB fixL fixD t).length=costF t:=by
 unfold tokB costF
 split
 ·rename_i e
  have hy:t.2.2 < 256:=by
   rcases h with ⟨_,h⟩ | ⟨h,_⟩
   ·exact h
   ·omega
  split
  ·exact fixB_code (by omega) (by unfold fixO;rw [if_pos (by omega)];rfl)
  ·exact fixB_code (by omega) (by unfold fixO;rw [if_neg (by omega),if_pos (by omega)];rfl)
 ·rename_i e
  obtain ⟨h3,h4,h5,h6⟩:3≤t.1∧t.1≤258∧1≤t.2.1∧t.2.1≤32768:=by rcases h with ⟨h,_⟩ | h;exact absurd h e;exact h
  have q1:=(lenS_spec (x:=t.1) h3).1
  have q2:=(distS_spec (x:=t.2.1) h5).1
  rw [List.length_append,List.length_append,List.length_append,lsb_len,lsb_len,fixB_dist (by omega)]
  split
  ·rw [fixB_code (t:=8) (by omega) (by unfold fixO;rw [if_neg (by omega),if_neg (by omega),if_neg (by omega)];rfl)]
   omega
  ·rw [fixB_code (t:=7) (by omega) (by unfold fixO;rw [if_neg (by omega),if_neg (by omega),if_pos (by omega)];rfl)]
   rfl
def costs (ts:List Tok):Nat:=10+(ts.map costF).sum
theorem fixB_len {ts:List Tok} (h:∀ t ∈ ts,TokOK t):(fixB ts).length=costs ts:=by
 have h1:(ts.flatMap (tokB fixL fixD)).length=(ts.map costF).sum:=by
  induction ts with
  | nil=>rfl
  | cons t r ih =>
   rw [List.flatMap_cons,List.length_append,List.map_cons,List.sum_cons,tokF_len (h t (by simp)),ih (fun u hu=>h u (by simp [hu]))]
 unfold fixB toksB costs
 rw [List.length_append,List.length_append,headL_len,h1,fixB_code (p:=256) (t:=7) (by omega) (by unfold fixO;rw [if_neg (by omega),if_neg (by omega),if_pos (by omega)];rfl)]
 omega
theorem deflB_le (bs:List UInt8) (ts:List Tok):(deflB bs ts).length≤(plainL bs).length∧(deflB bs ts).length≤(fixB ts).length:=by
 have h1:(best1 bs ts).length≤(plainL bs).length∧(best1 bs ts).length≤(fixB ts).length:=by unfold best1;split <;> omega
 unfold deflB
 split <;> omega
theorem best_le {bs bz:List UInt8} {ts:List Tok} (h:∀ t ∈ ts,TokOK t) (hw:WB bz (deflB bs ts)):bz.length≤(costs ts+7) / 8∧bz.length≤bs.length+5:=by
 have h1:=hw.1
 have h2:=deflB_le bs ts
 rw [plainL_len,fixB_len h] at h2
 omega
end Go.Proofs.YtebbdifhiihfkaaGreatDoor

