/- XWalAtomic -/
import Derived.Test.YtdoanopeejeeiaaMk46
namespace Go.Proofs.Ytdoanopeejeeiaa
set_option linter.all false
open Go.RowKit Go.Maps
set_option maxRecDepth 100000 in
set_option maxHeartbeats 51200000 in
theorem walAtomic_main (N ring:Nat) (A:Option Addr) (m c:Nat) (A1 A2:Option Addr) (n1 c1 n2 c2:Nat) (at_:Int) (Ak:Option Addr) (nk ck:Nat) (Aa:Option Addr) (na ca:Nat) (Am:Option Addr) (cm:Nat) (mb:Bs) (ats:List Int) (cs:Bs) (zs:List (List Int × Bs)) (again:List Int) (masks:List Bs) (w:World) (hr:RdSets w w.heap.size A m zs) (hr1:RdI w w.heap.size A1 n1 ats) (hr2:RdB w w.heap.size A2 n2 cs) (hats:∀ x ∈ ats,-9223372036854775808≤x∧x≤9223372036854775807) (hmb:RdB w w.heap.size Ak nk mb) (hag:RdI w w.heap.size Aa na again) (hagb:∀ x ∈ again,-9223372036854775808≤x∧x≤9223372036854775807) (hms:RowsB w w.heap.size Am na masks)
  (hN1:4≤N) (hN2:N≤200) (h1:1≤ring) (h2:ring+4≤N) (hm:m≤20) (hn1:n1≤150) (hnk:nk≤100) (hna:na≤10) (hat1:1≤at_) (hat2:at_≤1000) :
  Calls Try.prog 5 #[.int .i64 (N:Int),.int .i64 (ring:Int),.slice A m c,.agg #[.slice A1 n1 c1,.slice A2 n2 c2],.int .i64 at_,.slice Ak nk ck,.slice Aa na ca,.slice Am na cm] w fun e w'=>e=.returned (.bool true)∧Below w.heap.size w w':=by
 obtain ⟨wb,hwb⟩:∃ wb,w.alloc (.cells #[.slice A1 n1 c1,.slice A2 n2 c2] 38)=wb:=⟨_,rfl⟩
 have HB:Hid (Below w.heap.size w wb):=(show Below _ _ _ by rw [← hwb];exact (Below.refl w.heap.size w).alloc (Nat.le_refl _) _)
 have HA:=Arr.new w [.slice A1 n1 c1,.slice A2 n2 c2] 38
 rw [show (List.toArray [Value.slice A1 n1 c1,Value.slice A2 n2 c2])=#[.slice A1 n1 c1,.slice A2 n2 c2] from rfl,hwb] at HA
 have HBS:Hid (wb.heap.size=w.heap.size+1):=(show _=_ by rw [← hwb];simp)
 have HX0:=Lib.hid (HA.cell (k:=0) rfl)
 have HX1:=Lib.hid (HA.cell (k:=1) rfl)
 clear HA
 obtain ⟨hm9,hhm⟩:∃ x,2+ring=x:=⟨_,rfl⟩
 have hhmi:(2:Int)+(ring:Int)=(hm9:Int):=by omega
 have hhN:hm9+2≤N:=by omega
 have HR:=Lib.hid hr
 have HR1:=Lib.hid hr1
 have HR2:=Lib.hid hr2
 have HATS:=Lib.hid hats
 have HMB:=Lib.hid hmb
 have HAG:=Lib.hid hag
 have HAGB:=Lib.hid hagb
 have HMS:=Lib.hid hms
 have hzl:=hr.len
 have hl1:=hr1.len
 have t2:¬ (200:Int) < (N:Int):=by omega
 have t4:¬ (20:Int) < (m:Int):=by omega
 have t5:¬ (150:Int) < (n1:Int):=by omega
 have t6:¬ (100:Int) < (nk:Int):=by omega
 have t7:¬ (10:Int) < (na:Int):=by omega
 have t9:¬ at_ < 1:=by omega
 have t10:¬ (1000:Int) < at_:=by omega
 clear hr hr1 hr2 hats hmb hag hagb hms
 go_enter Try.func5,Try.ntmps5
 (try simp only [hwb])
 go_upto_region 9 with (first
  | (go_at_call 6;(with_reducible refine (first15_any _).mono ?_);go_must (rintro e w0 ⟨rfl,hb0⟩;have HB0:=Lib.hid (HB.out.trans (hb0.mono HB.out.size));have HXA:=Lib.hid (cell_later HX0.out hb0);have HXB:=Lib.hid (cell_later HX1.out hb0);have HWL:Hid (w.heap.size < w0.heap.size):=(show _ < _ by have:=hb0.size;have:=HBS.out;omega);have HN0:=Lib.hid (newD_any N w0 hN1 (by omega));clear hb0))
  | (go_at_call 7;(with_reducible refine HN0.out.mono ?_);go_must (rintro e w1 ⟨d,h1,rfl,H1,U1,hb1⟩;have HZ1:=Lib.hid hb1;have hz1:=hb1.size;have HFM1:=Lib.hid (fmtL_any N ring w0.heap.size d h1 w1 H1 hz1 U1 (by assumption) (by assumption));have HD1:=Lib.hid H1;clear H1 U1 hb1))
  | (go_at_call 8;(with_reducible refine HFM1.out.mono ?_);go_must (rintro e w2 ⟨s2,h2,rfl,n2,m2,wr2,f2,d2,a2,H2,F2,T2,U2⟩;have hbl2:=F2.bel HD1.out;have HZ2:=Lib.hid (HZ1.out.trans hbl2);have hz2:=hbl2.size;obtain ⟨f0,hf0⟩:∃ x,layL (fun _=>zeros) [(0,headB ring 1 0),(1,zeros)]=x:=⟨_,rfl⟩;have hlg:=fmt_log (s:=s2) (f:=fun _=>zeros) (N:=N) (ring:=ring) (by assumption) (by assumption);rw [hf0] at a2 hlg;have HLG:=Lib.hid hlg;have HO:=Lib.hid (openA_any w0.heap.size d h2 s2 _ ring 1 0 w2 H2 a2 d2 (by rw [n2];exact hlg) (by decide));have HN2:=Lib.hid n2;have HM2:=Lib.hid m2;have HW2:=Lib.hid wr2;have HF0:=Lib.hid f2;have HD2:=Lib.hid d2;have HA2:=Lib.hid a2;have hx0:=(HZ2.out.cell (p:=⟨w.heap.size,0,none⟩) HWL.out).trans HXA.out;clear n2 m2 wr2 f2 d2 a2 H2 F2 T2 U2 hbl2 hf0 hlg))
  | (go_at_call 9;(with_reducible refine HO.out.mono ?_);go_must (rintro e w3 ⟨l,h3,rfl,L3,-,hl3,hb3⟩;have HZ3:=Lib.hid (HZ2.out.trans (hb3.mono (show w0.heap.size≤w2.heap.size by omega)));have HLL:Hid (w0.heap.size≤l):=(show _≤_ by omega);have HW03:Hid (w0.heap.size≤w3.heap.size):=(show _≤_ by have:=hb3.size;omega);have HL3:Hid (LS w3 w0.heap.size d l h3 s2 f0 N ring 1 0 10):=(show LS _ _ _ _ _ _ _ _ _ _ _ _ from ⟨L3,HA2.out,HD2.out,HN2.out,by rw [HM2.out];exact Nat.zero_le _,HLG.out,by have:=HW2.out;omega⟩);clear L3 hb3 hl3)))
 clear HO HFM1 HN0 hx0 hwb
 obtain ⟨lo,hlo⟩:∃ x,w0.heap.size=x:=⟨_,rfl⟩
 rw [hlo] at HL3 HLL HZ3
 have hlow:w.heap.size≤lo:=by rw [← hlo];exact HB0.out.size
 have hbx:w.heap.size < lo:=by rw [← hlo];exact HWL.out
 have hlo3:lo≤w3.heap.size:=by rw [← hlo];exact HW03.out
 clear HW03 HWL HZ1 HZ2 hlo t2 t4 t5 t6 t7 t9 t10
 go_wp2_with fail
 go_loopw [22] (fun vi wr=>∃ (k seq pos:Nat) (h:Hn) (s:Dk) (f:SF),k≤m∧vi=.int .i64 (k:Int)∧Hid (LS wr lo d l h s f N ring seq pos (10+400 * k))∧Hid (s.falls=0)∧Hid (seq≤1+k)∧Hid (lo≤wr.heap.size)∧Hid (Below lo w0 wr)) (fun vi _=>m - (intOf vi).toNat)
 case atStart=>exact ⟨0,1,0,h3,s2,f0,Nat.zero_le _,rfl,HL3,HF0,Nat.le_refl _,hlo3,HZ3⟩
 case round =>
  clear HL3 HF0 HZ3
  obtain ⟨k,seq,pos,h,s,f,hk,rfl,HL,HFA,HSQ,HLW,HZ⟩:=hrel
  have hsq:seq≤50:=by have:=HSQ.out;omega
  have hlow2:=HLW.out
  have HBW:=Lib.hid (HB0.out.trans (HZ.out.mono hlow))
  have hsz:=HBW.out.size
  by_cases hlt:k < m
  ·obtain ⟨⟨zat,zc⟩,hz⟩:∃ x,zs[k]?=some x:=⟨_,List.getElem?_eq_getElem (show k < zs.length by omega)⟩
   obtain ⟨b,o,B1,k1n,k1c,B2,k2n,k2c,rfl,hbl,k1,k2,r1,r2,r3⟩:=(HR.out.blw HBW.out).get hz
   have HR1z:=Lib.hid r1
   have HR2z:=Lib.hid r2
   have hlz:=r1.len
   have hkw:b < wr.heap.size:=by omega
   clear hz r1 r2 r3
   by_cases h150:150 < k1n
   ·have t3:(150:Int) < (k1n:Int):=by omega
    go_wp2_with (first
     | (go_at_call 6;(with_reducible refine (first15_any _).mono ?_);go_must (rintro e wf ⟨rfl,hbf⟩;have HBF:=Lib.hid (HBW.out.trans (hbf.mono HBW.out.size));clear hbf)))
    go_ret
    exact ⟨rfl,HBF.out⟩
   ·have t3:¬ (150:Int) < (k1n:Int):=by omega
    have HPU:=Lib.hid (puts_any (TL d l h) B1 B2 k1n k2n k1c k2c zat zc wr (Rd.more HR1z.out hsz) (Rd.more HR2z.out hsz) (by omega) HL.out.fresh)
    have HPD:=Lib.hid (putsV_data (at_:=zat) (cs:=zc))
    go_wp2_with (first
     | (go_at_call 13;(with_reducible refine HPU.out.mono ?_);go_must (rintro e w5 ⟨A5,c5,v5,rfl,hp5,hc5,hb5⟩;have HB5:=Lib.hid hb5;have HL5:=Lib.hid (HL.out.later hb5);have hz5:=hb5.size;have HCM:=Lib.hid (commitL_any lo d l h s f N ring seq pos (10+400 * k) A5 k1n c5 _ w5 HL5.out (by omega) hp5 hc5 (by omega) HPD.out (by omega) (by rw [HFA.out];exact Nat.zero_le _) (by omega));clear hp5 hb5))
     | (go_at_call 14;(with_reducible refine HCM.out.mono ?_);go_must (rintro e w6 hcm;unfold CmP at hcm;obtain ⟨E,s6,h6,rfl,F6,T6',U6,hr⟩:=hcm;obtain ⟨f6,seq6,pos6,L6,hf6,-,hE,hseq,hhome⟩:=hr.resolve_right (fun h=>h.2.1 HFA.out);have HFA6:=Lib.hid (hf6 HFA.out);have hsq6:seq6≤1+(k+1):=(by rw [hseq];have:=HSQ.out;split <;> omega);have hbl6:=F6.below (HL5.out.low HLL.out) (show lo≤w5.heap.size by omega);have hlow6:lo≤w6.heap.size:=(by have:=hbl6.size;omega);have HZ6:Hid (Below lo w0 w6):=(show Below _ _ _ from (HZ.out.trans (HB5.out.mono hlow2)).trans hbl6);have HL6:=Lib.hid (L6.more (show 10+400 * k+400≤10+400 * (k+1) by omega));clear L6 hf6 F6 T6' U6 hr hbl6 hE hseq hhome)))
    go_roundw
    case rel=>exact ⟨k+1,seq6,pos6,h6,s6,f6,by omega,by go_num,HL6,HFA6,hsq6,hlow6,HZ6⟩
    case measure=>simp [intOf];omega
  ·obtain rfl:k=m:=by omega
   have hhw:=homeW_any wr d l ring seq pos HL.out.lg.lg (by omega)
   rw [hhm] at hhw
   have HHM:=Lib.hid hhw
   have HSC:=Lib.hid (sectL_any wr lo d l h s f N ring seq pos _ HL.out hm9 hhm)
   obtain ⟨ps,hps⟩:∃ ps,putsV ats cs=ps:=⟨_,rfl⟩
   have HPD:Hid (∀ x ∈ ps,x.2.length=256):=(show ∀ x ∈ ps,_ by rw [← hps];exact putsV_data)
   obtain ⟨lw,hlw⟩:∃ x,homeL f N hm9=x:=⟨_,rfl⟩
   have HLW2:Hid (lw.length=N - hm9):=(show _=_ by rw [← hlw,homeL_len])
   have HPS:=Lib.hid hps
   have HLWE:=Lib.hid hlw
   clear hhw hps hlw
   go_upto_region 21 with (first
    | (go_at_call 10;(with_reducible refine HHM.out.mono ?_);go_must (rintro e w3h ⟨rfl,rfl⟩))
    | (go_at_call 11;(with_reducible refine HSC.out.mono ?_);go_must (rintro e w4 ⟨Aw,nw,cw,rfl,L4,-,hcw,hb4⟩;have HL4:=Lib.hid (HL.out.later hb4);rw [HLWE.out] at L4;have HS4:=Lib.hid L4;have HNW:Hid (nw=N - hm9):=(show _=_ by rw [← L4.len,HLW2.out]);have hz4:=hb4.size;have HZ4:=Lib.hid (HZ.out.trans (hb4.mono hlow2));have HCA:=Lib.hid (crashAtL_any w4 lo d l h s f N ring seq pos _ at_ Ak nk ck mb HL4.out (Rd.more (RdB.blw HMB.out (HBW.out.trans (hb4.mono hsz))) (by omega)) (by omega));clear L4 hb4))
    | (go_at_call 20;(with_reducible refine HCA.out.mono ?_);go_must (rintro e w4b ⟨⟨vc,rfl⟩,h4,q1,F4,T4,U4⟩;have HL4b:=Lib.hid q1;have HS4b:=Lib.hid (HS4.out.fr (F4.mono (fun g=>.inl)) (TL.tt (h:=h) (h':=h4) (by rw [T4];exact TT.refl _ _)));have hbl4:=F4.bel HL4.out.lg.dk;have hz4b:=hbl4.size;have HZ4b:=Lib.hid (HZ4.out.trans hbl4);have HB4b:=Lib.hid (HB0.out.trans (HZ4b.out.mono hlow));have hbc1:=(HZ4b.out.cell (p:=⟨w.heap.size,0,none⟩) hbx).trans HXA.out;have hbc2:=(HZ4b.out.cell (p:=⟨w.heap.size,1,none⟩) hbx).trans HXB.out;have hpu:=puts_any (TL d l h4) A1 A2 n1 n2 c1 c2 ats cs w4b (Rd.more (RdI.blw HR1.out HB4b.out) HB4b.out.size) (Rd.more (RdB.blw HR2.out HB4b.out) HB4b.out.size) (by omega) HL4b.out.fresh;rw [HPS.out] at hpu;have HPU:=Lib.hid hpu;clear q1 F4 T4 U4 hbl4 hpu))
    | (go_at_call 13;(with_reducible refine HPU.out.mono ?_);go_must (rintro e w5 ⟨A5,c5,v5,rfl,hp5,hc5,hb5⟩;have HB5:=Lib.hid hb5;have HL5:=Lib.hid (HL4b.out.later hb5);have HS5:=Lib.hid (HS4b.out.later hb5);have hz5:=hb5.size;have HZ5:=Lib.hid (HZ4b.out.trans (hb5.mono (show lo≤w4b.heap.size by omega)));have HCM:=Lib.hid (commitT_any lo d l h4 _ f N ring seq pos (10+400 * k) A5 n1 c5 ps w5 HL5.out (by omega) hp5 hc5 (by omega) HPD.out (by omega) (by show at_.toNat≤_;omega) (by omega));clear hp5 hb5))
    | (go_at_call 14;(with_reducible refine HCM.out.mono ?_);go_must (rintro e w6 hcm;unfold CmT at hcm;obtain ⟨E,s6,h6,f6,was,nps,ok,rfl,F6,T6',U6,D6,ht2,hout,hdn0,hdn1⟩:=hcm;rw [hhm] at hout;have HOUT:=Lib.hid hout;have HT2:=Lib.hid ht2;have HDN0:=Lib.hid hdn0;have HDN1:=Lib.hid hdn1;have HS6:=Lib.hid (HS5.out.fr F6 T6');have hbl6:=F6.below (HL5.out.low HLL.out) (show lo≤w5.heap.size by omega);have hlow6:lo≤w6.heap.size:=(by have:=hbl6.size;omega);have HZ6:=Lib.hid (HZ5.out.trans hbl6);have HB6:=Lib.hid (HB0.out.trans (HZ6.out.mono hlow));have HD6:=Lib.hid D6;have HFR6:Hid (∀ g,w6.heap.size≤g→¬ TL d l h6 g):=(show ∀ g,_ from fun g hg e=>e.elim (D6.dk.fresh g hg) (fun e=>by have:=HL5.out.lg.lg.lt;have:=F6.size;omega));have hbc61:=(HZ6.out.cell (p:=⟨w.heap.size,0,none⟩) hbx).trans HXA.out;have hbc62:=(HZ6.out.cell (p:=⟨w.heap.size,1,none⟩) hbx).trans HXB.out;clear F6 T6' U6 D6 ht2 hout hdn0 hdn1 hbl6)))
   rcases HOUT.out with ⟨hE,hlay,hok⟩ | ⟨hE0,hE12,-,hh1,-⟩
   ·have HOK:Hid (ok=false→homeL was N hm9=lw):=(show _→_ from fun e=>(hok e).2.trans HLWE.out)
    have HOKE:Hid (ok=false→E=12):=(show _→_ from fun e=>(hok e).1)
    have HLAY:=Lib.hid hlay
    clear hlay hok
    have HAP:=Lib.hid (applied_any (TL d l h6) Aw A1 A2 nw cw n1 n2 c1 c2 hm9 lw ats cs w6 HS6.out (Rd.more (RdI.blw HR1.out HB6.out) HB6.out.size) (Rd.more (RdB.blw HR2.out HB6.out) HB6.out.size) (by have:=HNW.out;omega) (by have:=HNW.out;omega) (by omega) (by omega) HFR6.out HATS.out)
    rcases hE with rfl | rfl
    ·have HOKT:Hid (ok=true):=(show _=_ by cases ok with | true=>rfl | false=>exact absurd (HOKE.out rfl) (by decide))
     clear HOKE
     have hdn6:s6.down=false:=HDN0.out (by decide)
     have HUP:=Lib.hid (upD_any lo d h6 s6)
     rw [hdn6] at HUP
     go_upto_region 26 with (first
      | (go_at_call 15;(with_reducible refine HAP.out.mono ?_);go_must (rintro e w7 ⟨A7,c7,rfl,hs7,hb7⟩;rw [HPS.out,← HLWE.out,← HLAY.out] at hs7;obtain ⟨lt,hlt'⟩:∃ x,homeL (layL was nps) N hm9=x:=⟨_,rfl⟩;rw [hlt'] at hs7;have HLT:=Lib.hid hlt';have HT7:=Lib.hid hs7;have HS7:=Lib.hid (HS6.out.later hb7);have HD8:=Lib.hid (HD6.out.later hb7);have hz7:=hb7.size;have HZ7:=Lib.hid (HZ6.out.trans (hb7.mono hlow6));have hlow7:lo≤w7.heap.size:=Nat.le_trans hlow6 hz7;have HCR:=Lib.hid (crashDS_any w7 lo d h6 s6 f6 N _ nk ck Ak mb HD8.out hlow7 (Rd.more (RdB.blw HMB.out (HB0.out.trans (HZ7.out.mono hlow))) hlow) (by omega));clear hb7 hs7 hlt'))
      | (go_at_call 23;(with_reducible refine (HUP.out w7 HD8.out.dk).mono ?_);go_must (rintro e w7u ⟨rfl,rfl⟩))
      | (go_at_call 24;(with_reducible refine HCR.out.mono ?_);go_must (rintro e w9 ⟨⟨vc9,rfl⟩,s9,h9,D9,-,F9,T9,-⟩;have HK9:Hid (AQ w0 w9 lo d N ring was nps (seq+1) ok Aw nw lw A7 nw lt (8500+200 * 0) h9 s9 f6):=(show AQ _ _ _ _ _ _ _ _ _ _ _ _ _ _ _ _ _ _ _ _ from AQ.step (h:=h6) (s:=s6) (f:=f6) (W:=_) ⟨HD8.out,HT2.out,HS7.out.sub (fun g=>.inl),HT7.out.sub (fun g=>.inl),HZ7.out,hlow7⟩ (D9.more (by omega)) HT2.out F9 T9);clear D9 F9 T9)))
     clear HCR HAP HUP HD6 HS6 HT7 HS7 HD8 HR HDN0 HDN1 HOUT
     go_wp2_with fail
     go_loopw [31] (fun vi wr=>∃ (i:Nat) (h:Hn) (s:Dk) (f:SF),i≤na∧vi=.int .i64 (i:Int)∧Hid (AQ w0 wr lo d N ring was nps (seq+1) ok Aw nw lw A7 nw lt (8500+200 * i) h s f)) (fun vi _=>na - (intOf vi).toNat)
     case atStart=>exact ⟨0,h9,s9,f6,Nat.zero_le _,rfl,HK9⟩
     case round =>
      clear HK9
      obtain ⟨i,ha,sa,fa,hi,rfl,HKA⟩:=hrel
      have HBA:=Lib.hid (HB0.out.trans (HKA.out.bel.mono hlow))
      have hsza:=HBA.out.size
      have hlowa:=HKA.out.low
      by_cases hli:i < na
      ·obtain ⟨bm,om,A',c',ml,rfl,hblm,hml,cem0,rm,hmc⟩:=HMS.out.row hli
       obtain ⟨ba,oa,x,rfl,hbla,HX,cea0⟩:=RdI.one HAG.out hli
       have hxb:=HAGB.out x (List.mem_of_getElem? HX.out)
       have HRM:=Lib.hid rm
       obtain ⟨mn,hmn⟩:∃ y,ml.length=y:=⟨_,rfl⟩
       rw [hmn] at cem0 HRM hmc
       have HCEM:=Lib.hid cem0
       have HCEA:=Lib.hid cea0
       have cem:=(HBA.out.cell (p:=⟨bm,om+i,none⟩) hblm).trans cem0
       clear hml rm hmn cem0 cea0
       by_cases h100:100 < mn
       ·have t3:(100:Int) < (mn:Int):=by omega
        go_wp2_with (first
         | (go_at_call 6;(with_reducible refine (first15_any _).mono ?_);go_must (rintro e wf ⟨rfl,hbf⟩;have HBF:=Lib.hid (HBA.out.trans (hbf.mono HBA.out.size));clear hbf)))
        go_ret
        exact ⟨rfl,HBF.out⟩
       ·have t3:¬ (100:Int) < (mn:Int):=by omega
        have HRB:=Lib.hid (rebootS_any wr lo d ha sa fa N _ HKA.out.ds)
        go_upto_region 32 with (first
         | (go_at_call 21;(with_reducible refine HRB.out.mono ?_);go_must (rintro e w10 ⟨⟨vc10,rfl⟩,D10,F10⟩;have HK10:=Lib.hid (HKA.out.step D10 HKA.out.t2 F10 (TT.refl _ _));have HB10:=Lib.hid (HB0.out.trans (HK10.out.bel.mono hlow));have hz10:=F10.size;have cem10:=(HB10.out.cell (p:=⟨bm,om+i,none⟩) hblm).trans HCEM.out;have cea10:=(HB10.out.cell (p:=⟨ba,oa+i,none⟩) hbla).trans HCEA.out;clear D10 F10)))
        have hX:=Below.refl w10.heap.size w10
        have HCA:=Lib.hid (fun (w':World) (hb:Below w10.heap.size w10 w')=>crashAtS_any w' lo d ha _ fa N _ x A' mn c' ml (HK10.out.ds.later hb) (Rd.more (RdB.blw HRM.out (HB10.out.trans (hb.mono HB10.out.size))) (Nat.le_trans HB10.out.size hb.size)) (by omega) hxb.2)
        go_region_law (first
         | (go_simp;go_at_call 20;(with_reducible refine (HCA.out _ ?_).mono ?_);(first | exact hX | exact Below.drew hX);go_must (rintro e w11 ⟨⟨vc11,rfl⟩,h11,D11,F11,T11,-⟩;have F11q:Fr (ha.T d) w10 w11:=⟨F11.os,F11.tape,F11.output,F11.size,F11.block⟩;have HK11:=Lib.hid (HK10.out.step D11 HK10.out.t2 F11q (by rw [T11];exact TT.refl _ _));have HOP:=Lib.hid (openT_any w11 lo d h11 _ fa N _ ring was nps (seq+1) ok HK11.out.ds HK11.out.low rfl HK11.out.t2 (by omega) (by omega));clear D11 F11 F11q T11)))
        all_goals
         go_upto_region 34 with (first
          | (go_at_call 9;(with_reducible refine HOP.out.mono ?_);go_must (rintro e w12 hop;unfold OpT at hop;obtain ⟨p12,R12,E12,s12,h12,f12,rfl,D12,t12,F12,T12,-,-⟩:=hop;have HK12:=Lib.hid ((HK11.out.step D12 t12 F12 T12).more (show 8500+200 * i+200≤8500+200 * (i+1) by omega));have HB12:=Lib.hid (HB0.out.trans (HK12.out.bel.mono hlow));have cem12:=(HB12.out.cell (p:=⟨bm,om+i,none⟩) hblm).trans HCEM.out;clear D12 t12 F12 T12)))
         have HUP:=Lib.hid (upD_any lo d h12 s12 w12 HK12.out.ds.dk)
         have HCR:=Lib.hid (crashDS_any w12 lo d h12 s12 f12 N _ mn c' A' ml HK12.out.ds HK12.out.low (Rd.more (RdB.blw HRM.out HB12.out) hlow) (by omega))
         cases hdn:s12.down with
         | true =>
          rw [hdn] at HUP
          go_wp2_with (first
           | (go_at_call 23;(with_reducible refine HUP.out.mono ?_);go_must (rintro e w12u ⟨rfl,rfl⟩)))
          go_roundw
          case rel=>exact ⟨i+1,h12,s12,f12,by omega,by go_num,HK12⟩
          case measure=>simp [intOf];omega
         | false =>
          rw [hdn] at HUP
          go_wp2_with (first
           | (go_at_call 23;(with_reducible refine HUP.out.mono ?_);go_must (rintro e w12u ⟨rfl,rfl⟩))
           | (go_at_call 24;(with_reducible refine HCR.out.mono ?_);go_must (rintro e w13 ⟨⟨vc13,rfl⟩,s13,h13,D13,-,F13,T13,-⟩;have HK13:=Lib.hid (HK12.out.step D13 HK12.out.t2 F13 T13);clear D13 F13 T13)))
          go_roundw
          case rel=>exact ⟨i+1,h13,s13,f12,by omega,by go_num,HK13⟩
          case measure=>simp [intOf];omega
      ·obtain rfl:i=na:=by omega
       have HCA:=Lib.hid (crashAtS_any wr lo d ha sa fa N _ 0 none 0 0 [] HKA.out.ds Rd.none_ (by omega) (by decide))
       go_upto_region 41 with (first
        | (go_at_call 20;(with_reducible refine HCA.out.mono ?_);go_must (rintro e w14 ⟨⟨vc14,rfl⟩,h14,D14,F14,T14,-⟩;have HK14:=Lib.hid (HKA.out.step D14 HKA.out.t2 F14 (by rw [T14];exact TT.refl _ _));have HRB:=Lib.hid (rebootS_any w14 lo d h14 _ fa N _ HK14.out.ds);clear D14 F14 T14))
        | (go_at_call 21;(with_reducible refine HRB.out.mono ?_);go_must (rintro e w15 ⟨⟨vc15,rfl⟩,D15,F15⟩;have HK15:=Lib.hid (HK14.out.step D15 HK14.out.t2 F15 (TT.refl _ _));have HOP:=Lib.hid (openT_any w15 lo d h14 _ fa N _ ring was nps (seq+1) ok HK15.out.ds HK15.out.low rfl HK15.out.t2 (by omega) (by omega));clear D15 F15))
        | (go_at_call 9;(with_reducible refine HOP.out.mono ?_);go_must (rintro e w16 hop;unfold OpT at hop;obtain ⟨p16,R16,E16,s16,h16,f16,rfl,D16,t16,F16,T16,hE16,hL16⟩:=hop;obtain ⟨rfl,-⟩:=hE16 rfl;obtain ⟨l16,seq16,pos16,rfl,-,L16,hs16,hfin⟩:=hL16 rfl;have HK16:=Lib.hid (HK15.out.step D16 t16 F16 T16);have HB16:=Lib.hid (HB0.out.trans (HK16.out.bel.mono hlow));have HL16:=Lib.hid L16;have HFIN:=Lib.hid (fin_at hhm HLT.out HOK.out hfin);clear D16 t16 F16 T16 hE16 hL16 L16 hfin)))
       have hcase:homeL f16 N hm9=lt∨(ok=false∧homeL f16 N hm9=lw∧¬ lw=lt):=by
        rcases HFIN.out with hf | ⟨he,hf⟩
        ·exact .inl hf
        ·by_cases hq:lw=lt
         ·exact .inl (hf.trans hq)
         ·exact .inr ⟨he,hf,hq⟩
       have HSC:=Lib.hid (sectS_any w16 lo d h16 s16 f16 N _ HK16.out.ds hm9 (by omega))
       rcases hcase with hf | ⟨he,hf,hq⟩
       ·have HLI3:=Lib.hid (fun (A A':Option Addr) (c c':Nat) (T T':Nat→Prop) (w:World) (h1:SecL w T A nw lt) (h2:SecL w T' A' nw lt)=>listsE_any T T' A A' nw nw c c' lt w h1 h2 (by have:=HNW.out;omega) (by have:=HNW.out;omega))
        rw [hf] at HSC
        have HHF:=Lib.hid hf
        clear hf
        go_wp2_with (first
         | (go_at_call 11;(with_reducible refine HSC.out.mono ?_);go_must (rintro e w17 ⟨A17,n17,c17,rfl,L17,-,-,hb17⟩;have hn17:nw=n17:=(by rw [← L17.len];rw [← HHF.out,homeL_len];exact HNW.out);subst hn17;have HS17:=Lib.hid L17;have HB17:=Lib.hid (HB16.out.trans (hb17.mono HB16.out.size));have HL17:=Lib.hid (HL16.out.later hb17);have HK17:=Lib.hid (HK16.out.later hb17);have HOP2:=Lib.hid (openL_any w17 lo d l16 h16 s16 f16 N ring seq16 pos16 _ HL17.out (by omega));clear L17 hb17))
         | (go_at_call 9;(with_reducible refine HOP2.out.mono ?_);go_must (rintro e w18 ⟨l18,h18,rfl,L18,-,-,hb18⟩;have HB18:=Lib.hid (HB17.out.trans (hb18.mono HB17.out.size));have HK18:=Lib.hid (HK17.out.later hb18);have HS18:=Lib.hid (HS17.out.later hb18);have hsc2:=sectL_any w18 lo d l18 h18 s16 f16 N ring seq16 pos16 _ L18 hm9 hhm;rw [HHF.out] at hsc2;have HSC2:=Lib.hid hsc2;clear L18 hb18 hsc2))
         | (go_at_call 11;(with_reducible refine HSC2.out.mono ?_);go_must (rintro e w19 ⟨A19,n19,c19,rfl,L19,-,-,hb19⟩;have hn19:nw=n19:=(by rw [← L19.len];rw [← HHF.out,homeL_len];exact HNW.out);subst hn19;have HB19:=Lib.hid (HB18.out.trans (hb19.mono HB18.out.size));have HK19:=Lib.hid (HK18.out.later hb19);have HS19:=Lib.hid (HS18.out.later hb19);have HLI2:=Lib.hid (HLI3.out A19 A17 c19 c17 _ _ w19 L19 HS19.out);clear L19 hb19))
         | (go_at_call 18;(with_reducible refine HLI2.out.mono ?_);go_must (rintro e w20 ⟨rfl,hb20⟩;have HB20:=Lib.hid (HB19.out.trans (hb20.mono HB19.out.size));have HK20:=Lib.hid (HK19.out.later hb20);have HS20:=Lib.hid (HS19.out.later hb20);clear hb20))
         | (go_at_call 6;(with_reducible refine (first15_any _).mono ?_);go_must (rintro e w20f ⟨rfl,hb20⟩;have HB20f:=Lib.hid (HB20.out.trans (hb20.mono HB20.out.size));have HK20f:=Lib.hid (HK20.out.later hb20);have HS20f:=Lib.hid (HS20.out.later hb20);have HLI:=Lib.hid (HLI3.out A17 A7 c17 c7 _ _ w20f HS20f.out HK20f.out.st);clear hb20))
         | (go_at_call 18;(with_reducible refine HLI.out.mono ?_);go_must (rintro e w21 ⟨rfl,hb21⟩;have HB21:=Lib.hid (HB20f.out.trans (hb21.mono HB20f.out.size));clear hb21)))
        go_ret
        exact ⟨rfl,HB21.out⟩
       ·rw [HOKT.out] at he;cases he
    ·clear HOKE
     have hdn6:s6.down=true:=HDN1.out rfl
     have HUP:=Lib.hid (upD_any lo d h6 s6)
     rw [hdn6] at HUP
     go_upto_region 26 with (first
      | (go_at_call 15;(with_reducible refine HAP.out.mono ?_);go_must (rintro e w7 ⟨A7,c7,rfl,hs7,hb7⟩;rw [HPS.out,← HLWE.out,← HLAY.out] at hs7;obtain ⟨lt,hlt'⟩:∃ x,homeL (layL was nps) N hm9=x:=⟨_,rfl⟩;rw [hlt'] at hs7;have HLT:=Lib.hid hlt';have HT7:=Lib.hid hs7;have HS7:=Lib.hid (HS6.out.later hb7);have HD8:=Lib.hid (HD6.out.later hb7);have hz7:=hb7.size;have HZ7:=Lib.hid (HZ6.out.trans (hb7.mono hlow6));have hlow7:lo≤w7.heap.size:=Nat.le_trans hlow6 hz7;have HCR:=Lib.hid (crashDS_any w7 lo d h6 s6 f6 N _ nk ck Ak mb HD8.out hlow7 (Rd.more (RdB.blw HMB.out (HB0.out.trans (HZ7.out.mono hlow))) hlow) (by omega));clear hb7 hs7 hlt'))
      | (go_at_call 23;(with_reducible refine (HUP.out w7 HD8.out.dk).mono ?_);go_must (rintro e w7u ⟨rfl,rfl⟩)))
     have HD9:=Lib.hid HD8.out
     have HK9:Hid (AQ w0 w7 lo d N ring was nps (seq+1) ok Aw nw lw A7 nw lt (8500+200 * 0) h6 s6 f6):=(show AQ _ _ _ _ _ _ _ _ _ _ _ _ _ _ _ _ _ _ _ _ from ⟨HD8.out.more (by omega),HT2.out,HS7.out.sub (fun g=>.inl),HT7.out.sub (fun g=>.inl),HZ7.out,hlow7⟩)
     clear HCR HAP HUP HD6 HS6 HT7 HS7 HD8 HR HDN0 HDN1 HOUT
     go_wp2_with fail
     go_loopw [31] (fun vi wr=>∃ (i:Nat) (h:Hn) (s:Dk) (f:SF),i≤na∧vi=.int .i64 (i:Int)∧Hid (AQ w0 wr lo d N ring was nps (seq+1) ok Aw nw lw A7 nw lt (8500+200 * i) h s f)) (fun vi _=>na - (intOf vi).toNat)
     case atStart=>exact ⟨0,h6,s6,f6,Nat.zero_le _,rfl,HK9⟩
     case round =>
      clear HK9
      obtain ⟨i,ha,sa,fa,hi,rfl,HKA⟩:=hrel
      have HBA:=Lib.hid (HB0.out.trans (HKA.out.bel.mono hlow))
      have hsza:=HBA.out.size
      have hlowa:=HKA.out.low
      by_cases hli:i < na
      ·obtain ⟨bm,om,A',c',ml,rfl,hblm,hml,cem0,rm,hmc⟩:=HMS.out.row hli
       obtain ⟨ba,oa,x,rfl,hbla,HX,cea0⟩:=RdI.one HAG.out hli
       have hxb:=HAGB.out x (List.mem_of_getElem? HX.out)
       have HRM:=Lib.hid rm
       obtain ⟨mn,hmn⟩:∃ y,ml.length=y:=⟨_,rfl⟩
       rw [hmn] at cem0 HRM hmc
       have HCEM:=Lib.hid cem0
       have HCEA:=Lib.hid cea0
       have cem:=(HBA.out.cell (p:=⟨bm,om+i,none⟩) hblm).trans cem0
       clear hml rm hmn cem0 cea0
       by_cases h100:100 < mn
       ·have t3:(100:Int) < (mn:Int):=by omega
        go_wp2_with (first
         | (go_at_call 6;(with_reducible refine (first15_any _).mono ?_);go_must (rintro e wf ⟨rfl,hbf⟩;have HBF:=Lib.hid (HBA.out.trans (hbf.mono HBA.out.size));clear hbf)))
        go_ret
        exact ⟨rfl,HBF.out⟩
       ·have t3:¬ (100:Int) < (mn:Int):=by omega
        have HRB:=Lib.hid (rebootS_any wr lo d ha sa fa N _ HKA.out.ds)
        go_upto_region 32 with (first
         | (go_at_call 21;(with_reducible refine HRB.out.mono ?_);go_must (rintro e w10 ⟨⟨vc10,rfl⟩,D10,F10⟩;have HK10:=Lib.hid (HKA.out.step D10 HKA.out.t2 F10 (TT.refl _ _));have HB10:=Lib.hid (HB0.out.trans (HK10.out.bel.mono hlow));have hz10:=F10.size;have cem10:=(HB10.out.cell (p:=⟨bm,om+i,none⟩) hblm).trans HCEM.out;have cea10:=(HB10.out.cell (p:=⟨ba,oa+i,none⟩) hbla).trans HCEA.out;clear D10 F10)))
        have hX:=Below.refl w10.heap.size w10
        have HCA:=Lib.hid (fun (w':World) (hb:Below w10.heap.size w10 w')=>crashAtS_any w' lo d ha _ fa N _ x A' mn c' ml (HK10.out.ds.later hb) (Rd.more (RdB.blw HRM.out (HB10.out.trans (hb.mono HB10.out.size))) (Nat.le_trans HB10.out.size hb.size)) (by omega) hxb.2)
        go_region_law (first
         | (go_simp;go_at_call 20;(with_reducible refine (HCA.out _ ?_).mono ?_);(first | exact hX | exact Below.drew hX);go_must (rintro e w11 ⟨⟨vc11,rfl⟩,h11,D11,F11,T11,-⟩;have F11q:Fr (ha.T d) w10 w11:=⟨F11.os,F11.tape,F11.output,F11.size,F11.block⟩;have HK11:=Lib.hid (HK10.out.step D11 HK10.out.t2 F11q (by rw [T11];exact TT.refl _ _));have HOP:=Lib.hid (openT_any w11 lo d h11 _ fa N _ ring was nps (seq+1) ok HK11.out.ds HK11.out.low rfl HK11.out.t2 (by omega) (by omega));clear D11 F11 F11q T11)))
        all_goals
         go_upto_region 34 with (first
          | (go_at_call 9;(with_reducible refine HOP.out.mono ?_);go_must (rintro e w12 hop;unfold OpT at hop;obtain ⟨p12,R12,E12,s12,h12,f12,rfl,D12,t12,F12,T12,-,-⟩:=hop;have HK12:=Lib.hid ((HK11.out.step D12 t12 F12 T12).more (show 8500+200 * i+200≤8500+200 * (i+1) by omega));have HB12:=Lib.hid (HB0.out.trans (HK12.out.bel.mono hlow));have cem12:=(HB12.out.cell (p:=⟨bm,om+i,none⟩) hblm).trans HCEM.out;clear D12 t12 F12 T12)))
         have HUP:=Lib.hid (upD_any lo d h12 s12 w12 HK12.out.ds.dk)
         have HCR:=Lib.hid (crashDS_any w12 lo d h12 s12 f12 N _ mn c' A' ml HK12.out.ds HK12.out.low (Rd.more (RdB.blw HRM.out HB12.out) hlow) (by omega))
         cases hdn:s12.down with
         | true =>
          rw [hdn] at HUP
          go_wp2_with (first
           | (go_at_call 23;(with_reducible refine HUP.out.mono ?_);go_must (rintro e w12u ⟨rfl,rfl⟩)))
          go_roundw
          case rel=>exact ⟨i+1,h12,s12,f12,by omega,by go_num,HK12⟩
          case measure=>simp [intOf];omega
         | false =>
          rw [hdn] at HUP
          go_wp2_with (first
           | (go_at_call 23;(with_reducible refine HUP.out.mono ?_);go_must (rintro e w12u ⟨rfl,rfl⟩))
           | (go_at_call 24;(with_reducible refine HCR.out.mono ?_);go_must (rintro e w13 ⟨⟨vc13,rfl⟩,s13,h13,D13,-,F13,T13,-⟩;have HK13:=Lib.hid (HK12.out.step D13 HK12.out.t2 F13 T13);clear D13 F13 T13)))
          go_roundw
          case rel=>exact ⟨i+1,h13,s13,f12,by omega,by go_num,HK13⟩
          case measure=>simp [intOf];omega
      ·obtain rfl:i=na:=by omega
       have HCA:=Lib.hid (crashAtS_any wr lo d ha sa fa N _ 0 none 0 0 [] HKA.out.ds Rd.none_ (by omega) (by decide))
       go_upto_region 41 with (first
        | (go_at_call 20;(with_reducible refine HCA.out.mono ?_);go_must (rintro e w14 ⟨⟨vc14,rfl⟩,h14,D14,F14,T14,-⟩;have HK14:=Lib.hid (HKA.out.step D14 HKA.out.t2 F14 (by rw [T14];exact TT.refl _ _));have HRB:=Lib.hid (rebootS_any w14 lo d h14 _ fa N _ HK14.out.ds);clear D14 F14 T14))
        | (go_at_call 21;(with_reducible refine HRB.out.mono ?_);go_must (rintro e w15 ⟨⟨vc15,rfl⟩,D15,F15⟩;have HK15:=Lib.hid (HK14.out.step D15 HK14.out.t2 F15 (TT.refl _ _));have HOP:=Lib.hid (openT_any w15 lo d h14 _ fa N _ ring was nps (seq+1) ok HK15.out.ds HK15.out.low rfl HK15.out.t2 (by omega) (by omega));clear D15 F15))
        | (go_at_call 9;(with_reducible refine HOP.out.mono ?_);go_must (rintro e w16 hop;unfold OpT at hop;obtain ⟨p16,R16,E16,s16,h16,f16,rfl,D16,t16,F16,T16,hE16,hL16⟩:=hop;obtain ⟨rfl,-⟩:=hE16 rfl;obtain ⟨l16,seq16,pos16,rfl,-,L16,hs16,hfin⟩:=hL16 rfl;have HK16:=Lib.hid (HK15.out.step D16 t16 F16 T16);have HB16:=Lib.hid (HB0.out.trans (HK16.out.bel.mono hlow));have HL16:=Lib.hid L16;have HFIN:=Lib.hid (fin_at hhm HLT.out HOK.out hfin);clear D16 t16 F16 T16 hE16 hL16 L16 hfin)))
       have hcase:homeL f16 N hm9=lt∨(ok=false∧homeL f16 N hm9=lw∧¬ lw=lt):=by
        rcases HFIN.out with hf | ⟨he,hf⟩
        ·exact .inl hf
        ·by_cases hq:lw=lt
         ·exact .inl (hf.trans hq)
         ·exact .inr ⟨he,hf,hq⟩
       have HSC:=Lib.hid (sectS_any w16 lo d h16 s16 f16 N _ HK16.out.ds hm9 (by omega))
       rcases hcase with hf | ⟨he,hf,hq⟩
       ·have HLI3:=Lib.hid (fun (A A':Option Addr) (c c':Nat) (T T':Nat→Prop) (w:World) (h1:SecL w T A nw lt) (h2:SecL w T' A' nw lt)=>listsE_any T T' A A' nw nw c c' lt w h1 h2 (by have:=HNW.out;omega) (by have:=HNW.out;omega))
        rw [hf] at HSC
        have HHF:=Lib.hid hf
        clear hf
        go_wp2_with (first
         | (go_at_call 11;(with_reducible refine HSC.out.mono ?_);go_must (rintro e w17 ⟨A17,n17,c17,rfl,L17,-,-,hb17⟩;have hn17:nw=n17:=(by rw [← L17.len];rw [← HHF.out,homeL_len];exact HNW.out);subst hn17;have HS17:=Lib.hid L17;have HB17:=Lib.hid (HB16.out.trans (hb17.mono HB16.out.size));have HL17:=Lib.hid (HL16.out.later hb17);have HK17:=Lib.hid (HK16.out.later hb17);have HOP2:=Lib.hid (openL_any w17 lo d l16 h16 s16 f16 N ring seq16 pos16 _ HL17.out (by omega));clear L17 hb17))
         | (go_at_call 9;(with_reducible refine HOP2.out.mono ?_);go_must (rintro e w18 ⟨l18,h18,rfl,L18,-,-,hb18⟩;have HB18:=Lib.hid (HB17.out.trans (hb18.mono HB17.out.size));have HK18:=Lib.hid (HK17.out.later hb18);have HS18:=Lib.hid (HS17.out.later hb18);have hsc2:=sectL_any w18 lo d l18 h18 s16 f16 N ring seq16 pos16 _ L18 hm9 hhm;rw [HHF.out] at hsc2;have HSC2:=Lib.hid hsc2;clear L18 hb18 hsc2))
         | (go_at_call 11;(with_reducible refine HSC2.out.mono ?_);go_must (rintro e w19 ⟨A19,n19,c19,rfl,L19,-,-,hb19⟩;have hn19:nw=n19:=(by rw [← L19.len];rw [← HHF.out,homeL_len];exact HNW.out);subst hn19;have HB19:=Lib.hid (HB18.out.trans (hb19.mono HB18.out.size));have HK19:=Lib.hid (HK18.out.later hb19);have HS19:=Lib.hid (HS18.out.later hb19);have HLI2:=Lib.hid (HLI3.out A19 A17 c19 c17 _ _ w19 L19 HS19.out);clear L19 hb19))
         | (go_at_call 18;(with_reducible refine HLI2.out.mono ?_);go_must (rintro e w20 ⟨rfl,hb20⟩;have HB20:=Lib.hid (HB19.out.trans (hb20.mono HB19.out.size));have HK20:=Lib.hid (HK19.out.later hb20);have HS20:=Lib.hid (HS19.out.later hb20);clear hb20))
         | (go_at_call 6;(with_reducible refine (first15_any _).mono ?_);go_must (rintro e w20f ⟨rfl,hb20⟩;have HB20f:=Lib.hid (HB20.out.trans (hb20.mono HB20.out.size));have HK20f:=Lib.hid (HK20.out.later hb20);have HS20f:=Lib.hid (HS20.out.later hb20);have HLI:=Lib.hid (HLI3.out A17 A7 c17 c7 _ _ w20f HS20f.out HK20f.out.st);clear hb20))
         | (go_at_call 18;(with_reducible refine HLI.out.mono ?_);go_must (rintro e w21 ⟨rfl,hb21⟩;have HB21:=Lib.hid (HB20f.out.trans (hb21.mono HB20f.out.size));clear hb21)))
        go_ret
        exact ⟨rfl,HB21.out⟩
       ·have HLI3:=Lib.hid (fun (A A':Option Addr) (c c':Nat) (T T':Nat→Prop) (w:World) (h1:SecL w T A nw lw) (h2:SecL w T' A' nw lw)=>listsE_any T T' A A' nw nw c c' lw w h1 h2 (by have:=HNW.out;omega) (by have:=HNW.out;omega))
        have HLI4:=Lib.hid (fun (A A':Option Addr) (c c':Nat) (T T':Nat→Prop) (w:World) (h1:SecL w T A nw lw) (h2:SecL w T' A' nw lt)=>listsN_any T T' A A' nw nw c c' lw lt w h1 h2 (by have:=HNW.out;omega) (by have:=HNW.out;omega) hq)
        rw [hf] at HSC
        have HHF:=Lib.hid hf
        clear hf he
        go_wp2_with (first
         | (go_at_call 11;(with_reducible refine HSC.out.mono ?_);go_must (rintro e w17 ⟨A17,n17,c17,rfl,L17,-,-,hb17⟩;have hn17:nw=n17:=(by rw [← L17.len];rw [← HHF.out,homeL_len];exact HNW.out);subst hn17;have HS17:=Lib.hid L17;have HB17:=Lib.hid (HB16.out.trans (hb17.mono HB16.out.size));have HL17:=Lib.hid (HL16.out.later hb17);have HK17:=Lib.hid (HK16.out.later hb17);have HOP2:=Lib.hid (openL_any w17 lo d l16 h16 s16 f16 N ring seq16 pos16 _ HL17.out (by omega));clear L17 hb17))
         | (go_at_call 9;(with_reducible refine HOP2.out.mono ?_);go_must (rintro e w18 ⟨l18,h18,rfl,L18,-,-,hb18⟩;have HB18:=Lib.hid (HB17.out.trans (hb18.mono HB17.out.size));have HK18:=Lib.hid (HK17.out.later hb18);have HS18:=Lib.hid (HS17.out.later hb18);have hsc2:=sectL_any w18 lo d l18 h18 s16 f16 N ring seq16 pos16 _ L18 hm9 hhm;rw [HHF.out] at hsc2;have HSC2:=Lib.hid hsc2;clear L18 hb18 hsc2))
         | (go_at_call 11;(with_reducible refine HSC2.out.mono ?_);go_must (rintro e w19 ⟨A19,n19,c19,rfl,L19,-,-,hb19⟩;have hn19:nw=n19:=(by rw [← L19.len];rw [← HHF.out,homeL_len];exact HNW.out);subst hn19;have HB19:=Lib.hid (HB18.out.trans (hb19.mono HB18.out.size));have HK19:=Lib.hid (HK18.out.later hb19);have HS19:=Lib.hid (HS18.out.later hb19);have HLI2:=Lib.hid (HLI3.out A19 A17 c19 c17 _ _ w19 L19 HS19.out);clear L19 hb19))
         | (go_at_call 18;(with_reducible refine HLI2.out.mono ?_);go_must (rintro e w20 ⟨rfl,hb20⟩;have HB20:=Lib.hid (HB19.out.trans (hb20.mono HB19.out.size));have HK20:=Lib.hid (HK19.out.later hb20);have HS20:=Lib.hid (HS19.out.later hb20);clear hb20))
         | (go_at_call 6;(with_reducible refine (first15_any _).mono ?_);go_must (rintro e w20f ⟨rfl,hb20⟩;have HB20f:=Lib.hid (HB20.out.trans (hb20.mono HB20.out.size));have HK20f:=Lib.hid (HK20.out.later hb20);have HS20f:=Lib.hid (HS20.out.later hb20);have HLI:=Lib.hid (HLI4.out A17 A7 c17 c7 _ _ w20f HS20f.out HK20f.out.st);clear hb20))
         | (go_at_call 18;(with_reducible refine HLI.out.mono ?_);go_must (rintro e w21 ⟨rfl,hb21⟩;have HB21:=Lib.hid (HB20f.out.trans (hb21.mono HB20f.out.size));have HK21:=Lib.hid (HK20f.out.later hb21);have HS21:=Lib.hid (HS20f.out.later hb21);have HLI5:=Lib.hid (HLI3.out A17 Aw c17 cw _ _ w21 HS21.out HK21.out.sw);clear hb21))
         | (go_at_call 18;(with_reducible refine HLI5.out.mono ?_);go_must (rintro e w22 ⟨rfl,hb22⟩;have HB22:=Lib.hid (HB21.out.trans (hb22.mono HB21.out.size));clear hb22)))
        go_ret
        exact ⟨rfl,HB22.out⟩
   ·have e1:¬ E=0:=hE0
    have e2:¬ E=12:=hE12
    have e1b:(E == 0)=false:=beq_eq_false_iff_ne.2 e1
    have e2b:(E == 12)=false:=beq_eq_false_iff_ne.2 e2
    have e1c:(E != 0)=true:=by simp [bne,e1b]
    have e2c:(E != 12)=true:=by simp [bne,e2b]
    have HH1:=Lib.hid hh1
    clear hE0 hE12 hh1
    go_wp2_with (first
     | (go_at_call 6;(with_reducible refine (first15_any _).mono ?_);go_must (rintro e w8 ⟨rfl,hb8⟩;have HB8:=Lib.hid (HB6.out.trans (hb8.mono HB6.out.size));have HS8:=Lib.hid (HS6.out.later hb8);have HD8:=Lib.hid (HD6.out.later hb8);have HSC8:=Lib.hid (sectS_any w8 lo d h6 s6 f6 N _ HD8.out hm9 (by omega));clear hb8))
     | (go_at_call 11;(with_reducible refine HSC8.out.mono ?_);go_must (rintro e w9 ⟨A9,n9,c9,rfl,L9,-,-,hb9⟩;rw [HH1.out,HLWE.out] at L9;have HB9:=Lib.hid (HB8.out.trans (hb9.mono HB8.out.size));have HS9:=Lib.hid (HS8.out.later hb9);have HLI:=Lib.hid (listsE_any _ _ A9 Aw n9 nw c9 cw lw w9 L9 HS9.out (by have:=L9.len;have:=HLW2.out;omega) (by have:=HNW.out;omega));clear L9 hb9))
     | (go_at_call 18;(with_reducible refine HLI.out.mono ?_);go_must (rintro e w10 ⟨rfl,hb10⟩;have HB10:=Lib.hid (HB9.out.trans (hb10.mono HB9.out.size));clear hb10)))
    go_ret
    exact ⟨rfl,HB10.out⟩
end Go.Proofs.Ytdoanopeejeeiaa

