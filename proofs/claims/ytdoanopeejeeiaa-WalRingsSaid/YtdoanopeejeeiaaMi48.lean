/- XWalRings -/
import Derived.Test.YtdoanopeejeeiaaMi47
namespace Go.Proofs.Ytdoanopeejeeiaa
set_option linter.all false
open Go.RowKit Go.Maps
/-- A disk that is new, formatted. -/
theorem fmtL_any (N ring lo d:Nat) (h:Hn) (w:World) (H:DkOk w lo d h (newD N)) (hlo:lo≤w.heap.size) (hU:∀ g,¬ h.U g) (h1:1≤ring) (h2:ring+4≤N):Calls Try.prog 8 #[.pointer (some ⟨d,0,none⟩),.int .i64 (ring:Int)] w fun e w'=>∃ s' h',e=.returned (.int .i64 0)∧s'.n=N∧s'.mask=[]∧s'.writes≤2∧s'.falls=0∧s'.down=false∧At s' (layL (fun _=>zeros) [(0,headB ring 1 0),(1,zeros)])∧DkOk w' lo d h' s'∧Fr (h.T d) w w'∧TT w (h.T d) (h'.T d)∧h'.U=h.U:=by
 refine (formatW_ok lo d h (newD N) (fun _=>zeros) ring w H hlo (At.newD N) rfl h1 h2 (Nat.zero_le _) (Nat.zero_le _) (Nat.zero_le _) (fun g _=>hU g)).mono ?_
 rintro e w' ⟨E,s',h',rfl,r,H',F,T,U⟩
 obtain ⟨hf0,rfl⟩:=r.falls rfl
 obtain ⟨-,hd,ha⟩:=r.res.resolve_right (fun h=>absurd h.1 (by decide))
 exact ⟨s',h',rfl,r.n,r.mask,r.writes,hf0,hd,ha,H',F,T,U⟩
/-- Open, as the laws see it, where nothing is to be redone. -/
theorem openL_any (w:World) (lo d l:Nat) (h:Hn) (s:Dk) (f:SF) (N ring seq pos W:Nat) (H:LS w lo d l h s f N ring seq pos W) (hs:seq≤1000000):Calls Try.prog 9 #[.pointer (some ⟨d,0,none⟩)] w fun e w'=>∃ l' h',e=.returned (.tuple #[.pointer (some ⟨l',0,none⟩),.bool false,.int .i64 0])∧LS w' lo d l' h' s f N ring seq pos W∧h'.T d=h.T d∧w.heap.size≤l'∧Below w.heap.size w w':=by
 refine (openA_any lo d h s f ring seq pos w H.lg.dk H.ats H.up (by rw [H.n];exact H.log) hs).mono ?_
 rintro e w' ⟨l',h',rfl,L,hT,hl,hb⟩
 exact ⟨l',h',rfl,⟨L,H.ats,H.up,H.n,H.mask,H.log,H.wr⟩,hT,hl,hb⟩
theorem sectL_any (w:World) (lo d l:Nat) (h:Hn) (s:Dk) (f:SF) (N ring seq pos W:Nat) (H:LS w lo d l h s f N ring seq pos W) (hm:Nat) (hhm:2+ring=hm):Calls Try.prog 11 #[.pointer (some ⟨d,0,none⟩),.int .i64 (hm:Int)] w fun e w'=>∃ A n c,e=.returned (.slice A n c)∧SecL w' (TL d l h) A n (homeL f N hm)∧n≤c∧c≤maxLen∧Below w.heap.size w w':=by
 subst hhm
 have:=sectorsW_any lo d (2+ring) h s f (TL d l h) w H.lg.dk H.ats H.fresh H.mask (by rw [H.n];have:=H.log.r2;omega)
 rw [H.n] at this
 exact this
theorem listsE_any (T T':Nat→Prop) (A A':Option Addr) (n n' c c':Nat) (ls:List Bs) (w:World) (h:SecL w T A n ls) (h':SecL w T' A' n' ls) (hn:n≤5000) (hn':n'≤5000) :
  Calls Try.prog 18 #[.slice A n c,.slice A' n' c'] w fun e w'=>e=.returned (.bool true)∧Below w.heap.size w w':=by
 have:=listsW_any T T' A A' n n' c c' ls ls w h h' hn hn'
 rw [decide_eq_true (rfl:ls=ls)] at this
 exact this
set_option maxRecDepth 100000 in
set_option maxHeartbeats 12800000 in
theorem walRings_out (n ring:Int) (A:Option Addr) (m c:Nat) (w:World) (hk:n < 4∨200 < n∨ring < 1∨n - 4 < ring∨40 < m) :
  Calls Try.prog 3 #[.int .i64 n,.int .i64 ring,.slice A m c] w fun e w'=>e=.returned (.bool true)∧Below w.heap.size w w':=by
 have HB:Hid (Below w.heap.size w w):=Below.refl _ _
 by_cases h1:n < 4∨4096 < n
 ·have HN:=Lib.hid (fun w'=>newD_bad n w' h1)
  clear h1 hk
  go_enter Try.func3,Try.ntmps3
  go_wp2_with (first
   | (go_at_call 6;(with_reducible refine (first15_any _).mono ?_);go_must (rintro e wf ⟨rfl,hb1⟩;replace HB:=Lib.hid (HB.out.trans (hb1.mono HB.out.size));clear hb1))
   | (go_at_call 7;(with_reducible refine (HN.out _).mono ?_);go_must (rintro e w1 ⟨rfl,rfl⟩)))
  go_ret
  exact ⟨rfl,HB.out⟩
 obtain ⟨N,rfl⟩:∃ N:Nat,n=(N:Int):=⟨n.toNat,by omega⟩
 have HN:=Lib.hid (fun w'=>newD_any N w' (by omega) (by omega))
 by_cases h2:200 < N
 ·have t1:(200:Int) < (N:Int):=by omega
  clear h1 hk
  go_enter Try.func3,Try.ntmps3
  go_wp2_with (first
   | (go_at_call 6;(with_reducible refine (first15_any _).mono ?_);go_must (rintro e wf ⟨rfl,hb1⟩;replace HB:=Lib.hid (HB.out.trans (hb1.mono HB.out.size));clear hb1))
   | (go_at_call 7;(with_reducible refine (HN.out _).mono ?_);go_must (rintro e w1 ⟨d,h0,rfl,hd,hu,hb1⟩;have hlo0:=HB.out.size;have hlo1:=hb1.size;replace HB:=Lib.hid (HB.out.trans (hb1.mono HB.out.size));have HD:=Lib.hid hd;have HU:=Lib.hid hu;clear hd hb1 hu)))
  go_ret
  exact ⟨rfl,HB.out⟩
 have t1:¬ (200:Int) < (N:Int):=by omega
 have t1d:decide ((200:Int) < (N:Int))=false:=decide_eq_false t1
 by_cases h3:ring < 1∨(N:Int) - 4 < ring
 ·have HFB:=Lib.hid (fun lo d h w' (H:DkOk w' lo d h (newD N))=>formatW_bad lo d h (newD N) ring w' H h3)
  clear h1 hk
  go_enter Try.func3,Try.ntmps3
  go_wp2_with (first
   | (go_at_call 6;(with_reducible refine (first15_any _).mono ?_);go_must (rintro e wf ⟨rfl,hb1⟩;replace HB:=Lib.hid (HB.out.trans (hb1.mono HB.out.size));clear hb1))
   | (go_at_call 7;(with_reducible refine (HN.out _).mono ?_);go_must (rintro e w1 ⟨d,h0,rfl,hd,hu,hb1⟩;have hlo0:=HB.out.size;have hlo1:=hb1.size;replace HB:=Lib.hid (HB.out.trans (hb1.mono HB.out.size));have HD:=Lib.hid hd;have HU:=Lib.hid hu;clear hd hb1 hu))
   | (go_at_call 8;(with_reducible refine (HFB.out _ _ _ _ HD.out).mono ?_);go_must (rintro e w2 ⟨rfl,rfl⟩)))
  go_ret
  exact ⟨rfl,HB.out⟩
 obtain ⟨R,rfl⟩:∃ R:Nat,ring=(R:Int):=⟨ring.toNat,by omega⟩
 have HFM:=Lib.hid (fun lo d h w' (H:DkOk w' lo d h (newD N)) hlo hU=>fmtL_any N R lo d h w' H hlo hU (by omega) (by omega))
 have t2:(40:Int) < (m:Int):=by omega
 clear h1 hk h3
 go_enter Try.func3,Try.ntmps3
 go_wp2_with (first
  | (go_at_call 6;(with_reducible refine (first15_any _).mono ?_);go_must (rintro e wf ⟨rfl,hb1⟩;replace HB:=Lib.hid (HB.out.trans (hb1.mono HB.out.size));clear hb1))
  | (go_at_call 7;(with_reducible refine (HN.out _).mono ?_);go_must (rintro e w1 ⟨d,h0,rfl,hd,hu,hb1⟩;have hlo0:=HB.out.size;have hlo1:=hb1.size;replace HB:=Lib.hid (HB.out.trans (hb1.mono HB.out.size));have HD:=Lib.hid hd;have HU:=Lib.hid hu;clear hd hb1 hu))
  | (go_at_call 8;(with_reducible refine (HFM.out _ _ _ _ HD.out hlo1 HU.out).mono ?_);go_must (rintro e w2 ⟨s2,h2,rfl,-,-,-,-,-,-,-,F2,-,-⟩;replace HB:=Lib.hid (HB.out.trans ((F2.bel HD.out).mono hlo0));clear F2)))
 go_ret
 exact ⟨rfl,HB.out⟩
set_option maxRecDepth 100000 in
set_option maxHeartbeats 51200000 in
theorem walRings_main (N ring:Nat) (A:Option Addr) (m c:Nat) (zs:List (List Int × Bs)) (w:World) (hr:RdSets w w.heap.size A m zs) (hN1:4≤N) (hN2:N≤200) (h1:1≤ring) (h2:ring+4≤N) (hm:m≤40) :
  Calls Try.prog 3 #[.int .i64 (N:Int),.int .i64 (ring:Int),.slice A m c] w fun e w'=>e=.returned (.bool true)∧Below w.heap.size w w':=by
 obtain ⟨hm9,hhm⟩:∃ x,2+ring=x:=⟨_,rfl⟩
 have hhmi:(2:Int)+(ring:Int)=(hm9:Int):=by omega
 have HR:=Lib.hid hr
 have hzl:=hr.len
 have t1:¬ (200:Int) < (N:Int):=by omega
 have t2:¬ (40:Int) < (m:Int):=by omega
 clear hr
 go_enter Try.func3,Try.ntmps3
 go_upto_region 12 with (first
  | (go_at_call 6;(with_reducible refine (first15_any _).mono ?_);go_must (rintro e w0 ⟨rfl,hb0⟩;have HB0:=Lib.hid hb0;have HN0:=Lib.hid (newD_any N w0 hN1 (by omega));clear hb0))
  | (go_at_call 7;(with_reducible refine HN0.out.mono ?_);go_must (rintro e w1 ⟨d,h1,rfl,H1,U1,hb1⟩;have HB1:=Lib.hid (HB0.out.trans (hb1.mono HB0.out.size));have hz1:=hb1.size;have HFM1:=Lib.hid (fmtL_any N ring w0.heap.size d h1 w1 H1 hz1 U1 (by assumption) (by assumption));have HD1:=Lib.hid H1;clear H1 U1 hb1))
  | (go_at_call 8;(with_reducible refine HFM1.out.mono ?_);go_must (rintro e w2 ⟨s2,h2,rfl,n2,m2,wr2,f2,d2,a2,H2,F2,T2,U2⟩;have hbl2:=F2.bel HD1.out;have HB2:=Lib.hid (HB1.out.trans (hbl2.mono HB0.out.size));have hz2:=hbl2.size;have HO:=Lib.hid (openA_any w0.heap.size d h2 s2 _ ring 1 0 w2 H2 a2 d2 (by rw [n2];exact fmt_log (s:=s2) (f:=fun _=>zeros) (by assumption) (by assumption)) (by decide));have HN2:=Lib.hid n2;have HM2:=Lib.hid m2;have HW2:=Lib.hid wr2;have HF0:=Lib.hid f2;have HD2:=Lib.hid d2;have HA2:=Lib.hid a2;clear n2 m2 wr2 f2 d2 a2 H2 F2 T2 U2 hbl2))
  | (go_at_call 9;(with_reducible refine HO.out.mono ?_);go_must (rintro e w3 ⟨l,h3,rfl,L3,-,hl3,hb3⟩;have HB3:=Lib.hid (HB2.out.trans (hb3.mono HB2.out.size));have HLL:Hid (w0.heap.size≤l):=(show _≤_ by omega);have hz3:=hb3.size;have HL3:Hid (LS w3 w0.heap.size d l h3 s2 _ N ring 1 0 10):=(show LS _ _ _ _ _ _ _ _ _ _ _ _ from ⟨L3,HA2.out,HD2.out,HN2.out,by rw [HM2.out];exact Nat.zero_le _,fmt_log (s:=s2) (f:=fun _=>zeros) (by assumption) (by assumption),by have:=HW2.out;omega⟩);have hhw:=homeW_any w3 d l ring 1 0 L3.lg (by omega);rw [hhm] at hhw;have HHM:=Lib.hid hhw;clear hhw;have HSC:=Lib.hid (sectL_any w3 w0.heap.size d l h3 s2 _ N ring 1 0 10 HL3.out hm9 hhm);clear L3 hb3 hl3))
  | (go_at_call 10;(with_reducible refine HHM.out.mono ?_);go_must (rintro e w3 ⟨rfl,rfl⟩))
  | (go_at_call 11;(with_reducible refine HSC.out.mono ?_);go_must (rintro e w4 ⟨A4,n4,c4,rfl,L4,-,-,hb4⟩;have HB4:=Lib.hid (HB3.out.trans (hb4.mono HB3.out.size));have HL4:=Lib.hid (HL3.out.later hb4);have HS4:=Lib.hid L4;have HSQ:=Lib.hid (seqW_any w4 d l ring 1 0 HL4.out.lg.lg);have HW04:Hid (w0.heap.size≤w4.heap.size):=(show _≤_ by have:=hb4.size;omega);have hz4:=hb4.size;clear L4 hb4))
  | (go_at_call 12;(with_reducible refine HSQ.out.mono ?_);go_must (rintro e w4 ⟨rfl,rfl⟩)))
 clear HHM HSC HO HFM1 HN0 HSQ
 obtain ⟨lo,hlo⟩:∃ x,w0.heap.size=x:=⟨_,rfl⟩
 rw [hlo] at HL4 HLL
 have hlow:w.heap.size≤lo:=by rw [← hlo];exact HB0.out.size
 have hlo4:lo≤w4.heap.size:=by rw [← hlo];exact HW04.out
 clear HW04 HB0 HB1 HB2 HB3 hlo
 go_wp2_with fail
 go_loopw [13,14,15] (fun v13 v14 vi wr=>∃ (k seq pos:Nat) (h:Hn) (s:Dk) (f:SF) (Aq:Option Addr) (nq cq:Nat),k≤m∧vi=.int .i64 (k:Int)∧v14=.int .i64 (seq:Int)∧v13=.slice Aq nq cq∧Hid (LS wr lo d l h s f N ring seq pos (10+400 * k))∧Hid (s.falls=0)∧Hid (seq≤1+k)∧Hid (SecL wr (TL d l h) Aq nq (homeL f N hm9))∧Hid (lo≤wr.heap.size)∧Hid (Below w.heap.size w wr)) (fun _ _ vi _=>m - (intOf vi).toNat)
 case atStart=>exact ⟨0,1,0,h3,s2,_,A4,n4,c4,Nat.zero_le _,rfl,rfl,rfl,HL4.out.more (by decide),HF0,Nat.le_refl _,HS4,hlo4,HB4⟩
 case round =>
  obtain ⟨k,seq,pos,h,s,f,Aq,nq,cq,hk,rfl,rfl,rfl,HL,HFA,HSQ,HSL,HLW,HBW⟩:=hrel
  have hsq:seq≤50:=by have:=HSQ.out;omega
  have HNQ:Hid (nq=N - hm9):=(show _=_ by rw [← HSL.out.len,homeL_len])
  have hnq1:1≤nq:=by have:=HNQ.out;omega
  have hnq2:nq≤200:=by have:=HNQ.out;omega
  have hsz:=HBW.out.size
  have hlow2:=HLW.out
  by_cases hlt:k < m
  ·obtain ⟨⟨ats,cs⟩,hz⟩:∃ x,zs[k]?=some x:=⟨_,List.getElem?_eq_getElem (show k < zs.length by omega)⟩
   obtain ⟨b,o,A1,n1,c1,A2,n2,c2,rfl,hbl,k1,k2,r1,r2,r3⟩:=(HR.out.blw HBW.out).get hz
   have HR1:=Lib.hid r1
   have HR2:=Lib.hid r2
   have HR3:=Lib.hid r3
   have hl1:=r1.len
   have hkw:b < wr.heap.size:=by omega
   clear hz r1 r2 r3
   by_cases h150:150 < n1
   ·have t3:(150:Int) < (n1:Int):=by omega
    go_wp2_with (first
     | (go_at_call 6;(with_reducible refine (first15_any _).mono ?_);go_must (rintro e wf ⟨rfl,hbf⟩;have HBF:=Lib.hid (HBW.out.trans (hbf.mono HBW.out.size));clear hbf)))
    go_ret
    exact ⟨rfl,HBF.out⟩
   ·have t3:¬ (150:Int) < (n1:Int):=by omega
    have t3d:decide ((150:Int) < (n1:Int))=false:=decide_eq_false t3
    have HPU:=Lib.hid (puts_any (TL d l h) A1 A2 n1 n2 c1 c2 ats cs wr (Rd.more HR1.out hsz) (Rd.more HR2.out hsz) (by omega) HL.out.fresh)
    obtain ⟨ps,hps⟩:∃ ps,putsV ats cs=ps:=⟨_,rfl⟩
    have hpl:ps.length=n1:=by rw [← hps,putsV_len,hl1]
    have HPD:Hid (∀ x ∈ ps,x.2.length=256):=(show ∀ x ∈ ps,_ by rw [← hps];exact putsV_data)
    have HPE:=Lib.hid hps
    rw [hps] at HPU
    clear hps
    go_upto_region 19 with (first
     | (go_at_call 13;(with_reducible refine HPU.out.mono ?_);go_must (rintro e w5 ⟨A5,c5,v5,rfl,hp5,hc5,hb5⟩;have HB5:=Lib.hid hb5;have HL5:=Lib.hid (HL.out.later hb5);have hz5:=hb5.size;have HCM:=Lib.hid (commitL_any lo d l h s f N ring seq pos (10+400 * k) A5 n1 c5 ps w5 HL5.out (by omega) hp5 hc5 (by omega) HPD.out (by omega) (by rw [HFA.out];exact Nat.zero_le _) (by omega));clear hp5 hb5))
     | (go_at_call 14;(with_reducible refine HCM.out.mono ?_);go_must (rintro e w6 hcm;unfold CmP at hcm;obtain ⟨E,s6,h6,rfl,F6,T6',hr⟩:=hcm;obtain ⟨f6,seq6,pos6,L6,hf6,-,hE,hseq,hhome⟩:=hr.resolve_right (fun h=>h.2.1 HFA.out);rw [hhm] at hE hhome;have HL6:=Lib.hid L6;have HFA6:=Lib.hid (hf6 HFA.out);have HSL6:=Lib.hid ((HSL.out.later HB5.out).fr F6 T6');have hbl6:=F6.below (HL5.out.low HLL.out) (show lo≤w5.heap.size by omega);have hsz6l:=hbl6.size;have HB6:=Lib.hid ((HBW.out.trans (HB5.out.mono hsz)).trans (hbl6.mono hlow));have HX6:Hid (Below w.heap.size wr w6):=(show Below _ _ _ from (HB5.out.mono hsz).trans (hbl6.mono hlow));have hsz6:w.heap.size≤w6.heap.size:=HB6.out.size;have HLW6:Hid (lo≤w6.heap.size):=(show _≤_ by omega);have J1:=Lib.hid ((HX6.out.cell (p:=⟨b,o+k * 2,none⟩) hbl).trans k1);have J2:=Lib.hid ((HX6.out.cell (p:=⟨b,o+k * 2+1,none⟩) hbl).trans k2);have HE:=Lib.hid hE;have HSE:=Lib.hid hseq;have HHM6:=Lib.hid hhome;clear L6 hf6 F6 T6' hr hbl6 hE hseq hhome)))
    have HLX:=Lib.hid (homeL_len f N hm9)
    rcases may_three hm9 N ring ps with h0 | ⟨h1',hok⟩ | ⟨h9,hok,hnd⟩
    ·have hE:=HE.out
     have hseq:=HSE.out
     have hhome:=HHM6.out
     rw [h0] at hE
     subst hE
     clear h0 HE HSE HHM6
     have hhome':homeL f6 N hm9=appl hm9 (homeL f N hm9) ps:=by rw [hhome,if_pos rfl]
     have HHO:=Lib.hid hhome'
     have HAP:=Lib.hid (applied_any (TL d l h6) Aq A1 A2 nq cq n1 n2 c1 c2 hm9 (homeL f N hm9) ats cs w6 HSL6.out (Rd.more (RdI.blw HR1.out HX6.out) hsz6) (Rd.more (RdB.blw HR2.out HX6.out) hsz6) (by omega) (by omega) (by omega) (by omega) HL6.out.fresh HR3.out)
     rw [HPE.out,← HHO.out] at HAP
     have j1:w6.cell? ⟨b,o+k * 2,none⟩=some (.slice A1 n1 c1):=J1.out
     have j2:w6.cell? ⟨b,o+k * 2+1,none⟩=some (.slice A2 n2 c2):=J2.out
     clear hhome hhome'
     by_cases hn0:n1=0
     ·subst hn0
      have hps0:ps=[]:=List.eq_nil_of_length_eq_zero hpl
      have hse:seq6=seq:=by rw [hseq,if_neg (fun e=>e.2 hps0)]
      have hsw:(seq6:Int)=(seq:Int):=by rw [hse]
      have HSX:=Lib.hid hse
      clear hseq hse
      go_wp2_with (first
       | (go_at_call 15;(with_reducible refine HAP.out.mono ?_);go_must (rintro e w7 ⟨A7,c7,rfl,hs7,hb7⟩;have HS7:=Lib.hid hs7;have HL7:=Lib.hid (HL6.out.later hb7);have hz7:=hb7.size;have HB7:=Lib.hid (HB6.out.trans (hb7.mono hsz6));have HSE7:=Lib.hid (seqW_any w7 d l ring _ pos6 HL7.out.lg.lg);have HSC7:=Lib.hid (sectL_any w7 lo d l h6 s6 f6 N ring _ pos6 _ HL7.out hm9 hhm);clear hs7 hb7))
       | (go_at_call 12;(with_reducible refine HSE7.out.mono ?_);go_must (rintro e w7b ⟨rfl,rfl⟩))
       | (go_at_call 11;(with_reducible refine HSC7.out.mono ?_);go_must (rintro e w8 ⟨A8,n8,c8,rfl,hs8,-,-,hb8⟩;have HL8:=Lib.hid (HL7.out.later hb8);have HS78:=Lib.hid (HS7.out.later hb8);have hz8:=hb8.size;have HB8:=Lib.hid (HB7.out.trans (hb8.mono HB7.out.size));have hn8:n8≤200:=(by have:=hs8.len;rw [homeL_len] at this;omega);have HLI:=Lib.hid (listsE_any _ _ A8 _ n8 nq c8 c7 _ w8 hs8 HS78.out (Nat.le_trans hn8 (by decide)) (Nat.le_trans hnq2 (by decide)));clear hs8 hb8))
       | (go_at_call 18;(with_reducible refine HLI.out.mono ?_);go_must (rintro e w9 ⟨rfl,hb9⟩;have HL9:=Lib.hid (HL8.out.later hb9);have HS9:=Lib.hid (HS78.out.later hb9);have hz9:=hb9.size;have HB9:=Lib.hid (HB8.out.trans (hb9.mono HB8.out.size));clear hb9)))
      go_roundw
      case rel=>exact ⟨k+1,seq6,pos6,h6,s6,f6,A7,nq,c7,by omega,by go_num,by rw [HSX.out],rfl,HL9.out.more (by omega),HFA6,(show _≤_ by have:=HSQ.out;have:=HSX.out;omega),HS9,(show _≤_ by omega),HB9⟩
      case measure=>simp [intOf];omega
     ·have hse:seq6=seq+1:=by rw [hseq,if_pos ⟨rfl,fun e=>hn0 (by rw [← hpl,e];rfl)⟩]
      have hsw:(seq:Int)+1=(seq6:Int):=by omega
      have HSX:=Lib.hid hse
      clear hse hseq
      have hn0i:(0:Int) < (n1:Int):=by omega
      go_wp2_with (first
       | (go_at_call 15;(with_reducible refine HAP.out.mono ?_);go_must (rintro e w7 ⟨A7,c7,rfl,hs7,hb7⟩;have HS7:=Lib.hid hs7;have HL7:=Lib.hid (HL6.out.later hb7);have hz7:=hb7.size;have HB7:=Lib.hid (HB6.out.trans (hb7.mono hsz6));have HSE7:=Lib.hid (seqW_any w7 d l ring _ pos6 HL7.out.lg.lg);have HSC7:=Lib.hid (sectL_any w7 lo d l h6 s6 f6 N ring _ pos6 _ HL7.out hm9 hhm);clear hs7 hb7))
       | (go_at_call 12;(with_reducible refine HSE7.out.mono ?_);go_must (rintro e w7b ⟨rfl,rfl⟩))
       | (go_at_call 11;(with_reducible refine HSC7.out.mono ?_);go_must (rintro e w8 ⟨A8,n8,c8,rfl,hs8,-,-,hb8⟩;have HL8:=Lib.hid (HL7.out.later hb8);have HS78:=Lib.hid (HS7.out.later hb8);have hz8:=hb8.size;have HB8:=Lib.hid (HB7.out.trans (hb8.mono HB7.out.size));have hn8:n8≤200:=(by have:=hs8.len;rw [homeL_len] at this;omega);have HLI:=Lib.hid (listsE_any _ _ A8 _ n8 nq c8 c7 _ w8 hs8 HS78.out (Nat.le_trans hn8 (by decide)) (Nat.le_trans hnq2 (by decide)));clear hs8 hb8))
       | (go_at_call 18;(with_reducible refine HLI.out.mono ?_);go_must (rintro e w9 ⟨rfl,hb9⟩;have HL9:=Lib.hid (HL8.out.later hb9);have HS9:=Lib.hid (HS78.out.later hb9);have hz9:=hb9.size;have HB9:=Lib.hid (HB8.out.trans (hb9.mono HB8.out.size));clear hb9)))
      go_roundw
      case rel=>exact ⟨k+1,seq6,pos6,h6,s6,f6,A7,nq,c7,by omega,by go_num,rfl,rfl,HL9.out.more (by omega),HFA6,(show _≤_ by have:=HSQ.out;have:=HSX.out;omega),HS9,(show _≤_ by omega),HB9⟩
      case measure=>simp [intOf];omega
    ·have hE:=HE.out
     have hseq:=HSE.out
     have hhome:=HHM6.out
     rw [h1'] at hE
     subst hE
     have hhome':homeL f6 N hm9=homeL f N hm9:=by rw [hhome,if_neg (by decide)]
     have hse:seq6=seq:=by rw [hseq,if_neg (fun e=>absurd e.1 (by decide))]
     have HS6:Hid (SecL w6 (TL d l h6) Aq nq (homeL f6 N hm9)):=(show SecL _ _ _ _ _ by rw [hhome'];exact HSL6.out)
     have hsw:(seq6:Int)=(seq:Int):=by rw [hse]
     have HSX:=Lib.hid hse
     have j1:w6.cell? ⟨b,o+k * 2,none⟩=some (.slice A1 n1 c1):=J1.out
     have j2:w6.cell? ⟨b,o+k * 2+1,none⟩=some (.slice A2 n2 c2):=J2.out
     have HND:=Lib.hid (fun v w=>needW_any v n1 (by omega) w)
     have HSE6:=Lib.hid (seqW_any w6 d l ring _ pos6 HL6.out.lg.lg)
     have HMY:=mayS_any A1 A2 n1 n2 c1 c2 hm9 N ats cs w6 (Rd.more (RdI.blw HR1.out HX6.out) hsz6) (by omega)
     rw [HPE.out,hok] at HMY
     have HMY:=Lib.hid HMY
     obtain ⟨nd,hnd⟩:∃ x,needN n1=x:=⟨_,rfl⟩
     rw [hnd] at HND
     clear hseq hhome hhome' hse h1' HE HSE HHM6 hnd hok
     have HSC6:=Lib.hid (sectL_any w6 lo d l h6 s6 f6 N ring _ pos6 _ HL6.out hm9 hhm)
     by_cases hnr:ring < nd
     ·have hni:(ring:Int) < (nd:Int):=by omega
      go_wp2_with (first
       | (go_at_call 16;(with_reducible refine (HND.out _ _).mono ?_);go_must (rintro e w6n ⟨rfl,rfl⟩))
       | (go_at_call 17;(with_reducible refine HMY.out.mono ?_);go_must (rintro e w7 ⟨rfl,hb7⟩;have HS7:=Lib.hid (HS6.out.later hb7);have HL7:=Lib.hid (HL6.out.later hb7);have hz7:=hb7.size;have HB7:=Lib.hid (HB6.out.trans (hb7.mono hsz6));have HSE7:=Lib.hid (seqW_any w7 d l ring _ pos6 HL7.out.lg.lg);have HSC7:=Lib.hid (sectL_any w7 lo d l h6 s6 f6 N ring _ pos6 _ HL7.out hm9 hhm);clear hb7))
       | (go_at_call 12;(with_reducible refine HSE7.out.mono ?_);go_must (rintro e w7b ⟨rfl,rfl⟩))
       | (go_at_call 11;(with_reducible refine HSC7.out.mono ?_);go_must (rintro e w8 ⟨A8,n8,c8,rfl,hs8,-,-,hb8⟩;have HL8:=Lib.hid (HL7.out.later hb8);have HS78:=Lib.hid (HS7.out.later hb8);have hz8:=hb8.size;have HB8:=Lib.hid (HB7.out.trans (hb8.mono HB7.out.size));have hn8:n8≤200:=(by have:=hs8.len;rw [homeL_len] at this;omega);have HLI:=Lib.hid (listsE_any _ _ A8 _ n8 nq c8 cq _ w8 hs8 HS78.out (Nat.le_trans hn8 (by decide)) (Nat.le_trans hnq2 (by decide)));clear hs8 hb8))
       | (go_at_call 18;(with_reducible refine HLI.out.mono ?_);go_must (rintro e w9 ⟨rfl,hb9⟩;have HL9:=Lib.hid (HL8.out.later hb9);have HS9:=Lib.hid (HS78.out.later hb9);have hz9:=hb9.size;have HB9:=Lib.hid (HB8.out.trans (hb9.mono HB8.out.size));clear hb9)))
      go_roundw
      case rel=>exact ⟨k+1,seq6,pos6,h6,s6,f6,Aq,nq,cq,by omega,by go_num,by rw [HSX.out],rfl,HL9.out.more (by omega),HFA6,(show _≤_ by have:=HSQ.out;have:=HSX.out;omega),HS9,(show _≤_ by omega),HB9⟩
      case measure=>simp [intOf];omega
     ·have hni:decide ((ring:Int) < (nd:Int))=false:=decide_eq_false (by omega)
      go_wp2_with (first
       | (go_at_call 16;(with_reducible refine (HND.out _ _).mono ?_);go_must (rintro e w6n ⟨rfl,rfl⟩))
       | (go_at_call 12;(with_reducible refine HSE6.out.mono ?_);go_must (rintro e w7b ⟨rfl,rfl⟩))
       | (go_at_call 11;(with_reducible refine HSC6.out.mono ?_);go_must (rintro e w8 ⟨A8,n8,c8,rfl,hs8,-,-,hb8⟩;have HL8:=Lib.hid (HL6.out.later hb8);have HS78:=Lib.hid (HS6.out.later hb8);have hz8:=hb8.size;have HB8:=Lib.hid (HB6.out.trans (hb8.mono hsz6));have hn8:n8≤200:=(by have:=hs8.len;rw [homeL_len] at this;omega);have HLI:=Lib.hid (listsE_any _ _ A8 _ n8 nq c8 cq _ w8 hs8 HS78.out (Nat.le_trans hn8 (by decide)) (Nat.le_trans hnq2 (by decide)));clear hs8 hb8))
       | (go_at_call 18;(with_reducible refine HLI.out.mono ?_);go_must (rintro e w9 ⟨rfl,hb9⟩;have HL9:=Lib.hid (HL8.out.later hb9);have HS9:=Lib.hid (HS78.out.later hb9);have hz9:=hb9.size;have HB9:=Lib.hid (HB8.out.trans (hb9.mono HB8.out.size));clear hb9)))
      go_roundw
      case rel=>exact ⟨k+1,seq6,pos6,h6,s6,f6,Aq,nq,cq,by omega,by go_num,by rw [HSX.out],rfl,HL9.out.more (by omega),HFA6,(show _≤_ by have:=HSQ.out;have:=HSX.out;omega),HS9,(show _≤_ by omega),HB9⟩
      case measure=>simp [intOf];omega
    ·have hE:=HE.out
     have hseq:=HSE.out
     have hhome:=HHM6.out
     rw [h9] at hE
     subst hE
     have hhome':homeL f6 N hm9=homeL f N hm9:=by rw [hhome,if_neg (by decide)]
     have hse:seq6=seq:=by rw [hseq,if_neg (fun e=>absurd e.1 (by decide))]
     have HS6:Hid (SecL w6 (TL d l h6) Aq nq (homeL f6 N hm9)):=(show SecL _ _ _ _ _ by rw [hhome'];exact HSL6.out)
     have hsw:(seq6:Int)=(seq:Int):=by rw [hse]
     have HSX:=Lib.hid hse
     have j1:w6.cell? ⟨b,o+k * 2,none⟩=some (.slice A1 n1 c1):=J1.out
     have j2:w6.cell? ⟨b,o+k * 2+1,none⟩=some (.slice A2 n2 c2):=J2.out
     have HND:=Lib.hid (fun v w=>needW_any v n1 (by omega) w)
     have HMY:=mayS_any A1 A2 n1 n2 c1 c2 hm9 N ats cs w6 (Rd.more (RdI.blw HR1.out HX6.out) hsz6) (by omega)
     rw [HPE.out,hok] at HMY
     have HMY:=Lib.hid HMY
     obtain ⟨nd,hne⟩:∃ x,needN n1=x:=⟨_,rfl⟩
     rw [hne] at HND
     have hni:(ring:Int) < (nd:Int):=by rw [hpl,hne] at hnd;omega
     clear hseq hhome hhome' hse h9 HE HSE HHM6 hnd hok hne
     go_wp2_with (first
      | (go_at_call 16;(with_reducible refine (HND.out _ _).mono ?_);go_must (rintro e w6n ⟨rfl,rfl⟩))
      | (go_at_call 17;(with_reducible refine HMY.out.mono ?_);go_must (rintro e w7 ⟨rfl,hb7⟩;have HS7:=Lib.hid (HS6.out.later hb7);have HL7:=Lib.hid (HL6.out.later hb7);have hz7:=hb7.size;have HB7:=Lib.hid (HB6.out.trans (hb7.mono hsz6));have HSE7:=Lib.hid (seqW_any w7 d l ring _ pos6 HL7.out.lg.lg);have HSC7:=Lib.hid (sectL_any w7 lo d l h6 s6 f6 N ring _ pos6 _ HL7.out hm9 hhm);clear hb7))
      | (go_at_call 12;(with_reducible refine HSE7.out.mono ?_);go_must (rintro e w7b ⟨rfl,rfl⟩))
      | (go_at_call 11;(with_reducible refine HSC7.out.mono ?_);go_must (rintro e w8 ⟨A8,n8,c8,rfl,hs8,-,-,hb8⟩;have HL8:=Lib.hid (HL7.out.later hb8);have HS78:=Lib.hid (HS7.out.later hb8);have hz8:=hb8.size;have HB8:=Lib.hid (HB7.out.trans (hb8.mono HB7.out.size));have hn8:n8≤200:=(by have:=hs8.len;rw [homeL_len] at this;omega);have HLI:=Lib.hid (listsE_any _ _ A8 _ n8 nq c8 cq _ w8 hs8 HS78.out (Nat.le_trans hn8 (by decide)) (Nat.le_trans hnq2 (by decide)));clear hs8 hb8))
      | (go_at_call 18;(with_reducible refine HLI.out.mono ?_);go_must (rintro e w9 ⟨rfl,hb9⟩;have HL9:=Lib.hid (HL8.out.later hb9);have HS9:=Lib.hid (HS78.out.later hb9);have hz9:=hb9.size;have HB9:=Lib.hid (HB8.out.trans (hb9.mono HB8.out.size));clear hb9)))
     go_roundw
     case rel=>exact ⟨k+1,seq6,pos6,h6,s6,f6,Aq,nq,cq,by omega,by go_num,by rw [HSX.out],rfl,HL9.out.more (by omega),HFA6,(show _≤_ by have:=HSQ.out;have:=HSX.out;omega),HS9,(show _≤_ by omega),HB9⟩
     case measure=>simp [intOf];omega
  ·obtain rfl:k=m:=by omega
   have HOP:=Lib.hid (openL_any wr lo d l h s f N ring seq pos _ HL.out (by omega))
   go_wp2_with (first
    | (go_at_call 9;(with_reducible refine HOP.out.mono ?_);go_must (rintro e w9 ⟨l9,h9,rfl,L9,T9,hl9,hb9⟩;have HL9:=Lib.hid L9;have hz9:=hb9.size;have HB9:=Lib.hid (HBW.out.trans (hb9.mono hsz));have HS9:=Lib.hid (HSL.out.later hb9);clear L9 hb9))
    | (go_at_call 6;(with_reducible refine (first15_any _).mono ?_);go_must (rintro e w10 ⟨rfl,hb10⟩;have HL10:=Lib.hid (HL9.out.later hb10);have HB10:=Lib.hid (HB9.out.trans (hb10.mono HB9.out.size));have HS10:=Lib.hid (HS9.out.later hb10);have HSE:=Lib.hid (seqW_any w10 d l9 ring _ _ HL10.out.lg.lg);have HRI:=Lib.hid (ringW_any w10 d l9 ring _ _ HL10.out.lg.lg);have HSC:=Lib.hid (sectL_any w10 lo d l9 h9 s f N ring _ _ _ HL10.out hm9 hhm);clear hb10))
    | (go_at_call 12;(with_reducible refine HSE.out.mono ?_);go_must (rintro e w10b ⟨rfl,rfl⟩))
    | (go_at_call 19;(with_reducible refine HRI.out.mono ?_);go_must (rintro e w10b ⟨rfl,rfl⟩))
    | (go_at_call 11;(with_reducible refine HSC.out.mono ?_);go_must (rintro e w11 ⟨A8,n8,c8,rfl,hs8,-,-,hb8⟩;have HS11:=Lib.hid (HS10.out.later hb8);have HB11a:=Lib.hid (HB10.out.trans (hb8.mono HB10.out.size));have hn8:n8≤200:=(by have:=hs8.len;rw [homeL_len] at this;omega);have hnq2:nq≤200:=(by have:=HSL.out.len;rw [homeL_len] at this;omega);have HLI:=Lib.hid (listsE_any _ _ A8 _ n8 nq c8 cq _ w11 hs8 HS11.out (Nat.le_trans hn8 (by decide)) (Nat.le_trans hnq2 (by decide)));clear hs8 hb8))
    | (go_at_call 18;(with_reducible refine HLI.out.mono ?_);go_must (rintro e w12 ⟨rfl,hb9⟩;have HB11:=Lib.hid (HB11a.out.trans (hb9.mono HB11a.out.size));clear hb9)))
   go_ret
   exact ⟨rfl,HB11.out⟩
end Go.Proofs.Ytdoanopeejeeiaa

