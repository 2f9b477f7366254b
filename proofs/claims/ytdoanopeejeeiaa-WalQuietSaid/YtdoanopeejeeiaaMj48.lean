/- XWalQuiet -/
import Derived.Test.YtdoanopeejeeiaaMj47
namespace Go.Proofs.Ytdoanopeejeeiaa
set_option linter.all false
open Go.RowKit Go.Maps
set_option maxRecDepth 100000 in
set_option maxHeartbeats 51200000 in
theorem walQuiet_main (N ring:Nat) (A:Option Addr) (m c:Nat) (at_:Int) (Ak:Option Addr) (nk ck:Nat) (mb:Bs) (zs:List (List Int × Bs)) (w:World) (hr:RdSets w w.heap.size A m zs) (hmb:RdB w w.heap.size Ak nk mb) (hN1:4≤N) (hN2:N≤200) (h1:1≤ring) (h2:ring+4≤N) (hm1:1≤m) (hm:m≤20) (hnk:nk≤100) (hat:at_≤9223372036854775807) :
  Calls Try.prog 4 #[.int .i64 (N:Int),.int .i64 (ring:Int),.slice A m c,.int .i64 at_,.slice Ak nk ck] w fun e w'=>e=.returned (.bool true)∧Below w.heap.size w w':=by
 obtain ⟨hm9,hhm⟩:∃ x,2+ring=x:=⟨_,rfl⟩
 have hhmi:(2:Int)+(ring:Int)=(hm9:Int):=by omega
 have hhN:hm9≤N:=by omega
 have HR:=Lib.hid hr
 have HMB:=Lib.hid hmb
 have hzl:=hr.len
 have t1:¬ (200:Int) < (N:Int):=by omega
 have t2:¬ (m:Int) < 1:=by omega
 have t3:¬ (20:Int) < (m:Int):=by omega
 have t4:¬ (100:Int) < (nk:Int):=by omega
 have t1d:decide ((200:Int) < (N:Int))=false:=decide_eq_false t1
 have t2d:decide ((m:Int) < 1)=false:=decide_eq_false t2
 have t3d:decide ((20:Int) < (m:Int))=false:=decide_eq_false t3
 have t4d:decide ((100:Int) < (nk:Int))=false:=decide_eq_false t4
 clear hr hmb
 go_enter Try.func4,Try.ntmps4
 go_upto_region 12 with (first
  | (go_at_call 6;(with_reducible refine (first15_any _).mono ?_);go_must (rintro e w0 ⟨rfl,hb0⟩;have HB0:=Lib.hid hb0;have HN0:=Lib.hid (newD_any N w0 hN1 (by omega));clear hb0))
  | (go_at_call 7;(with_reducible refine HN0.out.mono ?_);go_must (rintro e w1 ⟨d,h1,rfl,H1,U1,hb1⟩;have HB1:=Lib.hid (HB0.out.trans (hb1.mono HB0.out.size));have hz1:=hb1.size;have HFM1:=Lib.hid (fmtL_any N ring w0.heap.size d h1 w1 H1 hz1 U1 (by assumption) (by assumption));have HD1:=Lib.hid H1;clear H1 U1 hb1))
  | (go_at_call 8;(with_reducible refine HFM1.out.mono ?_);go_must (rintro e w2 ⟨s2,h2,rfl,n2,m2,wr2,f2,d2,a2,H2,F2,T2,U2⟩;have hbl2:=F2.bel HD1.out;have HB2:=Lib.hid (HB1.out.trans (hbl2.mono HB0.out.size));have hz2:=hbl2.size;obtain ⟨f0,hf0⟩:∃ x,layL (fun _=>zeros) [(0,headB ring 1 0),(1,zeros)]=x:=⟨_,rfl⟩;have hlg:=fmt_log (s:=s2) (f:=fun _=>zeros) (N:=N) (ring:=ring) (by assumption) (by assumption);rw [hf0] at a2 hlg;have HLG:=Lib.hid hlg;have HO:=Lib.hid (openA_any w0.heap.size d h2 s2 _ ring 1 0 w2 H2 a2 d2 (by rw [n2];exact hlg) (by decide));have HN2:=Lib.hid n2;have HM2:=Lib.hid m2;have HW2:=Lib.hid wr2;have HF0:=Lib.hid f2;have HD2:=Lib.hid d2;have HA2:=Lib.hid a2;clear n2 m2 wr2 f2 d2 a2 H2 F2 T2 U2 hbl2 hf0 hlg))
  | (go_at_call 9;(with_reducible refine HO.out.mono ?_);go_must (rintro e w3 ⟨l,h3,rfl,L3,-,hl3,hb3⟩;have HB3:=Lib.hid (HB2.out.trans (hb3.mono HB2.out.size));have HLL:Hid (w0.heap.size≤l):=(show _≤_ by omega);have hz3:=hb3.size;have HL3:Hid (LS w3 w0.heap.size d l h3 s2 f0 N ring 1 0 10):=(show LS _ _ _ _ _ _ _ _ _ _ _ _ from ⟨L3,HA2.out,HD2.out,HN2.out,by rw [HM2.out];exact Nat.zero_le _,HLG.out,by have:=HW2.out;omega⟩);have hhw:=homeW_any w3 d l ring 1 0 L3.lg (by omega);rw [hhm] at hhw;have HHM:=Lib.hid hhw;clear hhw;have HSC:=Lib.hid (sectS_any w3 w0.heap.size d h3 s2 f0 N 10 (HL3.out.ds (by rw [HF0.out];exact Nat.zero_le _)) hm9 hhN);clear L3 hb3 hl3))
  | (go_at_call 10;(with_reducible refine HHM.out.mono ?_);go_must (rintro e w3 ⟨rfl,rfl⟩))
  | (go_at_call 11;(with_reducible refine HSC.out.mono ?_);go_must (rintro e w4 ⟨A4,n4,c4,rfl,L4,-,-,hb4⟩;have HB4:=Lib.hid (HB3.out.trans (hb4.mono HB3.out.size));have HL4:=Lib.hid (HL3.out.later hb4);have HS4:=Lib.hid L4;have HW04:Hid (w0.heap.size≤w4.heap.size):=(show _≤_ by have:=hb4.size;omega);have hz4:=hb4.size;clear L4 hb4)))
 clear HHM HSC HO HFM1 HN0
 obtain ⟨lo,hlo⟩:∃ x,w0.heap.size=x:=⟨_,rfl⟩
 rw [hlo] at HL4 HLL
 have hlow:w.heap.size≤lo:=by rw [← hlo];exact HB0.out.size
 have hlo4:lo≤w4.heap.size:=by rw [← hlo];exact HW04.out
 clear HW04 HB0 HB1 HB2 HB3 hlo t1 t2 t3 t4 t1d t2d t3d t4d
 obtain ⟨ls0,hls0⟩:∃ x,homeL f0 N hm9=x:=⟨_,rfl⟩
 rw [hls0] at HS4
 have HLS:=Lib.hid (homeL_len f0 N hm9)
 rw [hls0] at HLS
 have HN4E:Hid (n4=N - hm9):=(show _=_ by rw [← HS4.out.len];exact HLS.out)
 have HW4:Hid (WQ w w4 lo d l N ring hm9 m zs A4 n4 ls0 0 (.slice none 0 0) h3 s2 f0):=(show WQ _ _ _ _ _ _ _ _ _ _ _ _ _ _ _ _ _ _ from ⟨NmI.nil_ _ _ _ _ _,Nat.zero_le _,HS4.out,HL4.out.ds (by rw [HF0.out];exact Nat.zero_le _),HL4.out.lg.u.1,HL4.out.lg.lg.lt,hlo4,HB4.out,fun _=>⟨1,0,HL4.out,HF0.out,Nat.le_refl _,Qx.of_eq _ _ hls0⟩,fun e=>absurd e (by omega)⟩)
 clear HL4 HS4 HF0 HLS hls0
 go_wp2_with fail
 go_loopw [18,19] (fun v18 vi wr=>∃ (k:Nat) (h:Hn) (s:Dk) (f:SF) (An:Option Addr) (nn cn:Nat),k≤m∧vi=.int .i64 (k:Int)∧v18=.slice An nn cn∧Hid (WQ w wr lo d l N ring hm9 m zs A4 n4 ls0 k (.slice An nn cn) h s f)) (fun _ vi _=>m - (intOf vi).toNat)
 case atStart=>exact ⟨0,h3,s2,f0,none,0,0,Nat.zero_le _,rfl,rfl,HW4⟩
 case round =>
  clear HW4 HB4
  obtain ⟨k,h,s,f,An,nn,cn,hk,rfl,rfl,HQ⟩:=hrel
  have hsz:=HQ.out.bel.size
  have hlow2:=HQ.out.low
  have HBW:=Lib.hid HQ.out.bel
  by_cases hlt:k < m
  ·obtain ⟨⟨ats,cs⟩,hz⟩:∃ x,zs[k]?=some x:=⟨_,List.getElem?_eq_getElem (show k < zs.length by omega)⟩
   obtain ⟨b,o,A1,n1,c1,A2,n2,c2,rfl,hbl,k1,k2,r1,r2,r3⟩:=(HR.out.blw HBW.out).get hz
   obtain ⟨seq,pos,q1,q2,q3,q4⟩:=HQ.out.a hlt
   have HL:=Lib.hid q1
   have HFA:=Lib.hid q2
   have hsq:seq≤50:=by omega
   have HSQ:=Lib.hid q3
   have HQX:=Lib.hid q4
   have HR1:=Lib.hid r1
   have HR2:=Lib.hid r2
   have HR3:=Lib.hid r3
   have HZ:=Lib.hid hz
   have hl1:=r1.len
   have hkw:b < wr.heap.size:=by omega
   clear hz r1 r2 r3 q1 q2 q3 q4
   by_cases h150:150 < n1
   ·have t3:(150:Int) < (n1:Int):=by omega
    go_wp2_with (first
     | (go_at_call 6;(with_reducible refine (first15_any _).mono ?_);go_must (rintro e wf ⟨rfl,hbf⟩;have HBF:=Lib.hid (HBW.out.trans (hbf.mono HBW.out.size));clear hbf)))
    go_ret
    exact ⟨rfl,HBF.out⟩
   ·have t3:¬ (150:Int) < (n1:Int):=by omega
    have t3d:decide ((150:Int) < (n1:Int))=false:=decide_eq_false t3
    obtain ⟨ps,hps⟩:∃ ps,putsV ats cs=ps:=⟨_,rfl⟩
    have hpl:ps.length=n1:=by rw [← hps,putsV_len,hl1]
    have HPD:Hid (∀ x ∈ ps,x.2.length=256):=(show ∀ x ∈ ps,_ by rw [← hps];exact putsV_data)
    have HPK:Hid (ps.map (·.1)=ats):=(show _=_ by rw [← hps];exact putsV_keys _ _)
    by_cases hls:k+1 < m
    ·have hlsi:¬ (k:Int)=(m:Int) - 1:=by omega
     have hlsd:decide ((k:Int)=(m:Int) - 1)=false:=decide_eq_false hlsi
     have hlsb:((k:Int) == (m:Int) - 1)=false:=beq_eq_false_iff_ne.2 hlsi
     have HPU:=Lib.hid (puts_any (TL d l h) A1 A2 n1 n2 c1 c2 ats cs wr (Rd.more HR1.out hsz) (Rd.more HR2.out hsz) (by omega) HL.out.fresh)
     rw [hps] at HPU
     clear hps
     go_upto_region 21 with (first
      | (go_at_call 13;(with_reducible refine HPU.out.mono ?_);go_must (rintro e w5 ⟨A5,c5,v5,rfl,hp5,hc5,hb5⟩;have HB5:=Lib.hid hb5;have HL5:=Lib.hid (HL.out.later hb5);have hz5:=hb5.size;have HCM:=Lib.hid (commitL_any lo d l h s f N ring seq pos (10+400 * k) A5 n1 c5 ps w5 HL5.out (by omega) hp5 hc5 (by omega) HPD.out (by omega) (by rw [HFA.out];exact Nat.zero_le _) (by omega));clear hp5 hb5))
      | (go_at_call 14;(with_reducible refine HCM.out.mono ?_);go_must (rintro e w6 hcm;unfold CmP at hcm;obtain ⟨E,s6,h6,rfl,F6,T6',U6,hr⟩:=hcm;obtain ⟨f6,seq6,pos6,L6,hf6,-,hE,hseq,hhome⟩:=hr.resolve_right (fun h=>h.2.1 HFA.out);rw [hhm] at hE hhome;have HFA6:=Lib.hid (hf6 HFA.out);have hsq6:seq6≤1+(k+1):=(by rw [hseq];have:=HSQ.out;split <;> omega);have hqx:=qx_if hm9 ps hhome;rw [HPK.out] at hqx;have HQ6:=Lib.hid (HQX.out.trans hqx);have HN6:=Lib.hid ((HQ.out.nm.later HB5.out).fr F6 T6' U6);have HS6:=Lib.hid ((HQ.out.sec.later HB5.out).frL HQ.out.ul F6 T6' U6);have hbl6:=F6.below (HL5.out.low HLL.out) (show lo≤w5.heap.size by omega);have hlow6:lo≤w6.heap.size:=(by have:=hbl6.size;omega);have HX6:Hid (Below w.heap.size wr w6):=(show Below _ _ _ from (HB5.out.mono hsz).trans (hbl6.mono hlow));have HB6:=Lib.hid (HBW.out.trans HX6.out);have HL6:=Lib.hid (L6.more (show 10+400 * k+400≤10+400 * (k+1) by omega));have hb16:=(HX6.out.cell (p:=⟨b,o+k * 2,none⟩) hbl).trans k1;have HR16:=Lib.hid (RdI.blw HR1.out HX6.out);clear L6 hf6 F6 T6' U6 hr hbl6 hE hseq hhome hqx)))
     go_wp2_with (at_builtin;go_must (refine wpList_appendI rfl (.tmp 119) (.tmp 124) rfl lo (.slice An nn cn) _ rfl HN6.out.1 w.heap.size n1 c1 A1 ats rfl HR16.out (by have:=HQ.out.nl;omega) hlow6 ?_;intro v8 w8 hown8 hg8 hb8 hat8))
     have hQ8:=WQ.stepA (k:=k) (hm:=hm9) (m:=m) HN6.out HQ.out.nl (by omega) HZ.out HS6.out HL6.out HFA6.out (by omega) HQ6.out hlow6 HB6.out hlow hb8 hg8 hat8 hown8 hls
     obtain ⟨A8,c8,e8,-,-⟩:=hown8.form
     have HQ8:=Lib.hid hQ8
     clear hg8 hb8 hat8 hown8 hQ8
     subst e8
     go_wp2_with fail
     go_roundw
     case rel=>exact ⟨k+1,_,s6,f6,A8,_,c8,by omega,by go_num,rfl,HQ8⟩
     case measure=>simp [intOf];omega
    ·have HMK:Hid (k+1=m):=(show _=_ by omega)
     have hlsi:(m:Int) - 1=(k:Int):=by omega
     have HCA:=Lib.hid (crashAtL_any wr lo d l h s f N ring seq pos _ at_ Ak nk ck mb HL.out (Rd.more (RdB.blw HMB.out HBW.out) hsz) (by omega))
     have HPUG:=Lib.hid (fun (T:Nat→Prop) (w':World) (hb:Below w.heap.size wr w') (hT:∀ g,w'.heap.size≤g→¬ T g)=>puts_any T A1 A2 n1 n2 c1 c2 ats cs w' (Rd.more (RdI.blw HR1.out hb) (Nat.le_trans hsz hb.size)) (Rd.more (RdB.blw HR2.out hb) (Nat.le_trans hsz hb.size)) (by omega) hT)
     rw [hps] at HPUG
     clear hps
     go_upto_region 21 with (first
      | (go_at_call 20;(with_reducible refine HCA.out.mono ?_);go_must (rintro e w4b ⟨⟨vc,rfl⟩,h4,q1,F4,T4,U4⟩;have HL4b:=Lib.hid q1;have HN4:=Lib.hid (HQ.out.nm.fr (F4.mono (fun g=>.inl)) (TL.tt (by rw [T4];exact TT.refl _ _)) U4);have HS4b:=Lib.hid (HQ.out.sec.frL HQ.out.ul (F4.mono (fun g=>.inl)) (TL.tt (by rw [T4];exact TT.refl _ _)) U4);have hbl4:=F4.bel HL.out.lg.dk;have hz4b:=hbl4.size;have HX4:Hid (Below w.heap.size wr w4b):=(show Below _ _ _ from hbl4.mono hlow);have HB4b:=Lib.hid (HBW.out.trans HX4.out);have hc14:=(HX4.out.cell (p:=⟨b,o+k * 2,none⟩) hbl).trans k1;have hc24:=(HX4.out.cell (p:=⟨b,o+k * 2+1,none⟩) hbl).trans k2;have HPU:=Lib.hid (HPUG.out (TL d l h4) w4b HX4.out HL4b.out.fresh);have HU4:Hid (h4.U l):=(show h4.U l by rw [U4];exact HQ.out.ul);clear q1 F4 T4 U4 hbl4))
      | (go_at_call 13;(with_reducible refine HPU.out.mono ?_);go_must (rintro e w5 ⟨A5,c5,v5,rfl,hp5,hc5,hb5⟩;have HB5:=Lib.hid hb5;have HL5:=Lib.hid (HL4b.out.later hb5);have hz5:=hb5.size;have HCM:=Lib.hid (commitT_any lo d l h4 _ f N ring seq pos (10+400 * k) A5 n1 c5 ps w5 HL5.out (by omega) hp5 hc5 (by omega) HPD.out (by omega) (by show at_.toNat≤_;omega) (by omega));clear hp5 hb5))
      | (go_at_call 14;(with_reducible refine HCM.out.mono ?_);go_must (rintro e w6 hcm;unfold CmT at hcm;obtain ⟨E,s6,h6,f6,was,nps,ok,rfl,F6,T6',U6,D6,ht2,hout⟩:=hcm;rw [hhm] at hout;have hqq:=hout.quiet;rw [HPK.out] at hqq;have HT6:Hid (∃ was nps S ok,T2 N ring was nps S ok f6∧S≤50∧Qx hm9 (nmz zs k ++ ats) ls0 (homeL (layL was nps) N hm9)∧(ok=false→Qx hm9 (nmz zs k ++ ats) ls0 (homeL was N hm9))):=(show ∃ was nps S ok,_ from ⟨was,nps,seq+1,ok,ht2,(by have:=HSQ.out;omega),HQX.out.trans hqq.1,fun e=>HQX.out.trans (hqq.2 e)⟩);have HN6:=Lib.hid ((HN4.out.later HB5.out).fr F6 T6' U6);have HS6:=Lib.hid ((HS4b.out.later HB5.out).frL HU4.out F6 T6' U6);have hbl6:=F6.below (HL5.out.low HLL.out) (show lo≤w5.heap.size by omega);have hlow6:lo≤w6.heap.size:=(by have:=hbl6.size;omega);have hll6:l < w6.heap.size:=(by have:=hbl6.size;have:=HL5.out.lg.lg.lt;omega);have HX6:Hid (Below w.heap.size wr w6):=(show Below _ _ _ from (HX4.out.trans (HB5.out.mono HB4b.out.size)).trans (hbl6.mono hlow));have HB6:=Lib.hid (HBW.out.trans HX6.out);have HD6:=Lib.hid (D6.more (show 10+400 * k+400≤10+400 * (k+1) by omega));have HU6:Hid (h6.U l):=(show h6.U l by rw [U6];exact HU4.out);have hb16:=(HX6.out.cell (p:=⟨b,o+k * 2,none⟩) hbl).trans k1;have HR16:=Lib.hid (RdI.blw HR1.out HX6.out);clear F6 T6' U6 D6 ht2 hout hqq hbl6)))
     go_wp2_with (at_builtin;go_must (refine wpList_appendI rfl (.tmp 119) (.tmp 124) rfl lo (.slice An nn cn) _ rfl HN6.out.1 w.heap.size n1 c1 A1 ats rfl HR16.out (by have:=HQ.out.nl;omega) hlow6 ?_;intro v8 w8 hown8 hg8 hb8 hat8))
     have hQ8:=WQ.stepB (k:=k) (hm:=hm9) (m:=m) HN6.out HQ.out.nl (by omega) HZ.out HS6.out HD6.out HU6.out hll6 HT6.out hlow6 HB6.out hlow hb8 hg8 hat8 hown8 HMK.out
     obtain ⟨A8,c8,e8,-,-⟩:=hown8.form
     have HQ8:=Lib.hid hQ8
     clear hg8 hb8 hat8 hown8 hQ8
     subst e8
     go_wp2_with fail
     go_roundw
     case rel=>exact ⟨k+1,_,s6,f6,A8,_,c8,Nat.le_of_eq HMK.out,by go_num,rfl,HQ8⟩
     case measure=>simp [intOf];omega
  ·obtain rfl:k=m:=by omega
   obtain ⟨was,nps,S,ok,q1,q2,q3,q4⟩:=HQ.out.b rfl
   obtain ⟨ns,hns⟩:∃ x,nmz zs k=x:=⟨_,rfl⟩
   have hnm:=HQ.out.nm
   have hnl:=HQ.out.nl
   rw [hns] at q3 q4 hnm hnl
   obtain ⟨A',c',e',-,-⟩:=hnm.1.form
   injection e' with e1' e2' e3'
   subst e1' e3'
   have HNL:Hid (nn=ns.length):=(show _=_ from e2')
   have HT:=Lib.hid q1
   have HQ1:=Lib.hid q3
   have HQ2:=Lib.hid q4
   have HR0:=Lib.hid (QR.of HQ.out.nm HQ.out.sec)
   rw [hns] at HR0
   have HCA:=Lib.hid (crashAtS_any wr lo d h s f N _ 0 none 0 0 [] HQ.out.ds Rd.none_ (by omega) (by decide))
   clear q1 q3 q4 hnm e2' hns
   go_upto_region 28 with (first
    | (go_at_call 20;(with_reducible refine HCA.out.mono ?_);go_must (rintro e w9 ⟨⟨vc,rfl⟩,h9,q9,F9,T9,U9⟩;have HD9:=Lib.hid q9;have HR9:=Lib.hid (HR0.out.fr F9 (by rw [T9];exact TT.refl _ _));have hbl9:=F9.bel HQ.out.ds.dk;have hz9:=hbl9.size;have HB9:=Lib.hid (HBW.out.trans (hbl9.mono hlow));have HRB:=Lib.hid (rebootS_any w9 lo d h9 _ f N _ HD9.out);clear q9 F9 T9 U9 hbl9))
    | (go_at_call 21;(with_reducible refine HRB.out.mono ?_);go_must (rintro e w10 ⟨⟨vc2,rfl⟩,q10,F10⟩;have HD10:=Lib.hid q10;have HR10:=Lib.hid (HR9.out.fr F10 (TT.refl _ _));have hbl10:=F10.bel HD9.out.dk;have hz10:=hbl10.size;have HB10:=Lib.hid (HB9.out.trans (hbl10.mono hlow));have HOP:=Lib.hid (openT_any w10 lo d h9 _ f N _ ring was nps S ok HD10.out (by omega) rfl HT.out (by omega) (by omega));clear q10 F10 hbl10))
    | (go_at_call 9;(with_reducible refine HOP.out.mono ?_);go_must (rintro e w11 hop;unfold OpT at hop;obtain ⟨p11,R11,E11,s11,h11,f11,rfl,D11,-,F11,TT11,hE,hL⟩:=hop;obtain ⟨rfl,-⟩:=hE rfl;obtain ⟨l11,seq11,pos11,rfl,-,-,-,hfin⟩:=hL rfl;have HQX:=Lib.hid (WQ.ends hhm HQ1.out HQ2.out hfin);have HD11:=Lib.hid D11;have HR11:=Lib.hid (HR10.out.fr F11 TT11);have hbl11:=F11.bel HD10.out.dk;have hz11:=hbl11.size;have HB11:=Lib.hid (HB10.out.trans (hbl11.mono hlow));have HSC:=Lib.hid (sectS_any w11 lo d h11 s11 f11 N _ HD11.out hm9 hhN);clear D11 F11 TT11 hE hL hfin hbl11))
    | (go_at_call 11;(with_reducible refine HSC.out.mono ?_);go_must (rintro e w12 ⟨A12,n12,c12,rfl,L12,-,-,hb12⟩;have HB12:=Lib.hid (HB11.out.trans (hb12.mono HB11.out.size));have hnn12:n4=n12:=(by rw [← L12.len,homeL_len,HN4E.out]);subst hnn12;have HS12:=Lib.hid L12;have HR12:=Lib.hid (HR11.out.later hb12);have hz12:=hb12.size;clear L12 hb12)))
   go_wp2_with fail
   go_loopw [26] (fun vi wr=>∃ i:Nat,i≤n4∧vi=.int .i64 (i:Int)∧Hid (Below w12.heap.size w12 wr)) (fun vi _=>n4 - (intOf vi).toNat)
   case atStart=>exact ⟨0,Nat.zero_le _,rfl,Below.refl _ _⟩
   case round =>
    obtain ⟨i,hi,rfl,HBQ⟩:=hrel
    have hn4b:n4≤200:=by have:=HN4E.out;omega
    by_cases hli:i < n4
    ·obtain ⟨p9,hp9⟩:∃ x:Int,(hm9:Int)+(i:Int)=x:=⟨_,rfl⟩
     have hp9b:p9≤100000∧0≤p9:=by omega
     obtain ⟨b1,hb1⟩:∃ x,(homeL f11 N hm9)[i]?=some x:=⟨_,List.getElem?_eq_getElem (by rw [HS12.out.len];exact hli)⟩
     obtain ⟨b0,hb0⟩:∃ x,ls0[i]?=some x:=⟨_,List.getElem?_eq_getElem (by rw [HR12.out.2.2.len];exact hli)⟩
     obtain ⟨g1,o1,B1,cc1,hA1,hl1,ce1,ro1⟩:=(HS12.out.later HBQ.out).get hb1
     obtain ⟨g2,o2,B2,cc2,hA2,hl2,ce2,ro2⟩:=(HR12.out.2.2.later HBQ.out).get hb0
     have HRO1:=Lib.hid ro1.2.2
     have HRO2:=Lib.hid ro2.2.2
     have HEB:Hid ((∀ x ∈ ns,x ≠ p9)→b1=b0):=(show _→_ from fun hx=>by
      have:=HQX.out.2 i (fun x h=>by have:=hx x h;omega)
      rw [hb1,hb0] at this
      injection this)
     have HRN:=Lib.hid (RdI.later HR12.out.1.rd HBQ.out)
     have hnl2:nn≤150 * 20:=by have:=HNL.out;omega
     have HAL:Hid (anyI ns nn p9=false→∀ x ∈ ns,x ≠ p9):=(show _→_ from fun h=>by rw [HNL.out] at h;exact anyI_all h)
     subst hA1 hA2
     clear hb1 hb0 ro1 ro2
     obtain ⟨wo,rfl⟩:∃ wo:World,wo=wr:=⟨_,rfl⟩
     go_wp2_with fail
     go_loopw [27,28] (fun v27 vj wr=>∃ j:Nat,j≤nn∧vj=.int .i64 (j:Int)∧v27=.bool (anyI ns j p9)∧Hid (Below wo.heap.size wo wr)) (fun _ vj _=>nn - (intOf vj).toNat)
     case atStart=>exact ⟨0,Nat.zero_le _,rfl,by rfl,Below.refl _ _⟩
     case round =>
      obtain ⟨j,hj,rfl,rfl,HB2⟩:=hrel
      by_cases hjn:j < nn
      ·obtain ⟨bn,on,x,rfl,hbn,HX,ce3⟩:=RdI.one (RdI.later HRN.out HB2.out) hjn
       have hsu:=anyI_succ p9 HX.out
       obtain ⟨bj,hbj⟩:∃ b,anyI ns j p9=b:=⟨_,rfl⟩
       rw [hbj] at hsu ⊢
       cases bj with
       | true =>
        have hsu':anyI ns (j+1) p9=true:=by rw [hsu];rfl
        have HSU:=Lib.hid hsu'
        clear hsu hsu' hbj
        go_wp2_with fail
        go_roundw
        case rel=>exact ⟨j+1,by omega,by go_num,by rw [HSU.out],HB2⟩
        case measure=>simp [intOf];omega
       | false =>
        by_cases hxe:x=p9
        ·have hsu':anyI ns (j+1) p9=true:=by rw [hsu,hxe];simp
         have HSU:=Lib.hid hsu'
         clear hsu hsu' hbj
         have hxd:decide (x=p9)=true:=decide_eq_true hxe
         go_wp2_with fail
         go_roundw
         case rel=>exact ⟨j+1,by omega,by go_num,by rw [HSU.out],HB2⟩
         case measure=>simp [intOf];omega
        ·have hsu':anyI ns (j+1) p9=false:=by rw [hsu];simpa using hxe
         have HSU:=Lib.hid hsu'
         clear hsu hsu' hbj
         have hxd:decide (x=p9)=false:=decide_eq_false hxe
         go_wp2_with fail
         go_roundw
         case rel=>exact ⟨j+1,by omega,by go_num,by (simp [HSU.out,hxe]),HB2⟩
         case measure=>simp [intOf];omega
      ·obtain rfl:j=nn:=by omega
       have ce1':=cell_later ce1 HB2.out
       have ce2':=cell_later ce2 HB2.out
       obtain ⟨bj,hbj⟩:∃ b,anyI ns j p9=b:=⟨_,rfl⟩
       rw [hbj] at HAL ⊢
       cases bj with
       | true =>
        clear hbj HAL
        go_upto_region 36 with fail
        go_quiet (fail)
        go_wp2_with fail
        go_roundw
        case rel=>exact ⟨i+1,by omega,by go_num,bdrewN (HBQ.out.trans (HB2.out.mono HBQ.out.size)) _⟩
        case measure=>simp [intOf];omega
       | false =>
        have heq:=HEB.out (HAL.out rfl)
        subst heq
        have HBY:=Lib.hid (fun m=>Calls.quiet_of_same (n:=m) (w:=wr) (bytesE_any _ 256 cc1 _ 256 cc2 B1 B2 _ (wr.drewN m) (RdB.later HRO1.out (bdrewN HB2.out m)) (RdB.later HRO2.out (bdrewN HB2.out m))))
        clear hbj HAL
        go_upto_region 36 with fail
        go_quiet ((go_at_call 22;exact HBY.out _))
        go_wp2_with fail
        go_roundw
        case rel=>exact ⟨i+1,by omega,by go_num,bdrewN (HBQ.out.trans (HB2.out.mono HBQ.out.size)) _⟩
        case measure=>simp [intOf];omega
    ·obtain rfl:i=n4:=by omega
     have HBZ:=Lib.hid (HB12.out.trans (HBQ.out.mono HB12.out.size))
     go_wp2_with (first
      | (go_at_call 6;(with_reducible refine (first15_any _).mono ?_);go_must (rintro e wf ⟨rfl,hbf⟩;have HBF:=Lib.hid (HBZ.out.trans (hbf.mono HBZ.out.size));clear hbf)))
     go_ret
     exact ⟨rfl,HBF.out⟩
end Go.Proofs.Ytdoanopeejeeiaa

