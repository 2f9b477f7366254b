/- XWlc -/
import Derived.Test.YtdoanopeejeeiaaMk31
namespace Go.Proofs.Ytdoanopeejeeiaa
set_option linter.all false
open Go.RowKit Go.Maps
theorem chg_len (ring pos:Nat) (ps:List (Nat × Bs)):(chg ring pos ps).length=descN ps.length+ps.length:=by
 unfold chg chgB
 rw [List.length_mapIdx,List.length_append,List.length_map,List.length_range,List.length_map]
theorem chg_take {ring pos:Nat} {ps:List (Nat × Bs)} {i:Nat} {b:Bs} (h:(chgB ps)[i]?=some b):ips ((chg ring pos ps).take (i+1))=ips ((chg ring pos ps).take i) ++ [(((inN ring pos i:Nat):Int),b)]:=ips_take _ (chg_get h)
/-- A row that was there before an own row was begun lies beside it. -/
theorem RowAt.t6 {w wr:World} {T:Nat→Prop} {B:Option Addr} {n:Nat} {bs:Bs} {v:Value} {l:List PT} (h:RowAt w T B n bs) (ho:ownW wr w.heap.size v l):RowAt w (T6 T v) B n bs:=by
 obtain ⟨h1,h2,h3⟩:=h
 refine ⟨h1,fun hn=>?_,h3⟩
 obtain ⟨g,o,e,hg,hlt⟩:=h2 hn
 refine ⟨g,o,e,fun h=>?_,hlt⟩
 rcases h with h | h
 ·exact hg h
 ·have:=(World.ownsRow.lt ho g h).1
  omega
theorem flat_take {ps:List (Nat × Bs)} {i k:Nat} {x:Nat × Bs} (h:ps[i+k]?=some x):(((ps.drop i).take (k+1)).flatMap fun x=>beB x.1 2)=(((ps.drop i).take k).flatMap fun x=>beB x.1 2) ++ beB x.1 2:=by
 have h2:(ps.drop i)[k]?=some x:=by rw [List.getElem?_drop];exact h
 rw [List.take_add_one,h2,List.flatMap_append]
 simp
/-- A new row of one put. -/
theorem rdW_one (w:World) (k:Int) (A:Option Addr) (n c:Nat):RdW (w.alloc (.cells #[.int .i64 k,.slice A n c] 56)) (w.heap.size+1) (some ⟨w.heap.size,0,none⟩) 1 [(k,A,n,c)]:=rd_oneW w (k,A,n,c) _ _
set_option maxRecDepth 100000 in
set_option maxHeartbeats 25600000 in
theorem change_any (lo d l:Nat) (h:Hn) (s:Dk) (ring seq pos:Nat) (A:Option Addr) (n c:Nat) (ps:List (Nat × Bs)) (w:World) (H:LgOk w lo d l h s ring seq pos) (HP:PutsAt w (h.T d) A n (ips ps)) (hc:n≤c) (hG:GoodP s.n ring ps) (hr1:1≤ring) (hp:pos < ring) (hr2:ring+4≤s.n) :
  Calls Try.prog 36 #[.pointer (some ⟨l,0,none⟩),.slice A n c] w fun e w'=>∃ A' n' c',e=.returned (.slice A' n' c')∧PutsAt w' (h.T d) A' n' (ips (chg ring pos ps))∧Below w.heap.size w w':=by
 have hN:=H.dk.size
 have hpl:ps.length=n:=by have:=HP.len;unfold ips at this;rw [List.length_map] at this;exact this
 have HPN:=Lib.hid hpl
 have HQ:=Lib.hid HP
 have HL:=Lib.hid H
 have HG:=Lib.hid hG
 have hn1:1≤n:=by rw [← hpl];exact List.length_pos_iff.2 hG.ne
 have hn2:n≤150:=by rw [← hpl];exact hG.few
 obtain ⟨D,hD⟩:∃ D,descN n=D:=⟨_,rfl⟩
 have hDn':D=(n - 1) / 64+1:=by rw [← hD];rfl
 have HDn:=Lib.hid hDn'
 have hD3:D≤3:=by omega
 have HIN:=Lib.hid (fun (w':World) (hb:Below w.heap.size w w') (i:Nat) (hi:i≤5000)=>inW_any w' d l ring seq pos i (H.lg.later hb) (by omega) hr1 hp hi)
 have HFR:=Lib.hid H.dk.fresh
 clear H HP hG hpl hD hDn'
 go_enter Try.func36,Try.ntmps36
 go_wp2_with fail
 go_loopw [5,6] (fun v5 vi wr=>∃ (q i:Nat) (lp:List PT) (A5:Option Addr) (c5:Nat),q≤D∧Hid (i=64 * q)∧vi=.int .i64 (i:Int)∧v5=.slice A5 q c5∧Hid (ownW wr w.heap.size (.slice A5 q c5) lp)∧Hid (PutsL wr (T6 (h.T d) (.slice A5 q c5)) lp (ips ((chg ring pos ps).take q)))∧Hid (Below w.heap.size w wr)) (fun _ vi _=>n+64 - (intOf vi).toNat)
 case atStart=>exact ⟨0,0,[],none,0,Nat.zero_le _,rfl,rfl,rfl,ownW.nil_ _ _,PutsL.nil _ _,Below.refl _ _⟩
 case round =>
  obtain ⟨q,i,lp,A5,c5,hq,Hi,rfl,rfl,HO,HPL,HBW⟩:=hrel
  have hsz:=HBW.out.size
  have hi1:i≤200:=by have:=Hi.out;omega
  have hil:lp.length=q:=by obtain ⟨_,_,e,-⟩:=HO.out.form;injection e with _ e _;exact e.symm
  by_cases hlt:i < n
  ·have hqD:q < D:=by have:=HDn.out;have:=Hi.out;omega
   obtain ⟨wo,rfl⟩:∃ wo:World,wo=wr:=⟨_,rfl⟩
   have HSEG:Hid (∀ k,k < 64→i+k < n→∃ b o B cc key dat,A=some ⟨b,o,none⟩∧b < w.heap.size∧ps[i+k]?=some (key,dat)∧key < 65536∧wo.cell? ⟨b,o+(i+k) * 2,none⟩=some (.int .i64 (key:Int))∧wo.cell? ⟨b,o+(i+k) * 2+1,none⟩=some (.slice B 256 cc)):=(show ∀ k,_ from fun k hk hkn=>by
    obtain ⟨⟨key,dat⟩,hx⟩:∃ x,ps[i+k]?=some x:=⟨_,List.getElem?_eq_getElem (show i+k < ps.length by rw [HPN.out];exact hkn)⟩
    obtain ⟨g1,g2,-⟩:=HG.out.home _ (List.mem_of_getElem? hx)
    obtain ⟨b,o,B,cc,hA,hb,e1,e2,-⟩:=HQ.out.get (ips_get hx)
    exact ⟨b,o,B,cc,key,dat,hA,hb,hx,by dsimp only at g2;omega,cell_later e1 HBW.out,cell_later e2 HBW.out⟩)
   obtain ⟨ba,oa,hAe,hbal⟩:∃ b o,A=some ⟨b,o,none⟩∧b < w.heap.size:=(by obtain ⟨b,o,_,_,_,_,e,e2,-⟩:=HSEG.out 0 (by omega) (by omega);exact ⟨b,o,e,e2⟩)
   subst hAe
   have hX:=HBW.out
   obtain ⟨J,hJ⟩:∃ J:Nat,min ((i:Int)+64) (n:Int)=(J:Int):=⟨min (i+64) n,by omega⟩
   have HJ:Hid (i < J∧J≤n∧(J=i+64∨J=n∧J≤i+64)):=(show _∧_ by omega)
   have hJ1:(i:Int)≤(J:Int):=by omega
   have hJ2:(J:Int)≤(c:Int):=by omega
   obtain ⟨m,hm⟩:∃ m,J - i=m:=⟨_,rfl⟩
   have Hm:Hid (1≤m∧m≤64∧i+m≤n∧(m=64∨i+m=n)):=(show _∧_ by have:=HJ.out;omega)
   have hm64:m≤64:=Hm.out.2.1
   have HDE:Hid (fillS ([] ++ (((ps.drop i).take m).flatMap fun x=>beB x.1 2))=descB ps q):=(show _=_ by
    unfold descB
    rw [List.nil_append,← Hi.out]
    have e:(ps.drop i).take m=(ps.drop i).take 64:=by
     rcases Hm.out.2.2.2 with e | e
     ·rw [e]
     ·rw [List.take_of_length_le (by rw [List.length_drop,HPN.out];omega),List.take_of_length_le (by rw [List.length_drop,HPN.out];omega)]
    rw [e])
   have HHI:=Lib.hid Hi.out
   clear HJ
   go_wp2_with fail
   go_loopw [7,27] (fun v7 vk wr=>∃ (k n7:Nat) (A7:Option Addr) (c7:Nat),k≤m∧Hid (n7=k * 2)∧vk=.int .i64 (k:Int)∧v7=.slice A7 n7 c7∧Hid (ownB wr wo.heap.size (.slice A7 n7 c7) (((ps.drop i).take k).flatMap fun x=>beB x.1 2))∧Hid (Below wo.heap.size wo wr)) (fun _ vk _=>m - (intOf vk).toNat)
   case atStart=>exact ⟨0,0,none,0,Nat.zero_le _,rfl,rfl,rfl,(show ownB _ _ _ _ from ownB.nil_ _ _),Below.refl _ _⟩
   case round =>
    obtain ⟨k,n7,A7,c7,hk,Hn7,rfl,rfl,HO7,HB7⟩:=hrel
    have hs7:=HB7.out.size
    have hn7:n7≤200:=by have:=Hn7.out;omega
    have HLB:Hid ((((ps.drop i).take k).flatMap fun x=>beB x.1 2).length=n7):=(show _=_ by obtain ⟨_,_,e,-⟩:=HO7.out.form;injection e with _ e _;exact e.symm)
    by_cases hkm:k < m
    ·obtain ⟨b',o',B,cc,key,dat,hA,-,hx,hkey,e1,e2⟩:=HSEG.out k (by omega) (by have:=Hm.out;omega)
     injection hA with hA
     injection hA with hA1 hA2
     subst hA1 hA2
     have k1:wr.cell? ⟨ba,oa+i * 2+k * 2,none⟩=some (.int .i64 (key:Int)):=by rw [show oa+i * 2+k * 2=oa+(i+k) * 2 by omega];exact cell_later e1 HB7.out
     have k2:wr.cell? ⟨ba,oa+i * 2+k * 2+1,none⟩=some (.slice B 256 cc):=by rw [show oa+i * 2+k * 2+1=oa+(i+k) * 2+1 by omega];exact cell_later e2 HB7.out
     have HBG:=Lib.hid (fun w=>bigW_any key 2 2 rfl (by decide) (by decide) (by omega) w)
     have HFT:=Lib.hid (flat_take hx)
     obtain ⟨kb,hkb⟩:∃ b,beB key 2=b:=⟨_,rfl⟩
     rw [hkb] at HBG
     have HKB:=Lib.hid hkb
     obtain ⟨bs,hbs⟩:∃ b,(((ps.drop i).take k).flatMap fun x=>beB x.1 2)=b:=⟨_,rfl⟩
     rw [hbs] at HO7 HLB HFT
     clear hx e1 e2 hkb hbs
     go_wp2_with (first
      | (go_at_call 45;(with_reducible refine (HBG.out _).mono ?_);go_must (rintro e w6 ⟨A6,c6,rfl,hr6,hb6⟩;have HR6:=Lib.hid hr6;have HB6:Hid (Below wo.heap.size wo w6):=(show Below _ _ _ from (HB7.out.alloc hs7 _).trans (hb6.mono (by rw [World.size_alloc];omega)));have HO6:=Lib.hid ((HO7.out.later ((Below.refl _ _).alloc (Nat.le_refl _) _)).later hb6);have hs6:=HB6.out.size;clear hr6 hb6))
      | (at_builtin;(refine wpList_appendB rfl (.tmp 31) (.tmp 34) rfl wo.heap.size (.slice A7 n7 c7) bs rfl HO6.out _ 2 c6 A6 kb rfl HR6.out (by rw [HLB.out];omega) hs6 ?_;intro v8 w8 ho8 hg8 hb8 ha8;have HO8:=Lib.hid ho8;have HB8:=Lib.hid (HB6.out.trans hb8);obtain ⟨A8,c8,e8,-,-,-⟩:=ho8.form;obtain ⟨n8,hn8⟩:∃ n8,(bs ++ kb).length=n8:=⟨_,rfl⟩;rw [hn8] at e8;subst e8;have HN8:=Lib.hid hn8;clear ho8 hg8 hb8 ha8 hn8)))
     go_roundw
     case rel =>
      refine ⟨k+1,n8,A8,c8,by omega,(show n8=_ from ?_),by go_num,rfl,(show ownB _ _ _ _ from ?_),HB8⟩
      ·rw [← HN8.out,List.length_append,HLB.out,Hn7.out,← HKB.out,beB_len];omega
      ·rw [HFT.out,HKB.out];exact HO8.out
     case measure=>simp [intOf];omega
    ·obtain rfl:k=m:=by omega
     have hn0:0 < n7:=by have:=Hn7.out;have:=Hm.out;omega
     obtain ⟨bs,hbs⟩:∃ b,(((ps.drop i).take k).flatMap fun x=>beB x.1 2)=b:=⟨_,rfl⟩
     rw [hbs] at HO7 HLB HDE
     have HX7:=Lib.hid (hX.trans (HB7.out.mono hsz))
     have hX7:=HX7.out
     have hsw:=hX7.size
     have HI7:=Lib.hid (HIN.out wr hX7 q (by omega))
     obtain ⟨P,hP⟩:∃ P,inN ring pos q=P:=⟨_,rfl⟩
     rw [hP] at HI7
     have HTK:=Lib.hid (chg_take (ring:=ring) (pos:=pos) (chgB_desc (ps:=ps) (q:=q) (by rw [HPN.out];have:=HDn.out;unfold descN;omega)))
     rw [hP] at HTK
     obtain ⟨db,hdb⟩:∃ b,descB ps q=b:=⟨_,rfl⟩
     rw [hdb] at HTK HDE
     have hbl:bs.length≤200:=by rw [HLB.out];exact hn7
     have HRB:=Lib.hid (Rd.here (HO7.out.rd))
     have HOW:=Lib.hid (HO.out.later HB7.out)
     have HPW:=Lib.hid (HPL.out.later HB7.out)
     have j0:(wr.alloc (.cells #[.slice A7 n7 c7] 36)).drew.cell? ⟨wr.heap.size,0,none⟩=some (.slice A7 n7 c7):=(show (wr.alloc (.cells #[.slice A7 n7 c7] 36)).cell? _=_ by rw [cell_of_row _ _ _ _ _ _ (heap_alloc_new wr _)];rfl)
     have r0:RdB (wr.alloc (.cells #[.slice A7 n7 c7] 36)).drew (wr.alloc (.cells #[.slice A7 n7 c7] 36)).drew.heap.size A7 n7 bs:=(show RdB (wr.alloc (.cells #[.slice A7 n7 c7] 36)) (wr.alloc (.cells #[.slice A7 n7 c7] 36)).heap.size _ _ _ from rdB_al HRB.out _)
     have J0:=Lib.hid j0
     have R0:=Lib.hid r0
     have HZX:Hid ((wr.alloc (.cells #[.slice A7 n7 c7] 36)).heap.size=wr.heap.size+1):=(show _=_ from World.size_alloc _ _)
     clear j0 r0
     have HJN:=Lib.hid (fun (w':World) (k1:w'.cell? ⟨wr.heap.size,0,none⟩=some (.slice A7 n7 c7)) (h1:RdB w' w'.heap.size A7 n7 bs)=>sector_any ⟨#[]⟩ [] bs wr.heap.size 0 1 1 w' rfl (by decide) hbl (join1 wr.heap.size n7 c7 A7 bs w' k1 h1 hn0 hbl))
     rw [HDE.out] at HJN
     clear hbs hP hdb HIN HDE HSEG
     go_wp2_with (first
      | (go_at_call 55;(with_reducible refine HI7.out.mono ?_);go_must (rintro e w2 ⟨rfl,rfl⟩))
      | (go_at_call 44;(with_reducible refine (HJN.out _ J0.out R0.out).mono ?_);go_must (rintro e w5 ⟨g5,c5',rfl,hg5,hr5,hb5⟩;have HB5:Hid (Below wr.heap.size wr w5):=(show Below _ _ _ from (((Below.refl wr.heap.size wr).alloc (Nat.le_refl _) (.cells #[.slice A7 n7 c7] 36)).drew).trans (hb5.mono (show wr.heap.size≤(wr.alloc (.cells #[.slice A7 n7 c7] 36)).heap.size by rw [HZX.out];exact Nat.le_succ _)));have hs5:=HB5.out.size;have hg5':wr.heap.size≤g5:=(by have e:(wr.alloc (.cells #[.slice A7 n7 c7] 36)).heap.size≤g5:=hg5;rw [HZX.out] at e;exact Nat.le_of_succ_le e);have HR5:=Lib.hid hr5;have HX5:=Lib.hid (hX7.trans (HB5.out.mono hsw));have hsx:=HX5.out.size;have HO5:=Lib.hid (HOW.out.later HB5.out);clear hr5 hb5 hg5))
      | (at_builtin;(refine wpList_appendW rfl (.tmp 37) (.tmp 46) rfl w.heap.size (.slice A5 q c5) lp rfl (HO5.out.alloc _) (w5.heap.size+1) 1 1 (some ⟨w5.heap.size,0,none⟩) [((P:Int),some ⟨g5,0,none⟩,256,c5')] rfl (rdW_one w5 (P:Int) _ 256 c5') (by omega) (by rw [World.size_alloc];omega) ?_;intro v8 w8 ho8 hg8 hb8 ha8;have HO8:=Lib.hid ho8;have HG8:=Lib.hid (T6.grow (T:=h.T d) hg8 ha8);have HB8:=Lib.hid ((HX5.out.alloc hsx _).trans hb8);obtain ⟨A8,c8,e8,-,-,-⟩:=ho8.form;rw [List.length_append,hil] at e8;have e9:v8=.slice A8 (q+1) c8:=e8;clear e8;subst e9;clear ho8 hg8 hb8 ha8)))
     go_roundw
     case rel =>
      refine ⟨q+1,i+64,_,A8,c8,by omega,(show i+64=_ by have:=HHI.out;omega),by go_num,rfl,HO8,(show PutsL _ _ _ _ from ?_),HB8⟩
      have hgl:g5 < w5.heap.size:=by obtain ⟨b5,o5,e5,-,hc5⟩:=HR5.out.2 (by decide);injection e5 with e5;injection e5 with e5 e6;subst e5;exact block_lt_of_cell (hc5 0 _ (List.getElem?_eq_getElem (show 0 < (cb db).length by have:=HR5.out.1;omega)))
      have hrow:RowAt w5 (T6 (h.T d) (.slice A5 q c5)) (some ⟨g5,0,none⟩) 256 db:=⟨HR5.out.len,fun _=>⟨g5,0,rfl,T6.new HOW.out HFR.out hsw g5 hg5',hgl⟩,Rd.here HR5.out⟩
      rw [HTK.out]
      exact (PutsL.later ((HPW.out.later HB5.out).snoc hrow) ((Below.refl _ _).alloc (Nat.le_refl _) _)).fr HG8.out.1 HG8.out.2
     case measure=>simp [intOf];omega
  ·have hqD:q=D:=by have:=HDn.out;have:=Hi.out;omega
   have HIq:=Lib.hid (HIN.out)
   have HQD:=Lib.hid hqD
   obtain ⟨wo,rfl⟩:∃ wo:World,wo=wr:=⟨_,rfl⟩
   clear hqD
   go_wp2_with fail
   go_loopw [5,50] (fun v5 vk wr=>∃ (k Q:Nat) (lp:List PT) (A5:Option Addr) (c5:Nat),k≤n∧Hid (Q=q+k)∧vk=.int .i64 (k:Int)∧v5=.slice A5 Q c5∧Hid (ownW wr w.heap.size (.slice A5 Q c5) lp)∧Hid (PutsL wr (T6 (h.T d) (.slice A5 Q c5)) lp (ips ((chg ring pos ps).take Q)))∧Hid (Below w.heap.size w wr)) (fun _ vk _=>n - (intOf vk).toNat)
   case atStart=>exact ⟨0,q,lp,A5,c5,Nat.zero_le _,rfl,rfl,rfl,HO,HPL,HBW⟩
   case round =>
    clear HO HPL HBW hsz hil
    obtain ⟨k,Q,lp,A5,c5,hk,HQk,rfl,rfl,HO,HPL,HBW⟩:=hrel
    have hsz:=HBW.out.size
    have hil:lp.length=Q:=by obtain ⟨_,_,e,-⟩:=HO.out.form;injection e with _ e _;exact e.symm
    by_cases hkn:k < n
    ·obtain ⟨⟨key,dat⟩,hx⟩:∃ x,ps[k]?=some x:=⟨_,List.getElem?_eq_getElem (show k < ps.length by rw [HPN.out];exact hkn)⟩
     obtain ⟨b,o,B,cc,rfl,hbl,e1,e2,hrw⟩:=HQ.out.get (ips_get hx)
     have k1:=cell_later e1 HBW.out
     have k2:=cell_later e2 HBW.out
     have HRW:=Lib.hid ((hrw.t6 HO.out).fr (T':=T6 (h.T d) (.slice A5 Q c5)) (Fr.of _ HBW.out) (TT.refl _ _))
     have hQ5:Q≤5000:=by have:=HQk.out;have:=HQD.out;omega
     have HTK:=Lib.hid (chg_take (ring:=ring) (pos:=pos) (i:=Q) (by have:=chgB_data hx;rw [HPN.out,show descN n=q from by rw [HQD.out];exact HDn.out.symm,← HQk.out] at this;exact this))
     have HI7:=Lib.hid (fun w' hb=>HIN.out w' hb Q hQ5)
     obtain ⟨P,hP⟩:∃ P,inN ring pos Q=P:=⟨_,rfl⟩
     rw [hP] at HI7 HTK
     clear hx e1 e2 hrw hP
     go_upto_region 15 with fail
     have hX5:Below w.heap.size w (wr.alloc (.cells #[.int .i64 (key:Int),.slice B 256 cc] 56)):=HBW.out.alloc hsz _
     have n1:(wr.alloc (.cells #[.int .i64 (key:Int),.slice B 256 cc] 56)).cell? ⟨wr.heap.size,1,none⟩=some (.slice B 256 cc):=by
      rw [cell_of_row _ _ _ _ _ _ (heap_alloc_new wr _)];rfl
     have HO5:=Lib.hid (HO.out.alloc (.cells #[.int .i64 (key:Int),.slice B 256 cc] 56))
     have HP5:=Lib.hid (HPL.out.later ((Below.refl wr.heap.size wr).alloc (Nat.le_refl _) (.cells #[.int .i64 (key:Int),.slice B 256 cc] 56)))
     have HR5:=Lib.hid (HRW.out.later ((Below.refl wr.heap.size wr).alloc (Nat.le_refl _) (.cells #[.int .i64 (key:Int),.slice B 256 cc] 56)))
     generalize hW5:wr.alloc (.cells #[.int .i64 (key:Int),.slice B 256 cc] 56)=W5 at *
     have hs5:=hX5.size
     go_region_law (first
      | (refine step_appendW rfl (.tmp 54) (.tmp 62) rfl w.heap.size (.slice A5 Q c5) lp rfl (show ownW (W5.alloc (.cells #[.int .i64 (P:Int),.slice B 256 cc] 56)).drew.drew _ _ _ from HO5.out.alloc _) (W5.heap.size+1) 1 1 (some ⟨W5.heap.size,0,none⟩) [((P:Int),B,256,cc)] rfl (show RdW (W5.alloc (.cells #[.int .i64 (P:Int),.slice B 256 cc] 56)).drew.drew _ _ _ _ from rdW_one W5 (P:Int) B 256 cc) (by omega) (show w.heap.size≤(W5.alloc (.cells #[.int .i64 (P:Int),.slice B 256 cc] 56)).heap.size by rw [World.size_alloc];exact Nat.le_succ_of_le hs5) ?_;intro v8 w8 ho8 hg8 hb8 ha8;have HO8:=Lib.hid ho8;have HG8:=Lib.hid (T6.grow (T:=h.T d) hg8 ha8);have HB8:=Lib.hid (((hX5.alloc hs5 (.cells #[.int .i64 (P:Int),.slice B 256 cc] 56)).drew.drew).trans hb8);obtain ⟨A8,c8,e8,-,-,-⟩:=ho8.form;rw [List.length_append,hil] at e8;have e9:v8=.slice A8 (Q+1) c8:=e8;clear e8;subst e9;clear ho8 hg8 hb8 ha8)
      | (go_simp;go_at_call 55;(with_reducible refine (HI7.out _ ?_).mono ?_);(first | exact hX5 | exact Below.drew hX5);go_must (rintro e w2 ⟨rfl,rfl⟩)))
     all_goals
      go_wp2_with fail
      go_roundw
      case rel =>
       refine ⟨k+1,Q+1,_,A8,c8,by omega,(show Q+1=_ by have:=HQk.out;omega),by go_num,rfl,HO8,(show PutsL _ _ _ _ from ?_),HB8⟩
       rw [HTK.out]
       exact (PutsL.later (HP5.out.snoc HR5.out) (show Below W5.heap.size W5 _ from ((Below.refl W5.heap.size W5).alloc (Nat.le_refl _) _).drew.drew)).fr HG8.out.1 HG8.out.2
      case measure=>simp [intOf];omega
    ·obtain rfl:k=n:=by omega
     have hall:(chg ring pos ps).take Q=chg ring pos ps:=List.take_of_length_le (by rw [chg_len,HPN.out,HQk.out,HQD.out,HDn.out];exact Nat.le_refl _)
     rw [hall] at HPL
     clear hall
     go_wp2_with fail
     go_ret
     exact ⟨A5,Q,c5,rfl,(HPL.out.sub (fun g hg=>.inl hg)).at HO.out HFR.out,HBW.out⟩
end Go.Proofs.Ytdoanopeejeeiaa

