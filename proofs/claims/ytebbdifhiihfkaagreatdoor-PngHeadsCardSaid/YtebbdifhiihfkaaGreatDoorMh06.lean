/- XPc3 XPc4 XPcP0 -/
import Derived.Test.YtebbdifhiihfkaaGreatDoorMh02
import Derived.Test.YtebbdifhiihfkaaGreatDoorMh03
import Derived.Test.YtebbdifhiihfkaaGreatDoorMh04
import Derived.Test.YtebbdifhiihfkaaGreatDoorMh05
namespace Go.Proofs.YtebbdifhiihfkaaGreatDoor
set_option linter.all false
open Go.RowKit
/-- What a chunk at place k says: its length, kind, data, sum; and the error. -/
def nxL (bs:List UInt8) (k:Nat):Nat:=beV ((bs.drop k).take 4)
def nxK (bs:List UInt8) (k:Nat):List UInt8:=(bs.drop (k+4)).take 4
def nxD (bs:List UInt8) (k:Nat):List UInt8:=(bs.drop (k+8)).take (nxL bs k)
def nxX (bs:List UInt8) (k:Nat):Nat:=beV ((bs.drop (k+8+nxL bs k)).take 4)
def nxC (bs:List UInt8) (k:Nat):Nat:=crc ((bs.drop (k+4)).take (4+nxL bs k))
def nxE (bs:List UInt8) (k:Nat):Nat :=
 if bs.length < k+4 then 2 else if 2147483647 < nxL bs k then 4 else if bs.length < k+8 then 2 else if (nxK bs k).all letB=false then 4 else
 if bs.length < k+12+nxL bs k then 2 else if nxX bs k=nxC bs k then 0 else 5
theorem rd4_bad {bs:List UInt8} {k:Nat} (hk:k≤bs.length) (h:bs.length < k+4):rdR beV bs (k:Int) 4=(0,2):=by
 unfold rdR
 rw [if_neg (by omega),if_pos (by omega)]
theorem rd4_ok {bs:List UInt8} {k:Nat} (h:k+4≤bs.length):rdR beV bs (k:Int) 4=(((nxL bs k:Nat):Int),0):=by
 unfold rdR nxL
 rw [if_neg (by omega),if_neg (by omega),Int.toNat_natCast]
 rfl
theorem beV4_lt (l:List UInt8):beV (l.take 4) < 4294967296:=by
 have h:=beV_lt (l.take 4) (l.take 4).length (Nat.le_refl _)
 rw [List.take_length] at h
 have h2:(l.take 4).length≤4:=by rw [List.length_take];omega
 have h3:256 ^ (l.take 4).length≤256 ^ 4:=Nat.pow_le_pow_right (by decide) h2
 omega
set_option maxRecDepth 100000 in
set_option maxHeartbeats 6400000 in
theorem next_bad (B n c k:Nat) (A:Option Addr) (bs:List UInt8) (w:World) (h:RdB w B A n bs) (hB:B≤w.heap.size) (hc:n≤c) (hn:n≤1000000) (hk:k < n) (hE:nxE bs k ≠ 0) :
  Calls Tryz.prog 21 #[.slice A n c,.int .i64 (k:Int)] w fun e w'=>e=.returned (.tuple #[.agg #[.string ⟨#[]⟩,.slice none 0 0],.int .i64 0,.int .i64 (nxE bs k:Int)])∧Below w.heap.size w w':=by
 have hl:=h.len
 have HRB:=Lib.hid (fun w1 (h:RdB w1 B A n bs)=>readBig_any B n c A bs (k:Int) 4 w1 h hc (by omega))
 obtain ⟨b,o,rfl,hbB,hcell⟩:=h.at_ (show 0 < n by omega)
 have HR:=Lib.hid h
 clear h hcell
 have HR1:Hid (RdB (w.alloc (.cells #[.string ⟨#[]⟩,.slice none 0 0] 33)) B (some ⟨b,o,none⟩) n bs):=(show RdB _ _ _ _ _ from Rd.alloc HR.out hB (.cells #[.string ⟨#[]⟩,.slice none 0 0] 33))
 have HB1:=Lib.hid ((Below.refl w.heap.size w).alloc (Nat.le_refl _) (.cells #[.string ⟨#[]⟩,.slice none 0 0] 33))
 have HRB1:=Lib.hid (HRB.out (w.alloc (.cells #[.string ⟨#[]⟩,.slice none 0 0] 33)) HR1.out)
 clear HRB
 by_cases h1:n < k+4
 ·rw [rd4_bad (by omega) (by omega)] at HRB1
  have e:nxE bs k=2:=by unfold nxE;rw [if_pos (by omega)]
  rw [e]
  clear e hE
  go_enter Tryz.func21,Tryz.ntmps21
  go_wp2_with (go_at_call 18;(with_reducible refine HRB1.out.mono ?_);go_must (rintro e w1 ⟨rfl,rfl⟩))
  refine bodyPost_ret (v:=.tuple #[.agg #[.string ⟨#[]⟩,.slice none 0 0],.int .i64 0,.int .i64 2]) ?_ rfl ?_
  ·unfold results
   go_simp
  ·exact ⟨rfl,HB1.out⟩
 ·rw [rd4_ok (by omega)] at HRB1
  have hLL:nxL bs k < 4294967296:=beV4_lt _
  by_cases h2:2147483647 < nxL bs k
  ·have e:nxE bs k=4:=by unfold nxE;rw [if_neg (by omega),if_pos h2]
   rw [e]
   clear e hE
   generalize nxL bs k=L at *
   have h2i:(2147483647:Int) < (L:Int):=by omega
   go_enter Tryz.func21,Tryz.ntmps21
   go_wp2_with (go_at_call 18;(with_reducible refine HRB1.out.mono ?_);go_must (rintro e w1 ⟨rfl,rfl⟩))
   refine bodyPost_ret (v:=.tuple #[.agg #[.string ⟨#[]⟩,.slice none 0 0],.int .i64 0,.int .i64 4]) ?_ rfl ?_
   ·unfold results
    go_simp
   ·exact ⟨rfl,HB1.out⟩
  ·by_cases h3:n < k+8
   ·have e:nxE bs k=2:=by unfold nxE;rw [if_neg (by omega),if_neg h2,if_pos (by omega)]
    rw [e]
    clear e hE
    generalize nxL bs k=L at *
    have h2i:¬ (2147483647:Int) < (L:Int):=by omega
    obtain ⟨d,hd⟩:∃ d,n=k+d:=⟨n - k,by omega⟩
    have hdw:IntKind.i64.wrap ((n:Int) - (k:Int))=(d:Int):=by rw [show (n:Int) - (k:Int)=(d:Int) by omega];exact wrap_i64_lt _ (by omega)
    have h3i:(d:Int) < 8:=by omega
    have HD:=Lib.hid hd
    clear hd
    go_enter Tryz.func21,Tryz.ntmps21
    go_wp2_with (go_at_call 18;(with_reducible refine HRB1.out.mono ?_);go_must (rintro e w1 ⟨rfl,rfl⟩))
    refine bodyPost_ret (v:=.tuple #[.agg #[.string ⟨#[]⟩,.slice none 0 0],.int .i64 0,.int .i64 2]) ?_ rfl ?_
    ·unfold results
     go_simp
    ·exact ⟨rfl,HB1.out⟩
   ·obtain ⟨d,hd⟩:∃ d,n=k+d:=⟨n - k,by omega⟩
    have hdw:IntKind.i64.wrap ((n:Int) - (k:Int))=(d:Int):=by rw [show (n:Int) - (k:Int)=(d:Int) by omega];exact wrap_i64_lt _ (by omega)
    have h3i:¬ (d:Int) < 8:=by omega
    have h2i:¬ (2147483647:Int) < (nxL bs k:Int):=by omega
    obtain ⟨K4,hK4⟩:∃ x,k+4=x:=⟨_,rfl⟩
    obtain ⟨K8,hK8⟩:∃ x,k+8=x:=⟨_,rfl⟩
    have hk4:IntKind.i64.wrap ((k:Int)+4)=(K4:Int):=by rw [show (k:Int)+4=(K4:Int) by omega];exact wrap_i64_lt _ (by omega)
    have hk8:IntKind.i64.wrap ((k:Int)+8)=(K8:Int):=by rw [show (k:Int)+8=(K8:Int) by omega];exact wrap_i64_lt _ (by omega)
    have HS1:=Lib.hid (run_strB (c:=c - K4) (RdB.cut HR1.out (k:=K4) (m:=K8 - K4) (show K4+(K8 - K4)≤n by omega) (A':=some ⟨b,o+K4,none⟩) (fun _=>by simp [Addr.add];omega)))
    have HKK:Hid ((bs.drop K4).take (K8 - K4)=nxK bs k):=(show _=_ by unfold nxK;rw [hK4,show K8 - K4=4 by omega])
    rw [HKK.out] at HS1
    have g1:K4≤K8:=by omega
    have g2:K8≤c:=by omega
    have g3:K8≤n:=by omega
    have g4:¬ c=K4:=by omega
    have g5:¬ c - K4=0:=by omega
    have g1i:(K4:Int)≤(K8:Int):=by omega
    have g2i:(K8:Int)≤(c:Int):=by omega
    have hks:=HS1.out
    have HD:=Lib.hid hd
    have HK4:=Lib.hid hK4
    have HK8:=Lib.hid hK8
    clear hd hK4 hK8
    have HB2:=Lib.hid (HB1.out.alloc (by rw [World.size_alloc];omega) (.cells #[.string ⟨(nxK bs k).toArray⟩,.slice none 0 0] 33))
    have hsz:(⟨(nxK bs k).toArray⟩:ByteArray).size≤140737488355328:=(by show (nxK bs k).toArray.size≤_;rw [List.size_toArray];unfold nxK;rw [List.length_take];omega)
    have HLT:=Lib.hid (fun w=>letters_any ⟨(nxK bs k).toArray⟩ w hsz)
    have hee:(⟨(nxK bs k).toArray⟩:ByteArray).data.toList=nxK bs k:=rfl
    rw [hee] at HLT
    clear hee hsz
    by_cases h4:(nxK bs k).all letB=false
    ·have e:nxE bs k=4:=by unfold nxE;rw [if_neg (by omega),if_neg h2,if_neg (by have:=HD.out;omega),if_pos h4]
     rw [e]
     rw [h4] at HLT
     clear e hE h4 HKK HS1
     generalize nxL bs k=L at *
     generalize nxK bs k=kk at *
     go_enter Tryz.func21,Tryz.ntmps21
     go_wp2_with (first
      | (go_at_call 18;(with_reducible refine HRB1.out.mono ?_);go_must (rintro e w1 ⟨rfl,rfl⟩))
      | (go_at_call 48;(with_reducible refine (HLT.out _).mono ?_);go_must (rintro e w1 ⟨rfl,rfl⟩)))
     refine bodyPost_ret (v:=.tuple #[.agg #[.string ⟨#[]⟩,.slice none 0 0],.int .i64 0,.int .i64 4]) ?_ rfl ?_
     ·unfold results
      go_simp
     ·exact ⟨rfl,HB2.out⟩
    ·have h4t:(nxK bs k).all letB=true:=by cases h:(nxK bs k).all letB with | true=>rfl | false=>exact absurd h h4
     rw [h4t] at HLT
     have hd12:IntKind.i64.wrap ((d:Int) - 12)=(d:Int) - 12:=by have:=HD.out;unfold IntKind.wrap;simp [IntKind.signed,IntKind.bits];omega
     by_cases h5:n < k+12+nxL bs k
     ·have e:nxE bs k=2:=by unfold nxE;rw [if_neg (by omega),if_neg h2,if_neg (by have:=HD.out;omega),if_neg h4,if_pos (by omega)]
      have h5i:(d:Int) - 12 < (nxL bs k:Int):=by have:=HD.out;omega
      rw [e]
      clear e hE h4 h4t HKK HS1
      generalize nxL bs k=L at *
      generalize nxK bs k=kk at *
      go_enter Tryz.func21,Tryz.ntmps21
      go_wp2_with (first
       | (go_at_call 18;(with_reducible refine HRB1.out.mono ?_);go_must (rintro e w1 ⟨rfl,rfl⟩))
       | (go_at_call 48;(with_reducible refine (HLT.out _).mono ?_);go_must (rintro e w1 ⟨rfl,rfl⟩)))
      refine bodyPost_ret (v:=.tuple #[.agg #[.string ⟨#[]⟩,.slice none 0 0],.int .i64 0,.int .i64 2]) ?_ rfl ?_
      ·unfold results
       go_simp
      ·exact ⟨rfl,HB2.out⟩
     ·have hdn:=HD.out
      have hK4:=HK4.out
      have hK8:=HK8.out
      obtain ⟨KL,hKL⟩:∃ x,K8+nxL bs k=x:=⟨_,rfl⟩
      have h5i:¬ (d:Int) - 12 < (nxL bs k:Int):=by omega
      have hkl:IntKind.i64.wrap ((K8:Int)+(nxL bs k:Int))=(KL:Int):=by rw [show (K8:Int)+(nxL bs k:Int)=(KL:Int) by omega];exact wrap_i64_lt _ (by omega)
      have HRz:Hid (RdB ((w.alloc (.cells #[.string ⟨#[]⟩,.slice none 0 0] 33)).alloc (.cells #[.string ⟨(nxK bs k).toArray⟩,.slice none 0 0] 33)) B (some ⟨b,o,none⟩) n bs):=(show RdB _ _ _ _ _ from Rd.alloc HR1.out (by rw [World.size_alloc];omega) _)
      have HAz:Hid (Arr ((w.alloc (.cells #[.string ⟨#[]⟩,.slice none 0 0] 33)).alloc (.cells #[.string ⟨(nxK bs k).toArray⟩,.slice none 0 0] 33)) (w.heap.size+1) [.string ⟨(nxK bs k).toArray⟩,.slice none 0 0]):=(show Arr _ _ _ by
       have:=Arr.new (w.alloc (.cells #[.string ⟨#[]⟩,.slice none 0 0] 33)) [.string ⟨(nxK bs k).toArray⟩,.slice none 0 0] 33
       rwa [World.size_alloc] at this)
      have HOz:Hid (Arr ((w.alloc (.cells #[.string ⟨#[]⟩,.slice none 0 0] 33)).alloc (.cells #[.string ⟨(nxK bs k).toArray⟩,.slice none 0 0] 33)) w.heap.size [.string ⟨#[]⟩,.slice none 0 0]):=(show Arr _ _ _ from Arr.alloc (Arr.new w [.string ⟨#[]⟩,.slice none 0 0] 33) _)
      have HZz:Hid (((w.alloc (.cells #[.string ⟨#[]⟩,.slice none 0 0] 33)).alloc (.cells #[.string ⟨(nxK bs k).toArray⟩,.slice none 0 0] 33)).heap.size=w.heap.size+2):=(show _=_ by rw [World.size_alloc,World.size_alloc])
      have HCL:=Lib.hid (fun wz (h:RdB wz B (some ⟨b,o,none⟩) n bs) (hz:B≤wz.heap.size)=>clone_any B (KL - K8) (c - K8) (some ⟨b,o+K8,none⟩) ((bs.drop K8).take (KL - K8)) wz (RdB.cut h (show K8+(KL - K8)≤n by omega) (fun _=>by simp [Addr.add];omega)) hz (by omega))
      have HCR:=Lib.hid (fun wz (h:RdB wz B (some ⟨b,o,none⟩) n bs)=>crc_any B (KL - K4) (c - K4) (some ⟨b,o+K4,none⟩) ((bs.drop K4).take (KL - K4)) wz (RdB.cut h (show K4+(KL - K4)≤n by omega) (fun _=>by simp [Addr.add];omega)) (by omega))
      have HRK:=Lib.hid (fun w1 (h:RdB w1 B (some ⟨b,o,none⟩) n bs)=>readBig_any B n c (some ⟨b,o,none⟩) bs (KL:Int) 4 w1 h hc (by omega))
      rw [rd4_ok (show KL+4≤bs.length by omega)] at HRK
      have HX:Hid (nxL bs KL=nxX bs k):=(show _=_ by unfold nxX;rw [show k+8+nxL bs k=KL by omega];rfl)
      have HCC:Hid (crc ((bs.drop K4).take (KL - K4))=nxC bs k):=(show _=_ by unfold nxC;rw [hK4,show KL - K4=4+nxL bs k by omega])
      have hXl:nxL bs KL < 4294967296:=beV4_lt _
      rw [HCC.out] at HCR
      rw [HX.out] at HRK hXl
      have hXw:IntKind.u32.wrap (nxX bs k:Int)=(nxX bs k:Int):=by show (nxX bs k:Int) % 4294967296=_;omega
      have q1:K8≤KL:=by omega
      have q2:KL≤c:=by omega
      have q3:K4≤KL:=by omega
      have q4:¬ c=K8:=by omega
      have q5:¬ c - K8=0:=by omega
      have q1i:(K8:Int)≤(KL:Int):=by omega
      have q2i:(KL:Int)≤(c:Int):=by omega
      have q3i:(K4:Int)≤(KL:Int):=by omega
      have HKL:=Lib.hid hKL
      have HBB:=Lib.hid hB
      have e:nxE bs k=5:=by
       unfold nxE at hE ⊢
       rw [if_neg (by omega),if_neg h2,if_neg (by omega),if_neg h4,if_neg (by omega)] at hE ⊢
       by_cases hh:nxX bs k=nxC bs k
       ·rw [if_pos hh] at hE;exact absurd rfl hE
       ·rw [if_neg hh]
      have hne:((nxX bs k:Int) != (nxC bs k:Int))=true:=by
       rw [bne_iff_ne]
       intro hh
       unfold nxE at e
       rw [if_neg (by omega),if_neg h2,if_neg (by omega),if_neg h4,if_neg (by omega),if_pos (by omega)] at e
       cases e
      rw [e]
      clear e hE h4 h4t HKK HS1 hdn hKL HX HCC hK4 hK8
      generalize (bs.drop K8).take (KL - K8)=DD at *
      generalize nxX bs k=X at *
      generalize nxC bs k=CC at *
      generalize nxL bs k=L at *
      generalize nxK bs k=kk at *
      go_enter Tryz.func21,Tryz.ntmps21
      go_wp2_with (first
       | (go_at_call 18;(with_reducible refine HRB1.out.mono ?_);go_must (rintro e w1 ⟨rfl,rfl⟩))
       | (go_at_call 48;(with_reducible refine (HLT.out _).mono ?_);go_must (rintro e w1 ⟨rfl,rfl⟩))
       | (go_at_call 49;(with_reducible refine (HCL.out _ HRz.out (by rw [HZz.out];omega)).mono ?_);go_must (rintro e w5 ⟨v5,rfl,ho5,hb5⟩;obtain ⟨A5,c5,rfl,-,-,-⟩:=ho5.form;have HA5:=Lib.hid (HAz.out.later hb5);have a0:=HA5.out.cell (k:=0) rfl;have a1:=HA5.out.cell (k:=1) rfl;have fz1:=HA5.out.frozen 1;have HR5:=Lib.hid (RdB.blw HRz.out (hb5.mono (by rw [HZz.out];omega)));have HB5:=Lib.hid (HB2.out.trans (hb5.mono (by rw [HZz.out];omega)));have HO5:=Lib.hid ho5;have hz5:=hb5.size;have HX5:=Lib.hid (HOz.out.later hb5);have HR6:Hid (RdB (w5.setCell ⟨w.heap.size+1,1,none⟩ (.slice A5 DD.length c5)) B (some ⟨b,o,none⟩) n bs):=(show RdB _ _ _ _ _ from Rd.setCell HR5.out (Nat.le_succ_of_le HBB.out) _);have HRK6:=Lib.hid (HRK.out _ HR6.out);have HCR6:=Lib.hid (HCR.out _ HR6.out);have HX6:=Lib.hid (HX5.out.far (p:=⟨w.heap.size+1,1,none⟩) (Nat.ne_of_gt (Nat.lt_succ_self w.heap.size)) (.slice A5 DD.length c5));have b0:=HX6.out.cell (k:=0) rfl;have b1:=HX6.out.cell (k:=1) rfl;have fb0:=HX6.out.frozen 0;have fb1:=HX6.out.frozen 1;have HB6:=Lib.hid (HB5.out.setCell (p:=⟨w.heap.size+1,1,none⟩) (Nat.le_succ _) (.slice A5 DD.length c5));clear ho5 hb5))
       | (go_at_call 18;(with_reducible refine HRK6.out.mono ?_);go_must (rintro e w7 ⟨rfl,rfl⟩))
       | (go_at_call 50;(with_reducible refine HCR6.out.mono ?_);go_must (rintro e w8 ⟨rfl,rfl⟩)))
      refine bodyPost_ret (v:=.tuple #[.agg #[.string ⟨#[]⟩,.slice none 0 0],.int .i64 0,.int .i64 5]) ?_ rfl ?_
      ·unfold results
       go_simp
      ·exact ⟨rfl,(HB6.out.setCell (p:=⟨w.heap.size,0,none⟩) (Nat.le_refl _) _).setCell (p:=⟨w.heap.size,1,none⟩) (Nat.le_refl _) _⟩
end Go.Proofs.YtebbdifhiihfkaaGreatDoor

/- png: the next chunk, a sound one. -/
namespace Go.Proofs.YtebbdifhiihfkaaGreatDoor
set_option linter.all false
open Go.RowKit
theorem ownNe {w:World} {base g:Nat} {v:Value} {bs:List UInt8} (h:ownB w base v bs) (hg:g < base):v.ownBlock ≠ some g:=by
 intro e
 have:=World.ownsRow.lt h g e
 omega
set_option maxRecDepth 100000 in
set_option maxHeartbeats 6400000 in
theorem next_ok (B n c k:Nat) (A:Option Addr) (bs:List UInt8) (w:World) (h:RdB w B A n bs) (hB:B≤w.heap.size) (hc:n≤c) (hn:n≤1000000) (h2:¬ 2147483647 < nxL bs k) (h4t:(nxK bs k).all letB=true) (h5:k+12+nxL bs k≤n) (hsum:nxX bs k=nxC bs k) :
  Calls Tryz.prog 21 #[.slice A n c,.int .i64 (k:Int)] w fun e w'=>∃ v,e=.returned (.tuple #[.agg #[.string ⟨(nxK bs k).toArray⟩,v],.int .i64 ((nxL bs k:Int)+12),.int .i64 0])∧ownB w' w.heap.size v (nxD bs k)∧Below w.heap.size w w'∧v.ownBlock ≠ none:=by
 have h1:¬ n < k+4:=by omega
 have h3:¬ n < k+8:=by omega
 have hk:k < n:=by omega
 have hl:=h.len
 have HRB:=Lib.hid (fun w1 (h:RdB w1 B A n bs)=>readBig_any B n c A bs (k:Int) 4 w1 h hc (by omega))
 obtain ⟨b,o,rfl,hbB,hcell⟩:=h.at_ (show 0 < n by omega)
 have HR:=Lib.hid h
 clear h hcell
 have HR1:Hid (RdB (w.alloc (.cells #[.string ⟨#[]⟩,.slice none 0 0] 33)) B (some ⟨b,o,none⟩) n bs):=(show RdB _ _ _ _ _ from Rd.alloc HR.out hB (.cells #[.string ⟨#[]⟩,.slice none 0 0] 33))
 have HB1:=Lib.hid ((Below.refl w.heap.size w).alloc (Nat.le_refl _) (.cells #[.string ⟨#[]⟩,.slice none 0 0] 33))
 have HRB1:=Lib.hid (HRB.out (w.alloc (.cells #[.string ⟨#[]⟩,.slice none 0 0] 33)) HR1.out)
 clear HRB
 rw [rd4_ok (by omega)] at HRB1
 have hLL:nxL bs k < 4294967296:=beV4_lt _
 obtain ⟨d,hd⟩:∃ d,n=k+d:=⟨n - k,by omega⟩
 have hdw:IntKind.i64.wrap ((n:Int) - (k:Int))=(d:Int):=by rw [show (n:Int) - (k:Int)=(d:Int) by omega];exact wrap_i64_lt _ (by omega)
 have h3i:¬ (d:Int) < 8:=by omega
 have h2i:¬ (2147483647:Int) < (nxL bs k:Int):=by omega
 obtain ⟨K4,hK4⟩:∃ x,k+4=x:=⟨_,rfl⟩
 obtain ⟨K8,hK8⟩:∃ x,k+8=x:=⟨_,rfl⟩
 have hk4:IntKind.i64.wrap ((k:Int)+4)=(K4:Int):=by rw [show (k:Int)+4=(K4:Int) by omega];exact wrap_i64_lt _ (by omega)
 have hk8:IntKind.i64.wrap ((k:Int)+8)=(K8:Int):=by rw [show (k:Int)+8=(K8:Int) by omega];exact wrap_i64_lt _ (by omega)
 have HS1:=Lib.hid (run_strB (c:=c - K4) (RdB.cut HR1.out (k:=K4) (m:=K8 - K4) (show K4+(K8 - K4)≤n by omega) (A':=some ⟨b,o+K4,none⟩) (fun _=>by simp [Addr.add];omega)))
 have HKK:Hid ((bs.drop K4).take (K8 - K4)=nxK bs k):=(show _=_ by unfold nxK;rw [hK4,show K8 - K4=4 by omega])
 rw [HKK.out] at HS1
 have g1:K4≤K8:=by omega
 have g2:K8≤c:=by omega
 have g3:K8≤n:=by omega
 have g4:¬ c=K4:=by omega
 have g5:¬ c - K4=0:=by omega
 have g1i:(K4:Int)≤(K8:Int):=by omega
 have g2i:(K8:Int)≤(c:Int):=by omega
 have hks:=HS1.out
 have HD:=Lib.hid hd
 have HK4:=Lib.hid hK4
 have HK8:=Lib.hid hK8
 clear hd hK4 hK8
 have HB2:=Lib.hid (HB1.out.alloc (by rw [World.size_alloc];omega) (.cells #[.string ⟨(nxK bs k).toArray⟩,.slice none 0 0] 33))
 have hsz:(⟨(nxK bs k).toArray⟩:ByteArray).size≤140737488355328:=(by show (nxK bs k).toArray.size≤_;rw [List.size_toArray];unfold nxK;rw [List.length_take];omega)
 have HLT:=Lib.hid (fun w=>letters_any ⟨(nxK bs k).toArray⟩ w hsz)
 have hee:(⟨(nxK bs k).toArray⟩:ByteArray).data.toList=nxK bs k:=rfl
 rw [hee] at HLT
 clear hee hsz
 rw [h4t] at HLT
 have hd12:IntKind.i64.wrap ((d:Int) - 12)=(d:Int) - 12:=by have:=HD.out;unfold IntKind.wrap;simp [IntKind.signed,IntKind.bits];omega
 have hdn:=HD.out
 have hK4:=HK4.out
 have hK8:=HK8.out
 obtain ⟨KL,hKL⟩:∃ x,K8+nxL bs k=x:=⟨_,rfl⟩
 have h5i:¬ (d:Int) - 12 < (nxL bs k:Int):=by omega
 have hkl:IntKind.i64.wrap ((K8:Int)+(nxL bs k:Int))=(KL:Int):=by rw [show (K8:Int)+(nxL bs k:Int)=(KL:Int) by omega];exact wrap_i64_lt _ (by omega)
 have HRz:Hid (RdB ((w.alloc (.cells #[.string ⟨#[]⟩,.slice none 0 0] 33)).alloc (.cells #[.string ⟨(nxK bs k).toArray⟩,.slice none 0 0] 33)) B (some ⟨b,o,none⟩) n bs):=(show RdB _ _ _ _ _ from Rd.alloc HR1.out (by rw [World.size_alloc];omega) _)
 have HAz:Hid (Arr ((w.alloc (.cells #[.string ⟨#[]⟩,.slice none 0 0] 33)).alloc (.cells #[.string ⟨(nxK bs k).toArray⟩,.slice none 0 0] 33)) (w.heap.size+1) [.string ⟨(nxK bs k).toArray⟩,.slice none 0 0]):=(show Arr _ _ _ by
  have:=Arr.new (w.alloc (.cells #[.string ⟨#[]⟩,.slice none 0 0] 33)) [.string ⟨(nxK bs k).toArray⟩,.slice none 0 0] 33
  rwa [World.size_alloc] at this)
 have HOz:Hid (Arr ((w.alloc (.cells #[.string ⟨#[]⟩,.slice none 0 0] 33)).alloc (.cells #[.string ⟨(nxK bs k).toArray⟩,.slice none 0 0] 33)) w.heap.size [.string ⟨#[]⟩,.slice none 0 0]):=(show Arr _ _ _ from Arr.alloc (Arr.new w [.string ⟨#[]⟩,.slice none 0 0] 33) _)
 have HZz:Hid (((w.alloc (.cells #[.string ⟨#[]⟩,.slice none 0 0] 33)).alloc (.cells #[.string ⟨(nxK bs k).toArray⟩,.slice none 0 0] 33)).heap.size=w.heap.size+2):=(show _=_ by rw [World.size_alloc,World.size_alloc])
 have HCL:=Lib.hid (fun wz (h:RdB wz B (some ⟨b,o,none⟩) n bs) (hz:B≤wz.heap.size)=>cloneS_any B (KL - K8) (c - K8) ⟨b,o+K8,none⟩ ((bs.drop K8).take (KL - K8)) wz (RdB.cut h (show K8+(KL - K8)≤n by omega) (fun _=>by simp [Addr.add];omega)) hz (by omega))
 have HCR:=Lib.hid (fun wz (h:RdB wz B (some ⟨b,o,none⟩) n bs)=>crc_any B (KL - K4) (c - K4) (some ⟨b,o+K4,none⟩) ((bs.drop K4).take (KL - K4)) wz (RdB.cut h (show K4+(KL - K4)≤n by omega) (fun _=>by simp [Addr.add];omega)) (by omega))
 have HRK:=Lib.hid (fun w1 (h:RdB w1 B (some ⟨b,o,none⟩) n bs)=>readBig_any B n c (some ⟨b,o,none⟩) bs (KL:Int) 4 w1 h hc (by omega))
 rw [rd4_ok (show KL+4≤bs.length by omega)] at HRK
 have HX:Hid (nxL bs KL=nxX bs k):=(show _=_ by unfold nxX;rw [show k+8+nxL bs k=KL by omega];rfl)
 have HCC:Hid (crc ((bs.drop K4).take (KL - K4))=nxC bs k):=(show _=_ by unfold nxC;rw [hK4,show KL - K4=4+nxL bs k by omega])
 have hXl:nxL bs KL < 4294967296:=beV4_lt _
 rw [HCC.out] at HCR
 rw [HX.out] at HRK hXl
 have hXw:IntKind.u32.wrap (nxX bs k:Int)=(nxX bs k:Int):=by show (nxX bs k:Int) % 4294967296=_;omega
 have q1:K8≤KL:=by omega
 have q2:KL≤c:=by omega
 have q3:K4≤KL:=by omega
 have q4:¬ c=K8:=by omega
 have q5:¬ c - K8=0:=by omega
 have q1i:(K8:Int)≤(KL:Int):=by omega
 have q2i:(KL:Int)≤(c:Int):=by omega
 have q3i:(K4:Int)≤(KL:Int):=by omega
 have HKL:=Lib.hid hKL
 have HBB:=Lib.hid hB
 have hne:((nxX bs k:Int) != (nxC bs k:Int))=false:=by rw [hsum];exact bne_self_eq_false _
 have hw12:IntKind.i64.wrap ((nxL bs k:Int)+12)=(nxL bs k:Int)+12:=by rw [show (nxL bs k:Int)+12=((nxL bs k+12:Nat):Int) by omega];exact wrap_i64_lt _ (by omega)
 have HDD:Hid ((bs.drop K8).take (KL - K8)=nxD bs k):=(show _=_ by unfold nxD;rw [hK8,show KL - K8=nxL bs k by omega])
 rw [HDD.out] at HCL
 clear hsum h4t HKK HS1 hdn hKL HX HCC hK4 hK8
 clear HDD
 generalize nxD bs k=DD at *
 generalize nxX bs k=X at *
 generalize nxC bs k=CC at *
 generalize nxL bs k=L at *
 generalize nxK bs k=kk at *
 go_enter Tryz.func21,Tryz.ntmps21
 go_wp2_with (first
  | (go_at_call 18;(with_reducible refine HRB1.out.mono ?_);go_must (rintro e w1 ⟨rfl,rfl⟩))
  | (go_at_call 48;(with_reducible refine (HLT.out _).mono ?_);go_must (rintro e w1 ⟨rfl,rfl⟩))
  | (go_at_call 49;(with_reducible refine (HCL.out _ HRz.out (by rw [HZz.out];omega)).mono ?_);go_must (rintro e w5 ⟨v5,rfl,ho5,hb5,hn5⟩;obtain ⟨A5,c5,rfl,-,-,-⟩:=ho5.form;have HA5:=Lib.hid (HAz.out.later hb5);have a0:=HA5.out.cell (k:=0) rfl;have a1:=HA5.out.cell (k:=1) rfl;have fz1:=HA5.out.frozen 1;have HR5:=Lib.hid (RdB.blw HRz.out (hb5.mono (by rw [HZz.out];omega)));have HB5:=Lib.hid (HB2.out.trans (hb5.mono (by rw [HZz.out];omega)));have HO5:=Lib.hid ho5;have HN5:=Lib.hid hn5;have hz5:=hb5.size;have HX5:=Lib.hid (HOz.out.later hb5);have HR6:Hid (RdB (w5.setCell ⟨w.heap.size+1,1,none⟩ (.slice A5 DD.length c5)) B (some ⟨b,o,none⟩) n bs):=(show RdB _ _ _ _ _ from Rd.setCell HR5.out (Nat.le_succ_of_le HBB.out) _);have HRK6:=Lib.hid (HRK.out _ HR6.out);have HCR6:=Lib.hid (HCR.out _ HR6.out);have HX6:=Lib.hid (HX5.out.far (p:=⟨w.heap.size+1,1,none⟩) (Nat.ne_of_gt (Nat.lt_succ_self w.heap.size)) (.slice A5 DD.length c5));have b0:=HX6.out.cell (k:=0) rfl;have b1:=HX6.out.cell (k:=1) rfl;have fb0:=HX6.out.frozen 0;have fb1:=HX6.out.frozen 1;have HB6:=Lib.hid (HB5.out.setCell (p:=⟨w.heap.size+1,1,none⟩) (Nat.le_succ _) (.slice A5 DD.length c5));clear ho5 hb5 hn5))
  | (go_at_call 18;(with_reducible refine HRK6.out.mono ?_);go_must (rintro e w7 ⟨rfl,rfl⟩))
  | (go_at_call 50;(with_reducible refine HCR6.out.mono ?_);go_must (rintro e w8 ⟨rfl,rfl⟩)))
 refine bodyPost_ret (v:=.tuple #[.agg #[.string ⟨kk.toArray⟩,.slice A5 DD.length c5],.int .i64 ((L:Int)+12),.int .i64 0]) ?_ rfl ?_
 ·unfold results
  go_simp
 ·refine ⟨_,rfl,?_,(HB6.out.setCell (p:=⟨w.heap.size,0,none⟩) (Nat.le_refl _) _).setCell (p:=⟨w.heap.size,1,none⟩) (Nat.le_refl _) _,HN5.out⟩
  have h1:=ownB.far (ownB.far (ownB.far HO5.out (g:=w.heap.size+1) (ownNe HO5.out (by rw [HZz.out];omega)) 1 (.slice A5 DD.length c5)) (g:=w.heap.size) (ownNe HO5.out (by rw [HZz.out];omega)) 0 (.string ⟨kk.toArray⟩)) (g:=w.heap.size) (ownNe HO5.out (by rw [HZz.out];omega)) 1 (.slice A5 DD.length c5)
  exact h1.mono (by rw [HZz.out];omega)
end Go.Proofs.YtebbdifhiihfkaaGreatDoor

/- png: the chunks that a reader sees, plainly. -/
namespace Go.Proofs.YtebbdifhiihfkaaGreatDoor
set_option linter.all false
open Go.RowKit
abbrev CK:=List UInt8 × List UInt8
def markL:List UInt8:=[137,80,78,71,13,10,26,10]
/-- The chunks from place k on. -/
def ckF (bs:List UInt8):Nat→Nat→List CK→Nat × List CK
 | 0,_,acc=>(0,acc)
 | f+1,k,acc=>if k < bs.length then (if nxE bs k=0 then ckF bs f (k+(nxL bs k+12)) (acc ++ [(nxK bs k,nxD bs k)]) else (nxE bs k,[])) else (0,acc)
def chunksP (bs:List UInt8):Nat × List CK:=if bs.take 8=markL then ckF bs bs.length 8 [] else (4,[])
theorem ckF_end {bs:List UInt8} {k:Nat} (h:¬ k < bs.length) (acc:List CK):∀ f,ckF bs f k acc=(0,acc)
 | 0=>rfl
 | f+1=>by unfold ckF;rw [if_neg h]
theorem ckF_go {bs:List UInt8} {k f:Nat} (h:k < bs.length) (h0:nxE bs k=0) (acc:List CK):ckF bs (f+1) k acc=ckF bs f (k+(nxL bs k+12)) (acc ++ [(nxK bs k,nxD bs k)]):=by
 conv=>lhs;unfold ckF
 rw [if_pos h,if_pos h0]
theorem ckF_bad {bs:List UInt8} {k f:Nat} (h:k < bs.length) (h0:nxE bs k ≠ 0) (acc:List CK):ckF bs (f+1) k acc=(nxE bs k,[]):=by
 conv=>lhs;unfold ckF
 rw [if_pos h,if_neg h0]
theorem nxE_zero {bs:List UInt8} {k:Nat} (h:nxE bs k=0):¬ 2147483647 < nxL bs k∧(nxK bs k).all letB=true∧k+12+nxL bs k≤bs.length∧nxX bs k=nxC bs k:=by
 unfold nxE at h
 split at h
 ·cases h
 ·split at h
  ·cases h
  ·split at h
   ·cases h
   ·split at h
    ·cases h
    ·split at h
     ·cases h
     ·split at h
      ·rename_i h1 h2 h3 h4 h5 h6
       refine ⟨h2,?_,by omega,h6⟩
       cases e:(nxK bs k).all letB with
       | true=>rfl
       | false=>exact absurd e h4
      ·cases h
/-- A chunk as Chunks gives it. -/
def GoodC (x:CK):Prop:=x.1.length=4∧x.1.all letB=true∧x.2.length≤2147483647
def totC:List CK→Nat
 | []=>0
 | x :: l=>x.2.length+12+totC l
theorem totC_app (a b:List CK):totC (a ++ b)=totC a+totC b:=by
 induction a with
 | nil=>simp [totC]
 | cons x a ih=>rw [List.cons_append,totC,totC,ih];omega
theorem nx_good {bs:List UInt8} {k:Nat} (h:nxE bs k=0):GoodC (nxK bs k,nxD bs k)∧(nxD bs k).length=nxL bs k:=by
 obtain ⟨h1,h2,h3,h4⟩:=nxE_zero h
 have hd:(nxD bs k).length=nxL bs k:=by unfold nxD;rw [List.length_take,List.length_drop];omega
 refine ⟨⟨?_,h2,?_⟩,hd⟩
 ·show (nxK bs k).length=4
  unfold nxK;rw [List.length_take,List.length_drop];omega
 ·show (nxD bs k).length≤_
  omega
theorem ckF_good {bs:List UInt8}:∀ f k acc,(∀ x ∈ acc,GoodC x)→∀ x ∈ (ckF bs f k acc).2,GoodC x
 | 0,_,acc,h=>h
 | f+1,k,acc,h=>by
  by_cases hk:k < bs.length
  ·by_cases h0:nxE bs k=0
   ·rw [ckF_go hk h0]
    refine ckF_good f _ _ fun x hx=>?_
    rcases List.mem_append.1 hx with hx | hx
    ·exact h x hx
    ·obtain rfl:=List.mem_singleton.1 hx
     exact (nx_good h0).1
   ·rw [ckF_bad hk h0]
    intro x hx
    cases hx
  ·rw [ckF_end hk]
   exact h
theorem ckF_tot {bs:List UInt8}:∀ f k acc,totC acc+8≤k→k≤bs.length→totC (ckF bs f k acc).2+8≤bs.length
 | 0,_,acc,h,hk=>Nat.le_trans h hk
 | f+1,k,acc,h,hle=>by
  by_cases hk:k < bs.length
  ·by_cases h0:nxE bs k=0
   ·rw [ckF_go hk h0]
    have hn:=(nx_good h0).2
    have:=nxE_zero h0
    refine ckF_tot f _ _ ?_ (by omega)
    rw [totC_app]
    show totC acc+((nxD bs k).length+12+0)+8≤_
    omega
   ·rw [ckF_bad hk h0]
    show 0+8≤_
    omega
  ·rw [ckF_end hk]
   exact Nat.le_trans h hle
theorem chunksP_good {bs:List UInt8}:∀ x ∈ (chunksP bs).2,GoodC x:=by
 unfold chunksP
 split
 ·exact ckF_good _ _ _ (fun x hx=>by cases hx)
 ·intro x hx;cases hx
theorem mark_len {bs:List UInt8} (h:bs.take 8=markL):8≤bs.length:=by
 have:=congrArg List.length h
 rw [List.length_take] at this
 have e:markL.length=8:=rfl
 omega
theorem chunksP_tot {bs:List UInt8}:totC (chunksP bs).2≤bs.length:=by
 unfold chunksP
 split
 ·rename_i h
  have:=ckF_tot bs.length 8 ([]:List CK) (by show 0+8≤8;omega) (mark_len h)
  omega
 ·exact Nat.zero_le _
theorem totC_len:∀ l:List CK,l.length≤totC l
 | []=>Nat.le_refl _
 | x :: l=>by have:=totC_len l;rw [List.length_cons,totC];omega
def IHDR:List UInt8:=[73,72,68,82]
def PLTE:List UInt8:=[80,76,84,69]
def IDAT:List UInt8:=[73,68,65,84]
def IEND:List UInt8:=[73,69,78,68]
/-- May chunks stand so? -/
def datL (l:List CK):List UInt8:=l.flatMap fun x=>if x.1=IDAT then x.2 else []
def knownB (k:List UInt8):Bool:=k == IHDR || k == PLTE || k == IDAT || k == IEND
def stopB (x:CK):Bool:=x.1 == PLTE || x.1 == IDAT
def palB (l:List CK) (d:List UInt8) (col:UInt8):Bool:=!l.any stopB && decide (0 < d.length∧d.length % 3=0∧d.length≤768∧col ≠ 0∧col ≠ 4)
def isD (x:CK):Bool:=x.1 == IDAT
def lastD (l:List CK):Bool:=match l.getLast? with | some x=>isD x | none=>true
def togB (l:List CK):Bool:=!l.any isD || lastD l
def badB (l:List CK) (col:UInt8) (i:Nat) (x:CK):Bool :=
 (x.1 == IHDR && decide (0 < i)) || (x.1 == PLTE && !palB (l.take i) x.2 col) || (x.1 == IDAT && !togB (l.take i)) || (x.1 == IEND) != decide (i+1=l.length) ||
 (decide (i+1=l.length) && decide (0 < x.2.length)) || (!knownB x.1 && decide ((x.1.getD 0 0).toNat≤90))
def hdCk (l:List CK):List UInt8:=(l.getD 0 ([],[])).2
def colCk (l:List CK):UInt8:=(hdCk l).getD 9 0
def SoundP (l:List CK):Prop:=0 < l.length∧(l.getD 0 ([],[])).1=IHDR∧(hdCk l).length=13∧(∀ i x,l[i]?=some x→badB l (colCk l) i x=false)∧l.any isD=true
theorem datL_len:∀ l:List CK,(datL l).length≤totC l
 | []=>Nat.le_refl _
 | x :: l=>by
  have:=datL_len l
  unfold datL at this ⊢
  rw [List.flatMap_cons,List.length_append,totC]
  have e:(if x.1=IDAT then x.2 else []).length≤x.2.length:=by
   split
   ·exact Nat.le_refl _
   ·exact Nat.zero_le _
  omega
theorem datL_snoc {l:List CK} {i:Nat} {x:CK} (h:l[i]?=some x):datL (l.take (i+1))=datL (l.take i) ++ (if x.1=IDAT then x.2 else []):=by
 rw [List.take_add_one,h]
 unfold datL
 rw [List.flatMap_append]
 simp
end Go.Proofs.YtebbdifhiihfkaaGreatDoor

