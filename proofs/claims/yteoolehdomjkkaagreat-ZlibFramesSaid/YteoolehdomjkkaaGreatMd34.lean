/- Merged: RdBR, Unp5, ZlibParts. -/
import Derived.BigQuiet
import Derived.Test.YteoolehdomjkkaaGreatMd25
import Derived.Test.YteoolehdomjkkaaGreatMd31
import Derived.Test.YteoolehdomjkkaaGreatMd33
import Derived.Test.YteoolehdomjkkaaGreatMd08
import Derived.Test.YteoolehdomjkkaaGreatMd06
/- The reference's readings upon XBigs (out of XNum7). -/
namespace Go.Proofs.YteoolehdomjkkaaGreat
set_option linter.all false
open Go.RowKit
theorem readBigR_bad (B n c:Nat) (A:Option Addr) (bs:List UInt8) (k W:Int) (w:World) (h:RdB w B A n bs) (hm:n≤140737488355328) (h1:W < 1∨6 < W∨k < 0∨(n:Int) < k) :
  Calls Tryz.prog 78 #[.slice A n c,.int .i64 k,.int .i64 W] w fun e w'=>e=.returned (.tuple #[.int .i64 0,.int .i64 1])∧w=w':=by
 obtain rfl:=h.len
 by_cases c1:W < 1
 ·have d1:decide (W < 1)=true:=by simp;omega
  go_enter Tryz.func78,Tryz.ntmps78
  go_wp2
  go_ret2
  exact ⟨rfl,rfl⟩
 have d1:decide (W < 1)=false:=by simp;omega
 by_cases c2:6 < W
 ·have d2:decide (6 < W)=true:=by simp;omega
  go_enter Tryz.func78,Tryz.ntmps78
  go_wp2
  go_ret2
  exact ⟨rfl,rfl⟩
 have d2:decide (6 < W)=false:=by simp;omega
 by_cases c3:k < 0
 ·have d3:decide (k < 0)=true:=by simp;omega
  go_enter Tryz.func78,Tryz.ntmps78
  go_wp2
  go_ret2
  exact ⟨rfl,rfl⟩
 have d3:decide (k < 0)=false:=by simp;omega
 have d4:decide ((bs.length:Int) < k)=true:=by simp;omega
 go_enter Tryz.func78,Tryz.ntmps78
 go_wp2
 go_ret2
 exact ⟨rfl,rfl⟩
theorem readBigR_short (B n c:Nat) (A:Option Addr) (bs:List UInt8) (k W:Int) (w:World) (h:RdB w B A n bs) (hm:n≤140737488355328) (h1:1≤W) (h2:W≤6) (h3:0≤k) (h4:k≤n) (h5:n - k < W) :
  Calls Tryz.prog 78 #[.slice A n c,.int .i64 k,.int .i64 W] w fun e w'=>e=.returned (.tuple #[.int .i64 0,.int .i64 2])∧w=w':=by
 obtain rfl:=h.len
 have d1:decide (W < 1)=false:=by simp;omega
 have d2:decide (6 < W)=false:=by simp;omega
 have d3:decide (k < 0)=false:=by simp;omega
 have d4:decide ((bs.length:Int) < k)=false:=by simp;omega
 go_enter Tryz.func78,Tryz.ntmps78
 go_wp2
 go_ret2
 exact ⟨rfl,rfl⟩
set_option maxHeartbeats 800000 in
theorem readBigR_ok (B n c:Nat) (A:Option Addr) (bs:List UInt8) (k W:Nat) (w:World) (h:RdB w B A n bs) (hm:n≤140737488355328) (h1:1≤W) (h2:W≤6) (h3:k+W≤n) :
  Calls Tryz.prog 78 #[.slice A n c,.int .i64 k,.int .i64 W] w fun e w'=>e=.returned (.tuple #[.int .i64 (beV ((bs.drop k).take W)),.int .i64 0])∧w=w':=by
 obtain rfl:=h.len
 have d1:decide ((W:Int) < 1)=false:=by simp;omega
 have d2:decide (6 < (W:Int))=false:=by simp;omega
 have d3:decide ((k:Int) < 0)=false:=by simp
 have d4:decide (bs.length < k)=false:=by simp;omega
 have d5:decide ((bs.length:Int) - k < W)=false:=by simp;omega
 have hl:((bs.drop k).take W).length=W:=by simp;omega
 obtain ⟨l,hL⟩:∃ l,l=(bs.drop k).take W:=⟨_,rfl⟩
 rw [← hL] at hl
 have HL:=Lib.hid hL
 have Hl:=Lib.hid hl
 clear hL hl
 go_enter Tryz.func78,Tryz.ntmps78
 go_wp2
 go_loop [8,9] (fun s i=>∃ j:Nat,j≤W∧i=.int .i64 j∧s=.int .i64 (beV (l.take j))) (fun _ i=>W - (intOf i).toNat)
 case atStart=>exact ⟨0,Nat.zero_le _,rfl,rfl⟩
 case round =>
  obtain ⟨j,hj,rfl,rfl⟩:=hrel
  by_cases hlt:j < W
  ·obtain ⟨b,o,x,rfl,hb,hx,cx⟩:=h.byte (by omega:k+j < bs.length)
   have hp:=beV_lt6 l j (by rw [Hl.out];omega) (by omega)
   have hx8:=x.toNat_lt
   have Hs:Hid (beV (l.take (j+1))=beV (l.take j) * 256+x.toNat):=by
    have:=beV_step l j (by rw [Hl.out];omega)
    have e:l[j]'(by rw [Hl.out];omega)=x:=by
     have h5:=hx.out
     have:l[j]?=some x:=by rw [HL.out,List.getElem?_take,if_pos hlt,List.getElem?_drop];exact h5
     obtain ⟨_,e⟩:=List.getElem?_eq_some_iff.1 this
     exact e
    rw [e] at this
    exact this
   go_wp2
   go_round
   case rel=>exact ⟨j+1,by omega,by go_num,by rw [Hs.out,or_be _ _ hp (by omega)]⟩
   case measure=>simp [intOf];omega
  ·have:j=W:=by omega
   subst this
   go_wp2
   go_ret2
   refine ⟨?_,rfl⟩
   rw [← HL.out]
   exact ret_tup2 (by show Value.int .i64 (beV (l.take j))=_;rw [List.take_of_length_le (by rw [Hl.out];omega)]) rfl
theorem readBigR_any (B n c:Nat) (A:Option Addr) (bs:List UInt8) (k W:Int) (w:World) (h:RdB w B A n bs) (hm:n≤140737488355328) :
  Calls Tryz.prog 78 #[.slice A n c,.int .i64 k,.int .i64 W] w fun e w'=>e=.returned (.tuple #[.int .i64 (rdR beV bs k W).1,.int .i64 (rdR beV bs k W).2])∧w=w':=by
 have hl:=h.len
 unfold rdR
 by_cases h1:W < 1∨6 < W∨k < 0∨(bs.length:Int) < k
 ·rw [if_pos h1]
  exact readBigR_bad B n c A bs k W w h hm (by rw [← hl];exact h1)
 ·rw [if_neg h1]
  by_cases h2:(bs.length:Int) - k < W
  ·rw [if_pos h2]
   exact readBigR_short B n c A bs k W w h hm (by omega) (by omega) (by omega) (by omega) (by omega)
  ·rw [if_neg h2]
   obtain ⟨k,rfl⟩:=Int.eq_ofNat_of_zero_le (by omega:0≤k)
   obtain ⟨W,rfl⟩:=Int.eq_ofNat_of_zero_le (by omega:0≤W)
   exact readBigR_ok B n c A bs k W w h hm (by omega) (by omega) (by omega)
end Go.Proofs.YteoolehdomjkkaaGreat

/- zlib: the document's Unpack, whatever comes. -/
namespace Go.Proofs.YteoolehdomjkkaaGreat
set_option linter.all false
open Go.RowKit
theorem hdV_two {bs:List UInt8} {x y:UInt8} (hx:bs[0]?=some x) (hy:bs[1]?=some y):hdV bs=x.toNat * 256+y.toNat:=by
 unfold hdV
 obtain ⟨h1,e1⟩:=List.getElem?_eq_some_iff.1 hy
 cases bs with
 | nil=>simp at h1
 | cons a r =>
  cases r with
  | nil=>simp at h1
  | cons b r =>
   have ea:a=x:=by simpa using hx
   have eb:b=y:=by simpa using hy
   rw [ea,eb]
   show beV [x,y]=_
   unfold beV
   simp
/-- What the document's Unpack gives. -/
def Up5 (bs:List UInt8) (most:Int) (w:World) (e:Ending) (w':World):Prop:=∃ v,e=.returned (.tuple #[v,.int .i64 ((unpkP bs most).2.1:Int),.bool (decide ((unpkP bs most).2.2=0))])∧ownB w' w.heap.size v (unpkP bs most).1∧Below w.heap.size w w'
theorem unpk_err {bs:List UInt8} {most:Int} (h:¬ (unpkP bs most).2.2=0):(unpkP bs most).1=[]∧(unpkP bs most).2.1=0:=by
 unfold unpkP at h ⊢
 split
 ·exact ⟨rfl,rfl⟩
 ·rename_i h1
  rw [if_neg h1] at h
  split
  ·exact ⟨rfl,rfl⟩
  ·rename_i h2
   rw [if_neg h2] at h
   split
   ·rename_i h3
    rw [if_pos h3] at h
    split
    ·exact ⟨rfl,rfl⟩
    ·rename_i h4
     rw [if_neg h4] at h
     split
     ·rename_i h5
      rw [if_pos h5] at h
      exact absurd rfl h
     ·exact ⟨rfl,rfl⟩
   ·exact ⟨rfl,rfl⟩
theorem Up5.bad {bs:List UInt8} {most:Int} {w w':World} {e:Ending} {v a b:Value} (h:¬ (unpkP bs most).2.2=0) (he:e=.returned (.tuple #[v,a,b])) (hv:v=.slice none 0 0) (ha:a=.int .i64 0) (hb:b=.bool false) (hw:Below w.heap.size w w'):Up5 bs most w e w':=by
 subst hv ha hb
 obtain ⟨h1,h2⟩:=unpk_err h
 refine ⟨.slice none 0 0,?_,?_,hw⟩
 ·rw [he,h2,decide_eq_false h]
  rfl
 ·rw [h1];exact ownB.nil_ _ _
theorem unpk_short {bs:List UInt8} {most:Int} (h:bs.length < 2):¬ (unpkP bs most).2.2=0:=by
 have:unpkP bs most=([],0,2):=if_pos h
 rw [this]
 exact show ¬ (2:Int)=0 by decide
theorem unpk_form {bs:List UInt8} {most:Int} (h:¬ bs.length < 2) (h2:¬ hdBad (hdV bs)):unpkP bs most=if (inflP (bs.drop 2) most).2.2=0 then (if bs.length < 2+(inflP (bs.drop 2) most).2.1+4 then ([],0,2) else if sumV bs (inflP (bs.drop 2) most).2.1=adler (inflP (bs.drop 2) most).1 then ((inflP (bs.drop 2) most).1,2+(inflP (bs.drop 2) most).2.1+4,0) else ([],0,5)) else ([],0,(inflP (bs.drop 2) most).2.2):=by
 unfold unpkP
 rw [if_neg h,if_neg h2]
set_option maxRecDepth 100000 in
set_option maxHeartbeats 6400000 in
theorem unpack5_any (B n c:Nat) (A:Option Addr) (bs:List UInt8) (most:Int) (w:World) (h:RdB w B A n bs) (hB:B≤w.heap.size) (hc:n≤c) (hn:n≤1000000) :
  Calls Tryz.prog 35 #[.slice A n c,.int .i64 most] w (Up5 bs most w):=by
 have hl:=h.len
 have HR:=Lib.hid h
 by_cases h2:bs.length < 2
 ·have HE:=Lib.hid (unpk_short (most:=most) h2)
  have h2i:(n:Int) < 2:=by omega
  have d2:decide ((n:Int) < 2)=true:=decide_eq_true h2i
  clear h
  go_enter Tryz.func35,Tryz.ntmps35
  go_wp2_with fail
  go_quiet (fail)
  go_wp2_with fail
  go_ret3
  exact Up5.bad HE.out rfl rfl rfl rfl (bdrewN (Below.refl _ _) _)
 ·have h2i:¬ (n:Int) < 2:=by omega
  obtain ⟨b,o,x,rfl,-,HX,c0⟩:=h.byte (show 0 < n by omega)
  obtain ⟨b',o',y,he,-,HY,c1⟩:=h.byte (show 1 < n by omega)
  rw [Nat.add_zero] at c0
  injection he with he
  injection he with he1 he2
  subst he1 he2
  have hv:=hdV_two HX.out HY.out
  have hF:=fun hb=>unpk_form (bs:=bs) (most:=most) h2 hb
  have hHB:hdBad (hdV bs)→¬ (unpkP bs most).2.2=0:=fun hb=>unpk_hd (by omega) hb
  have hbd:hdBad (hdV bs) ↔ (¬ hdV bs / 256 % 16=8∨7 < hdV bs / 4096∨¬ hdV bs % 31=0∨¬ hdV bs / 32 % 2=0):=Iff.rfl
  have x8:=x.toNat_lt
  have y8:=y.toNat_lt
  have h0n:0 < n:=by omega
  have h1n:1 < n:=by omega
  have h0i:(0:Int) < (n:Int):=by omega
  have h1i:(1:Int) < (n:Int):=by omega
  have q1:bits .and .u8 (x.toNat:Int) 15=((x.toNat % 16:Nat):Int):=by
   have:=u8_and_nat x.toNat 15 (by omega) (by decide)
   rw [show (15:Nat)=2 ^ 4 - 1 from rfl,Nat.and_two_pow_sub_one_eq_mod] at this
   exact this
  have q2:(x.toNat:Int) / 16=((x.toNat / 16:Nat):Int):=by omega
  have q3:bits .or .i64 ((x.toNat:Int) * 256) (y.toNat:Int)=((x.toNat * 256+y.toNat:Nat):Int):=or_be _ _ (by omega) (by omega)
  have q6:(y.toNat:Int) / 32=((y.toNat / 32:Nat):Int):=by omega
  have q7:bits .and .u8 ((y.toNat / 32:Nat):Int) 1=((y.toNat / 32 % 2:Nat):Int):=by
   have:=u8_and_nat (y.toNat / 32) 1 (by omega) (by decide)
   rw [Nat.and_one_is_mod] at this
   exact this
  obtain ⟨X,hX⟩:∃ X,x.toNat=X:=⟨_,rfl⟩
  obtain ⟨Y,hY⟩:∃ Y,y.toNat=Y:=⟨_,rfl⟩
  rw [hX] at hv c0 x8 q1 q2 q3
  rw [hY] at hv c1 y8 q3 q6 q7
  obtain ⟨n1,hn1⟩:∃ z,X % 16=z:=⟨_,rfl⟩
  obtain ⟨n2,hn2⟩:∃ z,X / 16=z:=⟨_,rfl⟩
  obtain ⟨N,hN⟩:∃ z,X * 256+Y=z:=⟨_,rfl⟩
  obtain ⟨n4,hn4⟩:∃ z,N % 31=z:=⟨_,rfl⟩
  obtain ⟨n5,hn5⟩:∃ z,Y / 32=z:=⟨_,rfl⟩
  obtain ⟨n6,hn6⟩:∃ z,Y / 32 % 2=z:=⟨_,rfl⟩
  have hbd2:hdBad (hdV bs) ↔ (¬ n1=8∨7 < n2∨¬ n4=0∨n6=1):=by
   have e1:(X * 256+Y) / 256=X:=by omega
   have e2:(X * 256+Y) / 4096=X / 16:=by omega
   have e4:(X * 256+Y) / 32=X * 8+Y / 32:=by omega
   rw [hbd,hv,e1,e2,e4,hN,hn1,hn2,hn4]
   omega
  have q4:(N:Int).tmod 31=(n4:Int):=by rw [← hn4];rfl
  have q4b:(N:Int) % 31=(n4:Int):=by omega
  rw [hn1] at q1
  rw [hn2] at q2
  rw [hN] at q3
  rw [hn6,hn5] at q7
  rw [hn5] at q6
  have w4:IntKind.i64.wrap (n4:Int)=(n4:Int):=wrap_i64_lt n4 (by omega)
  have w1:IntKind.i64.wrap ((X:Int) * 256)=(X:Int) * 256:=by rw [show (X:Int) * 256=((X * 256:Nat):Int) by omega];exact wrap_i64_lt _ (by omega)
  have hn6':n6 < 2:=by omega
  have wX:IntKind.i64.wrap (X:Int)=(X:Int):=wrap_i64_lt X (by omega)
  have wY:IntKind.i64.wrap (Y:Int)=(Y:Int):=wrap_i64_lt Y (by omega)
  have d2:decide ((n:Int) < 2)=false:=decide_eq_false h2i
  clear hbd hv hn1 hn2 hN hn4 hn5 hn6 hX hY HX HY h
  by_cases hbad:hdBad (hdV bs)
  ·have HE:=Lib.hid (hHB hbad)
   have hb:=hbd2.1 hbad
   have key:(((n1:Int) != 8)=true)∨(((n1:Int) != 8)=false∧decide ((7:Int) < (n2:Int))=true)∨(((n1:Int) != 8)=false∧decide ((7:Int) < (n2:Int))=false∧((n4:Int) != 0)=true)∨(((n1:Int) != 8)=false∧decide ((7:Int) < (n2:Int))=false∧((n4:Int) != 0)=false∧((n6:Int) == 1)=true):=by
    rw [bne_iff_ne,bne_iff_ne,bne_eq_false_iff_eq,bne_eq_false_iff_eq,beq_iff_eq,decide_eq_true_iff,decide_eq_false_iff_not]
    omega
   clear hb hbd2 hbad hHB hF
   rcases key with k1 | ⟨k1,k2⟩ | ⟨k1,k2,k3⟩ | ⟨k1,k2,k3,k4⟩ <;>
    ·go_enter Tryz.func35,Tryz.ntmps35
     go_wp2_with fail
     go_quiet (fail)
     go_wp2_with fail
     go_ret3
     exact Up5.bad HE.out rfl rfl rfl rfl (bdrewN (Below.refl _ _) _)
  ·have hF2:=hF hbad
   obtain ⟨k1,k2,k3,k4⟩:((n1:Int) != 8)=false∧decide ((7:Int) < (n2:Int))=false∧((n4:Int) != 0)=false∧((n6:Int) == 1)=false:=by
    rw [bne_eq_false_iff_eq,bne_eq_false_iff_eq,beq_eq_false_iff_ne,decide_eq_false_iff_not]
    have:=mt hbd2.2 hbad
    omega
   clear hbd2 hbad hHB hF
   have h2n:(2:Int)≤(n:Int):=by omega
   have hcn:(2:Int)≤(c:Int):=by omega
   have hc2:2≤c:=by omega
   have hrd2:RdB w B (some ⟨b,o+2,none⟩) (n - 2) (bs.drop 2):=by
    have h1:=RdB.cut HR.out (k:=2) (m:=n - 2) (by omega) (A':=some ⟨b,o+2,none⟩) (fun _=>by simp [Addr.add])
    rwa [List.take_of_length_le (by rw [List.length_drop];omega)] at h1
   have HI:=fun nq=>inflate5_all B (n - 2) (c - 2) (some ⟨b,o+2,none⟩) (bs.drop 2) most (w.drewN nq) (hrd2.blw (bdrewN (Below.refl B w) nq)) hB (by omega)
   have HI0:=fun (hn2:bs.drop 2=[]) nq=>inflate5_all B 0 0 (some ⟨b,o,none⟩) (bs.drop 2) most (w.drewN nq) (by rw [hn2];exact rdB_nil0) hB (by omega)
   unfold If5 at HI HI0
   replace HI:=Lib.hid HI
   replace HI0:=Lib.hid HI0
   have HIR:Hid ((inflP (bs.drop 2) most).2.2=0→1≤(inflP (bs.drop 2) most).2.1∧(inflP (bs.drop 2) most).2.1+2≤n∧(inflP (bs.drop 2) most).1.length≤40000):=(show _→_ from fun h=>by
    have h1:=inflP_rng h
    have h3:=inflP_zero h
    rw [List.length_drop] at h1
    omega)
   obtain ⟨⟨xs,u,E⟩,hI⟩:∃ I,inflP (bs.drop 2) most=I:=⟨_,rfl⟩
   rw [hI] at HI HI0 HIR hF2
   replace HIR:Hid (E=0→1≤u∧u+2≤n∧xs.length≤40000):=HIR
   replace hF2:unpkP bs most=if E=0 then (if bs.length < 2+u+4 then ([],0,2) else if sumV bs u=adler xs then (xs,2+u+4,0) else ([],0,5)) else ([],0,E):=hF2
   dsimp only at HI HI0
   clear hI hrd2
   by_cases hE:E=0
   ·rw [if_pos hE] at hF2
    rw [decide_eq_true hE] at HI
    obtain ⟨hu1,hu,hxl⟩:=HIR.out hE
    have hc3:¬ c=2:=by omega
    have hd1:(n:Int) - 2=((n - 2:Nat):Int):=by omega
    have hd2:(n:Int) - 2 - (u:Int)=((n - 2 - u:Nat):Int):=by omega
    have hw1:IntKind.i64.wrap ((n:Int) - 2)=(n:Int) - 2:=by rw [hd1];exact wrap_i64_lt _ (by omega)
    have hw2:IntKind.i64.wrap ((n:Int) - 2 - (u:Int))=(n:Int) - 2 - (u:Int):=by rw [hd2];exact wrap_i64_lt _ (by omega)
    have hk:(2:Int)+(u:Int)=((2+u:Nat):Int):=by omega
    obtain ⟨K,hK⟩:∃ K,2+u=K:=⟨_,rfl⟩
    rw [hK] at hk hF2
    have hkw:IntKind.i64.wrap (K:Int)=(K:Int):=wrap_i64_lt K (by omega)
    clear hd1 hd2 HI0 HIR hE
    by_cases h4:bs.length < K+4
    ·have h4i:(n:Int) - 2 - (u:Int) < 4:=by omega
     have HE:Hid (¬ (unpkP bs most).2.2=0):=(show ¬ _ by rw [hF2,if_pos h4];exact show ¬ (2:Int)=0 by decide)
     clear hF2 h4
     go_enter Tryz.func35,Tryz.ntmps35
     go_wp2_with fail
     go_quiet (fail)
     go_wp2_with ((go_at_call 77;(with_reducible refine (HI.out nq).mono ?_);go_must (rintro e w2 ⟨v2,rfl,ho2,hb2⟩;obtain ⟨A2,c2,rfl,-,-,-⟩:=ho2.form;have HB2:=Lib.hid (Below.trans (bdrewN (Below.refl w.heap.size w) nq) hb2); clear ho2 hb2)))
     go_ret3
     exact Up5.bad HE.out rfl rfl rfl rfl (HB2.out)
    ·have h4i:¬ (n:Int) - 2 - (u:Int) < 4:=by omega
     rw [if_neg h4] at hF2
     have hr1:rdR beV bs (K:Int) 4=((sumV bs u:Int),0):=by
      unfold rdR sumV
      rw [if_neg (by omega),if_neg (by omega),Int.toNat_natCast,hK]
      rfl
     have HRK:=Lib.hid (fun w1 (h:RdB w1 B (some ⟨b,o,none⟩) n bs)=>readBigR_any B n c (some ⟨b,o,none⟩) bs (K:Int) 4 w1 h (by omega))
     rw [hr1] at HRK
     have hs:=sumV_lt (bs:=bs) (u:=u) (by omega)
     have ha:=adler_lt xs
     have HAD:=Lib.hid (fun A2 c2 w2 w1 (h:RdB w1 w2 A2 xs.length xs)=>adlerR_any w2 xs.length c2 A2 xs w1 h (by omega))
     obtain ⟨U,hU⟩:∃ U,K+4=U:=⟨_,rfl⟩
     rw [hU] at hF2
     have hUi:(u:Int)+6=(U:Int):=by omega
     have hUw:IntKind.i64.wrap (U:Int)=(U:Int):=wrap_i64_lt U (by omega)
     have HXL:=Lib.hid hxl
     clear hr1 hU hK h4
     generalize sumV bs u=s at *
     generalize adler xs=ad at *
     by_cases hsum:s=ad
     ·have dS:((s:Int) != (ad:Int))=false:=by rw [hsum];exact bne_self_eq_false _
      rw [if_pos hsum] at hF2
      have HF:=Lib.hid hF2
      clear hF2 hsum
      go_enter Tryz.func35,Tryz.ntmps35
      go_wp2_with fail
      go_quiet (fail)
      go_wp2_with (first
       | (go_at_call 77;(with_reducible refine (HI.out nq).mono ?_);go_must (rintro e w2 ⟨v2,rfl,ho2,hb2⟩;obtain ⟨A2,c2,rfl,-,-,-⟩:=ho2.form;have HB2:=Lib.hid (Below.trans (bdrewN (Below.refl w.heap.size w) nq) hb2);have HO2:=Lib.hid ho2;have HRK2:=Lib.hid (HRK.out w2 (HR.out.blw (HB2.out.mono hB)));have HAD2:=Lib.hid (HAD.out A2 c2 w2.heap.size w2 (ownB.rd ho2));clear ho2 hb2))
       | (go_at_call 78;(with_reducible refine HRK2.out.mono ?_);go_must (rintro e w3 ⟨rfl,rfl⟩))
       | (go_at_call 75;(with_reducible refine HAD2.out.mono ?_);go_must (rintro e w4 ⟨rfl,rfl⟩)))
      go_ret3
      refine ⟨.slice A2 xs.length c2,?_,?_,HB2.out⟩
      ·rw [HF.out];rfl
      ·rw [HF.out];exact HO2.out
     ·have dS:((s:Int) != (ad:Int))=true:=by rw [bne_iff_ne];omega
      rw [if_neg hsum] at hF2
      have HE:Hid (¬ (unpkP bs most).2.2=0):=(show ¬ _ by rw [hF2];exact show ¬ (5:Int)=0 by decide)
      clear hF2 hsum
      go_enter Tryz.func35,Tryz.ntmps35
      go_wp2_with fail
      go_quiet (fail)
      go_wp2_with (first
       | (go_at_call 77;(with_reducible refine (HI.out nq).mono ?_);go_must (rintro e w2 ⟨v2,rfl,ho2,hb2⟩;obtain ⟨A2,c2,rfl,-,-,-⟩:=ho2.form;have HB2:=Lib.hid (Below.trans (bdrewN (Below.refl w.heap.size w) nq) hb2);have HO2:=Lib.hid ho2;have HRK2:=Lib.hid (HRK.out w2 (HR.out.blw (HB2.out.mono hB)));have HAD2:=Lib.hid (HAD.out A2 c2 w2.heap.size w2 (ownB.rd ho2));clear ho2 hb2))
       | (go_at_call 78;(with_reducible refine HRK2.out.mono ?_);go_must (rintro e w3 ⟨rfl,rfl⟩))
       | (go_at_call 75;(with_reducible refine HAD2.out.mono ?_);go_must (rintro e w4 ⟨rfl,rfl⟩)))
      go_ret3
      exact Up5.bad HE.out rfl rfl rfl rfl (HB2.out)
   ·rw [if_neg hE] at hF2
    have HE:Hid (¬ (unpkP bs most).2.2=0):=(show ¬ _ by rw [hF2];exact hE)
    rw [decide_eq_false hE] at HI HI0
    clear hF2
    by_cases hc3:c=2
    ·have hdz:bs.drop 2=[]:=List.drop_eq_nil_of_le (by omega)
     have HI00:=Lib.hid (HI0.out hdz)
     obtain rfl:n=2:=by omega
     subst hc3
     go_enter Tryz.func35,Tryz.ntmps35
     go_wp2_with fail
     go_quiet (fail)
     go_wp2_with ((go_at_call 77;(with_reducible refine (HI00.out nq).mono ?_);go_must (rintro e w2 ⟨v2,rfl,ho2,hb2⟩;obtain ⟨A2,c2,rfl,-,-,-⟩:=ho2.form;have HB2:=Lib.hid (Below.trans (bdrewN (Below.refl w.heap.size w) nq) hb2); clear ho2 hb2)))
     go_ret3
     exact Up5.bad HE.out rfl rfl rfl rfl (HB2.out)
    ·go_enter Tryz.func35,Tryz.ntmps35
     go_wp2_with fail
     go_quiet (fail)
     go_wp2_with ((go_at_call 77;(with_reducible refine (HI.out nq).mono ?_);go_must (rintro e w2 ⟨v2,rfl,ho2,hb2⟩;obtain ⟨A2,c2,rfl,-,-,-⟩:=ho2.form;have HB2:=Lib.hid (Below.trans (bdrewN (Below.refl w.heap.size w) nq) hb2); clear ho2 hb2)))
     go_ret3
     exact Up5.bad HE.out rfl rfl rfl rfl (HB2.out)
set_option maxRecDepth 100000 in
set_option maxHeartbeats 3200000 in
theorem whole5_any (B n c:Nat) (A:Option Addr) (bs:List UInt8) (most:Int) (w:World) (h:RdB w B A n bs) (hB:B≤w.heap.size) (hc:n≤c) (hn:n≤1000000) :
  Calls Tryz.prog 37 #[.slice A n c,.int .i64 most] w fun e w'=>∃ v,e=.returned (.tuple #[v,.bool (decide ((wholP bs most).2=0))])∧ownB w' w.heap.size v (wholP bs most).1∧Below w.heap.size w w':=by
 have hl:=h.len
 have HU:=unpack5_any B n c A bs most w h hB hc hn
 unfold Up5 at HU
 replace HU:=Lib.hid HU
 have hP:wholP bs most=if (unpkP bs most).2.2=0 then (if (unpkP bs most).2.1 < bs.length then ([],3) else ((unpkP bs most).1,0)) else ([],(unpkP bs most).2.2):=rfl
 have hrg:=unpk_rng (bs:=bs) (most:=most)
 clear h
 obtain ⟨⟨xs,u,E⟩,hI⟩:∃ I,unpkP bs most=I:=⟨_,rfl⟩
 rw [hI] at HU hrg hP
 clear hI
 replace hrg:E=0→u≤bs.length∧xs.length≤40000∧((xs.length:Nat):Int)≤most:=hrg
 replace hP:wholP bs most=if E=0 then (if u < bs.length then ([],3) else (xs,0)) else ([],E):=hP
 dsimp only at HU
 by_cases hE:E=0
 ·rw [if_pos hE] at hP
  rw [decide_eq_true hE] at HU
  by_cases hu:u < bs.length
  ·rw [if_pos hu] at hP
   rw [hP]
   have hui:(u:Int) < (n:Int):=by omega
   clear hrg
   go_enter Tryz.func37,Tryz.ntmps37
   go_wp2_with (go_at_call 35;(with_reducible refine HU.out.mono ?_);go_must (rintro e w2 ⟨v2,rfl,ho2,hb2⟩;obtain ⟨A2,c2,rfl,-,-,-⟩:=ho2.form;have HB2:=Lib.hid hb2;clear ho2 hb2))
   go_ret2
   exact ⟨.slice none 0 0,rfl,ownB.nil_ _ _,HB2.out⟩
  ·rw [if_neg hu] at hP
   rw [hP]
   have hui:¬ (u:Int) < (n:Int):=by omega
   clear hrg
   go_enter Tryz.func37,Tryz.ntmps37
   go_wp2_with (go_at_call 35;(with_reducible refine HU.out.mono ?_);go_must (rintro e w2 ⟨v2,rfl,ho2,hb2⟩;obtain ⟨A2,c2,rfl,-,-,-⟩:=ho2.form;have HO2:=Lib.hid ho2;have HB2:=Lib.hid hb2;clear ho2 hb2))
   go_ret2
   exact ⟨.slice A2 xs.length c2,rfl,HO2.out,HB2.out⟩
 ·rw [if_neg hE] at hP
  rw [decide_eq_false hE] at HU
  rw [hP]
  have dec:decide ((([]:List UInt8),E).2=0)=false:=decide_eq_false hE
  rw [dec]
  go_enter Tryz.func37,Tryz.ntmps37
  go_wp2_with (go_at_call 35;(with_reducible refine HU.out.mono ?_);go_must (rintro e w2 ⟨v2,rfl,ho2,hb2⟩;obtain ⟨A2,c2,rfl,-,-,-⟩:=ho2.form;have HB2:=Lib.hid hb2;clear ho2 hb2))
  go_ret2
  exact ⟨.slice none 0 0,rfl,ownB.nil_ _ _,HB2.out⟩
end Go.Proofs.YteoolehdomjkkaaGreat

/- ZlibParts. -/
namespace Go.Proofs.YteoolehdomjkkaaGreat
set_option linter.all false
open Go.RowKit
set_option maxRecDepth 100000 in
set_option maxHeartbeats 3200000 in
theorem first8_any (w:World):Calls Tryz.prog 31 #[] w fun e w'=>e=.returned (.bool true)∧Below w.heap.size w w':=by
 have kc:=conv_const
 have HP:=Lib.hid (pack_any w.heap.size 0 0 none [] [0,0,0,1] w rdB_nil0 (Nat.le_refl _) (by omega) (Nat.le_refl _) (by kernel_rfl) rfl)
 go_enter Tryz.func31,Tryz.ntmps31
 go_wp2_with (go_at_call 32;(with_reducible refine HP.out.mono ?_);go_must (rintro e w1 ⟨v1,bz,rfl,ho1,hz1,hb1⟩;have hbz:=defl_nil hz1;subst hbz;have ho1:ownB w1 w.heap.size v1 [120,156,3,0,0,0,0,1]:=ho1;obtain ⟨A1,c1,rfl,hr1,-,-⟩:=ho1.form;have hr1:RdB w1 w1.heap.size A1 8 [120,156,3,0,0,0,0,1]:=hr1;have k1:=run_strB (n:=8) (c:=c1) hr1;have HB1:=Lib.hid hb1;clear ho1 hz1 hb1 hr1))
 go_ret
 exact ⟨rfl,HB1.out⟩
end Go.Proofs.YteoolehdomjkkaaGreat
