/- Merged: Get. -/
import Derived.Test.YteoolehdomjkkaaGreatMd08
import Derived.Test.YteoolehdomjkkaaGreatMd06
/- Readers of bits. -/
namespace Go.Proofs.YteoolehdomjkkaaGreat
set_option linter.all false
open Go.RowKit
/-- A reader's block: its bytes, how far it has come. -/
def rdr (A:Option Addr) (n c P:Nat):List Value:=[.slice A n c,.int .i64 (P:Int)]
theorem left_any (g n c P:Nat) (A:Option Addr) (w:World) (h:Arr w g (rdr A n c P)) (hn:n≤1099511627776) (hP:P≤8 * n) :
  Calls Tryz.prog 175 #[.pointer (some ⟨g,0,none⟩)] w fun e w'=>e=.returned (.int .i64 (8 * (n:Int) - (P:Int)))∧w.grownBy w' none:=by
 have c0:=h.cell (k:=0) rfl
 have c1:=h.cell (k:=1) rfl
 clear h
 have e:wrap64 (8 * (n:Int))=8 * (n:Int):=wrap64_id _ (by omega) (by omega)
 have e2:wrap64 (8 * (n:Int) - (P:Int))=8 * (n:Int) - (P:Int):=wrap64_id _ (by omega) (by omega)
 go_enter Tryz.func175,Tryz.ntmps175
 go_wp2_with fail
 go_quiet (fail)
 go_wp2_with fail
 go_ret
 exact ⟨rfl,⟨rfl,rfl,rfl,Nat.le_refl _,fun _ _ _=>rfl⟩⟩
theorem below_gb {B g:Nat} {w w':World} (h:w.grownBy w' (some g)) (hB:B≤w.heap.size) (hg:B≤g):Below B w w' :=
 ⟨h.os,h.tape,h.output,h.size,fun k hk=>h.block k (by omega) (fun e=>by injection e;omega)⟩
theorem gb_set {g o:Nat} {w w':World} (h:w.grownBy w' (some g)) (v:Value):w.grownBy (w'.setCell ⟨g,o,none⟩ v) (some g) :=
 ⟨h.os,h.tape,h.output,by simp;exact h.size,fun k hk hne=>(Below.heap_setCell _ _ _ _ (fun e=>hne (by rw [e]))).trans (h.block k hk hne)⟩
theorem gb_none {w w':World} (h:w.grownBy w' none) (g:Nat):w.grownBy w' (some g) :=
 ⟨h.os,h.tape,h.output,h.size,fun k hk _=>h.block k hk (by simp)⟩
theorem gb_drewN {w w':World} {r:Option Nat} (h:w.grownBy w' r) (q:Nat):w.grownBy (w'.drewN q) r:=⟨h.os,h.tape,h.output,h.size,h.block⟩
theorem gb_refl (w:World) (r:Option Nat):w.grownBy w r:=⟨rfl,rfl,rfl,Nat.le_refl _,fun _ _ _=>rfl⟩
theorem gb_trans {w1 w2 w3:World} {r:Option Nat} (h:w1.grownBy w2 r) (k:w2.grownBy w3 r):w1.grownBy w3 r :=
 ⟨k.os.trans h.os,k.tape.trans h.tape,k.output.trans h.output,Nat.le_trans h.size k.size,fun i hi hne=>(k.block i (Nat.lt_of_lt_of_le hi h.size) hne).trans (h.block i hi hne)⟩
theorem Arr.gbN {w w':World} {g:Nat} {cs:List Value} (h:Arr w g cs) (hb:w.grownBy w' none):Arr w' g cs:=by
 have hl:=h.lt
 obtain ⟨t,h⟩:=h
 exact ⟨t,(hb.block g hl (by simp)).trans h⟩
/-- A byte of a row that is read by bits. -/
theorem bit_byte {bs:List UInt8} {P:Nat} {x:UInt8} (h:bs[P / 8]?=some x):bitAt bs P=x.toNat / 2 ^ (P % 8) % 2:=by
 unfold bitAt
 rw [List.getD_eq_getElem?_getD,h]
 rfl
set_option maxRecDepth 100000 in
set_option maxHeartbeats 1600000 in
theorem get_any (B g n c P m:Nat) (A:Option Addr) (bs:List UInt8) (w:World) (h:Arr w g (rdr A n c P)) (hr:RdB w B A n bs) (hg:B≤g) (hn:n≤1099511627776) (hP:P≤8 * n) (hm:m≤24) (hfit:P+m≤8 * n) :
  Calls Tryz.prog 143 #[.pointer (some ⟨g,0,none⟩),.int .i64 (m:Int)] w fun e w'=>e=.returned (.tuple #[.int .u32 (getV bs P m:Nat),.int .i64 0])∧Arr w' g (rdr A n c (P+m))∧w.grownBy w' (some g):=by
 have HL:=Lib.hid (left_any g n c P A w h hn hP)
 have H:=Lib.hid h
 have HR:=Lib.hid hr
 have e3:decide ((m:Int) > 8 * (n:Int) - (P:Int))=false:=decide_eq_false (by omega)
 clear h hr
 go_enter Tryz.func143,Tryz.ntmps143
 go_wp2_with (go_at_call 175;(with_reducible refine HL.out.mono ?_);go_must (rintro e w1 ⟨rfl,hb1⟩;have HG1:=Lib.hid hb1;clear hb1))
 have HA:=Lib.hid (H.out.gbN HG1.out)
 have hsz:=H.out.lt
 have HG:=Lib.hid (gb_none HG1.out g)
 clear HG1 HL
 go_loopw [21,6] (fun vi vx wr=>∃ k:Nat,k≤m∧vi=.int .i64 k∧vx=.int .u32 (getV bs P k:Nat)∧Hid (Arr wr g (rdr A n c (P+k)))∧Hid (w.grownBy wr (some g)))
  (fun vi _ _=>m - (intOf vi).toNat)
 case atStart=>exact ⟨0,Nat.zero_le _,rfl,rfl,HA,HG⟩
 case round =>
  clear HA HG
  obtain ⟨k,hk,rfl,rfl,HA,HG⟩:=hrel
  by_cases hlt:k < m
  ·have hq:P+k < 8 * n:=by omega
   have HV:Hid (getV bs P (k+1)=getV bs P k+bitAt bs (P+k) * 2 ^ k):=(show _=_ from rfl)
   have HVL:=Lib.hid (getV_lt bs P k)
   have HE:Hid (P+(k+1)=P+k+1):=(show _=_ from by omega)
   generalize getV bs P k=V at *
   generalize P+k=Q at *
   have hQ:Q / 8 < n:=by omega
   obtain ⟨b,o,x,rfl,hb,HX,e1⟩:=(HR.out.blw (below_gb HG.out (by omega) hg)).byte hQ
   have HBB:=Lib.hid (bit_byte HX.out)
   have c0:=HA.out.cell (k:=0) rfl
   have c1:=HA.out.cell (k:=1) rfl
   have f1:=HA.out.frozen 1
   have hq1:(Q:Int).tdiv 8=((Q / 8:Nat):Int):=rfl
   have hq2:(Q:Int).tmod 8=((Q % 8:Nat):Int):=rfl
   have ht:Q % 8 < 8:=Nat.mod_lt _ (by decide)
   have HW:Hid (bits .or .u32 (V:Int) (bits .and .u8 ((x.toNat:Int) / 2 ^ (Q % 8)) 1 % 4294967296 * 2 ^ k % 4294967296)=((getV bs P (k+1):Nat):Int)):=(show _=_ by rw [get_step V k (Q % 8) x (by omega) HVL.out,HV.out,HBB.out])
   have HAS:=Lib.hid (fun q=>(HA.out.drewN q).set 1 (.int .i64 ((Q:Int)+1)))
   have HGS:=Lib.hid (fun q=>gb_set (o:=1) (gb_drewN HG.out q) (.int .i64 ((Q:Int)+1)))
   clear HA HG HVL HV HBB HX
   go_wp2_with fail
   go_quiet (fail)
   go_wp2_with fail
   go_roundw
   case rel=>exact ⟨k+1,by omega,by go_num,by rw [← HW.out],(show Arr _ _ _ by rw [HE.out];exact HAS.out _),HGS.out _⟩
   case measure=>simp [intOf];omega
  ·obtain rfl:k=m:=by omega
   go_wp2_with fail
   go_ret2
   exact ⟨rfl,HA.out,HG.out⟩
theorem get_short (g n c P m:Nat) (A:Option Addr) (w:World) (h:Arr w g (rdr A n c P)) (hn:n≤1099511627776) (hP:P≤8 * n) (hm:m≤24) (hfit:8 * n < P+m) :
  Calls Tryz.prog 143 #[.pointer (some ⟨g,0,none⟩),.int .i64 (m:Int)] w fun e w'=>e=.returned (.tuple #[.int .u32 0,.int .i64 2])∧w.grownBy w' none:=by
 have HL:=Lib.hid (left_any g n c P A w h hn hP)
 have e3:decide ((m:Int) > 8 * (n:Int) - (P:Int))=true:=decide_eq_true (by omega)
 clear h
 go_enter Tryz.func143,Tryz.ntmps143
 go_wp2_with (go_at_call 175;(with_reducible refine HL.out.mono ?_);go_must (rintro e w1 ⟨rfl,hb1⟩))
 go_ret2
 exact ⟨rfl,hb1⟩
theorem leftR_any (g n c P:Nat) (A:Option Addr) (w:World) (h:Arr w g (rdr A n c P)) (hn:n≤1099511627776) (hP:P≤8 * n) :
  Calls Tryz.prog 185 #[.pointer (some ⟨g,0,none⟩)] w fun e w'=>e=.returned (.int .i64 (8 * (n:Int) - (P:Int)))∧w.grownBy w' none:=by
 have c0:=h.cell (k:=0) rfl
 have c1:=h.cell (k:=1) rfl
 clear h
 have e:wrap64 (8 * (n:Int))=8 * (n:Int):=wrap64_id _ (by omega) (by omega)
 have e2:wrap64 (8 * (n:Int) - (P:Int))=8 * (n:Int) - (P:Int):=wrap64_id _ (by omega) (by omega)
 go_enter Tryz.func185,Tryz.ntmps185
 go_wp2_with fail
 go_quiet (fail)
 go_wp2_with fail
 go_ret
 exact ⟨rfl,⟨rfl,rfl,rfl,Nat.le_refl _,fun _ _ _=>rfl⟩⟩
set_option maxRecDepth 100000 in
set_option maxHeartbeats 1600000 in
theorem getR_any (B g n c P m:Nat) (A:Option Addr) (bs:List UInt8) (w:World) (h:Arr w g (rdr A n c P)) (hr:RdB w B A n bs) (hg:B≤g) (hn:n≤1099511627776) (hP:P≤8 * n) (hm:m≤24) (hfit:P+m≤8 * n) :
  Calls Tryz.prog 165 #[.pointer (some ⟨g,0,none⟩),.int .i64 (m:Int)] w fun e w'=>e=.returned (.tuple #[.int .u32 (getV bs P m:Nat),.int .i64 0])∧Arr w' g (rdr A n c (P+m))∧w.grownBy w' (some g):=by
 have HL:=Lib.hid (leftR_any g n c P A w h hn hP)
 have H:=Lib.hid h
 have HR:=Lib.hid hr
 have e3:decide (8 * (n:Int) - (P:Int) < (m:Int))=false:=decide_eq_false (by omega)
 clear h hr
 go_enter Tryz.func165,Tryz.ntmps165
 go_wp2_with (go_at_call 185;(with_reducible refine HL.out.mono ?_);go_must (rintro e w1 ⟨rfl,hb1⟩;have HG1:=Lib.hid hb1;clear hb1))
 have HA:=Lib.hid (H.out.gbN HG1.out)
 have hsz:=H.out.lt
 have HG:=Lib.hid HG1.out
 clear HG1 HL
 go_loopw [7,6] (fun vi vx wr=>∃ k:Nat,k≤m∧vi=.int .i64 k∧vx=.int .u32 (getV bs P k:Nat)∧Hid (Arr wr g (rdr A n c P))∧Hid (w.grownBy wr none))
  (fun vi _ _=>m - (intOf vi).toNat)
 case atStart=>exact ⟨0,Nat.zero_le _,rfl,rfl,HA,HG⟩
 case round =>
  clear HA HG
  obtain ⟨k,hk,rfl,rfl,HA,HG⟩:=hrel
  by_cases hlt:k < m
  ·have hq:P+k < 8 * n:=by omega
   have HV:Hid (getV bs P (k+1)=getV bs P k+bitAt bs (P+k) * 2 ^ k):=(show _=_ from rfl)
   have HVL:=Lib.hid (getV_lt bs P k)
   have HQE:(P:Int)+(k:Int)=((P+k:Nat):Int):=by omega
   have c0:=HA.out.cell (k:=0) rfl
   have c1:=HA.out.cell (k:=1) rfl
   generalize getV bs P k=V at *
   generalize P+k=Q at *
   have hQ:Q / 8 < n:=by omega
   obtain ⟨b,o,x,rfl,hb,HX,e1⟩:=(HR.out.blw (below_gb (gb_none HG.out g) (by omega) hg)).byte hQ
   have HBB:=Lib.hid (bit_byte HX.out)
   have hq1:(Q:Int).tdiv 8=((Q / 8:Nat):Int):=rfl
   have hq2:(Q:Int).tmod 8=((Q % 8:Nat):Int):=rfl
   have ht:Q % 8 < 8:=Nat.mod_lt _ (by decide)
   have HW:Hid (bits .or .u32 (V:Int) (bits .and .u8 ((x.toNat:Int) / 2 ^ (Q % 8)) 1 % 4294967296 * 2 ^ k % 4294967296)=((getV bs P (k+1):Nat):Int)):=(show _=_ by rw [get_step V k (Q % 8) x (by omega) HVL.out,HV.out,HBB.out])
   have HA2:=Lib.hid HA.out
   have HG2:=Lib.hid HG.out
   clear HA HG HVL HV HBB HX
   go_wp2_with fail
   go_roundw
   case rel=>exact ⟨k+1,by omega,by go_num,by rw [← HW.out],HA2.out,HG2.out⟩
   case measure=>simp [intOf];omega
  ·obtain rfl:k=m:=by omega
   have c1:=HA.out.cell (k:=1) rfl
   have f1:=HA.out.frozen 1
   have HAS0:=Lib.hid (show Arr (wr.setCell ⟨g,1,none⟩ (.int .i64 ((P:Int)+(k:Int)))) g (rdr A n c (P+k)) from HA.out.set 1 (.int .i64 ((P:Int)+(k:Int))))
   have HGS0:=Lib.hid (gb_set (o:=1) (gb_none HG.out g) (.int .i64 ((P:Int)+(k:Int))))
   clear HA HG
   go_wp2_with fail
   go_ret2
   exact ⟨rfl,HAS0.out,HGS0.out⟩
theorem getR_short (g n c P m:Nat) (A:Option Addr) (w:World) (h:Arr w g (rdr A n c P)) (hn:n≤1099511627776) (hP:P≤8 * n) (hm:m≤24) (hfit:8 * n < P+m) :
  Calls Tryz.prog 165 #[.pointer (some ⟨g,0,none⟩),.int .i64 (m:Int)] w fun e w'=>e=.returned (.tuple #[.int .u32 0,.int .i64 2])∧w.grownBy w' none:=by
 have HL:=Lib.hid (leftR_any g n c P A w h hn hP)
 have e3:decide (8 * (n:Int) - (P:Int) < (m:Int))=true:=decide_eq_true (by omega)
 clear h
 go_enter Tryz.func165,Tryz.ntmps165
 go_wp2_with (go_at_call 185;(with_reducible refine HL.out.mono ?_);go_must (rintro e w1 ⟨rfl,hb1⟩))
 go_ret2
 exact ⟨rfl,hb1⟩
end Go.Proofs.YteoolehdomjkkaaGreat
