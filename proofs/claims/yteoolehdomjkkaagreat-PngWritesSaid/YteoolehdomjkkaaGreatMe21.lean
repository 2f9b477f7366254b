/- XWrite2 XFirst5 XCode5 XNew XNext XNext5 XHuffReads XHuffBackP XPutP XPut XFl5 XFl6 XIn1 XIn2 -/
import Derived.Test.YteoolehdomjkkaaGreatMe20
import Derived.Test.YteoolehdomjkkaaGreatMe13
import Derived.Test.YteoolehdomjkkaaGreatMe05
import Derived.Laws.CopyRow
import Derived.Lib.LazyBuf
namespace Go.Proofs.YteoolehdomjkkaaGreat
set_option linter.all false
open Go.RowKit
/-- A writer that holds bits. -/
def Wr (w:World) (g:Nat) (pv:Value) (bs:List UInt8) (L:List Nat):Prop:=Arr w g [pv,.int .i64 ((L.length:Nat):Int)]∧ownB w (g+1) pv bs∧WB bs L
theorem wrongBits_any (v m:Nat) (w:World) (hm:m≤24) (hv:v < 2 ^ m):Calls Tryz.prog 180 #[.int .u32 (v:Int),.int .i64 (m:Int)] w fun e w'=>e=.returned (.bool false)∧w=w':=by
 have e1:decide ((m:Int) < 0)=false:=decide_eq_false (by omega)
 have e2:decide ((m:Int) > 24)=false:=decide_eq_false (by omega)
 have e3:(v:Int) / 2 ^ m=0:=by
  rw [show ((2:Int) ^ m)=((2 ^ m:Nat):Int) by push_cast;rfl,← Int.natCast_ediv,Nat.div_eq_of_lt hv]
  rfl
 clear hv
 go_enter Tryz.func180,Tryz.ntmps180
 go_wp2_with fail
 go_ret
 exact ⟨rfl,rfl⟩
theorem newWriter_any (w:World):Calls Tryz.prog 104 #[] w fun e w'=>e=.returned (.pointer (some ⟨w.heap.size,0,none⟩))∧Wr w' w.heap.size (.slice none 0 0) [] []∧Below w.heap.size w w'∧w.heap.size < w'.heap.size:=by
 go_enter Tryz.func104,Tryz.ntmps104
 go_wp2_with fail
 go_ret
 exact ⟨rfl,⟨Arr.new w [.slice none 0 0,.int .i64 0] _,ownB.nil_ _ _,WB.nil⟩,(Below.refl _ _).alloc (Nat.le_refl _) _,by simp⟩
set_option maxRecDepth 100000 in
set_option maxHeartbeats 3200000 in
theorem code_any (g v m:Nat) (pv:Value) (bs:List UInt8) (L:List Nat) (w:World) (h:Wr w g pv bs L) (hb:L.length+m≤1000000) (hm:m≤24) (hv:v < 2 ^ m) :
  Calls Tryz.prog 154 #[.pointer (some ⟨g,0,none⟩),.int .u32 (v:Int),.int .i64 (m:Int)] w fun e w'=>e=.returned (.int .i64 0)∧∃ pv' bs',Wr w' g pv' bs' (L ++ msb v m m)∧WrFr w w' g pv pv':=by
 have HWG:=Lib.hid (fun w=>wrongBits_any v m w hm hv)
 have HW:=Lib.hid h
 have hv24:v < 16777216:=Nat.lt_of_lt_of_le hv (Nat.pow_le_pow_right (by decide) hm)
 have HM:Hid (L ++ msb v m 0=L):=(show _=_ by simp [msb])
 clear h hv
 go_enter Tryz.func154,Tryz.ntmps154
 go_wp2_with (go_at_call 180;(with_reducible refine (HWG.out _).mono ?_);go_must (rintro e w1 ⟨rfl,rfl⟩))
 go_loopw [12] (fun vi wr=>∃ k:Nat,k≤m∧vi=.int .i64 k∧∃ pq bq,Hid (Wr wr g pq bq (L ++ msb v m k))∧Hid (WrFr w wr g pv pq)) (fun vi _=>m - (intOf vi).toNat)
 case atStart=>exact ⟨0,Nat.zero_le _,rfl,pv,bs,(show Wr _ _ _ _ _ by rw [HM.out];exact HW.out),WrFr.refl _ _ _⟩
 case round =>
  clear HW HM
  obtain ⟨k,hk,rfl,pq,bq,HW,HF⟩:=hrel
  by_cases hlt:k < m
  ·obtain ⟨d,hd⟩:∃ d,m - 1 - k=d:=⟨_,rfl⟩
   have hdI:(m:Int) - 1 - (k:Int)=(d:Int):=by omega
   have hlen:(L ++ msb v m k).length=L.length+k:=by rw [List.length_append,msb_len]
   have hdv:v / 2 ^ d < 4294967296:=Nat.lt_of_le_of_lt (Nat.div_le_self _ _) (by omega)
   have HC:=Lib.hid (one_any g (L ++ msb v m k).length (v / 2 ^ d) pq bq _ wr HW.out.1 HW.out.2.1 HW.out.2.2 rfl (by omega) hdv)
   have HST:Hid (L ++ msb v m k ++ [v / 2 ^ d % 2]=L ++ msb v m (k+1)):=(show _=_ by rw [msb,hd,List.append_assoc])
   have HLN:Hid ((((L ++ msb v m k).length+1:Nat):Int)=(((L ++ msb v m (k+1)).length:Nat):Int)):=(show _=_ by rw [← HST.out];congr 1;simp;omega)
   rw [HST.out,HLN.out] at HC
   have hdvI:(v:Int) / 2 ^ d=((v / 2 ^ d:Nat):Int):=by rw [show ((2:Int) ^ d)=((2 ^ d:Nat):Int) by push_cast;rfl,← Int.natCast_ediv]
   generalize v / 2 ^ d=u at *
   clear hlen hd HST HLN
   go_wp2_with (go_at_call 181;(with_reducible refine HC.out.mono ?_);go_must (rintro e w5 ⟨rfl,pv5,bs5,hA5,hO5,hW5,hF5⟩;have HF5:=Lib.hid (HF.out.trans hF5);have HW5:Hid (Wr w5 g pv5 bs5 (L ++ msb v m (k+1))):=⟨hA5,hO5,hW5⟩;clear hA5 hO5 hW5 hF5))
   go_roundw
   case rel=>exact ⟨k+1,by omega,by go_num,pv5,bs5,HW5,HF5⟩
   case measure=>simp [intOf];omega
  ·obtain rfl:k=m:=by omega
   go_wp2_with fail
   go_ret
   exact ⟨rfl,pq,bq,HW.out,HF.out⟩
end Go.Proofs.YteoolehdomjkkaaGreat

/- huff: what the chapter's examples fix. -/
namespace Go.Proofs.YteoolehdomjkkaaGreat
set_option linter.all false
open Go.RowKit
end Go.Proofs.YteoolehdomjkkaaGreat

/- The document's Codes. -/
namespace Go.Proofs.YteoolehdomjkkaaGreat
set_option linter.all false
open Go.RowKit
def pv (ls:List Int) (l:Nat):Nat:=fst ls (l - 1)+cz ls (l - 1)
theorem fst_pv (ls:List Int) {l:Nat} (h:0 < l):fst ls l=pv ls l * 2:=by
 cases l with
 | zero=>omega
 | succ l=>unfold pv;rw [fst];simp;omega
theorem cnt_end {ls:List Int} {n:Nat} (h:ls.length=n) {l:Nat} (hl:0 < l):fst ls l+cnt (ls.take n) l=pv ls (l+1):=by
 unfold pv
 rw [List.take_of_length_le (by omega),Nat.add_sub_cancel,cz_cnt ls hl]
set_option maxRecDepth 100000 in
set_option maxHeartbeats 3200000 in
theorem codes5_any (B n c:Nat) (A:Option Addr) (ls:List Int) (w:World) (h:RdI w B A n ls) (hB1:B≤w.heap.size) (hn:n≤1099511627776) :
  Calls Tryz.prog 118 #[.slice A n c] w fun e w'=>∃ A' n' c',e=.returned (.tuple #[.slice A' n' c',.int .i64 (cdE ls)])∧n'=(cdL ls).length∧ownD w' w.heap.size (.slice A' n' c') (cdL ls)∧Below w.heap.size w w':=by
 have HK:=Lib.hid (kraft5_any B n c A ls w h hn)
 have hl:=h.len
 rcases krE_cases ls with he | he
 ·obtain ⟨g1,g2,g3⟩:=krE_zero he
  rw [he,g3] at HK
  by_cases hbig:32768 < krN ls
  ·have HE:Hid (cdE ls=4∧cdL ls=[]):=(show _∧_ by
    have:cdE ls=4:=by unfold cdE;rw [if_pos he,if_pos hbig]
    refine ⟨this,?_⟩
    unfold cdL
    rw [if_neg (by rw [this];decide)])
   generalize krN ls=K at *
   clear h hl he g1 g2 g3
   go_enter Tryz.func118,Tryz.ntmps118
   go_wp2_with (go_at_call 134;(with_reducible refine HK.out.mono ?_);go_must (rintro e w1 ⟨rfl,rfl⟩))
   go_ret2
   exact ⟨none,0,0,ret_tup2 rfl (by rw [HE.out.1];rfl),by rw [HE.out.2];rfl,by rw [HE.out.2];exact ownD.nil_ _ _,Below.refl _ _⟩
  ·have HE:Hid (cdE ls=0∧cdL ls=codesL ls):=(show _∧_ by
    have:cdE ls=0:=by unfold cdE;rw [if_pos he,if_neg hbig]
    refine ⟨this,?_⟩
    unfold cdL
    rw [if_pos this])
   have H:=Lib.hid h
   have HL:=Lib.hid hl
   have hn3:n≤300:=by omega
   have HBAD:=Lib.hid g2
   have HKN:=Lib.hid (show krN ls≤32768 by omega)
   generalize krN ls=K at HK hbig
   have hbig':decide ((32768:Int) < (K:Int))=false:=decide_eq_false (by omega)
   clear h hl he g1 g2 g3
   go_enter Tryz.func118,Tryz.ntmps118
   go_wp2_with (first
    | (go_at_call 134;(with_reducible refine HK.out.mono ?_);go_must (rintro e w1 ⟨rfl,rfl⟩))
    | (at_make;refine wpList_makeD rfl _ _ rfl n _ rfl rfl rfl (by omega) ?_;intro w3 hown hb3 hsz3;have HO:=Lib.hid hown;have HB3:=Lib.hid hb3;clear hown hb3))
   go_loopw [8,7] (fun vi vx wr=>∃ l:Nat,1≤l∧l≤16∧vi=.int .i64 l∧vx=.int .u32 (pv ls l:Nat)∧Hid (ownD wr w.heap.size (.slice (some ⟨w.heap.size,0,none⟩) n n) (cod5 ls l 0))∧Hid (Below w.heap.size w wr))
    (fun vi _ _=>17 - (intOf vi).toNat)
   case atStart=>exact ⟨1,by omega,by omega,rfl,rfl,(show ownD _ _ _ _ by rw [cod5_start,HL.out];exact HO.out),HB3⟩
   case round =>
    clear HO HB3
    obtain ⟨l,hl1,hl2,rfl,rfl,HO,HB⟩:=hrel
    by_cases hlt:l≤15
    ·have hlI:(l:Int)≤15:=by omega
     have HF:=Lib.hid (fst_pv ls (show 0 < l by omega))
     have hfb:=fst_small ls HBAD.out HKN.out l hlt
     have hpb:pv ls l≤32768:=by have:=HF.out;omega
     have HCE:=Lib.hid (cnt_end HL.out (show 0 < l by omega))
     have HCZ:=Lib.hid (cz_cnt ls (show 0 < l by omega))
     have HST:Hid (((pv ls l:Nat):Int) * 2=((fst ls l+cnt (ls.take 0) l:Nat):Int)):=(show _=_ by rw [HF.out];simp [cnt])
     have HFB:=Lib.hid hfb
     clear hfb
     generalize pv ls l=v at *
     go_wp2
     go_loopw [9,7] (fun vi vx wr=>∃ k:Nat,k≤n∧vi=.int .i64 k∧vx=.int .u32 ((fst ls l+cnt (ls.take k) l:Nat):Int)∧Hid (ownD wr w.heap.size (.slice (some ⟨w.heap.size,0,none⟩) n n) (cod5 ls l k))∧Hid (Below w.heap.size w wr))
      (fun vi _ _=>n - (intOf vi).toNat)
     case atStart=>exact ⟨0,by omega,rfl,by first | exact congrArg (Value.int .u32) HST.out | (rw [← HST.out]),HO,HB⟩
     case round =>
      clear HO HB HST
      obtain ⟨k,hk,rfl,rfl,HO,HB⟩:=hrel
      by_cases hlt2:k < n
      ·obtain ⟨b,o,x,rfl,hb,HX,e1⟩:=(H.out.blw (HB.out.mono hB1)).one hlt2
       have HCT:=Lib.hid (cnt_take_step HX.out l)
       have hct:=cnt_take ls k l
       have hfb:=HFB.out
       have hcz:=HCZ.out
       have hvb:fst ls l+cnt (ls.take k) l≤32768:=by omega
       clear hct hfb hcz
       by_cases hxl:x=(l:Int)
       ·subst hxl
        have hkl:k < ls.length:=by rw [HL.out];exact hlt2
        obtain ⟨o0,o1⟩:=HO.out.cell (by rw [cod5_len,HL.out]) (k:=k) (by rw [cod5_len];exact hkl)
        have of:=HO.out.frozen (by rw [cod5_len,HL.out])
        have of0:=of (k * 2)
        have of1:=of (k * 2+1)
        have HST:=Lib.hid (cod5_set HX.out (show 0 < l by omega))
        have HC2:Hid (fst ls l+cnt (ls.take (k+1)) l=fst ls l+cnt (ls.take k) l+1):=(show _=_ by rw [HCT.out,if_pos rfl];omega)
        generalize fst ls l+cnt (ls.take k) l=V at *
        generalize (cod5 ls l k)[k]'(by rw [cod5_len];exact hkl)=oc at *
        clear of HCT
        have HOR:=Lib.hid (show ownD ((wr.setCell ⟨w.heap.size,k * 2,none⟩ (.int .u32 (V:Int))).setCell ⟨w.heap.size,k * 2+1,none⟩ (.int .i64 (l:Int))) w.heap.size (.slice (some ⟨w.heap.size,0,none⟩) n n) (cod5 ls l (k+1)) from by
         rw [HST.out]
         exact HO.out.store (by rw [cod5_len,HL.out]) k (V,(l:Int)) (by rw [cod5_len];exact hkl))
        have HBR:=Lib.hid ((HB.out.setCell (p:=⟨w.heap.size,k * 2,none⟩) (Nat.le_refl _) (.int .u32 (V:Int))).setCell (p:=⟨w.heap.size,k * 2+1,none⟩) (Nat.le_refl _) (.int .i64 (l:Int)))
        have dxl:((l:Int) == (l:Int))=true:=by simp
        clear HO HB
        go_wp2
        go_roundw
        case rel=>exact ⟨k+1,by omega,by go_num,by rw [HC2.out];go_num,HOR,HBR⟩
        case measure=>simp [intOf];omega
       ·have HST:=Lib.hid (cod5_same HX.out hxl)
        have HC2:Hid (fst ls l+cnt (ls.take (k+1)) l=fst ls l+cnt (ls.take k) l):=(show _=_ by rw [HCT.out,if_neg hxl,Nat.add_zero])
        generalize fst ls l+cnt (ls.take k) l=V at *
        have dxl:(x == (l:Int))=false:=beq_eq_false_iff_ne.2 hxl
        clear HCT
        go_wp2
        go_roundw
        case rel=>exact ⟨k+1,by omega,by go_num,by rw [HC2.out],(show ownD _ _ _ _ by rw [HST.out];exact HO.out),HB⟩
        case measure=>simp [intOf];omega
      ·obtain rfl:k=n:=by omega
       have HO2:Hid (ownD wr w.heap.size (.slice (some ⟨w.heap.size,0,none⟩) k k) (cod5 ls (l+1) 0)):=(show ownD _ _ _ _ by
        have:=HO.out
        have e:=cod5_next ls l
        rw [HL.out] at e
        rwa [e] at this)
       rw [HCE.out]
       clear HO HCE
       go_wp2
       go_roundw
       case rel=>exact ⟨l+1,by omega,by omega,by go_num,rfl,HO2,HB⟩
       case measure=>simp [intOf];omega
    ·obtain rfl:l=16:=by omega
     have HO2:=HO.out
     rw [cod5_end ls HBAD.out] at HO2
     generalize pv ls 16=v at *
     go_wp2
     go_ret2
     refine ⟨some ⟨w.heap.size,0,none⟩,n,n,ret_tup2 rfl (by rw [HE.out.1];rfl),?_,?_,HB.out⟩
     ·rw [HE.out.2];simp [codesL];exact HL.out.symm
     ·rw [HE.out.2]
      exact HO2
 ·have HE:Hid (cdE ls=1∧cdL ls=[]):=(show _∧_ by
   have:cdE ls=1:=by unfold cdE;rw [if_neg (by rw [he];decide)]
   refine ⟨this,?_⟩
   unfold cdL
   rw [if_neg (by rw [this];decide)])
  rw [he] at HK
  generalize krV ls=K at HK
  clear h hl he
  go_enter Tryz.func118,Tryz.ntmps118
  go_wp2_with (go_at_call 134;(with_reducible refine HK.out.mono ?_);go_must (rintro e w1 ⟨rfl,rfl⟩))
  go_ret2
  exact ⟨none,0,0,ret_tup2 rfl (by rw [HE.out.1];rfl),by rw [HE.out.2];rfl,by rw [HE.out.2];exact ownD.nil_ _ _,Below.refl _ _⟩
end Go.Proofs.YteoolehdomjkkaaGreat

/- Decoders: made. -/
namespace Go.Proofs.YteoolehdomjkkaaGreat
set_option linter.all false
open Go.RowKit
end Go.Proofs.YteoolehdomjkkaaGreat

/- Decoders: a code read. -/
namespace Go.Proofs.YteoolehdomjkkaaGreat
set_option linter.all false
open Go.RowKit
end Go.Proofs.YteoolehdomjkkaaGreat

/- The document's decoders. -/
namespace Go.Proofs.YteoolehdomjkkaaGreat
set_option linter.all false
open Go.RowKit
theorem codesL_len (ls:List Int):(codesL ls).length=ls.length:=by simp [codesL]
end Go.Proofs.YteoolehdomjkkaaGreat

/- HuffReads: any lengths, any bytes: what is read, up to the first error. -/
namespace Go.Proofs.YteoolehdomjkkaaGreat
set_option linter.all false
open Go.RowKit
theorem cloneB2_any (B n c:Nat) (A:Option Addr) (bs:List UInt8) (w:World) (h:RdB w B A n bs) (hm:n≤1099511627776) :
  Calls Tryz.prog 114 #[.slice A n c] w fun e w'=>∃ v,e=.returned v∧ownB w' w.heap.size v bs∧Below w.heap.size w w':=by
 have kn:=fun w=>Go.run_eql_slice_nil (P:=Tryz.prog) w 24 _ A n c Tryz.underlying24
 cases A with
 | none =>
  have h0:bs=[]:=by
   cases bs with
   | nil=>rfl
   | cons x l=>have h2:=h.len;obtain ⟨b,o,e,_⟩:=h.at_ (by rw [← h2];simp);cases e
  subst h0
  have hn:n=0:=by have:=h.len;simpa using this.symm
  subst hn
  go_enter Tryz.func114,Tryz.ntmps114
  go_wp2
  go_ret
  exact ⟨_,rfl,ownB.nil_ _ _,Below.refl _ _⟩
 | some a =>
  go_enter Tryz.func114,Tryz.ntmps114
  go_wp2_with (at_builtin;go_loud (refine wpList_appendB rfl (.tmp 5) (.tmp 6) rfl w.heap.size _ [] rfl (own_lit w [] (by simp)) w.heap.size n c (some a) bs rfl (Rd.alloc (Rd.here h) (Nat.le_refl _) _) (by simp;omega) (by simp) ?_);intro v1 w1 hown hg hb hat)
  go_ret
  exact ⟨_,rfl,hown,((Below.refl w.heap.size w).alloc (Nat.le_refl _) _).trans (hb)⟩
end Go.Proofs.YteoolehdomjkkaaGreat

/- HuffBack: places written and read, plainly. -/
namespace Go.Proofs.YteoolehdomjkkaaGreat
set_option linter.all false
open Go.RowKit
theorem wbytes_any (g:Nat) (pv:Value) (bs:List UInt8) (L:List Nat) (w:World) (h:Wr w g pv bs L) (hb:L.length≤1000000) :
  Calls Tryz.prog 63 #[.pointer (some ⟨g,0,none⟩)] w fun e w'=>∃ v,e=.returned v∧ownB w' w.heap.size v bs∧Below w.heap.size w w':=by
 obtain ⟨h1,h2,h3⟩:=h
 obtain ⟨A,c,rfl,hr,-,-⟩:=h2.form
 have c0:=h1.cell (k:=0) rfl
 have HC:=Lib.hid (cloneB2_any w.heap.size bs.length c A bs w hr (by have:=h3.1;omega))
 clear h1 h2 h3 hr
 go_enter Tryz.func63,Tryz.ntmps63
 go_wp2_with (go_at_call 114;(with_reducible refine HC.out.mono ?_);go_must (rintro e w1 ⟨v,rfl,ho,hb⟩))
 go_ret
 exact ⟨_,rfl,ho,hb⟩
theorem Wr.drew {w:World} {g:Nat} {pv:Value} {bs:List UInt8} {L:List Nat} (h:Wr w g pv bs L):Wr w.drew g pv bs L:=⟨h.1.drew,h.2.1.drew,h.2.2⟩
theorem Wr.drewN {w:World} {g:Nat} {pv:Value} {bs:List UInt8} {L:List Nat} (h:Wr w g pv bs L) (q:Nat):Wr (w.drewN q) g pv bs L:=⟨h.1.drewN q,h.2.1.drewN q,h.2.2⟩
/-- Two rows in unlike blocks. -/
def Dis (a b:Value):Prop:=∀ k,a.ownBlock=some k→b.ownBlock ≠ some k
theorem ownI.same {w w':World} {base:Nat} {v:Value} {l:List Int} (h:ownI w base v l) (hb:∀ k,v.ownBlock=some k→w'.heap[k]?=w.heap[k]?):ownI w' base v l:=by
 refine ⟨h.1,?_⟩
 rcases h.2 with hn | ⟨g,cap,cur,rfl,hbg,hg,rest⟩
 ·exact .inl hn
 ·exact .inr ⟨g,cap,cur,rfl,hbg,(hb g rfl).trans hg,rest⟩
theorem ownI.wr {w w':World} {g:Nat} {pv pv' v:Value} {l:List Int} (h:ownI w (g+1) v l) (hf:WrFr w w' g pv pv') (hd:Dis pv v):ownI w' (g+1) v l :=
 h.same fun k hk=>hf.block k (World.ownsRow.lt h k hk).2 (by have:=(World.ownsRow.lt h k hk).1;omega) (fun e=>hd k e hk)
theorem Dis.wr {w w':World} {g:Nat} {pv pv' v:Value} {l:List Int} (h:ownI w (g+1) v l) (hf:WrFr w w' g pv pv') (hd:Dis pv v):Dis pv' v:=by
 intro k hk hv
 rcases hf.own with e | ⟨j,hj,e⟩
 ·exact hd k (e.symm.trans hk) hv
 ·rw [e] at hk
  injection hk with hk
  have:=(World.ownsRow.lt h k hv).2
  omega
/-- The writer while another row grows. -/
theorem Wr.gro {w w':World} {g:Nat} {pv v:Value} {bs:List UInt8} {L:List Nat} {l:List Int} (o:Obj) (h:Wr w g pv bs L) (hv:ownI w (g+1) v l) (hd:Dis pv v) (hg:(w.alloc o).grownBy w' v.ownBlock):Wr w' g pv bs L:=by
 obtain ⟨h1,h2,h3⟩:=h
 refine ⟨?_,?_,h3⟩
 ·have hl:=(h1.alloc o).lt
  obtain ⟨t,h1⟩:=h1.alloc o
  exact ⟨t,(hg.block g hl (fun e=>by have:=(World.ownsRow.lt hv g e.symm).1;omega)).trans h1⟩
 ·refine ownB.kept (h2.alloc o) hg ?_
  cases e:pv.ownBlock with
  | none=>exact .inl rfl
  | some k=>exact .inr (fun e2=>hd k e e2.symm)
theorem Dis.gro {w:World} {g:Nat} {pv v v':Value} {bs:List UInt8} {L:List Nat} (o:Obj) (h:Wr w g pv bs L) (hd:Dis pv v) (hat:v'.ownBlock=v.ownBlock∨v'.ownBlock=some (w.alloc o).heap.size):Dis pv v':=by
 intro k hk hv
 rcases hat with e | e
 ·exact hd k hk (e.symm.trans hv)
 ·rw [e] at hv
  injection hv with hv
  have:=(World.ownsRow.lt h.2.1 k hk).2
  simp at hv
  omega
end Go.Proofs.YteoolehdomjkkaaGreat

/- Writers of bits: numbers put the least bit first, alignment, plainly. -/
namespace Go.Proofs.YteoolehdomjkkaaGreat
set_option linter.all false
open Go.RowKit
/-- The first k bits of a number, the least first. -/
def lsb (v:Nat):Nat→List Nat
 | 0=>[]
 | k+1=>lsb v k ++ [v / 2 ^ k % 2]
theorem lsb_len (v k:Nat):(lsb v k).length=k:=by
 induction k with
 | zero=>rfl
 | succ k ih=>rw [lsb,List.length_append,ih];rfl
/-- Bits up to the next whole byte. -/
def alignL (L:List Nat):List Nat:=L ++ List.replicate (8 * ((L.length+7) / 8) - L.length) 0
theorem alignL_len (L:List Nat):(alignL L).length=8 * ((L.length+7) / 8):=by
 unfold alignL
 rw [List.length_append,List.length_replicate]
 omega
theorem getD_pad (L:List Nat) (k p:Nat):(L ++ List.replicate k 0).getD p 0=L.getD p 0:=by
 rw [List.getD_eq_getElem?_getD,List.getD_eq_getElem?_getD,List.getElem?_append]
 split
 ·rfl
 ·rw [List.getElem?_eq_none (l:=L) (by omega),List.getElem?_replicate]
  split <;> rfl
theorem WB.align {bs:List UInt8} {L:List Nat} (h:WB bs L):WB bs (alignL L):=by
 refine ⟨?_,fun p=>?_⟩
 ·rw [alignL_len,h.1];omega
 ·rw [h.2 p];unfold alignL;rw [getD_pad]
/-- Bits are bytes in one way. -/
theorem WB.uniq {bs cs:List UInt8} {L:List Nat} (h:WB bs L) (k:WB cs L):bs=cs:=by
 have hl:bs.length=cs.length:=h.1.trans k.1.symm
 apply List.ext_getElem hl
 intro i h1 h2
 have key:∀ t,t < 8→bs[i].toNat / 2 ^ t % 2=cs[i].toNat / 2 ^ t % 2:=by
  intro t ht
  have e:=(h.2 (8 * i+t)).trans (k.2 (8 * i+t)).symm
  unfold bitAt at e
  rw [show (8 * i+t) / 8=i by omega,show (8 * i+t) % 8=t by omega,List.getD_eq_getElem?_getD,List.getD_eq_getElem?_getD,List.getElem?_eq_getElem h1,List.getElem?_eq_getElem h2] at e
  exact e
 have a:=key 0 (by omega);have b:=key 1 (by omega);have c:=key 2 (by omega);have d:=key 3 (by omega)
 have e:=key 4 (by omega);have f:=key 5 (by omega);have g:=key 6 (by omega);have i8:=key 7 (by omega)
 have x1:=bs[i].toNat_lt
 have x2:=cs[i].toNat_lt
 apply UInt8.toNat_inj.1
 generalize bs[i].toNat=x at *
 generalize cs[i].toNat=y at *
 clear key h k hl h1 h2
 simp only [Nat.reducePow] at a b c d e f g i8 x1 x2
 omega
theorem codeAt_ok {ls:List Int} (hbad:badL ls=false) (hk:krN ls≤32768) (p:Nat) (hp:p < ls.length):∃ t:Nat,t≤15∧(codeAt ls p).2=(t:Int)∧(codeAt ls p).1 < 2 ^ t:=by
 have hx:ls[p]?=some ls[p]:=List.getElem?_eq_getElem hp
 obtain ⟨x0,x1⟩:=good_at hbad hx
 obtain ⟨t,ht⟩:=Int.eq_ofNat_of_zero_le x0
 rw [ht] at hx
 by_cases h0:0 < t
 ·have hc:=codeAt_pos hx h0
  have hh:Hit ls t (fst ls t+cnt (ls.take p) t) p:=⟨hx,rfl⟩
  have h15:t≤15:=by rw [ht] at x1;omega
  exact ⟨t,h15,by rw [hc],by rw [hc];exact Nat.lt_of_lt_of_le (hit_bound h0 hh).2 (fst_pow ls hbad hk t h15)⟩
 ·have hc:=codeAt_zero hx (by omega)
  exact ⟨0,by omega,by rw [hc];rfl,by rw [hc];decide⟩
/-- A row beside a writer that was there ahead of it. -/
theorem Dis.new {w:World} {base b2:Nat} {pv v:Value} {bs:List UInt8} (h:ownB w base pv bs) (hv:∀ k,v.ownBlock=some k→b2≤k) (hb:w.heap.size≤b2):Dis pv v:=by
 intro k hk hv2
 have h1:=hv k hv2
 have h2:=(World.ownsRow.lt h k hk).2
 omega
theorem ownC.wr {w w':World} {g:Nat} {pv pv' v:Value} {l:List (Nat × Int)} (h:ownC w (g+1) v l) (hf:WrFr w w' g pv pv') (hd:Dis pv v):ownC w' (g+1) v l:=by
 have hb:∀ k,v.ownBlock=some k→w'.heap[k]?=w.heap[k]?:=fun k hk=>hf.block k (World.ownsRow.lt h k hk).2 (by have:=(World.ownsRow.lt h k hk).1;omega) (fun e=>hd k e hk)
 refine ⟨h.1,?_⟩
 rcases h.2 with hn | ⟨g,cap,cur,rfl,hbg,hg,rest⟩
 ·exact .inl hn
 ·exact .inr ⟨g,cap,cur,rfl,hbg,(hb g rfl).trans hg,rest⟩
end Go.Proofs.YteoolehdomjkkaaGreat

/- Writers of bits: Put, Align, Bits. -/
namespace Go.Proofs.YteoolehdomjkkaaGreat
set_option linter.all false
open Go.RowKit
set_option maxRecDepth 100000 in
set_option maxHeartbeats 3200000 in
theorem put_any (g v m:Nat) (pv:Value) (bs:List UInt8) (L:List Nat) (w:World) (h:Wr w g pv bs L) (hb:L.length+m≤1000000) (hm:m≤24) (hv:v < 2 ^ m) :
  Calls Tryz.prog 151 #[.pointer (some ⟨g,0,none⟩),.int .u32 (v:Int),.int .i64 (m:Int)] w fun e w'=>e=.returned (.int .i64 0)∧∃ pv' bs',Wr w' g pv' bs' (L ++ lsb v m)∧WrFr w w' g pv pv':=by
 have HWG:=Lib.hid (fun w=>wrongBits_any v m w hm hv)
 have HW:=Lib.hid h
 have hv24:v < 16777216:=Nat.lt_of_lt_of_le hv (Nat.pow_le_pow_right (by decide) hm)
 have HM:Hid (L ++ lsb v 0=L):=(show _=_ by simp [lsb])
 clear h hv
 go_enter Tryz.func151,Tryz.ntmps151
 go_wp2_with (go_at_call 180;(with_reducible refine (HWG.out _).mono ?_);go_must (rintro e w1 ⟨rfl,rfl⟩))
 go_loopw [12] (fun vi wr=>∃ k:Nat,k≤m∧vi=.int .i64 k∧∃ pq bq,Hid (Wr wr g pq bq (L ++ lsb v k))∧Hid (WrFr w wr g pv pq)) (fun vi _=>m - (intOf vi).toNat)
 case atStart=>exact ⟨0,Nat.zero_le _,rfl,pv,bs,(show Wr _ _ _ _ _ by rw [HM.out];exact HW.out),WrFr.refl _ _ _⟩
 case round =>
  clear HW HM
  obtain ⟨k,hk,rfl,pq,bq,HW,HF⟩:=hrel
  by_cases hlt:k < m
  ·have hlen:(L ++ lsb v k).length=L.length+k:=by rw [List.length_append,lsb_len]
   have hdv:v / 2 ^ k < 4294967296:=Nat.lt_of_le_of_lt (Nat.div_le_self _ _) (by omega)
   have HC:=Lib.hid (one_any g (L ++ lsb v k).length (v / 2 ^ k) pq bq _ wr HW.out.1 HW.out.2.1 HW.out.2.2 rfl (by omega) hdv)
   have HST:Hid (L ++ lsb v k ++ [v / 2 ^ k % 2]=L ++ lsb v (k+1)):=(show _=_ by rw [lsb,List.append_assoc])
   have HLN:Hid ((((L ++ lsb v k).length+1:Nat):Int)=(((L ++ lsb v (k+1)).length:Nat):Int)):=(show _=_ by rw [← HST.out];congr 1;simp;omega)
   rw [HST.out,HLN.out] at HC
   have hdvI:(v:Int) / 2 ^ k=((v / 2 ^ k:Nat):Int):=by rw [show ((2:Int) ^ k)=((2 ^ k:Nat):Int) by push_cast;rfl,← Int.natCast_ediv]
   generalize v / 2 ^ k=u at *
   clear hlen HST HLN
   go_wp2_with (go_at_call 181;(with_reducible refine HC.out.mono ?_);go_must (rintro e w5 ⟨rfl,pv5,bs5,hA5,hO5,hW5,hF5⟩;have HF5:=Lib.hid (HF.out.trans hF5);have HW5:Hid (Wr w5 g pv5 bs5 (L ++ lsb v (k+1))):=⟨hA5,hO5,hW5⟩;clear hA5 hO5 hW5 hF5))
   go_roundw
   case rel=>exact ⟨k+1,by omega,by go_num,pv5,bs5,HW5,HF5⟩
   case measure=>simp [intOf];omega
  ·obtain rfl:k=m:=by omega
   go_wp2_with fail
   go_ret
   exact ⟨rfl,pq,bq,HW.out,HF.out⟩
/-- On to the next whole byte. -/
theorem align_any (g:Nat) (pv:Value) (bs:List UInt8) (L:List Nat) (w:World) (h:Wr w g pv bs L) (hb:L.length≤1000000) :
  Calls Tryz.prog 113 #[.pointer (some ⟨g,0,none⟩)] w fun e w'=>e=.returned (.tuple #[])∧Wr w' g pv bs (alignL L)∧WrFr w w' g pv pv:=by
 obtain ⟨h1,h2,h3⟩:=h
 obtain ⟨A,c,rfl,hr,-,-⟩:=h2.form
 have hbl:bs.length=(L.length+7) / 8:=h3.1
 have hbn:bs.length≤200000:=by omega
 have HLE:Hid ((8 * (bs.length:Int))=(((alignL L).length:Nat):Int)):=(show _=_ by rw [alignL_len,hbl];push_cast;rfl)
 have c0:=h1.cell (k:=0) rfl
 have c1:=h1.cell (k:=1) rfl
 have f1:=h1.frozen 1
 have HA:=Lib.hid (h1.set 1 (.int .i64 (8 * (bs.length:Int))))
 have HO:=Lib.hid (ownB.far h2 (g:=g) (ownB_ne h2 (Nat.lt_succ_self g)) 1 (.int .i64 (8 * (bs.length:Int))))
 have HF:=Lib.hid ((WrFr.refl w g (.slice A bs.length c)).setg 1 (.int .i64 (8 * (bs.length:Int))))
 have HW:=Lib.hid h3.align
 rw [HLE.out] at HA
 have e:wrap64 (8 * (bs.length:Int))=8 * (bs.length:Int):=wrap64_id _ (by omega) (by omega)
 clear h1 h2 h3 hr hbl hb
 generalize bs.length=n at *
 go_enter Tryz.func113,Tryz.ntmps113
 go_wp2_with fail
 first | (refine bodyPost_ret (results_none rfl _ _ _) rfl ?_) | (refine bodyPost_end (results_none rfl _ _ _) rfl ?_)
 refine ⟨rfl,⟨?_,?_,HW.out⟩,?_⟩
 ·rw [HLE.out];exact HA.out
 ·rw [HLE.out];rw [HLE.out] at HO;exact HO.out
 ·exact HF.out
theorem bitsN_any (g:Nat) (pv:Value) (bs:List UInt8) (L:List Nat) (w:World) (h:Wr w g pv bs L) :
  Calls Tryz.prog 62 #[.pointer (some ⟨g,0,none⟩)] w fun e w'=>e=.returned (.int .i64 ((L.length:Nat):Int))∧w=w':=by
 have c1:=h.1.cell (k:=1) rfl
 clear h
 go_enter Tryz.func62,Tryz.ntmps62
 go_wp2_with fail
 go_ret
 exact ⟨rfl,rfl⟩
end Go.Proofs.YteoolehdomjkkaaGreat

/- flate: a writer's put, code; a block begun. -/
namespace Go.Proofs.YteoolehdomjkkaaGreat
set_option linter.all false
open Go.RowKit
/-- A block that a writer leaves as it is. -/
structure Bx (w:World) (g:Nat) (pv:Value) (b:Nat):Prop where
 lt:b < w.heap.size
 ne:b ≠ g
 nv:pv.ownBlock ≠ some b
theorem Bx.wr {w w':World} {g b:Nat} {pv pv':Value} (h:Bx w g pv b) (hf:WrFr w w' g pv pv'):Bx w' g pv' b:=by
 refine ⟨Nat.lt_of_lt_of_le h.lt hf.size,h.ne,?_⟩
 rcases hf.own with e | ⟨j,hj,e⟩
 ·rw [e];exact h.nv
 ·rw [e];intro e2;injection e2 with e2;have:=h.lt;omega
theorem Bx.heap {w w':World} {g b:Nat} {pv pv':Value} (h:Bx w g pv b) (hf:WrFr w w' g pv pv'):w'.heap[b]?=w.heap[b]?:=hf.block b h.lt h.ne h.nv
theorem Bx.cell {w w':World} {g b i:Nat} {pv pv' u:Value} (h:Bx w g pv b) (hf:WrFr w w' g pv pv') (c:w.cell? ⟨b,i,none⟩=some u):w'.cell? ⟨b,i,none⟩=some u:=by
 rw [← c];unfold World.cell?;rw [h.heap hf]
theorem Bx.new {w:World} {g:Nat} {pv:Value} {bs:List UInt8} {L:List Nat} (h:Wr w g pv bs L) (o:Obj):Bx (w.alloc o) g pv w.heap.size:=by
 refine ⟨by simp,?_,fun e=>?_⟩
 ·have:=h.1.lt;omega
 ·have:=(World.ownsRow.lt h.2.1 _ e).2;omega
theorem Bx.alloc {w:World} {g b:Nat} {pv:Value} (h:Bx w g pv b) (o:Obj):Bx (w.alloc o) g pv b:=⟨by have:=h.lt;simp;omega,h.ne,h.nv⟩
theorem Bx.drew {w:World} {g b:Nat} {pv:Value} (h:Bx w g pv b):Bx w.drew g pv b:=⟨h.lt,h.ne,h.nv⟩
theorem Wr.alloc {w:World} {g:Nat} {pv:Value} {bs:List UInt8} {L:List Nat} (h:Wr w g pv bs L) (o:Obj):Wr (w.alloc o) g pv bs L:=⟨h.1.alloc o,h.2.1.alloc o,h.2.2⟩
theorem WrFr.alloc0 {w w':World} {g:Nat} {pv pv':Value} (o:Obj) (h:WrFr (w.alloc o) w' g pv pv'):WrFr w w' g pv pv':=by
 refine ⟨h.os,h.tape,h.output,Nat.le_trans (by simp) h.size,fun k hk hg hp=>?_,?_⟩
 ·exact (h.block k (by simp;omega) hg hp).trans (heap_alloc_old w o hk)
 ·rcases h.own with e | ⟨j,hj,e⟩
  ·exact .inl e
  ·exact .inr ⟨j,by simp at hj;omega,e⟩
theorem WrFr.alloc {w w':World} {g:Nat} {pv pv':Value} (o:Obj) (h:WrFr w w' g pv pv'):WrFr w (w'.alloc o) g pv pv':=by
 refine ⟨h.os,h.tape,h.output,by have:=h.size;simp;omega,fun k hk hg hp=>?_,h.own⟩
 exact (heap_alloc_old w' o (Nat.lt_of_lt_of_le hk h.size)).trans (h.block k hk hg hp)
/-- A writer by value: a struct of one pointer. -/
abbrev wrV (g:Nat):Value:=.agg #[.pointer (some ⟨g,0,none⟩)]
set_option maxHeartbeats 1600000 in
theorem fput_any (g v m:Nat) (pv:Value) (bs:List UInt8) (L:List Nat) (w:World) (h:Wr w g pv bs L) (hb:L.length+m≤1000000) (hm:m≤24) (hv:v < 2 ^ m) :
  Calls Tryz.prog 105 #[wrV g,.int .i64 (v:Int),.int .i64 (m:Int)] w fun e w'=>e=.returned (.tuple #[])∧∃ pv' bs',Wr w' g pv' bs' (L ++ lsb v m)∧WrFr w w' g pv pv':=by
 have HP:=Lib.hid (fun o=>put_any g v m pv bs L (w.alloc o) (h.alloc o) hb hm hv)
 have hv24:v < 16777216:=Nat.lt_of_lt_of_le hv (Nat.pow_le_pow_right (by decide) hm)
 have hvm:(v:Int) % 4294967296=(v:Int):=Int.emod_eq_of_lt (by omega) (by omega)
 clear h hv
 go_enter Tryz.func105,Tryz.ntmps105
 go_wp2_with (go_at_call 151;(with_reducible refine (HP.out _).mono ?_);go_must (rintro e w1 ⟨rfl,pv1,bs1,hw1,hf1⟩;have HW1:=Lib.hid hw1;have HF1:=Lib.hid hf1.alloc0;clear hw1 hf1))
 (try simp only [Exit.inBlock,Exit.then])
 first | (refine bodyPost_ret (results_none rfl _ _ _) rfl ?_) | (refine bodyPost_end (results_none rfl _ _ _) rfl ?_)
 exact ⟨rfl,pv1,bs1,HW1.out,HF1.out⟩
set_option maxHeartbeats 1600000 in
theorem fcode_any (g v m:Nat) (pv:Value) (bs:List UInt8) (L:List Nat) (w:World) (h:Wr w g pv bs L) (hb:L.length+m≤1000000) (hm:m≤24) (hv:v < 2 ^ m) :
  Calls Tryz.prog 107 #[wrV g,.agg #[.int .u32 (v:Int),.int .i64 (m:Int)]] w fun e w'=>e=.returned (.tuple #[])∧∃ pv' bs',Wr w' g pv' bs' (L ++ msb v m m)∧WrFr w w' g pv pv':=by
 have HP:=Lib.hid (fun o p=>code_any g v m pv bs L ((w.alloc o).alloc p) ((h.alloc o).alloc p) hb hm hv)
 clear h hv
 go_enter Tryz.func107,Tryz.ntmps107
 go_wp2_with (go_at_call 154;(with_reducible refine (HP.out _ _).mono ?_);go_must (rintro e w1 ⟨rfl,pv1,bs1,hw1,hf1⟩;have HW1:=Lib.hid hw1;have HF1:=Lib.hid (hf1.alloc0).alloc0;clear hw1 hf1))
 (try simp only [Exit.inBlock,Exit.then])
 first | (refine bodyPost_ret (results_none rfl _ _ _) rfl ?_) | (refine bodyPost_end (results_none rfl _ _ _) rfl ?_)
 exact ⟨rfl,pv1,bs1,HW1.out,HF1.out⟩
/-- put, its numbers as they stand in the code. -/
theorem fput_lit (g:Nat) (V M:Int) (v m:Nat) (hV:V=(v:Int)) (hM:M=(m:Int)) (pv:Value) (bs:List UInt8) (L:List Nat) (w:World) (h:Wr w g pv bs L) (hb:L.length+m≤1000000) (hm:m≤24) (hv:v < 2 ^ m) :
  Calls Tryz.prog 105 #[wrV g,.int .i64 V,.int .i64 M] w fun e w'=>e=.returned (.tuple #[])∧∃ pv' bs',Wr w' g pv' bs' (L ++ lsb v m)∧WrFr w w' g pv pv':=by
 subst hV hM
 exact fput_any g v m pv bs L w h hb hm hv
end Go.Proofs.YteoolehdomjkkaaGreat

/- flate: a block begun; a stored block. -/
namespace Go.Proofs.YteoolehdomjkkaaGreat
set_option linter.all false
open Go.RowKit
/-- What a block begins with. -/
def headL (kind:Nat):List Nat:=1 :: lsb kind 2
theorem headL_len (k:Nat):(headL k).length=3:=by unfold headL;rw [List.length_cons,lsb_len]
theorem Wr.far {w:World} {g g2:Nat} {pv:Value} {bs:List UInt8} {L:List Nat} (h:Wr w g pv bs L) (hb:Bx w g pv g2) (i:Nat) (u:Value):Wr (w.setCell ⟨g2,i,none⟩ u) g pv bs L :=
 ⟨h.1.far (p:=⟨g2,i,none⟩) hb.ne u,ownB.far h.2.1 hb.nv i u,h.2.2⟩
theorem Arr.wr {w w':World} {g b:Nat} {pv pv':Value} {cs:List Value} (h:Arr w b cs) (hb:Bx w g pv b) (hf:WrFr w w' g pv pv'):Arr w' b cs:=by
 obtain ⟨t,h⟩:=h
 exact ⟨t,(hb.heap hf).trans h⟩
set_option maxHeartbeats 1600000 in
theorem begin_any (kind:Nat) (hk:kind < 4) (w:World) :
  Calls Tryz.prog 57 #[.int .i64 (kind:Int)] w fun e w'=>∃ g pv bs,e=.returned (wrV g)∧w.heap.size≤g∧Wr w' g pv bs (headL kind)∧Below w.heap.size w w'∧(∀ k,pv.ownBlock=some k→w.heap.size≤k):=by
 have HN:=Lib.hid (fun w=>newWriter_any w)
 have HL1:Hid (([]:List Nat) ++ lsb 1 1=[1]):=(show _=_ by decide)
 have HL2:Hid ([1] ++ lsb kind 2=headL kind):=(show _=_ from rfl)
 have HB0:=Lib.hid (Below.refl w.heap.size w)
 go_enter Tryz.func57,Tryz.ntmps57
 go_wp2_with (first
  | (go_at_call 104;(with_reducible refine (HN.out _).mono ?_);go_must (rintro e w1 ⟨rfl,hw1,hb1,hs1⟩;have ha1:=(Arr.new w [.pointer none] 78).later hb1;have hbb:=(HB0.out.alloc (Nat.le_refl _) (.cells #[Value.pointer none] 78)).trans (hb1.mono (by simp));obtain ⟨g,hg⟩:∃ g,w.heap.size+1=g:=⟨_,rfl⟩;have hsg:(w.alloc (.cells #[Value.pointer none] 78)).heap.size=g:=(by rw [World.size_alloc];exact hg);rw [hsg] at hw1 hs1;simp only [hg];have HX3:=Lib.hid (Bx.new hw1 (.cells #[Value.pointer (some ⟨g,0,none⟩)] 78));have HX2:Hid (Bx (w1.alloc (.cells #[Value.pointer (some ⟨g,0,none⟩)] 78)) g (.slice none 0 0) w.heap.size):=⟨by rw [World.size_alloc];omega,by omega,by simp [Value.ownBlock]⟩;have HA3:=Lib.hid (Arr.new w1 [.pointer (some ⟨g,0,none⟩)] 78);have HA2:=Lib.hid (ha1.alloc (.cells #[Value.pointer (some ⟨g,0,none⟩)] 78));have HB1:=Lib.hid (hbb.alloc hbb.size (.cells #[Value.pointer (some ⟨g,0,none⟩)] 78));have hwa:=hw1.alloc (.cells #[Value.pointer (some ⟨g,0,none⟩)] 78);have HP1:=Lib.hid (fput_lit g 1 1 1 1 rfl rfl _ _ _ _ hwa (by simp) (by decide) (by decide));clear hw1 hb1 ha1 hbb hwa))
  | (go_at_call 105;(with_reducible refine HP1.out.mono ?_);go_must (rintro e w2 ⟨rfl,pv2,bs2,hw2,hf2⟩;rw [HL1.out] at hw2;have HF2:=Lib.hid hf2;have HA32:=Lib.hid (HA3.out.wr HX3.out hf2);have HA22:=Lib.hid (HA2.out.wr HX2.out hf2);have HX32:=Lib.hid (HX3.out.wr hf2);have HX22:=Lib.hid (HX2.out.wr hf2);have HP2:=Lib.hid (fput_lit g (kind:Int) 2 kind 2 rfl rfl _ _ _ _ hw2 (by simp) (by decide) hk);have c3:=HA32.out.cell (k:=0) rfl;clear hw2 hf2))
  | (go_at_call 105;(with_reducible refine HP2.out.mono ?_);go_must (rintro e w3 ⟨rfl,pv3,bs3,hw3,hf3⟩;rw [HL2.out] at hw3;have HF3:=Lib.hid (HF2.out.trans hf3);have HA33:=Lib.hid (HA32.out.wr HX32.out hf3);have HA23:=Lib.hid (HA22.out.wr HX22.out hf3);have HX23:=Lib.hid (HX22.out.wr hf3);have HW3:=Lib.hid hw3;have c33:=HA33.out.cell (k:=0) rfl;have c23:=HA23.out.cell (k:=0) rfl;have f23:=HA23.out.frozen 0;clear hw3 hf3)))
 refine bodyPost_ret (v:=.agg #[.pointer (some ⟨g,0,none⟩)]) ?_ rfl ?_
 ·unfold results
  go_simp
 ·have hF:=HF3.out
  refine ⟨g,pv3,bs3,rfl,by omega,HW3.out.far HX23.out 0 _,?_,fun k hk=>?_⟩
  ·have hB:Below w.heap.size w w3:=HB1.out.trans (hF.below (by simp;omega) (by omega) (fun k hk=>by simp [Value.ownBlock] at hk))
   exact hB.setCell (p:=⟨w.heap.size,0,none⟩) (Nat.le_refl _) _
  ·have:=(World.ownsRow.lt HW3.out.2.1 k hk).1
   omega
theorem begin_lit (K:Int) (kind:Nat) (hK:K=(kind:Int)) (hk:kind < 4) (w:World) :
  Calls Tryz.prog 57 #[.int .i64 K] w fun e w'=>∃ g pv bs,e=.returned (wrV g)∧w.heap.size≤g∧Wr w' g pv bs (headL kind)∧Below w.heap.size w w'∧(∀ k,pv.ownBlock=some k→w.heap.size≤k):=by
 subst hK
 exact begin_any kind hk w
end Go.Proofs.YteoolehdomjkkaaGreat

/- flate: a reader of blocks: bits got, bytes given out. -/
namespace Go.Proofs.YteoolehdomjkkaaGreat
set_option linter.all false
open Go.RowKit
/-- What a reader changes: two blocks, its row, new blocks. -/
structure RFr (w w':World) (r g:Nat) (pv pv':Value):Prop where
 os:w'.os=w.os
 tape:w'.tape=w.tape
 output:w'.output=w.output
 size:w.heap.size≤w'.heap.size
 block:∀ k,k < w.heap.size→k ≠ r→k ≠ g→pv.ownBlock ≠ some k→w'.heap[k]?=w.heap[k]?
 own:pv'.ownBlock=pv.ownBlock∨∃ k,w.heap.size≤k∧pv'.ownBlock=some k
section
variable {w w' w'' : World} {r g : Nat} {pv pv' pv'' : Value}
theorem RFr.refl (w:World) (r g:Nat) (pv:Value):RFr w w r g pv pv:=⟨rfl,rfl,rfl,Nat.le_refl _,fun _ _ _ _ _=>rfl,.inl rfl⟩
theorem RFr.trans (h:RFr w w' r g pv pv') (k:RFr w' w'' r g pv' pv''):RFr w w'' r g pv pv'':=by
 refine ⟨k.os.trans h.os,k.tape.trans h.tape,k.output.trans h.output,Nat.le_trans h.size k.size,fun i hi hr hg hp=>?_,?_⟩
 ·refine (k.block i (Nat.lt_of_lt_of_le hi h.size) hr hg ?_).trans (h.block i hi hr hg hp)
  rcases h.own with e | ⟨j,hj,e⟩
  ·rw [e];exact hp
  ·rw [e];intro e2;injection e2 with e2;omega
 ·rcases k.own with e | ⟨j,hj,e⟩
  ·rcases h.own with e2 | ⟨j,hj,e2⟩
   ·exact .inl (e.trans e2)
   ·exact .inr ⟨j,hj,e.trans e2⟩
  ·exact .inr ⟨j,Nat.le_trans h.size hj,e⟩
theorem RFr.ofG (h:w.grownBy w' (some g)) (r:Nat) (pv:Value):RFr w w' r g pv pv :=
 ⟨h.os,h.tape,h.output,h.size,fun k hk _ hg _=>h.block k hk (fun e=>by injection e with e;exact hg e),.inl rfl⟩
theorem RFr.ofB (h:Below w.heap.size w w') (r g:Nat) (pv:Value):RFr w w' r g pv pv:=⟨h.os,h.tape,h.output,h.size,fun k hk _ _ _=>h.block k hk,.inl rfl⟩
theorem RFr.drewN (h:RFr w w' r g pv pv') (q:Nat):RFr w (w'.drewN q) r g pv pv':=⟨h.os,h.tape,h.output,h.size,h.block,h.own⟩
theorem RFr.below {B:Nat} (h:RFr w w' r g pv pv') (hB:B≤w.heap.size) (hr:B≤r) (hg:B≤g) (hp:∀ k,pv.ownBlock=some k→B≤k):Below B w w' :=
 ⟨h.os,h.tape,h.output,h.size,fun k hk=>h.block k (by omega) (by omega) (by omega) (fun e=>by have:=hp k e;omega)⟩
end
end Go.Proofs.YteoolehdomjkkaaGreat

/- flate: a reader of blocks: a byte given out, a stored block. -/
namespace Go.Proofs.YteoolehdomjkkaaGreat
set_option linter.all false
open Go.RowKit
theorem RFr.set1 {w w':World} {r g:Nat} {pv pv':Value} (h:RFr w w' r g pv pv') (i:Nat) (v:Value):RFr w (w'.setCell ⟨r,i,none⟩ v) r g pv pv' :=
 ⟨h.os,h.tape,h.output,by simp;exact h.size,fun k hk hr hg hp=>(Below.heap_setCell _ _ _ _ (fun e=>hr e)).trans (h.block k hk hr hg hp),h.own⟩
theorem RFr.grown {w w':World} {r g:Nat} {pv pv2:Value} (o:Obj) (h:(w.alloc o).grownBy w' pv.ownBlock) (hat:pv2.ownBlock=pv.ownBlock∨pv2.ownBlock=some (w.alloc o).heap.size):RFr w w' r g pv pv2:=by
 refine ⟨h.os,h.tape,h.output,Nat.le_trans (by simp) h.size,fun k hk _ _ hp=>?_,?_⟩
 ·exact (h.block k (by simp;omega) (fun e=>hp e.symm)).trans (heap_alloc_old w o hk)
 ·rcases hat with e | e
  ·exact .inl e
  ·exact .inr ⟨_,by simp,e⟩
end Go.Proofs.YteoolehdomjkkaaGreat

