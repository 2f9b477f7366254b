/- Merged: Write2, Ints, First5, Code5, New. -/
import Derived.Laws.CopyRow
import Derived.Test.YteoolehdomjkkaaGreatMd10
import Derived.Test.YteoolehdomjkkaaGreatMd01
import Derived.Test.YteoolehdomjkkaaGreatMd08
import Derived.Test.YteoolehdomjkkaaGreatMd06
import Derived.Test.YteoolehdomjkkaaGreatMd09
/- Writers of bits: a code put. -/
namespace Go.Proofs.YteoolehdomjkkaaGreat
set_option linter.all false
open Go.RowKit
/-- A writer that holds bits. -/
def Wr (w:World) (g:Nat) (pv:Value) (bs:List UInt8) (L:List Nat):Prop:=Arr w g [pv,.int .i64 ((L.length:Nat):Int)]∧ownB w (g+1) pv bs∧WB bs L
theorem wrongBits_any (v m:Nat) (w:World) (hm:m≤24) (hv:v < 2 ^ m):Calls Tryz.prog 180 #[.int .u32 (v:Int),.int .i64 (m:Int)] w fun e w'=>e=.returned (.bool false)∧w=w':=by
 have e1:decide ((m:Int) < 0)=false:=decide_eq_false (by omega)
 have e2:decide ((m:Int) > 24)=false:=decide_eq_false (by omega)
 have e3:(v:Int) / 2 ^ m=0:=by
  rw [show ((2:Int) ^ m)=((2 ^ m:Nat):Int) by push_cast;rfl,← Int.natCast_ediv,Nat.div_eq_of_lt hv]
  rfl
 clear hv
 go_enter Tryz.func180,Tryz.ntmps180
 go_wp2_with fail
 go_ret
 exact ⟨rfl,rfl⟩
theorem newWriter_any (w:World):Calls Tryz.prog 104 #[] w fun e w'=>e=.returned (.pointer (some ⟨w.heap.size,0,none⟩))∧Wr w' w.heap.size (.slice none 0 0) [] []∧Below w.heap.size w w'∧w.heap.size < w'.heap.size:=by
 go_enter Tryz.func104,Tryz.ntmps104
 go_wp2_with fail
 go_ret
 exact ⟨rfl,⟨Arr.new w [.slice none 0 0,.int .i64 0] _,ownB.nil_ _ _,WB.nil⟩,(Below.refl _ _).alloc (Nat.le_refl _) _,by simp⟩
set_option maxRecDepth 100000 in
set_option maxHeartbeats 3200000 in
theorem code_any (g v m:Nat) (pv:Value) (bs:List UInt8) (L:List Nat) (w:World) (h:Wr w g pv bs L) (hb:L.length+m≤1000000) (hm:m≤24) (hv:v < 2 ^ m) :
  Calls Tryz.prog 154 #[.pointer (some ⟨g,0,none⟩),.int .u32 (v:Int),.int .i64 (m:Int)] w fun e w'=>e=.returned (.int .i64 0)∧∃ pv' bs',Wr w' g pv' bs' (L ++ msb v m m)∧WrFr w w' g pv pv':=by
 have HWG:=Lib.hid (fun w=>wrongBits_any v m w hm hv)
 have HW:=Lib.hid h
 have hv24:v < 16777216:=Nat.lt_of_lt_of_le hv (Nat.pow_le_pow_right (by decide) hm)
 have HM:Hid (L ++ msb v m 0=L):=(show _=_ by simp [msb])
 clear h hv
 go_enter Tryz.func154,Tryz.ntmps154
 go_wp2_with (go_at_call 180;(with_reducible refine (HWG.out _).mono ?_);go_must (rintro e w1 ⟨rfl,rfl⟩))
 go_loopw [12] (fun vi wr=>∃ k:Nat,k≤m∧vi=.int .i64 k∧∃ pq bq,Hid (Wr wr g pq bq (L ++ msb v m k))∧Hid (WrFr w wr g pv pq)) (fun vi _=>m - (intOf vi).toNat)
 case atStart=>exact ⟨0,Nat.zero_le _,rfl,pv,bs,(show Wr _ _ _ _ _ by rw [HM.out];exact HW.out),WrFr.refl _ _ _⟩
 case round =>
  clear HW HM
  obtain ⟨k,hk,rfl,pq,bq,HW,HF⟩:=hrel
  by_cases hlt:k < m
  ·obtain ⟨d,hd⟩:∃ d,m - 1 - k=d:=⟨_,rfl⟩
   have hdI:(m:Int) - 1 - (k:Int)=(d:Int):=by omega
   have hlen:(L ++ msb v m k).length=L.length+k:=by rw [List.length_append,msb_len]
   have hdv:v / 2 ^ d < 4294967296:=Nat.lt_of_le_of_lt (Nat.div_le_self _ _) (by omega)
   have HC:=Lib.hid (one_any g (L ++ msb v m k).length (v / 2 ^ d) pq bq _ wr HW.out.1 HW.out.2.1 HW.out.2.2 rfl (by omega) hdv)
   have HST:Hid (L ++ msb v m k ++ [v / 2 ^ d % 2]=L ++ msb v m (k+1)):=(show _=_ by rw [msb,hd,List.append_assoc])
   have HLN:Hid ((((L ++ msb v m k).length+1:Nat):Int)=(((L ++ msb v m (k+1)).length:Nat):Int)):=(show _=_ by rw [← HST.out];congr 1;simp;omega)
   rw [HST.out,HLN.out] at HC
   have hdvI:(v:Int) / 2 ^ d=((v / 2 ^ d:Nat):Int):=by rw [show ((2:Int) ^ d)=((2 ^ d:Nat):Int) by push_cast;rfl,← Int.natCast_ediv]
   generalize v / 2 ^ d=u at *
   clear hlen hd HST HLN
   go_wp2_with (go_at_call 181;(with_reducible refine HC.out.mono ?_);go_must (rintro e w5 ⟨rfl,pv5,bs5,hA5,hO5,hW5,hF5⟩;have HF5:=Lib.hid (HF.out.trans hF5);have HW5:Hid (Wr w5 g pv5 bs5 (L ++ msb v m (k+1))):=⟨hA5,hO5,hW5⟩;clear hA5 hO5 hW5 hF5))
   go_roundw
   case rel=>exact ⟨k+1,by omega,by go_num,pv5,bs5,HW5,HF5⟩
   case measure=>simp [intOf];omega
  ·obtain rfl:k=m:=by omega
   go_wp2_with fail
   go_ret
   exact ⟨rfl,pq,bq,HW.out,HF.out⟩
end Go.Proofs.YteoolehdomjkkaaGreat

/- aquref: lists of numbers held against one another, copied. -/
namespace Go.Proofs.YteoolehdomjkkaaGreat
set_option linter.all false
open Go.RowKit
/-- CopyInts. -/
theorem copyI_any (B n c:Nat) (A:Option Addr) (l:List Int) (w:World) (h:RdI w B A n l) (hn:n≤1099511627776) :
  Calls Tryz.prog 123 #[.slice A n c] w fun e w'=>∃ A' c',e=.returned (.slice A' n c')∧n≤c'∧c'≤maxLen∧ownI w' w.heap.size (.slice A' n c') l∧Below w.heap.size w w':=by
 have hl:=h.len
 go_enter Tryz.func123,Tryz.ntmps123
 go_wp2_with (at_builtin;go_must (refine wpList_appendI rfl (.tmp 3) (.tmp 4) rfl w.heap.size _ [] rfl (own_litI w [] (by simp)) w.heap.size n c A l rfl (Rd.alloc (Rd.here h) (Nat.le_refl _) _) (by simp;omega) (by simp) ?_;intro v1 w1 hown hg hb hat))
 obtain ⟨A',c',rfl,h1,h2,h3⟩:=hown.form
 go_ret
 simp only [List.nil_append] at *
 exact ⟨A',c',(by rw [hl];rfl),by omega,h3,by rw [← hl];exact hown,(((Below.refl _ _).alloc (Nat.le_refl _) _).trans (hb.mono (by simp)))⟩
end Go.Proofs.YteoolehdomjkkaaGreat

/- huff: what the chapter's examples fix. -/
namespace Go.Proofs.YteoolehdomjkkaaGreat
set_option linter.all false
open Go.RowKit
end Go.Proofs.YteoolehdomjkkaaGreat

/- The document's Codes. -/
namespace Go.Proofs.YteoolehdomjkkaaGreat
set_option linter.all false
open Go.RowKit
def pv (ls:List Int) (l:Nat):Nat:=fst ls (l - 1)+cz ls (l - 1)
theorem fst_pv (ls:List Int) {l:Nat} (h:0 < l):fst ls l=pv ls l * 2:=by
 cases l with
 | zero=>omega
 | succ l=>unfold pv;rw [fst];simp;omega
theorem cnt_end {ls:List Int} {n:Nat} (h:ls.length=n) {l:Nat} (hl:0 < l):fst ls l+cnt (ls.take n) l=pv ls (l+1):=by
 unfold pv
 rw [List.take_of_length_le (by omega),Nat.add_sub_cancel,cz_cnt ls hl]
set_option maxRecDepth 100000 in
set_option maxHeartbeats 3200000 in
theorem codes5_any (B n c:Nat) (A:Option Addr) (ls:List Int) (w:World) (h:RdI w B A n ls) (hB1:B≤w.heap.size) (hn:n≤1099511627776) :
  Calls Tryz.prog 118 #[.slice A n c] w fun e w'=>∃ A' n' c',e=.returned (.tuple #[.slice A' n' c',.int .i64 (cdE ls)])∧n'=(cdL ls).length∧ownD w' w.heap.size (.slice A' n' c') (cdL ls)∧Below w.heap.size w w':=by
 have HK:=Lib.hid (kraft5_any B n c A ls w h hn)
 have hl:=h.len
 rcases krE_cases ls with he | he
 ·obtain ⟨g1,g2,g3⟩:=krE_zero he
  rw [he,g3] at HK
  by_cases hbig:32768 < krN ls
  ·have HE:Hid (cdE ls=4∧cdL ls=[]):=(show _∧_ by
    have:cdE ls=4:=by unfold cdE;rw [if_pos he,if_pos hbig]
    refine ⟨this,?_⟩
    unfold cdL
    rw [if_neg (by rw [this];decide)])
   generalize krN ls=K at *
   clear h hl he g1 g2 g3
   go_enter Tryz.func118,Tryz.ntmps118
   go_wp2_with (go_at_call 134;(with_reducible refine HK.out.mono ?_);go_must (rintro e w1 ⟨rfl,rfl⟩))
   go_ret2
   exact ⟨none,0,0,ret_tup2 rfl (by rw [HE.out.1];rfl),by rw [HE.out.2];rfl,by rw [HE.out.2];exact ownD.nil_ _ _,Below.refl _ _⟩
  ·have HE:Hid (cdE ls=0∧cdL ls=codesL ls):=(show _∧_ by
    have:cdE ls=0:=by unfold cdE;rw [if_pos he,if_neg hbig]
    refine ⟨this,?_⟩
    unfold cdL
    rw [if_pos this])
   have H:=Lib.hid h
   have HL:=Lib.hid hl
   have hn3:n≤300:=by omega
   have HBAD:=Lib.hid g2
   have HKN:=Lib.hid (show krN ls≤32768 by omega)
   generalize krN ls=K at HK hbig
   have hbig':decide ((32768:Int) < (K:Int))=false:=decide_eq_false (by omega)
   clear h hl he g1 g2 g3
   go_enter Tryz.func118,Tryz.ntmps118
   go_wp2_with (first
    | (go_at_call 134;(with_reducible refine HK.out.mono ?_);go_must (rintro e w1 ⟨rfl,rfl⟩))
    | (at_make;refine wpList_makeD rfl _ _ rfl n _ rfl rfl rfl (by omega) ?_;intro w3 hown hb3 hsz3;have HO:=Lib.hid hown;have HB3:=Lib.hid hb3;clear hown hb3))
   go_loopw [8,7] (fun vi vx wr=>∃ l:Nat,1≤l∧l≤16∧vi=.int .i64 l∧vx=.int .u32 (pv ls l:Nat)∧Hid (ownD wr w.heap.size (.slice (some ⟨w.heap.size,0,none⟩) n n) (cod5 ls l 0))∧Hid (Below w.heap.size w wr))
    (fun vi _ _=>17 - (intOf vi).toNat)
   case atStart=>exact ⟨1,by omega,by omega,rfl,rfl,(show ownD _ _ _ _ by rw [cod5_start,HL.out];exact HO.out),HB3⟩
   case round =>
    clear HO HB3
    obtain ⟨l,hl1,hl2,rfl,rfl,HO,HB⟩:=hrel
    by_cases hlt:l≤15
    ·have hlI:(l:Int)≤15:=by omega
     have HF:=Lib.hid (fst_pv ls (show 0 < l by omega))
     have hfb:=fst_small ls HBAD.out HKN.out l hlt
     have hpb:pv ls l≤32768:=by have:=HF.out;omega
     have HCE:=Lib.hid (cnt_end HL.out (show 0 < l by omega))
     have HCZ:=Lib.hid (cz_cnt ls (show 0 < l by omega))
     have HST:Hid (((pv ls l:Nat):Int) * 2=((fst ls l+cnt (ls.take 0) l:Nat):Int)):=(show _=_ by rw [HF.out];simp [cnt])
     have HFB:=Lib.hid hfb
     clear hfb
     generalize pv ls l=v at *
     go_wp2
     go_loopw [9,7] (fun vi vx wr=>∃ k:Nat,k≤n∧vi=.int .i64 k∧vx=.int .u32 ((fst ls l+cnt (ls.take k) l:Nat):Int)∧Hid (ownD wr w.heap.size (.slice (some ⟨w.heap.size,0,none⟩) n n) (cod5 ls l k))∧Hid (Below w.heap.size w wr))
      (fun vi _ _=>n - (intOf vi).toNat)
     case atStart=>exact ⟨0,by omega,rfl,by first | exact congrArg (Value.int .u32) HST.out | (rw [← HST.out]),HO,HB⟩
     case round =>
      clear HO HB HST
      obtain ⟨k,hk,rfl,rfl,HO,HB⟩:=hrel
      by_cases hlt2:k < n
      ·obtain ⟨b,o,x,rfl,hb,HX,e1⟩:=(H.out.blw (HB.out.mono hB1)).one hlt2
       have HCT:=Lib.hid (cnt_take_step HX.out l)
       have hct:=cnt_take ls k l
       have hfb:=HFB.out
       have hcz:=HCZ.out
       have hvb:fst ls l+cnt (ls.take k) l≤32768:=by omega
       clear hct hfb hcz
       by_cases hxl:x=(l:Int)
       ·subst hxl
        have hkl:k < ls.length:=by rw [HL.out];exact hlt2
        obtain ⟨o0,o1⟩:=HO.out.cell (by rw [cod5_len,HL.out]) (k:=k) (by rw [cod5_len];exact hkl)
        have of:=HO.out.frozen (by rw [cod5_len,HL.out])
        have of0:=of (k * 2)
        have of1:=of (k * 2+1)
        have HST:=Lib.hid (cod5_set HX.out (show 0 < l by omega))
        have HC2:Hid (fst ls l+cnt (ls.take (k+1)) l=fst ls l+cnt (ls.take k) l+1):=(show _=_ by rw [HCT.out,if_pos rfl];omega)
        generalize fst ls l+cnt (ls.take k) l=V at *
        generalize (cod5 ls l k)[k]'(by rw [cod5_len];exact hkl)=oc at *
        clear of HCT
        have HOR:=Lib.hid (show ownD ((wr.setCell ⟨w.heap.size,k * 2,none⟩ (.int .u32 (V:Int))).setCell ⟨w.heap.size,k * 2+1,none⟩ (.int .i64 (l:Int))) w.heap.size (.slice (some ⟨w.heap.size,0,none⟩) n n) (cod5 ls l (k+1)) from by
         rw [HST.out]
         exact HO.out.store (by rw [cod5_len,HL.out]) k (V,(l:Int)) (by rw [cod5_len];exact hkl))
        have HBR:=Lib.hid ((HB.out.setCell (p:=⟨w.heap.size,k * 2,none⟩) (Nat.le_refl _) (.int .u32 (V:Int))).setCell (p:=⟨w.heap.size,k * 2+1,none⟩) (Nat.le_refl _) (.int .i64 (l:Int)))
        have dxl:((l:Int) == (l:Int))=true:=by simp
        clear HO HB
        go_wp2
        go_roundw
        case rel=>exact ⟨k+1,by omega,by go_num,by rw [HC2.out];go_num,HOR,HBR⟩
        case measure=>simp [intOf];omega
       ·have HST:=Lib.hid (cod5_same HX.out hxl)
        have HC2:Hid (fst ls l+cnt (ls.take (k+1)) l=fst ls l+cnt (ls.take k) l):=(show _=_ by rw [HCT.out,if_neg hxl,Nat.add_zero])
        generalize fst ls l+cnt (ls.take k) l=V at *
        have dxl:(x == (l:Int))=false:=beq_eq_false_iff_ne.2 hxl
        clear HCT
        go_wp2
        go_roundw
        case rel=>exact ⟨k+1,by omega,by go_num,by rw [HC2.out],(show ownD _ _ _ _ by rw [HST.out];exact HO.out),HB⟩
        case measure=>simp [intOf];omega
      ·obtain rfl:k=n:=by omega
       have HO2:Hid (ownD wr w.heap.size (.slice (some ⟨w.heap.size,0,none⟩) k k) (cod5 ls (l+1) 0)):=(show ownD _ _ _ _ by
        have:=HO.out
        have e:=cod5_next ls l
        rw [HL.out] at e
        rwa [e] at this)
       rw [HCE.out]
       clear HO HCE
       go_wp2
       go_roundw
       case rel=>exact ⟨l+1,by omega,by omega,by go_num,rfl,HO2,HB⟩
       case measure=>simp [intOf];omega
    ·obtain rfl:l=16:=by omega
     have HO2:=HO.out
     rw [cod5_end ls HBAD.out] at HO2
     generalize pv ls 16=v at *
     go_wp2
     go_ret2
     refine ⟨some ⟨w.heap.size,0,none⟩,n,n,ret_tup2 rfl (by rw [HE.out.1];rfl),?_,?_,HB.out⟩
     ·rw [HE.out.2];simp [codesL];exact HL.out.symm
     ·rw [HE.out.2]
      exact HO2
 ·have HE:Hid (cdE ls=1∧cdL ls=[]):=(show _∧_ by
   have:cdE ls=1:=by unfold cdE;rw [if_neg (by rw [he];decide)]
   refine ⟨this,?_⟩
   unfold cdL
   rw [if_neg (by rw [this];decide)])
  rw [he] at HK
  generalize krV ls=K at HK
  clear h hl he
  go_enter Tryz.func118,Tryz.ntmps118
  go_wp2_with (go_at_call 134;(with_reducible refine HK.out.mono ?_);go_must (rintro e w1 ⟨rfl,rfl⟩))
  go_ret2
  exact ⟨none,0,0,ret_tup2 rfl (by rw [HE.out.1];rfl),by rw [HE.out.2];rfl,by rw [HE.out.2];exact ownD.nil_ _ _,Below.refl _ _⟩
end Go.Proofs.YteoolehdomjkkaaGreat

/- Decoders: made. -/
namespace Go.Proofs.YteoolehdomjkkaaGreat
set_option linter.all false
open Go.RowKit
/-- A part of a block stored whole. -/
theorem wpList_storePart {P:Program} {w:World} {ops:Array Oper} {rest:List Oper} {o:Oper} {a:Act} {Q:Exit→Act→World→Prop} (hgd:o.guard=none) (ty:TypeId) (x y:Operand) (ho:o.op=.store ty x y)
  (g off:Nat) (cs ds es:List Value) (hx:a.eval x=.pointer (some ⟨g,off,none⟩)) (hy:a.eval y=.agg ds.toArray) (h:Arr w g cs) (hi:(P.info? ty).map (·.size)=some ds.length) (hl:off+ds.length≤cs.length) (h1:∀ v ∈ ds,v.oneCell'=true)
  (he:cs.take off ++ ds ++ cs.drop (off+ds.length)=es)
  (hK:wpList P ops Q rest (a.put o.dst undef) (w.setRow g es.toArray)):wpList P ops Q (o :: rest) a w:=by
 refine wpList_plain hgd fun K hk=>?_
 obtain ⟨t,h⟩:=h
 have:=run_storeCells_at P g off t ds 0 cs.toArray w h (by simpa using hl) h1
 unfold Oper.wp execOp
 cases hq:P.info? ty with
 | none=>simp [hq] at hi
 | some i =>
  have hs:ds.length=i.size:=by simp [hq] at hi;omega
  have hrun:(storeVar ty ⟨g,off,none⟩ (.agg ds.toArray)).run P w=.ok () (w.setRow g es.toArray):=by
   simp only [Nat.add_zero] at this
   simp [storeVar,sizeOf,typeInfo,hq,Value.cells,hs,this]
   rw [← he,hs]
   simp
  simp only [ho,hx,hy,Instr.storeAt,Instr.sureAddr,Sem.run_bind,Sem.run_pure,Result.andThen_ok,hrun]
  exact hk _ _ hK
def decM (ls:List Int):List Value:=cU (nextL ls 16) ++ (cI (List.replicate 16 0) ++ (cI (List.replicate 16 0) ++ [Value.slice none 0 0]))
theorem decM_len (ls:List Int):(decM ls).length=49:=by unfold decM;simp [cU,cI,nextL]
theorem cdE_zero {ls:List Int} (h:cdE ls=0):badL ls=false∧krN ls≤32768∧ls.length≤300:=by
 unfold cdE at h
 split at h
 ·rename_i h0
  split at h
  ·cases h
  ·obtain ⟨a,b,c⟩:=krE_zero h0
   exact ⟨b,by omega,a⟩
 ·cases h
end Go.Proofs.YteoolehdomjkkaaGreat
