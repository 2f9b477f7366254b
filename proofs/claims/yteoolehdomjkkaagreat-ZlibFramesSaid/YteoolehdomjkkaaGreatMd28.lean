/- Merged: Rd8, RdR, RdS, RfP, Iq1. -/
import Derived.Test.YteoolehdomjkkaaGreatMd27
import Derived.Test.YteoolehdomjkkaaGreatMd15
import Derived.Test.YteoolehdomjkkaaGreatMd16
import Derived.Test.YteoolehdomjkkaaGreatMd18
/- flate: the reader of blocks, whatever comes: a length laid behind others. -/
namespace Go.Proofs.YteoolehdomjkkaaGreat
set_option linter.all false
open Go.RowKit
/-- A list of lengths grows beside a reader. -/
theorem RFr.side {w0 w w':World} {r g:Nat} {vo lv:Value} {l:List Int} (h:RFr w0 w r g vo vo) (hl:∀ k,lv.ownBlock=some k→w0.heap.size≤k) (hg:w.grownBy w' lv.ownBlock):RFr w0 w' r g vo vo:=by
 have hs:=h.size
 refine ⟨hg.os.trans h.os,hg.tape.trans h.tape,hg.output.trans h.output,Nat.le_trans hs hg.size,fun k hk h1 h2 h3=>?_,.inl rfl⟩
 refine (hg.block k (by omega) (fun e=>?_)).trans (h.block k hk h1 h2 h3)
 have:=hl k e.symm
 omega
theorem RFr.allocd {w0 w:World} {r g:Nat} {vo:Value} (h:RFr w0 w r g vo vo) (o:Obj):RFr w0 (w.alloc o) r g vo vo:=by
 have hs:=h.size
 refine ⟨h.os,h.tape,h.output,by rw [World.size_alloc];omega,fun k hk h1 h2 h3=>(heap_alloc_old w o (by omega)).trans (h.block k hk h1 h2 h3),.inl rfl⟩
theorem FR.side {w w':World} {r g:Nat} {A:Option Addr} {n c P:Nat} {bs:List UInt8} {vo lv:Value} {out:List UInt8} {most e:Int} {lo:Nat} (h:FR w r g A n c P bs vo out most e) (hr:r < lo) (hv:∀ k,vo.ownBlock=some k→k < lo) (hl:∀ k,lv.ownBlock=some k→lo≤k) (hg:w.grownBy w' lv.ownBlock):FR w' r g A n c P bs vo out most e:=by
 have hgr:=h.gr
 have key:∀ k,k < w.heap.size→k < lo→w'.heap[k]?=w.heap[k]?:=fun k hk hlo=>hg.block k hk (fun e=>by have:=hl k e.symm;omega)
 refine ⟨?_,?_,h.rb.blw ((Below.refl g w).grown hg (Nat.le_of_lt h.rd.lt) (fun k hk=>by have:=hl k hk;omega)),World.ownsRow.kept h.own hg ?_,hgr,h.fit,h.big⟩
 ·have hlt:=h.arr.lt
  obtain ⟨t,ht⟩:=h.arr
  exact ⟨t,(key r hlt hr).trans ht⟩
 ·have hlt:=h.rd.lt
  obtain ⟨t,ht⟩:=h.rd
  exact ⟨t,(key g hlt (by omega)).trans ht⟩
 ·cases e:vo.ownBlock with
  | none=>exact .inl rfl
  | some k=>exact .inr (fun e2=>by have h1:=hv k e;have h2:=hl k e2.symm;omega)
theorem rep_snoc (l:List Int) (x:Int) (i:Nat):l ++ List.replicate i x ++ [x]=l ++ List.replicate (i+1) x:=by
 rw [List.append_assoc,List.replicate_succ']
section
variable (r g n c : Nat) (A : Option Addr) (bs : List UInt8) (most : Int) (vo : Value) (s : RS) (w0 w : World)
set_option maxRecDepth 100000 in
set_option maxHeartbeats 3200000 in
theorem rrepeat_any (lv:Value) (l:List Int) (x:Int) (N all:Nat) (h:FS w r g A n c bs most vo s) (hf:RFr w0 w r g vo vo) (hl:ownI w w0.heap.size lv l) (hr:r < w0.heap.size) (hv:∀ k,vo.ownBlock=some k→k < w0.heap.size) (hN:N≤1000) (hall:all≤1000) (hll:l.length≤1000) :
  Calls Tryz.prog 179 #[.pointer (some ⟨r,0,none⟩),lv,.int .i64 x,.int .i64 (N:Int),.int .i64 (all:Int)] w fun e w'=>∃ lv',e=.returned lv'∧FS w' r g A n c bs most vo (repP l x N all s).2∧ownI w' w0.heap.size lv' (repP l x N all s).1∧RFr w0 w' r g vo vo:=by
 obtain ⟨Al,cl,rfl,-,-,-⟩:=hl.form
 have H:=Lib.hid h
 have HF0:=Lib.hid hf
 have HL:=Lib.hid hl
 have HV:=Lib.hid hv
 have c3:=(FR.arr h).cell (k:=3) rfl
 have HFL:=Lib.hid (rfail_any r g n c A bs most vo s w 4 h)
 obtain ⟨s1,hs1⟩:∃ s1,rep0 l N all s=s1:=⟨_,rfl⟩
 have HRP:Hid (repP l x N all s=if s1.e=0 then (l ++ List.replicate N x,s1) else (l,s1)):=(show _=_ by unfold repP;rw [hs1])
 replace hs1:(if s.e=0∧(all:Int) - (l.length:Int) < (N:Int) then s.fail 4 else s)=s1:=hs1
 have HL0:Hid (l ++ List.replicate 0 x=l):=(show _=_ by simp)
 have hls:∀ k w',RFr w0 w' r g vo vo→(Value.slice Al l.length cl).ownBlock=some k→w0.heap.size≤k:=fun k w' _ hk=>(World.ownsRow.lt hl k hk).1
 clear h hf hl hv hls
 go_enter Tryz.func179,Tryz.ntmps179
 by_cases he:s.e=0
 ·have d1:(s.e == 0)=true:=by rw [he];rfl
  by_cases hlt:(all:Int) - (l.length:Int) < (N:Int)
  ·rw [if_pos ⟨he,hlt⟩] at hs1
   rw [hs1] at HFL
   clear hs1
   have hfl:=World.ownsRow.lt HL.out
   go_wp2_with (go_at_call 100;(with_reducible refine HFL.out.mono ?_);go_must (rintro e w4 ⟨rfl,hf4,hr4⟩;have HF4:=Lib.hid hf4;have HL4:Hid (ownI w4 w0.heap.size (.slice Al l.length cl) l):=(show ownI _ _ _ _ from ownI.rfr HL.out hr4 hr (by have:=(FR.gr H.out);omega) (fun k hk hk2=>by have h1:=HV.out k hk;have h2:=(World.ownsRow.lt HL.out k hk2).1;omega));have HR4:=Lib.hid (HF0.out.trans hr4);clear hf4 hr4))
   go_loopw [11,1] (fun vi vl wr=>∃ i:Nat,i≤N∧vi=.int .i64 i∧Hid (FS wr r g A n c bs most vo s1)∧Hid (RFr w0 wr r g vo vo)∧Hid (ownI wr w0.heap.size vl (l ++ List.replicate i x))∧(¬ s1.e=0→i=0)) (fun vi _ _=>N - (intOf vi).toNat)
   case atStart=>exact ⟨0,Nat.zero_le _,rfl,HF4,HR4,(show ownI _ _ _ _ by rw [HL0.out];exact HL4.out),fun _=>rfl⟩
   case round =>
    obtain ⟨i,hi,rfl,HF,HR,HL,h0⟩:=hrel
    have e3:=(FR.arr HF.out).cell (k:=3) rfl
    obtain ⟨Aq,cq,rfl,-,-,-⟩:=HL.out.form
    have hlen:(l ++ List.replicate i x).length≤2000:=by rw [List.length_append,List.length_replicate];omega
    by_cases hlt:i < N
    ·have hlti:(i:Int) < (N:Int):=by omega
     by_cases he:s1.e=0
     ·have d9:(s1.e == 0)=true:=by rw [he];rfl
      have HSN:=Lib.hid (rep_snoc l x i)
      have HLO:Hid (∀ k,(Value.slice Aq (l ++ List.replicate i x).length cq).ownBlock=some k→w0.heap.size≤k):=(show ∀ k,_ from fun k hk=>(World.ownsRow.lt HL.out k hk).1)
      generalize l ++ List.replicate i x=ll at *
      have HLA:=Lib.hid (ownI.alloc HL.out (.cells #[Value.int .i64 x] 3))
      have HFA:=Lib.hid (FR.later HF.out ((Below.refl wr.heap.size wr).alloc (Nat.le_refl _) (.cells #[Value.int .i64 x] 3)))
      have HRA:=Lib.hid (HR.out.allocd (.cells #[Value.int .i64 x] 3))
      have hq1:ll.length+1≤1099511627776:=by omega
      have hq2:w0.heap.size≤(wr.alloc (.cells #[Value.int .i64 x] 3)).heap.size:=HRA.out.size
      go_wp2_with (at_builtin;go_must (refine wpList_appendI rfl (.tmp 39) (.tmp 41) rfl w0.heap.size _ ll rfl HLA.out (wr.heap.size+1) 1 1 (some ⟨wr.heap.size,0,none⟩) [x] rfl (rd_oneI wr x) hq1 hq2 ?_;intro v5 w5 ho5 hg5 hb5 ha5;rw [HSN.out] at ho5;have HL5:=Lib.hid ho5;have HF5:=Lib.hid (FR.side HFA.out hr HV.out HLO.out hg5);have HR5:=Lib.hid (RFr.side (l:=ll) HRA.out HLO.out hg5);clear ho5 hg5 hb5 ha5))
      go_roundw
      case rel=>exact ⟨i+1,by omega,by go_num,HF5,HR5,HL5,fun h=>absurd he h⟩
      case measure=>simp [intOf];omega
     ·have d9:(s1.e == 0)=false:=beq_eq_false_iff_ne.2 he
      have hi0:=h0 he
      subst hi0
      go_wp2_with fail
      go_ret
      exact ⟨_,rfl,by rw [HRP.out,if_neg he];exact HF.out,by rw [HRP.out,if_neg he];rw [HL0.out] at HL;exact HL.out,HR.out⟩
    ·obtain rfl:i=N:=by omega
     have hlti:¬ (i:Int) < (i:Int):=by omega
     by_cases he:s1.e=0
     ·go_wp2_with fail
      go_ret
      exact ⟨_,rfl,by rw [HRP.out,if_pos he];exact HF.out,by rw [HRP.out,if_pos he];have hh:=HL.out;first | exact hh | (rw [show (l ++ List.replicate i x).length=l.length+i by simp] at hh;exact hh),HR.out⟩
     ·have hi0:=h0 he
      subst hi0
      go_wp2_with fail
      go_ret
      exact ⟨_,rfl,by rw [HRP.out,if_neg he];exact HF.out,by rw [HRP.out,if_neg he];rw [HL0.out] at HL;exact HL.out,HR.out⟩
  ·rw [if_neg (fun h=>hlt h.2)] at hs1
   rw [hs1] at H
   clear hs1
   go_wp2_with fail
   go_loopw [11,1] (fun vi vl wr=>∃ i:Nat,i≤N∧vi=.int .i64 i∧Hid (FS wr r g A n c bs most vo s1)∧Hid (RFr w0 wr r g vo vo)∧Hid (ownI wr w0.heap.size vl (l ++ List.replicate i x))∧(¬ s1.e=0→i=0)) (fun vi _ _=>N - (intOf vi).toNat)
   case atStart=>exact ⟨0,Nat.zero_le _,rfl,H,HF0,(show ownI _ _ _ _ by rw [HL0.out];exact HL.out),fun _=>rfl⟩
   case round =>
    obtain ⟨i,hi,rfl,HF,HR,HL,h0⟩:=hrel
    have e3:=(FR.arr HF.out).cell (k:=3) rfl
    obtain ⟨Aq,cq,rfl,-,-,-⟩:=HL.out.form
    have hlen:(l ++ List.replicate i x).length≤2000:=by rw [List.length_append,List.length_replicate];omega
    by_cases hlt:i < N
    ·have hlti:(i:Int) < (N:Int):=by omega
     by_cases he:s1.e=0
     ·have d9:(s1.e == 0)=true:=by rw [he];rfl
      have HSN:=Lib.hid (rep_snoc l x i)
      have HLO:Hid (∀ k,(Value.slice Aq (l ++ List.replicate i x).length cq).ownBlock=some k→w0.heap.size≤k):=(show ∀ k,_ from fun k hk=>(World.ownsRow.lt HL.out k hk).1)
      generalize l ++ List.replicate i x=ll at *
      have HLA:=Lib.hid (ownI.alloc HL.out (.cells #[Value.int .i64 x] 3))
      have HFA:=Lib.hid (FR.later HF.out ((Below.refl wr.heap.size wr).alloc (Nat.le_refl _) (.cells #[Value.int .i64 x] 3)))
      have HRA:=Lib.hid (HR.out.allocd (.cells #[Value.int .i64 x] 3))
      have hq1:ll.length+1≤1099511627776:=by omega
      have hq2:w0.heap.size≤(wr.alloc (.cells #[Value.int .i64 x] 3)).heap.size:=HRA.out.size
      go_wp2_with (at_builtin;go_must (refine wpList_appendI rfl (.tmp 39) (.tmp 41) rfl w0.heap.size _ ll rfl HLA.out (wr.heap.size+1) 1 1 (some ⟨wr.heap.size,0,none⟩) [x] rfl (rd_oneI wr x) hq1 hq2 ?_;intro v5 w5 ho5 hg5 hb5 ha5;rw [HSN.out] at ho5;have HL5:=Lib.hid ho5;have HF5:=Lib.hid (FR.side HFA.out hr HV.out HLO.out hg5);have HR5:=Lib.hid (RFr.side (l:=ll) HRA.out HLO.out hg5);clear ho5 hg5 hb5 ha5))
      go_roundw
      case rel=>exact ⟨i+1,by omega,by go_num,HF5,HR5,HL5,fun h=>absurd he h⟩
      case measure=>simp [intOf];omega
     ·have d9:(s1.e == 0)=false:=beq_eq_false_iff_ne.2 he
      have hi0:=h0 he
      subst hi0
      go_wp2_with fail
      go_ret
      exact ⟨_,rfl,by rw [HRP.out,if_neg he];exact HF.out,by rw [HRP.out,if_neg he];rw [HL0.out] at HL;exact HL.out,HR.out⟩
    ·obtain rfl:i=N:=by omega
     have hlti:¬ (i:Int) < (i:Int):=by omega
     by_cases he:s1.e=0
     ·go_wp2_with fail
      go_ret
      exact ⟨_,rfl,by rw [HRP.out,if_pos he];exact HF.out,by rw [HRP.out,if_pos he];have hh:=HL.out;first | exact hh | (rw [show (l ++ List.replicate i x).length=l.length+i by simp] at hh;exact hh),HR.out⟩
     ·have hi0:=h0 he
      subst hi0
      go_wp2_with fail
      go_ret
      exact ⟨_,rfl,by rw [HRP.out,if_neg he];exact HF.out,by rw [HRP.out,if_neg he];rw [HL0.out] at HL;exact HL.out,HR.out⟩
 ·have d1:(s.e == 0)=false:=beq_eq_false_iff_ne.2 he
  rw [if_neg (fun h=>he h.1)] at hs1
  rw [hs1] at H
  clear hs1
  go_wp2_with fail
  go_loopw [11,1] (fun vi vl wr=>∃ i:Nat,i≤N∧vi=.int .i64 i∧Hid (FS wr r g A n c bs most vo s1)∧Hid (RFr w0 wr r g vo vo)∧Hid (ownI wr w0.heap.size vl (l ++ List.replicate i x))∧(¬ s1.e=0→i=0)) (fun vi _ _=>N - (intOf vi).toNat)
  case atStart=>exact ⟨0,Nat.zero_le _,rfl,H,HF0,(show ownI _ _ _ _ by rw [HL0.out];exact HL.out),fun _=>rfl⟩
  case round =>
   obtain ⟨i,hi,rfl,HF,HR,HL,h0⟩:=hrel
   have e3:=(FR.arr HF.out).cell (k:=3) rfl
   obtain ⟨Aq,cq,rfl,-,-,-⟩:=HL.out.form
   have hlen:(l ++ List.replicate i x).length≤2000:=by rw [List.length_append,List.length_replicate];omega
   by_cases hlt:i < N
   ·have hlti:(i:Int) < (N:Int):=by omega
    by_cases he:s1.e=0
    ·have d9:(s1.e == 0)=true:=by rw [he];rfl
     have HSN:=Lib.hid (rep_snoc l x i)
     have HLO:Hid (∀ k,(Value.slice Aq (l ++ List.replicate i x).length cq).ownBlock=some k→w0.heap.size≤k):=(show ∀ k,_ from fun k hk=>(World.ownsRow.lt HL.out k hk).1)
     generalize l ++ List.replicate i x=ll at *
     have HLA:=Lib.hid (ownI.alloc HL.out (.cells #[Value.int .i64 x] 3))
     have HFA:=Lib.hid (FR.later HF.out ((Below.refl wr.heap.size wr).alloc (Nat.le_refl _) (.cells #[Value.int .i64 x] 3)))
     have HRA:=Lib.hid (HR.out.allocd (.cells #[Value.int .i64 x] 3))
     have hq1:ll.length+1≤1099511627776:=by omega
     have hq2:w0.heap.size≤(wr.alloc (.cells #[Value.int .i64 x] 3)).heap.size:=HRA.out.size
     go_wp2_with (at_builtin;go_must (refine wpList_appendI rfl (.tmp 39) (.tmp 41) rfl w0.heap.size _ ll rfl HLA.out (wr.heap.size+1) 1 1 (some ⟨wr.heap.size,0,none⟩) [x] rfl (rd_oneI wr x) hq1 hq2 ?_;intro v5 w5 ho5 hg5 hb5 ha5;rw [HSN.out] at ho5;have HL5:=Lib.hid ho5;have HF5:=Lib.hid (FR.side HFA.out hr HV.out HLO.out hg5);have HR5:=Lib.hid (RFr.side (l:=ll) HRA.out HLO.out hg5);clear ho5 hg5 hb5 ha5))
     go_roundw
     case rel=>exact ⟨i+1,by omega,by go_num,HF5,HR5,HL5,fun h=>absurd he h⟩
     case measure=>simp [intOf];omega
    ·have d9:(s1.e == 0)=false:=beq_eq_false_iff_ne.2 he
     have hi0:=h0 he
     subst hi0
     go_wp2_with fail
     go_ret
     exact ⟨_,rfl,by rw [HRP.out,if_neg he];exact HF.out,by rw [HRP.out,if_neg he];rw [HL0.out] at HL;exact HL.out,HR.out⟩
   ·obtain rfl:i=N:=by omega
    have hlti:¬ (i:Int) < (i:Int):=by omega
    by_cases he:s1.e=0
    ·go_wp2_with fail
     go_ret
     exact ⟨_,rfl,by rw [HRP.out,if_pos he];exact HF.out,by rw [HRP.out,if_pos he];have hh:=HL.out;first | exact hh | (rw [show (l ++ List.replicate i x).length=l.length+i by simp] at hh;exact hh),HR.out⟩
    ·have hi0:=h0 he
     subst hi0
     go_wp2_with fail
     go_ret
     exact ⟨_,rfl,by rw [HRP.out,if_neg he];exact HF.out,by rw [HRP.out,if_neg he];rw [HL0.out] at HL;exact HL.out,HR.out⟩
end
end Go.Proofs.YteoolehdomjkkaaGreat

/- flate: what a reader of blocks does, plainly: a block of its own codes, the fixed codes, all blocks. -/
namespace Go.Proofs.YteoolehdomjkkaaGreat
set_option linter.all false
def hdN (bs:List UInt8) (s:RS):Nat:=257+(getP bs s 5).1
def hdA (bs:List UInt8) (s:RS):RS:=if 286 < hdN bs s then (getP bs s 5).2.fail 4 else (getP bs s 5).2
def hdM (bs:List UInt8) (s:RS):Nat:=1+(getP bs (hdA bs s) 5).1
def hdB (bs:List UInt8) (s:RS):RS:=if 30 < hdM bs s then (getP bs (hdA bs s) 5).2.fail 4 else (getP bs (hdA bs s) 5).2
def hdQ (bs:List UInt8) (s:RS):Nat:=4+(getP bs (hdB bs s) 4).1
def lenRd (bs:List UInt8):List Nat→List Int→RS→List Int × RS
 | [],l,s=>(l,s)
 | k :: ks,l,s=>lenRd bs ks (l.set k ((getP bs s 3).1:Int)) (getP bs s 3).2
def hdL (bs:List UInt8) (s:RS):List Int × RS:=lenRd bs (ordL.take (hdQ bs s)) (List.replicate 19 0) (getP bs (hdB bs s) 4).2
/-- A list read by a decoder, or by none. -/
def listD (bs:List UInt8) (D:Option (List Int)) (all:Nat) (s:RS):List Int × RS:=match D with
 | some ls=>listF bs ls all (all+1) [] s
 | none=>([],s)
def ownLs (bs:List UInt8) (s:RS):List Int × RS:=listD bs (decD (hdL bs s).1 (hdL bs s).2) (hdN bs s+hdM bs s) (decP (hdL bs s).1 false (hdL bs s).2)
def noneP (ls:List Int):Bool:=cPos ls == 0
def own1 (all:List Int) (s:RS):RS:=if all.getD 256 0=0 then s.fail 4 else s
def own2 (all:List Int) (n:Nat) (s:RS):RS:=decP (all.take n) false (own1 all s)
def ownDD (all:List Int) (n:Nat) (s:RS):Option (List Int):=if noneP (all.drop n)=true then none else decD (all.drop n) (own2 all n s)
def own3 (all:List Int) (n:Nat) (s:RS):RS:=if noneP (all.drop n)=true then own2 all n s else decP (all.drop n) true (own2 all n s)
def ownT (bs:List UInt8) (most:Int) (all:List Int) (n f:Nat) (s:RS):RS :=
 if s.e=0 then (if (own3 all n s).e=0 then toksF bs most (all.take n) (ownDD all n s) f (own3 all n s) else own3 all n s) else s
/-- A block of its own codes. -/
def rownP (bs:List UInt8) (most:Int) (f:Nat) (s:RS):RS:=ownT bs most (ownLs bs s).1 (hdN bs s) f (ownLs bs s).2
/-- A block of the fixed codes. -/
def rfixP (bs:List UInt8) (most:Int) (f:Nat) (s:RS):RS:=toksF bs most fixL (some fixD) f s
theorem decP_out (ls:List Int) (a:Bool) (s:RS):(decP ls a s).out=s.out:=by
 unfold decP
 split
 ·split
  ·split
   ·exact fail_out s 4
   ·rfl
  ·exact fail_out s 4
 ·rfl
theorem decP_p (ls:List Int) (a:Bool) (s:RS):(decP ls a s).p=s.p:=by
 unfold decP
 split
 ·split
  ·split
   ·exact fail_p s 4
   ·rfl
  ·exact fail_p s 4
 ·rfl
theorem fail_e {s:RS} {e:Int} (he:¬ e=0):¬ (s.fail e).e=0:=by
 unfold RS.fail
 split
 ·exact he
 ·assumption
theorem decD_none {ls:List Int} {a:Bool} {s:RS} (h:decD ls s=none):¬ (decP ls a s).e=0:=by
 unfold decD at h
 unfold decP
 split at h
 ·cases h
 ·rename_i h2
  split
  ·rename_i he
   rw [if_neg (fun hn=>h2 ⟨he,hn⟩)]
   exact fail_e (by decide)
  ·assumption
theorem decP_zero {ls:List Int} {a:Bool} {s:RS} (h:(decP ls a s).e=0):s.e=0∧decP ls a s=s∧decD ls s=some ls:=by
 unfold decP at h ⊢
 unfold decD
 by_cases he:s.e=0
 ·rw [if_pos he] at h ⊢
  by_cases hn:nwE ls=0
  ·rw [if_pos hn] at h ⊢
   by_cases hb:decBad ls a
   ·rw [if_pos hb] at h
    exact absurd h (fail_e (by decide))
   ·rw [if_neg hb]
    exact ⟨he,rfl,if_pos ⟨he,hn⟩⟩
  ·rw [if_neg hn] at h
   exact absurd h (fail_e (by decide))
 ·rw [if_neg he] at h
  exact absurd h he
theorem own1_zero {all:List Int} {s:RS} (h:(own1 all s).e=0):s.e=0∧own1 all s=s:=by
 unfold own1 at h ⊢
 split at h
 ·exact absurd h (fail_e (by decide))
 ·rename_i h2
  rw [if_neg h2]
  exact ⟨h,rfl⟩
theorem own3_zero {all:List Int} {n:Nat} {s:RS} (h:(own3 all n s).e=0):own3 all n s=s∧decD (all.take n) (own1 all s)=some (all.take n):=by
 have key:(own2 all n s).e=0∧own3 all n s=own2 all n s:=by
  unfold own3 at h ⊢
  split at h
  ·rename_i h2;rw [if_pos h2];exact ⟨h,rfl⟩
  ·rename_i h2;rw [if_neg h2];obtain ⟨h1,h3,-⟩:=decP_zero h;exact ⟨h1,h3⟩
 rw [key.2]
 obtain ⟨h1,h2,h3⟩:=decP_zero key.1
 refine ⟨?_,h3⟩
 unfold own2
 rw [h2]
 exact (own1_zero h1).2
theorem lenRd_out (bs:List UInt8):∀ (ks:List Nat) (l:List Int) (s:RS),(lenRd bs ks l s).2.out=s.out
 | [],l,s=>rfl
 | k :: ks,l,s=>by rw [lenRd,lenRd_out bs ks,getP_out]
theorem repP_out (l:List Int) (x:Int) (n all:Nat) (s:RS):(repP l x n all s).2.out=s.out:=by
 have:(rep0 l n all s).out=s.out:=by
  unfold rep0
  split
  ·exact fail_out s 4
  ·rfl
 unfold repP
 split <;> exact this
theorem listF_out (bs:List UInt8) (ls:List Int) (all:Nat):∀ (f:Nat) (l:List Int) (s:RS),(listF bs ls all f l s).2.out=s.out
 | 0,l,s=>rfl
 | f+1,l,s=>by
  rw [listF]
  split
  ·split
   ·split
    ·rw [listF_out bs ls all f,nextP_out]
    ·split
     ·split
      ·show (RS.fail _ 4).out=_
       rw [fail_out,nextP_out]
      ·rw [listF_out bs ls all f,repP_out,getP_out,nextP_out]
     ·split
      ·rw [listF_out bs ls all f,repP_out,getP_out,nextP_out]
      ·rw [listF_out bs ls all f,repP_out,getP_out,nextP_out]
   ·exact nextP_out bs ls s
  ·rfl
theorem listD_out (bs:List UInt8) (D:Option (List Int)) (all:Nat) (s:RS):(listD bs D all s).2.out=s.out:=by
 cases D with
 | none=>rfl
 | some ls=>exact listF_out bs ls all _ _ s
theorem hdA_out (bs:List UInt8) (s:RS):(hdA bs s).out=s.out:=by
 unfold hdA
 split
 ·rw [fail_out,getP_out]
 ·rw [getP_out]
theorem hdB_out (bs:List UInt8) (s:RS):(hdB bs s).out=s.out:=by
 unfold hdB
 split
 ·rw [fail_out,getP_out,hdA_out]
 ·rw [getP_out,hdA_out]
theorem ownLs_out (bs:List UInt8) (s:RS):(ownLs bs s).2.out=s.out:=by
 unfold ownLs hdL
 rw [listD_out,decP_out,lenRd_out,getP_out,hdB_out]
/-- A list read without an error is whole. -/
theorem listF_full (bs:List UInt8) (ls:List Int) (all:Nat):∀ (f:Nat) (l:List Int) (s:RS),l.length≤all→all+1≤l.length+f→(listF bs ls all f l s).2.e=0→(listF bs ls all f l s).1.length=all
 | 0,l,s,hl,hf,h=>by omega
 | f+1,l,s,hl,hf,h=>by
  rw [listF] at h ⊢
  by_cases h1:l.length < all∧s.e=0
  ·rw [if_pos h1] at h ⊢
   by_cases h2:(nextP bs ls s).2.e=0
   ·rw [if_pos h2] at h ⊢
    have rp:∀ (x:Int) (k:Nat) (t:RS),3≤k→(listF bs ls all f (repP l x k all t).1 (repP l x k all t).2).2.e=0→(listF bs ls all f (repP l x k all t).1 (repP l x k all t).2).1.length=all:=fun x k t hk h=>by
     have h4:=repP_len l x k all t hl
     by_cases he:(repP l x k all t).2.e=0
     ·exact listF_full bs ls all f _ _ h4.1 (by rw [h4.2 he];omega) h
     ·rw [listF_stop (fun hh=>he hh.2)] at h
      exact absurd h he
    by_cases h3:(nextP bs ls s).1 < 16
    ·rw [if_pos h3] at h ⊢
     exact listF_full bs ls all f _ _ (by simp;omega) (by simp;omega) h
    ·rw [if_neg h3] at h ⊢
     by_cases h4:(nextP bs ls s).1=16
     ·rw [if_pos h4] at h ⊢
      by_cases h5:l.length=0
      ·rw [if_pos h5] at h
       exact absurd h (fail_e (by decide))
      ·rw [if_neg h5] at h ⊢
       exact rp _ _ _ (by omega) h
     ·rw [if_neg h4] at h ⊢
      by_cases h5:(nextP bs ls s).1=17
      ·rw [if_pos h5] at h ⊢
       exact rp _ _ _ (by omega) h
      ·rw [if_neg h5] at h ⊢
       exact rp _ _ _ (by omega) h
   ·rw [if_neg h2] at h
    exact absurd h h2
  ·rw [if_neg h1] at h ⊢
   have h':s.e=0:=h
   show l.length=all
   have:¬ l.length < all:=fun hh=>h1 ⟨hh,h'⟩
   omega
theorem ownLs_full (bs:List UInt8) (s:RS) (h:(ownLs bs s).2.e=0):(ownLs bs s).1.length=hdN bs s+hdM bs s:=by
 unfold ownLs at h ⊢
 cases hD:decD (hdL bs s).1 (hdL bs s).2 with
 | none =>
  rw [hD] at h
  exact absurd h (decD_none hD)
 | some ls =>
  rw [hD] at h
  exact listF_full bs ls _ _ [] _ (Nat.zero_le _) (by simp) h
end Go.Proofs.YteoolehdomjkkaaGreat

/- flate: all blocks, plainly; how far a reader comes. -/
namespace Go.Proofs.YteoolehdomjkkaaGreat
set_option linter.all false
theorem nextP_m (bs:List UInt8) (ls:List Int) (s:RS):s.p≤(nextP bs ls s).2.p:=by
 unfold nextP
 split
 ·have key:∀ f t v P,P≤(nx ls bs f t v P).2.2:=fun f=>by
   induction f with
   | zero=>intro t v P;exact Nat.le_refl _
   | succ f ih =>
    intro t v P
    rw [nx]
    split
    ·exact Nat.le_refl _
    ·split
     ·exact Nat.le_succ P
     ·have:=ih (t+1) (v * 2+bitAt bs P) (P+1)
      omega
  exact key 15 1 0 s.p
 ·exact Nat.le_refl _
theorem copyP_m (bs:List UInt8) (most:Int) (s:RS) (q:Nat) (dl:Option (List Int)):s.p≤(copyP bs most s q dl).p:=by
 have h1:=getP_p bs s (lenOf (q - 257)).2
 unfold copyP
 split
 ·rw [fail_p];exact Nat.le_refl _
 ·split
  ·refine Nat.le_trans h1 ?_
   cases dl with
   | none =>
    show _≤(RS.fail _ 1).p
    rw [fail_p]
    exact Nat.le_refl _
   | some ds =>
    rw [cpB]
    have h1:=nextP_m bs ds (getP bs s (lenOf (q - 257)).2).2
    split
    ·rw [fail_p];exact h1
    ·rw [copiesP_p]
     exact Nat.le_trans h1 (getP_p bs _ _)
  ·exact h1
theorem toksF_m (bs:List UInt8) (most:Int) (ll:List Int) (dl:Option (List Int)):∀ (f:Nat) (s:RS),s.p≤(toksF bs most ll dl f s).p
 | 0,s=>Nat.le_refl _
 | f+1,s=>by
  have h1:=nextP_m bs ll s
  rw [toksF]
  split
  ·split
   ·split
    ·exact h1
    ·split
     ·refine Nat.le_trans h1 (Nat.le_trans ?_ (toksF_m bs most ll dl f _))
      rw [givesP_p]
      exact Nat.le_refl _
     ·exact Nat.le_trans h1 (Nat.le_trans (copyP_m bs most _ _ dl) (toksF_m bs most ll dl f _))
   ·exact h1
  ·exact Nat.le_refl _
theorem plnF_m (bs:List UInt8) (most:Int):∀ (k:Nat) (s:RS),s.p≤(plnF bs most k s).p
 | 0,s=>Nat.le_refl _
 | k+1,s=>by
  have h1:=getP_p bs s 8
  rw [plnF]
  split
  ·split
   ·refine Nat.le_trans h1 (Nat.le_trans ?_ (plnF_m bs most k _))
    rw [givesP_p]
    exact Nat.le_refl _
   ·exact h1
  ·exact Nat.le_refl _
theorem plainP_m (bs:List UInt8) (most:Int) (s:RS):s.p≤(plainP bs most s).p:=by
 have h0:s.p≤(pl0 s).p:=by show s.p≤8 * ((s.p+7) / 8);omega
 have h1:(pl0 s).p≤(pl2 bs s).p:=Nat.le_trans (getP_p bs (pl0 s) 16) (getP_p bs _ 16)
 have h2:(pl3 bs s).p=(pl2 bs s).p:=by
  unfold pl3
  split
  ·exact fail_p _ _
  ·rfl
 unfold plainP
 refine Nat.le_trans (Nat.le_trans h0 h1) ?_
 rw [← h2]
 exact plnF_m bs most _ _
theorem lenRd_m (bs:List UInt8):∀ (ks:List Nat) (l:List Int) (s:RS),s.p≤(lenRd bs ks l s).2.p
 | [],l,s=>Nat.le_refl _
 | k :: ks,l,s=>Nat.le_trans (getP_p bs s 3) (lenRd_m bs ks _ _)
theorem repP_p (l:List Int) (x:Int) (n all:Nat) (s:RS):(repP l x n all s).2.p=s.p:=by
 have:(rep0 l n all s).p=s.p:=by
  unfold rep0
  split
  ·exact fail_p s 4
  ·rfl
 unfold repP
 split <;> exact this
theorem listF_m (bs:List UInt8) (ls:List Int) (all:Nat):∀ (f:Nat) (l:List Int) (s:RS),s.p≤(listF bs ls all f l s).2.p
 | 0,l,s=>Nat.le_refl _
 | f+1,l,s=>by
  have h1:=nextP_m bs ls s
  have rp:∀ (x:Int) (k m:Nat),s.p≤(listF bs ls all f (repP l x k all (getP bs (nextP bs ls s).2 m).2).1 (repP l x k all (getP bs (nextP bs ls s).2 m).2).2).2.p:=fun x k m=>by
   refine Nat.le_trans (Nat.le_trans h1 ?_) (listF_m bs ls all f _ _)
   rw [repP_p]
   exact getP_p bs _ m
  rw [listF]
  split
  ·split
   ·split
    ·exact Nat.le_trans h1 (listF_m bs ls all f _ _)
    ·split
     ·split
      ·show _≤(RS.fail _ 4).p
       rw [fail_p];exact h1
      ·exact rp _ _ _
     ·split
      ·exact rp _ _ _
      ·exact rp _ _ _
   ·exact h1
  ·exact Nat.le_refl _
theorem ownLs_m (bs:List UInt8) (s:RS):s.p≤(ownLs bs s).2.p:=by
 have hA:s.p≤(hdA bs s).p:=by
  unfold hdA
  split
  ·rw [fail_p];exact getP_p bs s 5
  ·exact getP_p bs s 5
 have hB:(hdA bs s).p≤(hdB bs s).p:=by
  unfold hdB
  split
  ·rw [fail_p];exact getP_p bs _ 5
  ·exact getP_p bs _ 5
 have hL:(hdB bs s).p≤(hdL bs s).2.p:=Nat.le_trans (getP_p bs _ 4) (lenRd_m bs _ _ _)
 refine Nat.le_trans hA (Nat.le_trans hB (Nat.le_trans hL ?_))
 unfold ownLs
 cases decD (hdL bs s).1 (hdL bs s).2 with
 | none =>
  show _≤(decP _ _ _).p
  rw [decP_p]
  exact Nat.le_refl _
 | some ls =>
  refine Nat.le_trans ?_ (listF_m bs ls _ _ [] _)
  rw [decP_p]
  exact Nat.le_refl _
theorem own3_p (all:List Int) (n:Nat) (s:RS):(own3 all n s).p=s.p:=by
 have h1:(own1 all s).p=s.p:=by
  unfold own1
  split
  ·exact fail_p s 4
  ·rfl
 have h2:(own2 all n s).p=s.p:=by unfold own2;rw [decP_p,h1]
 unfold own3
 split
 ·exact h2
 ·rw [decP_p,h2]
theorem rownP_m (bs:List UInt8) (most:Int) (f:Nat) (s:RS):s.p≤(rownP bs most f s).p:=by
 refine Nat.le_trans (ownLs_m bs s) ?_
 unfold rownP ownT
 split
 ·split
  ·refine Nat.le_trans ?_ (toksF_m bs most _ _ f _)
   rw [own3_p]
   exact Nat.le_refl _
  ·rw [own3_p]
   exact Nat.le_refl _
 ·exact Nat.le_refl _
theorem toksF_le {bs:List UInt8} {most:Int} {ll:List Int} {dl:Option (List Int)}:∀ (f:Nat) {s:RS},(s.out.length:Int)≤most→((toksF bs most ll dl f s).out.length:Int)≤most
 | 0,s,h=>h
 | f+1,s,h=>by
  have h1:(((nextP bs ll s).2.out.length:Nat):Int)≤most:=by rw [nextP_out];exact h
  rw [toksF]
  split
  ·split
   ·split
    ·exact h1
    ·split
     ·exact toksF_le f (givesP_le h1)
     ·exact toksF_le f (copyP_le h1)
   ·exact h1
  ·exact h
theorem rownP_le {bs:List UInt8} {most:Int} {f:Nat} {s:RS} (h:(s.out.length:Int)≤most):((rownP bs most f s).out.length:Int)≤most:=by
 have h1:(((ownLs bs s).2.out.length:Nat):Int)≤most:=by rw [ownLs_out];exact h
 have ho1:∀ all t,(own1 all t).out=t.out:=fun all t=>by
  unfold own1
  split
  ·exact fail_out t 4
  ·rfl
 have ho2:∀ all n t,(own2 all n t).out=t.out:=fun all n t=>by unfold own2;rw [decP_out,ho1]
 have ho3:∀ all n t,(own3 all n t).out=t.out:=fun all n t=>by
  unfold own3
  split
  ·exact ho2 _ _ _
  ·rw [decP_out,ho2]
 unfold rownP ownT
 split
 ·split
  ·exact toksF_le f (by rw [ho3];exact h1)
  ·rw [ho3];exact h1
 ·exact h1
/-- A block's first bits. -/
def blk0 (bs:List UInt8) (s:RS):Nat:=(getP bs s 1).1
def blk1 (bs:List UInt8) (s:RS):Nat:=(getP bs (getP bs s 1).2 2).1
def blk2 (bs:List UInt8) (s:RS):RS:=(getP bs (getP bs s 1).2 2).2
def kindP (bs:List UInt8) (most:Int) (f k:Nat) (s:RS):RS:=if k=0 then plainP bs most s else if k=1 then rfixP bs most f s else if k=2 then rownP bs most f s else s.fail 4
def blkP (bs:List UInt8) (most:Int) (f:Nat) (s:RS):RS:=kindP bs most f (blk1 bs s) (blk2 bs s)
/-- Blocks up to the last one. -/
def infF (bs:List UInt8) (most:Int) (f:Nat):Nat→RS→RS
 | 0,s=>s
 | k+1,s=>if s.e=0 then (if blk0 bs s=0 then infF bs most f k (blkP bs most f s) else blkP bs most f s) else s
def infS (bs:List UInt8) (most:Int):RS:=infF bs most (8 * bs.length+1) (8 * bs.length+1) ⟨0,[],0⟩
def inflP (bs:List UInt8) (most:Int):List UInt8 × Nat × Int :=
 if most < 0∨40000 < most then ([],0,1) else if (infS bs most).e=0 then ((infS bs most).out,((infS bs most).p+7) / 8,0) else ([],0,(infS bs most).e)
theorem infF_err {bs:List UInt8} {most:Int} {f k:Nat} {s:RS} (h:¬ s.e=0):infF bs most f k s=s:=by
 cases k with
 | zero=>rfl
 | succ k=>exact if_neg h
theorem blk2_out (bs:List UInt8) (s:RS):(blk2 bs s).out=s.out:=by unfold blk2;rw [getP_out,getP_out]
theorem kindP_le {bs:List UInt8} {most:Int} {f k:Nat} {s:RS} (h:(s.out.length:Int)≤most):((kindP bs most f k s).out.length:Int)≤most:=by
 unfold kindP
 split
 ·exact plainP_le h
 ·split
  ·exact toksF_le f h
  ·split
   ·exact rownP_le h
   ·rw [fail_out];exact h
theorem kindP_m (bs:List UInt8) (most:Int) (f k:Nat) (s:RS):s.p≤(kindP bs most f k s).p:=by
 unfold kindP
 split
 ·exact plainP_m bs most s
 ·split
  ·exact toksF_m bs most _ _ f s
  ·split
   ·exact rownP_m bs most f s
   ·rw [fail_p];exact Nat.le_refl _
/-- No error of getting bits goes away. -/
theorem getP_e0 {bs:List UInt8} {s:RS} {m:Nat} (h:(getP bs s m).2.e=0):s.e=0∧(getP bs s m).2.p=s.p+m:=by
 unfold getP at h ⊢
 by_cases he:s.e=0
 ·rw [if_pos he] at h ⊢
  by_cases h2:s.p+m≤8 * bs.length
  ·rw [if_pos h2];exact ⟨he,rfl⟩
  ·rw [if_neg h2] at h
   exact absurd h (show ¬ (2:Int)=0 by decide)
 ·rw [if_neg he] at h
  exact absurd h he
theorem getP_v0 {bs:List UInt8} {s:RS} {m:Nat} (h:¬ (getP bs s m).1=0):(getP bs s m).2.e=0:=by
 unfold getP at h ⊢
 by_cases he:s.e=0
 ·rw [if_pos he] at h ⊢
  by_cases h2:s.p+m≤8 * bs.length
  ·rw [if_pos h2]
  ·rw [if_neg h2] at h
   exact absurd rfl h
 ·rw [if_neg he] at h
  exact absurd rfl h
/-- An error does not go away. -/
theorem fail_e0 {s:RS} {e:Int} (h:(s.fail e).e=0):s.e=0:=by
 unfold RS.fail at h
 split at h
 ·assumption
 ·assumption
theorem plainP_err {bs:List UInt8} {most:Int} {s:RS} (h:¬ s.e=0):¬ (plainP bs most s).e=0:=by
 have h0:¬ (pl0 s).e=0:=h
 have h1:¬ (pl2 bs s).e=0:=fun hh=>h0 (getP_e0 (getP_e0 hh).1).1
 have h3:¬ (pl3 bs s).e=0:=by
  unfold pl3
  split
  ·exact fun hh=>h1 (fail_e0 hh)
  ·exact h1
 unfold plainP
 rw [plnF_err h3]
 exact h3
theorem decP_e0 {ls:List Int} {a:Bool} {s:RS} (h:(decP ls a s).e=0):s.e=0:=(decP_zero h).1
theorem lenRd_e0 (bs:List UInt8):∀ (ks:List Nat) (l:List Int) (s:RS),(lenRd bs ks l s).2.e=0→s.e=0
 | [],l,s,h=>h
 | k :: ks,l,s,h=>(getP_e0 (lenRd_e0 bs ks _ _ h)).1
theorem listD_e0 {bs:List UInt8} {D:Option (List Int)} {all:Nat} {s:RS} (h:(listD bs D all s).2.e=0):s.e=0:=by
 cases D with
 | none=>exact h
 | some ls =>
  by_cases he:s.e=0
  ·exact he
  ·have:listD bs (some ls) all s=([],s):=listF_stop (fun hh=>he hh.2)
   rw [this] at h
   exact h
theorem rownP_err {bs:List UInt8} {most:Int} {f:Nat} {s:RS} (h:¬ s.e=0):¬ (rownP bs most f s).e=0:=by
 have h1:¬ (ownLs bs s).2.e=0:=fun hh=>by
  have h2:=lenRd_e0 bs _ _ _ (decP_e0 (listD_e0 hh))
  have h3:=(getP_e0 h2).1
  have h4:(hdA bs s).e=0:=by
   unfold hdB at h3
   split at h3
   ·exact (getP_e0 (fail_e0 h3)).1
   ·exact (getP_e0 h3).1
  unfold hdA at h4
  split at h4
  ·exact h (getP_e0 (fail_e0 h4)).1
  ·exact h (getP_e0 h4).1
 unfold rownP ownT
 rw [if_neg h1]
 exact h1
theorem kindP_err {bs:List UInt8} {most:Int} {f k:Nat} {s:RS} (h:¬ s.e=0):¬ (kindP bs most f k s).e=0:=by
 unfold kindP
 split
 ·exact plainP_err h
 ·split
  ·unfold rfixP;rw [toksF_err h];exact h
  ·split
   ·exact rownP_err h
   ·exact fun hh=>h (fail_e0 hh)
/-- A block that is read whole takes bits. -/
theorem blkP_p {bs:List UInt8} {most:Int} {f:Nat} {s:RS} (h:(blkP bs most f s).e=0):s.p+3≤(blkP bs most f s).p:=by
 have h1:(blk2 bs s).e=0:=Decidable.byContradiction fun hh=>kindP_err hh h
 obtain ⟨h2,h3⟩:=getP_e0 h1
 obtain ⟨h4,h5⟩:=getP_e0 h2
 have h6:=kindP_m bs most f (blk1 bs s) (blk2 bs s)
 have h7:(blk2 bs s).p=s.p+1+2:=by unfold blk2;rw [h3,h5]
 unfold blkP
 omega
theorem fixL_dec (s:RS):decP fixL false s=s:=by
 by_cases he:s.e=0
 ·unfold decP
  rw [if_pos he,if_pos (show nwE fixL=0 by decide +kernel),if_neg (show ¬ decBad fixL false from fun h=>absurd h.1 (show ¬ krV fixL < 32768 by decide +kernel))]
 ·exact if_neg he
theorem fixD_dec (s:RS):decP fixD false s=s:=by
 by_cases he:s.e=0
 ·unfold decP
  rw [if_pos he,if_pos (show nwE fixD=0 by decide +kernel),if_neg (show ¬ decBad fixD false from fun h=>absurd h.1 (show ¬ krV fixD < 32768 by decide +kernel))]
 ·exact if_neg he
end Go.Proofs.YteoolehdomjkkaaGreat

/- flate: what the document's reader of blocks does, plainly. -/
namespace Go.Proofs.YteoolehdomjkkaaGreat
set_option linter.all false
/-- What came out, copied on. -/
def cpyN (dist:Nat):Nat→List UInt8→List UInt8
 | 0,out=>out
 | k+1,out=>cpyN dist k (out ++ [out.getD (out.length - dist) 0])
theorem givesP_ok {most:Int} {s:RS} {x:UInt8} (h:(s.out.length:Int) < most):givesP most s x=⟨s.p,s.out ++ [x],s.e⟩:=if_neg (by omega)
theorem givesP_bad {most:Int} {s:RS} {x:UInt8} (h:most≤(s.out.length:Int)):¬ (givesP most s x).e=0:=by
 unfold givesP
 rw [if_pos h]
 exact fail_e (by decide)
theorem cpyF_to {most:Int} {dist:Nat}:∀ (k:Nat) {s:RS},s.e=0→(s.out.length:Int)+(k:Int)≤most→cpyF most dist k s=⟨s.p,cpyN dist k s.out,0⟩
 | 0,s,he,h=>by
  obtain ⟨p,out,e⟩:=s
  have:e=0:=he
  subst this
  rfl
 | k+1,s,he,h=>by
  rw [cpyF,if_pos he,givesP_ok (by omega)]
  exact cpyF_to k he (by rw [List.length_append];show ((s.out.length+1:Nat):Int)+(k:Int)≤most;omega)
theorem cpyF_bad {most:Int} {dist:Nat}:∀ (k:Nat) {s:RS},(s.out.length:Int)≤most→most < (s.out.length:Int)+(k:Int)→¬ (cpyF most dist k s).e=0
 | 0,s,h1,h2=>by omega
 | k+1,s,h1,h2=>by
  rw [cpyF]
  split
  ·rename_i he
   by_cases h3:(s.out.length:Int) < most
   ·rw [givesP_ok h3]
    refine cpyF_bad k ?_ ?_
    ·rw [List.length_append];show ((s.out.length+1:Nat):Int)≤most;omega
    ·rw [List.length_append];show most < ((s.out.length+1:Nat):Int)+(k:Int);omega
   ·have h4:=givesP_bad (x:=s.out.getD (s.out.length - dist) 0) (show most≤(s.out.length:Int) by omega)
    rw [cpyF_err h4]
    exact h4
  ·rename_i he;exact he
theorem copies_ok {most:Int} {s:RS} {len dist:Nat} (he:s.e=0) (h1:dist≤s.out.length) (h2:(s.out.length:Int)+(len:Int)≤most):copiesP most s len dist=⟨s.p,cpyN dist len s.out,0⟩:=by
 unfold copiesP
 rw [if_neg (by omega)]
 exact cpyF_to len he h2
theorem copies_bad {most:Int} {s:RS} {len dist:Nat} (ho:(s.out.length:Int)≤most) (h:¬ (dist≤s.out.length∧(s.out.length:Int)+(len:Int)≤most)):¬ (copiesP most s len dist).e=0:=by
 unfold copiesP
 by_cases h1:s.out.length < dist
 ·rw [if_pos h1]
  have h4:¬ (s.fail 1).e=0:=fail_e (by decide)
  rw [cpyF_err h4]
  exact h4
 ·rw [if_neg h1]
  exact cpyF_bad len ho (by omega)
theorem cpyN_len (dist:Nat):∀ (k:Nat) (out:List UInt8),(cpyN dist k out).length=out.length+k
 | 0,out=>rfl
 | k+1,out=>by rw [cpyN,cpyN_len dist k,List.length_append];show out.length+1+k=_;omega
theorem cpyN_snoc (dist:Nat):∀ (k:Nat) (out:List UInt8),cpyN dist (k+1) out=cpyN dist k out ++ [(cpyN dist k out).getD ((cpyN dist k out).length - dist) 0]
 | 0,out=>rfl
 | k+1,out=>by
  rw [cpyN,cpyN_snoc dist k]
  rfl
/-- Bits got, or not. -/
theorem getP_ok {bs:List UInt8} {s:RS} {m:Nat} (he:s.e=0) (h:s.p+m≤8 * bs.length):getP bs s m=(getV bs s.p m,⟨s.p+m,s.out,0⟩):=by
 unfold getP
 rw [if_pos he,if_pos h]
theorem getP_bad {bs:List UInt8} {s:RS} {m:Nat} (h:¬ s.p+m≤8 * bs.length):¬ (getP bs s m).2.e=0:=by
 unfold getP
 by_cases he:s.e=0
 ·rw [if_pos he,if_neg h];exact show ¬ (2:Int)=0 by decide
 ·rw [if_neg he];exact he
theorem getP_err {bs:List UInt8} {s:RS} {m:Nat} (h:¬ s.e=0):¬ (getP bs s m).2.e=0:=fun hh=>h (getP_e0 hh).1
/-- Tokens, one step. -/
theorem toks_end {bs:List UInt8} {most:Int} {ll:List Int} {dl:Option (List Int)} {f:Nat} {s:RS} (he:s.e=0) (h1:(nextP bs ll s).2.e=0) (h2:(nextP bs ll s).1=256):toksF bs most ll dl (f+1) s=(nextP bs ll s).2:=by rw [toksF,if_pos he,if_pos h1,if_pos h2]
theorem toks_bad {bs:List UInt8} {most:Int} {ll:List Int} {dl:Option (List Int)} {f:Nat} {s:RS} (he:s.e=0) (h1:¬ (nextP bs ll s).2.e=0):¬ (toksF bs most ll dl (f+1) s).e=0:=by rw [toksF,if_pos he,if_neg h1];exact h1
theorem toks_byte {bs:List UInt8} {most:Int} {ll:List Int} {dl:Option (List Int)} {f:Nat} {s:RS} (he:s.e=0) (h1:(nextP bs ll s).2.e=0) (h2:(nextP bs ll s).1 < 256):toksF bs most ll dl (f+1) s=toksF bs most ll dl f (givesP most (nextP bs ll s).2 (UInt8.ofNat (nextP bs ll s).1.toNat)):=by rw [toksF,if_pos he,if_pos h1,if_neg (by omega),if_pos h2]
theorem toks_copy {bs:List UInt8} {most:Int} {ll:List Int} {dl:Option (List Int)} {f:Nat} {s:RS} (he:s.e=0) (h1:(nextP bs ll s).2.e=0) (h2:256 < (nextP bs ll s).1):toksF bs most ll dl (f+1) s=toksF bs most ll dl f (copyP bs most (nextP bs ll s).2 (nextP bs ll s).1.toNat dl):=by rw [toksF,if_pos he,if_pos h1,if_neg (by omega),if_neg (by omega)]
theorem toks_err {bs:List UInt8} {most:Int} {ll:List Int} {dl:Option (List Int)} {f:Nat} {s:RS} (he:¬ s.e=0):¬ (toksF bs most ll dl f s).e=0:=by rw [toksF_err he];exact he
theorem copyP_high {bs:List UInt8} {most:Int} {s:RS} {q:Nat} {dl:Option (List Int)} (h:286≤q):¬ (copyP bs most s q dl).e=0:=by
 unfold copyP
 rw [if_pos h]
 exact fail_e (by decide)
theorem copyP_get {bs:List UInt8} {most:Int} {s:RS} {q:Nat} {dl:Option (List Int)} (h:¬ (getP bs s (lenOf (q - 257)).2).2.e=0):¬ (copyP bs most s q dl).e=0:=by
 unfold copyP
 by_cases h2:286≤q
 ·rw [if_pos h2];exact fail_e (by decide)
 ·rw [if_neg h2,if_neg h];exact h
theorem copyP_none {bs:List UInt8} {most:Int} {s:RS} {q:Nat}:¬ (copyP bs most s q none).e=0:=by
 unfold copyP
 split
 ·exact fail_e (by decide)
 ·split
  ·exact fail_e (by decide)
  ·assumption
theorem copyP_go {bs:List UInt8} {most:Int} {s:RS} {q:Nat} {ds:List Int} (hq:q < 286) (h:(getP bs s (lenOf (q - 257)).2).2.e=0):copyP bs most s q (some ds)=cpB bs most (getP bs s (lenOf (q - 257)).2).2 ((lenOf (q - 257)).1+(getP bs s (lenOf (q - 257)).2).1) (some ds):=by
 unfold copyP
 rw [if_neg (by omega),if_pos h]
theorem copies_err {most:Int} {s:RS} {len dist:Nat} (h:¬ s.e=0):¬ (copiesP most s len dist).e=0:=by
 unfold copiesP
 have h4:¬ (if s.out.length < dist then s.fail 1 else s).e=0:=by
  split
  ·exact fun hh=>h (fail_e0 hh)
  ·exact h
 rw [cpyF_err h4]
 exact h4
theorem cpB_bad {bs:List UInt8} {most:Int} {s:RS} {len:Nat} {ds:List Int} (h:¬ ((nextP bs ds s).2.e=0∧(nextP bs ds s).1 < 30)):¬ (cpB bs most s len (some ds)).e=0:=by
 rw [cpB]
 by_cases h1:(nextP bs ds s).2.e=0
 ·rw [if_pos ⟨h1,by have:¬ (nextP bs ds s).1 < 30:=fun hh=>h ⟨h1,hh⟩;omega⟩]
  exact fail_e (by decide)
 ·rw [if_neg (fun hh=>h1 hh.1)]
  exact copies_err (getP_err h1)
theorem cpB_go {bs:List UInt8} {most:Int} {s:RS} {len:Nat} {ds:List Int} (h1:(nextP bs ds s).1 < 30):cpB bs most s len (some ds)=copiesP most (getP bs (nextP bs ds s).2 (distOf (nextP bs ds s).1.toNat).2).2 len ((distOf (nextP bs ds s).1.toNat).1+(getP bs (nextP bs ds s).2 (distOf (nextP bs ds s).1.toNat).2).1):=by
 rw [cpB,if_neg (by omega)]
end Go.Proofs.YteoolehdomjkkaaGreat

/- flate: the document's reader of blocks: bits got, a byte given out. -/
namespace Go.Proofs.YteoolehdomjkkaaGreat
set_option linter.all false
open Go.RowKit
/-- The document's reader of blocks: how far it has come, what came out. -/
structure FI (w:World) (r g:Nat) (A:Option Addr) (n c P:Nat) (bs:List UInt8) (vo:Value) (out:List UInt8) (most:Int):Prop where
 arr:Arr w r [.pointer (some ⟨g,0,none⟩),vo,.int .i64 most]
 rd:Arr w g (rdr A n c P)
 rb:RdB w g A n bs
 own:ownB w (r+1) vo out
 gr:g < r
 fit:P≤8 * n
 big:n≤1000000
section
variable {w w' : World} {r g : Nat} {A : Option Addr} {n c P P' : Nat} {bs : List UInt8} {vo : Value} {out : List UInt8} {most : Int}
theorem FI.drewN (h:FI w r g A n c P bs vo out most) (q:Nat):FI (w.drewN q) r g A n c P bs vo out most :=
 ⟨h.arr.drewN q,h.rd.drewN q,h.rb.blw ((bdrewN (Below.refl g w) q)),h.own.drewN q,h.gr,h.fit,h.big⟩
theorem FI.moved (h:FI w r g A n c P bs vo out most) (hA:Arr w' g (rdr A n c P')) (hg:w.grownBy w' (some g)) (hf:P'≤8 * n):FI w' r g A n c P' bs vo out most:=by
 have hgr:=h.gr
 refine ⟨h.arr.gro hg (by omega),hA,h.rb.blw (below_gb hg (Nat.le_of_lt h.rd.lt) (Nat.le_refl _)),World.ownsRow.kept h.own hg ?_,hgr,hf,h.big⟩
 cases e:vo.ownBlock with
 | none=>exact .inl rfl
 | some k=>exact .inr (fun e2=>by injection e2 with e2;have:=(World.ownsRow.lt h.own k e).1;omega)
theorem FI.later (h:FI w r g A n c P bs vo out most) (hb:Below w.heap.size w w'):FI w' r g A n c P bs vo out most :=
 ⟨h.arr.later hb,h.rd.later hb,h.rb.blw (hb.mono (Nat.le_of_lt h.rd.lt)),ownB.later h.own hb,h.gr,h.fit,h.big⟩
/-- A byte appended: what stands behind the store. -/
theorem FI.gave {w3:World} {x:UInt8} {o:Obj} {v1:Value} (h:FI w r g A n c P bs vo out most) (hown:ownB w3 (r+1) v1 (out ++ [x])) (hgb:(w.alloc o).grownBy w3 vo.ownBlock) (hbl:Below (r+1) (w.alloc o) w3) (hat:v1.ownBlock=vo.ownBlock∨v1.ownBlock=some (w.alloc o).heap.size) :
  FI (w3.setCell ⟨r,1,none⟩ v1) r g A n c P bs v1 (out ++ [x]) most∧RFr w (w3.setCell ⟨r,1,none⟩ v1) r g vo v1∧w3.cell? ⟨r,1,none⟩=some vo∧w3.frozen? ⟨r,1,none⟩=false:=by
 have hgr:=h.gr
 have HF3:=(RFr.grown (r:=r) (g:=g) o hgb hat)
 have HA3:=(h.arr.alloc o).blw hbl (Nat.lt_succ_self r)
 have HG3:=(h.rd.alloc o).blw hbl (by omega)
 have HB3:=RdB.blw (Rd.alloc h.rb (by have:=h.rd.lt;omega) o) (hbl.mono (by omega))
 exact ⟨⟨HA3.set 1 _,HG3.far (p:=⟨r,1,none⟩) (by show r ≠ g;omega) _,HB3.blw ((Below.refl g w3).setCell (p:=⟨r,1,none⟩) (by show g≤r;omega) _),ownB.far hown (g:=r) (ownB_ne hown (Nat.lt_succ_self r)) 1 _,hgr,h.fit,h.big⟩,HF3.set1 1 _,HA3.cell (k:=1) rfl,HA3.frozen 1⟩
end
section
variable (r g n c P m : Nat) (A : Option Addr) (bs : List UInt8) (vo : Value) (out : List UInt8) (most : Int) (M : Int) (w : World)
set_option maxRecDepth 100000 in
set_option maxHeartbeats 1600000 in
theorem iget_ok (hM:M=(m:Int)) (h:FI w r g A n c P bs vo out most) (hm:m≤24) (hfit:P+m≤8 * n) :
  Calls Tryz.prog 130 #[.pointer (some ⟨r,0,none⟩),.int .i64 M] w fun e w'=>e=.returned (.tuple #[.int .i64 ((getV bs P m:Nat):Int),.bool true])∧FI w' r g A n c (P+m) bs vo out most∧RFr w w' r g vo vo:=by
 subst hM
 have H:=Lib.hid h
 have HG:=Lib.hid (getR_any g g n c P m A bs w h.rd h.rb (Nat.le_refl _) (by have:=h.big;omega) h.fit hm hfit)
 have c0:=h.arr.cell (k:=0) rfl
 have hv:=getV_lt bs P m
 have hv2:getV bs P m < 16777216:=Nat.lt_of_lt_of_le hv (Nat.pow_le_pow_right (by decide) hm)
 clear h hv
 generalize getV bs P m=v at *
 go_enter Tryz.func130,Tryz.ntmps130
 go_wp2_with (go_at_call 165;(with_reducible refine HG.out.mono ?_);go_must (rintro e w1 ⟨rfl,ha1,hg1⟩;have HA1:=Lib.hid ha1;have HG1:=Lib.hid hg1;clear ha1 hg1))
 go_ret2
 exact ⟨rfl,H.out.moved HA1.out HG1.out hfit,RFr.ofG HG1.out r vo⟩
set_option maxRecDepth 100000 in
set_option maxHeartbeats 1600000 in
theorem iget_bad (hM:M=(m:Int)) (h:FI w r g A n c P bs vo out most) (hm:m≤24) (hfit:¬ P+m≤8 * n) :
  Calls Tryz.prog 130 #[.pointer (some ⟨r,0,none⟩),.int .i64 M] w fun e w'=>e=.returned (.tuple #[.int .i64 0,.bool false])∧FI w' r g A n c P bs vo out most∧RFr w w' r g vo vo:=by
 subst hM
 have H:=Lib.hid h
 have HG:=Lib.hid (getR_short g n c P m A w h.rd (by have:=h.big;omega) h.fit hm (by omega))
 have c0:=h.arr.cell (k:=0) rfl
 clear h
 go_enter Tryz.func130,Tryz.ntmps130
 go_wp2_with (go_at_call 165;(with_reducible refine HG.out.mono ?_);go_must (rintro e w1 ⟨rfl,hg1⟩;have HG1:=Lib.hid (gb_none hg1 g);have HA1:=Lib.hid (H.out.rd.gbN hg1);clear hg1))
 go_ret2
 exact ⟨rfl,H.out.moved HA1.out HG1.out H.out.fit,RFr.ofG HG1.out r vo⟩
end
end Go.Proofs.YteoolehdomjkkaaGreat
