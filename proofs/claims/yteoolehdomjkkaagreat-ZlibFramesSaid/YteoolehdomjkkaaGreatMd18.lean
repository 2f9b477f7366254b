/- Merged: Lz1, Lz0, In1, In2, Lz2. -/
import Derived.Maps.OwnSet
import Derived.DeepKeys5
import Derived.Test.YteoolehdomjkkaaGreatMd17
import Derived.Test.YteoolehdomjkkaaGreatMd01
import Derived.Test.YteoolehdomjkkaaGreatMd06
import Derived.Test.YteoolehdomjkkaaGreatMd12
/- lz: how many bytes from two places on are the same. -/
namespace Go.Proofs.YteoolehdomjkkaaGreat
set_option linter.all false
open Go.RowKit
set_option maxRecDepth 100000 in
set_option maxHeartbeats 1600000 in
theorem common_any (B n c i k:Nat) (A:Option Addr) (bs:List UInt8) (w:World) (h:RdB w B A n bs) (hik:i≤k) (hkn:k≤n) (hn:n≤40000) :
  Calls Tryz.prog 150 #[.slice A n c,.int .i64 (i:Int),.int .i64 (k:Int)] w fun e w'=>e=.returned (.int .i64 ((comP bs i k:Nat):Int))∧∃ q,w'=w.drewN q:=by
 have HR:=Lib.hid h
 have hl:=h.len
 have HC0:Hid (comF bs i k (258 - 0) 0=comP bs i k):=(show _=_ from rfl)
 clear h
 go_enter Tryz.func150,Tryz.ntmps150
 go_wp2_with fail
 go_loopw [7] (fun vm wr=>∃ m:Nat,m≤258∧vm=.int .i64 m∧Hid (comF bs i k (258 - m) m=comP bs i k)∧Hid (∃ q,wr=w.drewN q)) (fun vm _=>258 - (intOf vm).toNat)
 case atStart=>exact ⟨0,by omega,rfl,HC0,(show ∃ q,_ from ⟨0,rfl⟩)⟩
 case round =>
  clear HC0
  obtain ⟨m,hm,rfl,HC,HW⟩:=hrel
  have HRr:Hid (RdB wr B A n bs):=(show RdB _ _ _ _ _ by obtain ⟨q,rfl⟩:=HW.out;exact Rd.drewN HR.out q)
  have HWN:∀ nq,Hid (∃ q,wr.drewN nq=w.drewN q):=fun nq=>(show ∃ q,_ by obtain ⟨q,rfl⟩:=HW.out;exact ⟨q+nq,by rw [World.drewN_drewN]⟩)
  have HS:Hid (m < 258→comF bs i k (258 - m) m=if k+m < bs.length∧bs.getD (i+m) 0=bs.getD (k+m) 0 then comF bs i k (258 - (m+1)) (m+1) else m):=(show _→_ from fun h=>by rw [show 258 - m=(258 - (m+1))+1 by omega];rfl)
  have hs1:IntKind.i64.wrap ((k:Int)+(m:Int))=((k+m:Nat):Int):=by have:=wrap_i64_lt (k+m) (by omega);simpa using this
  have hs2:IntKind.i64.wrap ((i:Int)+(m:Int))=((i+m:Nat):Int):=by have:=wrap_i64_lt (i+m) (by omega);simpa using this
  by_cases h1:m < 258
  ·have h1i:(m:Int) < 258:=by omega
   by_cases h2:k+m < n
   ·have h2i:(k:Int)+(m:Int) < (n:Int):=by omega
    have h3i:(i:Int)+(m:Int) < (n:Int):=by omega
    obtain ⟨b,o,x,rfl,hb,HX,e1⟩:=HRr.out.byte (k:=i+m) (by omega)
    obtain ⟨b2,o2,y,hA2,hb2,HY,e2⟩:=HRr.out.byte (k:=k+m) h2
    injection hA2 with hA2
    injection hA2 with hA2 hA3
    subst hA2 hA3
    have HS2:=Lib.hid (HS.out h1)
    rw [getD_at HX.out,getD_at HY.out] at HS2
    have x8:=x.toNat_lt
    have y8:=y.toNat_lt
    obtain ⟨p,hp⟩:∃ p,i+m=p:=⟨_,rfl⟩
    obtain ⟨r,hr⟩:∃ r,k+m=r:=⟨_,rfl⟩
    have hp2:(i:Int)+(m:Int)=(p:Int):=by omega
    have hr2:(k:Int)+(m:Int)=(r:Int):=by omega
    have hp3:(p:Int) < (n:Int):=by omega
    have hr3:(r:Int) < (n:Int):=by omega
    have hpn:p < n:=by omega
    have hrn:r < n:=by omega
    have hb3:k+m < bs.length:=by omega
    rw [hp] at e1 hs2
    rw [hr] at e2 hs1
    by_cases hxy:x=y
    ·have d1:((x.toNat:Int) == (y.toNat:Int))=true:=by rw [hxy];exact beq_self_eq_true _
     rw [if_pos ⟨hb3,hxy⟩,HC.out] at HS2
     clear HX HY HS
     go_wp2_with fail
     go_quiet (fail)
     go_wp2_with fail
     go_roundw
     case rel=>exact ⟨m+1,by omega,by go_num,HS2.out.symm,HWN _⟩
     case measure=>simp [intOf];omega
    ·have d1:((x.toNat:Int) == (y.toNat:Int))=false:=beq_eq_false_iff_ne.2 (fun e=>hxy (UInt8.toNat_inj.1 (by omega)))
     rw [if_neg (fun e=>hxy e.2),HC.out] at HS2
     clear HX HY HS
     go_wp2_with fail
     go_quiet (fail)
     go_wp2_with fail
     go_ret
     exact ⟨by rw [HS2.out];rfl,(HWN _).out⟩
   ·have h2i:¬ (k:Int)+(m:Int) < (n:Int):=by omega
    have HS2:=Lib.hid (HS.out h1)
    rw [if_neg (fun e=>h2 (hl ▸ e.1)),HC.out] at HS2
    obtain ⟨r,hr⟩:∃ r,k+m=r:=⟨_,rfl⟩
    have hr2:(k:Int)+(m:Int)=(r:Int):=by omega
    have hr3:¬ (r:Int) < (n:Int):=by omega
    have hrn:¬ r < n:=by omega
    have hrn2:n≤r:=by omega
    have hr4:decide ((r:Int) < (n:Int))=false:=decide_eq_false hr3
    rw [hr] at hs1
    clear HS hs2
    go_wp2_with fail
    go_quiet (fail)
    go_wp2_with fail
    go_ret
    exact ⟨by rw [HS2.out];rfl,(HWN _).out⟩
  ·obtain rfl:m=258:=by omega
   have h1i:¬ (258:Int) < 258:=by omega
   have HS2:Hid (comP bs i k=258):=(show _=_ by rw [← HC.out];rfl)
   clear HS
   go_wp2_with fail
   go_quiet (fail)
   go_wp2_with fail
   go_ret
   exact ⟨by rw [HS2.out];rfl,(HWN _).out⟩
end Go.Proofs.YteoolehdomjkkaaGreat

/- lz: a map of places by three bytes. -/
namespace Go.Proofs.YteoolehdomjkkaaGreat
set_option linter.all false
open Go.RowKit Go.Maps Go.WideElems Go.WideShapes
abbrev MD3:=DataW Value
/-- Three bytes as a value. -/
def triV (t:UInt8 × UInt8 × UInt8):Value:=.agg #[.int .u8 (t.1.toNat:Int),.int .u8 (t.2.1.toNat:Int),.int .u8 (t.2.2.toNat:Int)]
theorem triV_inj {s t:UInt8 × UInt8 × UInt8} (h:triV s=triV t):s=t:=by
 obtain ⟨a,b,c⟩:=s
 obtain ⟨d,e,f⟩:=t
 simp only [triV,Value.agg.injEq,Array.mk.injEq,List.cons.injEq,Value.int.injEq,and_true,true_and,Int.natCast_inj,UInt8.toNat_inj] at h
 obtain ⟨h1,h2,h3⟩:=h
 subst h1 h2 h3
 rfl
/-- An element reads as itself. -/
def held3 (v:Value):Option (MD3 × List MemPlace):=some (.held v,[])
theorem keyed3:Keyed Tryz.prog 183:=Keyed.of_law (deep_law_gate (by kernel_rfl) (of_decide_eq_true (by kernel_rfl)) (of_decide_eq_true (by kernel_rfl)) (by kernel_rfl) (by kernel_rfl))
theorem zeroI0 (w:World):(zeroValue 3).run Tryz.prog w=.ok (.int .i64 0) w:=by kernel_rfl
theorem key3_gen {P:Program} {k e:TypeId} {n:Nat} (hu:P.underlying k=some (.array 3 e)) (he:P.underlying e=some (.int .u8)) (hk:P.keyType k=true) (hc:P.cellsOf k=3) (hc1:P.cellsOf e=1) (hs:P.types.size=n+1) (a b c:UInt8) :
  ∃ l,keyOf P k (.agg #[.int .u8 (a.toNat:Int),.int .u8 (b.toNat:Int),.int .u8 (c.toNat:Int)])=some l:=by
 have hf:Value.formed P k (.agg #[.int .u8 (a.toNat:Int),.int .u8 (b.toNat:Int),.int .u8 (c.toNat:Int)])=true:=by simp [Value.formed,hu,hc]
 have hw:∀ a:UInt8,P.keyLits (n+1) e [.int .u8 (a.toNat:Int)]=some [.int .u8 (a.toNat:Int)]:=fun a=>by
  have h1:=a.toNat_lt
  have h2:(Lit.int .u8 (a.toNat:Int)).wf=true:=by
   simp [Lit.wf,IntKind.min,IntKind.max,IntKind.bits,IntKind.signed];omega
  rw [Program.keyLits.eq_def]
  simp [he,h2]
 have hL:P.keyLits (P.types.size+1) k [.int .u8 (a.toNat:Int),.int .u8 (b.toNat:Int),.int .u8 (c.toNat:Int)]=some [.int .u8 (a.toNat:Int),.int .u8 (b.toNat:Int),.int .u8 (c.toNat:Int)]:=by
  rw [hs]
  rw [Program.keyLits.eq_def]
  simp [hu,hc,hc1,List.range,List.range.loop,hw]
 have hL2:keyOf P k (.agg #[.int .u8 (a.toNat:Int),.int .u8 (b.toNat:Int),.int .u8 (c.toNat:Int)])=(P.keyLits (P.types.size+1) k [.int .u8 (a.toNat:Int),.int .u8 (b.toNat:Int),.int .u8 (c.toNat:Int)]).map fun ls=>.string (keyBytes ls):=by
  unfold keyOf
  rw [hu]
  simp only [hk,hf,Bool.and_self,if_true,Value.cells]
 exact ⟨_,by rw [hL2,hL];rfl⟩
theorem key3_is (t:UInt8 × UInt8 × UInt8):∃ l,keyOf Tryz.prog 183 (triV t)=some l :=
 key3_gen (e:=5) (n:=Tryz.prog.types.size - 1) (by kernel_rfl) (by kernel_rfl) (by kernel_rfl) (by kernel_rfl) (by kernel_rfl) (by kernel_rfl) t.1 t.2.1 t.2.2
/-- Block b is a map that says f of three bytes. -/
def isM3 (w:World) (b m:Nat) (f:UInt8 × UInt8 × UInt8→Nat):Prop :=
 ∃ D:MD3,w.ownsMap Tryz.prog 183 held3 b m D∧∀ t l,keyOf Tryz.prog 183 (triV t)=some l→D.atKey l (.held (.int .i64 0))=.held (.int .i64 ((f t:Nat):Int))
theorem isM3.made (w:World):isM3 (w.alloc (.map #[] 0)) w.heap.size 0 (fun _=>0) :=
 ⟨_,World.ownsMap_made w Tryz.prog 183 held3,fun t l _=>rfl⟩
theorem isM3.lt {w:World} {b m:Nat} {f:UInt8 × UInt8 × UInt8→Nat} (h:isM3 w b m f):b < w.heap.size:=by
 obtain ⟨D,h,_⟩:=h
 exact h.lt
theorem isM3.keep {w w':World} {b m:Nat} {f:UInt8 × UInt8 × UInt8→Nat} (h:isM3 w b m f) (hb:w'.heap[b]?=w.heap[b]?):isM3 w' b m f:=by
 obtain ⟨D,⟨es,clock,e,F,hs,hD⟩,h2⟩:=h
 exact ⟨D,⟨es,clock,hb.trans e,F,hs,hD⟩,h2⟩
set_option maxRecDepth 100000 in
theorem isM3.look {w:World} {b m:Nat} {f:UInt8 × UInt8 × UInt8→Nat} (h:isM3 w b m f) (t:UInt8 × UInt8 × UInt8) :
  (Instr.lookup 117 (.map (some b)) (triV t) false).run Tryz.prog w=.ok (.int .i64 ((f t:Nat):Int)) w:=by
 obtain ⟨D,hD,h1⟩:=h
 obtain ⟨l,hl⟩:=key3_is t
 obtain ⟨v,ps,hrun,hv⟩:=hD.lookup keyed3 Tryz.underlying117 (zeroI0 w) (zd:=.held (.int .i64 0)) (zp:=[]) rfl hl
 have e0:DataW.held v=D.atKey l (.held (.int .i64 0)):=congrArg Prod.fst (Option.some.inj hv)
 rw [h1 t l hl] at e0
 injection e0 with e0
 rw [hrun,e0]
def updT (f:UInt8 × UInt8 × UInt8→Nat) (t:UInt8 × UInt8 × UInt8) (v:Nat):UInt8 × UInt8 × UInt8→Nat:=fun s=>if t=s then v else f s
set_option maxRecDepth 100000 in
theorem isM3.store {w:World} {b m:Nat} {f:UInt8 × UInt8 × UInt8→Nat} (h:isM3 w b m f) (hm:m≤1000000) (t:UInt8 × UInt8 × UInt8) (v:Nat) :
  ∃ w',(Instr.mapUpdate 117 (.map (some b)) (triV t) (.int .i64 (v:Int))).run Tryz.prog w=.ok () w'∧isM3 w' b (m+1) (updT f t v)∧w.grownBy w' (some b):=by
 obtain ⟨D,hD,h1⟩:=h
 obtain ⟨l,hl⟩:=key3_is t
 obtain ⟨w',hrun,hown,ht⟩:=hD.update keyed3 Tryz.underlying117 (by unfold maxLen;omega) hl (val:=.int .i64 (v:Int)) rfl
 refine ⟨w',hrun,⟨_,hown,fun s l2 hl2=>?_⟩,ht⟩
 by_cases e:t=s
 ·subst e
  rw [hl] at hl2
  injection hl2 with hl2
  subst hl2
  rw [Maps.atKey_put_same hD.isMap (keyed3.key hl)]
  unfold updT
  rw [if_pos rfl]
 ·have hne:l2 ≠ l:=fun e2=>by
   subst e2
   exact e (triV_inj (keyed3.inj hl hl2))
  rw [Maps.atKey_put_other hne,h1 s l2 hl2]
  unfold updT
  rw [if_neg e]
end Go.Proofs.YteoolehdomjkkaaGreat

/- flate: a reader of blocks: bits got, bytes given out. -/
namespace Go.Proofs.YteoolehdomjkkaaGreat
set_option linter.all false
open Go.RowKit
/-- A reader of blocks: how far it has come, what came out, its error. -/
structure FR (w:World) (r g:Nat) (A:Option Addr) (n c P:Nat) (bs:List UInt8) (vo:Value) (out:List UInt8) (most e:Int):Prop where
 arr:Arr w r [.pointer (some ⟨g,0,none⟩),vo,.int .i64 most,.int .i64 e]
 rd:Arr w g (rdr A n c P)
 rb:RdB w g A n bs
 own:ownB w (r+1) vo out
 gr:g < r
 fit:P≤8 * n
 big:n≤1000000
/-- What a reader changes: two blocks, its row, new blocks. -/
structure RFr (w w':World) (r g:Nat) (pv pv':Value):Prop where
 os:w'.os=w.os
 tape:w'.tape=w.tape
 output:w'.output=w.output
 size:w.heap.size≤w'.heap.size
 block:∀ k,k < w.heap.size→k ≠ r→k ≠ g→pv.ownBlock ≠ some k→w'.heap[k]?=w.heap[k]?
 own:pv'.ownBlock=pv.ownBlock∨∃ k,w.heap.size≤k∧pv'.ownBlock=some k
section
variable {w w' w'' : World} {r g : Nat} {pv pv' pv'' : Value}
theorem RFr.refl (w:World) (r g:Nat) (pv:Value):RFr w w r g pv pv:=⟨rfl,rfl,rfl,Nat.le_refl _,fun _ _ _ _ _=>rfl,.inl rfl⟩
theorem RFr.trans (h:RFr w w' r g pv pv') (k:RFr w' w'' r g pv' pv''):RFr w w'' r g pv pv'':=by
 refine ⟨k.os.trans h.os,k.tape.trans h.tape,k.output.trans h.output,Nat.le_trans h.size k.size,fun i hi hr hg hp=>?_,?_⟩
 ·refine (k.block i (Nat.lt_of_lt_of_le hi h.size) hr hg ?_).trans (h.block i hi hr hg hp)
  rcases h.own with e | ⟨j,hj,e⟩
  ·rw [e];exact hp
  ·rw [e];intro e2;injection e2 with e2;omega
 ·rcases k.own with e | ⟨j,hj,e⟩
  ·rcases h.own with e2 | ⟨j,hj,e2⟩
   ·exact .inl (e.trans e2)
   ·exact .inr ⟨j,hj,e.trans e2⟩
  ·exact .inr ⟨j,Nat.le_trans h.size hj,e⟩
theorem RFr.ofG (h:w.grownBy w' (some g)) (r:Nat) (pv:Value):RFr w w' r g pv pv :=
 ⟨h.os,h.tape,h.output,h.size,fun k hk _ hg _=>h.block k hk (fun e=>by injection e with e;exact hg e),.inl rfl⟩
theorem RFr.ofB (h:Below w.heap.size w w') (r g:Nat) (pv:Value):RFr w w' r g pv pv:=⟨h.os,h.tape,h.output,h.size,fun k hk _ _ _=>h.block k hk,.inl rfl⟩
theorem RFr.drewN (h:RFr w w' r g pv pv') (q:Nat):RFr w (w'.drewN q) r g pv pv':=⟨h.os,h.tape,h.output,h.size,h.block,h.own⟩
theorem RFr.below {B:Nat} (h:RFr w w' r g pv pv') (hB:B≤w.heap.size) (hr:B≤r) (hg:B≤g) (hp:∀ k,pv.ownBlock=some k→B≤k):Below B w w' :=
 ⟨h.os,h.tape,h.output,h.size,fun k hk=>h.block k (by omega) (by omega) (by omega) (fun e=>by have:=hp k e;omega)⟩
end
theorem FR.drewN {w:World} {r g:Nat} {A:Option Addr} {n c P:Nat} {bs:List UInt8} {vo:Value} {out:List UInt8} {most e:Int} (h:FR w r g A n c P bs vo out most e) (q:Nat):FR (w.drewN q) r g A n c P bs vo out most e :=
 ⟨h.arr.drewN q,h.rd.drewN q,h.rb.blw ((bdrewN (Below.refl g w) q)),h.own.drewN q,h.gr,h.fit,h.big⟩
/-- The bits' reader has moved. -/
theorem FR.moved {w w':World} {r g:Nat} {A:Option Addr} {n c P P':Nat} {bs:List UInt8} {vo:Value} {out:List UInt8} {most e:Int} (h:FR w r g A n c P bs vo out most e) (hA:Arr w' g (rdr A n c P')) (hg:w.grownBy w' (some g)) (hf:P'≤8 * n):FR w' r g A n c P' bs vo out most e:=by
 have hgr:=h.gr
 refine ⟨h.arr.gro hg (by omega),hA,h.rb.blw (below_gb hg (Nat.le_of_lt h.rd.lt) (Nat.le_refl _)),World.ownsRow.kept h.own hg ?_,hgr,hf,h.big⟩
 cases e:vo.ownBlock with
 | none=>exact .inl rfl
 | some k=>exact .inr (fun e2=>by injection e2 with e2;have:=(World.ownsRow.lt h.own k e).1;omega)
set_option maxHeartbeats 1600000 in
theorem rget_ok (r g n c P m:Nat) (A:Option Addr) (bs:List UInt8) (vo:Value) (out:List UInt8) (most:Int) (M:Int) (hM:M=(m:Int)) (w:World) (h:FR w r g A n c P bs vo out most 0) (hm:m≤24) (hfit:P+m≤8 * n) :
  Calls Tryz.prog 96 #[.pointer (some ⟨r,0,none⟩),.int .i64 M] w fun e w'=>e=.returned (.int .i64 ((getV bs P m:Nat):Int))∧FR w' r g A n c (P+m) bs vo out most 0∧RFr w w' r g vo vo:=by
 subst hM
 have H:=Lib.hid h
 have HG:=Lib.hid (get_any g g n c P m A bs w h.rd h.rb (Nat.le_refl _) (by have:=h.big;omega) h.fit hm hfit)
 have c0:=h.arr.cell (k:=0) rfl
 have c3:=h.arr.cell (k:=3) rfl
 have hv:=getV_lt bs P m
 have hv2:getV bs P m < 16777216:=Nat.lt_of_lt_of_le hv (Nat.pow_le_pow_right (by decide) hm)
 clear h hv
 generalize getV bs P m=v at *
 go_enter Tryz.func96,Tryz.ntmps96
 go_wp2_with (go_at_call 143;(with_reducible refine HG.out.mono ?_);go_must (rintro e w1 ⟨rfl,ha1,hg1⟩;have HA1:=Lib.hid ha1;have HG1:=Lib.hid hg1;clear ha1 hg1))
 go_ret
 exact ⟨rfl,H.out.moved HA1.out HG1.out hfit,RFr.ofG HG1.out r vo⟩
theorem alignR_any (g n c P:Nat) (A:Option Addr) (w:World) (h:Arr w g (rdr A n c P)) (hP:P≤8000000) :
  Calls Tryz.prog 144 #[.pointer (some ⟨g,0,none⟩)] w fun e w'=>e=.returned (.tuple #[])∧Arr w' g (rdr A n c (8 * ((P+7) / 8)))∧w.grownBy w' (some g):=by
 have c1:=h.cell (k:=1) rfl
 have f1:=h.frozen 1
 obtain ⟨Q,hQ⟩:∃ Q,(P+7) / 8=Q:=⟨_,rfl⟩
 rw [hQ]
 have e1:((P:Int)+7).tdiv 8=(Q:Int):=by rw [show (P:Int)+7=((P+7:Nat):Int) by omega,← hQ];rfl
 have e4:((P:Int)+7) / 8=(Q:Int):=by omega
 have e2:(Q:Int) * 8=((8 * Q:Nat):Int):=by omega
 have HA:=Lib.hid (h.set 1 (.int .i64 ((8 * Q:Nat):Int)))
 have HG:=Lib.hid (gb_set (o:=1) (gb_refl w (some g)) (.int .i64 ((8 * Q:Nat):Int)))
 have e3:wrap64 ((Q:Int) * 8)=(Q:Int) * 8:=wrap64_id _ (by omega) (by omega)
 have hq8:8 * Q≤8000008:=by omega
 clear h
 go_enter Tryz.func144,Tryz.ntmps144
 go_wp2_with fail
 (try simp only [Exit.inBlock,Exit.then])
 first | (refine bodyPost_ret (results_none rfl _ _ _) rfl ?_) | (refine bodyPost_end (results_none rfl _ _ _) rfl ?_)
 exact ⟨rfl,HA.out,HG.out⟩
end Go.Proofs.YteoolehdomjkkaaGreat

/- flate: a reader of blocks: a byte given out, a stored block. -/
namespace Go.Proofs.YteoolehdomjkkaaGreat
set_option linter.all false
open Go.RowKit
theorem RFr.set1 {w w':World} {r g:Nat} {pv pv':Value} (h:RFr w w' r g pv pv') (i:Nat) (v:Value):RFr w (w'.setCell ⟨r,i,none⟩ v) r g pv pv' :=
 ⟨h.os,h.tape,h.output,by simp;exact h.size,fun k hk hr hg hp=>(Below.heap_setCell _ _ _ _ (fun e=>hr e)).trans (h.block k hk hr hg hp),h.own⟩
theorem RFr.grown {w w':World} {r g:Nat} {pv pv2:Value} (o:Obj) (h:(w.alloc o).grownBy w' pv.ownBlock) (hat:pv2.ownBlock=pv.ownBlock∨pv2.ownBlock=some (w.alloc o).heap.size):RFr w w' r g pv pv2:=by
 refine ⟨h.os,h.tape,h.output,Nat.le_trans (by simp) h.size,fun k hk _ _ hp=>?_,?_⟩
 ·exact (h.block k (by simp;omega) (fun e=>hp e.symm)).trans (heap_alloc_old w o hk)
 ·rcases hat with e | e
  ·exact .inl e
  ·exact .inr ⟨_,by simp,e⟩
theorem RFr.drew0 {w w':World} {r g q:Nat} {pv pv':Value} (h:RFr (w.drewN q) w' r g pv pv'):RFr w w' r g pv pv':=⟨h.os,h.tape,h.output,h.size,h.block,h.own⟩
end Go.Proofs.YteoolehdomjkkaaGreat

/- lz: the places of all three bytes: the next place added. -/
namespace Go.Proofs.YteoolehdomjkkaaGreat
set_option linter.all false
open Go.RowKit
theorem isM3.far {w:World} {b m:Nat} {f:UInt8 × UInt8 × UInt8→Nat} (h:isM3 w b m f) {p:Addr} (hp:p.block ≠ b) (v:Value):isM3 (w.setCell p v) b m f:=h.keep (Below.heap_setCell _ _ _ _ (fun e=>hp e.symm))
theorem isM3.alloc {w:World} {b m:Nat} {f:UInt8 × UInt8 × UInt8→Nat} (h:isM3 w b m f) (o:Obj):isM3 (w.alloc o) b m f:=h.keep (heap_alloc_old w o h.lt)
theorem isM3.more {w:World} {b m m':Nat} {f:UInt8 × UInt8 × UInt8→Nat} (h:isM3 w b m f) (hm:m≤m'):isM3 w b m' f:=by
 obtain ⟨D,h,h2⟩:=h
 exact ⟨D,h.mono hm,h2⟩
/-- Of a block c the map and the places. -/
structure Ch (w:World) (c m i:Nat) (vp:Value) (bs:List UInt8):Prop where
 arr:Arr w c [.map (some m),vp]
 map:isM3 w m i (lastP bs i)
 own:ownI w (c+1) vp (prevL bs i)
 lt:m < c
section
variable {w w' : World} {c m i : Nat} {vp : Value} {bs : List UInt8}
theorem Ch.drewN (h:Ch w c m i vp bs) (q:Nat):Ch (w.drewN q) c m i vp bs:=⟨h.arr.drewN q,h.map.keep rfl,h.own.drewN q,h.lt⟩
theorem Ch.alloc (h:Ch w c m i vp bs) (o:Obj):Ch (w.alloc o) c m i vp bs:=⟨h.arr.alloc o,h.map.alloc o,ownI.alloc h.own o,h.lt⟩
end
theorem last_past {bs:List UInt8} {i:Nat} (h:bs.length < i+3):lastP bs (i+1)=lastP bs i:=by
 funext t
 show (if i+3≤bs.length∧tri bs i=t then i+1 else lastP bs i t)=_
 rw [if_neg (by omega)]
theorem last_upd {bs:List UInt8} {i:Nat} (h:i+3≤bs.length):lastP bs (i+1)=updT (lastP bs i) (tri bs i) (i+1):=by
 funext t
 show (if i+3≤bs.length∧tri bs i=t then i+1 else lastP bs i t)=if tri bs i=t then i+1 else lastP bs i t
 by_cases e:tri bs i=t
 ·rw [if_pos ⟨h,e⟩,if_pos e]
 ·rw [if_neg (fun a=>e a.2),if_neg e]
set_option maxRecDepth 100000 in
set_option maxHeartbeats 3200000 in
theorem adds_short (B n c0 c m i:Nat) (A:Option Addr) (bs:List UInt8) (vp:Value) (w:World) (h:Ch w c m i vp bs) (hr:RdB w B A n bs) (hB:B≤m) (hi:i < n) (hn:n≤40000) (hi3:n < i+3) :
  Calls Tryz.prog 103 #[.pointer (some ⟨c,0,none⟩),.slice A n c0] w fun e w'=>e=.returned (.tuple #[])∧∃ vp',Ch w' c m (i+1) vp' bs∧RFr w w' c m vp vp':=by
 have hf:=h.own.form
 rw [prevL_len] at hf
 obtain ⟨Ap,cp,rfl,-,-,-⟩:=hf
 have H:=Lib.hid h
 have e0:=h.arr.cell (k:=0) rfl
 have e1:=h.arr.cell (k:=1) rfl
 have f1:=h.arr.frozen 1
 have hcw:=h.arr.lt
 have hmw:=h.map.lt
 have hmc:=h.lt
 have hl:=hr.len
 have hi3i:(n:Int) < (i:Int)+3:=by omega
 have HPV:Hid (prevL bs i ++ [0]=prevL bs (i+1)):=(show _=_ by rw [prevL_snoc];unfold prevP;rw [if_pos (by omega)];rfl)
 have HLS:Hid (lastP bs (i+1)=lastP bs i):=(show _=_ from last_past (by omega))
 have HPL:=Lib.hid (prevL_len bs i)
 clear h hr
 go_enter Tryz.func103,Tryz.ntmps103
 go_wp2_with (at_builtin;go_must (refine wpList_appendI rfl (.tmp 20) (.tmp 21) rfl (c+1) _ (prevL bs i) rfl (ownI.alloc H.out.own _) (w.heap.size+1) 1 1 (some ⟨w.heap.size,0,none⟩) [0] rfl (rd_oneI w 0) (by rw [HPL.out];omega) (by rw [World.size_alloc];omega) ?_;intro v1 w3 hown hgb hbl hat;rw [HPV.out] at hown;obtain ⟨A3,c3,rfl,hr3,-,-⟩:=hown.form;clear hr3;have HF3:=Lib.hid (show RFr w w3 c m (.slice Ap i cp) (.slice A3 (prevL bs (i+1)).length c3) from RFr.grown _ hgb hat);have HA3:=Lib.hid (show Arr w3 c [.map (some m),.slice Ap i cp] from (H.out.arr.alloc _).blw hbl (by omega));have HM3:=Lib.hid (show isM3 w3 m i (lastP bs i) from H.out.map.keep ((hbl.block m (by omega)).trans (heap_alloc_old w _ hmw)));have HO3:=Lib.hid hown;have e31:=HA3.out.cell (k:=1) rfl;have f31:=HA3.out.frozen 1;have hcw3:=HA3.out.lt;clear hown hgb hbl hat))
 (try simp only [Exit.inBlock,Exit.then])
 first | (refine bodyPost_ret (results_none rfl _ _ _) rfl ?_) | (refine bodyPost_end (results_none rfl _ _ _) rfl ?_)
 refine ⟨rfl,_,⟨HA3.out.set 1 _,?_,ownI.far HO3.out (ownI.ne HO3.out (by omega)) 1 _,hmc⟩,HF3.out.set1 1 _⟩
 rw [HLS.out]
 exact (HM3.out.far (by show c ≠ m;omega) _).more (Nat.le_succ i)
set_option maxRecDepth 100000 in
set_option maxHeartbeats 3200000 in
theorem adds_full (B n c0 c m i:Nat) (A:Option Addr) (bs:List UInt8) (vp:Value) (w:World) (h:Ch w c m i vp bs) (hr:RdB w B A n bs) (hB:B≤m) (hi:i < n) (hn:n≤40000) (hcap:n≤c0) (hi3:i+3≤n) :
  Calls Tryz.prog 103 #[.pointer (some ⟨c,0,none⟩),.slice A n c0] w fun e w'=>e=.returned (.tuple #[])∧∃ vp',Ch w' c m (i+1) vp' bs∧RFr w w' c m vp vp':=by
 have hf:=h.own.form
 rw [prevL_len] at hf
 obtain ⟨Ap,cp,rfl,-,-,-⟩:=hf
 have H:=Lib.hid h
 have e0:=h.arr.cell (k:=0) rfl
 have e1:=h.arr.cell (k:=1) rfl
 have f1:=h.arr.frozen 1
 have hcw:=h.arr.lt
 have hmw:=h.map.lt
 have hmc:=h.lt
 have hl:=hr.len
 obtain ⟨b,o,rfl,hb,hcell⟩:=hr.at_ (by omega)
 have k0:=hcell i (by omega)
 have k1:=hcell (i+1) (by omega)
 have k2:=hcell (i+2) (by omega)
 rw [← Nat.add_assoc] at k1 k2
 have HT:Hid (tri bs i=(bs[i],bs[i+1],bs[i+2])):=(show _=_ by unfold tri;rw [getD_at (List.getElem?_eq_getElem (by omega)),getD_at (List.getElem?_eq_getElem (by omega)),getD_at (List.getElem?_eq_getElem (by omega))])
 generalize bs[i]=x at *
 generalize bs[i+1]=y at *
 generalize bs[i+2]=z at *
 have hi3i:¬ (n:Int) < (i:Int)+3:=by omega
 have hi4:(0:Int)≤(i:Int)+3∧(i:Int)+3≤(c0:Int):=by omega
 have hi5:¬ c0=i:=by omega
 have HPV:Hid (prevL bs i ++ [((lastP bs i (x,y,z):Nat):Int)]=prevL bs (i+1)):=(show _=_ by rw [prevL_snoc];unfold prevP;rw [if_neg (by omega),HT.out])
 have HLS:Hid (lastP bs (i+1)=updT (lastP bs i) (x,y,z) (i+1)):=(show _=_ by rw [last_upd (by omega),HT.out])
 have HPL:=Lib.hid (prevL_len bs i)
 have hat:∀ (w:World) (a:Option Addr) (l c:Nat),3≤l→(Instr.arrayAt 183 (.slice a l c)).run Tryz.prog w=.ok (.pointer a) w:=fun w a l c hl=>run_arrayAt w 183 _ 3 a l c Tryz.underlying183 hl
 clear h hr hcell
 go_enter Tryz.func103,Tryz.ntmps103
 go_upto_region 4 with (simp only [hat])
 generalize hw1:w.alloc _=w1
 obtain ⟨k5,hk5⟩:∃ b,w.heap.size=b:=⟨_,rfl⟩
 simp only [hk5]
 have HCH:Hid (Ch w1 c m i (.slice Ap i cp) bs):=(show Ch _ _ _ _ _ _ by rw [← hw1];exact H.out.alloc _)
 have HK:Hid (Arr w1 k5 [.int .u8 (x.toNat:Int),.int .u8 (y.toNat:Int),.int .u8 (z.toNat:Int)]):=(show Arr _ _ _ by rw [← hw1,← hk5];exact Arr.new w [.int .u8 (x.toNat:Int),.int .u8 (y.toNat:Int),.int .u8 (z.toNat:Int)] _)
 have HFW:Hid (RFr w w1 c m (.slice Ap i cp) (.slice Ap i cp)):=(show RFr _ _ _ _ _ _ by rw [← hw1];exact RFr.ofB ((Below.refl w.heap.size w).alloc (Nat.le_refl _) _) _ _ _)
 have hsz1:w1.heap.size=k5+1:=by rw [← hw1,World.size_alloc,hk5]
 have hck:c < k5:=by omega
 have HPB:Hid (∀ q,(Value.slice Ap i cp).ownBlock=some q→q < k5):=(show ∀ q,_ from fun q hq=>by have:=(World.ownsRow.lt H.out.own q hq).2;omega)
 clear hw1 e0 e1 f1 k0 k1 k2 hat hk5 H
 have e0:=HCH.out.arr.cell (k:=0) rfl
 have e1:=HCH.out.arr.cell (k:=1) rfl
 have k0:=HK.out.cell (k:=0) rfl
 have k1:=HK.out.cell (k:=1) rfl
 have k2:=HK.out.cell (k:=2) rfl
 have HMD:Hid (isM3 w1.drew m i (lastP bs i)):=(show isM3 _ _ _ _ from HCH.out.map)
 have hq1:(prevL bs i).length+1≤1099511627776:=by rw [HPL.out];omega
 have hckN:¬ c=k5:=by omega
 have hc1:c < w1.heap.size:=by omega
 have hc1N:¬ c=w1.heap.size:=by omega
 have hk1:k5 < w1.heap.size:=by omega
 have hk1N:¬ k5=w1.heap.size:=by omega
 generalize hL:lastP bs i (x,y,z)=L at *
 have hrun:(Instr.lookup 117 (.map (some m)) (.agg #[.int .u8 (x.toNat:Int),.int .u8 (y.toNat:Int),.int .u8 (z.toNat:Int)]) false).run Tryz.prog w1.drew=.ok (.int .i64 (L:Int)) w1.drew:=by rw [← hL];exact HMD.out.look (x,y,z)
 clear hL
 have HOD:Hid (ownI (w1.alloc (.cells #[Value.int .i64 (L:Int)] 3)).drew (c+1) (.slice Ap i cp) (prevL bs i)):=(show ownI _ _ _ _ from HCH.out.own.alloc _)
 have HRD:Hid (RdI (w1.alloc (.cells #[Value.int .i64 (L:Int)] 3)).drew (k5+1+1) (some ⟨k5+1,0,none⟩) 1 [(L:Int)]):=(show RdI _ _ _ _ _ by have:=rd_oneI w1 (L:Int);rw [hsz1] at this;exact this)
 have HAD:Hid (Arr (w1.alloc (.cells #[Value.int .i64 (L:Int)] 3)).drew c [.map (some m),.slice Ap i cp]):=(show Arr _ _ _ from HCH.out.arr.alloc _)
 have HND:Hid (isM3 (w1.alloc (.cells #[Value.int .i64 (L:Int)] 3)).drew m i (lastP bs i)):=(show isM3 _ _ _ _ from HCH.out.map.alloc _)
 have HKD:Hid (Arr (w1.alloc (.cells #[Value.int .i64 (L:Int)] 3)).drew k5 [.int .u8 (x.toNat:Int),.int .u8 (y.toNat:Int),.int .u8 (z.toNat:Int)]):=(show Arr _ _ _ from HK.out.alloc _)
 have hq2:c+1≤(w1.alloc (.cells #[Value.int .i64 (L:Int)] 3)).drew.heap.size:=by show c+1≤(w1.alloc _).heap.size;rw [World.size_alloc];omega
 have hq3:k5 < (w1.alloc (.cells #[Value.int .i64 (L:Int)] 3)).drew.heap.size:=by show k5 < (w1.alloc _).heap.size;rw [World.size_alloc];omega
 have hq4:(Value.slice Ap i cp).ownBlock ≠ some k5:=fun e=>absurd (HPB.out _ e) (Nat.lt_irrefl _)
 have HGR:Hid (∀ (w3:World) (v:Value),(w1.alloc (.cells #[Value.int .i64 (L:Int)] 3)).drew.grownBy w3 (Value.slice Ap i cp).ownBlock→(v.ownBlock=(Value.slice Ap i cp).ownBlock∨v.ownBlock=some (w1.alloc (.cells #[Value.int .i64 (L:Int)] 3)).drew.heap.size)→RFr w w3 c m (.slice Ap i cp) v):=(show ∀ w3 v,_ from fun w3 v hg ha=>RFr.trans HFW.out (by
  have h:=RFr.grown (r:=c) (g:=m) (w:=w1.drew) (.cells #[Value.int .i64 (L:Int)] 3) hg ha
  exact ⟨h.os,h.tape,h.output,h.size,h.block,h.own⟩))
 go_cut [5] (fun v wc=>v=.pointer (some ⟨k5,0,none⟩)∧∃ vp',Hid (Arr wc k5 [.int .u8 (x.toNat:Int),.int .u8 (y.toNat:Int),.int .u8 (z.toNat:Int)])∧Hid (Arr wc c [.map (some m),vp'])∧Hid (isM3 wc m i (lastP bs i))∧Hid (ownI wc (c+1) vp' (prevL bs (i+1)))∧Hid (RFr w wc c m (.slice Ap i cp) vp'))
 case first =>
  go_region_law (first
   | (refine step_appendI rfl (.tmp 36) (.tmp 43) rfl (c+1) _ (prevL bs i) rfl HOD.out (k5+1+1) 1 1 (some ⟨k5+1,0,none⟩) [(L:Int)] rfl HRD.out hq1 hq2 ?_;intro v1 w3 hown hgb hbl hat;rw [HPV.out] at hown;obtain ⟨A3,c3,rfl,hr3,-,-⟩:=hown.form;clear hr3;have HF3:=Lib.hid (HGR.out w3 _ hgb hat);have HA3:=Lib.hid (HAD.out.blw hbl (Nat.lt_succ_self c));have HM3:=Lib.hid (HND.out.keep (hbl.block m (Nat.lt_succ_of_lt hmc)));have HK3:=Lib.hid (show Arr w3 k5 [.int .u8 (x.toNat:Int),.int .u8 (y.toNat:Int),.int .u8 (z.toNat:Int)] from by obtain ⟨ty,hty⟩:=HKD.out;exact ⟨ty,(hgb.block k5 hq3 (fun e=>hq4 e.symm)).trans hty⟩);have HO3:=Lib.hid hown;have e31:=HA3.out.cell (k:=1) rfl;have f31:=HA3.out.frozen 1;have hcw3:=HA3.out.lt;clear hown hgb hbl hat))
  all_goals
   go_wp2_with fail
   go_meet
   case rel=>exact ⟨rfl,_,HK3.out.far (p:=⟨c,1,none⟩) hckN _,HA3.out.set 1 _,HM3.out.far (p:=⟨c,1,none⟩) (fun e=>by have:c=m:=e;omega) _,ownI.far HO3.out (ownI.ne HO3.out (Nat.lt_succ_self c)) 1 _,HF3.out.set1 1 _⟩
 case rest =>
  obtain ⟨rfl,vp',HKC,HAC,HMC,HOC,HFC⟩:=hcut
  clear hrun HOD HRD HAD HND HKD hq2 hq3 hq4 HGR HMD HCH HK HFW e0 e1 k0 k1 k2 hq1
  have e0:=HAC.out.cell (k:=0) rfl
  have k0:=HKC.out.cell (k:=0) rfl
  have k1:=HKC.out.cell (k:=1) rfl
  have k2:=HKC.out.cell (k:=2) rfl
  have HMD:Hid (isM3 wc.drew m i (lastP bs i)):=(show isM3 _ _ _ _ from HMC.out)
  have hq1:i≤1000000:=by omega
  have hq2:IntKind.i64.wrap ((i:Int)+1)=(i:Int)+1:=(by have:=wrap_i64_lt (i+1) (by omega);simpa using this)
  obtain ⟨w8,hrun0,hm8,hg8⟩:=HMD.out.store hq1 (x,y,z) (i+1)
  have hrun:(Instr.mapUpdate 117 (.map (some m)) (.agg #[.int .u8 (x.toNat:Int),.int .u8 (y.toNat:Int),.int .u8 (z.toNat:Int)]) (.int .i64 ((i:Int)+1))).run Tryz.prog wc.drew=.ok () w8:=hrun0
  have HM8:=Lib.hid hm8
  have HG8:Hid (wc.grownBy w8 (some m)):=(show World.grownBy _ _ _ from ⟨hg8.os,hg8.tape,hg8.output,hg8.size,hg8.block⟩)
  clear hrun0 hm8 hg8
  go_upto_region 5 with fail
  go_region_law (fail)
  all_goals
   go_wp2_with fail
   (try simp only [Exit.inBlock,Exit.then])
   first | (refine bodyPost_ret (results_none rfl _ _ _) rfl ?_) | (refine bodyPost_end (results_none rfl _ _ _) rfl ?_)
   have hm8:=HM8.out
   have hg8:=HG8.out
   rw [← HLS.out] at hm8
   refine ⟨rfl,vp',⟨HAC.out.gro hg8 (by omega),hm8,World.ownsRow.kept HOC.out hg8 ?_,hmc⟩,RFr.trans HFC.out (RFr.ofG hg8 c vp')⟩
   have:=ownI.ne HOC.out (show m < c+1 by omega)
   exact .inr this
theorem adds_any (B n c0 c m i:Nat) (A:Option Addr) (bs:List UInt8) (vp:Value) (w:World) (h:Ch w c m i vp bs) (hr:RdB w B A n bs) (hB:B≤m) (hi:i < n) (hn:n≤40000) (hcap:n≤c0) :
  Calls Tryz.prog 103 #[.pointer (some ⟨c,0,none⟩),.slice A n c0] w fun e w'=>e=.returned (.tuple #[])∧∃ vp',Ch w' c m (i+1) vp' bs∧RFr w w' c m vp vp':=by
 by_cases h3:i+3≤n
 ·exact adds_full B n c0 c m i A bs vp w h hr hB hi hn hcap h3
 ·exact adds_short B n c0 c m i A bs vp w h hr hB hi hn (by omega)
end Go.Proofs.YteoolehdomjkkaaGreat
