/- XWlJ -/
import Derived.Test.YtdoanopeejeeiaaMk15
import Derived.Test.YtdoanopeejeeiaaMk16
import Derived.Shelf.Bytes.SlJoin
import Derived.Lib.AppendZerosOnto
namespace Go.Proofs.Ytdoanopeejeeiaa
set_option linter.all false
open Go.RowKit Go.Shelf
def laysJ14_ren:Go.Shelf.Ren:=⟨fun | 14=>57 | 15=>60 | n=>n,fun | 0=>0 | 3=>3 | 4=>4 | 9=>9 | 20=>20 | 22=>36 | 26=>33 | 5=>5 | n=>n,fun | n=>n⟩
theorem laysJ14:Go.Proofs.SlLaysJ.n14 Try.prog laysJ14_ren:={
 mixed:=by kernel_rfl
 f14:=Try.func57.trans (congrArg some (by kernel_rfl))
 f15:=Try.func60.trans (congrArg some (by kernel_rfl))
 t0:=Try.underlying0
 a0:=Try.isAgg0
 z0:=Try.sizeOf0
 v0:=Try.zeroValue0
 t3:=Try.underlying3
 a3:=Try.isAgg3
 z3:=Try.sizeOf3
 v3:=Try.zeroValue3
 t4:=Try.underlying4
 a4:=Try.isAgg4
 z4:=Try.sizeOf4
 v4:=Try.zeroValue4
 t9:=Try.underlying9
 a9:=Try.isAgg9
 z9:=Try.sizeOf9
 v9:=Try.zeroValue9
 t20:=Try.underlying20
 a20:=Try.isAgg20
 z20:=Try.sizeOf20
 v20:=Try.zeroValue20
 t22:=Try.underlying36
 a22:=Try.isAgg36
 z22:=Try.sizeOf36
 v22:=Try.zeroValue36
 t26:=Try.underlying33
 a26:=Try.isAgg33
 z26:=Try.sizeOf33
 v26:=Try.zeroValue33
 t5:=Try.underlying5
 z5:=Try.sizeOf5
 i5:=by kernel_rfl }
theorem holdsB {w:World} {B n c:Nat} {A:Option Addr} {bs:List UInt8} (h:RdB w B A n bs):Lib.HoldsBytes w (.slice A n c) bs:=by
 have hl:=h.len
 subst hl
 refine ⟨A,c,rfl,fun e=>?_,fun a ha i x hx=>?_⟩
 ·subst e
  cases bs with
  | nil=>rfl
  | cons x l=>obtain ⟨b,o,e,-⟩:=h.2 (by simp);cases e
 ·have hi:=(List.getElem?_eq_some_iff.1 hx).1
  obtain ⟨b,o,e,-,hc⟩:=h.2 (by omega)
  rw [ha] at e
  injection e with e
  subst e
  have:=hc i (.int .u8 (x.toNat:Int)) (by simp [cb,hx])
  rw [add_none]
  exact this
theorem freshRd {B:Nat} {w:World} {v:Value} {l:List UInt8} (h:Lib.FreshBytes B w v l):∃ g c,v=.slice (some ⟨g,0,none⟩) l.length c∧B≤g∧l.length≤c∧RdB w (g+1) (some ⟨g,0,none⟩) l.length l:=by
 obtain ⟨g,cap,zs,rfl,hB,hle,-,hz,hr,hb,hc,-⟩:=h
 refine ⟨g,cap,rfl,hB,hle,by rw [cb_length,Nat.mul_one],fun _=>⟨g,0,rfl,Nat.lt_succ_self g,fun j u hu=>?_⟩⟩
 have hj:j < l.length:=by have:=(List.getElem?_eq_some_iff.1 hu).1;rw [cb_length] at this;exact this
 rw [Nat.zero_add,hc j (by omega),← hu]
 have hzj:j < zs.length:=by omega
 have e1:(cb l)[j]?=some (.int .u8 ((l[j]).toNat:Int)):=by simp [cb,hj]
 rw [e1]
 have e2:l[j]?=some (UInt8.ofNat (zs[j]).toNat):=by
  conv=>lhs;rw [← hb]
  unfold Lib.bytesOf
  rw [List.getElem?_map,List.getElem?_take,if_pos hj,List.getElem?_eq_getElem hzj]
  rfl
 rw [List.getElem?_eq_getElem hj] at e2
 injection e2 with e2
 obtain ⟨r1,r2⟩:=hr _ (List.getElem_mem hzj)
 have e3:((UInt8.ofNat (zs[j]).toNat).toNat:Int)=zs[j]:=by
  rw [UInt8.toNat_ofNat']
  omega
 rw [e2,e3]
 simp [List.getD,List.getElem?_eq_getElem hzj]
theorem zeroC (k:Nat):(Builtin.zeroCells (Value.int .u8 0).cells k).toList=cb (List.replicate k 0):=by
 apply List.ext_getElem?
 intro j
 have e:(Value.int .u8 0).cells=#[Value.int .u8 0]:=rfl
 unfold Builtin.zeroCells cb
 rw [e]
 simp only [List.size_toArray,List.length_cons,List.length_nil,Nat.zero_add,Nat.mul_one,Array.toList_map,Array.toList_range,List.getElem?_map,List.map_replicate,Nat.mod_one]
 by_cases h:j < k
 ·rw [List.getElem?_range h,List.getElem?_replicate,if_pos h]
  rfl
 ·rw [List.getElem?_eq_none (by simp;omega),List.getElem?_eq_none (by simp;omega)]
  rfl
set_option maxRecDepth 100000 in
/-- append of a make, upon a row of which a mark beyond its end is frozen. -/
theorem run_append_markZ (w:World) (t2:TypeId) (g n cap:Nat) (xs:List UInt8) (h:RowM w g n cap xs) (k:Nat) (hb:n+k≤140737488355328) :
  ∃ b c' w',(Builtin.append_ #[36,3] t2 #[.slice (some ⟨g,0,none⟩) n cap,.int .i64 (k:Int)]).run Try.prog w=.ok (.slice (some ⟨b,0,none⟩) (n+k) c') w'∧RowM w' b (n+k) c' (xs ++ List.replicate k 0)∧w.grownBy w' (some g)∧(b=g∨b=w.heap.size):=by
 have hrow:=h
 obtain ⟨cur,fz,hg,hfz,hcs,hn,hxl,hxs⟩:=h
 obtain ⟨i0,hi,hz0,hz1,hz2⟩:=info_parts Try.info_u8
 have hlx:(cb xs).length=n:=by rw [cb_length];exact hxl
 have hw:IntKind.i64.wrap (k:Int)=k:=by rw [IntKind.wrap_i64];omega
 have hnl:(cb (List.replicate k (0:UInt8))).length=k:=by rw [cb_length,List.length_replicate]
 by_cases hroom:n+k≤cap
 ·have hst:=storeCells_mark Try.prog g (n * i0.size) 5 fz (cb (List.replicate k 0)) 0 cur w hg (by rcases hfz with h | h;exact .inl h;exact .inr (by rw [hz1,hnl];omega)) (by rw [hz1,hnl];omega) (cb_one _)
  simp only [Nat.add_zero] at hst
  refine ⟨g,cap,w.setRow g (cur.toList.take (n * i0.size) ++ cb (List.replicate k 0) ++ cur.toList.drop (n * i0.size+(cb (List.replicate k (0:UInt8))).length)).toArray,?_,?_,⟨rfl,rfl,rfl,by simp,fun k _ hk=>setRow_other w g k _ (fun e=>hk (by rw [e]))⟩,.inl rfl⟩
  ·have hneg:¬ ((k:Int) < 0):=by omega
   have h48i:¬ (281474976710656 < (k:Int) * (i0.bytes:Int)):=by rw [hz2];omega
   rcases Nat.eq_zero_or_pos k with h0 | h0
   ·subst h0
    have hw0:IntKind.i64.wrap 0=0:=by decide
    have:(w.setRow g (cur.toList.take (n * i0.size) ++ cb (List.replicate 0 0) ++ cur.toList.drop (n * i0.size+(cb (List.replicate 0 (0:UInt8))).length)).toArray)=w:=by
     simp only [List.replicate_zero,cb,List.map_nil,List.append_nil,List.length_nil,Nat.add_zero,List.take_append_drop,Array.toArray_toList]
     exact setRow_self w g cur _ _ hg
    rw [this]
    simp [Builtin.append_,run_underlying Try.underlying36,run_underlying Try.underlying3,sizeOf,typeInfo,hi,asInt,asIntOf,hw0,hroom,storeCells]
    intro hx
    omega
   ·have hk:k ≠ 0:=by omega
    have hst':=hst
    simp only [hz1,Nat.mul_one] at hst'
    simp [Builtin.append_,run_underlying Try.underlying36,run_underlying Try.underlying3,sizeOf,typeInfo,zeroValue,hi,hz0,hz1,asInt,asIntOf,hw,hneg,h48i,hk,hroom,Addr.add_lit,zeroC,hst']
  ·refine ⟨_,fz,setRow_heap w g cur _ _ _ hg,hfz,?_,hroom,by rw [List.length_append,hxl,List.length_replicate],?_⟩
   ·simp only [List.size_toArray,List.length_append,List.length_take,List.length_drop,Array.length_toList,hz1,hnl]
    omega
   rw [hz1,Nat.mul_one,hxs]
   show ((cb xs ++ cb (List.replicate k 0)) ++ _).take (n+k)=cb (xs ++ List.replicate k 0)
   rw [cb_append,← hlx,← hnl,← List.length_append]
   simp only [hnl]
   exact List.take_left
 ·have hold:(Builtin.firstCells i0.size n (.slice (some ⟨g,0,none⟩) n cap)).run Try.prog w.drew=.ok (cb xs).toArray w.drew :=
   run_firstCells_some (P:=Try.prog) w.drew i0.size n ⟨g,0,none⟩ n cap (cb xs) (by rw [hz1,hlx,Nat.mul_one]) (fun j u hu=>by
    obtain ⟨b,o,e,_,hc⟩:=(rd_row hg hxs hxl).2 (by
     have:=(List.getElem?_eq_some_iff.1 hu).1
     omega)
    injection e with e
    injection e with e1 e2
    subst e1 e2
    rw [add_none]
    exact hc j u hu)
  have hr2:=Lib.run_append_grow_zeros (P:=Try.prog) w 36 3 t2 5 i0 _ .i64 .i64 Try.underlying36 Try.underlying3 hi hz0 (some ⟨g,0,none⟩) n cap (cb xs) hold k (by omega) (by omega) (by omega) (by omega) (by rw [hz2];omega) (growslice_fits (by omega) (by rw [hz2];omega))
  refine ⟨_,_,_,hr2,?_,⟨rfl,rfl,rfl,by simp,fun k hk _=>heap_alloc_old w.drew _ hk⟩,.inr rfl⟩
  have hge:=grownCap_ge w (n+k) cap 5
  refine ⟨_,_,heap_alloc_new w.drew _,.inl rfl,?_,hge,by rw [List.length_append,hxl,List.length_replicate],?_⟩
  ·have hz3:(Value.int IntKind.u8 0).cells.size=1:=rfl
   simp only [Array.size_append,List.size_toArray,size_zeroCells,hz3,hlx]
   omega
  rw [Array.toList_append,Array.toList_append,zeroC]
  show ((cb xs ++ cb (List.replicate k 0)) ++ _).take (n+k)=cb (xs ++ List.replicate k 0)
  rw [cb_append,← hlx,← hnl,← List.length_append]
  simp only [hnl]
  exact List.take_left
theorem wpList_appendZ {w:World} {ops:Array Oper} {rest:List Oper} {o:Oper} {a:Act} {Q:Exit→Act→World→Prop} (hgd:o.guard=none) (s x:Operand)
  (ho:o.op=.call { callee:=.builtin .append,args:=#[s,x],argTypes:=#[36,3] })
  (g n cap:Nat) (xs:List UInt8) (hs:a.eval s=.slice (some ⟨g,0,none⟩) n cap) (hrow:RowM w g n cap xs) (k:Nat) (hx:a.eval x=.int .i64 (k:Int)) (hb:n+k≤140737488355328)
  (h:∀ b c' w',RowM w' b (n+k) c' (xs ++ List.replicate k 0)→w.grownBy w' (some g)→(b=g∨b=w.heap.size)→wpList Try.prog ops Q rest (a.put o.dst (.slice (some ⟨b,0,none⟩) (n+k) c')) w') :
  wpList Try.prog ops Q (o :: rest) a w:=by
 refine wpList_plain hgd fun K hK=>?_
 obtain ⟨b,c',w',hrun,h2,h3,h4⟩:=run_append_markZ w o.type g n cap xs hrow k hb
 unfold Oper.wp execOp
 simp only [ho,resolve,invoke,builtin,Sem.run_bind,Sem.run_pure,Result.andThen_ok,List.map_toArray,List.map_cons,List.map_nil,hs,hx,hrun]
 exact hK _ _ (h b c' w' h2 h3 h4)
end Go.Proofs.Ytdoanopeejeeiaa

