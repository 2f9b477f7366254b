/- XArr XLz0 -/
import Derived.Test.YteoolehdomjkkaaGreatMe05
import Derived.Maps.OwnSet
import Derived.DeepKeys5
namespace Go.Proofs.YteoolehdomjkkaaGreat
set_option linter.all false
open Go.RowKit
/-- Block g is an array variable that holds cs. -/
def Arr (w:World) (g:Nat) (cs:List Value):Prop:=∃ t,w.heap[g]?=some (.cells cs.toArray t (0,0))
section
variable {w w' : World} {g : Nat} {cs : List Value}
theorem Arr.lt (h:Arr w g cs):g < w.heap.size:=by
 obtain ⟨t,h⟩:=h
 exact (Array.getElem?_eq_some_iff.1 h).1
theorem Arr.cell (h:Arr w g cs) {k:Nat} {v:Value} (hk:cs[k]?=some v):w.cell? ⟨g,k,none⟩=some v:=by
 obtain ⟨t,h⟩:=h
 rw [cell_of_row w g k _ t (0,0) h]
 simpa using hk
theorem Arr.frozen (h:Arr w g cs) (k:Nat):w.frozen? ⟨g,k,none⟩=false:=by
 obtain ⟨t,h⟩:=h
 simp [World.frozen?,h]
theorem Arr.set (h:Arr w g cs) (k:Nat) (v:Value):Arr (w.setCell ⟨g,k,none⟩ v) g (cs.set k v):=by
 obtain ⟨t,h⟩:=h
 refine ⟨t,?_⟩
 rw [setCell_eq_setRow w g k _ t (0,0) v h,setRow_heap w g _ _ t (0,0) h]
 simp
theorem Arr.row (h:Arr w g cs) (ds:List Value):Arr (w.setRow g ds.toArray) g ds:=by
 obtain ⟨t,h⟩:=h
 exact ⟨t,setRow_heap w g _ _ t (0,0) h⟩
theorem Arr.far (h:Arr w g cs) {p:Addr} (hp:p.block ≠ g) (v:Value):Arr (w.setCell p v) g cs:=by
 obtain ⟨t,h⟩:=h
 refine ⟨t,?_⟩
 rw [Below.heap_setCell _ _ _ _ (fun e=>hp e.symm)]
 exact h
theorem Arr.farRow (h:Arr w g cs) {g':Nat} (hp:g' ≠ g) (v:Array Value):Arr (w.setRow g' v) g cs:=by
 obtain ⟨t,h⟩:=h
 refine ⟨t,?_⟩
 rw [setRow_other _ _ _ _ (fun e=>hp e.symm)]
 exact h
theorem Arr.drewN (h:Arr w g cs) (k:Nat):Arr (w.drewN k) g cs:=h
theorem Arr.drew (h:Arr w g cs):Arr w.drew g cs:=h
theorem Arr.alloc (h:Arr w g cs) (o:Obj):Arr (w.alloc o) g cs:=by
 have hl:=h.lt
 obtain ⟨t,h⟩:=h
 exact ⟨t,(heap_alloc_old w o hl).trans h⟩
theorem Arr.new (w:World) (cs:List Value) (t:TypeId):Arr (w.alloc (.cells cs.toArray t)) w.heap.size cs:=⟨t,heap_alloc_new w _⟩
theorem Arr.later (h:Arr w g cs) (hb:Below w.heap.size w w'):Arr w' g cs:=by
 have hl:=h.lt
 obtain ⟨t,h⟩:=h
 exact ⟨t,(hb.block g hl).trans h⟩
theorem Arr.blw {B:Nat} (h:Arr w g cs) (hb:Below B w w') (hg:g < B):Arr w' g cs:=by
 obtain ⟨t,h⟩:=h
 exact ⟨t,(hb.block g hg).trans h⟩
theorem Arr.gro {row:Nat} (h:Arr w g cs) (hb:w.grownBy w' (some row)) (hg:g ≠ row):Arr w' g cs:=by
 have hl:=h.lt
 obtain ⟨t,h⟩:=h
 exact ⟨t,(hb.block g hl (fun e=>hg (by injection e))).trans h⟩
theorem below_setRow {B:Nat} {a w:World} (h:Below B a w) {g:Nat} (hg:B≤g) (cs:Array Value):Below B a (w.setRow g cs) :=
 h.trans ⟨rfl,rfl,rfl,by simp,fun k hk=>setRow_other _ _ _ _ (by omega)⟩
end
theorem step_load_row {P:Program} {w:World} {ops:Array Oper} {o:Oper} {a:Act} {K:Act→World→Prop} {Q:Exit→Act→World→Prop} {E:Prop} (hgd:o.guard=none) (ty:TypeId) (x:Operand) (ho:o.op=.load ty x)
  (g:Nat) (cs:List Value) (hx:a.eval x=.pointer (some ⟨g,0,none⟩)) (h:Arr w g cs) (d:TypeDesc) (hu:P.underlying ty=some d) (hd:(match d with | .struct _ | .array _ _=>true | _=>false)=true) (hi:(P.info? ty).map (·.size)=some cs.length)
  (hK:K (a.put o.dst (.agg cs.toArray)) w):if Region.wanted o (yielded ops a.tmps)=true then Oper.wp P o a w K Q else E:=by
 have hw:Region.wanted o (yielded ops a.tmps)=true:=by simp [Region.wanted,hgd]
 rw [if_pos hw]
 obtain ⟨t,h⟩:=h
 exact wp_load_row ty x ho g hx t _ (0,0) d h hu hd (by simpa using hi) hK
theorem step_store_row {P:Program} {w:World} {ops:Array Oper} {o:Oper} {a:Act} {K:Act→World→Prop} {Q:Exit→Act→World→Prop} {E:Prop} (hgd:o.guard=none) (ty:TypeId) (x y:Operand) (ho:o.op=.store ty x y)
  (g:Nat) (cs ds:List Value) (hx:a.eval x=.pointer (some ⟨g,0,none⟩)) (hy:a.eval y=.agg ds.toArray) (h:Arr w g cs) (hi:(P.info? ty).map (·.size)=some ds.length) (hl:cs.length=ds.length) (h1:∀ v ∈ ds,v.oneCell'=true)
  (hK:K (a.put o.dst undef) (w.setRow g ds.toArray)):if Region.wanted o (yielded ops a.tmps)=true then Oper.wp P o a w K Q else E:=by
 have hw:Region.wanted o (yielded ops a.tmps)=true:=by simp [Region.wanted,hgd]
 rw [if_pos hw]
 obtain ⟨t,h⟩:=h
 exact wp_store_row ty x y ho g ds.toArray hx hy t cs.toArray h (by simpa using hi) (by simpa using hl) (by rw [Array.all_eq_true_iff_forall_mem];intro v hv;exact h1 v (by simpa using hv)) hK
theorem wpList_storeRow {P:Program} {w:World} {ops:Array Oper} {rest:List Oper} {o:Oper} {a:Act} {Q:Exit→Act→World→Prop} (hgd:o.guard=none) (ty:TypeId) (x y:Operand) (ho:o.op=.store ty x y)
  (g:Nat) (cs ds:List Value) (hx:a.eval x=.pointer (some ⟨g,0,none⟩)) (hy:a.eval y=.agg ds.toArray) (h:Arr w g cs) (hi:(P.info? ty).map (·.size)=some ds.length) (hl:cs.length=ds.length) (h1:∀ v ∈ ds,v.oneCell'=true)
  (hK:wpList P ops Q rest (a.put o.dst undef) (w.setRow g ds.toArray)):wpList P ops Q (o :: rest) a w:=by
 obtain ⟨t,h⟩:=h
 exact wpList_store_row hgd ty x y ho g ds.toArray hx hy t cs.toArray h (by simpa using hi) (by simpa using hl) (by rw [Array.all_eq_true_iff_forall_mem];intro v hv;exact h1 v (by simpa using hv)) hK
/-- Two results that are arrays. -/
theorem results_cell2 {P:Program} {fn:Func} {p1 p2:Tmp} {ty1 ty2:TypeId} (h:fn.results=#[.cell p1 ty1,.cell p2 ty2]) (tmps:Array Value) (w:World) (g1 g2:Nat) (cs1 cs2:List Value) (d1 d2:TypeDesc)
  (hp1:tmps.getD p1 undef=.pointer (some ⟨g1,0,none⟩)) (hp2:tmps.getD p2 undef=.pointer (some ⟨g2,0,none⟩)) (h1:Arr w g1 cs1) (h2:Arr w g2 cs2)
  (hu1:P.underlying ty1=some d1) (hd1:(match d1 with | .struct _ | .array _ _=>true | _=>false)=true) (hi1:(P.info? ty1).map (·.size)=some cs1.length)
  (hu2:P.underlying ty2=some d2) (hd2:(match d2 with | .struct _ | .array _ _=>true | _=>false)=true) (hi2:(P.info? ty2).map (·.size)=some cs2.length) :
  (results fn tmps).run P w=.ok (.tuple #[.agg cs1.toArray,.agg cs2.toArray]) w:=by
 obtain ⟨t1,h1⟩:=h1
 obtain ⟨t2,h2⟩:=h2
 have hp1':tmps[p1]?.getD undef=.pointer (some ⟨g1,0,none⟩):=by simpa using hp1
 have hp2':tmps[p2]?.getD undef=.pointer (some ⟨g2,0,none⟩):=by simpa using hp2
 have r1:=run_loadVar_row (P:=P) w g1 t1 ty1 cs1.toArray (0,0) d1 h1 hu1 hd1 (by simpa using hi1)
 have r2:=run_loadVar_row (P:=P) w g2 t2 ty2 cs2.toArray (0,0) d2 h2 hu2 hd2 (by simpa using hi2)
 simp [results,h,hp1',hp2',asAddr,r1,r2]
end Go.Proofs.YteoolehdomjkkaaGreat

/- lz: a map of places by three bytes. -/
namespace Go.Proofs.YteoolehdomjkkaaGreat
set_option linter.all false
open Go.RowKit Go.Maps Go.WideElems Go.WideShapes
abbrev MD3:=DataW Value
/-- Three bytes as a value. -/
def triV (t:UInt8 × UInt8 × UInt8):Value:=.agg #[.int .u8 (t.1.toNat:Int),.int .u8 (t.2.1.toNat:Int),.int .u8 (t.2.2.toNat:Int)]
theorem triV_inj {s t:UInt8 × UInt8 × UInt8} (h:triV s=triV t):s=t:=by
 obtain ⟨a,b,c⟩:=s
 obtain ⟨d,e,f⟩:=t
 simp only [triV,Value.agg.injEq,Array.mk.injEq,List.cons.injEq,Value.int.injEq,and_true,true_and,Int.natCast_inj,UInt8.toNat_inj] at h
 obtain ⟨h1,h2,h3⟩:=h
 subst h1 h2 h3
 rfl
/-- An element reads as itself. -/
def held3 (v:Value):Option (MD3 × List MemPlace):=some (.held v,[])
theorem keyed3:Keyed Tryz.prog 183:=Keyed.of_law (deep_law_gate (by kernel_rfl) (of_decide_eq_true (by kernel_rfl)) (of_decide_eq_true (by kernel_rfl)) (by kernel_rfl) (by kernel_rfl))
theorem zeroI0 (w:World):(zeroValue 3).run Tryz.prog w=.ok (.int .i64 0) w:=by kernel_rfl
theorem key3_gen {P:Program} {k e:TypeId} {n:Nat} (hu:P.underlying k=some (.array 3 e)) (he:P.underlying e=some (.int .u8)) (hk:P.keyType k=true) (hc:P.cellsOf k=3) (hc1:P.cellsOf e=1) (hs:P.types.size=n+1) (a b c:UInt8) :
  ∃ l,keyOf P k (.agg #[.int .u8 (a.toNat:Int),.int .u8 (b.toNat:Int),.int .u8 (c.toNat:Int)])=some l:=by
 have hf:Value.formed P k (.agg #[.int .u8 (a.toNat:Int),.int .u8 (b.toNat:Int),.int .u8 (c.toNat:Int)])=true:=by simp [Value.formed,hu,hc]
 have hw:∀ a:UInt8,P.keyLits (n+1) e [.int .u8 (a.toNat:Int)]=some [.int .u8 (a.toNat:Int)]:=fun a=>by
  have h1:=a.toNat_lt
  have h2:(Lit.int .u8 (a.toNat:Int)).wf=true:=by
   simp [Lit.wf,IntKind.min,IntKind.max,IntKind.bits,IntKind.signed];omega
  rw [Program.keyLits.eq_def]
  simp [he,h2]
 have hL:P.keyLits (P.types.size+1) k [.int .u8 (a.toNat:Int),.int .u8 (b.toNat:Int),.int .u8 (c.toNat:Int)]=some [.int .u8 (a.toNat:Int),.int .u8 (b.toNat:Int),.int .u8 (c.toNat:Int)]:=by
  rw [hs]
  rw [Program.keyLits.eq_def]
  simp [hu,hc,hc1,List.range,List.range.loop,hw]
 have hL2:keyOf P k (.agg #[.int .u8 (a.toNat:Int),.int .u8 (b.toNat:Int),.int .u8 (c.toNat:Int)])=(P.keyLits (P.types.size+1) k [.int .u8 (a.toNat:Int),.int .u8 (b.toNat:Int),.int .u8 (c.toNat:Int)]).map fun ls=>.string (keyBytes ls):=by
  unfold keyOf
  rw [hu]
  simp only [hk,hf,Bool.and_self,if_true,Value.cells]
 exact ⟨_,by rw [hL2,hL];rfl⟩
theorem key3_is (t:UInt8 × UInt8 × UInt8):∃ l,keyOf Tryz.prog 183 (triV t)=some l :=
 key3_gen (e:=5) (n:=Tryz.prog.types.size - 1) (by kernel_rfl) (by kernel_rfl) (by kernel_rfl) (by kernel_rfl) (by kernel_rfl) (by kernel_rfl) t.1 t.2.1 t.2.2
/-- Block b is a map that says f of three bytes. -/
def isM3 (w:World) (b m:Nat) (f:UInt8 × UInt8 × UInt8→Nat):Prop :=
 ∃ D:MD3,w.ownsMap Tryz.prog 183 held3 b m D∧∀ t l,keyOf Tryz.prog 183 (triV t)=some l→D.atKey l (.held (.int .i64 0))=.held (.int .i64 ((f t:Nat):Int))
theorem isM3.made (w:World):isM3 (w.alloc (.map #[] 0)) w.heap.size 0 (fun _=>0) :=
 ⟨_,World.ownsMap_made w Tryz.prog 183 held3,fun t l _=>rfl⟩
theorem isM3.lt {w:World} {b m:Nat} {f:UInt8 × UInt8 × UInt8→Nat} (h:isM3 w b m f):b < w.heap.size:=by
 obtain ⟨D,h,_⟩:=h
 exact h.lt
theorem isM3.keep {w w':World} {b m:Nat} {f:UInt8 × UInt8 × UInt8→Nat} (h:isM3 w b m f) (hb:w'.heap[b]?=w.heap[b]?):isM3 w' b m f:=by
 obtain ⟨D,⟨es,clock,e,F,hs,hD⟩,h2⟩:=h
 exact ⟨D,⟨es,clock,hb.trans e,F,hs,hD⟩,h2⟩
set_option maxRecDepth 100000 in
theorem isM3.look {w:World} {b m:Nat} {f:UInt8 × UInt8 × UInt8→Nat} (h:isM3 w b m f) (t:UInt8 × UInt8 × UInt8) :
  (Instr.lookup 117 (.map (some b)) (triV t) false).run Tryz.prog w=.ok (.int .i64 ((f t:Nat):Int)) w:=by
 obtain ⟨D,hD,h1⟩:=h
 obtain ⟨l,hl⟩:=key3_is t
 obtain ⟨v,ps,hrun,hv⟩:=hD.lookup keyed3 Tryz.underlying117 (zeroI0 w) (zd:=.held (.int .i64 0)) (zp:=[]) rfl hl
 have e0:DataW.held v=D.atKey l (.held (.int .i64 0)):=congrArg Prod.fst (Option.some.inj hv)
 rw [h1 t l hl] at e0
 injection e0 with e0
 rw [hrun,e0]
def updT (f:UInt8 × UInt8 × UInt8→Nat) (t:UInt8 × UInt8 × UInt8) (v:Nat):UInt8 × UInt8 × UInt8→Nat:=fun s=>if t=s then v else f s
set_option maxRecDepth 100000 in
theorem isM3.store {w:World} {b m:Nat} {f:UInt8 × UInt8 × UInt8→Nat} (h:isM3 w b m f) (hm:m≤1000000) (t:UInt8 × UInt8 × UInt8) (v:Nat) :
  ∃ w',(Instr.mapUpdate 117 (.map (some b)) (triV t) (.int .i64 (v:Int))).run Tryz.prog w=.ok () w'∧isM3 w' b (m+1) (updT f t v)∧w.grownBy w' (some b):=by
 obtain ⟨D,hD,h1⟩:=h
 obtain ⟨l,hl⟩:=key3_is t
 obtain ⟨w',hrun,hown,ht⟩:=hD.update keyed3 Tryz.underlying117 (by unfold maxLen;omega) hl (val:=.int .i64 (v:Int)) rfl
 refine ⟨w',hrun,⟨_,hown,fun s l2 hl2=>?_⟩,ht⟩
 by_cases e:t=s
 ·subst e
  rw [hl] at hl2
  injection hl2 with hl2
  subst hl2
  rw [Maps.atKey_put_same hD.isMap (keyed3.key hl)]
  unfold updT
  rw [if_pos rfl]
 ·have hne:l2 ≠ l:=fun e2=>by
   subst e2
   exact e (triV_inj (keyed3.inj hl hl2))
  rw [Maps.atKey_put_other hne,h1 s l2 hl2]
  unfold updT
  rw [if_neg e]
end Go.Proofs.YteoolehdomjkkaaGreat

