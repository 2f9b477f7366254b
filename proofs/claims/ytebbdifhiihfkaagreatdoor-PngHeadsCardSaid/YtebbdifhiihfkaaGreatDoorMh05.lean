/- XRowI XArr XLz0 -/
import Derived.Test.YtebbdifhiihfkaaGreatDoorMh01
import Derived.Maps.OwnSet
import Derived.DeepKeys5
namespace Go.Proofs.YtebbdifhiihfkaaGreatDoor
set_option linter.all false
open Go.RowKit
/-- The cells of a list. -/
def cI (l:List Int):List Value:=l.map fun x=>Value.int .i64 x
theorem cI_length (l:List Int):(cI l).length=l.length:=by simp [cI]
theorem cI_append (a b:List Int):cI (a ++ b)=cI a ++ cI b:=by simp [cI]
theorem cI_get {l:List Int} {k:Nat} (h:k < l.length):(cI l)[k]?=some ((fun x:Int=>Value.int .i64 x) l[k]):=by simp [cI,h]
theorem cI_one (l:List Int):∀ u ∈ cI l,u.oneCell'=true:=by
 intro u hu
 simp only [cI,List.mem_map] at hu
 obtain ⟨b,_,rfl⟩:=hu
 rfl
theorem Tryz.info_I:(Tryz.prog.info? 3).map (fun i=>(i.zero,i.size,i.bytes))=some (some (Value.int .i64 0),1,8):=by kernel_rfl
def ownI (w:World) (base:Nat) (v:Value) (l:List Int):Prop:=w.ownsRow base 3 1 v l.length (cI l)
def RdI (w:World) (B:Nat) (A:Option Addr) (n:Nat) (l:List Int):Prop:=Rd w B 1 A n (cI l)
theorem RdI.len {w:World} {B n:Nat} {A:Option Addr} {l:List Int} (h:RdI w B A n l):l.length=n:=by
 have:=h.1;rw [cI_length] at this;omega
theorem RdI.at_ {w:World} {B n:Nat} {A:Option Addr} {l:List Int} (h:RdI w B A n l) (hn:0 < n) :
  ∃ b o,A=some ⟨b,o,none⟩∧b < B∧∀ j (hj:j < l.length),w.cell? ⟨b,o+j,none⟩=some ((fun x:Int=>Value.int .i64 x) l[j]):=by
 obtain ⟨b,o,e,hb,hc⟩:=h.2 hn
 exact ⟨b,o,e,hb,fun j hj=>hc j _ (cI_get hj)⟩
theorem RdI.one {w:World} {B n:Nat} {A:Option Addr} {l:List Int} (h:RdI w B A n l) {k:Nat} (hk:k < n) :
  ∃ b o x,A=some ⟨b,o,none⟩∧b < B∧Hid (l[k]?=some x)∧w.cell? ⟨b,o+k,none⟩=some (Value.int .i64 x):=by
 obtain ⟨b,o,e,hb,hc⟩:=h.at_ (by omega)
 have hl:=h.len
 exact ⟨b,o,l[k],e,hb,List.getElem?_eq_getElem (by omega),hc k (by omega)⟩
theorem RdI.blw {w w':World} {B n:Nat} {A:Option Addr} {l:List Int} (h:RdI w B A n l) (hb:Below B w w'):RdI w' B A n l:=Rd.below h hb
theorem RdI.more {w:World} {B B' n:Nat} {A:Option Addr} {l:List Int} (h:RdI w B A n l) (hB:B≤B'):RdI w B' A n l:=Rd.more h hB
theorem RdI.here {w:World} {B n:Nat} {A:Option Addr} {l:List Int} (h:RdI w B A n l):RdI w w.heap.size A n l:=Rd.here h
theorem RdI.later {w w':World} {n:Nat} {A:Option Addr} {l:List Int} (h:RdI w w.heap.size A n l) (hb:Below w.heap.size w w'):RdI w' w'.heap.size A n l:=Rd.here (Rd.below h hb)
theorem RdI.alloc {w:World} {B n:Nat} {A:Option Addr} {l:List Int} (h:RdI w B A n l) (hB:B≤w.heap.size) (o:Obj):RdI (w.alloc o) B A n l:=Rd.alloc h hB o
theorem RdI.nil_ {w:World} {B:Nat} {A:Option Addr}:RdI w B A 0 []:=⟨by simp [cI],fun h=>absurd h (by omega)⟩
theorem RdI.cut {w:World} {B n:Nat} {A:Option Addr} {l:List Int} (h:RdI w B A n l) {k m:Nat} (hk:k+m≤n) {A':Option Addr} (hA:0 < m→A'=A.map (·.add k)) :
  RdI w B A' m ((l.drop k).take m):=by
 have:=Rd.cut h hk (A':=A') (by simpa using hA)
 unfold RdI
 simpa [cI,List.map_drop,List.map_take] using this
theorem ownI.nil_ (w:World) (base:Nat):ownI w base (.slice none 0 0) []:=World.ownsRow_nil _ _ _ _
theorem ownI.mono {w:World} {base base':Nat} {v:Value} {l:List Int} (h:ownI w base v l) (hb:base'≤base):ownI w base' v l:=by
 refine ⟨h.1,?_⟩
 rcases h.2 with hn | ⟨g,cap,cur,rfl,hbg,rest⟩
 ·exact .inl hn
 ·exact .inr ⟨g,cap,cur,rfl,by omega,rest⟩
theorem ownI.later {w w':World} {base:Nat} {v:Value} {l:List Int} (h:ownI w base v l) (hb:Below w.heap.size w w'):ownI w' base v l :=
 Below.ownsRow h hb (fun g hg=>(World.ownsRow.lt h g hg).2)
theorem ownI.alloc {w:World} {base:Nat} {v:Value} {l:List Int} (h:ownI w base v l) (o:Obj):ownI (w.alloc o) base v l:=World.ownsRow.alloc h o
theorem ownI.drew {w:World} {base:Nat} {v:Value} {l:List Int} (h:ownI w base v l):ownI w.drew base v l:=h
theorem ownI.drewN {w:World} {base:Nat} {v:Value} {l:List Int} (h:ownI w base v l) (n:Nat):ownI (w.drewN n) base v l:=h
theorem ownI.form {w:World} {base:Nat} {v:Value} {l:List Int} (h:ownI w base v l) :
  ∃ A c,v=.slice A l.length c∧RdI w w.heap.size A l.length l∧l.length≤c∧c≤maxLen:=by
 rcases h.2 with ⟨rfl,h0⟩ | ⟨g,cap,cur,rfl,_,_,h1,h2,_⟩
 ·have:l=[]:=List.eq_nil_of_length_eq_zero h0
  subst this
  exact ⟨none,0,rfl,Rd.none_,by simp,by simp⟩
 ·exact ⟨_,_,rfl,Rd.of_own h,h1,h2⟩
theorem ownI.kept {w w':World} {base:Nat} {v:Value} {l:List Int} {row:Option Nat} (h:ownI w base v l) (hg:w.grownBy w' row) (hne:v.ownBlock=none∨v.ownBlock ≠ row):ownI w' base v l :=
 World.ownsRow.kept h hg hne
theorem ownI.far {w:World} {base g:Nat} {v:Value} {l:List Int} (h:ownI w base v l) (hg:v.ownBlock ≠ some g) (o:Nat) (u:Value) :
  ownI (w.setCell ⟨g,o,none⟩ u) base v l:=by
 refine ⟨h.1,?_⟩
 rcases h.2 with hn | ⟨g',cap,cur,rfl,hb,hgg,rest⟩
 ·exact .inl hn
 ·refine .inr ⟨g',cap,cur,rfl,hb,?_,rest⟩
  rw [Below.heap_setCell _ _ _ _ (by intro e;apply hg;simp [Value.ownBlock];exact e)]
  exact hgg
theorem ownI.ne {w:World} {base g:Nat} {v:Value} {l:List Int} (h:ownI w base v l) (hg:g < base):v.ownBlock ≠ some g:=by
 intro e
 have:=(World.ownsRow.lt h g e).1
 omega
theorem ownI.pos {w:World} {base n c:Nat} {A:Option Addr} {l:List Int} (h:ownI w base (.slice A n c) l) (hn:0 < n):n=l.length∧∃ g,A=some ⟨g,0,none⟩∧base≤g∧g < w.heap.size:=by
 rcases h.2 with ⟨h',_⟩ | ⟨g,cap,cur,h',hb,hg,_⟩
 ·injection h' with _ h2;omega
 ·injection h' with h1 h2
  exact ⟨h2,g,h1,hb,(World.ownsRow.lt h g (by rw [h1];rfl)).2⟩
theorem ownI.cell {w:World} {base g n c:Nat} {l:List Int} (h:ownI w base (.slice (some ⟨g,0,none⟩) n c) l) (hn:n=l.length) {k:Nat} (hk:k < l.length) :
  w.cell? ⟨g,k,none⟩=some ((fun x:Int=>Value.int .i64 x) l[k]):=by
 subst hn
 rw [World.ownsRow.cellAt h k (by omega),cI_get hk]
theorem ownI.frozen {w:World} {base g n c:Nat} {l:List Int} (h:ownI w base (.slice (some ⟨g,0,none⟩) n c) l) (hn:n=l.length) (k:Nat) :
  w.frozen? ⟨g,k,none⟩=false:=by
 subst hn
 exact World.ownsRow.frozenAt h k
theorem ownI.store {w:World} {base g n c:Nat} {l:List Int} (h:ownI w base (.slice (some ⟨g,0,none⟩) n c) l) (hn:n=l.length) (k:Nat) (x:Int) :
  ownI (w.setCell ⟨g,k,none⟩ (Value.int .i64 x)) base (.slice (some ⟨g,0,none⟩) n c) (l.set k x):=by
 subst hn
 have:=(World.ownsRow.stored h k (Value.int .i64 x)).1
 unfold ownI
 rw [List.length_set]
 have e:cI (l.set k x)=(cI l).set k (Value.int .i64 x):=by simp [cI,List.map_set]
 rwa [e]
theorem ownI.rd {w:World} {base n c:Nat} {A:Option Addr} {l:List Int} (h:ownI w base (.slice A n c) l):RdI w w.heap.size A n l:=by
 obtain ⟨A4,c4,e5,hd4,_,_⟩:=h.form
 injection e5 with e1 e2 e3
 rw [e1,e2]
 exact hd4
/-- make of n zeros, in a new block. -/
theorem wpList_makeI {w:World} {ops:Array Oper} {rest:List Oper} {o:Oper} {a:Act} {Q:Exit→Act→World→Prop}
  (hg:o.guard=none) (l c:Operand) (hop:o.op=Op.makeSlice 120 l c) (n:Nat) (L:Int) (hl:a.eval l=.int .i64 L) (hc:a.eval c=.int .i64 L)
  (hL:L=(n:Int)) (hn:n≤1099511627776)
  (hK:∀ w',ownI w' w.heap.size (.slice (some ⟨w.heap.size,0,none⟩) n n) (List.replicate n (0:Int))→Below w.heap.size w w'→w.heap.size < w'.heap.size →
   wpList Tryz.prog ops Q rest (a.put o.dst (.slice (some ⟨w.heap.size,0,none⟩) n n)) w') :
  wpList Tryz.prog ops Q (o :: rest) a w:=by
 obtain ⟨i0,hi,hz0,hz1,hz2⟩:=info_parts Tryz.info_I
 refine wpList_make_full w hg l c 120 hop w.heap.size 3 i0 _ 1 Tryz.underlying120 hi hz0 hz1 _ _ _ _ n hl hc hL hL (by rw [hz2];omega) (by unfold maxLen;omega) (Nat.le_refl _) ?_
 intro w' h1 h2
 have h3:ownI w' w.heap.size (.slice (some ⟨w.heap.size,0,none⟩) n n) (List.replicate n (0:Int)):=by
  unfold ownI
  have e1:cI (List.replicate n (0:Int))=List.replicate n (Value.int .i64 0):=by simp [cI]
  rw [e1,List.length_replicate]
  have:(madeCells (Value.int .i64 0).cells (n * 1)).toList=List.replicate n (Value.int .i64 0):=by
   rw [Nat.mul_one];exact toList_madeCells_one _ _
  rwa [this] at h1
 exact hK w' h3 ((Below.refl _ _).grown h2 (Nat.le_refl _) (by simp)) (World.ownsRow.lt h3 _ rfl).2
/-- A literal's own row. -/
theorem own_litI (w:World) (l:List Int) (hm:l.length≤1099511627776):ownI (w.alloc (.cells (cI l).toArray 3)) w.heap.size (.slice (some ⟨w.heap.size,0,none⟩) l.length l.length) l:=by
 have:=World.ownsRow_lit (base:=w.heap.size) (size:=1) (e:=3) w (cI l).toArray l.length (Nat.le_refl _) (by unfold maxLen;omega) (by simp [cI])
 exact this
theorem rd_litI (w:World) (t:TypeId) (fr:Nat × Nat) (l:List Int):RdI (w.alloc (.cells (cI l).toArray t fr)) (w.heap.size+1) (some ⟨w.heap.size,0,none⟩) l.length l:=by
 refine ⟨by simp [cI],fun _=>⟨_,_,rfl,by omega,fun j u hu=>?_⟩⟩
 rw [Nat.zero_add]
 have:=cell_of_row (w.alloc (.cells (cI l).toArray t fr)) w.heap.size j (cI l).toArray t fr (heap_alloc_new w _)
 rw [this]
 simpa using hu
theorem rd_oneI (w:World) (x:Int):RdI (w.alloc (.cells #[Value.int .i64 x] 3)) (w.heap.size+1) (some ⟨w.heap.size,0,none⟩) 1 [x]:=rd_litI w 3 (0,0) [x]
set_option maxRecDepth 100000 in
theorem run_appendI (w:World) (base:Nat) (t2:TypeId) (v:Value) (l:List Int) (hown:ownI w base v l) (B m c:Nat) (A:Option Addr) (news:List Int) (hr:RdI w B A m news)
  (hb:l.length+m≤1099511627776) (hbase:base≤w.heap.size) :
  ∃ v' w',(Builtin.append_ #[120,120] t2 #[v,.slice A m c]).run Tryz.prog w=.ok v' w'∧ownI w' base v' (l ++ news)∧w.grownBy w' v.ownBlock ∧
   (v'.ownBlock=v.ownBlock∨v'.ownBlock=some w.heap.size)∧(v'=.slice none 0 0 ↔ v=.slice none 0 0∧m=0):=by
 obtain ⟨i0,hi,hz0,hz1,hz2⟩:=info_parts Tryz.info_I
 have hl:=hr.len
 subst hl
 unfold ownI
 rw [List.length_append,cI_append]
 rcases A with _ | ad
 ·have hn:news=[]:=by
   rcases Nat.eq_zero_or_pos news.length with h0 | h0
   ·exact List.eq_nil_of_length_eq_zero h0
   ·obtain ⟨b,o,h,_⟩:=hr.2 h0
    cases h
  subst hn
  refine ⟨v,w,?_,by simpa [cI,ownI] using hown,World.grownBy.refl w _,.inl rfl,by simp⟩
  rcases hown.2 with ⟨rfl,h0⟩ | ⟨g,cap,cur,rfl,_,_,hnc,_⟩
  ·simp [Builtin.append_,run_underlying Tryz.underlying120,sizeOf,typeInfo,hi,Builtin.lenOf,Builtin.firstCells]
  ·simp [Builtin.append_,run_underlying Tryz.underlying120,sizeOf,typeInfo,hi,Builtin.lenOf,Builtin.firstCells,hnc,storeCells]
 ·have hcells:∀ j u,(cI news)[j]?=some u→w.cell? (ad.add j)=some u:=by
   intro j u hu
   rcases Nat.eq_zero_or_pos news.length with h0 | h0
   ·have hn:news=[]:=List.eq_nil_of_length_eq_zero h0
    subst hn
    simp [cI] at hu
   ·obtain ⟨b,o,h,_,hc⟩:=hr.2 h0
    injection h with h
    subst h
    rw [add_none]
    exact hc j u hu
  obtain ⟨v',w',hrun,h2,h3,h4,h5⟩:=run_append_own_at (P:=Tryz.prog) w base 120 t2 3 i0 _ 1 8 Tryz.underlying120 hi hz0 hz1 hz2 rfl (by omega) v l.length (cI l) hown ad news.length c (cI news) (by simp [cI]) hcells (cI_one _) (by unfold maxLen;omega) (by omega) hbase
  exact ⟨v',w',hrun,h2,h3,h5,h4⟩
/-- append(v, x...): v the call's own, x whatever. -/
theorem wpList_appendI {w:World} {ops:Array Oper} {rest:List Oper} {o:Oper} {a:Act} {Q:Exit→Act→World→Prop} (hgd:o.guard=none) (s x:Operand)
  (ho:o.op=.call { callee:=.builtin .append,args:=#[s,x],argTypes:=#[120,120] })
  (base:Nat) (v:Value) (l:List Int) (hs:a.eval s=v) (hown:ownI w base v l) (B m c:Nat) (A:Option Addr) (news:List Int) (hx:a.eval x=.slice A m c) (hr:RdI w B A m news)
  (hb:l.length+m≤1099511627776) (hbase:base≤w.heap.size)
  (h:∀ v' w',ownI w' base v' (l ++ news)→w.grownBy w' v.ownBlock→Below base w w'→(v'.ownBlock=v.ownBlock∨v'.ownBlock=some w.heap.size)→wpList Tryz.prog ops Q rest (a.put o.dst v') w') :
  wpList Tryz.prog ops Q (o :: rest) a w:=by
 refine wpList_plain hgd fun K hK=>?_
 obtain ⟨v',w',hrun,h2,h3,h4,_⟩:=run_appendI w base o.type v l hown B m c A news hr hb hbase
 unfold Oper.wp execOp
 simp only [ho,resolve,invoke,builtin,Sem.run_bind,Sem.run_pure,Result.andThen_ok,List.map_toArray,List.map_cons,List.map_nil,hs,hx,hrun]
 exact hK _ _ (h v' w' h2 h3 ((Below.refl _ _).grown h3 hbase (fun k hk=>(World.ownsRow.lt hown k hk).1)) h4)
/-- append of bytes as a step of a region that draws its order. -/
theorem step_appendI {w:World} {ops:Array Oper} {o:Oper} {a:Act} {K:Act→World→Prop} {Q:Exit→Act→World→Prop} {E:Prop} (hgd:o.guard=none) (s x:Operand)
  (ho:o.op=.call { callee:=.builtin .append,args:=#[s,x],argTypes:=#[120,120] })
  (base:Nat) (v:Value) (bs:List Int) (hs:a.eval s=v) (hown:ownI w base v bs) (B m c:Nat) (A:Option Addr) (news:List Int) (hx:a.eval x=.slice A m c) (hr:RdI w B A m news)
  (hb:bs.length+m≤1099511627776) (hbase:base≤w.heap.size)
  (h:∀ v' w',ownI w' base v' (bs ++ news)→w.grownBy w' v.ownBlock→Below base w w'→(v'.ownBlock=v.ownBlock∨v'.ownBlock=some w.heap.size)→K (a.put o.dst v') w') :
  if Region.wanted o (yielded ops a.tmps)=true then Oper.wp Tryz.prog o a w K Q else E:=by
 have hw:Region.wanted o (yielded ops a.tmps)=true:=by simp [Region.wanted,hgd]
 rw [if_pos hw]
 obtain ⟨v',w',hrun,h2,h3,h4,_⟩:=run_appendI w base o.type v bs hown B m c A news hr hb hbase
 unfold Oper.wp execOp
 simp only [ho,resolve,invoke,builtin,Sem.run_bind,Sem.run_pure,Result.andThen_ok,List.map_toArray,List.map_cons,List.map_nil,hs,hx,hrun]
 exact h v' w' h2 h3 ((Below.refl _ _).grown h3 hbase (fun k hk=>(World.ownsRow.lt hown k hk).1)) h4
end Go.Proofs.YtebbdifhiihfkaaGreatDoor

/- A variable that is an array: its cells known as a list. -/
namespace Go.Proofs.YtebbdifhiihfkaaGreatDoor
set_option linter.all false
open Go.RowKit
/-- Block g is an array variable that holds cs. -/
def Arr (w:World) (g:Nat) (cs:List Value):Prop:=∃ t,w.heap[g]?=some (.cells cs.toArray t (0,0))
section
variable {w w' : World} {g : Nat} {cs : List Value}
theorem Arr.lt (h:Arr w g cs):g < w.heap.size:=by
 obtain ⟨t,h⟩:=h
 exact (Array.getElem?_eq_some_iff.1 h).1
theorem Arr.cell (h:Arr w g cs) {k:Nat} {v:Value} (hk:cs[k]?=some v):w.cell? ⟨g,k,none⟩=some v:=by
 obtain ⟨t,h⟩:=h
 rw [cell_of_row w g k _ t (0,0) h]
 simpa using hk
theorem Arr.frozen (h:Arr w g cs) (k:Nat):w.frozen? ⟨g,k,none⟩=false:=by
 obtain ⟨t,h⟩:=h
 simp [World.frozen?,h]
theorem Arr.set (h:Arr w g cs) (k:Nat) (v:Value):Arr (w.setCell ⟨g,k,none⟩ v) g (cs.set k v):=by
 obtain ⟨t,h⟩:=h
 refine ⟨t,?_⟩
 rw [setCell_eq_setRow w g k _ t (0,0) v h,setRow_heap w g _ _ t (0,0) h]
 simp
theorem Arr.row (h:Arr w g cs) (ds:List Value):Arr (w.setRow g ds.toArray) g ds:=by
 obtain ⟨t,h⟩:=h
 exact ⟨t,setRow_heap w g _ _ t (0,0) h⟩
theorem Arr.far (h:Arr w g cs) {p:Addr} (hp:p.block ≠ g) (v:Value):Arr (w.setCell p v) g cs:=by
 obtain ⟨t,h⟩:=h
 refine ⟨t,?_⟩
 rw [Below.heap_setCell _ _ _ _ (fun e=>hp e.symm)]
 exact h
theorem Arr.farRow (h:Arr w g cs) {g':Nat} (hp:g' ≠ g) (v:Array Value):Arr (w.setRow g' v) g cs:=by
 obtain ⟨t,h⟩:=h
 refine ⟨t,?_⟩
 rw [setRow_other _ _ _ _ (fun e=>hp e.symm)]
 exact h
theorem Arr.drewN (h:Arr w g cs) (k:Nat):Arr (w.drewN k) g cs:=h
theorem Arr.drew (h:Arr w g cs):Arr w.drew g cs:=h
theorem Arr.alloc (h:Arr w g cs) (o:Obj):Arr (w.alloc o) g cs:=by
 have hl:=h.lt
 obtain ⟨t,h⟩:=h
 exact ⟨t,(heap_alloc_old w o hl).trans h⟩
theorem Arr.new (w:World) (cs:List Value) (t:TypeId):Arr (w.alloc (.cells cs.toArray t)) w.heap.size cs:=⟨t,heap_alloc_new w _⟩
theorem Arr.later (h:Arr w g cs) (hb:Below w.heap.size w w'):Arr w' g cs:=by
 have hl:=h.lt
 obtain ⟨t,h⟩:=h
 exact ⟨t,(hb.block g hl).trans h⟩
theorem Arr.blw {B:Nat} (h:Arr w g cs) (hb:Below B w w') (hg:g < B):Arr w' g cs:=by
 obtain ⟨t,h⟩:=h
 exact ⟨t,(hb.block g hg).trans h⟩
theorem Arr.gro {row:Nat} (h:Arr w g cs) (hb:w.grownBy w' (some row)) (hg:g ≠ row):Arr w' g cs:=by
 have hl:=h.lt
 obtain ⟨t,h⟩:=h
 exact ⟨t,(hb.block g hl (fun e=>hg (by injection e))).trans h⟩
theorem below_setRow {B:Nat} {a w:World} (h:Below B a w) {g:Nat} (hg:B≤g) (cs:Array Value):Below B a (w.setRow g cs) :=
 h.trans ⟨rfl,rfl,rfl,by simp,fun k hk=>setRow_other _ _ _ _ (by omega)⟩
end
theorem step_load_row {P:Program} {w:World} {ops:Array Oper} {o:Oper} {a:Act} {K:Act→World→Prop} {Q:Exit→Act→World→Prop} {E:Prop} (hgd:o.guard=none) (ty:TypeId) (x:Operand) (ho:o.op=.load ty x)
  (g:Nat) (cs:List Value) (hx:a.eval x=.pointer (some ⟨g,0,none⟩)) (h:Arr w g cs) (d:TypeDesc) (hu:P.underlying ty=some d) (hd:(match d with | .struct _ | .array _ _=>true | _=>false)=true) (hi:(P.info? ty).map (·.size)=some cs.length)
  (hK:K (a.put o.dst (.agg cs.toArray)) w):if Region.wanted o (yielded ops a.tmps)=true then Oper.wp P o a w K Q else E:=by
 have hw:Region.wanted o (yielded ops a.tmps)=true:=by simp [Region.wanted,hgd]
 rw [if_pos hw]
 obtain ⟨t,h⟩:=h
 exact wp_load_row ty x ho g hx t _ (0,0) d h hu hd (by simpa using hi) hK
theorem step_store_row {P:Program} {w:World} {ops:Array Oper} {o:Oper} {a:Act} {K:Act→World→Prop} {Q:Exit→Act→World→Prop} {E:Prop} (hgd:o.guard=none) (ty:TypeId) (x y:Operand) (ho:o.op=.store ty x y)
  (g:Nat) (cs ds:List Value) (hx:a.eval x=.pointer (some ⟨g,0,none⟩)) (hy:a.eval y=.agg ds.toArray) (h:Arr w g cs) (hi:(P.info? ty).map (·.size)=some ds.length) (hl:cs.length=ds.length) (h1:∀ v ∈ ds,v.oneCell'=true)
  (hK:K (a.put o.dst undef) (w.setRow g ds.toArray)):if Region.wanted o (yielded ops a.tmps)=true then Oper.wp P o a w K Q else E:=by
 have hw:Region.wanted o (yielded ops a.tmps)=true:=by simp [Region.wanted,hgd]
 rw [if_pos hw]
 obtain ⟨t,h⟩:=h
 exact wp_store_row ty x y ho g ds.toArray hx hy t cs.toArray h (by simpa using hi) (by simpa using hl) (by rw [Array.all_eq_true_iff_forall_mem];intro v hv;exact h1 v (by simpa using hv)) hK
theorem wpList_storeRow {P:Program} {w:World} {ops:Array Oper} {rest:List Oper} {o:Oper} {a:Act} {Q:Exit→Act→World→Prop} (hgd:o.guard=none) (ty:TypeId) (x y:Operand) (ho:o.op=.store ty x y)
  (g:Nat) (cs ds:List Value) (hx:a.eval x=.pointer (some ⟨g,0,none⟩)) (hy:a.eval y=.agg ds.toArray) (h:Arr w g cs) (hi:(P.info? ty).map (·.size)=some ds.length) (hl:cs.length=ds.length) (h1:∀ v ∈ ds,v.oneCell'=true)
  (hK:wpList P ops Q rest (a.put o.dst undef) (w.setRow g ds.toArray)):wpList P ops Q (o :: rest) a w:=by
 obtain ⟨t,h⟩:=h
 exact wpList_store_row hgd ty x y ho g ds.toArray hx hy t cs.toArray h (by simpa using hi) (by simpa using hl) (by rw [Array.all_eq_true_iff_forall_mem];intro v hv;exact h1 v (by simpa using hv)) hK
/-- Two results that are arrays. -/
theorem results_cell2 {P:Program} {fn:Func} {p1 p2:Tmp} {ty1 ty2:TypeId} (h:fn.results=#[.cell p1 ty1,.cell p2 ty2]) (tmps:Array Value) (w:World) (g1 g2:Nat) (cs1 cs2:List Value) (d1 d2:TypeDesc)
  (hp1:tmps.getD p1 undef=.pointer (some ⟨g1,0,none⟩)) (hp2:tmps.getD p2 undef=.pointer (some ⟨g2,0,none⟩)) (h1:Arr w g1 cs1) (h2:Arr w g2 cs2)
  (hu1:P.underlying ty1=some d1) (hd1:(match d1 with | .struct _ | .array _ _=>true | _=>false)=true) (hi1:(P.info? ty1).map (·.size)=some cs1.length)
  (hu2:P.underlying ty2=some d2) (hd2:(match d2 with | .struct _ | .array _ _=>true | _=>false)=true) (hi2:(P.info? ty2).map (·.size)=some cs2.length) :
  (results fn tmps).run P w=.ok (.tuple #[.agg cs1.toArray,.agg cs2.toArray]) w:=by
 obtain ⟨t1,h1⟩:=h1
 obtain ⟨t2,h2⟩:=h2
 have hp1':tmps[p1]?.getD undef=.pointer (some ⟨g1,0,none⟩):=by simpa using hp1
 have hp2':tmps[p2]?.getD undef=.pointer (some ⟨g2,0,none⟩):=by simpa using hp2
 have r1:=run_loadVar_row (P:=P) w g1 t1 ty1 cs1.toArray (0,0) d1 h1 hu1 hd1 (by simpa using hi1)
 have r2:=run_loadVar_row (P:=P) w g2 t2 ty2 cs2.toArray (0,0) d2 h2 hu2 hd2 (by simpa using hi2)
 simp [results,h,hp1',hp2',asAddr,r1,r2]
end Go.Proofs.YtebbdifhiihfkaaGreatDoor

/- lz: a map of places by three bytes. -/
namespace Go.Proofs.YtebbdifhiihfkaaGreatDoor
set_option linter.all false
open Go.RowKit Go.Maps Go.WideElems Go.WideShapes
abbrev MD3:=DataW Value
/-- Three bytes as a value. -/
def triV (t:UInt8 × UInt8 × UInt8):Value:=.agg #[.int .u8 (t.1.toNat:Int),.int .u8 (t.2.1.toNat:Int),.int .u8 (t.2.2.toNat:Int)]
theorem triV_inj {s t:UInt8 × UInt8 × UInt8} (h:triV s=triV t):s=t:=by
 obtain ⟨a,b,c⟩:=s
 obtain ⟨d,e,f⟩:=t
 simp only [triV,Value.agg.injEq,Array.mk.injEq,List.cons.injEq,Value.int.injEq,and_true,true_and,Int.natCast_inj,UInt8.toNat_inj] at h
 obtain ⟨h1,h2,h3⟩:=h
 subst h1 h2 h3
 rfl
/-- An element reads as itself. -/
def held3 (v:Value):Option (MD3 × List MemPlace):=some (.held v,[])
theorem keyed3:Keyed Tryz.prog 217:=Keyed.of_law (deep_law_gate (by kernel_rfl) (of_decide_eq_true (by kernel_rfl)) (of_decide_eq_true (by kernel_rfl)) (by kernel_rfl) (by kernel_rfl))
theorem zeroI0 (w:World):(zeroValue 3).run Tryz.prog w=.ok (.int .i64 0) w:=by kernel_rfl
theorem key3_gen {P:Program} {k e:TypeId} {n:Nat} (hu:P.underlying k=some (.array 3 e)) (he:P.underlying e=some (.int .u8)) (hk:P.keyType k=true) (hc:P.cellsOf k=3) (hc1:P.cellsOf e=1) (hs:P.types.size=n+1) (a b c:UInt8) :
  ∃ l,keyOf P k (.agg #[.int .u8 (a.toNat:Int),.int .u8 (b.toNat:Int),.int .u8 (c.toNat:Int)])=some l:=by
 have hf:Value.formed P k (.agg #[.int .u8 (a.toNat:Int),.int .u8 (b.toNat:Int),.int .u8 (c.toNat:Int)])=true:=by simp [Value.formed,hu,hc]
 have hw:∀ a:UInt8,P.keyLits (n+1) e [.int .u8 (a.toNat:Int)]=some [.int .u8 (a.toNat:Int)]:=fun a=>by
  have h1:=a.toNat_lt
  have h2:(Lit.int .u8 (a.toNat:Int)).wf=true:=by
   simp [Lit.wf,IntKind.min,IntKind.max,IntKind.bits,IntKind.signed];omega
  rw [Program.keyLits.eq_def]
  simp [he,h2]
 have hL:P.keyLits (P.types.size+1) k [.int .u8 (a.toNat:Int),.int .u8 (b.toNat:Int),.int .u8 (c.toNat:Int)]=some [.int .u8 (a.toNat:Int),.int .u8 (b.toNat:Int),.int .u8 (c.toNat:Int)]:=by
  rw [hs]
  rw [Program.keyLits.eq_def]
  simp [hu,hc,hc1,List.range,List.range.loop,hw]
 have hL2:keyOf P k (.agg #[.int .u8 (a.toNat:Int),.int .u8 (b.toNat:Int),.int .u8 (c.toNat:Int)])=(P.keyLits (P.types.size+1) k [.int .u8 (a.toNat:Int),.int .u8 (b.toNat:Int),.int .u8 (c.toNat:Int)]).map fun ls=>.string (keyBytes ls):=by
  unfold keyOf
  rw [hu]
  simp only [hk,hf,Bool.and_self,if_true,Value.cells]
 exact ⟨_,by rw [hL2,hL];rfl⟩
theorem key3_is (t:UInt8 × UInt8 × UInt8):∃ l,keyOf Tryz.prog 217 (triV t)=some l :=
 key3_gen (e:=5) (n:=Tryz.prog.types.size - 1) (by kernel_rfl) (by kernel_rfl) (by kernel_rfl) (by kernel_rfl) (by kernel_rfl) (by kernel_rfl) t.1 t.2.1 t.2.2
/-- Block b is a map that says f of three bytes. -/
def isM3 (w:World) (b m:Nat) (f:UInt8 × UInt8 × UInt8→Nat):Prop :=
 ∃ D:MD3,w.ownsMap Tryz.prog 217 held3 b m D∧∀ t l,keyOf Tryz.prog 217 (triV t)=some l→D.atKey l (.held (.int .i64 0))=.held (.int .i64 ((f t:Nat):Int))
theorem isM3.made (w:World):isM3 (w.alloc (.map #[] 0)) w.heap.size 0 (fun _=>0) :=
 ⟨_,World.ownsMap_made w Tryz.prog 217 held3,fun t l _=>rfl⟩
theorem isM3.lt {w:World} {b m:Nat} {f:UInt8 × UInt8 × UInt8→Nat} (h:isM3 w b m f):b < w.heap.size:=by
 obtain ⟨D,h,_⟩:=h
 exact h.lt
theorem isM3.keep {w w':World} {b m:Nat} {f:UInt8 × UInt8 × UInt8→Nat} (h:isM3 w b m f) (hb:w'.heap[b]?=w.heap[b]?):isM3 w' b m f:=by
 obtain ⟨D,⟨es,clock,e,F,hs,hD⟩,h2⟩:=h
 exact ⟨D,⟨es,clock,hb.trans e,F,hs,hD⟩,h2⟩
set_option maxRecDepth 100000 in
theorem isM3.look {w:World} {b m:Nat} {f:UInt8 × UInt8 × UInt8→Nat} (h:isM3 w b m f) (t:UInt8 × UInt8 × UInt8) :
  (Instr.lookup 179 (.map (some b)) (triV t) false).run Tryz.prog w=.ok (.int .i64 ((f t:Nat):Int)) w:=by
 obtain ⟨D,hD,h1⟩:=h
 obtain ⟨l,hl⟩:=key3_is t
 obtain ⟨v,ps,hrun,hv⟩:=hD.lookup keyed3 Tryz.underlying179 (zeroI0 w) (zd:=.held (.int .i64 0)) (zp:=[]) rfl hl
 have e0:DataW.held v=D.atKey l (.held (.int .i64 0)):=congrArg Prod.fst (Option.some.inj hv)
 rw [h1 t l hl] at e0
 injection e0 with e0
 rw [hrun,e0]
def updT (f:UInt8 × UInt8 × UInt8→Nat) (t:UInt8 × UInt8 × UInt8) (v:Nat):UInt8 × UInt8 × UInt8→Nat:=fun s=>if t=s then v else f s
set_option maxRecDepth 100000 in
theorem isM3.store {w:World} {b m:Nat} {f:UInt8 × UInt8 × UInt8→Nat} (h:isM3 w b m f) (hm:m≤1000000) (t:UInt8 × UInt8 × UInt8) (v:Nat) :
  ∃ w',(Instr.mapUpdate 179 (.map (some b)) (triV t) (.int .i64 (v:Int))).run Tryz.prog w=.ok () w'∧isM3 w' b (m+1) (updT f t v)∧w.grownBy w' (some b):=by
 obtain ⟨D,hD,h1⟩:=h
 obtain ⟨l,hl⟩:=key3_is t
 obtain ⟨w',hrun,hown,ht⟩:=hD.update keyed3 Tryz.underlying179 (by unfold maxLen;omega) hl (val:=.int .i64 (v:Int)) rfl
 refine ⟨w',hrun,⟨_,hown,fun s l2 hl2=>?_⟩,ht⟩
 by_cases e:t=s
 ·subst e
  rw [hl] at hl2
  injection hl2 with hl2
  subst hl2
  rw [Maps.atKey_put_same hD.isMap (keyed3.key hl)]
  unfold updT
  rw [if_pos rfl]
 ·have hne:l2 ≠ l:=fun e2=>by
   subst e2
   exact e (triV_inj (keyed3.inj hl hl2))
  rw [Maps.atKey_put_other hne,h1 s l2 hl2]
  unfold updT
  rw [if_neg e]
end Go.Proofs.YtebbdifhiihfkaaGreatDoor

