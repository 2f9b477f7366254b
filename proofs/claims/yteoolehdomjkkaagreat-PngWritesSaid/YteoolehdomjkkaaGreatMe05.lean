/- XRowI XInts -/
import Derived.Test.YteoolehdomjkkaaGreatMe01
namespace Go.Proofs.YteoolehdomjkkaaGreat
set_option linter.all false
open Go.RowKit
/-- The cells of a list. -/
def cI (l:List Int):List Value:=l.map fun x=>Value.int .i64 x
theorem cI_length (l:List Int):(cI l).length=l.length:=by simp [cI]
theorem cI_append (a b:List Int):cI (a ++ b)=cI a ++ cI b:=by simp [cI]
theorem cI_get {l:List Int} {k:Nat} (h:k < l.length):(cI l)[k]?=some ((fun x:Int=>Value.int .i64 x) l[k]):=by simp [cI,h]
theorem cI_one (l:List Int):∀ u ∈ cI l,u.oneCell'=true:=by
 intro u hu
 simp only [cI,List.mem_map] at hu
 obtain ⟨b,_,rfl⟩:=hu
 rfl
theorem Tryz.info_I:(Tryz.prog.info? 3).map (fun i=>(i.zero,i.size,i.bytes))=some (some (Value.int .i64 0),1,8):=by kernel_rfl
def ownI (w:World) (base:Nat) (v:Value) (l:List Int):Prop:=w.ownsRow base 3 1 v l.length (cI l)
def RdI (w:World) (B:Nat) (A:Option Addr) (n:Nat) (l:List Int):Prop:=Rd w B 1 A n (cI l)
theorem RdI.len {w:World} {B n:Nat} {A:Option Addr} {l:List Int} (h:RdI w B A n l):l.length=n:=by
 have:=h.1;rw [cI_length] at this;omega
theorem RdI.at_ {w:World} {B n:Nat} {A:Option Addr} {l:List Int} (h:RdI w B A n l) (hn:0 < n) :
  ∃ b o,A=some ⟨b,o,none⟩∧b < B∧∀ j (hj:j < l.length),w.cell? ⟨b,o+j,none⟩=some ((fun x:Int=>Value.int .i64 x) l[j]):=by
 obtain ⟨b,o,e,hb,hc⟩:=h.2 hn
 exact ⟨b,o,e,hb,fun j hj=>hc j _ (cI_get hj)⟩
theorem RdI.one {w:World} {B n:Nat} {A:Option Addr} {l:List Int} (h:RdI w B A n l) {k:Nat} (hk:k < n) :
  ∃ b o x,A=some ⟨b,o,none⟩∧b < B∧Hid (l[k]?=some x)∧w.cell? ⟨b,o+k,none⟩=some (Value.int .i64 x):=by
 obtain ⟨b,o,e,hb,hc⟩:=h.at_ (by omega)
 have hl:=h.len
 exact ⟨b,o,l[k],e,hb,List.getElem?_eq_getElem (by omega),hc k (by omega)⟩
theorem RdI.blw {w w':World} {B n:Nat} {A:Option Addr} {l:List Int} (h:RdI w B A n l) (hb:Below B w w'):RdI w' B A n l:=Rd.below h hb
theorem RdI.more {w:World} {B B' n:Nat} {A:Option Addr} {l:List Int} (h:RdI w B A n l) (hB:B≤B'):RdI w B' A n l:=Rd.more h hB
theorem RdI.here {w:World} {B n:Nat} {A:Option Addr} {l:List Int} (h:RdI w B A n l):RdI w w.heap.size A n l:=Rd.here h
theorem RdI.later {w w':World} {n:Nat} {A:Option Addr} {l:List Int} (h:RdI w w.heap.size A n l) (hb:Below w.heap.size w w'):RdI w' w'.heap.size A n l:=Rd.here (Rd.below h hb)
theorem RdI.alloc {w:World} {B n:Nat} {A:Option Addr} {l:List Int} (h:RdI w B A n l) (hB:B≤w.heap.size) (o:Obj):RdI (w.alloc o) B A n l:=Rd.alloc h hB o
theorem RdI.nil_ {w:World} {B:Nat} {A:Option Addr}:RdI w B A 0 []:=⟨by simp [cI],fun h=>absurd h (by omega)⟩
theorem RdI.cut {w:World} {B n:Nat} {A:Option Addr} {l:List Int} (h:RdI w B A n l) {k m:Nat} (hk:k+m≤n) {A':Option Addr} (hA:0 < m→A'=A.map (·.add k)) :
  RdI w B A' m ((l.drop k).take m):=by
 have:=Rd.cut h hk (A':=A') (by simpa using hA)
 unfold RdI
 simpa [cI,List.map_drop,List.map_take] using this
theorem ownI.nil_ (w:World) (base:Nat):ownI w base (.slice none 0 0) []:=World.ownsRow_nil _ _ _ _
theorem ownI.mono {w:World} {base base':Nat} {v:Value} {l:List Int} (h:ownI w base v l) (hb:base'≤base):ownI w base' v l:=by
 refine ⟨h.1,?_⟩
 rcases h.2 with hn | ⟨g,cap,cur,rfl,hbg,rest⟩
 ·exact .inl hn
 ·exact .inr ⟨g,cap,cur,rfl,by omega,rest⟩
theorem ownI.later {w w':World} {base:Nat} {v:Value} {l:List Int} (h:ownI w base v l) (hb:Below w.heap.size w w'):ownI w' base v l :=
 Below.ownsRow h hb (fun g hg=>(World.ownsRow.lt h g hg).2)
theorem ownI.alloc {w:World} {base:Nat} {v:Value} {l:List Int} (h:ownI w base v l) (o:Obj):ownI (w.alloc o) base v l:=World.ownsRow.alloc h o
theorem ownI.drew {w:World} {base:Nat} {v:Value} {l:List Int} (h:ownI w base v l):ownI w.drew base v l:=h
theorem ownI.drewN {w:World} {base:Nat} {v:Value} {l:List Int} (h:ownI w base v l) (n:Nat):ownI (w.drewN n) base v l:=h
theorem ownI.form {w:World} {base:Nat} {v:Value} {l:List Int} (h:ownI w base v l) :
  ∃ A c,v=.slice A l.length c∧RdI w w.heap.size A l.length l∧l.length≤c∧c≤maxLen:=by
 rcases h.2 with ⟨rfl,h0⟩ | ⟨g,cap,cur,rfl,_,_,h1,h2,_⟩
 ·have:l=[]:=List.eq_nil_of_length_eq_zero h0
  subst this
  exact ⟨none,0,rfl,Rd.none_,by simp,by simp⟩
 ·exact ⟨_,_,rfl,Rd.of_own h,h1,h2⟩
theorem ownI.kept {w w':World} {base:Nat} {v:Value} {l:List Int} {row:Option Nat} (h:ownI w base v l) (hg:w.grownBy w' row) (hne:v.ownBlock=none∨v.ownBlock ≠ row):ownI w' base v l :=
 World.ownsRow.kept h hg hne
theorem ownI.far {w:World} {base g:Nat} {v:Value} {l:List Int} (h:ownI w base v l) (hg:v.ownBlock ≠ some g) (o:Nat) (u:Value) :
  ownI (w.setCell ⟨g,o,none⟩ u) base v l:=by
 refine ⟨h.1,?_⟩
 rcases h.2 with hn | ⟨g',cap,cur,rfl,hb,hgg,rest⟩
 ·exact .inl hn
 ·refine .inr ⟨g',cap,cur,rfl,hb,?_,rest⟩
  rw [Below.heap_setCell _ _ _ _ (by intro e;apply hg;simp [Value.ownBlock];exact e)]
  exact hgg
theorem ownI.ne {w:World} {base g:Nat} {v:Value} {l:List Int} (h:ownI w base v l) (hg:g < base):v.ownBlock ≠ some g:=by
 intro e
 have:=(World.ownsRow.lt h g e).1
 omega
theorem ownI.pos {w:World} {base n c:Nat} {A:Option Addr} {l:List Int} (h:ownI w base (.slice A n c) l) (hn:0 < n):n=l.length∧∃ g,A=some ⟨g,0,none⟩∧base≤g∧g < w.heap.size:=by
 rcases h.2 with ⟨h',_⟩ | ⟨g,cap,cur,h',hb,hg,_⟩
 ·injection h' with _ h2;omega
 ·injection h' with h1 h2
  exact ⟨h2,g,h1,hb,(World.ownsRow.lt h g (by rw [h1];rfl)).2⟩
theorem ownI.cell {w:World} {base g n c:Nat} {l:List Int} (h:ownI w base (.slice (some ⟨g,0,none⟩) n c) l) (hn:n=l.length) {k:Nat} (hk:k < l.length) :
  w.cell? ⟨g,k,none⟩=some ((fun x:Int=>Value.int .i64 x) l[k]):=by
 subst hn
 rw [World.ownsRow.cellAt h k (by omega),cI_get hk]
theorem ownI.frozen {w:World} {base g n c:Nat} {l:List Int} (h:ownI w base (.slice (some ⟨g,0,none⟩) n c) l) (hn:n=l.length) (k:Nat) :
  w.frozen? ⟨g,k,none⟩=false:=by
 subst hn
 exact World.ownsRow.frozenAt h k
theorem ownI.store {w:World} {base g n c:Nat} {l:List Int} (h:ownI w base (.slice (some ⟨g,0,none⟩) n c) l) (hn:n=l.length) (k:Nat) (x:Int) :
  ownI (w.setCell ⟨g,k,none⟩ (Value.int .i64 x)) base (.slice (some ⟨g,0,none⟩) n c) (l.set k x):=by
 subst hn
 have:=(World.ownsRow.stored h k (Value.int .i64 x)).1
 unfold ownI
 rw [List.length_set]
 have e:cI (l.set k x)=(cI l).set k (Value.int .i64 x):=by simp [cI,List.map_set]
 rwa [e]
theorem ownI.rd {w:World} {base n c:Nat} {A:Option Addr} {l:List Int} (h:ownI w base (.slice A n c) l):RdI w w.heap.size A n l:=by
 obtain ⟨A4,c4,e5,hd4,_,_⟩:=h.form
 injection e5 with e1 e2 e3
 rw [e1,e2]
 exact hd4
/-- make of n zeros, in a new block. -/
theorem wpList_makeI {w:World} {ops:Array Oper} {rest:List Oper} {o:Oper} {a:Act} {Q:Exit→Act→World→Prop}
  (hg:o.guard=none) (l c:Operand) (hop:o.op=Op.makeSlice 41 l c) (n:Nat) (L:Int) (hl:a.eval l=.int .i64 L) (hc:a.eval c=.int .i64 L)
  (hL:L=(n:Int)) (hn:n≤1099511627776)
  (hK:∀ w',ownI w' w.heap.size (.slice (some ⟨w.heap.size,0,none⟩) n n) (List.replicate n (0:Int))→Below w.heap.size w w'→w.heap.size < w'.heap.size →
   wpList Tryz.prog ops Q rest (a.put o.dst (.slice (some ⟨w.heap.size,0,none⟩) n n)) w') :
  wpList Tryz.prog ops Q (o :: rest) a w:=by
 obtain ⟨i0,hi,hz0,hz1,hz2⟩:=info_parts Tryz.info_I
 refine wpList_make_full w hg l c 41 hop w.heap.size 3 i0 _ 1 Tryz.underlying41 hi hz0 hz1 _ _ _ _ n hl hc hL hL (by rw [hz2];omega) (by unfold maxLen;omega) (Nat.le_refl _) ?_
 intro w' h1 h2
 have h3:ownI w' w.heap.size (.slice (some ⟨w.heap.size,0,none⟩) n n) (List.replicate n (0:Int)):=by
  unfold ownI
  have e1:cI (List.replicate n (0:Int))=List.replicate n (Value.int .i64 0):=by simp [cI]
  rw [e1,List.length_replicate]
  have:(madeCells (Value.int .i64 0).cells (n * 1)).toList=List.replicate n (Value.int .i64 0):=by
   rw [Nat.mul_one];exact toList_madeCells_one _ _
  rwa [this] at h1
 exact hK w' h3 ((Below.refl _ _).grown h2 (Nat.le_refl _) (by simp)) (World.ownsRow.lt h3 _ rfl).2
/-- A literal's own row. -/
theorem own_litI (w:World) (l:List Int) (hm:l.length≤1099511627776):ownI (w.alloc (.cells (cI l).toArray 3)) w.heap.size (.slice (some ⟨w.heap.size,0,none⟩) l.length l.length) l:=by
 have:=World.ownsRow_lit (base:=w.heap.size) (size:=1) (e:=3) w (cI l).toArray l.length (Nat.le_refl _) (by unfold maxLen;omega) (by simp [cI])
 exact this
theorem rd_litI (w:World) (t:TypeId) (fr:Nat × Nat) (l:List Int):RdI (w.alloc (.cells (cI l).toArray t fr)) (w.heap.size+1) (some ⟨w.heap.size,0,none⟩) l.length l:=by
 refine ⟨by simp [cI],fun _=>⟨_,_,rfl,by omega,fun j u hu=>?_⟩⟩
 rw [Nat.zero_add]
 have:=cell_of_row (w.alloc (.cells (cI l).toArray t fr)) w.heap.size j (cI l).toArray t fr (heap_alloc_new w _)
 rw [this]
 simpa using hu
theorem rd_oneI (w:World) (x:Int):RdI (w.alloc (.cells #[Value.int .i64 x] 3)) (w.heap.size+1) (some ⟨w.heap.size,0,none⟩) 1 [x]:=rd_litI w 3 (0,0) [x]
set_option maxRecDepth 100000 in
theorem run_appendI (w:World) (base:Nat) (t2:TypeId) (v:Value) (l:List Int) (hown:ownI w base v l) (B m c:Nat) (A:Option Addr) (news:List Int) (hr:RdI w B A m news)
  (hb:l.length+m≤1099511627776) (hbase:base≤w.heap.size) :
  ∃ v' w',(Builtin.append_ #[41,41] t2 #[v,.slice A m c]).run Tryz.prog w=.ok v' w'∧ownI w' base v' (l ++ news)∧w.grownBy w' v.ownBlock ∧
   (v'.ownBlock=v.ownBlock∨v'.ownBlock=some w.heap.size)∧(v'=.slice none 0 0 ↔ v=.slice none 0 0∧m=0):=by
 obtain ⟨i0,hi,hz0,hz1,hz2⟩:=info_parts Tryz.info_I
 have hl:=hr.len
 subst hl
 unfold ownI
 rw [List.length_append,cI_append]
 rcases A with _ | ad
 ·have hn:news=[]:=by
   rcases Nat.eq_zero_or_pos news.length with h0 | h0
   ·exact List.eq_nil_of_length_eq_zero h0
   ·obtain ⟨b,o,h,_⟩:=hr.2 h0
    cases h
  subst hn
  refine ⟨v,w,?_,by simpa [cI,ownI] using hown,World.grownBy.refl w _,.inl rfl,by simp⟩
  rcases hown.2 with ⟨rfl,h0⟩ | ⟨g,cap,cur,rfl,_,_,hnc,_⟩
  ·simp [Builtin.append_,run_underlying Tryz.underlying41,sizeOf,typeInfo,hi,Builtin.lenOf,Builtin.firstCells]
  ·simp [Builtin.append_,run_underlying Tryz.underlying41,sizeOf,typeInfo,hi,Builtin.lenOf,Builtin.firstCells,hnc,storeCells]
 ·have hcells:∀ j u,(cI news)[j]?=some u→w.cell? (ad.add j)=some u:=by
   intro j u hu
   rcases Nat.eq_zero_or_pos news.length with h0 | h0
   ·have hn:news=[]:=List.eq_nil_of_length_eq_zero h0
    subst hn
    simp [cI] at hu
   ·obtain ⟨b,o,h,_,hc⟩:=hr.2 h0
    injection h with h
    subst h
    rw [add_none]
    exact hc j u hu
  obtain ⟨v',w',hrun,h2,h3,h4,h5⟩:=run_append_own_at (P:=Tryz.prog) w base 41 t2 3 i0 _ 1 8 Tryz.underlying41 hi hz0 hz1 hz2 rfl (by omega) v l.length (cI l) hown ad news.length c (cI news) (by simp [cI]) hcells (cI_one _) (by unfold maxLen;omega) (by omega) hbase
  exact ⟨v',w',hrun,h2,h3,h5,h4⟩
/-- append(v, x...): v the call's own, x whatever. -/
theorem wpList_appendI {w:World} {ops:Array Oper} {rest:List Oper} {o:Oper} {a:Act} {Q:Exit→Act→World→Prop} (hgd:o.guard=none) (s x:Operand)
  (ho:o.op=.call { callee:=.builtin .append,args:=#[s,x],argTypes:=#[41,41] })
  (base:Nat) (v:Value) (l:List Int) (hs:a.eval s=v) (hown:ownI w base v l) (B m c:Nat) (A:Option Addr) (news:List Int) (hx:a.eval x=.slice A m c) (hr:RdI w B A m news)
  (hb:l.length+m≤1099511627776) (hbase:base≤w.heap.size)
  (h:∀ v' w',ownI w' base v' (l ++ news)→w.grownBy w' v.ownBlock→Below base w w'→(v'.ownBlock=v.ownBlock∨v'.ownBlock=some w.heap.size)→wpList Tryz.prog ops Q rest (a.put o.dst v') w') :
  wpList Tryz.prog ops Q (o :: rest) a w:=by
 refine wpList_plain hgd fun K hK=>?_
 obtain ⟨v',w',hrun,h2,h3,h4,_⟩:=run_appendI w base o.type v l hown B m c A news hr hb hbase
 unfold Oper.wp execOp
 simp only [ho,resolve,invoke,builtin,Sem.run_bind,Sem.run_pure,Result.andThen_ok,List.map_toArray,List.map_cons,List.map_nil,hs,hx,hrun]
 exact hK _ _ (h v' w' h2 h3 ((Below.refl _ _).grown h3 hbase (fun k hk=>(World.ownsRow.lt hown k hk).1)) h4)
/-- append of bytes as a step of a region that draws its order. -/
theorem step_appendI {w:World} {ops:Array Oper} {o:Oper} {a:Act} {K:Act→World→Prop} {Q:Exit→Act→World→Prop} {E:Prop} (hgd:o.guard=none) (s x:Operand)
  (ho:o.op=.call { callee:=.builtin .append,args:=#[s,x],argTypes:=#[41,41] })
  (base:Nat) (v:Value) (bs:List Int) (hs:a.eval s=v) (hown:ownI w base v bs) (B m c:Nat) (A:Option Addr) (news:List Int) (hx:a.eval x=.slice A m c) (hr:RdI w B A m news)
  (hb:bs.length+m≤1099511627776) (hbase:base≤w.heap.size)
  (h:∀ v' w',ownI w' base v' (bs ++ news)→w.grownBy w' v.ownBlock→Below base w w'→(v'.ownBlock=v.ownBlock∨v'.ownBlock=some w.heap.size)→K (a.put o.dst v') w') :
  if Region.wanted o (yielded ops a.tmps)=true then Oper.wp Tryz.prog o a w K Q else E:=by
 have hw:Region.wanted o (yielded ops a.tmps)=true:=by simp [Region.wanted,hgd]
 rw [if_pos hw]
 obtain ⟨v',w',hrun,h2,h3,h4,_⟩:=run_appendI w base o.type v bs hown B m c A news hr hb hbase
 unfold Oper.wp execOp
 simp only [ho,resolve,invoke,builtin,Sem.run_bind,Sem.run_pure,Result.andThen_ok,List.map_toArray,List.map_cons,List.map_nil,hs,hx,hrun]
 exact h v' w' h2 h3 ((Below.refl _ _).grown h3 hbase (fun k hk=>(World.ownsRow.lt hown k hk).1)) h4
end Go.Proofs.YteoolehdomjkkaaGreat

/- aquref: lists of numbers held against one another, copied. -/
namespace Go.Proofs.YteoolehdomjkkaaGreat
set_option linter.all false
open Go.RowKit
/-- CopyInts. -/
theorem copyI_any (B n c:Nat) (A:Option Addr) (l:List Int) (w:World) (h:RdI w B A n l) (hn:n≤1099511627776) :
  Calls Tryz.prog 123 #[.slice A n c] w fun e w'=>∃ A' c',e=.returned (.slice A' n c')∧n≤c'∧c'≤maxLen∧ownI w' w.heap.size (.slice A' n c') l∧Below w.heap.size w w':=by
 have hl:=h.len
 go_enter Tryz.func123,Tryz.ntmps123
 go_wp2_with (at_builtin;go_must (refine wpList_appendI rfl (.tmp 3) (.tmp 4) rfl w.heap.size _ [] rfl (own_litI w [] (by simp)) w.heap.size n c A l rfl (Rd.alloc (Rd.here h) (Nat.le_refl _) _) (by simp;omega) (by simp) ?_;intro v1 w1 hown hg hb hat))
 obtain ⟨A',c',rfl,h1,h2,h3⟩:=hown.form
 go_ret
 simp only [List.nil_append] at *
 exact ⟨A',c',(by rw [hl];rfl),by omega,h3,by rw [← hl];exact hown,(((Below.refl _ _).alloc (Nat.le_refl _) _).trans (hb.mono (by simp)))⟩
end Go.Proofs.YteoolehdomjkkaaGreat

