/- XRowP XSort1 XSort2 XSort3 XSort4 -/
import Derived.Test.YteoolehdomjkkaaGreatMe07
namespace Go.Proofs.YteoolehdomjkkaaGreat
set_option linter.all false
open Go.RowKit
/-- The cells of a list. -/
def cP (l:List MP):List Value:=l.map fun x=>Value.pointer (some ⟨x.1,0,none⟩)
theorem cP_length (l:List MP):(cP l).length=l.length:=by simp [cP]
theorem cP_append (a b:List MP):cP (a ++ b)=cP a ++ cP b:=by simp [cP]
theorem cP_get {l:List MP} {k:Nat} (h:k < l.length):(cP l)[k]?=some ((fun x:MP=>Value.pointer (some ⟨x.1,0,none⟩)) l[k]):=by simp [cP,h]
theorem cP_one (l:List MP):∀ u ∈ cP l,u.oneCell'=true:=by
 intro u hu
 simp only [cP,List.mem_map] at hu
 obtain ⟨b,_,rfl⟩:=hu
 rfl
theorem Tryz.info_P:(Tryz.prog.info? 194).map (fun i=>(i.zero,i.size,i.bytes))=some (some (Value.pointer none),1,8):=by kernel_rfl
def ownP (w:World) (base:Nat) (v:Value) (l:List MP):Prop:=w.ownsRow base 194 1 v l.length (cP l)
def RdP (w:World) (B:Nat) (A:Option Addr) (n:Nat) (l:List MP):Prop:=Rd w B 1 A n (cP l)
theorem RdP.len {w:World} {B n:Nat} {A:Option Addr} {l:List MP} (h:RdP w B A n l):l.length=n:=by
 have:=h.1;rw [cP_length] at this;omega
theorem RdP.at_ {w:World} {B n:Nat} {A:Option Addr} {l:List MP} (h:RdP w B A n l) (hn:0 < n) :
  ∃ b o,A=some ⟨b,o,none⟩∧b < B∧∀ j (hj:j < l.length),w.cell? ⟨b,o+j,none⟩=some ((fun x:MP=>Value.pointer (some ⟨x.1,0,none⟩)) l[j]):=by
 obtain ⟨b,o,e,hb,hc⟩:=h.2 hn
 exact ⟨b,o,e,hb,fun j hj=>hc j _ (cP_get hj)⟩
theorem RdP.one {w:World} {B n:Nat} {A:Option Addr} {l:List MP} (h:RdP w B A n l) {k:Nat} (hk:k < n) :
  ∃ b o x,A=some ⟨b,o,none⟩∧b < B∧Hid (l[k]?=some x)∧w.cell? ⟨b,o+k,none⟩=some (Value.pointer (some ⟨x.1,0,none⟩)):=by
 obtain ⟨b,o,e,hb,hc⟩:=h.at_ (by omega)
 have hl:=h.len
 exact ⟨b,o,l[k],e,hb,List.getElem?_eq_getElem (by omega),hc k (by omega)⟩
theorem RdP.blw {w w':World} {B n:Nat} {A:Option Addr} {l:List MP} (h:RdP w B A n l) (hb:Below B w w'):RdP w' B A n l:=Rd.below h hb
theorem RdP.more {w:World} {B B' n:Nat} {A:Option Addr} {l:List MP} (h:RdP w B A n l) (hB:B≤B'):RdP w B' A n l:=Rd.more h hB
theorem RdP.here {w:World} {B n:Nat} {A:Option Addr} {l:List MP} (h:RdP w B A n l):RdP w w.heap.size A n l:=Rd.here h
theorem RdP.later {w w':World} {n:Nat} {A:Option Addr} {l:List MP} (h:RdP w w.heap.size A n l) (hb:Below w.heap.size w w'):RdP w' w'.heap.size A n l:=Rd.here (Rd.below h hb)
theorem RdP.alloc {w:World} {B n:Nat} {A:Option Addr} {l:List MP} (h:RdP w B A n l) (hB:B≤w.heap.size) (o:Obj):RdP (w.alloc o) B A n l:=Rd.alloc h hB o
theorem RdP.nil_ {w:World} {B:Nat} {A:Option Addr}:RdP w B A 0 []:=⟨by simp [cP],fun h=>absurd h (by omega)⟩
theorem RdP.cut {w:World} {B n:Nat} {A:Option Addr} {l:List MP} (h:RdP w B A n l) {k m:Nat} (hk:k+m≤n) {A':Option Addr} (hA:0 < m→A'=A.map (·.add k)) :
  RdP w B A' m ((l.drop k).take m):=by
 have:=Rd.cut h hk (A':=A') (by simpa using hA)
 unfold RdP
 simpa [cP,List.map_drop,List.map_take] using this
theorem ownP.nil_ (w:World) (base:Nat):ownP w base (.slice none 0 0) []:=World.ownsRow_nil _ _ _ _
theorem ownP.mono {w:World} {base base':Nat} {v:Value} {l:List MP} (h:ownP w base v l) (hb:base'≤base):ownP w base' v l:=by
 refine ⟨h.1,?_⟩
 rcases h.2 with hn | ⟨g,cap,cur,rfl,hbg,rest⟩
 ·exact .inl hn
 ·exact .inr ⟨g,cap,cur,rfl,by omega,rest⟩
theorem ownP.later {w w':World} {base:Nat} {v:Value} {l:List MP} (h:ownP w base v l) (hb:Below w.heap.size w w'):ownP w' base v l :=
 Below.ownsRow h hb (fun g hg=>(World.ownsRow.lt h g hg).2)
theorem ownP.alloc {w:World} {base:Nat} {v:Value} {l:List MP} (h:ownP w base v l) (o:Obj):ownP (w.alloc o) base v l:=World.ownsRow.alloc h o
theorem ownP.drew {w:World} {base:Nat} {v:Value} {l:List MP} (h:ownP w base v l):ownP w.drew base v l:=h
theorem ownP.drewN {w:World} {base:Nat} {v:Value} {l:List MP} (h:ownP w base v l) (n:Nat):ownP (w.drewN n) base v l:=h
theorem ownP.form {w:World} {base:Nat} {v:Value} {l:List MP} (h:ownP w base v l) :
  ∃ A c,v=.slice A l.length c∧RdP w w.heap.size A l.length l∧l.length≤c∧c≤maxLen:=by
 rcases h.2 with ⟨rfl,h0⟩ | ⟨g,cap,cur,rfl,_,_,h1,h2,_⟩
 ·have:l=[]:=List.eq_nil_of_length_eq_zero h0
  subst this
  exact ⟨none,0,rfl,Rd.none_,by simp,by simp⟩
 ·exact ⟨_,_,rfl,Rd.of_own h,h1,h2⟩
theorem ownP.kept {w w':World} {base:Nat} {v:Value} {l:List MP} {row:Option Nat} (h:ownP w base v l) (hg:w.grownBy w' row) (hne:v.ownBlock=none∨v.ownBlock ≠ row):ownP w' base v l :=
 World.ownsRow.kept h hg hne
theorem ownP.far {w:World} {base g:Nat} {v:Value} {l:List MP} (h:ownP w base v l) (hg:v.ownBlock ≠ some g) (o:Nat) (u:Value) :
  ownP (w.setCell ⟨g,o,none⟩ u) base v l:=by
 refine ⟨h.1,?_⟩
 rcases h.2 with hn | ⟨g',cap,cur,rfl,hb,hgg,rest⟩
 ·exact .inl hn
 ·refine .inr ⟨g',cap,cur,rfl,hb,?_,rest⟩
  rw [Below.heap_setCell _ _ _ _ (by intro e;apply hg;simp [Value.ownBlock];exact e)]
  exact hgg
theorem ownP.ne {w:World} {base g:Nat} {v:Value} {l:List MP} (h:ownP w base v l) (hg:g < base):v.ownBlock ≠ some g:=by
 intro e
 have:=(World.ownsRow.lt h g e).1
 omega
theorem ownP.pos {w:World} {base n c:Nat} {A:Option Addr} {l:List MP} (h:ownP w base (.slice A n c) l) (hn:0 < n):n=l.length∧∃ g,A=some ⟨g,0,none⟩∧base≤g∧g < w.heap.size:=by
 rcases h.2 with ⟨h',_⟩ | ⟨g,cap,cur,h',hb,hg,_⟩
 ·injection h' with _ h2;omega
 ·injection h' with h1 h2
  exact ⟨h2,g,h1,hb,(World.ownsRow.lt h g (by rw [h1];rfl)).2⟩
theorem ownP.cell {w:World} {base g n c:Nat} {l:List MP} (h:ownP w base (.slice (some ⟨g,0,none⟩) n c) l) (hn:n=l.length) {k:Nat} (hk:k < l.length) :
  w.cell? ⟨g,k,none⟩=some ((fun x:MP=>Value.pointer (some ⟨x.1,0,none⟩)) l[k]):=by
 subst hn
 rw [World.ownsRow.cellAt h k (by omega),cP_get hk]
theorem ownP.frozen {w:World} {base g n c:Nat} {l:List MP} (h:ownP w base (.slice (some ⟨g,0,none⟩) n c) l) (hn:n=l.length) (k:Nat) :
  w.frozen? ⟨g,k,none⟩=false:=by
 subst hn
 exact World.ownsRow.frozenAt h k
theorem ownP.store {w:World} {base g n c:Nat} {l:List MP} (h:ownP w base (.slice (some ⟨g,0,none⟩) n c) l) (hn:n=l.length) (k:Nat) (x:MP) :
  ownP (w.setCell ⟨g,k,none⟩ (Value.pointer (some ⟨x.1,0,none⟩))) base (.slice (some ⟨g,0,none⟩) n c) (l.set k x):=by
 subst hn
 have:=(World.ownsRow.stored h k (Value.pointer (some ⟨x.1,0,none⟩))).1
 unfold ownP
 rw [List.length_set]
 have e:cP (l.set k x)=(cP l).set k (Value.pointer (some ⟨x.1,0,none⟩)):=by simp [cP,List.map_set]
 rwa [e]
theorem ownP.rd {w:World} {base n c:Nat} {A:Option Addr} {l:List MP} (h:ownP w base (.slice A n c) l):RdP w w.heap.size A n l:=by
 obtain ⟨A4,c4,e5,hd4,_,_⟩:=h.form
 injection e5 with e1 e2 e3
 rw [e1,e2]
 exact hd4
theorem rd_litP (w:World) (t:TypeId) (fr:Nat × Nat) (l:List MP):RdP (w.alloc (.cells (cP l).toArray t fr)) (w.heap.size+1) (some ⟨w.heap.size,0,none⟩) l.length l:=by
 refine ⟨by simp [cP],fun _=>⟨_,_,rfl,by omega,fun j u hu=>?_⟩⟩
 rw [Nat.zero_add]
 have:=cell_of_row (w.alloc (.cells (cP l).toArray t fr)) w.heap.size j (cP l).toArray t fr (heap_alloc_new w _)
 rw [this]
 simpa using hu
theorem rd_oneP (w:World) (x:MP):RdP (w.alloc (.cells #[Value.pointer (some ⟨x.1,0,none⟩)] 194)) (w.heap.size+1) (some ⟨w.heap.size,0,none⟩) 1 [x]:=rd_litP w 194 (0,0) [x]
set_option maxRecDepth 100000 in
theorem run_appendP (w:World) (base:Nat) (t2:TypeId) (v:Value) (l:List MP) (hown:ownP w base v l) (B m c:Nat) (A:Option Addr) (news:List MP) (hr:RdP w B A m news)
  (hb:l.length+m≤1099511627776) (hbase:base≤w.heap.size) :
  ∃ v' w',(Builtin.append_ #[190,190] t2 #[v,.slice A m c]).run Tryz.prog w=.ok v' w'∧ownP w' base v' (l ++ news)∧w.grownBy w' v.ownBlock ∧
   (v'.ownBlock=v.ownBlock∨v'.ownBlock=some w.heap.size)∧(v'=.slice none 0 0 ↔ v=.slice none 0 0∧m=0):=by
 obtain ⟨i0,hi,hz0,hz1,hz2⟩:=info_parts Tryz.info_P
 have hl:=hr.len
 subst hl
 unfold ownP
 rw [List.length_append,cP_append]
 rcases A with _ | ad
 ·have hn:news=[]:=by
   rcases Nat.eq_zero_or_pos news.length with h0 | h0
   ·exact List.eq_nil_of_length_eq_zero h0
   ·obtain ⟨b,o,h,_⟩:=hr.2 h0
    cases h
  subst hn
  refine ⟨v,w,?_,by simpa [cP,ownP] using hown,World.grownBy.refl w _,.inl rfl,by simp⟩
  rcases hown.2 with ⟨rfl,h0⟩ | ⟨g,cap,cur,rfl,_,_,hnc,_⟩
  ·simp [Builtin.append_,run_underlying Tryz.underlying190,sizeOf,typeInfo,hi,Builtin.lenOf,Builtin.firstCells]
  ·simp [Builtin.append_,run_underlying Tryz.underlying190,sizeOf,typeInfo,hi,Builtin.lenOf,Builtin.firstCells,hnc,storeCells]
 ·have hcells:∀ j u,(cP news)[j]?=some u→w.cell? (ad.add j)=some u:=by
   intro j u hu
   rcases Nat.eq_zero_or_pos news.length with h0 | h0
   ·have hn:news=[]:=List.eq_nil_of_length_eq_zero h0
    subst hn
    simp [cP] at hu
   ·obtain ⟨b,o,h,_,hc⟩:=hr.2 h0
    injection h with h
    subst h
    rw [add_none]
    exact hc j u hu
  obtain ⟨v',w',hrun,h2,h3,h4,h5⟩:=run_append_own_at (P:=Tryz.prog) w base 190 t2 194 i0 _ 1 8 Tryz.underlying190 hi hz0 hz1 hz2 rfl (by omega) v l.length (cP l) hown ad news.length c (cP news) (by simp [cP]) hcells (cP_one _) (by unfold maxLen;omega) (by omega) hbase
  exact ⟨v',w',hrun,h2,h3,h5,h4⟩
/-- append(v, x...): v the call's own, x whatever. -/
theorem wpList_appendP {w:World} {ops:Array Oper} {rest:List Oper} {o:Oper} {a:Act} {Q:Exit→Act→World→Prop} (hgd:o.guard=none) (s x:Operand)
  (ho:o.op=.call { callee:=.builtin .append,args:=#[s,x],argTypes:=#[190,190] })
  (base:Nat) (v:Value) (l:List MP) (hs:a.eval s=v) (hown:ownP w base v l) (B m c:Nat) (A:Option Addr) (news:List MP) (hx:a.eval x=.slice A m c) (hr:RdP w B A m news)
  (hb:l.length+m≤1099511627776) (hbase:base≤w.heap.size)
  (h:∀ v' w',ownP w' base v' (l ++ news)→w.grownBy w' v.ownBlock→Below base w w'→(v'.ownBlock=v.ownBlock∨v'.ownBlock=some w.heap.size)→wpList Tryz.prog ops Q rest (a.put o.dst v') w') :
  wpList Tryz.prog ops Q (o :: rest) a w:=by
 refine wpList_plain hgd fun K hK=>?_
 obtain ⟨v',w',hrun,h2,h3,h4,_⟩:=run_appendP w base o.type v l hown B m c A news hr hb hbase
 unfold Oper.wp execOp
 simp only [ho,resolve,invoke,builtin,Sem.run_bind,Sem.run_pure,Result.andThen_ok,List.map_toArray,List.map_cons,List.map_nil,hs,hx,hrun]
 exact hK _ _ (h v' w' h2 h3 ((Below.refl _ _).grown h3 hbase (fun k hk=>(World.ownsRow.lt hown k hk).1)) h4)
/-- append of bytes as a step of a region that draws its order. -/
theorem step_appendP {w:World} {ops:Array Oper} {o:Oper} {a:Act} {K:Act→World→Prop} {Q:Exit→Act→World→Prop} {E:Prop} (hgd:o.guard=none) (s x:Operand)
  (ho:o.op=.call { callee:=.builtin .append,args:=#[s,x],argTypes:=#[190,190] })
  (base:Nat) (v:Value) (bs:List MP) (hs:a.eval s=v) (hown:ownP w base v bs) (B m c:Nat) (A:Option Addr) (news:List MP) (hx:a.eval x=.slice A m c) (hr:RdP w B A m news)
  (hb:bs.length+m≤1099511627776) (hbase:base≤w.heap.size)
  (h:∀ v' w',ownP w' base v' (bs ++ news)→w.grownBy w' v.ownBlock→Below base w w'→(v'.ownBlock=v.ownBlock∨v'.ownBlock=some w.heap.size)→K (a.put o.dst v') w') :
  if Region.wanted o (yielded ops a.tmps)=true then Oper.wp Tryz.prog o a w K Q else E:=by
 have hw:Region.wanted o (yielded ops a.tmps)=true:=by simp [Region.wanted,hgd]
 rw [if_pos hw]
 obtain ⟨v',w',hrun,h2,h3,h4,_⟩:=run_appendP w base o.type v bs hown B m c A news hr hb hbase
 unfold Oper.wp execOp
 simp only [ho,resolve,invoke,builtin,Sem.run_bind,Sem.run_pure,Result.andThen_ok,List.map_toArray,List.map_cons,List.map_nil,hs,hx,hrun]
 exact h v' w' h2 h3 ((Below.refl _ _).grown h3 hbase (fun k hk=>(World.ownsRow.lt hown k hk).1)) h4
end Go.Proofs.YteoolehdomjkkaaGreat

/- slices.SortStableFunc over rows of members: what its functions tell, first the exchange. -/
namespace Go.Proofs.YteoolehdomjkkaaGreat
set_option linter.all false
open Go.RowKit
/-- In W the row in block g holds d; all else is as in w0, but for draws. -/
structure SortW (w0:World) (base g n c:Nat) (d:List MP) (W:World):Prop where
 own:ownP W base (.slice (some ⟨g,0,none⟩) n c) d
 len:n=d.length
 gro:w0.grownBy W (some g)
 wts:∀ x ∈ d,x.1 ≠ g∧W.cell? ⟨x.1,0,none⟩=some (.int .i64 x.2.w)
section
variable {w0 W : World} {base g n c : Nat} {d L1 L2 L3 : List MP} {x y : MP}
theorem SortW.drewN (h:SortW w0 base g n c d W) (k:Nat):SortW w0 base g n c d (W.drewN k) :=
 ⟨h.own.drewN k,h.len,⟨h.gro.os,h.gro.tape,h.gro.output,h.gro.size,h.gro.block⟩,h.wts⟩
theorem SortW.drew (h:SortW w0 base g n c d W):SortW w0 base g n c d W.drew:=h.drewN 1
theorem SortW.same {d':List MP} (h:SortW w0 base g n c d W) (e:d=d'):SortW w0 base g n c d' W:=e ▸ h
theorem SortW.at_ (h:SortW w0 base g n c (L1 ++ x :: L2) W):W.cell? ⟨g,L1.length,none⟩=some (.pointer (some ⟨x.1,0,none⟩)):=by
 have:=h.own.cell h.len (k:=L1.length) (by simp)
 simpa using this
theorem SortW.fr (h:SortW w0 base g n c d W) (k:Nat):W.frozen? ⟨g,k,none⟩=false:=h.own.frozen h.len k
theorem SortW.wt (h:SortW w0 base g n c d W) (hx:x ∈ d):W.cell? ⟨x.1,0,none⟩=some (.int .i64 x.2.w):=(h.wts x hx).2
theorem grown_setCell {w w':World} {g k:Nat} (h:w.grownBy w' (some g)) (u:Value):w.grownBy (w'.setCell ⟨g,k,none⟩ u) (some g) :=
 ⟨h.os,h.tape,h.output,by have:=h.size;simpa [World.setCell] using this,fun i hi hne=>by
  rw [Below.heap_setCell _ _ _ _ (fun e=>hne (congrArg some e))]
  exact h.block i hi hne⟩
theorem SortW.put (h:SortW w0 base g n c (L1 ++ x :: L2) W) (y:MP) (hy:y.1 ≠ g∧W.cell? ⟨y.1,0,none⟩=some (.int .i64 y.2.w)) :
  SortW w0 base g n c (L1 ++ y :: L2) (W.setCell ⟨g,L1.length,none⟩ (.pointer (some ⟨y.1,0,none⟩))):=by
 have h1:=h.own.store h.len L1.length y
 rw [List.set_append_right _ _ (Nat.le_refl _),Nat.sub_self,List.set_cons_zero] at h1
 refine ⟨h1,by have:=h.len;simpa using this,grown_setCell h.gro _,fun z hz=>?_⟩
 have hz':z=y∨z ∈ L1 ++ x :: L2:=by simp at hz ⊢;rcases hz with h | h | h <;> simp [h]
 have hz2:z.1 ≠ g∧W.cell? ⟨z.1,0,none⟩=some (.int .i64 z.2.w):=by
  rcases hz' with rfl | hz'
  ·exact hy
  ·exact h.wts z hz'
 refine ⟨hz2.1,?_⟩
 rw [World.cell?_setCell_other _ _ _ _ (by intro e;injection e with e1 e2;exact hz2.1 e1.symm)]
 exact hz2.2
theorem SortW.swp (h:SortW w0 base g n c (L1 ++ x :: (L2 ++ y :: L3)) W) :
  SortW w0 base g n c (L1 ++ y :: (L2 ++ x :: L3)) ((W.setCell ⟨g,L1.length,none⟩ (.pointer (some ⟨y.1,0,none⟩))).setCell ⟨g,L1.length+1+L2.length,none⟩ (.pointer (some ⟨x.1,0,none⟩))):=by
 have h1:=h.put y (h.wts y (by simp))
 have e:L1 ++ y :: (L2 ++ y :: L3)=(L1 ++ y :: L2) ++ y :: L3:=by simp
 rw [e] at h1
 have h2:=h1.put x (by
  have h0:=h.wts x (by simp)
  refine ⟨h0.1,?_⟩
  rw [World.cell?_setCell_other _ _ _ _ (by intro e;injection e with e1 e2;exact h0.1 e1.symm)]
  exact h0.2)
 have e2:(L1 ++ y :: L2).length=L1.length+1+L2.length:=by simp;omega
 rw [e2] at h2
 have e3:L1 ++ y :: (L2 ++ x :: L3)=(L1 ++ y :: L2) ++ x :: L3:=by simp
 rw [e3]
 exact h2
theorem SortW.at2 (h:SortW w0 base g n c (L1 ++ x :: (L2 ++ y :: L3)) W):W.cell? ⟨g,L1.length+1+L2.length,none⟩=some (.pointer (some ⟨y.1,0,none⟩)):=by
 have:=SortW.at_ (L1:=L1 ++ x :: L2) (x:=y) (L2:=L3) (h.same (by simp))
 rw [show (L1 ++ x :: L2).length=L1.length+1+L2.length by simp;omega] at this
 exact this
theorem SortW.at3 (h:SortW w0 base g n c (L1 ++ x :: (L2 ++ y :: L3)) W) (u:Value):(W.setCell ⟨g,L1.length,none⟩ u).cell? ⟨g,L1.length+1+L2.length,none⟩=some (.pointer (some ⟨y.1,0,none⟩)):=by
 rw [World.cell?_setCell_other _ _ _ _ (by intro e;injection e with e1 e2;omega)]
 exact h.at2
theorem SortW.pws (h:SortW w0 base g n c (L1 ++ x :: y :: L3) W) :
  SortW w0 base g n c (L1 ++ y :: x :: L3) ((W.setCell ⟨g,L1.length+1,none⟩ (.pointer (some ⟨x.1,0,none⟩))).setCell ⟨g,L1.length,none⟩ (.pointer (some ⟨y.1,0,none⟩))):=by
 have e:L1 ++ x :: y :: L3=(L1 ++ [x]) ++ y :: L3:=by simp
 have hh:=h
 rw [e] at hh
 have h1:=hh.put x (h.wts x (by simp))
 have e2:(L1 ++ [x]).length=L1.length+1:=by simp
 rw [e2] at h1
 have e3:(L1 ++ [x]) ++ x :: L3=L1 ++ x :: (x :: L3):=by simp
 rw [e3] at h1
 refine h1.put y ?_
 have h0:=h.wts y (by simp)
 refine ⟨h0.1,?_⟩
 rw [World.cell?_setCell_other _ _ _ _ (by intro e;injection e with e1 e2;exact h0.1 e1.symm)]
 exact h0.2
theorem SortW.nx (h:SortW w0 base g n c (L1 ++ x :: y :: L3) W):W.cell? ⟨g,L1.length+1,none⟩=some (.pointer (some ⟨y.1,0,none⟩)):=SortW.at2 (L2:=[]) h
theorem SortW.at3' (h:SortW w0 base g n c (L1 ++ x :: y :: L3) W) (u:Value):(W.setCell ⟨g,L1.length+1,none⟩ u).cell? ⟨g,L1.length,none⟩=some (.pointer (some ⟨x.1,0,none⟩)):=by
 rw [World.cell?_setCell_other _ _ _ _ (by intro e;injection e with e1 e2;omega)]
 exact h.at_
end
/-- cmp.Compare of ints. -/
def cmpI (a b:Int):Int:=if a < b then -1 else if b < a then 1 else 0
theorem cmpI_neg (a b:Int):cmpI a b < 0 ↔ a < b:=by
 unfold cmpI
 split
 ·omega
 ·split <;> omega
theorem isNaN_any (a:Int) (w:World):Calls Tryz.prog 192 #[.int .i64 a] w fun e w'=>e=.returned (.bool false)∧w=w':=by
 go_enter Tryz.func192,Tryz.ntmps192
 go_wp2
 go_ret
 exact ⟨rfl,rfl⟩
theorem compare_any (a b:Int) (w:World):Calls Tryz.prog 184 #[.int .i64 a,.int .i64 b] w fun e w'=>e=.returned (.int .i64 (cmpI a b))∧w=w':=by
 by_cases h1:a < b
 ·rw [show cmpI a b=-1 by unfold cmpI;rw [if_pos h1]]
  go_enter Tryz.func184,Tryz.ntmps184
  go_wp2_with (go_at_call 192;(with_reducible refine (isNaN_any _ _).mono ?_);rintro e w' ⟨rfl,rfl⟩)
  go_ret
  exact ⟨rfl,rfl⟩
 ·by_cases h2:b < a
  ·rw [show cmpI a b=1 by unfold cmpI;rw [if_neg h1,if_pos h2]]
   go_enter Tryz.func184,Tryz.ntmps184
   go_wp2_with (go_at_call 192;(with_reducible refine (isNaN_any _ _).mono ?_);rintro e w' ⟨rfl,rfl⟩)
   go_ret
   exact ⟨rfl,rfl⟩
  ·rw [show cmpI a b=0 by unfold cmpI;rw [if_neg h1,if_neg h2]]
   go_enter Tryz.func184,Tryz.ntmps184
   go_wp2_with (go_at_call 192;(with_reducible refine (isNaN_any _ _).mono ?_);rintro e w' ⟨rfl,rfl⟩)
   go_ret
   exact ⟨rfl,rfl⟩
theorem less_any (x y:MP) (w:World) (hx:w.cell? ⟨x.1,0,none⟩=some (.int .i64 x.2.w)) (hy:w.cell? ⟨y.1,0,none⟩=some (.int .i64 y.2.w)) :
  Calls Tryz.prog 183 #[.pointer (some ⟨x.1,0,none⟩),.pointer (some ⟨y.1,0,none⟩)] w fun e w'=>e=.returned (.int .i64 (cmpI x.2.w y.2.w))∧∃ q,w'=w.drewN q:=by
 generalize x.2.w=a at *
 generalize y.2.w=b at *
 generalize x.1=x at *
 generalize y.1=y at *
 go_enter Tryz.func183,Tryz.ntmps183
 go_wp2_with fail
 go_quiet ((go_at_call 184;exact Calls.quiet_of_same ((compare_any _ _ _).mono fun _ _ h=>⟨h.1,h.2.symm⟩)))
 go_wp2_with fail
 go_ret
 exact ⟨rfl,_,rfl⟩
/-- The row of members between the two runs, and behind them: swapRange. -/
theorem swap_step (P X M Y R:List MP) (i:Nat) (hX:i < X.length) (hl:X.length=Y.length) :
  P ++ (Y.take i ++ X.drop i) ++ M ++ (X.take i ++ Y.drop i) ++ R =
   (P ++ Y.take i) ++ X[i] :: ((X.drop (i+1) ++ M ++ X.take i) ++ (Y[i]'(by omega)) :: (Y.drop (i+1) ++ R)) ∧
  P ++ (Y.take (i+1) ++ X.drop (i+1)) ++ M ++ (X.take (i+1) ++ Y.drop (i+1)) ++ R =
   (P ++ Y.take i) ++ (Y[i]'(by omega)) :: ((X.drop (i+1) ++ M ++ X.take i) ++ X[i] :: (Y.drop (i+1) ++ R)):=by
 constructor
 ·rw [List.drop_eq_getElem_cons (l:=X) hX,List.drop_eq_getElem_cons (l:=Y) (i:=i) (by omega)];simp only [List.append_assoc,List.cons_append,List.nil_append]
 ·rw [List.take_succ_eq_append_getElem (l:=X) hX,List.take_succ_eq_append_getElem (l:=Y) (i:=i) (by omega)];simp only [List.append_assoc,List.cons_append,List.nil_append]
set_option maxRecDepth 100000 in
set_option maxHeartbeats 1600000 in
theorem swapRange_any (w0 W:World) (base g n c:Nat) (P X M Y R:List MP) (f:Value) (h:SortW w0 base g n c (P ++ X ++ M ++ Y ++ R) W) (hl:X.length=Y.length) (hn:n≤1099511627776) (a b k:Nat)
  (ha:a=P.length) (hb:b=P.length+X.length+M.length) (hk:k=X.length) :
  Calls Tryz.prog 198 #[.slice (some ⟨g,0,none⟩) n c,.int .i64 a,.int .i64 b,.int .i64 k,f] W fun e w' =>
   e=.returned (.tuple #[])∧SortW w0 base g n c (P ++ Y ++ M ++ X ++ R) w':=by
 have hlen:=h.len
 simp only [List.length_append] at hlen
 have HS:=Lib.hid h
 have HA:=Lib.hid ha
 have HB:=Lib.hid hb
 have HK:=Lib.hid hk
 have z1:a+k≤n:=by omega
 have z2:b+k≤n:=by omega
 have HL:=Lib.hid hl
 have HN:=Lib.hid hlen
 clear h ha hb hk hl hlen
 go_enter Tryz.func198,Tryz.ntmps198
 go_wp2
 go_loopw [10] (fun i wr=>∃ j:Nat,j≤k∧i=.int .i64 j∧SortW w0 base g n c (P ++ (Y.take j ++ X.drop j) ++ M ++ (X.take j ++ Y.drop j) ++ R) wr)
  (fun i _=>k - (intOf i).toNat)
 case atStart=>exact ⟨0,Nat.zero_le _,rfl,by simpa using HS.out⟩
 case round =>
  clear HS
  obtain ⟨j,hj,rfl,hS⟩:=hrel
  by_cases hlt:j < k
  ·have hjX:j < X.length:=by rw [← HK.out];exact hlt
   have hjY:j < Y.length:=by rw [← HL.out];exact hjX
   obtain ⟨e1,e2⟩:=swap_step P X M Y R j hjX HL.out
   rw [e1] at hS
   have E2:=Lib.hid e2
   clear e1 e2
   have l1:(P ++ Y.take j).length=a+j:=by rw [HA.out];simp;omega
   have l2:(P ++ Y.take j).length+1+(X.drop (j+1) ++ M ++ X.take j).length=b+j:=by
    rw [HB.out];simp;omega
   generalize hx:X[j]=x at hS E2
   generalize hy:Y[j]=y at hS E2
   have S1:=hS.swp.drew
   have c1:=hS.at_
   have c2:=hS.at2
   have c3:=hS.at3 (.pointer (some ⟨y.1,0,none⟩))
   rw [l2] at c2
   rw [l2,l1] at c3
   rw [l1] at c1
   rw [l2,l1] at S1
   have f1:=hS.fr (a+j)
   have f2:=hS.fr (b+j)
   have T1:=Lib.hid S1
   clear S1 hS l1 l2 hx hy
   have m1:((a:Int)+j).toNat=a+j:=by omega
   have m2:((b:Int)+j).toNat=b+j:=by omega
   have m3:IntKind.i64.wrap ((a:Int)+j)=(a:Int)+j:=by rw [IntKind.wrap_i64];omega
   have m4:IntKind.i64.wrap ((b:Int)+j)=(b:Int)+j:=by rw [IntKind.wrap_i64];omega
   have p1:(0:Int)≤(a:Int)+j:=by omega
   have p2:(0:Int)≤(b:Int)+j:=by omega
   have q1:(a:Int)+j < n:=by omega
   have q2:(b:Int)+j < n:=by omega
   go_wp2_with fail
   go_region
   go_wp2_with fail
   go_roundw
   case rel=>exact ⟨j+1,by omega,by go_num,T1.out.same E2.out.symm⟩
   case measure=>simp [intOf];omega
  ·obtain rfl:j=k:=by omega
   go_wp2
   go_end0
   refine ⟨rfl,hS.same ?_⟩
   rw [List.take_of_length_le (by rw [HK.out,HL.out];exact Nat.le_refl _),List.drop_eq_nil_of_le (by rw [HK.out];exact Nat.le_refl _),List.take_of_length_le (by rw [HK.out];exact Nat.le_refl _),List.drop_eq_nil_of_le (by rw [HK.out,HL.out];exact Nat.le_refl _)]
   simp
end Go.Proofs.YteoolehdomjkkaaGreat

/- slices.SortStableFunc over rows of members: rotate, insertionSort. -/
namespace Go.Proofs.YteoolehdomjkkaaGreat
set_option linter.all false
open Go.RowKit
theorem swapRange_int (w0 W:World) (base g n c:Nat) (P X M Y R:List MP) (f:Value) (h:SortW w0 base g n c (P ++ X ++ M ++ Y ++ R) W) (hl:X.length=Y.length) (hn:n≤1099511627776) (a b k:Int)
  (ha:a=P.length) (hb:b=P.length+X.length+M.length) (hk:k=X.length) :
  Calls Tryz.prog 198 #[.slice (some ⟨g,0,none⟩) n c,.int .i64 a,.int .i64 b,.int .i64 k,f] W fun e w' =>
   e=.returned (.tuple #[])∧SortW w0 base g n c (P ++ Y ++ M ++ X ++ R) w':=by
 subst ha hk
 have hb':b=((P.length+X.length+M.length:Nat):Int):=by omega
 subst hb'
 exact swapRange_any w0 W base g n c P X M Y R f h hl hn _ _ _ rfl rfl rfl
set_option maxRecDepth 100000 in
set_option maxHeartbeats 1600000 in
theorem rotate_any (w0 W:World) (base g n c:Nat) (P U V R:List MP) (f:Value) (h:SortW w0 base g n c (P ++ U ++ V ++ R) W) (hU:0 < U.length) (hV:0 < V.length) (hn:n≤1099511627776) (a m b:Nat)
  (ha:a=P.length) (hm:m=P.length+U.length) (hb:b=P.length+U.length+V.length) :
  Calls Tryz.prog 197 #[.slice (some ⟨g,0,none⟩) n c,.int .i64 a,.int .i64 m,.int .i64 b,f] W fun e w' =>
   e=.returned (.tuple #[])∧SortW w0 base g n c (P ++ V ++ U ++ R) w':=by
 have hlen:=h.len
 simp only [List.length_append] at hlen
 have HS:=Lib.hid h
 have e1:(m:Int) - a=(U.length:Int):=by omega
 have e2:(b:Int) - m=(V.length:Int):=by omega
 have zm:m=P.length+U.length:=hm
 have b1:b≤n:=by omega
 have b2:a≤m:=by omega
 have b3:m≤b:=by omega
 have E1:=Lib.hid e1
 have E2:=Lib.hid e2
 have ZM:=Lib.hid zm
 clear h ha hm hb hlen e1 e2 zm
 go_enter Tryz.func197,Tryz.ntmps197
 go_wp2
 go_loopw [10,11] (fun vi vj wr=>∃ (i j:Nat) (P' U' V' R':List MP),vi=.int .i64 i∧vj=.int .i64 j∧0 < i∧0 < j∧i≤m∧m+j≤n∧Hid (i=U'.length)∧Hid (j=V'.length)∧Hid (m=P'.length+i)∧Hid (SortW w0 base g n c (P' ++ U' ++ V' ++ R') wr)∧Hid (P' ++ V' ++ U' ++ R'=P ++ V ++ U ++ R))
  (fun vi vj _=>(intOf vi).toNat+(intOf vj).toNat)
 case atStart=>exact ⟨U.length,V.length,P,U,V,R,by rw [E1.out],by rw [E2.out],hU,hV,by have:=E1.out;omega,by have:=E2.out;omega,rfl,rfl,ZM.out,HS.out,rfl⟩
 case round =>
  clear HS E1 E2 ZM
  obtain ⟨i,j,P',U',V',R',rfl,rfl,hi,hj,him,hjn,HI,HJ,HM,HS,HE⟩:=hrel
  by_cases hij:i=j
  ·subst hij
   have HC:=Lib.hid (swapRange_int w0 wr base g n c P' U' [] V' R' f (by simpa using HS.out) (by rw [← HI.out,← HJ.out]) hn ((m:Int) - i) m i (by have:=HM.out;omega) (by have:=HM.out;have:=HI.out;simp;omega) (by have:=HI.out;omega))
   go_wp2_with (go_at_call 198;(with_reducible refine HC.out.mono ?_);go_must (rintro e w1 ⟨rfl,hS1⟩;have HS1:=Lib.hid hS1;clear hS1))
   go_end0
   refine ⟨rfl,HS1.out.same ?_⟩
   rw [← HE.out]
   simp
  ·by_cases hgt:j < i
   ·have e3:U'=U'.take j ++ U'.drop j:=(List.take_append_drop j U').symm
    have HC:=Lib.hid (swapRange_int w0 wr base g n c P' (U'.take j) (U'.drop j) V' R' f (by have:=HS.out;rw [e3] at this;simpa using this) (by have:=HI.out;have:=HJ.out;simp;omega) hn ((m:Int) - i) m j (by have:=HM.out;omega) (by have:=HM.out;have:=HI.out;simp;omega) (by have:=HI.out;simp;omega))
    clear e3
    go_wp2_with (go_at_call 198;(with_reducible refine HC.out.mono ?_);go_must (rintro e w1 ⟨rfl,hS1⟩;have HS1:=Lib.hid hS1;clear hS1))
    go_roundw
    case rel =>
     refine ⟨i - j,j,P' ++ V',U'.drop j,U'.take j,R',by go_num,rfl,by omega,by omega,by omega,by omega,?_,?_,?_,?_,?_⟩
     ·exact show _=_ by have:=HI.out;simp;omega
     ·exact show _=_ by have:=HI.out;simp;omega
     ·exact show _=_ by have:=HM.out;have:=HJ.out;simp;omega
     ·exact HS1.out
     ·exact show _=_ by rw [← HE.out];simp
    case measure=>simp [intOf];omega
   ·have hlt:i < j:=by omega
    have e3:V'=V'.take (j - i) ++ V'.drop (j - i):=(List.take_append_drop _ V').symm
    have HC:=Lib.hid (swapRange_int w0 wr base g n c P' U' (V'.take (j - i)) (V'.drop (j - i)) R' f (by have:=HS.out;rw [e3] at this;simpa using this) (by have:=HI.out;have:=HJ.out;simp;omega) hn ((m:Int) - i) ((m:Int)+j - i) i (by have:=HM.out;omega) (by have:=HM.out;have:=HI.out;have:=HJ.out;simp;omega) (by have:=HI.out;omega))
    clear e3
    go_wp2_with (go_at_call 198;(with_reducible refine HC.out.mono ?_);go_must (rintro e w1 ⟨rfl,hS1⟩;have HS1:=Lib.hid hS1;clear hS1))
    go_roundw
    case rel =>
     refine ⟨i,j - i,P',V'.drop (j - i),V'.take (j - i),U' ++ R',rfl,by go_num,by omega,by omega,by omega,by omega,?_,?_,?_,?_,?_⟩
     ·exact show _=_ by have:=HJ.out;simp;omega
     ·exact show _=_ by have:=HJ.out;simp;omega
     ·exact HM
     ·exact HS1.out.same (by simp)
     ·exact show _=_ by rw [← HE.out];simp
    case measure=>simp [intOf];omega
/-- The row while one element goes down: insertionSort. -/
theorem ins_split {S:List MP} {i:Nat} (h:i < S.length):stab (fun x:MP=>x.2.w) (S.take i) ++ S.drop i=stab (fun x:MP=>x.2.w) (S.take i) ++ S[i] :: S.drop (i+1):=by
 rw [List.drop_eq_getElem_cons h]
theorem gt_cons {x y:MP} {B:List MP} (h:x.2.w < y.2.w) (k:∀ z ∈ B,x.2.w < z.2.w):∀ z ∈ y :: B,x.2.w < z.2.w:=fun z hz=>by
 rcases List.mem_cons.1 hz with rfl | hz
 ·exact h
 ·exact k z hz
set_option maxRecDepth 100000 in
set_option maxHeartbeats 3200000 in
theorem insertion_any (w0 W:World) (base g n c:Nat) (P S R:List MP) (h:SortW w0 base g n c (P ++ S ++ R) W) (hn:n≤1099511627776) (a b:Nat)
  (ha:a=P.length) (hb:b=P.length+S.length) :
  Calls Tryz.prog 195 #[.slice (some ⟨g,0,none⟩) n c,.int .i64 a,.int .i64 b,.func (.func 183) #[] #[]] W fun e w' =>
   e=.returned (.tuple #[])∧SortW w0 base g n c (P ++ stab (fun x:MP=>x.2.w) S ++ R) w':=by
 have hlen:=h.len
 simp only [List.length_append] at hlen
 have h0:SortW w0 base g n c (P ++ (stab (fun x:MP=>x.2.w) (S.take 1) ++ S.drop 1) ++ R) W:=by
  refine h.same ?_
  cases S with
  | nil=>rfl
  | cons x t=>rfl
 have HS:=Lib.hid h0
 have b1:b≤n:=by omega
 have b2:a≤b:=by omega
 have HA:=Lib.hid ha
 have HB:=Lib.hid hb
 clear h h0 ha hb hlen
 go_enter Tryz.func195,Tryz.ntmps195
 go_wp2
 go_loopw [8] (fun vi wr=>∃ i:Nat,vi=.int .i64 ((a:Int)+i)∧1≤i∧a+i≤b+1∧Hid (SortW w0 base g n c (P ++ (stab (fun x:MP=>x.2.w) (S.take i) ++ S.drop i) ++ R) wr))
  (fun vi _=>b+1 - (intOf vi).toNat)
 case atStart=>exact ⟨1,rfl,by omega,by omega,HS⟩
 case round =>
  clear HS
  obtain ⟨i,rfl,hi1,hib,HS⟩:=hrel
  by_cases hlt:a+i < b
  ·have hiS:i < S.length:=by have:=HA.out;have:=HB.out;omega
   have hltz:(a:Int)+i < b:=by omega
   go_wp2
   go_loopw [9] (fun vj wr=>∃ (j:Nat) (A B:List MP),vj=.int .i64 j∧a≤j∧j≤a+i∧Hid (j=P.length+A.length)∧Hid (stab (fun x:MP=>x.2.w) (S.take i)=A ++ B)∧Hid (∀ y ∈ B,S[i].2.w < y.2.w)∧Hid (SortW w0 base g n c (P ++ (A ++ S[i] :: B ++ S.drop (i+1)) ++ R) wr))
    (fun vj _=>(intOf vj).toNat)
   case atStart =>
    have e0:=HS.out
    rw [ins_split hiS] at e0
    refine ⟨a+i,stab (fun x:MP=>x.2.w) (S.take i),[],by go_num,by omega,by omega,?_,(show _=_ by simp),(show ∀ y ∈ _,_ by simp),e0.same (by simp)⟩
    exact show _=_ by rw [(stab_ss (wt:=fun x:MP=>x.2.w) (S.take i)).2.length];have:=HA.out;simp;omega
   case round =>
    clear HS
    obtain ⟨j,A,B,rfl,haj,hji,HJ,HT,HG,HS⟩:=hrel
    have hsrt:Srt (fun x:MP=>x.2.w) (A ++ B):=by rw [← HT.out];exact (stab_ss _).1
    by_cases hja:a < j
    ·-- a lower neighbour stands there
     have hA:A ≠ []:=by
      rintro rfl
      have:=HJ.out;have:=HA.out;simp at *;omega
     obtain ⟨A',y,rfl⟩:∃ A' y,A=A' ++ [y]:=⟨A.dropLast,A.getLast hA,(List.dropLast_concat_getLast hA).symm⟩
     obtain ⟨q,rfl⟩:∃ q,j=q+1:=⟨j - 1,by omega⟩
     have lq:(P ++ A').length=q:=by have:=HJ.out;simp at *;omega
     have hS:SortW w0 base g n c ((P ++ A') ++ y :: S[i] :: (B ++ S.drop (i+1) ++ R)) wr:=HS.out.same (by simp)
     generalize hx:S[i]=x at *
     have hGx:∀ z ∈ B,x.2.w < z.2.w:=fun z hz=>HG.out z hz
     have HW:=Lib.hid (fun m=>Calls.quiet_of (n:=m) (w:=wr) (less_any x y (wr.drewN m) (hS.wt (by simp)) (hS.wt (by simp))))
     have c1:=hS.at_
     have c2:=hS.nx
     have f1:=hS.fr q
     have f2:=hS.fr (q+1)
     rw [lq] at c1 c2
     have r1:IntKind.i64.wrap ((q:Int)+1)=(q:Int)+1:=by rw [IntKind.wrap_i64];omega
     have r2:IntKind.i64.wrap (q:Int)=(q:Int):=by rw [IntKind.wrap_i64];omega
     have g1:((q:Int)+1).toNat=q+1:=by omega
     have g2:(q:Int).toNat=q:=by omega
     have p1:(0:Int)≤(q:Int)+1:=by omega
     have p2:(0:Int)≤(q:Int):=by omega
     have p3:(q:Int)+1 < n:=by omega
     have p4:(q:Int) < n:=by omega
     have t1:(a:Int) < (q:Int)+1:=by omega
     have t2:decide ((q:Int)+1 > (a:Int))=true:=decide_eq_true t1
     by_cases hlt2:x.2.w < y.2.w
     ·have v1:cmpI x.2.w y.2.w < 0:=(cmpI_neg _ _).2 hlt2
      generalize cmpI x.2.w y.2.w=r at HW v1
      have v2:decide (r < 0)=true:=decide_eq_true v1
      have HS1:=Lib.hid (fun m=>(hS.drewN (m+1)).pws)
      have HC3:=Lib.hid (fun m=>(hS.drewN m).at3' (.pointer (some ⟨y.1,0,none⟩)))
      rw [lq] at HS1 HC3
      clear hS hx HS HG hsrt
      go_wp2_with fail
      go_quiet ((go_at_call 183;exact HW.out _))
      have c3:=HC3.out nq
      have S3:=Lib.hid (HS1.out nq)
      clear HC3 HS1 HW
      go_wp2_with fail
      go_region
      go_wp2_with fail
      go_roundw
      case rel=>exact ⟨q,A',y :: B,rfl,by omega,by omega,(show _=_ by rw [← lq];simp),(show _=_ by rw [HT.out];simp),gt_cons hlt2 hGx,S3.out.same (by simp)⟩
      case measure=>simp [intOf]
     ·have v1:¬ cmpI x.2.w y.2.w < 0:=fun h=>hlt2 ((cmpI_neg _ _).1 h)
      generalize cmpI x.2.w y.2.w=r at HW v1
      have v2:decide (r < 0)=false:=decide_eq_false v1
      have e9:stab (fun x:MP=>x.2.w) (S.take (i+1))=(A' ++ [y]) ++ x :: B:=by
       rw [List.take_succ_eq_append_getElem hiS,hx]
       refine stab_snoc HT.out (fun z hz=>?_) hGx
       have h2:=(Srt.append.1 hsrt).1
       rcases List.mem_append.1 hz with hz | hz
       ·have:=(Srt.append.1 h2).2.2 z hz y (by simp)
        omega
       ·have:z=y:=by simpa using hz
        subst this
        omega
      have HE9:=Lib.hid e9
      have HS1:=Lib.hid (fun m=>hS.drewN m)
      clear hS hx HS HG hsrt e9 hGx
      go_wp2_with fail
      go_quiet ((go_at_call 183;exact HW.out _))
      have S3:=Lib.hid (HS1.out nq)
      clear HS1 HW
      go_wp2_with fail
      go_roundw
      case rel=>exact ⟨i+1,by first | go_num | (congr 1;omega),by omega,by omega,S3.out.same (by rw [HE9.out] <;> simp)⟩
      case measure=>simp [intOf];omega
    ·obtain rfl:j=a:=by omega
     have hA:A=[]:=by
      have:=HJ.out;have:=HA.out;exact List.eq_nil_of_length_eq_zero (by omega)
     subst hA
     have e9:stab (fun x:MP=>x.2.w) (S.take (i+1))=[] ++ S[i] :: B:=by
      rw [List.take_succ_eq_append_getElem hiS]
      exact stab_snoc HT.out (fun z hz=>by cases hz) HG.out
     have HE9:=Lib.hid e9
     have t2:decide ((j:Int) > (j:Int))=false:=decide_eq_false (by omega)
     have HS1:=Lib.hid (fun m=>HS.out.drewN m)
     clear HS HG hsrt e9
     go_wp2_with fail
     go_quiet (fail)
     have S3:=Lib.hid (HS1.out nq)
     clear HS1
     go_wp2_with fail
     go_roundw
     case rel=>exact ⟨i+1,by first | go_num | (congr 1;omega),by omega,by omega,S3.out.same (by rw [HE9.out] <;> simp)⟩
     case measure=>simp [intOf];omega
  ·have hltz:¬ (a:Int)+i < b:=by omega
   go_wp2
   go_end0
   refine ⟨rfl,HS.out.same ?_⟩
   have:=HA.out
   have:=HB.out
   rw [List.take_of_length_le (by omega),List.drop_eq_nil_of_le (by omega),List.append_nil,List.append_assoc]
end Go.Proofs.YteoolehdomjkkaaGreat

/- slices.SortStableFunc over rows of members: symMerge. -/
namespace Go.Proofs.YteoolehdomjkkaaGreat
set_option linter.all false
open Go.RowKit
/-- The weight at a place. -/
def wd (d:List MP) (k:Nat):Int:=(d.getD k default).2.w
section
variable {w0 W : World} {base g n c : Nat} {d : List MP}
theorem SortW.gt (h:SortW w0 base g n c d W) {k:Nat} (hk:k < n):∃ z:MP,Hid (d[k]?=some z)∧W.cell? ⟨g,k,none⟩=some (.pointer (some ⟨z.1,0,none⟩))∧W.cell? ⟨z.1,0,none⟩=some (.int .i64 z.2.w)∧z.2.w=wd d k:=by
 have hl:=h.len
 have hk':k < d.length:=by omega
 refine ⟨d[k],List.getElem?_eq_getElem hk',?_,h.wt (List.getElem_mem hk'),?_⟩
 ·have:=h.own.cell h.len hk'
  exact this
 ·unfold wd
  rw [List.getD_eq_getElem?_getD,List.getElem?_eq_getElem hk']
  rfl
theorem SortW.swp0 {L1 L3:List MP} {x y:MP} (h:SortW w0 base g n c (L1 ++ x :: y :: L3) W) :
  SortW w0 base g n c (L1 ++ y :: x :: L3) ((W.setCell ⟨g,L1.length,none⟩ (.pointer (some ⟨y.1,0,none⟩))).setCell ⟨g,L1.length+1,none⟩ (.pointer (some ⟨x.1,0,none⟩))):=SortW.swp (L2:=[]) h
end
theorem stab_cons {α:Type} {wt:α→Int} {x:α} {B1 B2:List α} (h:Srt wt (B1 ++ B2)) (h1:∀ y ∈ B1,wt y < wt x) (h2:∀ y ∈ B2,wt x≤wt y):stab wt (x :: (B1 ++ B2))=B1 ++ x :: B2:=by
 refine (SS.eq_stab ⟨?_,?_⟩).symm
 ·obtain ⟨a1,a2,a3⟩:=Srt.append.1 h
  refine Srt.append.2 ⟨a1,?_,?_⟩
  ·unfold Srt
   rw [List.pairwise_cons]
   exact ⟨h2,a2⟩
  ·intro y hy z hz
   rcases List.mem_cons.1 hz with rfl | hz
   ·have:=h1 y hy;omega
   ·exact a3 y hy z hz
 ·have e:FEq wt ([x] ++ B1 ++ B2) (B1 ++ [x] ++ B2):=(FEq.swap (fun y hy z hz=>by
   have:y=x:=by simpa using hy
   subst this
   exact h1 z hz)).append (FEq.refl _)
  simpa using e
theorem wd_mid {P M R:List MP} {k t:Nat} (hk:k=P.length+t) (ht:t < M.length):wd (P ++ (M ++ R)) k=M[t].2.w:=by
 subst hk
 unfold wd
 rw [List.getD_eq_getElem?_getD,List.getElem?_append_right (by omega),Nat.add_sub_cancel_left,List.getElem?_append_left ht,List.getElem?_eq_getElem ht]
 rfl
theorem mem_take_at {α:Type} {l:List α} {n:Nat} {y:α} (h:y ∈ l.take n):∃ t,t < n∧∃ ht:t < l.length,l[t]=y:=by
 obtain ⟨t,ht,e⟩:=List.getElem_of_mem h
 rw [List.length_take] at ht
 exact ⟨t,by omega,by omega,by rw [List.getElem_take] at e;exact e⟩
theorem mem_drop_at {α:Type} {l:List α} {n:Nat} {y:α} (h:y ∈ l.drop n):∃ t,n≤t∧∃ ht:t < l.length,l[t]=y:=by
 obtain ⟨t,ht,e⟩:=List.getElem_of_mem h
 rw [List.length_drop] at ht
 exact ⟨n+t,by omega,by omega,by rw [List.getElem_drop] at e;exact e⟩
set_option maxRecDepth 100000 in
set_option maxHeartbeats 3200000 in
theorem sym_first (w0 W:World) (base g n c:Nat) (P:List MP) (x:MP) (B R:List MP) (h:SortW w0 base g n c (P ++ x :: (B ++ R)) W) (hn:n≤1099511627776) (a m b:Nat)
  (ha:a=P.length) (hm:m=a+1) (hb:b=a+1+B.length) (hB:Srt (fun x:MP=>x.2.w) B) :
  Calls Tryz.prog 196 #[.slice (some ⟨g,0,none⟩) n c,.int .i64 a,.int .i64 m,.int .i64 b,.func (.func 183) #[] #[]] W fun e w' =>
   e=.returned (.tuple #[])∧SortW w0 base g n c (P ++ stab (fun x:MP=>x.2.w) (x :: B) ++ R) w':=by
 have hlen:=h.len
 simp only [List.length_append,List.length_cons] at hlen
 have HS:=Lib.hid h
 have b1:b≤n:=by omega
 have b2:a < b:=by omega
 have b3:m≤b:=by omega
 have b4:a < n:=by omega
 have HA:=Lib.hid ha
 have HB:=Lib.hid hb
 have e1:(m:Int) - a=1:=by omega
 have HM:=Lib.hid hm
 clear h ha hb hlen hm
 go_enter Tryz.func196,Tryz.ntmps196
 go_wp2
 go_loopw [10,11] (fun vi vj wr=>∃ i j:Nat,vi=.int .i64 i∧vj=.int .i64 j∧m≤i∧i≤j∧j≤b∧Hid (∀ k,m≤k→k < i→wd (P ++ x :: (B ++ R)) k < x.2.w)∧Hid (∀ k,j≤k→k < b→x.2.w≤wd (P ++ x :: (B ++ R)) k)∧Hid (SortW w0 base g n c (P ++ x :: (B ++ R)) wr))
  (fun vi vj _=>(intOf vj).toNat - (intOf vi).toNat)
 case atStart=>exact ⟨m,b,rfl,rfl,by omega,by omega,by omega,(show ∀ k,_ by intro k;omega),(show ∀ k,_ by intro k;omega),HS⟩
 case round =>
  clear HS
  obtain ⟨i,j,rfl,rfl,hmi,hij,hjb,H1,H2,HS⟩:=hrel
  by_cases hlt:i < j
  ·go_wp2_with fail
   have eh:((i:Int)+j) / 2=(((i+j) / 2:Nat):Int):=by omega
   rw [eh]
   clear eh
   obtain ⟨z,hz,cz,cwz,ewz⟩:=HS.out.gt (k:=(i+j) / 2) (by omega)
   have hh1:i≤(i+j) / 2:=by omega
   have hh2:(i+j) / 2 < j:=by omega
   have ca:=HS.out.at_
   have cwa:=HS.out.wt (x:=x) (by simp)
   rw [← HA.out] at ca
   have HW:=Lib.hid (fun q=>Calls.quiet_of (n:=q) (w:=wr) (less_any z x (wr.drewN q) cwz cwa))
   have HE:=Lib.hid ewz
   clear hz ewz cwz cwa
   generalize (i+j) / 2=k at *
   have g1:(k:Int).toNat=k:=by omega
   have p3:(k:Int) < n:=by omega
   have p4:(a:Int) < n:=by omega
   have hmono:∀ k1 k2,m≤k1→k1≤k2→k2 < b→wd (P ++ x :: (B ++ R)) k1≤wd (P ++ x :: (B ++ R)) k2:=by
    intro k1 k2 q1 q2 q3
    have l1:=HA.out
    have l2:=HB.out
    have l3:=HM.out
    have w1:=wd_mid (P:=P ++ [x]) (M:=B) (R:=R) (k:=k1) (t:=k1 - m) (by simp;omega) (by omega)
    have w2:=wd_mid (P:=P ++ [x]) (M:=B) (R:=R) (k:=k2) (t:=k2 - m) (by simp;omega) (by omega)
    simp only [List.append_assoc,List.cons_append,List.nil_append] at w1 w2
    rw [w1,w2]
    rcases Nat.lt_or_eq_of_le q2 with q2 | rfl
    ·exact (List.pairwise_iff_getElem.1 hB) (k1 - m) (k2 - m) (by omega) (by omega) (by omega)
    ·exact Int.le_refl _
   have HMO:=Lib.hid hmono
   clear hmono
   by_cases hc:z.2.w < x.2.w
   ·have v1:cmpI z.2.w x.2.w < 0:=(cmpI_neg _ _).2 hc
    have hc':wd (P ++ x :: (B ++ R)) k < x.2.w:=by rw [← HE.out];exact hc
    generalize cmpI z.2.w x.2.w=r at HW v1
    have v2:decide (r < 0)=true:=decide_eq_true v1
    have HC:=Lib.hid hc'
    have HS1:=Lib.hid (fun m=>HS.out.drewN m)
    clear hc hc' HS
    go_quiet ((go_at_call 183;exact HW.out _))
    have HS:=Lib.hid (HS1.out nq)
    clear HS1 HW
    go_wp2_with fail
    go_roundw
    case rel=>exact ⟨k+1,j,by go_num,rfl,by omega,by omega,by omega,(show ∀ q,_ from fun q q1 q2=>by have:=HMO.out q k q1 (by omega) (by omega);have:=HC.out;omega),H2,HS⟩
    case measure=>simp [intOf];omega
   ·have v1:¬ cmpI z.2.w x.2.w < 0:=fun h=>hc ((cmpI_neg _ _).1 h)
    have hc':x.2.w≤wd (P ++ x :: (B ++ R)) k:=by rw [← HE.out];omega
    generalize cmpI z.2.w x.2.w=r at HW v1
    have v2:decide (r < 0)=false:=decide_eq_false v1
    have HC:=Lib.hid hc'
    have HS1:=Lib.hid (fun m=>HS.out.drewN m)
    clear hc hc' HS
    go_quiet ((go_at_call 183;exact HW.out _))
    have HS:=Lib.hid (HS1.out nq)
    clear HS1 HW
    go_wp2_with fail
    go_roundw
    case rel=>exact ⟨i,k,rfl,rfl,by omega,by omega,by omega,H1,(show ∀ q,_ from fun q q1 q2=>by have:=HMO.out k q (by omega) q1 q2;have:=HC.out;omega),HS⟩
    case measure=>simp [intOf];omega
  ·obtain rfl:i=j:=by omega
   clear hlt hij
   have e9:stab (fun x:MP=>x.2.w) (x :: B)=B.take (i - m) ++ x :: B.drop (i - m):=by
    have l1:=HA.out
    have l2:=HB.out
    have l3:=HM.out
    have:=stab_cons (wt:=fun x:MP=>x.2.w) (x:=x) (B1:=B.take (i - m)) (B2:=B.drop (i - m)) (by rw [List.take_append_drop];exact hB) ?_ ?_
    ·rwa [List.take_append_drop] at this
    ·intro y hy
     obtain ⟨t,t1,t2,rfl⟩:=mem_take_at hy
     have w1:=wd_mid (P:=P ++ [x]) (M:=B) (R:=R) (k:=m+t) (t:=t) (by simp;omega) t2
     simp only [List.append_assoc,List.cons_append,List.nil_append] at w1
     have:=H1.out (m+t) (by omega) (by omega)
     omega
    ·intro y hy
     obtain ⟨t,t1,t2,rfl⟩:=mem_drop_at hy
     have w1:=wd_mid (P:=P ++ [x]) (M:=B) (R:=R) (k:=m+t) (t:=t) (by simp;omega) t2
     simp only [List.append_assoc,List.cons_append,List.nil_append] at w1
     have:=H2.out (m+t) (by omega) (by omega)
     omega
   have HE9:=Lib.hid e9
   clear e9 H1 H2
   obtain ⟨s,hs⟩:∃ s,i=m+s:=⟨i - m,by omega⟩
   have hsB:s≤B.length:=by have:=HB.out;have:=HM.out;omega
   rw [show i - m=s by omega] at HE9
   have hs2:=HM.out
   have hi:i=a+1+s:=by omega
   clear hs hs2
   subst hi
   go_wp2
   go_loopw [13] (fun vk wr=>∃ t:Nat,vk=.int .i64 ((a+t:Nat):Int)∧t≤s∧Hid (SortW w0 base g n c (P ++ (B.take t ++ x :: (B.drop t ++ R))) wr))
    (fun vk _=>a+s - (intOf vk).toNat)
   case atStart=>exact ⟨0,rfl,by omega,HS⟩
   case round =>
    clear HS
    obtain ⟨t,rfl,hts,HS⟩:=hrel
    by_cases hlt:t < s
    ·have ht:t < B.length:=by omega
     have hS:=HS.out
     rw [List.drop_eq_getElem_cons ht] at hS
     have hS2:SortW w0 base g n c ((P ++ B.take t) ++ x :: B[t] :: (B.drop (t+1) ++ R)) wr:=hS.same (by simp only [List.append_assoc,List.cons_append])
     have lq:(P ++ B.take t).length=a+t:=by have:=HA.out;simp;omega
     have eT:P ++ (B.take (t+1) ++ x :: (B.drop (t+1) ++ R))=(P ++ B.take t) ++ B[t] :: x :: (B.drop (t+1) ++ R):=by
      rw [List.take_succ_eq_append_getElem ht];simp only [List.append_assoc,List.cons_append,List.nil_append]
     generalize B[t]=y at hS2 eT
     have ET:=Lib.hid eT
     have c1:=hS2.at_
     have c2:=hS2.nx
     have c3:=SortW.at3 (L2:=[]) hS2 (.pointer (some ⟨y.1,0,none⟩))
     have S1:=hS2.swp0.drew
     have f1:=hS2.fr (a+t)
     have f2:=hS2.fr (a+t+1)
     rw [List.length_nil,Nat.add_zero] at c3
     rw [lq] at c1 c2 c3 S1
     have HS1:=Lib.hid S1
     clear S1 hS hS2 HS lq eT
     have hti:((a+t:Nat):Int) < (a+1+s:Nat) - 1:=by omega
     generalize hk:a+t=k at *
     have r1:IntKind.i64.wrap ((k:Int)+1)=(k:Int)+1:=by rw [IntKind.wrap_i64];omega
     have g1:((k:Int)+1).toNat=k+1:=by omega
     have g2:(k:Int).toNat=k:=by omega
     have p1:(0:Int)≤(k:Int)+1:=by omega
     have p3:(k:Int)+1 < n:=by omega
     have p4:(k:Int) < n:=by omega
     have HK:=Lib.hid hk
     clear hk
     go_wp2_with fail
     go_region
     go_wp2_with fail
     go_roundw
     case rel=>exact ⟨t+1,by rw [← HK.out];go_num,by omega,HS1.out.same ET.out.symm⟩
     case measure=>have:=HK.out;simp [intOf];omega
    ·obtain rfl:t=s:=by omega
     have hti:¬ ((a:Int)+t < (a:Int)+1+t - 1):=by omega
     go_wp2
     refine bodyPost_ret (v:=.tuple #[]) (results_none rfl _ _ _) rfl ?_
     exact ⟨rfl,HS.out.same (by rw [HE9.out];simp)⟩
end Go.Proofs.YteoolehdomjkkaaGreat

/- slices.SortStableFunc over rows of members: symMerge, one element behind. -/
namespace Go.Proofs.YteoolehdomjkkaaGreat
set_option linter.all false
open Go.RowKit
theorem stab_last {α:Type} {wt:α→Int} {x:α} {A1 A2:List α} (h:Srt wt (A1 ++ A2)) (h1:∀ y ∈ A1,wt y≤wt x) (h2:∀ y ∈ A2,wt x < wt y):stab wt ((A1 ++ A2) ++ [x])=A1 ++ x :: A2 :=
 stab_snoc (SS.of h).eq_stab.symm h1 h2
set_option maxRecDepth 100000 in
set_option maxHeartbeats 3200000 in
theorem sym_last (w0 W:World) (base g n c:Nat) (P:List MP) (x:MP) (A R:List MP) (h:SortW w0 base g n c (P ++ (A ++ x :: R)) W) (hn:n≤1099511627776) (a m b:Nat)
  (ha:a=P.length) (hm:m=a+A.length) (hb:b=m+1) (h1:A.length ≠ 1) (hB:Srt (fun x:MP=>x.2.w) A) :
  Calls Tryz.prog 196 #[.slice (some ⟨g,0,none⟩) n c,.int .i64 a,.int .i64 m,.int .i64 b,.func (.func 183) #[] #[]] W fun e w' =>
   e=.returned (.tuple #[])∧SortW w0 base g n c (P ++ stab (fun x:MP=>x.2.w) (A ++ [x]) ++ R) w':=by
 have hlen:=h.len
 simp only [List.length_append,List.length_cons] at hlen
 have HS:=Lib.hid h
 have b1:b≤n:=by omega
 have b2:a≤m:=by omega
 have b3:m < b:=by omega
 have b4:m < n:=by omega
 have HA:=Lib.hid ha
 have HM:=Lib.hid hm
 have e1:¬ ((m:Int) - a=1):=by omega
 have e1':(((m:Int) - a) == 1)=false:=by simpa using e1
 have e2:(b:Int) - m=1:=by omega
 have HB:=Lib.hid hb
 clear h ha hb hlen hm h1
 go_enter Tryz.func196,Tryz.ntmps196
 go_wp2
 go_loopw [14,15] (fun vi vj wr=>∃ i j:Nat,vi=.int .i64 i∧vj=.int .i64 j∧a≤i∧i≤j∧j≤m∧Hid (∀ k,a≤k→k < i→wd (P ++ (A ++ x :: R)) k≤x.2.w)∧Hid (∀ k,j≤k→k < m→x.2.w < wd (P ++ (A ++ x :: R)) k)∧Hid (SortW w0 base g n c (P ++ (A ++ x :: R)) wr))
  (fun vi vj _=>(intOf vj).toNat - (intOf vi).toNat)
 case atStart=>exact ⟨a,m,rfl,rfl,by omega,by omega,by omega,(show ∀ k,_ by intro k;omega),(show ∀ k,_ by intro k;omega),HS⟩
 case round =>
  clear HS
  obtain ⟨i,j,rfl,rfl,hmi,hij,hjb,H1,H2,HS⟩:=hrel
  by_cases hlt:i < j
  ·go_wp2_with fail
   have eh:((i:Int)+j) / 2=(((i+j) / 2:Nat):Int):=by omega
   rw [eh]
   clear eh
   obtain ⟨z,hz,cz,cwz,ewz⟩:=HS.out.gt (k:=(i+j) / 2) (by omega)
   have hh1:i≤(i+j) / 2:=by omega
   have hh2:(i+j) / 2 < j:=by omega
   have ca:=SortW.at_ (L1:=P ++ A) (x:=x) (L2:=R) (HS.out.same (by simp))
   have cwa:=HS.out.wt (x:=x) (by simp)
   rw [show (P ++ A).length=m by have:=HA.out;have:=HM.out;simp;omega] at ca
   have HW:=Lib.hid (fun q=>Calls.quiet_of (n:=q) (w:=wr) (less_any x z (wr.drewN q) cwa cwz))
   have HE:=Lib.hid ewz
   clear hz ewz cwz cwa
   generalize (i+j) / 2=k at *
   have g1:(k:Int).toNat=k:=by omega
   have p3:(k:Int) < n:=by omega
   have p4:(m:Int) < n:=by omega
   have hmono:∀ k1 k2,a≤k1→k1≤k2→k2 < m→wd (P ++ (A ++ x :: R)) k1≤wd (P ++ (A ++ x :: R)) k2:=by
    intro k1 k2 q1 q2 q3
    have l1:=HA.out
    have l2:=HB.out
    have l3:=HM.out
    have w1:=wd_mid (P:=P) (M:=A) (R:=x :: R) (k:=k1) (t:=k1 - a) (by omega) (by omega)
    have w2:=wd_mid (P:=P) (M:=A) (R:=x :: R) (k:=k2) (t:=k2 - a) (by omega) (by omega)
    rw [w1,w2]
    rcases Nat.lt_or_eq_of_le q2 with q2 | rfl
    ·exact (List.pairwise_iff_getElem.1 hB) (k1 - a) (k2 - a) (by omega) (by omega) (by omega)
    ·exact Int.le_refl _
   have HMO:=Lib.hid hmono
   clear hmono
   by_cases hc:x.2.w < z.2.w
   ·have v1:cmpI x.2.w z.2.w < 0:=(cmpI_neg _ _).2 hc
    have hc':x.2.w < wd (P ++ (A ++ x :: R)) k:=by rw [← HE.out];exact hc
    generalize cmpI x.2.w z.2.w=r at HW v1
    have v2:decide (r < 0)=true:=decide_eq_true v1
    have HC:=Lib.hid hc'
    have HS1:=Lib.hid (fun m=>HS.out.drewN m)
    clear hc hc' HS
    go_quiet ((go_at_call 183;exact HW.out _))
    have HS:=Lib.hid (HS1.out nq)
    clear HS1 HW
    go_wp2_with fail
    go_roundw
    case rel=>exact ⟨i,k,rfl,rfl,by omega,by omega,by omega,H1,(show ∀ q,_ from fun q q1 q2=>by have:=HMO.out k q (by omega) q1 q2;have:=HC.out;omega),HS⟩
    case measure=>simp [intOf];omega
   ·have v1:¬ cmpI x.2.w z.2.w < 0:=fun h=>hc ((cmpI_neg _ _).1 h)
    have hc':wd (P ++ (A ++ x :: R)) k≤x.2.w:=by rw [← HE.out];omega
    generalize cmpI x.2.w z.2.w=r at HW v1
    have v2:decide (r < 0)=false:=decide_eq_false v1
    have HC:=Lib.hid hc'
    have HS1:=Lib.hid (fun m=>HS.out.drewN m)
    clear hc hc' HS
    go_quiet ((go_at_call 183;exact HW.out _))
    have HS:=Lib.hid (HS1.out nq)
    clear HS1 HW
    go_wp2_with fail
    go_roundw
    case rel=>exact ⟨k+1,j,by go_num,rfl,by omega,by omega,by omega,(show ∀ q,_ from fun q q1 q2=>by have:=HMO.out q k q1 (by omega) (by omega);have:=HC.out;omega),H2,HS⟩
    case measure=>simp [intOf];omega
  ·obtain rfl:i=j:=by omega
   clear hlt hij
   have e9:stab (fun x:MP=>x.2.w) (A ++ [x])=A.take (i - a) ++ x :: A.drop (i - a):=by
    have l1:=HA.out
    have l2:=HB.out
    have l3:=HM.out
    have:=stab_last (wt:=fun x:MP=>x.2.w) (x:=x) (A1:=A.take (i - a)) (A2:=A.drop (i - a)) (by rw [List.take_append_drop];exact hB) ?_ ?_
    ·rwa [List.take_append_drop] at this
    ·intro y hy
     obtain ⟨t,t1,t2,rfl⟩:=mem_take_at hy
     have w1:=wd_mid (P:=P) (M:=A) (R:=x :: R) (k:=a+t) (t:=t) (by omega) t2
     have:=H1.out (a+t) (by omega) (by omega)
     omega
    ·intro y hy
     obtain ⟨t,t1,t2,rfl⟩:=mem_drop_at hy
     have w1:=wd_mid (P:=P) (M:=A) (R:=x :: R) (k:=a+t) (t:=t) (by omega) t2
     have:=H2.out (a+t) (by omega) (by omega)
     omega
   have HE9:=Lib.hid e9
   have h7:SortW w0 base g n c (P ++ (A.take (i - a) ++ (A.drop (i - a)).take (m - i) ++ x :: ((A.drop (i - a)).drop (m - i) ++ R))) wr:=by
    refine HS.out.same ?_
    have:=HM.out
    rw [List.take_of_length_le (l:=A.drop (i - a)) (by simp;omega),List.drop_eq_nil_of_le (show (A.drop (i - a)).length≤m - i by simp;omega),List.take_append_drop]
    rfl
   have lA2:(A.drop (i - a)).length=m - i:=by have:=HM.out;simp;omega
   have lA1:(A.take (i - a)).length=i - a:=by have:=HM.out;simp;omega
   clear e9 H1 H2 HS
   generalize A.drop (i - a)=A2 at *
   generalize A.take (i - a)=A1 at *
   have HS:=Lib.hid h7
   clear h7
   obtain ⟨u,hu⟩:∃ u,m=i+u:=⟨m - i,by omega⟩
   have LA2:=Lib.hid (show A2.length=u by omega)
   have LA1:=Lib.hid (show P.length+A1.length=i by have:=HA.out;omega)
   rw [show m - i=u by omega] at HS
   clear lA1 lA2 HM
   subst hu
   go_wp2
   go_loopw [17] (fun vk wr=>∃ t:Nat,vk=.int .i64 ((i+t:Nat):Int)∧t≤u∧Hid (SortW w0 base g n c (P ++ (A1 ++ A2.take t ++ x :: (A2.drop t ++ R))) wr))
    (fun vk _=>(intOf vk).toNat)
   case atStart=>exact ⟨u,rfl,by omega,HS⟩
   case round =>
    clear HS
    obtain ⟨t,rfl,hts,HS⟩:=hrel
    by_cases hlt:0 < t
    ·obtain ⟨s,rfl⟩:∃ s,t=s+1:=⟨t - 1,by omega⟩
     have ht:s < A2.length:=by have:=LA2.out;omega
     have hS:=HS.out
     rw [List.take_succ_eq_append_getElem ht] at hS
     have hS2:SortW w0 base g n c ((P ++ A1 ++ A2.take s) ++ A2[s] :: x :: (A2.drop (s+1) ++ R)) wr:=hS.same (by simp only [List.append_assoc,List.cons_append,List.nil_append])
     have lq:(P ++ A1 ++ A2.take s).length=i+s:=by have:=LA1.out;simp;omega
     have eT:P ++ (A1 ++ A2.take s ++ x :: (A2.drop s ++ R))=(P ++ A1 ++ A2.take s) ++ x :: A2[s] :: (A2.drop (s+1) ++ R):=by
      rw [List.drop_eq_getElem_cons ht];simp only [List.append_assoc,List.cons_append,List.nil_append]
     generalize A2[s]=y at hS2 eT
     have ET:=Lib.hid eT
     have c1:=hS2.at_
     have c2:=hS2.nx
     have c3:=hS2.at3' (.pointer (some ⟨y.1,0,none⟩))
     have S1:=hS2.pws.drew
     have f1:=hS2.fr (i+s)
     have f2:=hS2.fr (i+s+1)
     rw [lq] at c1 c2 c3 S1
     have HS1:=Lib.hid S1
     clear S1 hS hS2 HS lq eT
     have hti:(i:Int) < (i:Int)+s+1:=by omega
     have hk:i+(s+1)=i+s+1:=by omega
     rw [hk]
     clear hk
     have hin:i≤i+s:=by omega
     generalize hk:i+s=k at *
     have r1:IntKind.i64.wrap ((k:Int)+1)=(k:Int)+1:=by rw [IntKind.wrap_i64];omega
     have r2:IntKind.i64.wrap (k:Int)=(k:Int):=by rw [IntKind.wrap_i64];omega
     have g1:((k:Int)+1).toNat=k+1:=by omega
     have g2:(k:Int).toNat=k:=by omega
     have p1:(0:Int)≤(k:Int)+1:=by omega
     have p3:(k:Int)+1 < n:=by omega
     have p4:(k:Int) < n:=by omega
     have p5:(i:Int) < (k:Int)+1:=by omega
     have HK:=Lib.hid hk
     clear hk hti
     go_wp2_with fail
     go_region
     go_wp2_with fail
     go_roundw
     case rel=>exact ⟨s,by rw [HK.out],by omega,HS1.out.same ET.out.symm⟩
     case measure=>simp [intOf]
    ·obtain rfl:t=0:=by omega
     go_wp2
     refine bodyPost_ret (v:=.tuple #[]) (results_none rfl _ _ _) rfl ?_
     exact ⟨rfl,HS.out.same (by rw [HE9.out];simp)⟩
end Go.Proofs.YteoolehdomjkkaaGreat

