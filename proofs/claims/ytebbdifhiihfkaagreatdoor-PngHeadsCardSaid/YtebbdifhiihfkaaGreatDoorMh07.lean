/- XRowQ -/
import Derived.Test.YtebbdifhiihfkaaGreatDoorMh01
namespace Go.Proofs.YtebbdifhiihfkaaGreatDoor
set_option linter.all false
open Go.RowKit
def eQ (x:(List UInt8 × Option Addr × Nat × Nat)):List Value:=[Value.string ⟨x.1.toArray⟩,Value.slice x.2.1 x.2.2.1 x.2.2.2]
theorem eQ_len (x:(List UInt8 × Option Addr × Nat × Nat)):(eQ x).length=2:=rfl
/-- The cells of a list. -/
def cQ (l:List (List UInt8 × Option Addr × Nat × Nat)):List Value:=l.flatMap eQ
theorem cQ_length:∀ l:List (List UInt8 × Option Addr × Nat × Nat),(cQ l).length=l.length * 2
 | []=>rfl
 | x :: l=>by
  have:=cQ_length l
  unfold cQ at this ⊢
  rw [List.flatMap_cons,List.length_append,this,eQ_len,List.length_cons]
  omega
theorem cQ_append (a b:List (List UInt8 × Option Addr × Nat × Nat)):cQ (a ++ b)=cQ a ++ cQ b:=by simp [cQ]
theorem cQ_single (x:(List UInt8 × Option Addr × Nat × Nat)):cQ [x]=eQ x:=by simp [cQ]
theorem cQ_get:∀ (l:List (List UInt8 × Option Addr × Nat × Nat)) (k j:Nat) (hk:k < l.length),j < 2→(cQ l)[k * 2+j]?=(eQ l[k])[j]?
 | x :: l,0,j,_,hj=>by
  unfold cQ
  rw [List.flatMap_cons,List.getElem?_append_left (by rw [eQ_len];omega)]
  simp
 | x :: l,i+1,j,hi,hj=>by
  have:=cQ_get l i j (by simpa using hi) hj
  unfold cQ at this ⊢
  rw [List.flatMap_cons,List.getElem?_append_right (by rw [eQ_len];omega),eQ_len,List.getElem_cons_succ,← this]
  congr 1
  omega
theorem cQ_one (l:List (List UInt8 × Option Addr × Nat × Nat)):∀ u ∈ cQ l,u.oneCell'=true:=by
 intro u hu
 simp only [cQ,List.mem_flatMap] at hu
 obtain ⟨x,_,hx⟩:=hu
 simp only [eQ,List.mem_cons,List.not_mem_nil,or_false] at hx
 rcases hx with rfl | rfl <;> rfl
theorem cQ_set (l:List (List UInt8 × Option Addr × Nat × Nat)) (k:Nat) (x:(List UInt8 × Option Addr × Nat × Nat)) (hk:k < l.length):cQ (l.set k x)=((cQ l).set (k * 2) (Value.string ⟨x.1.toArray⟩)).set (k * 2+1) (Value.slice x.2.1 x.2.2.1 x.2.2.2):=by
 have e1:l=l.take k ++ l[k] :: l.drop (k+1):=by rw [← List.drop_eq_getElem_cons hk,List.take_append_drop]
 have e2:l.set k x=l.take k ++ x :: l.drop (k+1):=by rw [List.set_eq_take_append_cons_drop,if_pos hk]
 rw [e2]
 have hl:(cQ (l.take k)).length=k * 2:=by rw [cQ_length,List.length_take,Nat.min_eq_left (by omega)]
 have e3:cQ l=cQ (l.take k) ++ (eQ l[k] ++ cQ (l.drop (k+1))):=by
  conv=>lhs;rw [e1]
  rw [cQ_append]
  simp only [cQ,List.flatMap_cons]
 have e4:cQ (l.take k ++ x :: l.drop (k+1))=cQ (l.take k) ++ (eQ x ++ cQ (l.drop (k+1))):=by
  rw [cQ_append]
  simp only [cQ,List.flatMap_cons]
 rw [e3,e4]
 generalize cQ (l.take k)=P at *
 rw [← hl]
 simp [eQ,List.set_append]
theorem Tryz.info_Q:(Tryz.prog.info? 33).map (fun i=>(i.zero,i.size,i.bytes))=some (some (.agg #[.string ⟨#[]⟩,.slice none 0 0]),2,40):=by kernel_rfl
def ownQ (w:World) (base:Nat) (v:Value) (l:List (List UInt8 × Option Addr × Nat × Nat)):Prop:=w.ownsRow base 33 2 v l.length (cQ l)
def RdQ (w:World) (B:Nat) (A:Option Addr) (n:Nat) (l:List (List UInt8 × Option Addr × Nat × Nat)):Prop:=Rd w B 2 A n (cQ l)
theorem RdQ.len {w:World} {B n:Nat} {A:Option Addr} {l:List (List UInt8 × Option Addr × Nat × Nat)} (h:RdQ w B A n l):l.length=n:=by
 have:=h.1;rw [cQ_length] at this;omega
theorem RdQ.one {w:World} {B n:Nat} {A:Option Addr} {l:List (List UInt8 × Option Addr × Nat × Nat)} (h:RdQ w B A n l) {k:Nat} (hk:k < n) :
  ∃ b o x,A=some ⟨b,o,none⟩∧b < B∧Hid (l[k]?=some x)∧w.cell? ⟨b,o+k * 2,none⟩=some (Value.string ⟨x.1.toArray⟩)∧w.cell? ⟨b,o+k * 2+1,none⟩=some (Value.slice x.2.1 x.2.2.1 x.2.2.2):=by
 obtain ⟨b,o,e,hb,hc⟩:=h.2 (by omega)
 have hl:=h.len
 have hk':k < l.length:=by omega
 refine ⟨b,o,l[k],e,hb,List.getElem?_eq_getElem hk',?_,?_⟩
 ·exact hc (k * 2) _ ((cQ_get l k 0 hk' (by omega)).trans rfl)
 ·exact hc (k * 2+1) _ ((cQ_get l k 1 hk' (by omega)).trans rfl)
theorem RdQ.blw {w w':World} {B n:Nat} {A:Option Addr} {l:List (List UInt8 × Option Addr × Nat × Nat)} (h:RdQ w B A n l) (hb:Below B w w'):RdQ w' B A n l:=Rd.below h hb
theorem RdQ.more {w:World} {B B' n:Nat} {A:Option Addr} {l:List (List UInt8 × Option Addr × Nat × Nat)} (h:RdQ w B A n l) (hB:B≤B'):RdQ w B' A n l:=Rd.more h hB
theorem RdQ.here {w:World} {B n:Nat} {A:Option Addr} {l:List (List UInt8 × Option Addr × Nat × Nat)} (h:RdQ w B A n l):RdQ w w.heap.size A n l :=
 ⟨h.1,fun hn=>by
  obtain ⟨b,o,e,hb,hc⟩:=h.2 hn
  have hl:=h.1
  exact ⟨b,o,e,block_lt_of_cell (a:=⟨b,o+0,none⟩) (hc 0 (cQ l)[0] (List.getElem?_eq_getElem (by omega))),hc⟩⟩
theorem RdQ.later {w w':World} {n:Nat} {A:Option Addr} {l:List (List UInt8 × Option Addr × Nat × Nat)} (h:RdQ w w.heap.size A n l) (hb:Below w.heap.size w w'):RdQ w' w'.heap.size A n l:=RdQ.here (RdQ.blw h hb)
theorem RdQ.alloc {w:World} {B n:Nat} {A:Option Addr} {l:List (List UInt8 × Option Addr × Nat × Nat)} (h:RdQ w B A n l) (hB:B≤w.heap.size) (o:Obj):RdQ (w.alloc o) B A n l:=Rd.alloc h hB o
theorem RdQ.nil_ {w:World} {B:Nat} {A:Option Addr}:RdQ w B A 0 []:=⟨by simp [cQ],fun h=>absurd h (by omega)⟩
theorem RdQ.cut {w:World} {B n:Nat} {A:Option Addr} {l:List (List UInt8 × Option Addr × Nat × Nat)} (h:RdQ w B A n l) {k m:Nat} (hk:k+m≤n) {A':Option Addr} (hA:0 < m→A'=A.map (·.add (k * 2))) :
  RdQ w B A' m ((l.drop k).take m):=by
 have:=Rd.cut h hk (A':=A') hA
 unfold RdQ
 have e1:∀ (q:Nat) (l:List (List UInt8 × Option Addr × Nat × Nat)),cQ (l.take q)=(cQ l).take (q * 2):=fun q l=>by
  rcases Nat.lt_or_ge q l.length with hq | hq
  ·conv=>rhs;rw [← List.take_append_drop q l,cQ_append]
   rw [List.take_left' (by rw [cQ_length,List.length_take,Nat.min_eq_left (by omega)])]
  ·rw [List.take_of_length_le hq,List.take_of_length_le (by rw [cQ_length];exact Nat.mul_le_mul_right _ hq)]
 have e2:∀ (q:Nat) (l:List (List UInt8 × Option Addr × Nat × Nat)),cQ (l.drop q)=(cQ l).drop (q * 2):=fun q l=>by
  rcases Nat.lt_or_ge q l.length with hq | hq
  ·conv=>rhs;rw [← List.take_append_drop q l,cQ_append]
   rw [List.drop_left' (by rw [cQ_length,List.length_take,Nat.min_eq_left (by omega)])]
  ·rw [List.drop_eq_nil_of_le hq,List.drop_eq_nil_of_le (by rw [cQ_length];exact Nat.mul_le_mul_right _ hq)]
   rfl
 rw [e1,e2]
 exact this
theorem ownQ.nil_ (w:World) (base:Nat):ownQ w base (.slice none 0 0) []:=World.ownsRow_nil _ _ _ _
theorem ownQ.mono {w:World} {base base':Nat} {v:Value} {l:List (List UInt8 × Option Addr × Nat × Nat)} (h:ownQ w base v l) (hb:base'≤base):ownQ w base' v l:=by
 refine ⟨h.1,?_⟩
 rcases h.2 with hn | ⟨g,cap,cur,rfl,hbg,rest⟩
 ·exact .inl hn
 ·exact .inr ⟨g,cap,cur,rfl,by omega,rest⟩
theorem ownQ.later {w w':World} {base:Nat} {v:Value} {l:List (List UInt8 × Option Addr × Nat × Nat)} (h:ownQ w base v l) (hb:Below w.heap.size w w'):ownQ w' base v l :=
 Below.ownsRow h hb (fun g hg=>(World.ownsRow.lt h g hg).2)
theorem ownQ.alloc {w:World} {base:Nat} {v:Value} {l:List (List UInt8 × Option Addr × Nat × Nat)} (h:ownQ w base v l) (o:Obj):ownQ (w.alloc o) base v l:=World.ownsRow.alloc h o
theorem ownQ.drew {w:World} {base:Nat} {v:Value} {l:List (List UInt8 × Option Addr × Nat × Nat)} (h:ownQ w base v l):ownQ w.drew base v l:=h
theorem ownQ.drewN {w:World} {base:Nat} {v:Value} {l:List (List UInt8 × Option Addr × Nat × Nat)} (h:ownQ w base v l) (n:Nat):ownQ (w.drewN n) base v l:=h
theorem ownQ.form {w:World} {base:Nat} {v:Value} {l:List (List UInt8 × Option Addr × Nat × Nat)} (h:ownQ w base v l) :
  ∃ A c,v=.slice A l.length c∧RdQ w w.heap.size A l.length l∧l.length≤c∧c≤maxLen:=by
 rcases h.2 with ⟨rfl,h0⟩ | ⟨g,cap,cur,rfl,_,_,h1,h2,_⟩
 ·have:l=[]:=List.eq_nil_of_length_eq_zero h0
  subst this
  exact ⟨none,0,rfl,Rd.none_,by simp,by simp⟩
 ·exact ⟨_,_,rfl,Rd.of_own h,h1,h2⟩
theorem ownQ.kept {w w':World} {base:Nat} {v:Value} {l:List (List UInt8 × Option Addr × Nat × Nat)} {row:Option Nat} (h:ownQ w base v l) (hg:w.grownBy w' row) (hne:v.ownBlock=none∨v.ownBlock ≠ row):ownQ w' base v l :=
 World.ownsRow.kept h hg hne
theorem ownQ.far {w:World} {base g:Nat} {v:Value} {l:List (List UInt8 × Option Addr × Nat × Nat)} (h:ownQ w base v l) (hg:v.ownBlock ≠ some g) (o:Nat) (u:Value) :
  ownQ (w.setCell ⟨g,o,none⟩ u) base v l:=by
 refine ⟨h.1,?_⟩
 rcases h.2 with hn | ⟨g',cap,cur,rfl,hb,hgg,rest⟩
 ·exact .inl hn
 ·refine .inr ⟨g',cap,cur,rfl,hb,?_,rest⟩
  rw [Below.heap_setCell _ _ _ _ (by intro e;apply hg;simp [Value.ownBlock];exact e)]
  exact hgg
theorem ownQ.ne {w:World} {base g:Nat} {v:Value} {l:List (List UInt8 × Option Addr × Nat × Nat)} (h:ownQ w base v l) (hg:g < base):v.ownBlock ≠ some g:=by
 intro e
 have:=(World.ownsRow.lt h g e).1
 omega
theorem ownQ.pos {w:World} {base n c:Nat} {A:Option Addr} {l:List (List UInt8 × Option Addr × Nat × Nat)} (h:ownQ w base (.slice A n c) l) (hn:0 < n):n=l.length∧∃ g,A=some ⟨g,0,none⟩∧base≤g∧g < w.heap.size:=by
 rcases h.2 with ⟨h',_⟩ | ⟨g,cap,cur,h',hb,hg,_⟩
 ·injection h' with _ h2;omega
 ·injection h' with h1 h2
  exact ⟨h2,g,h1,hb,(World.ownsRow.lt h g (by rw [h1];rfl)).2⟩
theorem ownQ.cell {w:World} {base g n c:Nat} {l:List (List UInt8 × Option Addr × Nat × Nat)} (h:ownQ w base (.slice (some ⟨g,0,none⟩) n c) l) (hn:n=l.length) {k:Nat} (hk:k < l.length) :
  w.cell? ⟨g,k * 2,none⟩=some ((fun x:(List UInt8 × Option Addr × Nat × Nat)=>Value.string ⟨x.1.toArray⟩) l[k])∧w.cell? ⟨g,k * 2+1,none⟩=some ((fun x:(List UInt8 × Option Addr × Nat × Nat)=>Value.slice x.2.1 x.2.2.1 x.2.2.2) l[k]):=by
 subst hn
 refine ⟨?_,?_⟩
 ·exact (World.ownsRow.cellAt h (k * 2) (by have:=hk;omega)).trans ((cQ_get l k 0 hk (by omega)).trans rfl)
 ·exact (World.ownsRow.cellAt h (k * 2+1) (by have:=hk;omega)).trans ((cQ_get l k 1 hk (by omega)).trans rfl)
theorem ownQ.frozen {w:World} {base g n c:Nat} {l:List (List UInt8 × Option Addr × Nat × Nat)} (h:ownQ w base (.slice (some ⟨g,0,none⟩) n c) l) (hn:n=l.length) (k:Nat) :
  w.frozen? ⟨g,k,none⟩=false:=by
 subst hn
 exact World.ownsRow.frozenAt h k
theorem ownQ.store {w:World} {base g n c:Nat} {l:List (List UInt8 × Option Addr × Nat × Nat)} (h:ownQ w base (.slice (some ⟨g,0,none⟩) n c) l) (hn:n=l.length) (k:Nat) (x:(List UInt8 × Option Addr × Nat × Nat)) (hk:k < l.length) :
  ownQ ((w.setCell ⟨g,k * 2,none⟩ (Value.string ⟨x.1.toArray⟩)).setCell ⟨g,k * 2+1,none⟩ (Value.slice x.2.1 x.2.2.1 x.2.2.2)) base (.slice (some ⟨g,0,none⟩) n c) (l.set k x):=by
 subst hn
 have h0:w.ownsRow base 33 2 (.slice (some ⟨g,0,none⟩) l.length c) l.length (cQ l):=h
 have h1:=(World.ownsRow.stored h0 (k * 2) (Value.string ⟨x.1.toArray⟩)).1
 have h2:=(World.ownsRow.stored h1 (k * 2+1) (Value.slice x.2.1 x.2.2.1 x.2.2.2)).1
 unfold ownQ
 rw [List.length_set,cQ_set l k x hk]
 exact h2
theorem ownQ.rd {w:World} {base n c:Nat} {A:Option Addr} {l:List (List UInt8 × Option Addr × Nat × Nat)} (h:ownQ w base (.slice A n c) l):RdQ w w.heap.size A n l:=by
 obtain ⟨A4,c4,e5,hd4,_,_⟩:=h.form
 injection e5 with e1 e2 e3
 rw [e1,e2]
 exact hd4
/-- One element that lies in a block, whole. -/
theorem rd_oneQ (w:World) (x:(List UInt8 × Option Addr × Nat × Nat)) (t:TypeId) (fr:Nat × Nat):RdQ (w.alloc (.cells (eQ x).toArray t fr)) (w.heap.size+1) (some ⟨w.heap.size,0,none⟩) 1 [x]:=by
 refine ⟨by rw [cQ_length];rfl,fun _=>⟨_,_,rfl,by omega,fun j u hu=>?_⟩⟩
 rw [Nat.zero_add]
 have:=cell_of_row (w.alloc (.cells (eQ x).toArray t fr)) w.heap.size j (eQ x).toArray t fr (heap_alloc_new w _)
 rw [this]
 rw [cQ_single] at hu
 simpa using hu
set_option maxRecDepth 100000 in
theorem run_appendQ (w:World) (base:Nat) (t2:TypeId) (v:Value) (l:List (List UInt8 × Option Addr × Nat × Nat)) (hown:ownQ w base v l) (B m c:Nat) (A:Option Addr) (news:List (List UInt8 × Option Addr × Nat × Nat)) (hr:RdQ w B A m news)
  (hb:l.length+m≤1099511627776) (hbase:base≤w.heap.size) :
  ∃ v' w',(Builtin.append_ #[25,25] t2 #[v,.slice A m c]).run Tryz.prog w=.ok v' w'∧ownQ w' base v' (l ++ news)∧w.grownBy w' v.ownBlock ∧
   (v'.ownBlock=v.ownBlock∨v'.ownBlock=some w.heap.size)∧(v'=.slice none 0 0 ↔ v=.slice none 0 0∧m=0):=by
 obtain ⟨i0,hi,hz0,hz1,hz2⟩:=info_parts Tryz.info_Q
 have hl:=hr.len
 subst hl
 unfold ownQ
 rw [List.length_append,cQ_append]
 rcases A with _ | ad
 ·have hn:news=[]:=by
   rcases Nat.eq_zero_or_pos news.length with h0 | h0
   ·exact List.eq_nil_of_length_eq_zero h0
   ·obtain ⟨b,o,h,_⟩:=hr.2 h0
    cases h
  subst hn
  refine ⟨v,w,?_,by simpa [cQ,ownQ] using hown,World.grownBy.refl w _,.inl rfl,by simp⟩
  rcases hown.2 with ⟨rfl,h0⟩ | ⟨g,cap,cur,rfl,_,_,hnc,_⟩
  ·simp [Builtin.append_,run_underlying Tryz.underlying25,sizeOf,typeInfo,hi,Builtin.lenOf,Builtin.firstCells]
  ·simp [Builtin.append_,run_underlying Tryz.underlying25,sizeOf,typeInfo,hi,Builtin.lenOf,Builtin.firstCells,hnc,storeCells]
 ·have hcells:∀ j u,(cQ news)[j]?=some u→w.cell? (ad.add j)=some u:=by
   intro j u hu
   rcases Nat.eq_zero_or_pos news.length with h0 | h0
   ·have hn:news=[]:=List.eq_nil_of_length_eq_zero h0
    subst hn
    simp [cQ] at hu
   ·obtain ⟨b,o,h,_,hc⟩:=hr.2 h0
    injection h with h
    subst h
    rw [add_none]
    exact hc j u hu
  obtain ⟨v',w',hrun,h2,h3,h4,h5⟩:=run_append_own_at (P:=Tryz.prog) w base 25 t2 33 i0 _ 2 40 Tryz.underlying25 hi hz0 hz1 hz2 rfl (by omega) v l.length (cQ l) hown ad news.length c (cQ news) (by rw [cQ_length]) hcells (cQ_one _) (by unfold maxLen;omega) (by omega) hbase
  exact ⟨v',w',hrun,h2,h3,h5,h4⟩
/-- append(v, x...): v the call's own, x whatever. -/
theorem wpList_appendQ {w:World} {ops:Array Oper} {rest:List Oper} {o:Oper} {a:Act} {Q:Exit→Act→World→Prop} (hgd:o.guard=none) (s x:Operand)
  (ho:o.op=.call { callee:=.builtin .append,args:=#[s,x],argTypes:=#[25,25] })
  (base:Nat) (v:Value) (l:List (List UInt8 × Option Addr × Nat × Nat)) (hs:a.eval s=v) (hown:ownQ w base v l) (B m c:Nat) (A:Option Addr) (news:List (List UInt8 × Option Addr × Nat × Nat)) (hx:a.eval x=.slice A m c) (hr:RdQ w B A m news)
  (hb:l.length+m≤1099511627776) (hbase:base≤w.heap.size)
  (h:∀ v' w',ownQ w' base v' (l ++ news)→w.grownBy w' v.ownBlock→Below base w w'→(v'.ownBlock=v.ownBlock∨v'.ownBlock=some w.heap.size)→wpList Tryz.prog ops Q rest (a.put o.dst v') w') :
  wpList Tryz.prog ops Q (o :: rest) a w:=by
 refine wpList_plain hgd fun K hK=>?_
 obtain ⟨v',w',hrun,h2,h3,h4,_⟩:=run_appendQ w base o.type v l hown B m c A news hr hb hbase
 unfold Oper.wp execOp
 simp only [ho,resolve,invoke,builtin,Sem.run_bind,Sem.run_pure,Result.andThen_ok,List.map_toArray,List.map_cons,List.map_nil,hs,hx,hrun]
 exact hK _ _ (h v' w' h2 h3 ((Below.refl _ _).grown h3 hbase (fun k hk=>(World.ownsRow.lt hown k hk).1)) h4)
end Go.Proofs.YtebbdifhiihfkaaGreatDoor

