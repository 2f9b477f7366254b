/- XRowN -/
import Derived.Test.YteoolehdomjkkaaGreatMe01
namespace Go.Proofs.YteoolehdomjkkaaGreat
set_option linter.all false
open Go.RowKit
def eN (x:(Nat × Nat × Nat)):List Value:=[Value.int .i64 (x.1:Int),Value.int .i64 (x.2.2:Int),Value.int .i64 (x.2.1:Int)]
theorem eN_len (x:(Nat × Nat × Nat)):(eN x).length=3:=rfl
/-- The cells of a list. -/
def cN (l:List (Nat × Nat × Nat)):List Value:=l.flatMap eN
theorem cN_length:∀ l:List (Nat × Nat × Nat),(cN l).length=l.length * 3
 | []=>rfl
 | x :: l=>by
  have:=cN_length l
  unfold cN at this ⊢
  rw [List.flatMap_cons,List.length_append,this,eN_len,List.length_cons]
  omega
theorem cN_append (a b:List (Nat × Nat × Nat)):cN (a ++ b)=cN a ++ cN b:=by simp [cN]
theorem cN_single (x:(Nat × Nat × Nat)):cN [x]=eN x:=by simp [cN]
theorem cN_get:∀ (l:List (Nat × Nat × Nat)) (k j:Nat) (hk:k < l.length),j < 3→(cN l)[k * 3+j]?=(eN l[k])[j]?
 | x :: l,0,j,_,hj=>by
  unfold cN
  rw [List.flatMap_cons,List.getElem?_append_left (by rw [eN_len];omega)]
  simp
 | x :: l,i+1,j,hi,hj=>by
  have:=cN_get l i j (by simpa using hi) hj
  unfold cN at this ⊢
  rw [List.flatMap_cons,List.getElem?_append_right (by rw [eN_len];omega),eN_len,List.getElem_cons_succ,← this]
  congr 1
  omega
theorem cN_one (l:List (Nat × Nat × Nat)):∀ u ∈ cN l,u.oneCell'=true:=by
 intro u hu
 simp only [cN,List.mem_flatMap] at hu
 obtain ⟨x,_,hx⟩:=hu
 simp only [eN,List.mem_cons,List.not_mem_nil,or_false] at hx
 rcases hx with rfl | rfl | rfl <;> rfl
theorem cN_set (l:List (Nat × Nat × Nat)) (k:Nat) (x:(Nat × Nat × Nat)) (hk:k < l.length):cN (l.set k x)=(((cN l).set (k * 3) (Value.int .i64 (x.1:Int))).set (k * 3+1) (Value.int .i64 (x.2.2:Int))).set (k * 3+2) (Value.int .i64 (x.2.1:Int)):=by
 have e1:l=l.take k ++ l[k] :: l.drop (k+1):=by rw [← List.drop_eq_getElem_cons hk,List.take_append_drop]
 have e2:l.set k x=l.take k ++ x :: l.drop (k+1):=by rw [List.set_eq_take_append_cons_drop,if_pos hk]
 rw [e2]
 have hl:(cN (l.take k)).length=k * 3:=by rw [cN_length,List.length_take,Nat.min_eq_left (by omega)]
 have e3:cN l=cN (l.take k) ++ (eN l[k] ++ cN (l.drop (k+1))):=by
  conv=>lhs;rw [e1]
  rw [cN_append]
  simp only [cN,List.flatMap_cons]
 have e4:cN (l.take k ++ x :: l.drop (k+1))=cN (l.take k) ++ (eN x ++ cN (l.drop (k+1))):=by
  rw [cN_append]
  simp only [cN,List.flatMap_cons]
 rw [e3,e4]
 generalize cN (l.take k)=P at *
 rw [← hl]
 simp [eN,List.set_append]
theorem Tryz.info_N:(Tryz.prog.info? 155).map (fun i=>(i.zero,i.size,i.bytes))=some (some (.agg #[.int .i64 0,.int .i64 0,.int .i64 0]),3,24):=by kernel_rfl
def ownN (w:World) (base:Nat) (v:Value) (l:List (Nat × Nat × Nat)):Prop:=w.ownsRow base 155 3 v l.length (cN l)
def RdN (w:World) (B:Nat) (A:Option Addr) (n:Nat) (l:List (Nat × Nat × Nat)):Prop:=Rd w B 3 A n (cN l)
theorem RdN.len {w:World} {B n:Nat} {A:Option Addr} {l:List (Nat × Nat × Nat)} (h:RdN w B A n l):l.length=n:=by
 have:=h.1;rw [cN_length] at this;omega
theorem RdN.one {w:World} {B n:Nat} {A:Option Addr} {l:List (Nat × Nat × Nat)} (h:RdN w B A n l) {k:Nat} (hk:k < n) :
  ∃ b o x,A=some ⟨b,o,none⟩∧b < B∧Hid (l[k]?=some x)∧w.cell? ⟨b,o+k * 3,none⟩=some (Value.int .i64 (x.1:Int))∧w.cell? ⟨b,o+k * 3+1,none⟩=some (Value.int .i64 (x.2.2:Int))∧w.cell? ⟨b,o+k * 3+2,none⟩=some (Value.int .i64 (x.2.1:Int)):=by
 obtain ⟨b,o,e,hb,hc⟩:=h.2 (by omega)
 have hl:=h.len
 have hk':k < l.length:=by omega
 refine ⟨b,o,l[k],e,hb,List.getElem?_eq_getElem hk',?_,?_,?_⟩
 ·exact hc (k * 3) _ ((cN_get l k 0 hk' (by omega)).trans rfl)
 ·exact hc (k * 3+1) _ ((cN_get l k 1 hk' (by omega)).trans rfl)
 ·exact hc (k * 3+2) _ ((cN_get l k 2 hk' (by omega)).trans rfl)
theorem RdN.blw {w w':World} {B n:Nat} {A:Option Addr} {l:List (Nat × Nat × Nat)} (h:RdN w B A n l) (hb:Below B w w'):RdN w' B A n l:=Rd.below h hb
theorem RdN.more {w:World} {B B' n:Nat} {A:Option Addr} {l:List (Nat × Nat × Nat)} (h:RdN w B A n l) (hB:B≤B'):RdN w B' A n l:=Rd.more h hB
theorem RdN.here {w:World} {B n:Nat} {A:Option Addr} {l:List (Nat × Nat × Nat)} (h:RdN w B A n l):RdN w w.heap.size A n l :=
 ⟨h.1,fun hn=>by
  obtain ⟨b,o,e,hb,hc⟩:=h.2 hn
  have hl:=h.1
  exact ⟨b,o,e,block_lt_of_cell (a:=⟨b,o+0,none⟩) (hc 0 (cN l)[0] (List.getElem?_eq_getElem (by omega))),hc⟩⟩
theorem RdN.later {w w':World} {n:Nat} {A:Option Addr} {l:List (Nat × Nat × Nat)} (h:RdN w w.heap.size A n l) (hb:Below w.heap.size w w'):RdN w' w'.heap.size A n l:=RdN.here (RdN.blw h hb)
theorem RdN.alloc {w:World} {B n:Nat} {A:Option Addr} {l:List (Nat × Nat × Nat)} (h:RdN w B A n l) (hB:B≤w.heap.size) (o:Obj):RdN (w.alloc o) B A n l:=Rd.alloc h hB o
theorem RdN.nil_ {w:World} {B:Nat} {A:Option Addr}:RdN w B A 0 []:=⟨by simp [cN],fun h=>absurd h (by omega)⟩
theorem RdN.cut {w:World} {B n:Nat} {A:Option Addr} {l:List (Nat × Nat × Nat)} (h:RdN w B A n l) {k m:Nat} (hk:k+m≤n) {A':Option Addr} (hA:0 < m→A'=A.map (·.add (k * 3))) :
  RdN w B A' m ((l.drop k).take m):=by
 have:=Rd.cut h hk (A':=A') hA
 unfold RdN
 have e1:∀ (q:Nat) (l:List (Nat × Nat × Nat)),cN (l.take q)=(cN l).take (q * 3):=fun q l=>by
  rcases Nat.lt_or_ge q l.length with hq | hq
  ·conv=>rhs;rw [← List.take_append_drop q l,cN_append]
   rw [List.take_left' (by rw [cN_length,List.length_take,Nat.min_eq_left (by omega)])]
  ·rw [List.take_of_length_le hq,List.take_of_length_le (by rw [cN_length];exact Nat.mul_le_mul_right _ hq)]
 have e2:∀ (q:Nat) (l:List (Nat × Nat × Nat)),cN (l.drop q)=(cN l).drop (q * 3):=fun q l=>by
  rcases Nat.lt_or_ge q l.length with hq | hq
  ·conv=>rhs;rw [← List.take_append_drop q l,cN_append]
   rw [List.drop_left' (by rw [cN_length,List.length_take,Nat.min_eq_left (by omega)])]
  ·rw [List.drop_eq_nil_of_le hq,List.drop_eq_nil_of_le (by rw [cN_length];exact Nat.mul_le_mul_right _ hq)]
   rfl
 rw [e1,e2]
 exact this
theorem ownN.nil_ (w:World) (base:Nat):ownN w base (.slice none 0 0) []:=World.ownsRow_nil _ _ _ _
theorem ownN.mono {w:World} {base base':Nat} {v:Value} {l:List (Nat × Nat × Nat)} (h:ownN w base v l) (hb:base'≤base):ownN w base' v l:=by
 refine ⟨h.1,?_⟩
 rcases h.2 with hn | ⟨g,cap,cur,rfl,hbg,rest⟩
 ·exact .inl hn
 ·exact .inr ⟨g,cap,cur,rfl,by omega,rest⟩
theorem ownN.later {w w':World} {base:Nat} {v:Value} {l:List (Nat × Nat × Nat)} (h:ownN w base v l) (hb:Below w.heap.size w w'):ownN w' base v l :=
 Below.ownsRow h hb (fun g hg=>(World.ownsRow.lt h g hg).2)
theorem ownN.alloc {w:World} {base:Nat} {v:Value} {l:List (Nat × Nat × Nat)} (h:ownN w base v l) (o:Obj):ownN (w.alloc o) base v l:=World.ownsRow.alloc h o
theorem ownN.drew {w:World} {base:Nat} {v:Value} {l:List (Nat × Nat × Nat)} (h:ownN w base v l):ownN w.drew base v l:=h
theorem ownN.drewN {w:World} {base:Nat} {v:Value} {l:List (Nat × Nat × Nat)} (h:ownN w base v l) (n:Nat):ownN (w.drewN n) base v l:=h
theorem ownN.form {w:World} {base:Nat} {v:Value} {l:List (Nat × Nat × Nat)} (h:ownN w base v l) :
  ∃ A c,v=.slice A l.length c∧RdN w w.heap.size A l.length l∧l.length≤c∧c≤maxLen:=by
 rcases h.2 with ⟨rfl,h0⟩ | ⟨g,cap,cur,rfl,_,_,h1,h2,_⟩
 ·have:l=[]:=List.eq_nil_of_length_eq_zero h0
  subst this
  exact ⟨none,0,rfl,Rd.none_,by simp,by simp⟩
 ·exact ⟨_,_,rfl,Rd.of_own h,h1,h2⟩
theorem ownN.kept {w w':World} {base:Nat} {v:Value} {l:List (Nat × Nat × Nat)} {row:Option Nat} (h:ownN w base v l) (hg:w.grownBy w' row) (hne:v.ownBlock=none∨v.ownBlock ≠ row):ownN w' base v l :=
 World.ownsRow.kept h hg hne
theorem ownN.far {w:World} {base g:Nat} {v:Value} {l:List (Nat × Nat × Nat)} (h:ownN w base v l) (hg:v.ownBlock ≠ some g) (o:Nat) (u:Value) :
  ownN (w.setCell ⟨g,o,none⟩ u) base v l:=by
 refine ⟨h.1,?_⟩
 rcases h.2 with hn | ⟨g',cap,cur,rfl,hb,hgg,rest⟩
 ·exact .inl hn
 ·refine .inr ⟨g',cap,cur,rfl,hb,?_,rest⟩
  rw [Below.heap_setCell _ _ _ _ (by intro e;apply hg;simp [Value.ownBlock];exact e)]
  exact hgg
theorem ownN.ne {w:World} {base g:Nat} {v:Value} {l:List (Nat × Nat × Nat)} (h:ownN w base v l) (hg:g < base):v.ownBlock ≠ some g:=by
 intro e
 have:=(World.ownsRow.lt h g e).1
 omega
theorem ownN.pos {w:World} {base n c:Nat} {A:Option Addr} {l:List (Nat × Nat × Nat)} (h:ownN w base (.slice A n c) l) (hn:0 < n):n=l.length∧∃ g,A=some ⟨g,0,none⟩∧base≤g∧g < w.heap.size:=by
 rcases h.2 with ⟨h',_⟩ | ⟨g,cap,cur,h',hb,hg,_⟩
 ·injection h' with _ h2;omega
 ·injection h' with h1 h2
  exact ⟨h2,g,h1,hb,(World.ownsRow.lt h g (by rw [h1];rfl)).2⟩
theorem ownN.cell {w:World} {base g n c:Nat} {l:List (Nat × Nat × Nat)} (h:ownN w base (.slice (some ⟨g,0,none⟩) n c) l) (hn:n=l.length) {k:Nat} (hk:k < l.length) :
  w.cell? ⟨g,k * 3,none⟩=some ((fun x:(Nat × Nat × Nat)=>Value.int .i64 (x.1:Int)) l[k])∧w.cell? ⟨g,k * 3+1,none⟩=some ((fun x:(Nat × Nat × Nat)=>Value.int .i64 (x.2.2:Int)) l[k])∧w.cell? ⟨g,k * 3+2,none⟩=some ((fun x:(Nat × Nat × Nat)=>Value.int .i64 (x.2.1:Int)) l[k]):=by
 subst hn
 refine ⟨?_,?_,?_⟩
 ·exact (World.ownsRow.cellAt h (k * 3) (by have:=hk;omega)).trans ((cN_get l k 0 hk (by omega)).trans rfl)
 ·exact (World.ownsRow.cellAt h (k * 3+1) (by have:=hk;omega)).trans ((cN_get l k 1 hk (by omega)).trans rfl)
 ·exact (World.ownsRow.cellAt h (k * 3+2) (by have:=hk;omega)).trans ((cN_get l k 2 hk (by omega)).trans rfl)
theorem ownN.frozen {w:World} {base g n c:Nat} {l:List (Nat × Nat × Nat)} (h:ownN w base (.slice (some ⟨g,0,none⟩) n c) l) (hn:n=l.length) (k:Nat) :
  w.frozen? ⟨g,k,none⟩=false:=by
 subst hn
 exact World.ownsRow.frozenAt h k
theorem ownN.store {w:World} {base g n c:Nat} {l:List (Nat × Nat × Nat)} (h:ownN w base (.slice (some ⟨g,0,none⟩) n c) l) (hn:n=l.length) (k:Nat) (x:(Nat × Nat × Nat)) (hk:k < l.length) :
  ownN (((w.setCell ⟨g,k * 3,none⟩ (Value.int .i64 (x.1:Int))).setCell ⟨g,k * 3+1,none⟩ (Value.int .i64 (x.2.2:Int))).setCell ⟨g,k * 3+2,none⟩ (Value.int .i64 (x.2.1:Int))) base (.slice (some ⟨g,0,none⟩) n c) (l.set k x):=by
 subst hn
 have h0:w.ownsRow base 155 3 (.slice (some ⟨g,0,none⟩) l.length c) l.length (cN l):=h
 have h1:=(World.ownsRow.stored h0 (k * 3) (Value.int .i64 (x.1:Int))).1
 have h2:=(World.ownsRow.stored h1 (k * 3+1) (Value.int .i64 (x.2.2:Int))).1
 have h3:=(World.ownsRow.stored h2 (k * 3+2) (Value.int .i64 (x.2.1:Int))).1
 unfold ownN
 rw [List.length_set,cN_set l k x hk]
 exact h3
theorem ownN.rd {w:World} {base n c:Nat} {A:Option Addr} {l:List (Nat × Nat × Nat)} (h:ownN w base (.slice A n c) l):RdN w w.heap.size A n l:=by
 obtain ⟨A4,c4,e5,hd4,_,_⟩:=h.form
 injection e5 with e1 e2 e3
 rw [e1,e2]
 exact hd4
/-- One element that lies in a block, whole. -/
theorem rd_oneN (w:World) (x:(Nat × Nat × Nat)) (t:TypeId) (fr:Nat × Nat):RdN (w.alloc (.cells (eN x).toArray t fr)) (w.heap.size+1) (some ⟨w.heap.size,0,none⟩) 1 [x]:=by
 refine ⟨by rw [cN_length];rfl,fun _=>⟨_,_,rfl,by omega,fun j u hu=>?_⟩⟩
 rw [Nat.zero_add]
 have:=cell_of_row (w.alloc (.cells (eN x).toArray t fr)) w.heap.size j (eN x).toArray t fr (heap_alloc_new w _)
 rw [this]
 rw [cN_single] at hu
 simpa using hu
set_option maxRecDepth 100000 in
theorem run_appendN (w:World) (base:Nat) (t2:TypeId) (v:Value) (l:List (Nat × Nat × Nat)) (hown:ownN w base v l) (B m c:Nat) (A:Option Addr) (news:List (Nat × Nat × Nat)) (hr:RdN w B A m news)
  (hb:l.length+m≤1099511627776) (hbase:base≤w.heap.size) :
  ∃ v' w',(Builtin.append_ #[151,151] t2 #[v,.slice A m c]).run Tryz.prog w=.ok v' w'∧ownN w' base v' (l ++ news)∧w.grownBy w' v.ownBlock ∧
   (v'.ownBlock=v.ownBlock∨v'.ownBlock=some w.heap.size)∧(v'=.slice none 0 0 ↔ v=.slice none 0 0∧m=0):=by
 obtain ⟨i0,hi,hz0,hz1,hz2⟩:=info_parts Tryz.info_N
 have hl:=hr.len
 subst hl
 unfold ownN
 rw [List.length_append,cN_append]
 rcases A with _ | ad
 ·have hn:news=[]:=by
   rcases Nat.eq_zero_or_pos news.length with h0 | h0
   ·exact List.eq_nil_of_length_eq_zero h0
   ·obtain ⟨b,o,h,_⟩:=hr.2 h0
    cases h
  subst hn
  refine ⟨v,w,?_,by simpa [cN,ownN] using hown,World.grownBy.refl w _,.inl rfl,by simp⟩
  rcases hown.2 with ⟨rfl,h0⟩ | ⟨g,cap,cur,rfl,_,_,hnc,_⟩
  ·simp [Builtin.append_,run_underlying Tryz.underlying151,sizeOf,typeInfo,hi,Builtin.lenOf,Builtin.firstCells]
  ·simp [Builtin.append_,run_underlying Tryz.underlying151,sizeOf,typeInfo,hi,Builtin.lenOf,Builtin.firstCells,hnc,storeCells]
 ·have hcells:∀ j u,(cN news)[j]?=some u→w.cell? (ad.add j)=some u:=by
   intro j u hu
   rcases Nat.eq_zero_or_pos news.length with h0 | h0
   ·have hn:news=[]:=List.eq_nil_of_length_eq_zero h0
    subst hn
    simp [cN] at hu
   ·obtain ⟨b,o,h,_,hc⟩:=hr.2 h0
    injection h with h
    subst h
    rw [add_none]
    exact hc j u hu
  obtain ⟨v',w',hrun,h2,h3,h4,h5⟩:=run_append_own_at (P:=Tryz.prog) w base 151 t2 155 i0 _ 3 24 Tryz.underlying151 hi hz0 hz1 hz2 rfl (by omega) v l.length (cN l) hown ad news.length c (cN news) (by rw [cN_length]) hcells (cN_one _) (by unfold maxLen;omega) (by omega) hbase
  exact ⟨v',w',hrun,h2,h3,h5,h4⟩
/-- append(v, x...): v the call's own, x whatever. -/
theorem wpList_appendN {w:World} {ops:Array Oper} {rest:List Oper} {o:Oper} {a:Act} {Q:Exit→Act→World→Prop} (hgd:o.guard=none) (s x:Operand)
  (ho:o.op=.call { callee:=.builtin .append,args:=#[s,x],argTypes:=#[151,151] })
  (base:Nat) (v:Value) (l:List (Nat × Nat × Nat)) (hs:a.eval s=v) (hown:ownN w base v l) (B m c:Nat) (A:Option Addr) (news:List (Nat × Nat × Nat)) (hx:a.eval x=.slice A m c) (hr:RdN w B A m news)
  (hb:l.length+m≤1099511627776) (hbase:base≤w.heap.size)
  (h:∀ v' w',ownN w' base v' (l ++ news)→w.grownBy w' v.ownBlock→Below base w w'→(v'.ownBlock=v.ownBlock∨v'.ownBlock=some w.heap.size)→wpList Tryz.prog ops Q rest (a.put o.dst v') w') :
  wpList Tryz.prog ops Q (o :: rest) a w:=by
 refine wpList_plain hgd fun K hK=>?_
 obtain ⟨v',w',hrun,h2,h3,h4,_⟩:=run_appendN w base o.type v l hown B m c A news hr hb hbase
 unfold Oper.wp execOp
 simp only [ho,resolve,invoke,builtin,Sem.run_bind,Sem.run_pure,Result.andThen_ok,List.map_toArray,List.map_cons,List.map_nil,hs,hx,hrun]
 exact hK _ _ (h v' w' h2 h3 ((Below.refl _ _).grown h3 hbase (fun k hk=>(World.ownsRow.lt hown k hk).1)) h4)
end Go.Proofs.YteoolehdomjkkaaGreat

