/- XRowJ XBlk5 -/
import Derived.Test.YteoolehdomjkkaaGreatMe01
import Derived.Test.YteoolehdomjkkaaGreatMe41
import Derived.Test.YteoolehdomjkkaaGreatMe42
import Derived.Test.YteoolehdomjkkaaGreatMe22
namespace Go.Proofs.YteoolehdomjkkaaGreat
set_option linter.all false
open Go.RowKit
def eJ (x:(Nat × Nat × Nat)):List Value:=[Value.int .i64 (x.1:Int),Value.int .i64 (x.2.1:Int),Value.int .i64 (x.2.2:Int)]
theorem eJ_len (x:(Nat × Nat × Nat)):(eJ x).length=3:=rfl
/-- The cells of a list. -/
def cJ (l:List (Nat × Nat × Nat)):List Value:=l.flatMap eJ
theorem cJ_length:∀ l:List (Nat × Nat × Nat),(cJ l).length=l.length * 3
 | []=>rfl
 | x :: l=>by
  have:=cJ_length l
  unfold cJ at this ⊢
  rw [List.flatMap_cons,List.length_append,this,eJ_len,List.length_cons]
  omega
theorem cJ_append (a b:List (Nat × Nat × Nat)):cJ (a ++ b)=cJ a ++ cJ b:=by simp [cJ]
theorem cJ_single (x:(Nat × Nat × Nat)):cJ [x]=eJ x:=by simp [cJ]
theorem cJ_get:∀ (l:List (Nat × Nat × Nat)) (k j:Nat) (hk:k < l.length),j < 3→(cJ l)[k * 3+j]?=(eJ l[k])[j]?
 | x :: l,0,j,_,hj=>by
  unfold cJ
  rw [List.flatMap_cons,List.getElem?_append_left (by rw [eJ_len];omega)]
  simp
 | x :: l,i+1,j,hi,hj=>by
  have:=cJ_get l i j (by simpa using hi) hj
  unfold cJ at this ⊢
  rw [List.flatMap_cons,List.getElem?_append_right (by rw [eJ_len];omega),eJ_len,List.getElem_cons_succ,← this]
  congr 1
  omega
theorem cJ_one (l:List (Nat × Nat × Nat)):∀ u ∈ cJ l,u.oneCell'=true:=by
 intro u hu
 simp only [cJ,List.mem_flatMap] at hu
 obtain ⟨x,_,hx⟩:=hu
 simp only [eJ,List.mem_cons,List.not_mem_nil,or_false] at hx
 rcases hx with rfl | rfl | rfl <;> rfl
theorem cJ_set (l:List (Nat × Nat × Nat)) (k:Nat) (x:(Nat × Nat × Nat)) (hk:k < l.length):cJ (l.set k x)=(((cJ l).set (k * 3) (Value.int .i64 (x.1:Int))).set (k * 3+1) (Value.int .i64 (x.2.1:Int))).set (k * 3+2) (Value.int .i64 (x.2.2:Int)):=by
 have e1:l=l.take k ++ l[k] :: l.drop (k+1):=by rw [← List.drop_eq_getElem_cons hk,List.take_append_drop]
 have e2:l.set k x=l.take k ++ x :: l.drop (k+1):=by rw [List.set_eq_take_append_cons_drop,if_pos hk]
 rw [e2]
 have hl:(cJ (l.take k)).length=k * 3:=by rw [cJ_length,List.length_take,Nat.min_eq_left (by omega)]
 have e3:cJ l=cJ (l.take k) ++ (eJ l[k] ++ cJ (l.drop (k+1))):=by
  conv=>lhs;rw [e1]
  rw [cJ_append]
  simp only [cJ,List.flatMap_cons]
 have e4:cJ (l.take k ++ x :: l.drop (k+1))=cJ (l.take k) ++ (eJ x ++ cJ (l.drop (k+1))):=by
  rw [cJ_append]
  simp only [cJ,List.flatMap_cons]
 rw [e3,e4]
 generalize cJ (l.take k)=P at *
 rw [← hl]
 simp [eJ,List.set_append]
theorem Tryz.info_J:(Tryz.prog.info? 143).map (fun i=>(i.zero,i.size,i.bytes))=some (some (.agg #[.int .i64 0,.int .i64 0,.int .i64 0]),3,24):=by kernel_rfl
def ownJ (w:World) (base:Nat) (v:Value) (l:List (Nat × Nat × Nat)):Prop:=w.ownsRow base 143 3 v l.length (cJ l)
def RdJ (w:World) (B:Nat) (A:Option Addr) (n:Nat) (l:List (Nat × Nat × Nat)):Prop:=Rd w B 3 A n (cJ l)
theorem RdJ.len {w:World} {B n:Nat} {A:Option Addr} {l:List (Nat × Nat × Nat)} (h:RdJ w B A n l):l.length=n:=by
 have:=h.1;rw [cJ_length] at this;omega
theorem RdJ.one {w:World} {B n:Nat} {A:Option Addr} {l:List (Nat × Nat × Nat)} (h:RdJ w B A n l) {k:Nat} (hk:k < n) :
  ∃ b o x,A=some ⟨b,o,none⟩∧b < B∧Hid (l[k]?=some x)∧w.cell? ⟨b,o+k * 3,none⟩=some (Value.int .i64 (x.1:Int))∧w.cell? ⟨b,o+k * 3+1,none⟩=some (Value.int .i64 (x.2.1:Int))∧w.cell? ⟨b,o+k * 3+2,none⟩=some (Value.int .i64 (x.2.2:Int)):=by
 obtain ⟨b,o,e,hb,hc⟩:=h.2 (by omega)
 have hl:=h.len
 have hk':k < l.length:=by omega
 refine ⟨b,o,l[k],e,hb,List.getElem?_eq_getElem hk',?_,?_,?_⟩
 ·exact hc (k * 3) _ ((cJ_get l k 0 hk' (by omega)).trans rfl)
 ·exact hc (k * 3+1) _ ((cJ_get l k 1 hk' (by omega)).trans rfl)
 ·exact hc (k * 3+2) _ ((cJ_get l k 2 hk' (by omega)).trans rfl)
theorem RdJ.blw {w w':World} {B n:Nat} {A:Option Addr} {l:List (Nat × Nat × Nat)} (h:RdJ w B A n l) (hb:Below B w w'):RdJ w' B A n l:=Rd.below h hb
theorem RdJ.more {w:World} {B B' n:Nat} {A:Option Addr} {l:List (Nat × Nat × Nat)} (h:RdJ w B A n l) (hB:B≤B'):RdJ w B' A n l:=Rd.more h hB
theorem RdJ.here {w:World} {B n:Nat} {A:Option Addr} {l:List (Nat × Nat × Nat)} (h:RdJ w B A n l):RdJ w w.heap.size A n l :=
 ⟨h.1,fun hn=>by
  obtain ⟨b,o,e,hb,hc⟩:=h.2 hn
  have hl:=h.1
  exact ⟨b,o,e,block_lt_of_cell (a:=⟨b,o+0,none⟩) (hc 0 (cJ l)[0] (List.getElem?_eq_getElem (by omega))),hc⟩⟩
theorem RdJ.later {w w':World} {n:Nat} {A:Option Addr} {l:List (Nat × Nat × Nat)} (h:RdJ w w.heap.size A n l) (hb:Below w.heap.size w w'):RdJ w' w'.heap.size A n l:=RdJ.here (RdJ.blw h hb)
theorem RdJ.alloc {w:World} {B n:Nat} {A:Option Addr} {l:List (Nat × Nat × Nat)} (h:RdJ w B A n l) (hB:B≤w.heap.size) (o:Obj):RdJ (w.alloc o) B A n l:=Rd.alloc h hB o
theorem RdJ.nil_ {w:World} {B:Nat} {A:Option Addr}:RdJ w B A 0 []:=⟨by simp [cJ],fun h=>absurd h (by omega)⟩
theorem RdJ.cut {w:World} {B n:Nat} {A:Option Addr} {l:List (Nat × Nat × Nat)} (h:RdJ w B A n l) {k m:Nat} (hk:k+m≤n) {A':Option Addr} (hA:0 < m→A'=A.map (·.add (k * 3))) :
  RdJ w B A' m ((l.drop k).take m):=by
 have:=Rd.cut h hk (A':=A') hA
 unfold RdJ
 have e1:∀ (q:Nat) (l:List (Nat × Nat × Nat)),cJ (l.take q)=(cJ l).take (q * 3):=fun q l=>by
  rcases Nat.lt_or_ge q l.length with hq | hq
  ·conv=>rhs;rw [← List.take_append_drop q l,cJ_append]
   rw [List.take_left' (by rw [cJ_length,List.length_take,Nat.min_eq_left (by omega)])]
  ·rw [List.take_of_length_le hq,List.take_of_length_le (by rw [cJ_length];exact Nat.mul_le_mul_right _ hq)]
 have e2:∀ (q:Nat) (l:List (Nat × Nat × Nat)),cJ (l.drop q)=(cJ l).drop (q * 3):=fun q l=>by
  rcases Nat.lt_or_ge q l.length with hq | hq
  ·conv=>rhs;rw [← List.take_append_drop q l,cJ_append]
   rw [List.drop_left' (by rw [cJ_length,List.length_take,Nat.min_eq_left (by omega)])]
  ·rw [List.drop_eq_nil_of_le hq,List.drop_eq_nil_of_le (by rw [cJ_length];exact Nat.mul_le_mul_right _ hq)]
   rfl
 rw [e1,e2]
 exact this
theorem ownJ.nil_ (w:World) (base:Nat):ownJ w base (.slice none 0 0) []:=World.ownsRow_nil _ _ _ _
theorem ownJ.mono {w:World} {base base':Nat} {v:Value} {l:List (Nat × Nat × Nat)} (h:ownJ w base v l) (hb:base'≤base):ownJ w base' v l:=by
 refine ⟨h.1,?_⟩
 rcases h.2 with hn | ⟨g,cap,cur,rfl,hbg,rest⟩
 ·exact .inl hn
 ·exact .inr ⟨g,cap,cur,rfl,by omega,rest⟩
theorem ownJ.later {w w':World} {base:Nat} {v:Value} {l:List (Nat × Nat × Nat)} (h:ownJ w base v l) (hb:Below w.heap.size w w'):ownJ w' base v l :=
 Below.ownsRow h hb (fun g hg=>(World.ownsRow.lt h g hg).2)
theorem ownJ.alloc {w:World} {base:Nat} {v:Value} {l:List (Nat × Nat × Nat)} (h:ownJ w base v l) (o:Obj):ownJ (w.alloc o) base v l:=World.ownsRow.alloc h o
theorem ownJ.drew {w:World} {base:Nat} {v:Value} {l:List (Nat × Nat × Nat)} (h:ownJ w base v l):ownJ w.drew base v l:=h
theorem ownJ.drewN {w:World} {base:Nat} {v:Value} {l:List (Nat × Nat × Nat)} (h:ownJ w base v l) (n:Nat):ownJ (w.drewN n) base v l:=h
theorem ownJ.form {w:World} {base:Nat} {v:Value} {l:List (Nat × Nat × Nat)} (h:ownJ w base v l) :
  ∃ A c,v=.slice A l.length c∧RdJ w w.heap.size A l.length l∧l.length≤c∧c≤maxLen:=by
 rcases h.2 with ⟨rfl,h0⟩ | ⟨g,cap,cur,rfl,_,_,h1,h2,_⟩
 ·have:l=[]:=List.eq_nil_of_length_eq_zero h0
  subst this
  exact ⟨none,0,rfl,Rd.none_,by simp,by simp⟩
 ·exact ⟨_,_,rfl,Rd.of_own h,h1,h2⟩
theorem ownJ.kept {w w':World} {base:Nat} {v:Value} {l:List (Nat × Nat × Nat)} {row:Option Nat} (h:ownJ w base v l) (hg:w.grownBy w' row) (hne:v.ownBlock=none∨v.ownBlock ≠ row):ownJ w' base v l :=
 World.ownsRow.kept h hg hne
theorem ownJ.far {w:World} {base g:Nat} {v:Value} {l:List (Nat × Nat × Nat)} (h:ownJ w base v l) (hg:v.ownBlock ≠ some g) (o:Nat) (u:Value) :
  ownJ (w.setCell ⟨g,o,none⟩ u) base v l:=by
 refine ⟨h.1,?_⟩
 rcases h.2 with hn | ⟨g',cap,cur,rfl,hb,hgg,rest⟩
 ·exact .inl hn
 ·refine .inr ⟨g',cap,cur,rfl,hb,?_,rest⟩
  rw [Below.heap_setCell _ _ _ _ (by intro e;apply hg;simp [Value.ownBlock];exact e)]
  exact hgg
theorem ownJ.ne {w:World} {base g:Nat} {v:Value} {l:List (Nat × Nat × Nat)} (h:ownJ w base v l) (hg:g < base):v.ownBlock ≠ some g:=by
 intro e
 have:=(World.ownsRow.lt h g e).1
 omega
theorem ownJ.pos {w:World} {base n c:Nat} {A:Option Addr} {l:List (Nat × Nat × Nat)} (h:ownJ w base (.slice A n c) l) (hn:0 < n):n=l.length∧∃ g,A=some ⟨g,0,none⟩∧base≤g∧g < w.heap.size:=by
 rcases h.2 with ⟨h',_⟩ | ⟨g,cap,cur,h',hb,hg,_⟩
 ·injection h' with _ h2;omega
 ·injection h' with h1 h2
  exact ⟨h2,g,h1,hb,(World.ownsRow.lt h g (by rw [h1];rfl)).2⟩
theorem ownJ.cell {w:World} {base g n c:Nat} {l:List (Nat × Nat × Nat)} (h:ownJ w base (.slice (some ⟨g,0,none⟩) n c) l) (hn:n=l.length) {k:Nat} (hk:k < l.length) :
  w.cell? ⟨g,k * 3,none⟩=some ((fun x:(Nat × Nat × Nat)=>Value.int .i64 (x.1:Int)) l[k])∧w.cell? ⟨g,k * 3+1,none⟩=some ((fun x:(Nat × Nat × Nat)=>Value.int .i64 (x.2.1:Int)) l[k])∧w.cell? ⟨g,k * 3+2,none⟩=some ((fun x:(Nat × Nat × Nat)=>Value.int .i64 (x.2.2:Int)) l[k]):=by
 subst hn
 refine ⟨?_,?_,?_⟩
 ·exact (World.ownsRow.cellAt h (k * 3) (by have:=hk;omega)).trans ((cJ_get l k 0 hk (by omega)).trans rfl)
 ·exact (World.ownsRow.cellAt h (k * 3+1) (by have:=hk;omega)).trans ((cJ_get l k 1 hk (by omega)).trans rfl)
 ·exact (World.ownsRow.cellAt h (k * 3+2) (by have:=hk;omega)).trans ((cJ_get l k 2 hk (by omega)).trans rfl)
theorem ownJ.frozen {w:World} {base g n c:Nat} {l:List (Nat × Nat × Nat)} (h:ownJ w base (.slice (some ⟨g,0,none⟩) n c) l) (hn:n=l.length) (k:Nat) :
  w.frozen? ⟨g,k,none⟩=false:=by
 subst hn
 exact World.ownsRow.frozenAt h k
theorem ownJ.store {w:World} {base g n c:Nat} {l:List (Nat × Nat × Nat)} (h:ownJ w base (.slice (some ⟨g,0,none⟩) n c) l) (hn:n=l.length) (k:Nat) (x:(Nat × Nat × Nat)) (hk:k < l.length) :
  ownJ (((w.setCell ⟨g,k * 3,none⟩ (Value.int .i64 (x.1:Int))).setCell ⟨g,k * 3+1,none⟩ (Value.int .i64 (x.2.1:Int))).setCell ⟨g,k * 3+2,none⟩ (Value.int .i64 (x.2.2:Int))) base (.slice (some ⟨g,0,none⟩) n c) (l.set k x):=by
 subst hn
 have h0:w.ownsRow base 143 3 (.slice (some ⟨g,0,none⟩) l.length c) l.length (cJ l):=h
 have h1:=(World.ownsRow.stored h0 (k * 3) (Value.int .i64 (x.1:Int))).1
 have h2:=(World.ownsRow.stored h1 (k * 3+1) (Value.int .i64 (x.2.1:Int))).1
 have h3:=(World.ownsRow.stored h2 (k * 3+2) (Value.int .i64 (x.2.2:Int))).1
 unfold ownJ
 rw [List.length_set,cJ_set l k x hk]
 exact h3
theorem ownJ.rd {w:World} {base n c:Nat} {A:Option Addr} {l:List (Nat × Nat × Nat)} (h:ownJ w base (.slice A n c) l):RdJ w w.heap.size A n l:=by
 obtain ⟨A4,c4,e5,hd4,_,_⟩:=h.form
 injection e5 with e1 e2 e3
 rw [e1,e2]
 exact hd4
/-- One element that lies in a block, whole. -/
theorem rd_oneJ (w:World) (x:(Nat × Nat × Nat)) (t:TypeId) (fr:Nat × Nat):RdJ (w.alloc (.cells (eJ x).toArray t fr)) (w.heap.size+1) (some ⟨w.heap.size,0,none⟩) 1 [x]:=by
 refine ⟨by rw [cJ_length];rfl,fun _=>⟨_,_,rfl,by omega,fun j u hu=>?_⟩⟩
 rw [Nat.zero_add]
 have:=cell_of_row (w.alloc (.cells (eJ x).toArray t fr)) w.heap.size j (eJ x).toArray t fr (heap_alloc_new w _)
 rw [this]
 rw [cJ_single] at hu
 simpa using hu
set_option maxRecDepth 100000 in
theorem run_appendJ (w:World) (base:Nat) (t2:TypeId) (v:Value) (l:List (Nat × Nat × Nat)) (hown:ownJ w base v l) (B m c:Nat) (A:Option Addr) (news:List (Nat × Nat × Nat)) (hr:RdJ w B A m news)
  (hb:l.length+m≤1099511627776) (hbase:base≤w.heap.size) :
  ∃ v' w',(Builtin.append_ #[87,87] t2 #[v,.slice A m c]).run Tryz.prog w=.ok v' w'∧ownJ w' base v' (l ++ news)∧w.grownBy w' v.ownBlock ∧
   (v'.ownBlock=v.ownBlock∨v'.ownBlock=some w.heap.size)∧(v'=.slice none 0 0 ↔ v=.slice none 0 0∧m=0):=by
 obtain ⟨i0,hi,hz0,hz1,hz2⟩:=info_parts Tryz.info_J
 have hl:=hr.len
 subst hl
 unfold ownJ
 rw [List.length_append,cJ_append]
 rcases A with _ | ad
 ·have hn:news=[]:=by
   rcases Nat.eq_zero_or_pos news.length with h0 | h0
   ·exact List.eq_nil_of_length_eq_zero h0
   ·obtain ⟨b,o,h,_⟩:=hr.2 h0
    cases h
  subst hn
  refine ⟨v,w,?_,by simpa [cJ,ownJ] using hown,World.grownBy.refl w _,.inl rfl,by simp⟩
  rcases hown.2 with ⟨rfl,h0⟩ | ⟨g,cap,cur,rfl,_,_,hnc,_⟩
  ·simp [Builtin.append_,run_underlying Tryz.underlying87,sizeOf,typeInfo,hi,Builtin.lenOf,Builtin.firstCells]
  ·simp [Builtin.append_,run_underlying Tryz.underlying87,sizeOf,typeInfo,hi,Builtin.lenOf,Builtin.firstCells,hnc,storeCells]
 ·have hcells:∀ j u,(cJ news)[j]?=some u→w.cell? (ad.add j)=some u:=by
   intro j u hu
   rcases Nat.eq_zero_or_pos news.length with h0 | h0
   ·have hn:news=[]:=List.eq_nil_of_length_eq_zero h0
    subst hn
    simp [cJ] at hu
   ·obtain ⟨b,o,h,_,hc⟩:=hr.2 h0
    injection h with h
    subst h
    rw [add_none]
    exact hc j u hu
  obtain ⟨v',w',hrun,h2,h3,h4,h5⟩:=run_append_own_at (P:=Tryz.prog) w base 87 t2 143 i0 _ 3 24 Tryz.underlying87 hi hz0 hz1 hz2 rfl (by omega) v l.length (cJ l) hown ad news.length c (cJ news) (by rw [cJ_length]) hcells (cJ_one _) (by unfold maxLen;omega) (by omega) hbase
  exact ⟨v',w',hrun,h2,h3,h5,h4⟩
/-- append(v, x...): v the call's own, x whatever. -/
theorem wpList_appendJ {w:World} {ops:Array Oper} {rest:List Oper} {o:Oper} {a:Act} {Q:Exit→Act→World→Prop} (hgd:o.guard=none) (s x:Operand)
  (ho:o.op=.call { callee:=.builtin .append,args:=#[s,x],argTypes:=#[87,87] })
  (base:Nat) (v:Value) (l:List (Nat × Nat × Nat)) (hs:a.eval s=v) (hown:ownJ w base v l) (B m c:Nat) (A:Option Addr) (news:List (Nat × Nat × Nat)) (hx:a.eval x=.slice A m c) (hr:RdJ w B A m news)
  (hb:l.length+m≤1099511627776) (hbase:base≤w.heap.size)
  (h:∀ v' w',ownJ w' base v' (l ++ news)→w.grownBy w' v.ownBlock→Below base w w'→(v'.ownBlock=v.ownBlock∨v'.ownBlock=some w.heap.size)→wpList Tryz.prog ops Q rest (a.put o.dst v') w') :
  wpList Tryz.prog ops Q (o :: rest) a w:=by
 refine wpList_plain hgd fun K hK=>?_
 obtain ⟨v',w',hrun,h2,h3,h4,_⟩:=run_appendJ w base o.type v l hown B m c A news hr hb hbase
 unfold Oper.wp execOp
 simp only [ho,resolve,invoke,builtin,Sem.run_bind,Sem.run_pure,Result.andThen_ok,List.map_toArray,List.map_cons,List.map_nil,hs,hx,hrun]
 exact hK _ _ (h v' w' h2 h3 ((Below.refl _ _).grown h3 hbase (fun k hk=>(World.ownsRow.lt hown k hk).1)) h4)
end Go.Proofs.YteoolehdomjkkaaGreat

/- flate: the document's tokens written. -/
namespace Go.Proofs.YteoolehdomjkkaaGreat
set_option linter.all false
open Go.RowKit
theorem RWr.alloc {w:World} {g:Nat} {pv:Value} {L:List Nat} (h:RWr w g pv L) (o:Obj):RWr (w.alloc o) g pv L:=⟨h.1.alloc o,h.2.1.alloc o,h.2.2⟩
theorem RWr.drew {w:World} {g:Nat} {pv:Value} {L:List Nat} (h:RWr w g pv L):RWr w.drew g pv L:=h.drewN 1
theorem RWr.later {w w':World} {g:Nat} {pv:Value} {L:List Nat} (h:RWr w g pv L) (hb:Below w.heap.size w w'):RWr w' g pv L:=⟨h.1.later hb,h.2.1.later hb,h.2.2⟩
theorem Bx.newR {w:World} {g:Nat} {pv:Value} {L:List Nat} (h:RWr w g pv L) (o:Obj):Bx (w.alloc o) g pv w.heap.size:=by
 refine ⟨by simp,?_,fun e=>?_⟩
 ·have:=h.1.lt;omega
 ·have:=(World.ownsRow.lt h.2.1 _ e).2;omega
theorem CodeCells.ofD {w:World} {base g1 n c:Nat} {ls:List Int} (h:ownD w base (.slice (some ⟨g1,0,none⟩) n c) (codesL ls)) (hn:n=ls.length):CodeCells w g1 ls:=by
 intro p hp
 have hp':p < (codesL ls).length:=by rw [codesL_len];exact hp
 have:=ownD.cell h (by rw [codesL_len];exact hn) (k:=p) hp'
 rw [codesL_get hp'] at this
 exact this
theorem codes5_ok (B n c:Nat) (A:Option Addr) (ls:List Int) (w:World) (h:RdI w B A n ls) (hB:B≤w.heap.size) (hn:1≤n) (hok:CodesOK ls) :
  Calls Tryz.prog 118 #[.slice A n c] w fun e w'=>∃ g c',e=.returned (.tuple #[.slice (some ⟨g,0,none⟩) n c',.int .i64 0])∧w.heap.size≤g∧g < w'.heap.size∧CodeCells w' g ls∧Below w.heap.size w w':=by
 have hl:=h.len
 refine (codes5_any B n c A ls w h hB (by have:=hok.1;omega)).mono ?_
 rintro e w' ⟨A',n',c',rfl,hn',ho,hb⟩
 rw [hok.cd.2] at ho hn'
 rw [codesL_len,hl] at hn'
 subst hn'
 obtain ⟨_,g,rfl,hg,hg2⟩:=ho.pos (by omega)
 exact ⟨g,c',by rw [hok.cd.1],hg,hg2,CodeCells.ofD ho hl.symm,hb⟩
theorem wcode_at (g:Nat) (ls:List Int) (p:Nat) (hp:p < ls.length) (hok:CodesOK ls) (pv:Value) (L:List Nat) (w:World) (h:RWr w g pv L) (hb:L.length+15≤1000000) :
  Calls Tryz.prog 125 #[.pointer (some ⟨g,0,none⟩),.int .u32 ((codeAt ls p).1:Int),.int .i64 (codeAt ls p).2] w fun e w'=>e=.returned (.int .i64 0)∧∃ pv',RWr w' g pv' (L ++ codeB ls p)∧WrFr w w' g pv pv':=by
 obtain ⟨t,ht,e,hv⟩:=codeAt_ok hok.2.1 hok.2.2 p hp
 unfold codeB
 rw [e]
 exact wcodeR_any g (codeAt ls p).1 t _ _ rfl rfl pv L w h (by omega) (by omega) hv
theorem symbol5_at (a s m r:Nat) (h1:3≤a) (h2:a≤258) (hs:257+lenS a=s) (hm:(lenOf (lenS a)).2=m) (hr:a - (lenOf (lenS a)).1=r) (w:World) :
  Calls Tryz.prog 27 #[.int .i64 (a:Int)] w fun e w'=>e=.returned (.tuple #[.int .i64 (s:Int),.int .i64 (m:Int),.int .i64 (r:Int)])∧w=w':=by
 refine (symbol5_any (a:Int) w).mono ?_
 rintro e w' ⟨rfl,rfl⟩
 have hsp:=(lenS_spec h1).2.1
 refine ⟨?_,rfl⟩
 unfold symV
 rw [if_neg (by omega),show ((a:Int)).toNat=a from rfl,hm]
 show Ending.returned (.tuple #[.int .i64 (257+((lenS a:Nat):Int)),.int .i64 (m:Int),.int .i64 ((a:Int) - (((lenOf (lenS a)).1:Nat):Int))])=_
 rw [show (257:Int)+((lenS a:Nat):Int)=(s:Int) by omega,show (a:Int) - (((lenOf (lenS a)).1:Nat):Int)=(r:Int) by omega]
theorem distance5_at (d q m r:Nat) (h1:1≤d) (h2:d≤32768) (hs:distS d=q) (hm:(distOf (distS d)).2=m) (hr:d - (distOf (distS d)).1=r) (w:World) :
  Calls Tryz.prog 29 #[.int .i64 (d:Int)] w fun e w'=>e=.returned (.tuple #[.int .i64 (q:Int),.int .i64 (m:Int),.int .i64 (r:Int)])∧w=w':=by
 refine (distance5_any (d:Int) w).mono ?_
 rintro e w' ⟨rfl,rfl⟩
 have hsp:=(distS_spec h1).2.1
 refine ⟨?_,rfl⟩
 unfold dstV
 rw [if_neg (by omega),show ((d:Int)).toNat=d from rfl,hm,hs]
 rw [hs] at hr hsp
 show Ending.returned (.tuple #[.int .i64 ((q:Nat):Int),.int .i64 (m:Int),.int .i64 ((d:Int) - (((distOf q).1:Nat):Int))])=_
 rw [show (d:Int) - (((distOf q).1:Nat):Int)=(r:Int) by omega]
set_option maxRecDepth 100000 in
set_option maxHeartbeats 6400000 in
theorem block5_any (B n c na ca nb cb ga gb g:Nat) (A:Option Addr) (ts:List Tok) (ll dd:List Int) (pv:Value) (L:List Nat) (w:World)
  (hW:RWr w g pv L) (h:RdJ w B A n ts) (hca:CodeCells w ga ll) (hcb:CodeCells w gb dd) (hxa:Bx w g pv ga) (hxb:Bx w g pv gb) (hB:B≤g) (hpB:∀ k,pv.ownBlock=some k→B≤k) (hn:n≤50000) (hna:na=ll.length) (hnb:nb=dd.length)
  (hok:∀ t ∈ ts,TokOK t∧TokIn ll dd t) (hol:CodesOK ll) (hod:CodesOK dd) (h256:256 < na) (hmax:∀ k,k≤n→L.length+((ts.take k).flatMap (tokB ll dd)).length+100≤1000000) :
  Calls Tryz.prog 119 #[.pointer (some ⟨g,0,none⟩),.slice A n c,.slice (some ⟨ga,0,none⟩) na ca,.slice (some ⟨gb,0,none⟩) nb cb] w fun e w'=>e=.returned (.tuple #[])∧∃ pv',RWr w' g pv' (L ++ toksB ll dd ts)∧WrFr w w' g pv pv':=by
 have HR4:=Lib.hid h
 have HOK:=Lib.hid hok
 have HOL:=Lib.hid hol
 have HOD:=Lib.hid hod
 have HMX:=Lib.hid hmax
 have hl:=h.len
 have hgw:=hW.1.lt
 have HPB:=Lib.hid hpB
 have HCC4:=Lib.hid hca
 have HDD4:=Lib.hid hcb
 have HX4:=Lib.hid hxa
 have HY4:=Lib.hid hxb
 have HW4:=Lib.hid hW
 have HNA:=Lib.hid hna
 have HNB:=Lib.hid hnb
 have HL0:Hid (L ++ (ts.take 0).flatMap (tokB ll dd)=L):=(show _=_ by simp)
 clear hW h hca hcb hxa hxb hok hol hod hmax hpB hna hnb
 go_enter Tryz.func119,Tryz.ntmps119
 go_wp2_with fail
 go_loopw [8] (fun vi wr=>∃ k:Nat,k≤n∧vi=.int .i64 k∧∃ pq,Hid (RWr wr g pq (L ++ (ts.take k).flatMap (tokB ll dd)))∧Hid (WrFr w wr g pv pq)) (fun vi _=>n - (intOf vi).toNat)
 case atStart=>exact ⟨0,Nat.zero_le _,rfl,pv,(show RWr _ _ _ _ by rw [HL0.out];exact HW4.out),WrFr.refl _ _ _⟩
 case round =>
  clear HW4 HL0
  obtain ⟨k,hk,rfl,pq,HW,HF⟩:=hrel
  have hszr:=HF.out.size
  by_cases hlt:k < n
  ·have hlti:(k:Int) < (n:Int):=by omega
   obtain ⟨b,o,⟨a,d,y⟩,e0,hb,HX,e1,e2,e3⟩:=(HR4.out.blw (HF.out.below (B:=B) (by omega) hB HPB.out)).one hlt
   subst e0
   have hok:=HOK.out _ (List.mem_of_getElem? HX.out)
   have HST:Hid (L ++ (ts.take (k+1)).flatMap (tokB ll dd)=L ++ (ts.take k).flatMap (tokB ll dd) ++ tokB ll dd (a,d,y)):=(show _=_ by rw [toks_take HX.out,List.append_assoc])
   have hmx:=HMX.out k hk
   have hlenk:(L ++ (ts.take k).flatMap (tokB ll dd)).length+100≤1000000:=by rw [List.length_append];omega
   generalize L ++ (ts.take k).flatMap (tokB ll dd)=LL at *
   have hbN:¬ b=wr.heap.size:=by omega
   obtain ⟨w5,hw5⟩:∃ w5,wr.alloc (.cells #[.int .i64 (a:Int),.int .i64 (d:Int),.int .i64 (y:Int)] 143)=w5:=⟨_,rfl⟩
   obtain ⟨b5,hb5⟩:∃ b5,wr.heap.size=b5:=⟨_,rfl⟩
   have HW5:Hid (RWr w5 g pq LL):=(show RWr _ _ _ _ by rw [← hw5];exact HW.out.alloc _)
   have HF5:Hid (WrFr w w5 g pv pq):=(show WrFr _ _ _ _ _ by rw [← hw5];exact HF.out.alloc _)
   have HT5:Hid (Arr w5 b5 [.int .i64 (a:Int),.int .i64 (d:Int),.int .i64 (y:Int)]):=(show Arr _ _ _ by rw [← hw5,← hb5];exact Arr.new wr [.int .i64 (a:Int),.int .i64 (d:Int),.int .i64 (y:Int)] _)
   have HXT5:Hid (Bx w5 g pq b5):=(show Bx _ _ _ _ by rw [← hw5,← hb5];exact Bx.newR HW.out _)
   have t50:=HT5.out.cell (k:=0) rfl
   have t51:=HT5.out.cell (k:=1) rfl
   have t52:=HT5.out.cell (k:=2) rfl
   clear HW HF
   by_cases ha:a=0
   ·have d1:((a:Int) == 0)=true:=by rw [ha];rfl
    have hw5z:wr.alloc (.cells #[.int .i64 0,.int .i64 (d:Int),.int .i64 (y:Int)] 143)=w5:=by rw [← hw5,ha];rfl
    have hy:y < ll.length:=by have:=hok.2.1;unfold symT at this;rw [if_pos ha] at this;exact this
    have hyn:(y:Int) < (na:Int):=by have:=HNA.out;omega
    have htk:tokB ll dd (a,d,y)=codeB ll y:=if_pos ha
    rw [htk] at HST
    obtain ⟨q1,q2⟩:=HCC4.out.bx HX4.out HF5.out y hy
    have HC:=Lib.hid (wcode_at g ll y hy HOL.out _ _ _ HW5.out.drew (by omega))
    generalize codeAt ll y=cv at *
    have hyn2:y < na:=by omega
    go_wp2_with fail
    go_still_tail 13,(by kernel_rfl)
    go_wp2_with ((go_at_call 125;(with_reducible refine HC.out.mono ?_);go_must (rintro e w6 ⟨rfl,p6,hw6,hf6⟩;rw [← HST.out] at hw6;have HW6:=Lib.hid hw6;have HF6:=Lib.hid (HF5.out.drew.trans hf6);clear hw6 hf6)))
    go_roundw
    case rel=>exact ⟨k+1,by omega,by go_num,p6,HW6,HF6⟩
    case measure=>simp [intOf];omega
   ·have d1:((a:Int) == 0)=false:=beq_eq_false_iff_ne.2 (by omega)
    obtain ⟨h3,h4,h5,h6⟩:3≤a∧a≤258∧1≤d∧d≤32768:=by rcases hok.1 with ⟨h,_⟩ | h;exact absurd h ha;exact h
    have hs9:257+lenS a < ll.length:=by have:=hok.2.1;unfold symT at this;rw [if_neg ha] at this;exact this
    have hd9:distS d < dd.length:=hok.2.2 (distS d) (by unfold dstT;rw [if_neg ha];simp)
    have htk:tokB ll dd (a,d,y)=codeB ll (257+lenS a) ++ lsb (a - (lenOf (lenS a)).1) (lenOf (lenS a)).2 ++ codeB dd (distS d) ++ lsb (d - (distOf (distS d)).1) (distOf (distS d)).2:=if_neg ha
    rw [htk] at HST
    have hfit1:=lenS_fit h3 h4
    have hfit2:=distS_fit h5 h6
    have hb1:=(lenOf_le (lenS_spec h3).1).2
    have hb2:=(distOf_le (distS_spec h5).1).2
    obtain ⟨s,hs⟩:∃ s,257+lenS a=s:=⟨_,rfl⟩
    obtain ⟨q,hq⟩:∃ q,distS d=q:=⟨_,rfl⟩
    obtain ⟨m1,hm1⟩:∃ m1,(lenOf (lenS a)).2=m1:=⟨_,rfl⟩
    obtain ⟨m2,hm2⟩:∃ m2,(distOf (distS d)).2=m2:=⟨_,rfl⟩
    obtain ⟨r1,hr1⟩:∃ r1,a - (lenOf (lenS a)).1=r1:=⟨_,rfl⟩
    obtain ⟨r2,hr2⟩:∃ r2,d - (distOf (distS d)).1=r2:=⟨_,rfl⟩
    have HS1:=Lib.hid (fun w=>symbol5_at a s m1 r1 h3 h4 hs hm1 hr1 w)
    have HS2:=Lib.hid (fun w=>distance5_at d q m2 r2 h5 h6 hq hm2 hr2 w)
    rw [hs] at hs9 HST
    rw [hm1] at hfit1 hb1 HST
    rw [hr1] at hfit1 HST
    rw [hm2] at hfit2 hb2 HST
    rw [hr2] at hfit2 HST
    rw [hq] at hd9 HST
    rw [← List.append_assoc,← List.append_assoc,← List.append_assoc] at HST
    have hr1b:r1 < 4294967296:=by rw [← hr1];omega
    have hr2b:r2 < 4294967296:=by rw [← hr2];omega
    have cr1:(r1:Int) % 4294967296=(r1:Int):=Int.emod_eq_of_lt (by omega) (by omega)
    have cr2:(r2:Int) % 4294967296=(r2:Int):=Int.emod_eq_of_lt (by omega) (by omega)
    clear hs hq hm1 hm2 hr1 hr2 htk hok
    have hsn:(s:Int) < (na:Int):=by have:=HNA.out;omega
    have hqn:(q:Int) < (nb:Int):=by have:=HNB.out;omega
    have hsn2:s < na:=by omega
    have hqn2:q < nb:=by omega
    obtain ⟨q1,q2⟩:=HCC4.out.bx HX4.out HF5.out s hs9
    have hcl1:=codeB_le hs9 HOL.out
    have hcl2:=codeB_le hd9 HOD.out
    have HC:=Lib.hid (wcode_at g ll s hs9 HOL.out _ _ _ HW5.out.drew (by omega))
    generalize codeAt ll s=cv at *
    go_wp2_with (go_at_call 27;(with_reducible refine (HS1.out _).mono ?_);go_must (rintro e w9 ⟨rfl,rfl⟩))
    go_still_tail 11,(by kernel_rfl)
    go_wp2_with (first
     | (go_at_call 125;(with_reducible refine HC.out.mono ?_);go_must (rintro e w6 ⟨rfl,p6,hw6,hf6⟩;have HT6:=Lib.hid (HT5.out.drew.wr HXT5.out.drew hf6);have HXT6:=Lib.hid (HXT5.out.drew.wr hf6);have HF6:=Lib.hid (HF5.out.drew.trans hf6);have t61:=HT6.out.cell (k:=1) rfl;have HP:=Lib.hid (wputR_any g r1 m1 (r1:Int) (m1:Int) rfl rfl _ _ _ hw6 (by rw [List.length_append];omega) (by omega) hfit1);clear hw6 hf6))
     | (go_at_call 116;(with_reducible refine HP.out.mono ?_);go_must (rintro e w7 ⟨rfl,p7,hw7,hf7⟩;have HW7:=Lib.hid hw7;have HT7:=Lib.hid (HT6.out.wr HXT6.out hf7);have HXT7:=Lib.hid (HXT6.out.wr hf7);have HF7:=Lib.hid (HF6.out.trans hf7);have t71:=HT7.out.cell (k:=1) rfl;clear hw7 hf7))
     | (go_at_call 29;(with_reducible refine (HS2.out _).mono ?_);go_must (rintro e w9 ⟨rfl,rfl⟩)))
    obtain ⟨k1,k2⟩:=HDD4.out.bx HY4.out HF7.out q hd9
    have HC2:=Lib.hid (wcode_at g dd q hd9 HOD.out _ _ _ HW7.out.drew (by rw [List.length_append,List.length_append,lsb_len];omega))
    generalize codeAt dd q=cu at *
    go_still_tail 11,(by kernel_rfl)
    go_wp2_with (first
     | (go_at_call 125;(with_reducible refine HC2.out.mono ?_);go_must (rintro e w8 ⟨rfl,p8,hw8,hf8⟩;have HF8:=Lib.hid (HF7.out.drew.trans hf8);have HP2:=Lib.hid (wputR_any g r2 m2 (r2:Int) (m2:Int) rfl rfl _ _ _ hw8 (by rw [List.length_append,List.length_append,List.length_append,lsb_len];omega) (by omega) hfit2);clear hw8 hf8))
     | (go_at_call 116;(with_reducible refine HP2.out.mono ?_);go_must (rintro e w9 ⟨rfl,p9,hw9,hf9⟩;rw [← HST.out] at hw9;have HW9:=Lib.hid hw9;have HF9:=Lib.hid (HF8.out.trans hf9);clear hw9 hf9)))
    go_roundw
    case rel=>exact ⟨k+1,by omega,by go_num,p9,HW9,HF9⟩
    case measure=>simp [intOf];omega
  ·obtain rfl:k=n:=by omega
   have HT:Hid (L ++ (ts.take k).flatMap (tokB ll dd) ++ codeB ll 256=L ++ toksB ll dd ts):=(show _=_ by rw [List.take_of_length_le (by omega),List.append_assoc];rfl)
   have hmx:=HMX.out k (Nat.le_refl _)
   have hlen:(L ++ (ts.take k).flatMap (tokB ll dd)).length+100≤1000000:=by rw [List.length_append];omega
   generalize L ++ (ts.take k).flatMap (tokB ll dd)=LL at *
   have HW5:=Lib.hid HW.out
   have HF5:=Lib.hid HF.out
   obtain ⟨w5,rfl⟩:∃ w5:World,w5=wr:=⟨_,rfl⟩
   have h256l:256 < ll.length:=by have:=HNA.out;omega
   obtain ⟨q1,q2⟩:=HCC4.out.bx HX4.out HF5.out 256 h256l
   have q1:w5.cell? ⟨ga,512,none⟩=_:=q1
   have q2:w5.cell? ⟨ga,513,none⟩=_:=q2
   have hsn:(256:Int) < (na:Int):=by omega
   have HC:=Lib.hid (wcode_at g ll 256 h256l HOL.out _ _ _ HW5.out.drew (by omega))
   generalize codeAt ll 256=cv at *
   go_wp2_with fail
   go_still_tail 9,(by kernel_rfl)
   go_wp2_with (go_at_call 125;(with_reducible refine HC.out.mono ?_);go_must (rintro e w6 ⟨rfl,p6,hw6,hf6⟩;rw [HT.out] at hw6;have HW6:=Lib.hid hw6;have HF6:=Lib.hid (HF5.out.drew.trans hf6);clear hw6 hf6))
   (try simp only [Exit.inBlock,Exit.then])
   first | (refine bodyPost_ret (results_none rfl _ _ _) rfl ?_) | (refine bodyPost_end (results_none rfl _ _ _) rfl ?_)
   exact ⟨rfl,p6,HW6.out,HF6.out⟩
end Go.Proofs.YteoolehdomjkkaaGreat

