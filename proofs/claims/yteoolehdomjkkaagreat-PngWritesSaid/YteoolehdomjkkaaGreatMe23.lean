/- XRowG -/
import Derived.Test.YteoolehdomjkkaaGreatMe01
namespace Go.Proofs.YteoolehdomjkkaaGreat
set_option linter.all false
open Go.RowKit
def eG (x:(Nat × Nat × Nat)):List Value:=[Value.int .i64 (x.1:Int),Value.int .i64 (x.2.1:Int),Value.int .i64 (x.2.2:Int)]
theorem eG_len (x:(Nat × Nat × Nat)):(eG x).length=3:=rfl
/-- The cells of a list. -/
def cG (l:List (Nat × Nat × Nat)):List Value:=l.flatMap eG
theorem cG_length:∀ l:List (Nat × Nat × Nat),(cG l).length=l.length * 3
 | []=>rfl
 | x :: l=>by
  have:=cG_length l
  unfold cG at this ⊢
  rw [List.flatMap_cons,List.length_append,this,eG_len,List.length_cons]
  omega
theorem cG_append (a b:List (Nat × Nat × Nat)):cG (a ++ b)=cG a ++ cG b:=by simp [cG]
theorem cG_single (x:(Nat × Nat × Nat)):cG [x]=eG x:=by simp [cG]
theorem cG_get:∀ (l:List (Nat × Nat × Nat)) (k j:Nat) (hk:k < l.length),j < 3→(cG l)[k * 3+j]?=(eG l[k])[j]?
 | x :: l,0,j,_,hj=>by
  unfold cG
  rw [List.flatMap_cons,List.getElem?_append_left (by rw [eG_len];omega)]
  simp
 | x :: l,i+1,j,hi,hj=>by
  have:=cG_get l i j (by simpa using hi) hj
  unfold cG at this ⊢
  rw [List.flatMap_cons,List.getElem?_append_right (by rw [eG_len];omega),eG_len,List.getElem_cons_succ,← this]
  congr 1
  omega
theorem cG_one (l:List (Nat × Nat × Nat)):∀ u ∈ cG l,u.oneCell'=true:=by
 intro u hu
 simp only [cG,List.mem_flatMap] at hu
 obtain ⟨x,_,hx⟩:=hu
 simp only [eG,List.mem_cons,List.not_mem_nil,or_false] at hx
 rcases hx with rfl | rfl | rfl <;> rfl
theorem cG_set (l:List (Nat × Nat × Nat)) (k:Nat) (x:(Nat × Nat × Nat)) (hk:k < l.length):cG (l.set k x)=(((cG l).set (k * 3) (Value.int .i64 (x.1:Int))).set (k * 3+1) (Value.int .i64 (x.2.1:Int))).set (k * 3+2) (Value.int .i64 (x.2.2:Int)):=by
 have e1:l=l.take k ++ l[k] :: l.drop (k+1):=by rw [← List.drop_eq_getElem_cons hk,List.take_append_drop]
 have e2:l.set k x=l.take k ++ x :: l.drop (k+1):=by rw [List.set_eq_take_append_cons_drop,if_pos hk]
 rw [e2]
 have hl:(cG (l.take k)).length=k * 3:=by rw [cG_length,List.length_take,Nat.min_eq_left (by omega)]
 have e3:cG l=cG (l.take k) ++ (eG l[k] ++ cG (l.drop (k+1))):=by
  conv=>lhs;rw [e1]
  rw [cG_append]
  simp only [cG,List.flatMap_cons]
 have e4:cG (l.take k ++ x :: l.drop (k+1))=cG (l.take k) ++ (eG x ++ cG (l.drop (k+1))):=by
  rw [cG_append]
  simp only [cG,List.flatMap_cons]
 rw [e3,e4]
 generalize cG (l.take k)=P at *
 rw [← hl]
 simp [eG,List.set_append]
theorem Tryz.info_G:(Tryz.prog.info? 139).map (fun i=>(i.zero,i.size,i.bytes))=some (some (.agg #[.int .i64 0,.int .i64 0,.int .i64 0]),3,24):=by kernel_rfl
def ownG (w:World) (base:Nat) (v:Value) (l:List (Nat × Nat × Nat)):Prop:=w.ownsRow base 139 3 v l.length (cG l)
def RdG (w:World) (B:Nat) (A:Option Addr) (n:Nat) (l:List (Nat × Nat × Nat)):Prop:=Rd w B 3 A n (cG l)
theorem RdG.len {w:World} {B n:Nat} {A:Option Addr} {l:List (Nat × Nat × Nat)} (h:RdG w B A n l):l.length=n:=by
 have:=h.1;rw [cG_length] at this;omega
theorem RdG.one {w:World} {B n:Nat} {A:Option Addr} {l:List (Nat × Nat × Nat)} (h:RdG w B A n l) {k:Nat} (hk:k < n) :
  ∃ b o x,A=some ⟨b,o,none⟩∧b < B∧Hid (l[k]?=some x)∧w.cell? ⟨b,o+k * 3,none⟩=some (Value.int .i64 (x.1:Int))∧w.cell? ⟨b,o+k * 3+1,none⟩=some (Value.int .i64 (x.2.1:Int))∧w.cell? ⟨b,o+k * 3+2,none⟩=some (Value.int .i64 (x.2.2:Int)):=by
 obtain ⟨b,o,e,hb,hc⟩:=h.2 (by omega)
 have hl:=h.len
 have hk':k < l.length:=by omega
 refine ⟨b,o,l[k],e,hb,List.getElem?_eq_getElem hk',?_,?_,?_⟩
 ·exact hc (k * 3) _ ((cG_get l k 0 hk' (by omega)).trans rfl)
 ·exact hc (k * 3+1) _ ((cG_get l k 1 hk' (by omega)).trans rfl)
 ·exact hc (k * 3+2) _ ((cG_get l k 2 hk' (by omega)).trans rfl)
theorem RdG.blw {w w':World} {B n:Nat} {A:Option Addr} {l:List (Nat × Nat × Nat)} (h:RdG w B A n l) (hb:Below B w w'):RdG w' B A n l:=Rd.below h hb
theorem RdG.more {w:World} {B B' n:Nat} {A:Option Addr} {l:List (Nat × Nat × Nat)} (h:RdG w B A n l) (hB:B≤B'):RdG w B' A n l:=Rd.more h hB
theorem RdG.here {w:World} {B n:Nat} {A:Option Addr} {l:List (Nat × Nat × Nat)} (h:RdG w B A n l):RdG w w.heap.size A n l :=
 ⟨h.1,fun hn=>by
  obtain ⟨b,o,e,hb,hc⟩:=h.2 hn
  have hl:=h.1
  exact ⟨b,o,e,block_lt_of_cell (a:=⟨b,o+0,none⟩) (hc 0 (cG l)[0] (List.getElem?_eq_getElem (by omega))),hc⟩⟩
theorem RdG.later {w w':World} {n:Nat} {A:Option Addr} {l:List (Nat × Nat × Nat)} (h:RdG w w.heap.size A n l) (hb:Below w.heap.size w w'):RdG w' w'.heap.size A n l:=RdG.here (RdG.blw h hb)
theorem RdG.alloc {w:World} {B n:Nat} {A:Option Addr} {l:List (Nat × Nat × Nat)} (h:RdG w B A n l) (hB:B≤w.heap.size) (o:Obj):RdG (w.alloc o) B A n l:=Rd.alloc h hB o
theorem RdG.nil_ {w:World} {B:Nat} {A:Option Addr}:RdG w B A 0 []:=⟨by simp [cG],fun h=>absurd h (by omega)⟩
theorem RdG.cut {w:World} {B n:Nat} {A:Option Addr} {l:List (Nat × Nat × Nat)} (h:RdG w B A n l) {k m:Nat} (hk:k+m≤n) {A':Option Addr} (hA:0 < m→A'=A.map (·.add (k * 3))) :
  RdG w B A' m ((l.drop k).take m):=by
 have:=Rd.cut h hk (A':=A') hA
 unfold RdG
 have e1:∀ (q:Nat) (l:List (Nat × Nat × Nat)),cG (l.take q)=(cG l).take (q * 3):=fun q l=>by
  rcases Nat.lt_or_ge q l.length with hq | hq
  ·conv=>rhs;rw [← List.take_append_drop q l,cG_append]
   rw [List.take_left' (by rw [cG_length,List.length_take,Nat.min_eq_left (by omega)])]
  ·rw [List.take_of_length_le hq,List.take_of_length_le (by rw [cG_length];exact Nat.mul_le_mul_right _ hq)]
 have e2:∀ (q:Nat) (l:List (Nat × Nat × Nat)),cG (l.drop q)=(cG l).drop (q * 3):=fun q l=>by
  rcases Nat.lt_or_ge q l.length with hq | hq
  ·conv=>rhs;rw [← List.take_append_drop q l,cG_append]
   rw [List.drop_left' (by rw [cG_length,List.length_take,Nat.min_eq_left (by omega)])]
  ·rw [List.drop_eq_nil_of_le hq,List.drop_eq_nil_of_le (by rw [cG_length];exact Nat.mul_le_mul_right _ hq)]
   rfl
 rw [e1,e2]
 exact this
theorem ownG.nil_ (w:World) (base:Nat):ownG w base (.slice none 0 0) []:=World.ownsRow_nil _ _ _ _
theorem ownG.mono {w:World} {base base':Nat} {v:Value} {l:List (Nat × Nat × Nat)} (h:ownG w base v l) (hb:base'≤base):ownG w base' v l:=by
 refine ⟨h.1,?_⟩
 rcases h.2 with hn | ⟨g,cap,cur,rfl,hbg,rest⟩
 ·exact .inl hn
 ·exact .inr ⟨g,cap,cur,rfl,by omega,rest⟩
theorem ownG.later {w w':World} {base:Nat} {v:Value} {l:List (Nat × Nat × Nat)} (h:ownG w base v l) (hb:Below w.heap.size w w'):ownG w' base v l :=
 Below.ownsRow h hb (fun g hg=>(World.ownsRow.lt h g hg).2)
theorem ownG.alloc {w:World} {base:Nat} {v:Value} {l:List (Nat × Nat × Nat)} (h:ownG w base v l) (o:Obj):ownG (w.alloc o) base v l:=World.ownsRow.alloc h o
theorem ownG.drew {w:World} {base:Nat} {v:Value} {l:List (Nat × Nat × Nat)} (h:ownG w base v l):ownG w.drew base v l:=h
theorem ownG.drewN {w:World} {base:Nat} {v:Value} {l:List (Nat × Nat × Nat)} (h:ownG w base v l) (n:Nat):ownG (w.drewN n) base v l:=h
theorem ownG.form {w:World} {base:Nat} {v:Value} {l:List (Nat × Nat × Nat)} (h:ownG w base v l) :
  ∃ A c,v=.slice A l.length c∧RdG w w.heap.size A l.length l∧l.length≤c∧c≤maxLen:=by
 rcases h.2 with ⟨rfl,h0⟩ | ⟨g,cap,cur,rfl,_,_,h1,h2,_⟩
 ·have:l=[]:=List.eq_nil_of_length_eq_zero h0
  subst this
  exact ⟨none,0,rfl,Rd.none_,by simp,by simp⟩
 ·exact ⟨_,_,rfl,Rd.of_own h,h1,h2⟩
theorem ownG.kept {w w':World} {base:Nat} {v:Value} {l:List (Nat × Nat × Nat)} {row:Option Nat} (h:ownG w base v l) (hg:w.grownBy w' row) (hne:v.ownBlock=none∨v.ownBlock ≠ row):ownG w' base v l :=
 World.ownsRow.kept h hg hne
theorem ownG.far {w:World} {base g:Nat} {v:Value} {l:List (Nat × Nat × Nat)} (h:ownG w base v l) (hg:v.ownBlock ≠ some g) (o:Nat) (u:Value) :
  ownG (w.setCell ⟨g,o,none⟩ u) base v l:=by
 refine ⟨h.1,?_⟩
 rcases h.2 with hn | ⟨g',cap,cur,rfl,hb,hgg,rest⟩
 ·exact .inl hn
 ·refine .inr ⟨g',cap,cur,rfl,hb,?_,rest⟩
  rw [Below.heap_setCell _ _ _ _ (by intro e;apply hg;simp [Value.ownBlock];exact e)]
  exact hgg
theorem ownG.ne {w:World} {base g:Nat} {v:Value} {l:List (Nat × Nat × Nat)} (h:ownG w base v l) (hg:g < base):v.ownBlock ≠ some g:=by
 intro e
 have:=(World.ownsRow.lt h g e).1
 omega
theorem ownG.pos {w:World} {base n c:Nat} {A:Option Addr} {l:List (Nat × Nat × Nat)} (h:ownG w base (.slice A n c) l) (hn:0 < n):n=l.length∧∃ g,A=some ⟨g,0,none⟩∧base≤g∧g < w.heap.size:=by
 rcases h.2 with ⟨h',_⟩ | ⟨g,cap,cur,h',hb,hg,_⟩
 ·injection h' with _ h2;omega
 ·injection h' with h1 h2
  exact ⟨h2,g,h1,hb,(World.ownsRow.lt h g (by rw [h1];rfl)).2⟩
theorem ownG.cell {w:World} {base g n c:Nat} {l:List (Nat × Nat × Nat)} (h:ownG w base (.slice (some ⟨g,0,none⟩) n c) l) (hn:n=l.length) {k:Nat} (hk:k < l.length) :
  w.cell? ⟨g,k * 3,none⟩=some ((fun x:(Nat × Nat × Nat)=>Value.int .i64 (x.1:Int)) l[k])∧w.cell? ⟨g,k * 3+1,none⟩=some ((fun x:(Nat × Nat × Nat)=>Value.int .i64 (x.2.1:Int)) l[k])∧w.cell? ⟨g,k * 3+2,none⟩=some ((fun x:(Nat × Nat × Nat)=>Value.int .i64 (x.2.2:Int)) l[k]):=by
 subst hn
 refine ⟨?_,?_,?_⟩
 ·exact (World.ownsRow.cellAt h (k * 3) (by have:=hk;omega)).trans ((cG_get l k 0 hk (by omega)).trans rfl)
 ·exact (World.ownsRow.cellAt h (k * 3+1) (by have:=hk;omega)).trans ((cG_get l k 1 hk (by omega)).trans rfl)
 ·exact (World.ownsRow.cellAt h (k * 3+2) (by have:=hk;omega)).trans ((cG_get l k 2 hk (by omega)).trans rfl)
theorem ownG.frozen {w:World} {base g n c:Nat} {l:List (Nat × Nat × Nat)} (h:ownG w base (.slice (some ⟨g,0,none⟩) n c) l) (hn:n=l.length) (k:Nat) :
  w.frozen? ⟨g,k,none⟩=false:=by
 subst hn
 exact World.ownsRow.frozenAt h k
theorem ownG.store {w:World} {base g n c:Nat} {l:List (Nat × Nat × Nat)} (h:ownG w base (.slice (some ⟨g,0,none⟩) n c) l) (hn:n=l.length) (k:Nat) (x:(Nat × Nat × Nat)) (hk:k < l.length) :
  ownG (((w.setCell ⟨g,k * 3,none⟩ (Value.int .i64 (x.1:Int))).setCell ⟨g,k * 3+1,none⟩ (Value.int .i64 (x.2.1:Int))).setCell ⟨g,k * 3+2,none⟩ (Value.int .i64 (x.2.2:Int))) base (.slice (some ⟨g,0,none⟩) n c) (l.set k x):=by
 subst hn
 have h0:w.ownsRow base 139 3 (.slice (some ⟨g,0,none⟩) l.length c) l.length (cG l):=h
 have h1:=(World.ownsRow.stored h0 (k * 3) (Value.int .i64 (x.1:Int))).1
 have h2:=(World.ownsRow.stored h1 (k * 3+1) (Value.int .i64 (x.2.1:Int))).1
 have h3:=(World.ownsRow.stored h2 (k * 3+2) (Value.int .i64 (x.2.2:Int))).1
 unfold ownG
 rw [List.length_set,cG_set l k x hk]
 exact h3
theorem ownG.rd {w:World} {base n c:Nat} {A:Option Addr} {l:List (Nat × Nat × Nat)} (h:ownG w base (.slice A n c) l):RdG w w.heap.size A n l:=by
 obtain ⟨A4,c4,e5,hd4,_,_⟩:=h.form
 injection e5 with e1 e2 e3
 rw [e1,e2]
 exact hd4
/-- One element that lies in a block, whole. -/
theorem rd_oneG (w:World) (x:(Nat × Nat × Nat)) (t:TypeId) (fr:Nat × Nat):RdG (w.alloc (.cells (eG x).toArray t fr)) (w.heap.size+1) (some ⟨w.heap.size,0,none⟩) 1 [x]:=by
 refine ⟨by rw [cG_length];rfl,fun _=>⟨_,_,rfl,by omega,fun j u hu=>?_⟩⟩
 rw [Nat.zero_add]
 have:=cell_of_row (w.alloc (.cells (eG x).toArray t fr)) w.heap.size j (eG x).toArray t fr (heap_alloc_new w _)
 rw [this]
 rw [cG_single] at hu
 simpa using hu
set_option maxRecDepth 100000 in
theorem run_appendG (w:World) (base:Nat) (t2:TypeId) (v:Value) (l:List (Nat × Nat × Nat)) (hown:ownG w base v l) (B m c:Nat) (A:Option Addr) (news:List (Nat × Nat × Nat)) (hr:RdG w B A m news)
  (hb:l.length+m≤1099511627776) (hbase:base≤w.heap.size) :
  ∃ v' w',(Builtin.append_ #[136,136] t2 #[v,.slice A m c]).run Tryz.prog w=.ok v' w'∧ownG w' base v' (l ++ news)∧w.grownBy w' v.ownBlock ∧
   (v'.ownBlock=v.ownBlock∨v'.ownBlock=some w.heap.size)∧(v'=.slice none 0 0 ↔ v=.slice none 0 0∧m=0):=by
 obtain ⟨i0,hi,hz0,hz1,hz2⟩:=info_parts Tryz.info_G
 have hl:=hr.len
 subst hl
 unfold ownG
 rw [List.length_append,cG_append]
 rcases A with _ | ad
 ·have hn:news=[]:=by
   rcases Nat.eq_zero_or_pos news.length with h0 | h0
   ·exact List.eq_nil_of_length_eq_zero h0
   ·obtain ⟨b,o,h,_⟩:=hr.2 h0
    cases h
  subst hn
  refine ⟨v,w,?_,by simpa [cG,ownG] using hown,World.grownBy.refl w _,.inl rfl,by simp⟩
  rcases hown.2 with ⟨rfl,h0⟩ | ⟨g,cap,cur,rfl,_,_,hnc,_⟩
  ·simp [Builtin.append_,run_underlying Tryz.underlying136,sizeOf,typeInfo,hi,Builtin.lenOf,Builtin.firstCells]
  ·simp [Builtin.append_,run_underlying Tryz.underlying136,sizeOf,typeInfo,hi,Builtin.lenOf,Builtin.firstCells,hnc,storeCells]
 ·have hcells:∀ j u,(cG news)[j]?=some u→w.cell? (ad.add j)=some u:=by
   intro j u hu
   rcases Nat.eq_zero_or_pos news.length with h0 | h0
   ·have hn:news=[]:=List.eq_nil_of_length_eq_zero h0
    subst hn
    simp [cG] at hu
   ·obtain ⟨b,o,h,_,hc⟩:=hr.2 h0
    injection h with h
    subst h
    rw [add_none]
    exact hc j u hu
  obtain ⟨v',w',hrun,h2,h3,h4,h5⟩:=run_append_own_at (P:=Tryz.prog) w base 136 t2 139 i0 _ 3 24 Tryz.underlying136 hi hz0 hz1 hz2 rfl (by omega) v l.length (cG l) hown ad news.length c (cG news) (by rw [cG_length]) hcells (cG_one _) (by unfold maxLen;omega) (by omega) hbase
  exact ⟨v',w',hrun,h2,h3,h5,h4⟩
/-- append(v, x...): v the call's own, x whatever. -/
theorem wpList_appendG {w:World} {ops:Array Oper} {rest:List Oper} {o:Oper} {a:Act} {Q:Exit→Act→World→Prop} (hgd:o.guard=none) (s x:Operand)
  (ho:o.op=.call { callee:=.builtin .append,args:=#[s,x],argTypes:=#[136,136] })
  (base:Nat) (v:Value) (l:List (Nat × Nat × Nat)) (hs:a.eval s=v) (hown:ownG w base v l) (B m c:Nat) (A:Option Addr) (news:List (Nat × Nat × Nat)) (hx:a.eval x=.slice A m c) (hr:RdG w B A m news)
  (hb:l.length+m≤1099511627776) (hbase:base≤w.heap.size)
  (h:∀ v' w',ownG w' base v' (l ++ news)→w.grownBy w' v.ownBlock→Below base w w'→(v'.ownBlock=v.ownBlock∨v'.ownBlock=some w.heap.size)→wpList Tryz.prog ops Q rest (a.put o.dst v') w') :
  wpList Tryz.prog ops Q (o :: rest) a w:=by
 refine wpList_plain hgd fun K hK=>?_
 obtain ⟨v',w',hrun,h2,h3,h4,_⟩:=run_appendG w base o.type v l hown B m c A news hr hb hbase
 unfold Oper.wp execOp
 simp only [ho,resolve,invoke,builtin,Sem.run_bind,Sem.run_pure,Result.andThen_ok,List.map_toArray,List.map_cons,List.map_nil,hs,hx,hrun]
 exact hK _ _ (h v' w' h2 h3 ((Below.refl _ _).grown h3 hbase (fun k hk=>(World.ownsRow.lt hown k hk).1)) h4)
end Go.Proofs.YteoolehdomjkkaaGreat

