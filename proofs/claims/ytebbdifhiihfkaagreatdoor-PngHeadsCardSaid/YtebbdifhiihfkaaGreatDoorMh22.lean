/- XRowG XFl3 XFl4 -/
import Derived.Test.YtebbdifhiihfkaaGreatDoorMh01
import Derived.Test.YtebbdifhiihfkaaGreatDoorMh05
namespace Go.Proofs.YtebbdifhiihfkaaGreatDoor
set_option linter.all false
open Go.RowKit
def eG (x:(Nat × Nat × Nat)):List Value:=[Value.int .i64 (x.1:Int),Value.int .i64 (x.2.1:Int),Value.int .i64 (x.2.2:Int)]
theorem eG_len (x:(Nat × Nat × Nat)):(eG x).length=3:=rfl
/-- The cells of a list. -/
def cG (l:List (Nat × Nat × Nat)):List Value:=l.flatMap eG
theorem cG_length:∀ l:List (Nat × Nat × Nat),(cG l).length=l.length * 3
 | []=>rfl
 | x :: l=>by
  have:=cG_length l
  unfold cG at this ⊢
  rw [List.flatMap_cons,List.length_append,this,eG_len,List.length_cons]
  omega
theorem cG_append (a b:List (Nat × Nat × Nat)):cG (a ++ b)=cG a ++ cG b:=by simp [cG]
theorem cG_single (x:(Nat × Nat × Nat)):cG [x]=eG x:=by simp [cG]
theorem cG_get:∀ (l:List (Nat × Nat × Nat)) (k j:Nat) (hk:k < l.length),j < 3→(cG l)[k * 3+j]?=(eG l[k])[j]?
 | x :: l,0,j,_,hj=>by
  unfold cG
  rw [List.flatMap_cons,List.getElem?_append_left (by rw [eG_len];omega)]
  simp
 | x :: l,i+1,j,hi,hj=>by
  have:=cG_get l i j (by simpa using hi) hj
  unfold cG at this ⊢
  rw [List.flatMap_cons,List.getElem?_append_right (by rw [eG_len];omega),eG_len,List.getElem_cons_succ,← this]
  congr 1
  omega
theorem cG_one (l:List (Nat × Nat × Nat)):∀ u ∈ cG l,u.oneCell'=true:=by
 intro u hu
 simp only [cG,List.mem_flatMap] at hu
 obtain ⟨x,_,hx⟩:=hu
 simp only [eG,List.mem_cons,List.not_mem_nil,or_false] at hx
 rcases hx with rfl | rfl | rfl <;> rfl
theorem cG_set (l:List (Nat × Nat × Nat)) (k:Nat) (x:(Nat × Nat × Nat)) (hk:k < l.length):cG (l.set k x)=(((cG l).set (k * 3) (Value.int .i64 (x.1:Int))).set (k * 3+1) (Value.int .i64 (x.2.1:Int))).set (k * 3+2) (Value.int .i64 (x.2.2:Int)):=by
 have e1:l=l.take k ++ l[k] :: l.drop (k+1):=by rw [← List.drop_eq_getElem_cons hk,List.take_append_drop]
 have e2:l.set k x=l.take k ++ x :: l.drop (k+1):=by rw [List.set_eq_take_append_cons_drop,if_pos hk]
 rw [e2]
 have hl:(cG (l.take k)).length=k * 3:=by rw [cG_length,List.length_take,Nat.min_eq_left (by omega)]
 have e3:cG l=cG (l.take k) ++ (eG l[k] ++ cG (l.drop (k+1))):=by
  conv=>lhs;rw [e1]
  rw [cG_append]
  simp only [cG,List.flatMap_cons]
 have e4:cG (l.take k ++ x :: l.drop (k+1))=cG (l.take k) ++ (eG x ++ cG (l.drop (k+1))):=by
  rw [cG_append]
  simp only [cG,List.flatMap_cons]
 rw [e3,e4]
 generalize cG (l.take k)=P at *
 rw [← hl]
 simp [eG,List.set_append]
theorem Tryz.info_G:(Tryz.prog.info? 202).map (fun i=>(i.zero,i.size,i.bytes))=some (some (.agg #[.int .i64 0,.int .i64 0,.int .i64 0]),3,24):=by kernel_rfl
def ownG (w:World) (base:Nat) (v:Value) (l:List (Nat × Nat × Nat)):Prop:=w.ownsRow base 202 3 v l.length (cG l)
def RdG (w:World) (B:Nat) (A:Option Addr) (n:Nat) (l:List (Nat × Nat × Nat)):Prop:=Rd w B 3 A n (cG l)
theorem RdG.len {w:World} {B n:Nat} {A:Option Addr} {l:List (Nat × Nat × Nat)} (h:RdG w B A n l):l.length=n:=by
 have:=h.1;rw [cG_length] at this;omega
theorem RdG.one {w:World} {B n:Nat} {A:Option Addr} {l:List (Nat × Nat × Nat)} (h:RdG w B A n l) {k:Nat} (hk:k < n) :
  ∃ b o x,A=some ⟨b,o,none⟩∧b < B∧Hid (l[k]?=some x)∧w.cell? ⟨b,o+k * 3,none⟩=some (Value.int .i64 (x.1:Int))∧w.cell? ⟨b,o+k * 3+1,none⟩=some (Value.int .i64 (x.2.1:Int))∧w.cell? ⟨b,o+k * 3+2,none⟩=some (Value.int .i64 (x.2.2:Int)):=by
 obtain ⟨b,o,e,hb,hc⟩:=h.2 (by omega)
 have hl:=h.len
 have hk':k < l.length:=by omega
 refine ⟨b,o,l[k],e,hb,List.getElem?_eq_getElem hk',?_,?_,?_⟩
 ·exact hc (k * 3) _ ((cG_get l k 0 hk' (by omega)).trans rfl)
 ·exact hc (k * 3+1) _ ((cG_get l k 1 hk' (by omega)).trans rfl)
 ·exact hc (k * 3+2) _ ((cG_get l k 2 hk' (by omega)).trans rfl)
theorem RdG.blw {w w':World} {B n:Nat} {A:Option Addr} {l:List (Nat × Nat × Nat)} (h:RdG w B A n l) (hb:Below B w w'):RdG w' B A n l:=Rd.below h hb
theorem RdG.more {w:World} {B B' n:Nat} {A:Option Addr} {l:List (Nat × Nat × Nat)} (h:RdG w B A n l) (hB:B≤B'):RdG w B' A n l:=Rd.more h hB
theorem RdG.here {w:World} {B n:Nat} {A:Option Addr} {l:List (Nat × Nat × Nat)} (h:RdG w B A n l):RdG w w.heap.size A n l :=
 ⟨h.1,fun hn=>by
  obtain ⟨b,o,e,hb,hc⟩:=h.2 hn
  have hl:=h.1
  exact ⟨b,o,e,block_lt_of_cell (a:=⟨b,o+0,none⟩) (hc 0 (cG l)[0] (List.getElem?_eq_getElem (by omega))),hc⟩⟩
theorem RdG.later {w w':World} {n:Nat} {A:Option Addr} {l:List (Nat × Nat × Nat)} (h:RdG w w.heap.size A n l) (hb:Below w.heap.size w w'):RdG w' w'.heap.size A n l:=RdG.here (RdG.blw h hb)
theorem RdG.alloc {w:World} {B n:Nat} {A:Option Addr} {l:List (Nat × Nat × Nat)} (h:RdG w B A n l) (hB:B≤w.heap.size) (o:Obj):RdG (w.alloc o) B A n l:=Rd.alloc h hB o
theorem RdG.nil_ {w:World} {B:Nat} {A:Option Addr}:RdG w B A 0 []:=⟨by simp [cG],fun h=>absurd h (by omega)⟩
theorem RdG.cut {w:World} {B n:Nat} {A:Option Addr} {l:List (Nat × Nat × Nat)} (h:RdG w B A n l) {k m:Nat} (hk:k+m≤n) {A':Option Addr} (hA:0 < m→A'=A.map (·.add (k * 3))) :
  RdG w B A' m ((l.drop k).take m):=by
 have:=Rd.cut h hk (A':=A') hA
 unfold RdG
 have e1:∀ (q:Nat) (l:List (Nat × Nat × Nat)),cG (l.take q)=(cG l).take (q * 3):=fun q l=>by
  rcases Nat.lt_or_ge q l.length with hq | hq
  ·conv=>rhs;rw [← List.take_append_drop q l,cG_append]
   rw [List.take_left' (by rw [cG_length,List.length_take,Nat.min_eq_left (by omega)])]
  ·rw [List.take_of_length_le hq,List.take_of_length_le (by rw [cG_length];exact Nat.mul_le_mul_right _ hq)]
 have e2:∀ (q:Nat) (l:List (Nat × Nat × Nat)),cG (l.drop q)=(cG l).drop (q * 3):=fun q l=>by
  rcases Nat.lt_or_ge q l.length with hq | hq
  ·conv=>rhs;rw [← List.take_append_drop q l,cG_append]
   rw [List.drop_left' (by rw [cG_length,List.length_take,Nat.min_eq_left (by omega)])]
  ·rw [List.drop_eq_nil_of_le hq,List.drop_eq_nil_of_le (by rw [cG_length];exact Nat.mul_le_mul_right _ hq)]
   rfl
 rw [e1,e2]
 exact this
theorem ownG.nil_ (w:World) (base:Nat):ownG w base (.slice none 0 0) []:=World.ownsRow_nil _ _ _ _
theorem ownG.mono {w:World} {base base':Nat} {v:Value} {l:List (Nat × Nat × Nat)} (h:ownG w base v l) (hb:base'≤base):ownG w base' v l:=by
 refine ⟨h.1,?_⟩
 rcases h.2 with hn | ⟨g,cap,cur,rfl,hbg,rest⟩
 ·exact .inl hn
 ·exact .inr ⟨g,cap,cur,rfl,by omega,rest⟩
theorem ownG.later {w w':World} {base:Nat} {v:Value} {l:List (Nat × Nat × Nat)} (h:ownG w base v l) (hb:Below w.heap.size w w'):ownG w' base v l :=
 Below.ownsRow h hb (fun g hg=>(World.ownsRow.lt h g hg).2)
theorem ownG.alloc {w:World} {base:Nat} {v:Value} {l:List (Nat × Nat × Nat)} (h:ownG w base v l) (o:Obj):ownG (w.alloc o) base v l:=World.ownsRow.alloc h o
theorem ownG.drew {w:World} {base:Nat} {v:Value} {l:List (Nat × Nat × Nat)} (h:ownG w base v l):ownG w.drew base v l:=h
theorem ownG.drewN {w:World} {base:Nat} {v:Value} {l:List (Nat × Nat × Nat)} (h:ownG w base v l) (n:Nat):ownG (w.drewN n) base v l:=h
theorem ownG.form {w:World} {base:Nat} {v:Value} {l:List (Nat × Nat × Nat)} (h:ownG w base v l) :
  ∃ A c,v=.slice A l.length c∧RdG w w.heap.size A l.length l∧l.length≤c∧c≤maxLen:=by
 rcases h.2 with ⟨rfl,h0⟩ | ⟨g,cap,cur,rfl,_,_,h1,h2,_⟩
 ·have:l=[]:=List.eq_nil_of_length_eq_zero h0
  subst this
  exact ⟨none,0,rfl,Rd.none_,by simp,by simp⟩
 ·exact ⟨_,_,rfl,Rd.of_own h,h1,h2⟩
theorem ownG.kept {w w':World} {base:Nat} {v:Value} {l:List (Nat × Nat × Nat)} {row:Option Nat} (h:ownG w base v l) (hg:w.grownBy w' row) (hne:v.ownBlock=none∨v.ownBlock ≠ row):ownG w' base v l :=
 World.ownsRow.kept h hg hne
theorem ownG.far {w:World} {base g:Nat} {v:Value} {l:List (Nat × Nat × Nat)} (h:ownG w base v l) (hg:v.ownBlock ≠ some g) (o:Nat) (u:Value) :
  ownG (w.setCell ⟨g,o,none⟩ u) base v l:=by
 refine ⟨h.1,?_⟩
 rcases h.2 with hn | ⟨g',cap,cur,rfl,hb,hgg,rest⟩
 ·exact .inl hn
 ·refine .inr ⟨g',cap,cur,rfl,hb,?_,rest⟩
  rw [Below.heap_setCell _ _ _ _ (by intro e;apply hg;simp [Value.ownBlock];exact e)]
  exact hgg
theorem ownG.ne {w:World} {base g:Nat} {v:Value} {l:List (Nat × Nat × Nat)} (h:ownG w base v l) (hg:g < base):v.ownBlock ≠ some g:=by
 intro e
 have:=(World.ownsRow.lt h g e).1
 omega
theorem ownG.pos {w:World} {base n c:Nat} {A:Option Addr} {l:List (Nat × Nat × Nat)} (h:ownG w base (.slice A n c) l) (hn:0 < n):n=l.length∧∃ g,A=some ⟨g,0,none⟩∧base≤g∧g < w.heap.size:=by
 rcases h.2 with ⟨h',_⟩ | ⟨g,cap,cur,h',hb,hg,_⟩
 ·injection h' with _ h2;omega
 ·injection h' with h1 h2
  exact ⟨h2,g,h1,hb,(World.ownsRow.lt h g (by rw [h1];rfl)).2⟩
theorem ownG.cell {w:World} {base g n c:Nat} {l:List (Nat × Nat × Nat)} (h:ownG w base (.slice (some ⟨g,0,none⟩) n c) l) (hn:n=l.length) {k:Nat} (hk:k < l.length) :
  w.cell? ⟨g,k * 3,none⟩=some ((fun x:(Nat × Nat × Nat)=>Value.int .i64 (x.1:Int)) l[k])∧w.cell? ⟨g,k * 3+1,none⟩=some ((fun x:(Nat × Nat × Nat)=>Value.int .i64 (x.2.1:Int)) l[k])∧w.cell? ⟨g,k * 3+2,none⟩=some ((fun x:(Nat × Nat × Nat)=>Value.int .i64 (x.2.2:Int)) l[k]):=by
 subst hn
 refine ⟨?_,?_,?_⟩
 ·exact (World.ownsRow.cellAt h (k * 3) (by have:=hk;omega)).trans ((cG_get l k 0 hk (by omega)).trans rfl)
 ·exact (World.ownsRow.cellAt h (k * 3+1) (by have:=hk;omega)).trans ((cG_get l k 1 hk (by omega)).trans rfl)
 ·exact (World.ownsRow.cellAt h (k * 3+2) (by have:=hk;omega)).trans ((cG_get l k 2 hk (by omega)).trans rfl)
theorem ownG.frozen {w:World} {base g n c:Nat} {l:List (Nat × Nat × Nat)} (h:ownG w base (.slice (some ⟨g,0,none⟩) n c) l) (hn:n=l.length) (k:Nat) :
  w.frozen? ⟨g,k,none⟩=false:=by
 subst hn
 exact World.ownsRow.frozenAt h k
theorem ownG.store {w:World} {base g n c:Nat} {l:List (Nat × Nat × Nat)} (h:ownG w base (.slice (some ⟨g,0,none⟩) n c) l) (hn:n=l.length) (k:Nat) (x:(Nat × Nat × Nat)) (hk:k < l.length) :
  ownG (((w.setCell ⟨g,k * 3,none⟩ (Value.int .i64 (x.1:Int))).setCell ⟨g,k * 3+1,none⟩ (Value.int .i64 (x.2.1:Int))).setCell ⟨g,k * 3+2,none⟩ (Value.int .i64 (x.2.2:Int))) base (.slice (some ⟨g,0,none⟩) n c) (l.set k x):=by
 subst hn
 have h0:w.ownsRow base 202 3 (.slice (some ⟨g,0,none⟩) l.length c) l.length (cG l):=h
 have h1:=(World.ownsRow.stored h0 (k * 3) (Value.int .i64 (x.1:Int))).1
 have h2:=(World.ownsRow.stored h1 (k * 3+1) (Value.int .i64 (x.2.1:Int))).1
 have h3:=(World.ownsRow.stored h2 (k * 3+2) (Value.int .i64 (x.2.2:Int))).1
 unfold ownG
 rw [List.length_set,cG_set l k x hk]
 exact h3
theorem ownG.rd {w:World} {base n c:Nat} {A:Option Addr} {l:List (Nat × Nat × Nat)} (h:ownG w base (.slice A n c) l):RdG w w.heap.size A n l:=by
 obtain ⟨A4,c4,e5,hd4,_,_⟩:=h.form
 injection e5 with e1 e2 e3
 rw [e1,e2]
 exact hd4
/-- One element that lies in a block, whole. -/
theorem rd_oneG (w:World) (x:(Nat × Nat × Nat)) (t:TypeId) (fr:Nat × Nat):RdG (w.alloc (.cells (eG x).toArray t fr)) (w.heap.size+1) (some ⟨w.heap.size,0,none⟩) 1 [x]:=by
 refine ⟨by rw [cG_length];rfl,fun _=>⟨_,_,rfl,by omega,fun j u hu=>?_⟩⟩
 rw [Nat.zero_add]
 have:=cell_of_row (w.alloc (.cells (eG x).toArray t fr)) w.heap.size j (eG x).toArray t fr (heap_alloc_new w _)
 rw [this]
 rw [cG_single] at hu
 simpa using hu
set_option maxRecDepth 100000 in
theorem run_appendG (w:World) (base:Nat) (t2:TypeId) (v:Value) (l:List (Nat × Nat × Nat)) (hown:ownG w base v l) (B m c:Nat) (A:Option Addr) (news:List (Nat × Nat × Nat)) (hr:RdG w B A m news)
  (hb:l.length+m≤1099511627776) (hbase:base≤w.heap.size) :
  ∃ v' w',(Builtin.append_ #[199,199] t2 #[v,.slice A m c]).run Tryz.prog w=.ok v' w'∧ownG w' base v' (l ++ news)∧w.grownBy w' v.ownBlock ∧
   (v'.ownBlock=v.ownBlock∨v'.ownBlock=some w.heap.size)∧(v'=.slice none 0 0 ↔ v=.slice none 0 0∧m=0):=by
 obtain ⟨i0,hi,hz0,hz1,hz2⟩:=info_parts Tryz.info_G
 have hl:=hr.len
 subst hl
 unfold ownG
 rw [List.length_append,cG_append]
 rcases A with _ | ad
 ·have hn:news=[]:=by
   rcases Nat.eq_zero_or_pos news.length with h0 | h0
   ·exact List.eq_nil_of_length_eq_zero h0
   ·obtain ⟨b,o,h,_⟩:=hr.2 h0
    cases h
  subst hn
  refine ⟨v,w,?_,by simpa [cG,ownG] using hown,World.grownBy.refl w _,.inl rfl,by simp⟩
  rcases hown.2 with ⟨rfl,h0⟩ | ⟨g,cap,cur,rfl,_,_,hnc,_⟩
  ·simp [Builtin.append_,run_underlying Tryz.underlying199,sizeOf,typeInfo,hi,Builtin.lenOf,Builtin.firstCells]
  ·simp [Builtin.append_,run_underlying Tryz.underlying199,sizeOf,typeInfo,hi,Builtin.lenOf,Builtin.firstCells,hnc,storeCells]
 ·have hcells:∀ j u,(cG news)[j]?=some u→w.cell? (ad.add j)=some u:=by
   intro j u hu
   rcases Nat.eq_zero_or_pos news.length with h0 | h0
   ·have hn:news=[]:=List.eq_nil_of_length_eq_zero h0
    subst hn
    simp [cG] at hu
   ·obtain ⟨b,o,h,_,hc⟩:=hr.2 h0
    injection h with h
    subst h
    rw [add_none]
    exact hc j u hu
  obtain ⟨v',w',hrun,h2,h3,h4,h5⟩:=run_append_own_at (P:=Tryz.prog) w base 199 t2 202 i0 _ 3 24 Tryz.underlying199 hi hz0 hz1 hz2 rfl (by omega) v l.length (cG l) hown ad news.length c (cG news) (by rw [cG_length]) hcells (cG_one _) (by unfold maxLen;omega) (by omega) hbase
  exact ⟨v',w',hrun,h2,h3,h5,h4⟩
/-- append(v, x...): v the call's own, x whatever. -/
theorem wpList_appendG {w:World} {ops:Array Oper} {rest:List Oper} {o:Oper} {a:Act} {Q:Exit→Act→World→Prop} (hgd:o.guard=none) (s x:Operand)
  (ho:o.op=.call { callee:=.builtin .append,args:=#[s,x],argTypes:=#[199,199] })
  (base:Nat) (v:Value) (l:List (Nat × Nat × Nat)) (hs:a.eval s=v) (hown:ownG w base v l) (B m c:Nat) (A:Option Addr) (news:List (Nat × Nat × Nat)) (hx:a.eval x=.slice A m c) (hr:RdG w B A m news)
  (hb:l.length+m≤1099511627776) (hbase:base≤w.heap.size)
  (h:∀ v' w',ownG w' base v' (l ++ news)→w.grownBy w' v.ownBlock→Below base w w'→(v'.ownBlock=v.ownBlock∨v'.ownBlock=some w.heap.size)→wpList Tryz.prog ops Q rest (a.put o.dst v') w') :
  wpList Tryz.prog ops Q (o :: rest) a w:=by
 refine wpList_plain hgd fun K hK=>?_
 obtain ⟨v',w',hrun,h2,h3,h4,_⟩:=run_appendG w base o.type v l hown B m c A news hr hb hbase
 unfold Oper.wp execOp
 simp only [ho,resolve,invoke,builtin,Sem.run_bind,Sem.run_pure,Result.andThen_ok,List.map_toArray,List.map_cons,List.map_nil,hs,hx,hrun]
 exact hK _ _ (h v' w' h2 h3 ((Below.refl _ _).grown h3 hbase (fun k hk=>(World.ownsRow.lt hown k hk).1)) h4)
end Go.Proofs.YtebbdifhiihfkaaGreatDoor

/- flate: runs of lengths written. -/
namespace Go.Proofs.YtebbdifhiihfkaaGreatDoor
set_option linter.all false
open Go.RowKit
abbrev Sgn:=Nat × Nat × Nat
def zTail (n:Nat):List Sgn:=if 3≤n then [(17,n - 3,3)] else List.replicate n (0,0,0)
def zerosF:Nat→Nat→List Sgn
 | 0,n=>zTail n
 | f+1,n=>if 11≤n then (18,min n 138 - 11,7) :: zerosF f (n - min n 138) else zTail n
/-- Lengths of 0. -/
def zerosP (n:Nat):List Sgn:=zerosF n n
def othersF (x:Nat):Nat→Nat→List Sgn
 | 0,n=>List.replicate n (x,0,0)
 | f+1,n=>if 3≤n then (16,min n 6 - 3,2) :: othersF x f (n - min n 6) else List.replicate n (x,0,0)
/-- Lengths above 0. -/
def othersP (x n:Nat):List Sgn:=(x,0,0) :: othersF x (n - 1) (n - 1)
theorem zerosF_big {f n:Nat} (h:11≤n):zerosF (f+1) n=(18,min n 138 - 11,7) :: zerosF f (n - min n 138):=if_pos h
theorem zerosF_small {f n:Nat} (h:¬ 11≤n):zerosF f n=zTail n:=by
 cases f with
 | zero=>rfl
 | succ f=>exact if_neg h
theorem othersF_big {x f n:Nat} (h:3≤n):othersF x (f+1) n=(16,min n 6 - 3,2) :: othersF x f (n - min n 6):=if_pos h
theorem othersF_small {x f n:Nat} (h:¬ 3≤n):othersF x f n=List.replicate n (x,0,0):=by
 cases f with
 | zero=>rfl
 | succ f=>exact if_neg h
theorem replG_snoc (k:Nat) (x:Sgn):List.replicate (k+1) x=List.replicate k x ++ [x]:=List.replicate_succ'
set_option maxRecDepth 100000 in
set_option maxHeartbeats 3200000 in
theorem zeros_any (base n:Nat) (v:Value) (l:List Sgn) (w:World) (h:ownG w base v l) (hbase:base≤w.heap.size) (hl:l.length≤1000000) (hn:n≤1000) :
  Calls Tryz.prog 177 #[v,.int .i64 (n:Int)] w fun e w'=>∃ v',e=.returned v'∧ownG w' base v' (l ++ zerosP n)∧Below base w w':=by
 have HO0:Hid (ownG w base v (l ++ [])):=(show ownG _ _ _ _ by rw [List.append_nil];exact h)
 have HB0:=Lib.hid (Below.refl base w)
 obtain ⟨A0,c0,rfl,-⟩:=h.form
 clear h
 go_enter Tryz.func177,Tryz.ntmps177
 go_wp2_with fail
 go_loopw [1,0] (fun vi vl wr=>∃ (m f:Nat) (D:List Sgn),vi=.int .i64 m∧m≤f∧D.length+m≤n∧Hid (D ++ zerosF f m=zerosP n)∧Hid (ownG wr base vl (l ++ D))∧Hid (Below base w wr)) (fun vi _ _=>(intOf vi).toNat)
 case atStart=>exact ⟨n,n,[],rfl,Nat.le_refl _,by simp,(show _=_ from rfl),HO0,HB0⟩
 case round =>
  clear HO0 HB0
  obtain ⟨m,f,D,rfl,hmf,hDn,HE,HO,HB⟩:=hrel
  obtain ⟨Av,nv,rfl,-⟩:=HO.out.form
  have hlD:(l ++ D).length=l.length+D.length:=List.length_append
  by_cases hbig:11≤m
  ·have hbi:(11:Int)≤(m:Int):=by omega
   obtain ⟨g,rfl⟩:∃ g,f=g+1:=⟨f - 1,by omega⟩
   by_cases h1:¬ 138 < m
   ·have h1i:¬ (138:Int) < (m:Int):=by omega
    have HE2:Hid ((D ++ [(18,m - 11,7)]) ++ zerosF g 0=zerosP n):=(show _=_ by have:=HE.out;rw [zerosF_big hbig,Nat.min_eq_left (by omega),Nat.sub_self] at this;rw [List.append_assoc];exact this)
    have HAS:Hid ((l ++ D) ++ [(18,m - 11,7)]=l ++ (D ++ [(18,m - 11,7)])):=(show _=_ from List.append_assoc _ _ _)
    obtain ⟨q,hq⟩:∃ q,m - 11=q:=⟨_,rfl⟩
    have hqi:(m:Int) - 11=(q:Int):=by omega
    have hmm:(m:Int) - (m:Int)=0:=by omega
    rw [hq] at HE2 HAS
    go_wp2_with (at_builtin;go_must (refine wpList_appendG rfl (.tmp 10) (.tmp 14) rfl base _ _ rfl (ownG.alloc HO.out _) _ 1 1 _ [(18,q,7)] rfl (rd_oneG _ (18,q,7) _ _) (by simp at *;omega) (by have:=HB.out.size;simp;omega) ?_;intro v8 w8 ho8 hg8 hb8 hat8;have HB8:=Lib.hid ((HB.out.alloc (by have:=HB.out.size;omega) _).trans hb8);have HO8:Hid (ownG w8 base v8 (l ++ (D ++ [(18,q,7)]))):=(show ownG _ _ _ _ from by rw [← HAS.out];exact ho8);clear ho8 hg8 hb8 hat8))
    go_roundw
    case rel=>exact ⟨0,g,D ++ [(18,q,7)],rfl,Nat.zero_le _,(by rw [List.length_append];simp;omega),HE2,HO8,HB8⟩
    case measure=>simp [intOf];omega
   ·have h1i:(138:Int) < (m:Int):=by omega
    have HE2:Hid ((D ++ [(18,127,7)]) ++ zerosF g (m - 138)=zerosP n):=(show _=_ by have:=HE.out;rw [zerosF_big hbig,Nat.min_eq_right (by omega)] at this;rw [List.append_assoc];exact this)
    have HAS:Hid ((l ++ D) ++ [(18,127,7)]=l ++ (D ++ [(18,127,7)])):=(show _=_ from List.append_assoc _ _ _)
    have hmm:(m:Int) - 138=((m - 138:Nat):Int):=by omega
    go_wp2_with (at_builtin;go_must (refine wpList_appendG rfl (.tmp 10) (.tmp 14) rfl base _ _ rfl (ownG.alloc HO.out _) _ 1 1 _ [(18,127,7)] rfl (rd_oneG _ (18,127,7) _ _) (by simp at *;omega) (by have:=HB.out.size;simp;omega) ?_;intro v8 w8 ho8 hg8 hb8 hat8;have HB8:=Lib.hid ((HB.out.alloc (by have:=HB.out.size;omega) _).trans hb8);have HO8:Hid (ownG w8 base v8 (l ++ (D ++ [(18,127,7)]))):=(show ownG _ _ _ _ from by rw [← HAS.out];exact ho8);clear ho8 hg8 hb8 hat8))
    go_roundw
    case rel=>exact ⟨m - 138,g,D ++ [(18,127,7)],by rw [← hmm],by omega,(by rw [List.length_append];simp;omega),HE2,HO8,HB8⟩
    case measure=>simp [intOf];omega
  ·have hbi:¬ (11:Int)≤(m:Int):=by omega
   have HE3:=Lib.hid HE.out
   rw [zerosF_small hbig] at HE3
   obtain ⟨wo,rfl⟩:∃ wo:World,wo=wr:=⟨_,rfl⟩
   by_cases h3:3≤m
   ·have h3i:(3:Int)≤(m:Int):=by omega
    obtain ⟨q,hq⟩:∃ q,m - 3=q:=⟨_,rfl⟩
    have hqi:(m:Int) - 3=(q:Int):=by omega
    have HE4:Hid ((l ++ D) ++ [(17,q,3)]=l ++ zerosP n):=(show _=_ by rw [← HE3.out];unfold zTail;rw [if_pos h3,hq,List.append_assoc])
    go_wp2_with (at_builtin;go_must (refine wpList_appendG rfl (.tmp 21) (.tmp 25) rfl base _ _ rfl (ownG.alloc HO.out _) _ 1 1 _ [(17,q,3)] rfl (rd_oneG _ (17,q,3) _ _) (by simp at *;omega) (by have:=HB.out.size;simp;omega) ?_;intro v8 w8 ho8 hg8 hb8 hat8;have HB8:=Lib.hid ((HB.out.alloc (by have:=HB.out.size;omega) _).trans hb8);have HO8:Hid (ownG w8 base v8 (l ++ zerosP n)):=(show ownG _ _ _ _ from by rw [← HE4.out];exact ho8);clear ho8 hg8 hb8 hat8))
    go_ret
    exact ⟨_,rfl,HO8.out,HB8.out⟩
   ·have h3i:¬ (3:Int)≤(m:Int):=by omega
    have HE4:Hid (D ++ List.replicate m (0,0,0)=zerosP n):=(show _=_ by rw [← HE3.out];unfold zTail;rw [if_neg h3])
    have HE4:Hid ((l ++ D) ++ List.replicate m (0,0,0)=l ++ zerosP n):=(show _=_ by rw [List.append_assoc,HE4.out])
    have hlD2:(l ++ D).length≤1001000:=by omega
    clear hlD HE
    generalize l ++ D=L0 at *
    have HO1:Hid (ownG wo base (.slice Av L0.length nv) (L0 ++ List.replicate 0 (0,0,0))):=(show ownG _ _ _ _ by rw [List.replicate_zero,List.append_nil];exact HO.out)
    have HB1:=Lib.hid HB.out
    clear HO HB HE3
    go_wp2_with fail
    go_loopw [28,0] (fun vi vl wr=>∃ k:Nat,k≤m∧vi=.int .i64 k∧Hid (ownG wr base vl (L0 ++ List.replicate k (0,0,0)))∧Hid (Below base w wr)) (fun vi _ _=>m - (intOf vi).toNat)
    case atStart=>exact ⟨0,Nat.zero_le _,rfl,HO1,HB1⟩
    case round =>
     clear HO1 HB1
     obtain ⟨k,hk,rfl,HO,HB⟩:=hrel
     obtain ⟨Av,nv,rfl,-⟩:=HO.out.form
     by_cases hlt:k < m
     ·have HSN:Hid ((L0 ++ List.replicate k (0,0,0)) ++ [(0,0,0)]=L0 ++ List.replicate (k+1) (0,0,0)):=(show _=_ by rw [replG_snoc,List.append_assoc])
      have hln:(L0 ++ List.replicate k ((0,0,0):Sgn)).length≤2000000:=by rw [List.length_append,List.length_replicate];omega
      generalize L0 ++ List.replicate k ((0,0,0):Sgn)=L at *
      go_wp2_with (at_builtin;go_must (refine wpList_appendG rfl (.tmp 30) (.tmp 32) rfl base _ _ rfl (ownG.alloc HO.out _) _ 1 1 _ [(0,0,0)] rfl (rd_oneG _ (0,0,0) _ _) (by simp at *;omega) (by have:=HB.out.size;simp;omega) ?_;intro v8 w8 ho8 hg8 hb8 hat8;have HB8:=Lib.hid ((HB.out.alloc (by have:=HB.out.size;omega) _).trans hb8);have HO8:Hid (ownG w8 base v8 (L0 ++ List.replicate (k+1) (0,0,0))):=(show ownG _ _ _ _ from by rw [← HSN.out];exact ho8);clear ho8 hg8 hb8 hat8))
      go_roundw
      case rel=>exact ⟨k+1,by omega,by go_num,HO8,HB8⟩
      case measure=>simp [intOf];omega
     ·obtain rfl:k=m:=by omega
      have HF:Hid (L0 ++ List.replicate k (0,0,0)=l ++ zerosP n):=HE4
      go_wp2_with fail
      go_ret
      exact ⟨_,rfl,(by rw [← HF.out];exact HO.out),HB.out⟩
set_option maxRecDepth 100000 in
set_option maxHeartbeats 3200000 in
theorem others_any (base x n:Nat) (v:Value) (l:List Sgn) (w:World) (h:ownG w base v l) (hbase:base≤w.heap.size) (hl:l.length≤1000000) (hn:n≤1000) (hn1:1≤n) :
  Calls Tryz.prog 178 #[v,.int .i64 (x:Int),.int .i64 (n:Int)] w fun e w'=>∃ v',e=.returned v'∧ownG w' base v' (l ++ othersP x n)∧Below base w w':=by
 have HO:=Lib.hid h
 have HB:=Lib.hid (Below.refl base w)
 obtain ⟨A0,c0,rfl,-⟩:=h.form
 obtain ⟨P,hP⟩:∃ P,n - 1=P:=⟨_,rfl⟩
 have hn1i:(n:Int) - 1=(P:Int):=by omega
 clear h
 go_enter Tryz.func178,Tryz.ntmps178
 go_wp2_with (at_builtin;go_must (refine wpList_appendG rfl (.tmp 8) (.tmp 11) rfl base _ _ rfl (ownG.alloc HO.out _) _ 1 1 _ [(x,0,0)] rfl (rd_oneG _ (x,0,0) _ _) (by simp at *;omega) (by have:=HB.out.size;simp;omega) ?_;intro v8 w8 ho8 hg8 hb8 hat8;have HB8:=Lib.hid ((HB.out.alloc (by have:=HB.out.size;omega) _).trans hb8);have HO8:Hid (ownG w8 base v8 (l ++ [(x,0,0)])):=(show ownG _ _ _ _ from by rw [← (show l ++ [(x,0,0)]=l ++ [(x,0,0)] from rfl)];exact ho8);clear ho8 hg8 hb8 hat8))
 have HO0:=Lib.hid HO8.out
 have HB0:=Lib.hid HB8.out
 obtain ⟨A0,c0,rfl,-⟩:=HO8.out.form
 clear HO HB HO8 HB8
 obtain ⟨wo,rfl⟩:∃ wo:World,wo=w8:=⟨_,rfl⟩
 have hl1:(l ++ [((x,0,0):Sgn)]).length=l.length+1:=by simp
 rw [hl1] at HO0
 rw [hl1]
 go_loopw [2,0] (fun vi vl wr=>∃ (m f:Nat) (D:List Sgn),vi=.int .i64 m∧m≤f∧D.length+m≤n∧Hid (D ++ othersF x f m=othersP x n)∧Hid (ownG wr base vl (l ++ D))∧Hid (Below base w wr)) (fun vi _ _=>(intOf vi).toNat)
 case atStart=>exact ⟨P,P,[(x,0,0)],rfl,Nat.le_refl _,by simp;omega,(show _=_ by unfold othersP;rw [hP];rfl),HO0,HB0⟩
 case round =>
  clear HO0 HB0
  obtain ⟨m,f,D,rfl,hmf,hDn,HE,HO,HB⟩:=hrel
  obtain ⟨Av,nv,rfl,-⟩:=HO.out.form
  have hlD:(l ++ D).length=l.length+D.length:=List.length_append
  by_cases hbig:3≤m
  ·have hbi:(3:Int)≤(m:Int):=by omega
   obtain ⟨g,rfl⟩:∃ g,f=g+1:=⟨f - 1,by omega⟩
   by_cases h1:¬ 6 < m
   ·have h1i:¬ (6:Int) < (m:Int):=by omega
    have HE2:Hid ((D ++ [(16,m - 3,2)]) ++ othersF x g 0=othersP x n):=(show _=_ by have:=HE.out;rw [othersF_big hbig,Nat.min_eq_left (by omega),Nat.sub_self] at this;rw [List.append_assoc];exact this)
    have HAS:Hid ((l ++ D) ++ [(16,m - 3,2)]=l ++ (D ++ [(16,m - 3,2)])):=(show _=_ from List.append_assoc _ _ _)
    obtain ⟨q,hq⟩:∃ q,m - 3=q:=⟨_,rfl⟩
    have hqi:(m:Int) - 3=(q:Int):=by omega
    have hmm:(m:Int) - (m:Int)=0:=by omega
    rw [hq] at HE2 HAS
    go_wp2_with (at_builtin;go_must (refine wpList_appendG rfl (.tmp 19) (.tmp 23) rfl base _ _ rfl (ownG.alloc HO.out _) _ 1 1 _ [(16,q,2)] rfl (rd_oneG _ (16,q,2) _ _) (by simp at *;omega) (by have:=HB.out.size;simp;omega) ?_;intro v8 w8 ho8 hg8 hb8 hat8;have HB8:=Lib.hid ((HB.out.alloc (by have:=HB.out.size;omega) _).trans hb8);have HO8:Hid (ownG w8 base v8 (l ++ (D ++ [(16,q,2)]))):=(show ownG _ _ _ _ from by rw [← HAS.out];exact ho8);clear ho8 hg8 hb8 hat8))
    go_roundw
    case rel=>exact ⟨0,g,D ++ [(16,q,2)],rfl,Nat.zero_le _,(by rw [List.length_append];simp;omega),HE2,HO8,HB8⟩
    case measure=>simp [intOf];omega
   ·have h1i:(6:Int) < (m:Int):=by omega
    have HE2:Hid ((D ++ [(16,3,2)]) ++ othersF x g (m - 6)=othersP x n):=(show _=_ by have:=HE.out;rw [othersF_big hbig,Nat.min_eq_right (by omega)] at this;rw [List.append_assoc];exact this)
    have HAS:Hid ((l ++ D) ++ [(16,3,2)]=l ++ (D ++ [(16,3,2)])):=(show _=_ from List.append_assoc _ _ _)
    have hmm:(m:Int) - 6=((m - 6:Nat):Int):=by omega
    go_wp2_with (at_builtin;go_must (refine wpList_appendG rfl (.tmp 19) (.tmp 23) rfl base _ _ rfl (ownG.alloc HO.out _) _ 1 1 _ [(16,3,2)] rfl (rd_oneG _ (16,3,2) _ _) (by simp at *;omega) (by have:=HB.out.size;simp;omega) ?_;intro v8 w8 ho8 hg8 hb8 hat8;have HB8:=Lib.hid ((HB.out.alloc (by have:=HB.out.size;omega) _).trans hb8);have HO8:Hid (ownG w8 base v8 (l ++ (D ++ [(16,3,2)]))):=(show ownG _ _ _ _ from by rw [← HAS.out];exact ho8);clear ho8 hg8 hb8 hat8))
    go_roundw
    case rel=>exact ⟨m - 6,g,D ++ [(16,3,2)],by rw [← hmm],by omega,(by rw [List.length_append];simp;omega),HE2,HO8,HB8⟩
    case measure=>simp [intOf];omega
  ·have hbi:¬ (3:Int)≤(m:Int):=by omega
   have HE4:=Lib.hid HE.out
   rw [othersF_small hbig] at HE4
   obtain ⟨wo,rfl⟩:∃ wo:World,wo=wr:=⟨_,rfl⟩
   have HE4:Hid ((l ++ D) ++ List.replicate m (x,0,0)=l ++ othersP x n):=(show _=_ by rw [List.append_assoc,HE4.out])
   have hlD2:(l ++ D).length≤1001000:=by omega
   clear hlD HE
   generalize l ++ D=L0 at *
   have HO1:Hid (ownG wo base (.slice Av L0.length nv) (L0 ++ List.replicate 0 (x,0,0))):=(show ownG _ _ _ _ by rw [List.replicate_zero,List.append_nil];exact HO.out)
   have HB1:=Lib.hid HB.out
   clear HO HB
   go_wp2_with fail
   go_loopw [29,0] (fun vi vl wr=>∃ k:Nat,k≤m∧vi=.int .i64 k∧Hid (ownG wr base vl (L0 ++ List.replicate k (x,0,0)))∧Hid (Below base w wr)) (fun vi _ _=>m - (intOf vi).toNat)
   case atStart=>exact ⟨0,Nat.zero_le _,rfl,HO1,HB1⟩
   case round =>
    clear HO1 HB1
    obtain ⟨k,hk,rfl,HO,HB⟩:=hrel
    obtain ⟨Av,nv,rfl,-⟩:=HO.out.form
    by_cases hlt:k < m
    ·have HSN:Hid ((L0 ++ List.replicate k (x,0,0)) ++ [(x,0,0)]=L0 ++ List.replicate (k+1) (x,0,0)):=(show _=_ by rw [replG_snoc,List.append_assoc])
     have hln:(L0 ++ List.replicate k ((x,0,0):Sgn)).length≤2000000:=by rw [List.length_append,List.length_replicate];omega
     generalize L0 ++ List.replicate k ((x,0,0):Sgn)=L at *
     go_wp2_with (at_builtin;go_must (refine wpList_appendG rfl (.tmp 31) (.tmp 34) rfl base _ _ rfl (ownG.alloc HO.out _) _ 1 1 _ [(x,0,0)] rfl (rd_oneG _ (x,0,0) _ _) (by simp at *;omega) (by have:=HB.out.size;simp;omega) ?_;intro v8 w8 ho8 hg8 hb8 hat8;have HB8:=Lib.hid ((HB.out.alloc (by have:=HB.out.size;omega) _).trans hb8);have HO8:Hid (ownG w8 base v8 (L0 ++ List.replicate (k+1) (x,0,0))):=(show ownG _ _ _ _ from by rw [← HSN.out];exact ho8);clear ho8 hg8 hb8 hat8))
     go_roundw
     case rel=>exact ⟨k+1,by omega,by go_num,HO8,HB8⟩
     case measure=>simp [intOf];omega
    ·obtain rfl:k=m:=by omega
     have HF:Hid (L0 ++ List.replicate k (x,0,0)=l ++ othersP x n):=HE4
     go_wp2_with fail
     go_ret
     exact ⟨_,rfl,(by rw [← HF.out];exact HO.out),HB.out⟩
end Go.Proofs.YtebbdifhiihfkaaGreatDoor

/- flate: lists of lengths as runs. -/
namespace Go.Proofs.YtebbdifhiihfkaaGreatDoor
set_option linter.all false
open Go.RowKit
/-- How many of a list's first elements are x. -/
def same (x:Int):List Int→Nat
 | []=>0
 | y :: r=>if y=x then same x r+1 else 0
theorem same_le (x:Int):∀ l:List Int,same x l≤l.length
 | []=>Nat.le_refl _
 | y :: r=>by
  have:=same_le x r
  unfold same
  split
  ·simp;omega
  ·simp
def runsF:Nat→List Int→List Sgn
 | 0,_=>[]
 | _+1,[]=>[]
 | f+1,x :: r=>(if x=0 then zerosP (same x r+1) else othersP x.toNat (same x r+1)) ++ runsF f (r.drop (same x r))
/-- A list of lengths as runs. -/
def runsP (l:List Int):List Sgn:=runsF l.length l
theorem same_eq {x:Int} {l:List Int} {k:Nat} (hk:k≤l.length) (h1:∀ j,j < k→l[j]?=some x) (h2:l[k]? ≠ some x):same x l=k:=by
 induction l generalizing k with
 | nil=>simp at hk;subst hk;rfl
 | cons y r ih =>
  cases k with
  | zero =>
   have:¬ y=x:=fun e=>h2 (by simp [e])
   exact if_neg this
  | succ k =>
   have hy:y=x:=by have:=h1 0 (by omega);simpa using this
   have:same x r=k:=ih (by simp at hk;omega) (fun j hj=>by have:=h1 (j+1) (by omega);simpa using this) (by simpa using h2)
   show (if y=x then same x r+1 else 0)=k+1
   rw [if_pos hy,this]
theorem runsF_at {f:Nat} {l:List Int} {i:Nat} (hi:i < l.length):runsF (f+1) (l.drop i)=(if l[i]=0 then zerosP (same l[i] (l.drop (i+1))+1) else othersP l[i].toNat (same l[i] (l.drop (i+1))+1)) ++ runsF f (l.drop (i+1+same l[i] (l.drop (i+1)))):=by
 rw [List.drop_eq_getElem_cons hi]
 show _ ++ runsF f ((l.drop (i+1)).drop _)=_
 rw [List.drop_drop]
theorem runsF_end (f:Nat) {l:List Int} {i:Nat} (hi:l.length≤i):runsF f (l.drop i)=[]:=by
 rw [List.drop_eq_nil_of_le hi]
 cases f <;> rfl
theorem same_run {l:List Int} {i k:Nat} (hi:i < l.length) (hik:i < k) (hk:k≤l.length) (h1:∀ j,i≤j→j < k→l[j]?=some l[i]) (h2:l[k]? ≠ some l[i]):same l[i] (l.drop (i+1))=k - i - 1:=by
 refine same_eq (by rw [List.length_drop];omega) (fun j hj=>?_) ?_
 ·rw [List.getElem?_drop];exact h1 _ (by omega) (by omega)
 ·rw [List.getElem?_drop,show i+1+(k - i - 1)=k by omega];exact h2
theorem zTail_len (n:Nat):(zTail n).length≤n:=by
 unfold zTail
 split
 ·simp;omega
 ·simp
theorem zerosF_len:∀ f n:Nat,(zerosF f n).length≤n
 | 0,n=>zTail_len n
 | f+1,n=>by
  by_cases h:11≤n
  ·rw [zerosF_big h,List.length_cons]
   have:=zerosF_len f (n - min n 138)
   omega
  ·rw [zerosF_small h];exact zTail_len n
theorem othersF_len (x:Nat):∀ f n:Nat,(othersF x f n).length≤n
 | 0,n=>by rw [othersF];simp
 | f+1,n=>by
  by_cases h:3≤n
  ·rw [othersF_big h,List.length_cons]
   have:=othersF_len x f (n - min n 6)
   omega
  ·rw [othersF_small h];simp
theorem zerosP_len (n:Nat):(zerosP n).length≤n:=zerosF_len n n
theorem othersP_len (x n:Nat) (h:1≤n):(othersP x n).length≤n:=by
 have:=othersF_len x (n - 1) (n - 1)
 unfold othersP
 rw [List.length_cons]
 omega
theorem ne_opt {x y:Int} (h:¬ x=y):(some x:Option Int) ≠ some y:=fun e=>h (by injection e)
set_option maxRecDepth 100000 in
set_option maxHeartbeats 3200000 in
theorem runs_any (B n c:Nat) (A:Option Addr) (ls:List Int) (w:World) (h:RdI w B A n ls) (hB:B≤w.heap.size) (hn:n≤1000) (h0:∀ x ∈ ls,0≤x) :
  Calls Tryz.prog 155 #[.slice A n c] w fun e w'=>∃ v',e=.returned v'∧ownG w' w.heap.size v' (runsP ls)∧Below w.heap.size w w':=by
 have HR:=Lib.hid h
 have hl:=h.len
 have HP0:=Lib.hid h0
 have HO0:=Lib.hid (ownG.nil_ w w.heap.size)
 have HB0:=Lib.hid (Below.refl w.heap.size w)
 clear h h0
 go_enter Tryz.func155,Tryz.ntmps155
 go_wp2_with fail
 go_loopw [4,3] (fun vi vl wr=>∃ (i f:Nat) (D:List Sgn),i≤n∧vi=.int .i64 i∧n≤f+i∧D.length≤i∧Hid (D ++ runsF f (ls.drop i)=runsP ls)∧Hid (ownG wr w.heap.size vl D)∧Hid (Below w.heap.size w wr)) (fun vi _ _=>n - (intOf vi).toNat)
 case atStart=>exact ⟨0,n,[],Nat.zero_le _,rfl,Nat.le_refl _,Nat.le_refl _,(show _=_ by unfold runsP;rw [hl];rfl),HO0,HB0⟩
 case round =>
  clear HO0 HB0
  obtain ⟨i,f,D,hin,rfl,hf,hDi,HE,HO,HB1⟩:=hrel
  obtain ⟨Av,nv,rfl,-⟩:=HO.out.form
  obtain ⟨wo,rfl⟩:∃ wo:World,wo=wr:=⟨_,rfl⟩
  by_cases hlt:i < n
  ·have hlti:(i:Int) < (n:Int):=by omega
   obtain ⟨g,rfl⟩:∃ g,f=g+1:=⟨f - 1,by omega⟩
   have hil:i < ls.length:=by omega
   obtain ⟨b,o,x,rfl,hb,HX,e1⟩:=HR.out.one hlt
   have HXX:Hid (ls[i]=x):=(show _=_ by have:=HX.out;rw [List.getElem?_eq_getElem hil] at this;injection this)
   have HE2:=Lib.hid (HE.out)
   rw [runsF_at hil,HXX.out] at HE2
   have hx0:0≤x:=HP0.out x (List.mem_of_getElem? HX.out)
   have e1o:=(HB1.out.cell (p:=⟨b,o+i,none⟩) (by show b < _;omega)).trans e1
   have HW1:True:=trivial
   clear e1 HE
   go_wp2_with fail
   go_loopw [5] (fun vk wr=>∃ k:Nat,i≤k∧k≤n∧vk=.int .i64 k∧Hid (∀ j,i≤j→j < k→ls[j]?=some x)∧Hid (wr.heap=wo.heap)∧Hid (ownG wr w.heap.size (.slice Av D.length nv) D)∧Hid (Below w.heap.size w wr)) (fun vk _=>n - (intOf vk).toNat)
   case atStart=>exact ⟨i,Nat.le_refl _,hin,rfl,(show ∀ j,_ from fun j a b=>by omega),(show _=_ from rfl),HO,HB1⟩
   case round =>
    clear HO HB1 HW1
    obtain ⟨k,hik,hkn,rfl,HS,HW1,HO,HB1⟩:=hrel
    have ei:wr.cell? ⟨b,o+i,none⟩=some (.int .i64 x):=by rw [← e1o];unfold World.cell?;rw [HW1.out]
    by_cases hk:k < n
    ·have hki:(k:Int) < (n:Int):=by omega
     obtain ⟨b2,o2,y,hA2,hb2,HY,e2⟩:=HR.out.one hk
     injection hA2 with hA2
     injection hA2 with hA2 hA3
     subst hA2 hA3
     have ek:wr.cell? ⟨b,o+k,none⟩=some (.int .i64 y):=(HB1.out.cell (p:=⟨b,o+k,none⟩) (by show b < _;omega)).trans e2
     clear e2
     by_cases hxy:y=x
     ·subst hxy
      have d1:(y == y)=true:=beq_self_eq_true _
      have HS1:Hid (∀ j,i≤j→j < k+1→ls[j]?=some y):=(show ∀ j,_ from fun j a b=>by
       by_cases e:j=k
       ·rw [e];exact HY.out
       ·exact HS.out j a (by omega))
      go_wp2_with fail
      go_quiet (fail)
      go_wp2_with fail
      go_roundw
      case rel=>exact ⟨k+1,by omega,by omega,by go_num,HS1,(show _=_ from HW1.out),HO.out.drewN nq,bdrewN HB1.out _⟩
      case measure=>simp [intOf];omega
     ·have d1:(y == x)=false:=beq_eq_false_iff_ne.2 hxy
      have hik2:i < k:=by
       rcases Nat.lt_or_ge i k with e | e
       ·exact e
       ·obtain rfl:i=k:=by omega
        exact absurd (by have:=HY.out.symm.trans HX.out;injection this) hxy
      have HK:Hid (same x (ls.drop (i+1))=k - i - 1):=(show _=_ by
       have:=same_run (l:=ls) hil hik2 (by omega) (fun j a b=>by rw [HXX.out];exact HS.out j a b) (by rw [HXX.out,HY.out];exact ne_opt hxy)
       rwa [HXX.out] at this)
      have hms:(k:Int) - (i:Int)=((k - i:Nat):Int):=by omega
      obtain ⟨m,hm⟩:∃ m,k - i=m:=⟨_,rfl⟩
      have hm1:1≤m:=by omega
      have hsm:k - i - 1+1=m:=by omega
      have hdk:i+1+(k - i - 1)=k:=by omega
      rw [HK.out,hsm,hdk] at HE2
      rw [hm] at hms
      by_cases hx:x=0
      ·subst hx
       have hd0:((0:Int) == 0)=true:=rfl
       rw [if_pos rfl,← List.append_assoc] at HE2
       have HZ:=Lib.hid (fun q=>zeros_any w.heap.size m (.slice Av D.length nv) D (wr.drewN q) (HO.out.drewN q) HB1.out.size (by omega) (by omega))
       have HZ0:=Lib.hid (zeros_any w.heap.size m (.slice Av D.length nv) D wr HO.out HB1.out.size (by omega) (by omega))
       have hzl:=zerosP_len m
       generalize zerosP m=Z at *
       go_wp2_with fail
       go_quiet (fail)
       go_wp2_with ((go_at_call 177;(with_reducible refine (HZ.out _).mono ?_);go_must (rintro e w5 ⟨v5,rfl,ho5,hb5⟩;have HO5:=Lib.hid ho5;have HB5:=Lib.hid ((bdrewN HB1.out _).trans hb5);clear ho5 hb5)))
       go_roundw
       case rel=>exact ⟨k,g,D ++ Z,by omega,rfl,by omega,(by rw [List.length_append];omega),HE2,HO5,HB5⟩
       case measure=>simp [intOf];omega
      ·have hd0:(x == 0)=false:=beq_eq_false_iff_ne.2 hx
       rw [if_neg hx,← List.append_assoc] at HE2
       obtain ⟨X,rfl⟩:=Int.eq_ofNat_of_zero_le hx0
       have hXX:(X:Int).toNat=X:=rfl
       rw [hXX] at HE2
       have HZ:=Lib.hid (fun q=>others_any w.heap.size X m (.slice Av D.length nv) D (wr.drewN q) (HO.out.drewN q) HB1.out.size (by omega) (by omega) hm1)
       have HZ0:=Lib.hid (others_any w.heap.size X m (.slice Av D.length nv) D wr HO.out HB1.out.size (by omega) (by omega) hm1)
       have hzl:=othersP_len X m hm1
       generalize othersP X m=Z at *
       go_wp2_with fail
       go_quiet (fail)
       go_wp2_with ((go_at_call 178;(with_reducible refine (HZ.out _).mono ?_);go_must (rintro e w5 ⟨v5,rfl,ho5,hb5⟩;have HO5:=Lib.hid ho5;have HB5:=Lib.hid ((bdrewN HB1.out _).trans hb5);clear ho5 hb5)))
       go_roundw
       case rel=>exact ⟨k,g,D ++ Z,by omega,rfl,by omega,(by rw [List.length_append];omega),HE2,HO5,HB5⟩
       case measure=>simp [intOf];omega
    ·obtain rfl:k=n:=by omega
     have hki:¬ (k:Int) < (k:Int):=by omega
     have HK:Hid (same x (ls.drop (i+1))=k - i - 1):=(show _=_ by
      have:=same_run (l:=ls) hil hlt (by omega) (fun j a b=>by rw [HXX.out];exact HS.out j a b) (by rw [List.getElem?_eq_none (by omega)];simp)
      rwa [HXX.out] at this)
     have hms:(k:Int) - (i:Int)=((k - i:Nat):Int):=by omega
     obtain ⟨m,hm⟩:∃ m,k - i=m:=⟨_,rfl⟩
     have hm1:1≤m:=by omega
     have hsm:k - i - 1+1=m:=by omega
     have hdk:i+1+(k - i - 1)=k:=by omega
     rw [HK.out,hsm,hdk] at HE2
     rw [hm] at hms
     by_cases hx:x=0
     ·subst hx
      have hd0:((0:Int) == 0)=true:=rfl
      rw [if_pos rfl,← List.append_assoc] at HE2
      have HZ:=Lib.hid (fun q=>zeros_any w.heap.size m (.slice Av D.length nv) D (wr.drewN q) (HO.out.drewN q) HB1.out.size (by omega) (by omega))
      have HZ0:=Lib.hid (zeros_any w.heap.size m (.slice Av D.length nv) D wr HO.out HB1.out.size (by omega) (by omega))
      have hzl:=zerosP_len m
      generalize zerosP m=Z at *
      go_wp2_with fail
      go_quiet (fail)
      go_wp2_with ((go_at_call 177;(with_reducible refine (HZ.out _).mono ?_);go_must (rintro e w5 ⟨v5,rfl,ho5,hb5⟩;have HO5:=Lib.hid ho5;have HB5:=Lib.hid ((bdrewN HB1.out _).trans hb5);clear ho5 hb5)))
      go_roundw
      case rel=>exact ⟨k,g,D ++ Z,by omega,rfl,by omega,(by rw [List.length_append];omega),HE2,HO5,HB5⟩
      case measure=>simp [intOf];omega
     ·have hd0:(x == 0)=false:=beq_eq_false_iff_ne.2 hx
      rw [if_neg hx,← List.append_assoc] at HE2
      obtain ⟨X,rfl⟩:=Int.eq_ofNat_of_zero_le hx0
      have hXX:(X:Int).toNat=X:=rfl
      rw [hXX] at HE2
      have HZ:=Lib.hid (fun q=>others_any w.heap.size X m (.slice Av D.length nv) D (wr.drewN q) (HO.out.drewN q) HB1.out.size (by omega) (by omega) hm1)
      have HZ0:=Lib.hid (others_any w.heap.size X m (.slice Av D.length nv) D wr HO.out HB1.out.size (by omega) (by omega) hm1)
      have hzl:=othersP_len X m hm1
      generalize othersP X m=Z at *
      go_wp2_with fail
      go_quiet (fail)
      go_wp2_with ((go_at_call 178;(with_reducible refine (HZ.out _).mono ?_);go_must (rintro e w5 ⟨v5,rfl,ho5,hb5⟩;have HO5:=Lib.hid ho5;have HB5:=Lib.hid ((bdrewN HB1.out _).trans hb5);clear ho5 hb5)))
      go_roundw
      case rel=>exact ⟨k,g,D ++ Z,by omega,rfl,by omega,(by rw [List.length_append];omega),HE2,HO5,HB5⟩
      case measure=>simp [intOf];omega
  ·obtain rfl:i=n:=by omega
   have HF:Hid (D=runsP ls):=(show _=_ by have:=HE.out;rw [runsF_end _ (by omega),List.append_nil] at this;exact this)
   go_wp2_with fail
   go_ret
   exact ⟨_,rfl,(by rw [← HF.out];exact HO.out),HB1.out⟩
end Go.Proofs.YtebbdifhiihfkaaGreatDoor

