/- XRowW -/
import Derived.Test.YtdoanopeejeeiaaMk20
namespace Go.Proofs.Ytdoanopeejeeiaa
set_option linter.all false
open Go.RowKit
def eW (x:PT):List Value:=[Value.int .i64 x.1,Value.slice x.2.1 x.2.2.1 x.2.2.2]
theorem eW_len (x:PT):(eW x).length=2:=rfl
/-- The cells of a list. -/
def cW (l:List PT):List Value:=l.flatMap eW
theorem cW_length:∀ l:List PT,(cW l).length=l.length * 2
 | []=>rfl
 | x :: l=>by
  have:=cW_length l
  unfold cW at this ⊢
  rw [List.flatMap_cons,List.length_append,this,eW_len,List.length_cons]
  omega
theorem cW_append (a b:List PT):cW (a ++ b)=cW a ++ cW b:=by simp [cW]
theorem cW_single (x:PT):cW [x]=eW x:=by simp [cW]
theorem cW_get:∀ (l:List PT) (k j:Nat) (hk:k < l.length),j < 2→(cW l)[k * 2+j]?=(eW l[k])[j]?
 | x :: l,0,j,_,hj=>by
  unfold cW
  rw [List.flatMap_cons,List.getElem?_append_left (by rw [eW_len];omega)]
  simp
 | x :: l,i+1,j,hi,hj=>by
  have:=cW_get l i j (by simpa using hi) hj
  unfold cW at this ⊢
  rw [List.flatMap_cons,List.getElem?_append_right (by rw [eW_len];omega),eW_len,List.getElem_cons_succ,← this]
  congr 1
  omega
theorem cW_one (l:List PT):∀ u ∈ cW l,u.oneCell'=true:=by
 intro u hu
 simp only [cW,List.mem_flatMap] at hu
 obtain ⟨x,_,hx⟩:=hu
 simp only [eW,List.mem_cons,List.not_mem_nil,or_false] at hx
 rcases hx with rfl | rfl <;> rfl
theorem cW_set (l:List PT) (k:Nat) (x:PT) (hk:k < l.length):cW (l.set k x)=((cW l).set (k * 2) (Value.int .i64 x.1)).set (k * 2+1) (Value.slice x.2.1 x.2.2.1 x.2.2.2):=by
 have e1:l=l.take k ++ l[k] :: l.drop (k+1):=by rw [← List.drop_eq_getElem_cons hk,List.take_append_drop]
 have e2:l.set k x=l.take k ++ x :: l.drop (k+1):=by rw [List.set_eq_take_append_cons_drop,if_pos hk]
 rw [e2]
 have hl:(cW (l.take k)).length=k * 2:=by rw [cW_length,List.length_take,Nat.min_eq_left (by omega)]
 have e3:cW l=cW (l.take k) ++ (eW l[k] ++ cW (l.drop (k+1))):=by
  conv=>lhs;rw [e1]
  rw [cW_append]
  simp only [cW,List.flatMap_cons]
 have e4:cW (l.take k ++ x :: l.drop (k+1))=cW (l.take k) ++ (eW x ++ cW (l.drop (k+1))):=by
  rw [cW_append]
  simp only [cW,List.flatMap_cons]
 rw [e3,e4]
 generalize cW (l.take k)=P at *
 rw [← hl]
 simp [eW,List.set_append]
theorem Try.info_W:(Try.prog.info? 56).map (fun i=>(i.zero,i.size,i.bytes))=some (some (.agg #[.int .i64 0,.slice none 0 0]),2,32):=by kernel_rfl
def ownW (w:World) (base:Nat) (v:Value) (l:List PT):Prop:=w.ownsRow base 56 2 v l.length (cW l)
def RdW (w:World) (B:Nat) (A:Option Addr) (n:Nat) (l:List PT):Prop:=Rd w B 2 A n (cW l)
theorem RdW.len {w:World} {B n:Nat} {A:Option Addr} {l:List PT} (h:RdW w B A n l):l.length=n:=by
 have:=h.1;rw [cW_length] at this;omega
theorem RdW.one {w:World} {B n:Nat} {A:Option Addr} {l:List PT} (h:RdW w B A n l) {k:Nat} (hk:k < n) :
  ∃ b o x,A=some ⟨b,o,none⟩∧b < B∧Hid (l[k]?=some x)∧w.cell? ⟨b,o+k * 2,none⟩=some (Value.int .i64 x.1)∧w.cell? ⟨b,o+k * 2+1,none⟩=some (Value.slice x.2.1 x.2.2.1 x.2.2.2):=by
 obtain ⟨b,o,e,hb,hc⟩:=h.2 (by omega)
 have hl:=h.len
 have hk':k < l.length:=by omega
 refine ⟨b,o,l[k],e,hb,List.getElem?_eq_getElem hk',?_,?_⟩
 ·exact hc (k * 2) _ ((cW_get l k 0 hk' (by omega)).trans rfl)
 ·exact hc (k * 2+1) _ ((cW_get l k 1 hk' (by omega)).trans rfl)
theorem RdW.blw {w w':World} {B n:Nat} {A:Option Addr} {l:List PT} (h:RdW w B A n l) (hb:Below B w w'):RdW w' B A n l:=Rd.below h hb
theorem RdW.more {w:World} {B B' n:Nat} {A:Option Addr} {l:List PT} (h:RdW w B A n l) (hB:B≤B'):RdW w B' A n l:=Rd.more h hB
theorem RdW.here {w:World} {B n:Nat} {A:Option Addr} {l:List PT} (h:RdW w B A n l):RdW w w.heap.size A n l :=
 ⟨h.1,fun hn=>by
  obtain ⟨b,o,e,hb,hc⟩:=h.2 hn
  have hl:=h.1
  exact ⟨b,o,e,block_lt_of_cell (a:=⟨b,o+0,none⟩) (hc 0 (cW l)[0] (List.getElem?_eq_getElem (by omega))),hc⟩⟩
theorem RdW.later {w w':World} {n:Nat} {A:Option Addr} {l:List PT} (h:RdW w w.heap.size A n l) (hb:Below w.heap.size w w'):RdW w' w'.heap.size A n l:=RdW.here (RdW.blw h hb)
theorem RdW.alloc {w:World} {B n:Nat} {A:Option Addr} {l:List PT} (h:RdW w B A n l) (hB:B≤w.heap.size) (o:Obj):RdW (w.alloc o) B A n l:=Rd.alloc h hB o
theorem RdW.nil_ {w:World} {B:Nat} {A:Option Addr}:RdW w B A 0 []:=⟨by simp [cW],fun h=>absurd h (by omega)⟩
theorem RdW.cut {w:World} {B n:Nat} {A:Option Addr} {l:List PT} (h:RdW w B A n l) {k m:Nat} (hk:k+m≤n) {A':Option Addr} (hA:0 < m→A'=A.map (·.add (k * 2))) :
  RdW w B A' m ((l.drop k).take m):=by
 have:=Rd.cut h hk (A':=A') hA
 unfold RdW
 have e1:∀ (q:Nat) (l:List PT),cW (l.take q)=(cW l).take (q * 2):=fun q l=>by
  rcases Nat.lt_or_ge q l.length with hq | hq
  ·conv=>rhs;rw [← List.take_append_drop q l,cW_append]
   rw [List.take_left' (by rw [cW_length,List.length_take,Nat.min_eq_left (by omega)])]
  ·rw [List.take_of_length_le hq,List.take_of_length_le (by rw [cW_length];exact Nat.mul_le_mul_right _ hq)]
 have e2:∀ (q:Nat) (l:List PT),cW (l.drop q)=(cW l).drop (q * 2):=fun q l=>by
  rcases Nat.lt_or_ge q l.length with hq | hq
  ·conv=>rhs;rw [← List.take_append_drop q l,cW_append]
   rw [List.drop_left' (by rw [cW_length,List.length_take,Nat.min_eq_left (by omega)])]
  ·rw [List.drop_eq_nil_of_le hq,List.drop_eq_nil_of_le (by rw [cW_length];exact Nat.mul_le_mul_right _ hq)]
   rfl
 rw [e1,e2]
 exact this
theorem ownW.nil_ (w:World) (base:Nat):ownW w base (.slice none 0 0) []:=World.ownsRow_nil _ _ _ _
theorem ownW.mono {w:World} {base base':Nat} {v:Value} {l:List PT} (h:ownW w base v l) (hb:base'≤base):ownW w base' v l:=by
 refine ⟨h.1,?_⟩
 rcases h.2 with hn | ⟨g,cap,cur,rfl,hbg,rest⟩
 ·exact .inl hn
 ·exact .inr ⟨g,cap,cur,rfl,by omega,rest⟩
theorem ownW.later {w w':World} {base:Nat} {v:Value} {l:List PT} (h:ownW w base v l) (hb:Below w.heap.size w w'):ownW w' base v l :=
 Below.ownsRow h hb (fun g hg=>(World.ownsRow.lt h g hg).2)
theorem ownW.alloc {w:World} {base:Nat} {v:Value} {l:List PT} (h:ownW w base v l) (o:Obj):ownW (w.alloc o) base v l:=World.ownsRow.alloc h o
theorem ownW.drew {w:World} {base:Nat} {v:Value} {l:List PT} (h:ownW w base v l):ownW w.drew base v l:=h
theorem ownW.form {w:World} {base:Nat} {v:Value} {l:List PT} (h:ownW w base v l) :
  ∃ A c,v=.slice A l.length c∧RdW w w.heap.size A l.length l∧l.length≤c∧c≤maxLen:=by
 rcases h.2 with ⟨rfl,h0⟩ | ⟨g,cap,cur,rfl,_,_,h1,h2,_⟩
 ·have:l=[]:=List.eq_nil_of_length_eq_zero h0
  subst this
  exact ⟨none,0,rfl,Rd.none_,by simp,by simp⟩
 ·exact ⟨_,_,rfl,Rd.of_own h,h1,h2⟩
theorem ownW.kept {w w':World} {base:Nat} {v:Value} {l:List PT} {row:Option Nat} (h:ownW w base v l) (hg:w.grownBy w' row) (hne:v.ownBlock=none∨v.ownBlock ≠ row):ownW w' base v l :=
 World.ownsRow.kept h hg hne
theorem ownW.far {w:World} {base g:Nat} {v:Value} {l:List PT} (h:ownW w base v l) (hg:v.ownBlock ≠ some g) (o:Nat) (u:Value) :
  ownW (w.setCell ⟨g,o,none⟩ u) base v l:=by
 refine ⟨h.1,?_⟩
 rcases h.2 with hn | ⟨g',cap,cur,rfl,hb,hgg,rest⟩
 ·exact .inl hn
 ·refine .inr ⟨g',cap,cur,rfl,hb,?_,rest⟩
  rw [Below.heap_setCell _ _ _ _ (by intro e;apply hg;simp [Value.ownBlock];exact e)]
  exact hgg
theorem ownW.ne {w:World} {base g:Nat} {v:Value} {l:List PT} (h:ownW w base v l) (hg:g < base):v.ownBlock ≠ some g:=by
 intro e
 have:=(World.ownsRow.lt h g e).1
 omega
theorem ownW.pos {w:World} {base n c:Nat} {A:Option Addr} {l:List PT} (h:ownW w base (.slice A n c) l) (hn:0 < n):n=l.length∧∃ g,A=some ⟨g,0,none⟩∧base≤g∧g < w.heap.size:=by
 rcases h.2 with ⟨h',_⟩ | ⟨g,cap,cur,h',hb,hg,_⟩
 ·injection h' with _ h2;omega
 ·injection h' with h1 h2
  exact ⟨h2,g,h1,hb,(World.ownsRow.lt h g (by rw [h1];rfl)).2⟩
theorem ownW.cell {w:World} {base g n c:Nat} {l:List PT} (h:ownW w base (.slice (some ⟨g,0,none⟩) n c) l) (hn:n=l.length) {k:Nat} (hk:k < l.length) :
  w.cell? ⟨g,k * 2,none⟩=some ((fun x:PT=>Value.int .i64 x.1) l[k])∧w.cell? ⟨g,k * 2+1,none⟩=some ((fun x:PT=>Value.slice x.2.1 x.2.2.1 x.2.2.2) l[k]):=by
 subst hn
 refine ⟨?_,?_⟩
 ·exact (World.ownsRow.cellAt h (k * 2) (by have:=hk;omega)).trans ((cW_get l k 0 hk (by omega)).trans rfl)
 ·exact (World.ownsRow.cellAt h (k * 2+1) (by have:=hk;omega)).trans ((cW_get l k 1 hk (by omega)).trans rfl)
theorem ownW.frozen {w:World} {base g n c:Nat} {l:List PT} (h:ownW w base (.slice (some ⟨g,0,none⟩) n c) l) (hn:n=l.length) (k:Nat) :
  w.frozen? ⟨g,k,none⟩=false:=by
 subst hn
 exact World.ownsRow.frozenAt h k
theorem ownW.store {w:World} {base g n c:Nat} {l:List PT} (h:ownW w base (.slice (some ⟨g,0,none⟩) n c) l) (hn:n=l.length) (k:Nat) (x:PT) (hk:k < l.length) :
  ownW ((w.setCell ⟨g,k * 2,none⟩ (Value.int .i64 x.1)).setCell ⟨g,k * 2+1,none⟩ (Value.slice x.2.1 x.2.2.1 x.2.2.2)) base (.slice (some ⟨g,0,none⟩) n c) (l.set k x):=by
 subst hn
 have h0:w.ownsRow base 56 2 (.slice (some ⟨g,0,none⟩) l.length c) l.length (cW l):=h
 have h1:=(World.ownsRow.stored h0 (k * 2) (Value.int .i64 x.1)).1
 have h2:=(World.ownsRow.stored h1 (k * 2+1) (Value.slice x.2.1 x.2.2.1 x.2.2.2)).1
 unfold ownW
 rw [List.length_set,cW_set l k x hk]
 exact h2
theorem ownW.rd {w:World} {base n c:Nat} {A:Option Addr} {l:List PT} (h:ownW w base (.slice A n c) l):RdW w w.heap.size A n l:=by
 obtain ⟨A4,c4,e5,hd4,_,_⟩:=h.form
 injection e5 with e1 e2 e3
 rw [e1,e2]
 exact hd4
/-- One element that lies in a block, whole. -/
theorem rd_oneW (w:World) (x:PT) (t:TypeId) (fr:Nat × Nat):RdW (w.alloc (.cells (eW x).toArray t fr)) (w.heap.size+1) (some ⟨w.heap.size,0,none⟩) 1 [x]:=by
 refine ⟨by rw [cW_length];rfl,fun _=>⟨_,_,rfl,by omega,fun j u hu=>?_⟩⟩
 rw [Nat.zero_add]
 have:=cell_of_row (w.alloc (.cells (eW x).toArray t fr)) w.heap.size j (eW x).toArray t fr (heap_alloc_new w _)
 rw [this]
 rw [cW_single] at hu
 simpa using hu
set_option maxRecDepth 100000 in
theorem run_appendW (w:World) (base:Nat) (t2:TypeId) (v:Value) (l:List PT) (hown:ownW w base v l) (B m c:Nat) (A:Option Addr) (news:List PT) (hr:RdW w B A m news)
  (hb:l.length+m≤1099511627776) (hbase:base≤w.heap.size) :
  ∃ v' w',(Builtin.append_ #[39,39] t2 #[v,.slice A m c]).run Try.prog w=.ok v' w'∧ownW w' base v' (l ++ news)∧w.grownBy w' v.ownBlock ∧
   (v'.ownBlock=v.ownBlock∨v'.ownBlock=some w.heap.size)∧(v'=.slice none 0 0 ↔ v=.slice none 0 0∧m=0):=by
 obtain ⟨i0,hi,hz0,hz1,hz2⟩:=info_parts Try.info_W
 have hl:=hr.len
 subst hl
 unfold ownW
 rw [List.length_append,cW_append]
 rcases A with _ | ad
 ·have hn:news=[]:=by
   rcases Nat.eq_zero_or_pos news.length with h0 | h0
   ·exact List.eq_nil_of_length_eq_zero h0
   ·obtain ⟨b,o,h,_⟩:=hr.2 h0
    cases h
  subst hn
  refine ⟨v,w,?_,by simpa [cW,ownW] using hown,World.grownBy.refl w _,.inl rfl,by simp⟩
  rcases hown.2 with ⟨rfl,h0⟩ | ⟨g,cap,cur,rfl,_,_,hnc,_⟩
  ·simp [Builtin.append_,run_underlying Try.underlying39,sizeOf,typeInfo,hi,Builtin.lenOf,Builtin.firstCells]
  ·simp [Builtin.append_,run_underlying Try.underlying39,sizeOf,typeInfo,hi,Builtin.lenOf,Builtin.firstCells,hnc,storeCells]
 ·have hcells:∀ j u,(cW news)[j]?=some u→w.cell? (ad.add j)=some u:=by
   intro j u hu
   rcases Nat.eq_zero_or_pos news.length with h0 | h0
   ·have hn:news=[]:=List.eq_nil_of_length_eq_zero h0
    subst hn
    simp [cW] at hu
   ·obtain ⟨b,o,h,_,hc⟩:=hr.2 h0
    injection h with h
    subst h
    rw [add_none]
    exact hc j u hu
  obtain ⟨v',w',hrun,h2,h3,h4,h5⟩:=run_append_own_at (P:=Try.prog) w base 39 t2 56 i0 _ 2 32 Try.underlying39 hi hz0 hz1 hz2 rfl (by omega) v l.length (cW l) hown ad news.length c (cW news) (by rw [cW_length]) hcells (cW_one _) (by unfold maxLen;omega) (by omega) hbase
  exact ⟨v',w',hrun,h2,h3,h5,h4⟩
/-- append(v, x...): v the call's own, x whatever. -/
theorem wpList_appendW {w:World} {ops:Array Oper} {rest:List Oper} {o:Oper} {a:Act} {Q:Exit→Act→World→Prop} (hgd:o.guard=none) (s x:Operand)
  (ho:o.op=.call { callee:=.builtin .append,args:=#[s,x],argTypes:=#[39,39] })
  (base:Nat) (v:Value) (l:List PT) (hs:a.eval s=v) (hown:ownW w base v l) (B m c:Nat) (A:Option Addr) (news:List PT) (hx:a.eval x=.slice A m c) (hr:RdW w B A m news)
  (hb:l.length+m≤1099511627776) (hbase:base≤w.heap.size)
  (h:∀ v' w',ownW w' base v' (l ++ news)→w.grownBy w' v.ownBlock→Below base w w'→(v'.ownBlock=v.ownBlock∨v'.ownBlock=some w.heap.size)→wpList Try.prog ops Q rest (a.put o.dst v') w') :
  wpList Try.prog ops Q (o :: rest) a w:=by
 refine wpList_plain hgd fun K hK=>?_
 obtain ⟨v',w',hrun,h2,h3,h4,_⟩:=run_appendW w base o.type v l hown B m c A news hr hb hbase
 unfold Oper.wp execOp
 simp only [ho,resolve,invoke,builtin,Sem.run_bind,Sem.run_pure,Result.andThen_ok,List.map_toArray,List.map_cons,List.map_nil,hs,hx,hrun]
 exact hK _ _ (h v' w' h2 h3 ((Below.refl _ _).grown h3 hbase (fun k hk=>(World.ownsRow.lt hown k hk).1)) h4)
/-- append of bytes as a step of a region that draws its order. -/
theorem step_appendW {w:World} {ops:Array Oper} {o:Oper} {a:Act} {K:Act→World→Prop} {Q:Exit→Act→World→Prop} {E:Prop} (hgd:o.guard=none) (s x:Operand)
  (ho:o.op=.call { callee:=.builtin .append,args:=#[s,x],argTypes:=#[39,39] })
  (base:Nat) (v:Value) (bs:List PT) (hs:a.eval s=v) (hown:ownW w base v bs) (B m c:Nat) (A:Option Addr) (news:List PT) (hx:a.eval x=.slice A m c) (hr:RdW w B A m news)
  (hb:bs.length+m≤1099511627776) (hbase:base≤w.heap.size)
  (h:∀ v' w',ownW w' base v' (bs ++ news)→w.grownBy w' v.ownBlock→Below base w w'→(v'.ownBlock=v.ownBlock∨v'.ownBlock=some w.heap.size)→K (a.put o.dst v') w') :
  if Region.wanted o (yielded ops a.tmps)=true then Oper.wp Try.prog o a w K Q else E:=by
 have hw:Region.wanted o (yielded ops a.tmps)=true:=by simp [Region.wanted,hgd]
 rw [if_pos hw]
 obtain ⟨v',w',hrun,h2,h3,h4,_⟩:=run_appendW w base o.type v bs hown B m c A news hr hb hbase
 unfold Oper.wp execOp
 simp only [ho,resolve,invoke,builtin,Sem.run_bind,Sem.run_pure,Result.andThen_ok,List.map_toArray,List.map_cons,List.map_nil,hs,hx,hrun]
 exact h v' w' h2 h3 ((Below.refl _ _).grown h3 hbase (fun k hk=>(World.ownsRow.lt hown k hk).1)) h4
end Go.Proofs.Ytdoanopeejeeiaa

