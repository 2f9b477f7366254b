/- XRowH -/
import Derived.Test.YtdoanopeejeeiaaMk04
namespace Go.Proofs.Ytdoanopeejeeiaa
set_option linter.all false
open Go.RowKit
def eH (x:CH):List Value:=[Value.int .i64 (x.1:Int),Value.slice x.2.1 x.2.2.1 x.2.2.2]
theorem eH_len (x:CH):(eH x).length=2:=rfl
/-- The cells of a list. -/
def cH (l:List CH):List Value:=l.flatMap eH
theorem cH_length:∀ l:List CH,(cH l).length=l.length * 2
 | []=>rfl
 | x :: l=>by
  have:=cH_length l
  unfold cH at this ⊢
  rw [List.flatMap_cons,List.length_append,this,eH_len,List.length_cons]
  omega
theorem cH_append (a b:List CH):cH (a ++ b)=cH a ++ cH b:=by simp [cH]
theorem cH_single (x:CH):cH [x]=eH x:=by simp [cH]
theorem cH_get:∀ (l:List CH) (k j:Nat) (hk:k < l.length),j < 2→(cH l)[k * 2+j]?=(eH l[k])[j]?
 | x :: l,0,j,_,hj=>by
  unfold cH
  rw [List.flatMap_cons,List.getElem?_append_left (by rw [eH_len];omega)]
  simp
 | x :: l,i+1,j,hi,hj=>by
  have:=cH_get l i j (by simpa using hi) hj
  unfold cH at this ⊢
  rw [List.flatMap_cons,List.getElem?_append_right (by rw [eH_len];omega),eH_len,List.getElem_cons_succ,← this]
  congr 1
  omega
theorem cH_one (l:List CH):∀ u ∈ cH l,u.oneCell'=true:=by
 intro u hu
 simp only [cH,List.mem_flatMap] at hu
 obtain ⟨x,_,hx⟩:=hu
 simp only [eH,List.mem_cons,List.not_mem_nil,or_false] at hx
 rcases hx with rfl | rfl <;> rfl
theorem cH_set (l:List CH) (k:Nat) (x:CH) (hk:k < l.length):cH (l.set k x)=((cH l).set (k * 2) (Value.int .i64 (x.1:Int))).set (k * 2+1) (Value.slice x.2.1 x.2.2.1 x.2.2.2):=by
 have e1:l=l.take k ++ l[k] :: l.drop (k+1):=by rw [← List.drop_eq_getElem_cons hk,List.take_append_drop]
 have e2:l.set k x=l.take k ++ x :: l.drop (k+1):=by rw [List.set_eq_take_append_cons_drop,if_pos hk]
 rw [e2]
 have hl:(cH (l.take k)).length=k * 2:=by rw [cH_length,List.length_take,Nat.min_eq_left (by omega)]
 have e3:cH l=cH (l.take k) ++ (eH l[k] ++ cH (l.drop (k+1))):=by
  conv=>lhs;rw [e1]
  rw [cH_append]
  simp only [cH,List.flatMap_cons]
 have e4:cH (l.take k ++ x :: l.drop (k+1))=cH (l.take k) ++ (eH x ++ cH (l.drop (k+1))):=by
  rw [cH_append]
  simp only [cH,List.flatMap_cons]
 rw [e3,e4]
 generalize cH (l.take k)=P at *
 rw [← hl]
 simp [eH,List.set_append]
theorem Try.info_H:(Try.prog.info? 79).map (fun i=>(i.zero,i.size,i.bytes))=some (some (.agg #[.int .i64 0,.slice none 0 0]),2,32):=by kernel_rfl
def ownH (w:World) (base:Nat) (v:Value) (l:List CH):Prop:=w.ownsRow base 79 2 v l.length (cH l)
def RdH (w:World) (B:Nat) (A:Option Addr) (n:Nat) (l:List CH):Prop:=Rd w B 2 A n (cH l)
theorem RdH.len {w:World} {B n:Nat} {A:Option Addr} {l:List CH} (h:RdH w B A n l):l.length=n:=by
 have:=h.1;rw [cH_length] at this;omega
theorem RdH.one {w:World} {B n:Nat} {A:Option Addr} {l:List CH} (h:RdH w B A n l) {k:Nat} (hk:k < n) :
  ∃ b o x,A=some ⟨b,o,none⟩∧b < B∧Hid (l[k]?=some x)∧w.cell? ⟨b,o+k * 2,none⟩=some (Value.int .i64 (x.1:Int))∧w.cell? ⟨b,o+k * 2+1,none⟩=some (Value.slice x.2.1 x.2.2.1 x.2.2.2):=by
 obtain ⟨b,o,e,hb,hc⟩:=h.2 (by omega)
 have hl:=h.len
 have hk':k < l.length:=by omega
 refine ⟨b,o,l[k],e,hb,List.getElem?_eq_getElem hk',?_,?_⟩
 ·exact hc (k * 2) _ ((cH_get l k 0 hk' (by omega)).trans rfl)
 ·exact hc (k * 2+1) _ ((cH_get l k 1 hk' (by omega)).trans rfl)
theorem RdH.blw {w w':World} {B n:Nat} {A:Option Addr} {l:List CH} (h:RdH w B A n l) (hb:Below B w w'):RdH w' B A n l:=Rd.below h hb
theorem RdH.more {w:World} {B B' n:Nat} {A:Option Addr} {l:List CH} (h:RdH w B A n l) (hB:B≤B'):RdH w B' A n l:=Rd.more h hB
theorem RdH.here {w:World} {B n:Nat} {A:Option Addr} {l:List CH} (h:RdH w B A n l):RdH w w.heap.size A n l :=
 ⟨h.1,fun hn=>by
  obtain ⟨b,o,e,hb,hc⟩:=h.2 hn
  have hl:=h.1
  exact ⟨b,o,e,block_lt_of_cell (a:=⟨b,o+0,none⟩) (hc 0 (cH l)[0] (List.getElem?_eq_getElem (by omega))),hc⟩⟩
theorem RdH.later {w w':World} {n:Nat} {A:Option Addr} {l:List CH} (h:RdH w w.heap.size A n l) (hb:Below w.heap.size w w'):RdH w' w'.heap.size A n l:=RdH.here (RdH.blw h hb)
theorem RdH.alloc {w:World} {B n:Nat} {A:Option Addr} {l:List CH} (h:RdH w B A n l) (hB:B≤w.heap.size) (o:Obj):RdH (w.alloc o) B A n l:=Rd.alloc h hB o
theorem RdH.nil_ {w:World} {B:Nat} {A:Option Addr}:RdH w B A 0 []:=⟨by simp [cH],fun h=>absurd h (by omega)⟩
theorem RdH.cut {w:World} {B n:Nat} {A:Option Addr} {l:List CH} (h:RdH w B A n l) {k m:Nat} (hk:k+m≤n) {A':Option Addr} (hA:0 < m→A'=A.map (·.add (k * 2))) :
  RdH w B A' m ((l.drop k).take m):=by
 have:=Rd.cut h hk (A':=A') hA
 unfold RdH
 have e1:∀ (q:Nat) (l:List CH),cH (l.take q)=(cH l).take (q * 2):=fun q l=>by
  rcases Nat.lt_or_ge q l.length with hq | hq
  ·conv=>rhs;rw [← List.take_append_drop q l,cH_append]
   rw [List.take_left' (by rw [cH_length,List.length_take,Nat.min_eq_left (by omega)])]
  ·rw [List.take_of_length_le hq,List.take_of_length_le (by rw [cH_length];exact Nat.mul_le_mul_right _ hq)]
 have e2:∀ (q:Nat) (l:List CH),cH (l.drop q)=(cH l).drop (q * 2):=fun q l=>by
  rcases Nat.lt_or_ge q l.length with hq | hq
  ·conv=>rhs;rw [← List.take_append_drop q l,cH_append]
   rw [List.drop_left' (by rw [cH_length,List.length_take,Nat.min_eq_left (by omega)])]
  ·rw [List.drop_eq_nil_of_le hq,List.drop_eq_nil_of_le (by rw [cH_length];exact Nat.mul_le_mul_right _ hq)]
   rfl
 rw [e1,e2]
 exact this
theorem ownH.nil_ (w:World) (base:Nat):ownH w base (.slice none 0 0) []:=World.ownsRow_nil _ _ _ _
theorem ownH.mono {w:World} {base base':Nat} {v:Value} {l:List CH} (h:ownH w base v l) (hb:base'≤base):ownH w base' v l:=by
 refine ⟨h.1,?_⟩
 rcases h.2 with hn | ⟨g,cap,cur,rfl,hbg,rest⟩
 ·exact .inl hn
 ·exact .inr ⟨g,cap,cur,rfl,by omega,rest⟩
theorem ownH.later {w w':World} {base:Nat} {v:Value} {l:List CH} (h:ownH w base v l) (hb:Below w.heap.size w w'):ownH w' base v l :=
 Below.ownsRow h hb (fun g hg=>(World.ownsRow.lt h g hg).2)
theorem ownH.alloc {w:World} {base:Nat} {v:Value} {l:List CH} (h:ownH w base v l) (o:Obj):ownH (w.alloc o) base v l:=World.ownsRow.alloc h o
theorem ownH.drew {w:World} {base:Nat} {v:Value} {l:List CH} (h:ownH w base v l):ownH w.drew base v l:=h
theorem ownH.form {w:World} {base:Nat} {v:Value} {l:List CH} (h:ownH w base v l) :
  ∃ A c,v=.slice A l.length c∧RdH w w.heap.size A l.length l∧l.length≤c∧c≤maxLen:=by
 rcases h.2 with ⟨rfl,h0⟩ | ⟨g,cap,cur,rfl,_,_,h1,h2,_⟩
 ·have:l=[]:=List.eq_nil_of_length_eq_zero h0
  subst this
  exact ⟨none,0,rfl,Rd.none_,by simp,by simp⟩
 ·exact ⟨_,_,rfl,Rd.of_own h,h1,h2⟩
theorem ownH.kept {w w':World} {base:Nat} {v:Value} {l:List CH} {row:Option Nat} (h:ownH w base v l) (hg:w.grownBy w' row) (hne:v.ownBlock=none∨v.ownBlock ≠ row):ownH w' base v l :=
 World.ownsRow.kept h hg hne
theorem ownH.far {w:World} {base g:Nat} {v:Value} {l:List CH} (h:ownH w base v l) (hg:v.ownBlock ≠ some g) (o:Nat) (u:Value) :
  ownH (w.setCell ⟨g,o,none⟩ u) base v l:=by
 refine ⟨h.1,?_⟩
 rcases h.2 with hn | ⟨g',cap,cur,rfl,hb,hgg,rest⟩
 ·exact .inl hn
 ·refine .inr ⟨g',cap,cur,rfl,hb,?_,rest⟩
  rw [Below.heap_setCell _ _ _ _ (by intro e;apply hg;simp [Value.ownBlock];exact e)]
  exact hgg
theorem ownH.ne {w:World} {base g:Nat} {v:Value} {l:List CH} (h:ownH w base v l) (hg:g < base):v.ownBlock ≠ some g:=by
 intro e
 have:=(World.ownsRow.lt h g e).1
 omega
theorem ownH.pos {w:World} {base n c:Nat} {A:Option Addr} {l:List CH} (h:ownH w base (.slice A n c) l) (hn:0 < n):n=l.length∧∃ g,A=some ⟨g,0,none⟩∧base≤g∧g < w.heap.size:=by
 rcases h.2 with ⟨h',_⟩ | ⟨g,cap,cur,h',hb,hg,_⟩
 ·injection h' with _ h2;omega
 ·injection h' with h1 h2
  exact ⟨h2,g,h1,hb,(World.ownsRow.lt h g (by rw [h1];rfl)).2⟩
theorem ownH.cell {w:World} {base g n c:Nat} {l:List CH} (h:ownH w base (.slice (some ⟨g,0,none⟩) n c) l) (hn:n=l.length) {k:Nat} (hk:k < l.length) :
  w.cell? ⟨g,k * 2,none⟩=some ((fun x:CH=>Value.int .i64 (x.1:Int)) l[k])∧w.cell? ⟨g,k * 2+1,none⟩=some ((fun x:CH=>Value.slice x.2.1 x.2.2.1 x.2.2.2) l[k]):=by
 subst hn
 refine ⟨?_,?_⟩
 ·exact (World.ownsRow.cellAt h (k * 2) (by have:=hk;omega)).trans ((cH_get l k 0 hk (by omega)).trans rfl)
 ·exact (World.ownsRow.cellAt h (k * 2+1) (by have:=hk;omega)).trans ((cH_get l k 1 hk (by omega)).trans rfl)
theorem ownH.frozen {w:World} {base g n c:Nat} {l:List CH} (h:ownH w base (.slice (some ⟨g,0,none⟩) n c) l) (hn:n=l.length) (k:Nat) :
  w.frozen? ⟨g,k,none⟩=false:=by
 subst hn
 exact World.ownsRow.frozenAt h k
theorem ownH.store {w:World} {base g n c:Nat} {l:List CH} (h:ownH w base (.slice (some ⟨g,0,none⟩) n c) l) (hn:n=l.length) (k:Nat) (x:CH) (hk:k < l.length) :
  ownH ((w.setCell ⟨g,k * 2,none⟩ (Value.int .i64 (x.1:Int))).setCell ⟨g,k * 2+1,none⟩ (Value.slice x.2.1 x.2.2.1 x.2.2.2)) base (.slice (some ⟨g,0,none⟩) n c) (l.set k x):=by
 subst hn
 have h0:w.ownsRow base 79 2 (.slice (some ⟨g,0,none⟩) l.length c) l.length (cH l):=h
 have h1:=(World.ownsRow.stored h0 (k * 2) (Value.int .i64 (x.1:Int))).1
 have h2:=(World.ownsRow.stored h1 (k * 2+1) (Value.slice x.2.1 x.2.2.1 x.2.2.2)).1
 unfold ownH
 rw [List.length_set,cH_set l k x hk]
 exact h2
theorem ownH.rd {w:World} {base n c:Nat} {A:Option Addr} {l:List CH} (h:ownH w base (.slice A n c) l):RdH w w.heap.size A n l:=by
 obtain ⟨A4,c4,e5,hd4,_,_⟩:=h.form
 injection e5 with e1 e2 e3
 rw [e1,e2]
 exact hd4
/-- One element that lies in a block, whole. -/
theorem rd_oneH (w:World) (x:CH) (t:TypeId) (fr:Nat × Nat):RdH (w.alloc (.cells (eH x).toArray t fr)) (w.heap.size+1) (some ⟨w.heap.size,0,none⟩) 1 [x]:=by
 refine ⟨by rw [cH_length];rfl,fun _=>⟨_,_,rfl,by omega,fun j u hu=>?_⟩⟩
 rw [Nat.zero_add]
 have:=cell_of_row (w.alloc (.cells (eH x).toArray t fr)) w.heap.size j (eH x).toArray t fr (heap_alloc_new w _)
 rw [this]
 rw [cH_single] at hu
 simpa using hu
set_option maxRecDepth 100000 in
theorem run_appendH (w:World) (base:Nat) (t2:TypeId) (v:Value) (l:List CH) (hown:ownH w base v l) (B m c:Nat) (A:Option Addr) (news:List CH) (hr:RdH w B A m news)
  (hb:l.length+m≤1099511627776) (hbase:base≤w.heap.size) :
  ∃ v' w',(Builtin.append_ #[59,59] t2 #[v,.slice A m c]).run Try.prog w=.ok v' w'∧ownH w' base v' (l ++ news)∧w.grownBy w' v.ownBlock ∧
   (v'.ownBlock=v.ownBlock∨v'.ownBlock=some w.heap.size)∧(v'=.slice none 0 0 ↔ v=.slice none 0 0∧m=0):=by
 obtain ⟨i0,hi,hz0,hz1,hz2⟩:=info_parts Try.info_H
 have hl:=hr.len
 subst hl
 unfold ownH
 rw [List.length_append,cH_append]
 rcases A with _ | ad
 ·have hn:news=[]:=by
   rcases Nat.eq_zero_or_pos news.length with h0 | h0
   ·exact List.eq_nil_of_length_eq_zero h0
   ·obtain ⟨b,o,h,_⟩:=hr.2 h0
    cases h
  subst hn
  refine ⟨v,w,?_,by simpa [cH,ownH] using hown,World.grownBy.refl w _,.inl rfl,by simp⟩
  rcases hown.2 with ⟨rfl,h0⟩ | ⟨g,cap,cur,rfl,_,_,hnc,_⟩
  ·simp [Builtin.append_,run_underlying Try.underlying59,sizeOf,typeInfo,hi,Builtin.lenOf,Builtin.firstCells]
  ·simp [Builtin.append_,run_underlying Try.underlying59,sizeOf,typeInfo,hi,Builtin.lenOf,Builtin.firstCells,hnc,storeCells]
 ·have hcells:∀ j u,(cH news)[j]?=some u→w.cell? (ad.add j)=some u:=by
   intro j u hu
   rcases Nat.eq_zero_or_pos news.length with h0 | h0
   ·have hn:news=[]:=List.eq_nil_of_length_eq_zero h0
    subst hn
    simp [cH] at hu
   ·obtain ⟨b,o,h,_,hc⟩:=hr.2 h0
    injection h with h
    subst h
    rw [add_none]
    exact hc j u hu
  obtain ⟨v',w',hrun,h2,h3,h4,h5⟩:=run_append_own_at (P:=Try.prog) w base 59 t2 79 i0 _ 2 32 Try.underlying59 hi hz0 hz1 hz2 rfl (by omega) v l.length (cH l) hown ad news.length c (cH news) (by rw [cH_length]) hcells (cH_one _) (by unfold maxLen;omega) (by omega) hbase
  exact ⟨v',w',hrun,h2,h3,h5,h4⟩
/-- append(v, x...): v the call's own, x whatever. -/
theorem wpList_appendH {w:World} {ops:Array Oper} {rest:List Oper} {o:Oper} {a:Act} {Q:Exit→Act→World→Prop} (hgd:o.guard=none) (s x:Operand)
  (ho:o.op=.call { callee:=.builtin .append,args:=#[s,x],argTypes:=#[59,59] })
  (base:Nat) (v:Value) (l:List CH) (hs:a.eval s=v) (hown:ownH w base v l) (B m c:Nat) (A:Option Addr) (news:List CH) (hx:a.eval x=.slice A m c) (hr:RdH w B A m news)
  (hb:l.length+m≤1099511627776) (hbase:base≤w.heap.size)
  (h:∀ v' w',ownH w' base v' (l ++ news)→w.grownBy w' v.ownBlock→Below base w w'→(v'.ownBlock=v.ownBlock∨v'.ownBlock=some w.heap.size)→wpList Try.prog ops Q rest (a.put o.dst v') w') :
  wpList Try.prog ops Q (o :: rest) a w:=by
 refine wpList_plain hgd fun K hK=>?_
 obtain ⟨v',w',hrun,h2,h3,h4,_⟩:=run_appendH w base o.type v l hown B m c A news hr hb hbase
 unfold Oper.wp execOp
 simp only [ho,resolve,invoke,builtin,Sem.run_bind,Sem.run_pure,Result.andThen_ok,List.map_toArray,List.map_cons,List.map_nil,hs,hx,hrun]
 exact hK _ _ (h v' w' h2 h3 ((Below.refl _ _).grown h3 hbase (fun k hk=>(World.ownsRow.lt hown k hk).1)) h4)
/-- append of bytes as a step of a region that draws its order. -/
theorem step_appendH {w:World} {ops:Array Oper} {o:Oper} {a:Act} {K:Act→World→Prop} {Q:Exit→Act→World→Prop} {E:Prop} (hgd:o.guard=none) (s x:Operand)
  (ho:o.op=.call { callee:=.builtin .append,args:=#[s,x],argTypes:=#[59,59] })
  (base:Nat) (v:Value) (bs:List CH) (hs:a.eval s=v) (hown:ownH w base v bs) (B m c:Nat) (A:Option Addr) (news:List CH) (hx:a.eval x=.slice A m c) (hr:RdH w B A m news)
  (hb:bs.length+m≤1099511627776) (hbase:base≤w.heap.size)
  (h:∀ v' w',ownH w' base v' (bs ++ news)→w.grownBy w' v.ownBlock→Below base w w'→(v'.ownBlock=v.ownBlock∨v'.ownBlock=some w.heap.size)→K (a.put o.dst v') w') :
  if Region.wanted o (yielded ops a.tmps)=true then Oper.wp Try.prog o a w K Q else E:=by
 have hw:Region.wanted o (yielded ops a.tmps)=true:=by simp [Region.wanted,hgd]
 rw [if_pos hw]
 obtain ⟨v',w',hrun,h2,h3,h4,_⟩:=run_appendH w base o.type v bs hown B m c A news hr hb hbase
 unfold Oper.wp execOp
 simp only [ho,resolve,invoke,builtin,Sem.run_bind,Sem.run_pure,Result.andThen_ok,List.map_toArray,List.map_cons,List.map_nil,hs,hx,hrun]
 exact h v' w' h2 h3 ((Below.refl _ _).grown h3 hbase (fun k hk=>(World.ownsRow.lt hown k hk).1)) h4
end Go.Proofs.Ytdoanopeejeeiaa

