/- XRowY -/
import Derived.Test.YtdoanopeejeeiaaMk20
namespace Go.Proofs.Ytdoanopeejeeiaa
set_option linter.all false
open Go.RowKit
/-- The cells of a list. -/
def cY (l:List SL):List Value:=l.map fun x=>Value.slice x.1 x.2.1 x.2.2
theorem cY_length (l:List SL):(cY l).length=l.length:=by simp [cY]
theorem cY_append (a b:List SL):cY (a ++ b)=cY a ++ cY b:=by simp [cY]
theorem cY_get {l:List SL} {k:Nat} (h:k < l.length):(cY l)[k]?=some ((fun x:SL=>Value.slice x.1 x.2.1 x.2.2) l[k]):=by simp [cY,h]
theorem cY_one (l:List SL):∀ u ∈ cY l,u.oneCell'=true:=by
 intro u hu
 simp only [cY,List.mem_map] at hu
 obtain ⟨b,_,rfl⟩:=hu
 rfl
theorem Try.info_Y:(Try.prog.info? 36).map (fun i=>(i.zero,i.size,i.bytes))=some (some (Value.slice none 0 0),1,24):=by kernel_rfl
def ownY (w:World) (base:Nat) (v:Value) (l:List SL):Prop:=w.ownsRow base 36 1 v l.length (cY l)
def RdY (w:World) (B:Nat) (A:Option Addr) (n:Nat) (l:List SL):Prop:=Rd w B 1 A n (cY l)
theorem RdY.len {w:World} {B n:Nat} {A:Option Addr} {l:List SL} (h:RdY w B A n l):l.length=n:=by
 have:=h.1;rw [cY_length] at this;omega
theorem RdY.at_ {w:World} {B n:Nat} {A:Option Addr} {l:List SL} (h:RdY w B A n l) (hn:0 < n) :
  ∃ b o,A=some ⟨b,o,none⟩∧b < B∧∀ j (hj:j < l.length),w.cell? ⟨b,o+j,none⟩=some ((fun x:SL=>Value.slice x.1 x.2.1 x.2.2) l[j]):=by
 obtain ⟨b,o,e,hb,hc⟩:=h.2 hn
 exact ⟨b,o,e,hb,fun j hj=>hc j _ (cY_get hj)⟩
theorem RdY.one {w:World} {B n:Nat} {A:Option Addr} {l:List SL} (h:RdY w B A n l) {k:Nat} (hk:k < n) :
  ∃ b o x,A=some ⟨b,o,none⟩∧b < B∧Hid (l[k]?=some x)∧w.cell? ⟨b,o+k,none⟩=some (Value.slice x.1 x.2.1 x.2.2):=by
 obtain ⟨b,o,e,hb,hc⟩:=h.at_ (by omega)
 have hl:=h.len
 exact ⟨b,o,l[k],e,hb,List.getElem?_eq_getElem (by omega),hc k (by omega)⟩
theorem RdY.blw {w w':World} {B n:Nat} {A:Option Addr} {l:List SL} (h:RdY w B A n l) (hb:Below B w w'):RdY w' B A n l:=Rd.below h hb
theorem RdY.more {w:World} {B B' n:Nat} {A:Option Addr} {l:List SL} (h:RdY w B A n l) (hB:B≤B'):RdY w B' A n l:=Rd.more h hB
theorem RdY.here {w:World} {B n:Nat} {A:Option Addr} {l:List SL} (h:RdY w B A n l):RdY w w.heap.size A n l:=Rd.here h
theorem RdY.later {w w':World} {n:Nat} {A:Option Addr} {l:List SL} (h:RdY w w.heap.size A n l) (hb:Below w.heap.size w w'):RdY w' w'.heap.size A n l:=Rd.here (Rd.below h hb)
theorem RdY.alloc {w:World} {B n:Nat} {A:Option Addr} {l:List SL} (h:RdY w B A n l) (hB:B≤w.heap.size) (o:Obj):RdY (w.alloc o) B A n l:=Rd.alloc h hB o
theorem RdY.nil_ {w:World} {B:Nat} {A:Option Addr}:RdY w B A 0 []:=⟨by simp [cY],fun h=>absurd h (by omega)⟩
theorem RdY.cut {w:World} {B n:Nat} {A:Option Addr} {l:List SL} (h:RdY w B A n l) {k m:Nat} (hk:k+m≤n) {A':Option Addr} (hA:0 < m→A'=A.map (·.add k)) :
  RdY w B A' m ((l.drop k).take m):=by
 have:=Rd.cut h hk (A':=A') (by simpa using hA)
 unfold RdY
 simpa [cY,List.map_drop,List.map_take] using this
theorem ownY.nil_ (w:World) (base:Nat):ownY w base (.slice none 0 0) []:=World.ownsRow_nil _ _ _ _
theorem ownY.mono {w:World} {base base':Nat} {v:Value} {l:List SL} (h:ownY w base v l) (hb:base'≤base):ownY w base' v l:=by
 refine ⟨h.1,?_⟩
 rcases h.2 with hn | ⟨g,cap,cur,rfl,hbg,rest⟩
 ·exact .inl hn
 ·exact .inr ⟨g,cap,cur,rfl,by omega,rest⟩
theorem ownY.later {w w':World} {base:Nat} {v:Value} {l:List SL} (h:ownY w base v l) (hb:Below w.heap.size w w'):ownY w' base v l :=
 Below.ownsRow h hb (fun g hg=>(World.ownsRow.lt h g hg).2)
theorem ownY.alloc {w:World} {base:Nat} {v:Value} {l:List SL} (h:ownY w base v l) (o:Obj):ownY (w.alloc o) base v l:=World.ownsRow.alloc h o
theorem ownY.drew {w:World} {base:Nat} {v:Value} {l:List SL} (h:ownY w base v l):ownY w.drew base v l:=h
theorem ownY.form {w:World} {base:Nat} {v:Value} {l:List SL} (h:ownY w base v l) :
  ∃ A c,v=.slice A l.length c∧RdY w w.heap.size A l.length l∧l.length≤c∧c≤maxLen:=by
 rcases h.2 with ⟨rfl,h0⟩ | ⟨g,cap,cur,rfl,_,_,h1,h2,_⟩
 ·have:l=[]:=List.eq_nil_of_length_eq_zero h0
  subst this
  exact ⟨none,0,rfl,Rd.none_,by simp,by simp⟩
 ·exact ⟨_,_,rfl,Rd.of_own h,h1,h2⟩
theorem ownY.kept {w w':World} {base:Nat} {v:Value} {l:List SL} {row:Option Nat} (h:ownY w base v l) (hg:w.grownBy w' row) (hne:v.ownBlock=none∨v.ownBlock ≠ row):ownY w' base v l :=
 World.ownsRow.kept h hg hne
theorem ownY.far {w:World} {base g:Nat} {v:Value} {l:List SL} (h:ownY w base v l) (hg:v.ownBlock ≠ some g) (o:Nat) (u:Value) :
  ownY (w.setCell ⟨g,o,none⟩ u) base v l:=by
 refine ⟨h.1,?_⟩
 rcases h.2 with hn | ⟨g',cap,cur,rfl,hb,hgg,rest⟩
 ·exact .inl hn
 ·refine .inr ⟨g',cap,cur,rfl,hb,?_,rest⟩
  rw [Below.heap_setCell _ _ _ _ (by intro e;apply hg;simp [Value.ownBlock];exact e)]
  exact hgg
theorem ownY.ne {w:World} {base g:Nat} {v:Value} {l:List SL} (h:ownY w base v l) (hg:g < base):v.ownBlock ≠ some g:=by
 intro e
 have:=(World.ownsRow.lt h g e).1
 omega
theorem ownY.pos {w:World} {base n c:Nat} {A:Option Addr} {l:List SL} (h:ownY w base (.slice A n c) l) (hn:0 < n):n=l.length∧∃ g,A=some ⟨g,0,none⟩∧base≤g∧g < w.heap.size:=by
 rcases h.2 with ⟨h',_⟩ | ⟨g,cap,cur,h',hb,hg,_⟩
 ·injection h' with _ h2;omega
 ·injection h' with h1 h2
  exact ⟨h2,g,h1,hb,(World.ownsRow.lt h g (by rw [h1];rfl)).2⟩
theorem ownY.cell {w:World} {base g n c:Nat} {l:List SL} (h:ownY w base (.slice (some ⟨g,0,none⟩) n c) l) (hn:n=l.length) {k:Nat} (hk:k < l.length) :
  w.cell? ⟨g,k,none⟩=some ((fun x:SL=>Value.slice x.1 x.2.1 x.2.2) l[k]):=by
 subst hn
 rw [World.ownsRow.cellAt h k (by omega),cY_get hk]
theorem ownY.frozen {w:World} {base g n c:Nat} {l:List SL} (h:ownY w base (.slice (some ⟨g,0,none⟩) n c) l) (hn:n=l.length) (k:Nat) :
  w.frozen? ⟨g,k,none⟩=false:=by
 subst hn
 exact World.ownsRow.frozenAt h k
theorem ownY.store {w:World} {base g n c:Nat} {l:List SL} (h:ownY w base (.slice (some ⟨g,0,none⟩) n c) l) (hn:n=l.length) (k:Nat) (x:SL) :
  ownY (w.setCell ⟨g,k,none⟩ (Value.slice x.1 x.2.1 x.2.2)) base (.slice (some ⟨g,0,none⟩) n c) (l.set k x):=by
 subst hn
 have:=(World.ownsRow.stored h k (Value.slice x.1 x.2.1 x.2.2)).1
 unfold ownY
 rw [List.length_set]
 have e:cY (l.set k x)=(cY l).set k (Value.slice x.1 x.2.1 x.2.2):=by simp [cY,List.map_set]
 rwa [e]
theorem ownY.rd {w:World} {base n c:Nat} {A:Option Addr} {l:List SL} (h:ownY w base (.slice A n c) l):RdY w w.heap.size A n l:=by
 obtain ⟨A4,c4,e5,hd4,_,_⟩:=h.form
 injection e5 with e1 e2 e3
 rw [e1,e2]
 exact hd4
/-- A literal's own row. -/
theorem own_litY (w:World) (l:List SL) (hm:l.length≤1099511627776):ownY (w.alloc (.cells (cY l).toArray 36)) w.heap.size (.slice (some ⟨w.heap.size,0,none⟩) l.length l.length) l:=by
 have:=World.ownsRow_lit (base:=w.heap.size) (size:=1) (e:=36) w (cY l).toArray l.length (Nat.le_refl _) (by unfold maxLen;omega) (by simp [cY])
 exact this
theorem rd_litY (w:World) (t:TypeId) (fr:Nat × Nat) (l:List SL):RdY (w.alloc (.cells (cY l).toArray t fr)) (w.heap.size+1) (some ⟨w.heap.size,0,none⟩) l.length l:=by
 refine ⟨by simp [cY],fun _=>⟨_,_,rfl,by omega,fun j u hu=>?_⟩⟩
 rw [Nat.zero_add]
 have:=cell_of_row (w.alloc (.cells (cY l).toArray t fr)) w.heap.size j (cY l).toArray t fr (heap_alloc_new w _)
 rw [this]
 simpa using hu
theorem rd_oneY (w:World) (x:SL):RdY (w.alloc (.cells #[Value.slice x.1 x.2.1 x.2.2] 36)) (w.heap.size+1) (some ⟨w.heap.size,0,none⟩) 1 [x]:=rd_litY w 36 (0,0) [x]
set_option maxRecDepth 100000 in
theorem run_appendY (w:World) (base:Nat) (t2:TypeId) (v:Value) (l:List SL) (hown:ownY w base v l) (B m c:Nat) (A:Option Addr) (news:List SL) (hr:RdY w B A m news)
  (hb:l.length+m≤1099511627776) (hbase:base≤w.heap.size) :
  ∃ v' w',(Builtin.append_ #[33,33] t2 #[v,.slice A m c]).run Try.prog w=.ok v' w'∧ownY w' base v' (l ++ news)∧w.grownBy w' v.ownBlock ∧
   (v'.ownBlock=v.ownBlock∨v'.ownBlock=some w.heap.size)∧(v'=.slice none 0 0 ↔ v=.slice none 0 0∧m=0):=by
 obtain ⟨i0,hi,hz0,hz1,hz2⟩:=info_parts Try.info_Y
 have hl:=hr.len
 subst hl
 unfold ownY
 rw [List.length_append,cY_append]
 rcases A with _ | ad
 ·have hn:news=[]:=by
   rcases Nat.eq_zero_or_pos news.length with h0 | h0
   ·exact List.eq_nil_of_length_eq_zero h0
   ·obtain ⟨b,o,h,_⟩:=hr.2 h0
    cases h
  subst hn
  refine ⟨v,w,?_,by simpa [cY,ownY] using hown,World.grownBy.refl w _,.inl rfl,by simp⟩
  rcases hown.2 with ⟨rfl,h0⟩ | ⟨g,cap,cur,rfl,_,_,hnc,_⟩
  ·simp [Builtin.append_,run_underlying Try.underlying33,sizeOf,typeInfo,hi,Builtin.lenOf,Builtin.firstCells]
  ·simp [Builtin.append_,run_underlying Try.underlying33,sizeOf,typeInfo,hi,Builtin.lenOf,Builtin.firstCells,hnc,storeCells]
 ·have hcells:∀ j u,(cY news)[j]?=some u→w.cell? (ad.add j)=some u:=by
   intro j u hu
   rcases Nat.eq_zero_or_pos news.length with h0 | h0
   ·have hn:news=[]:=List.eq_nil_of_length_eq_zero h0
    subst hn
    simp [cY] at hu
   ·obtain ⟨b,o,h,_,hc⟩:=hr.2 h0
    injection h with h
    subst h
    rw [add_none]
    exact hc j u hu
  obtain ⟨v',w',hrun,h2,h3,h4,h5⟩:=run_append_own_at (P:=Try.prog) w base 33 t2 36 i0 _ 1 24 Try.underlying33 hi hz0 hz1 hz2 rfl (by omega) v l.length (cY l) hown ad news.length c (cY news) (by simp [cY]) hcells (cY_one _) (by unfold maxLen;omega) (by omega) hbase
  exact ⟨v',w',hrun,h2,h3,h5,h4⟩
/-- append(v, x...): v the call's own, x whatever. -/
theorem wpList_appendY {w:World} {ops:Array Oper} {rest:List Oper} {o:Oper} {a:Act} {Q:Exit→Act→World→Prop} (hgd:o.guard=none) (s x:Operand)
  (ho:o.op=.call { callee:=.builtin .append,args:=#[s,x],argTypes:=#[33,33] })
  (base:Nat) (v:Value) (l:List SL) (hs:a.eval s=v) (hown:ownY w base v l) (B m c:Nat) (A:Option Addr) (news:List SL) (hx:a.eval x=.slice A m c) (hr:RdY w B A m news)
  (hb:l.length+m≤1099511627776) (hbase:base≤w.heap.size)
  (h:∀ v' w',ownY w' base v' (l ++ news)→w.grownBy w' v.ownBlock→Below base w w'→(v'.ownBlock=v.ownBlock∨v'.ownBlock=some w.heap.size)→wpList Try.prog ops Q rest (a.put o.dst v') w') :
  wpList Try.prog ops Q (o :: rest) a w:=by
 refine wpList_plain hgd fun K hK=>?_
 obtain ⟨v',w',hrun,h2,h3,h4,_⟩:=run_appendY w base o.type v l hown B m c A news hr hb hbase
 unfold Oper.wp execOp
 simp only [ho,resolve,invoke,builtin,Sem.run_bind,Sem.run_pure,Result.andThen_ok,List.map_toArray,List.map_cons,List.map_nil,hs,hx,hrun]
 exact hK _ _ (h v' w' h2 h3 ((Below.refl _ _).grown h3 hbase (fun k hk=>(World.ownsRow.lt hown k hk).1)) h4)
end Go.Proofs.Ytdoanopeejeeiaa

