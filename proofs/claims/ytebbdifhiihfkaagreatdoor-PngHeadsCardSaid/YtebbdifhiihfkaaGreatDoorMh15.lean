/- XRowK XFl8 XFl9 -/
import Derived.Test.YtebbdifhiihfkaaGreatDoorMh01
import Derived.Test.YtebbdifhiihfkaaGreatDoorMh11
import Derived.Test.YtebbdifhiihfkaaGreatDoorMh14
namespace Go.Proofs.YtebbdifhiihfkaaGreatDoor
set_option linter.all false
open Go.RowKit
def eK (x:(Nat × Nat × Nat)):List Value:=[Value.int .i64 (x.1:Int),Value.int .i64 (x.2.1:Int),Value.int .i64 (x.2.2:Int)]
theorem eK_len (x:(Nat × Nat × Nat)):(eK x).length=3:=rfl
/-- The cells of a list. -/
def cK (l:List (Nat × Nat × Nat)):List Value:=l.flatMap eK
theorem cK_length:∀ l:List (Nat × Nat × Nat),(cK l).length=l.length * 3
 | []=>rfl
 | x :: l=>by
  have:=cK_length l
  unfold cK at this ⊢
  rw [List.flatMap_cons,List.length_append,this,eK_len,List.length_cons]
  omega
theorem cK_append (a b:List (Nat × Nat × Nat)):cK (a ++ b)=cK a ++ cK b:=by simp [cK]
theorem cK_single (x:(Nat × Nat × Nat)):cK [x]=eK x:=by simp [cK]
theorem cK_get:∀ (l:List (Nat × Nat × Nat)) (k j:Nat) (hk:k < l.length),j < 3→(cK l)[k * 3+j]?=(eK l[k])[j]?
 | x :: l,0,j,_,hj=>by
  unfold cK
  rw [List.flatMap_cons,List.getElem?_append_left (by rw [eK_len];omega)]
  simp
 | x :: l,i+1,j,hi,hj=>by
  have:=cK_get l i j (by simpa using hi) hj
  unfold cK at this ⊢
  rw [List.flatMap_cons,List.getElem?_append_right (by rw [eK_len];omega),eK_len,List.getElem_cons_succ,← this]
  congr 1
  omega
theorem cK_one (l:List (Nat × Nat × Nat)):∀ u ∈ cK l,u.oneCell'=true:=by
 intro u hu
 simp only [cK,List.mem_flatMap] at hu
 obtain ⟨x,_,hx⟩:=hu
 simp only [eK,List.mem_cons,List.not_mem_nil,or_false] at hx
 rcases hx with rfl | rfl | rfl <;> rfl
theorem cK_set (l:List (Nat × Nat × Nat)) (k:Nat) (x:(Nat × Nat × Nat)) (hk:k < l.length):cK (l.set k x)=(((cK l).set (k * 3) (Value.int .i64 (x.1:Int))).set (k * 3+1) (Value.int .i64 (x.2.1:Int))).set (k * 3+2) (Value.int .i64 (x.2.2:Int)):=by
 have e1:l=l.take k ++ l[k] :: l.drop (k+1):=by rw [← List.drop_eq_getElem_cons hk,List.take_append_drop]
 have e2:l.set k x=l.take k ++ x :: l.drop (k+1):=by rw [List.set_eq_take_append_cons_drop,if_pos hk]
 rw [e2]
 have hl:(cK (l.take k)).length=k * 3:=by rw [cK_length,List.length_take,Nat.min_eq_left (by omega)]
 have e3:cK l=cK (l.take k) ++ (eK l[k] ++ cK (l.drop (k+1))):=by
  conv=>lhs;rw [e1]
  rw [cK_append]
  simp only [cK,List.flatMap_cons]
 have e4:cK (l.take k ++ x :: l.drop (k+1))=cK (l.take k) ++ (eK x ++ cK (l.drop (k+1))):=by
  rw [cK_append]
  simp only [cK,List.flatMap_cons]
 rw [e3,e4]
 generalize cK (l.take k)=P at *
 rw [← hl]
 simp [eK,List.set_append]
theorem Tryz.info_K:(Tryz.prog.info? 184).map (fun i=>(i.zero,i.size,i.bytes))=some (some (.agg #[.int .i64 0,.int .i64 0,.int .i64 0]),3,24):=by kernel_rfl
def ownK (w:World) (base:Nat) (v:Value) (l:List (Nat × Nat × Nat)):Prop:=w.ownsRow base 184 3 v l.length (cK l)
def RdK (w:World) (B:Nat) (A:Option Addr) (n:Nat) (l:List (Nat × Nat × Nat)):Prop:=Rd w B 3 A n (cK l)
theorem RdK.len {w:World} {B n:Nat} {A:Option Addr} {l:List (Nat × Nat × Nat)} (h:RdK w B A n l):l.length=n:=by
 have:=h.1;rw [cK_length] at this;omega
theorem RdK.one {w:World} {B n:Nat} {A:Option Addr} {l:List (Nat × Nat × Nat)} (h:RdK w B A n l) {k:Nat} (hk:k < n) :
  ∃ b o x,A=some ⟨b,o,none⟩∧b < B∧Hid (l[k]?=some x)∧w.cell? ⟨b,o+k * 3,none⟩=some (Value.int .i64 (x.1:Int))∧w.cell? ⟨b,o+k * 3+1,none⟩=some (Value.int .i64 (x.2.1:Int))∧w.cell? ⟨b,o+k * 3+2,none⟩=some (Value.int .i64 (x.2.2:Int)):=by
 obtain ⟨b,o,e,hb,hc⟩:=h.2 (by omega)
 have hl:=h.len
 have hk':k < l.length:=by omega
 refine ⟨b,o,l[k],e,hb,List.getElem?_eq_getElem hk',?_,?_,?_⟩
 ·exact hc (k * 3) _ ((cK_get l k 0 hk' (by omega)).trans rfl)
 ·exact hc (k * 3+1) _ ((cK_get l k 1 hk' (by omega)).trans rfl)
 ·exact hc (k * 3+2) _ ((cK_get l k 2 hk' (by omega)).trans rfl)
theorem RdK.blw {w w':World} {B n:Nat} {A:Option Addr} {l:List (Nat × Nat × Nat)} (h:RdK w B A n l) (hb:Below B w w'):RdK w' B A n l:=Rd.below h hb
theorem RdK.more {w:World} {B B' n:Nat} {A:Option Addr} {l:List (Nat × Nat × Nat)} (h:RdK w B A n l) (hB:B≤B'):RdK w B' A n l:=Rd.more h hB
theorem RdK.here {w:World} {B n:Nat} {A:Option Addr} {l:List (Nat × Nat × Nat)} (h:RdK w B A n l):RdK w w.heap.size A n l :=
 ⟨h.1,fun hn=>by
  obtain ⟨b,o,e,hb,hc⟩:=h.2 hn
  have hl:=h.1
  exact ⟨b,o,e,block_lt_of_cell (a:=⟨b,o+0,none⟩) (hc 0 (cK l)[0] (List.getElem?_eq_getElem (by omega))),hc⟩⟩
theorem RdK.later {w w':World} {n:Nat} {A:Option Addr} {l:List (Nat × Nat × Nat)} (h:RdK w w.heap.size A n l) (hb:Below w.heap.size w w'):RdK w' w'.heap.size A n l:=RdK.here (RdK.blw h hb)
theorem RdK.alloc {w:World} {B n:Nat} {A:Option Addr} {l:List (Nat × Nat × Nat)} (h:RdK w B A n l) (hB:B≤w.heap.size) (o:Obj):RdK (w.alloc o) B A n l:=Rd.alloc h hB o
theorem RdK.nil_ {w:World} {B:Nat} {A:Option Addr}:RdK w B A 0 []:=⟨by simp [cK],fun h=>absurd h (by omega)⟩
theorem RdK.cut {w:World} {B n:Nat} {A:Option Addr} {l:List (Nat × Nat × Nat)} (h:RdK w B A n l) {k m:Nat} (hk:k+m≤n) {A':Option Addr} (hA:0 < m→A'=A.map (·.add (k * 3))) :
  RdK w B A' m ((l.drop k).take m):=by
 have:=Rd.cut h hk (A':=A') hA
 unfold RdK
 have e1:∀ (q:Nat) (l:List (Nat × Nat × Nat)),cK (l.take q)=(cK l).take (q * 3):=fun q l=>by
  rcases Nat.lt_or_ge q l.length with hq | hq
  ·conv=>rhs;rw [← List.take_append_drop q l,cK_append]
   rw [List.take_left' (by rw [cK_length,List.length_take,Nat.min_eq_left (by omega)])]
  ·rw [List.take_of_length_le hq,List.take_of_length_le (by rw [cK_length];exact Nat.mul_le_mul_right _ hq)]
 have e2:∀ (q:Nat) (l:List (Nat × Nat × Nat)),cK (l.drop q)=(cK l).drop (q * 3):=fun q l=>by
  rcases Nat.lt_or_ge q l.length with hq | hq
  ·conv=>rhs;rw [← List.take_append_drop q l,cK_append]
   rw [List.drop_left' (by rw [cK_length,List.length_take,Nat.min_eq_left (by omega)])]
  ·rw [List.drop_eq_nil_of_le hq,List.drop_eq_nil_of_le (by rw [cK_length];exact Nat.mul_le_mul_right _ hq)]
   rfl
 rw [e1,e2]
 exact this
theorem ownK.nil_ (w:World) (base:Nat):ownK w base (.slice none 0 0) []:=World.ownsRow_nil _ _ _ _
theorem ownK.mono {w:World} {base base':Nat} {v:Value} {l:List (Nat × Nat × Nat)} (h:ownK w base v l) (hb:base'≤base):ownK w base' v l:=by
 refine ⟨h.1,?_⟩
 rcases h.2 with hn | ⟨g,cap,cur,rfl,hbg,rest⟩
 ·exact .inl hn
 ·exact .inr ⟨g,cap,cur,rfl,by omega,rest⟩
theorem ownK.later {w w':World} {base:Nat} {v:Value} {l:List (Nat × Nat × Nat)} (h:ownK w base v l) (hb:Below w.heap.size w w'):ownK w' base v l :=
 Below.ownsRow h hb (fun g hg=>(World.ownsRow.lt h g hg).2)
theorem ownK.alloc {w:World} {base:Nat} {v:Value} {l:List (Nat × Nat × Nat)} (h:ownK w base v l) (o:Obj):ownK (w.alloc o) base v l:=World.ownsRow.alloc h o
theorem ownK.drew {w:World} {base:Nat} {v:Value} {l:List (Nat × Nat × Nat)} (h:ownK w base v l):ownK w.drew base v l:=h
theorem ownK.drewN {w:World} {base:Nat} {v:Value} {l:List (Nat × Nat × Nat)} (h:ownK w base v l) (n:Nat):ownK (w.drewN n) base v l:=h
theorem ownK.form {w:World} {base:Nat} {v:Value} {l:List (Nat × Nat × Nat)} (h:ownK w base v l) :
  ∃ A c,v=.slice A l.length c∧RdK w w.heap.size A l.length l∧l.length≤c∧c≤maxLen:=by
 rcases h.2 with ⟨rfl,h0⟩ | ⟨g,cap,cur,rfl,_,_,h1,h2,_⟩
 ·have:l=[]:=List.eq_nil_of_length_eq_zero h0
  subst this
  exact ⟨none,0,rfl,Rd.none_,by simp,by simp⟩
 ·exact ⟨_,_,rfl,Rd.of_own h,h1,h2⟩
theorem ownK.kept {w w':World} {base:Nat} {v:Value} {l:List (Nat × Nat × Nat)} {row:Option Nat} (h:ownK w base v l) (hg:w.grownBy w' row) (hne:v.ownBlock=none∨v.ownBlock ≠ row):ownK w' base v l :=
 World.ownsRow.kept h hg hne
theorem ownK.far {w:World} {base g:Nat} {v:Value} {l:List (Nat × Nat × Nat)} (h:ownK w base v l) (hg:v.ownBlock ≠ some g) (o:Nat) (u:Value) :
  ownK (w.setCell ⟨g,o,none⟩ u) base v l:=by
 refine ⟨h.1,?_⟩
 rcases h.2 with hn | ⟨g',cap,cur,rfl,hb,hgg,rest⟩
 ·exact .inl hn
 ·refine .inr ⟨g',cap,cur,rfl,hb,?_,rest⟩
  rw [Below.heap_setCell _ _ _ _ (by intro e;apply hg;simp [Value.ownBlock];exact e)]
  exact hgg
theorem ownK.ne {w:World} {base g:Nat} {v:Value} {l:List (Nat × Nat × Nat)} (h:ownK w base v l) (hg:g < base):v.ownBlock ≠ some g:=by
 intro e
 have:=(World.ownsRow.lt h g e).1
 omega
theorem ownK.pos {w:World} {base n c:Nat} {A:Option Addr} {l:List (Nat × Nat × Nat)} (h:ownK w base (.slice A n c) l) (hn:0 < n):n=l.length∧∃ g,A=some ⟨g,0,none⟩∧base≤g∧g < w.heap.size:=by
 rcases h.2 with ⟨h',_⟩ | ⟨g,cap,cur,h',hb,hg,_⟩
 ·injection h' with _ h2;omega
 ·injection h' with h1 h2
  exact ⟨h2,g,h1,hb,(World.ownsRow.lt h g (by rw [h1];rfl)).2⟩
theorem ownK.cell {w:World} {base g n c:Nat} {l:List (Nat × Nat × Nat)} (h:ownK w base (.slice (some ⟨g,0,none⟩) n c) l) (hn:n=l.length) {k:Nat} (hk:k < l.length) :
  w.cell? ⟨g,k * 3,none⟩=some ((fun x:(Nat × Nat × Nat)=>Value.int .i64 (x.1:Int)) l[k])∧w.cell? ⟨g,k * 3+1,none⟩=some ((fun x:(Nat × Nat × Nat)=>Value.int .i64 (x.2.1:Int)) l[k])∧w.cell? ⟨g,k * 3+2,none⟩=some ((fun x:(Nat × Nat × Nat)=>Value.int .i64 (x.2.2:Int)) l[k]):=by
 subst hn
 refine ⟨?_,?_,?_⟩
 ·exact (World.ownsRow.cellAt h (k * 3) (by have:=hk;omega)).trans ((cK_get l k 0 hk (by omega)).trans rfl)
 ·exact (World.ownsRow.cellAt h (k * 3+1) (by have:=hk;omega)).trans ((cK_get l k 1 hk (by omega)).trans rfl)
 ·exact (World.ownsRow.cellAt h (k * 3+2) (by have:=hk;omega)).trans ((cK_get l k 2 hk (by omega)).trans rfl)
theorem ownK.frozen {w:World} {base g n c:Nat} {l:List (Nat × Nat × Nat)} (h:ownK w base (.slice (some ⟨g,0,none⟩) n c) l) (hn:n=l.length) (k:Nat) :
  w.frozen? ⟨g,k,none⟩=false:=by
 subst hn
 exact World.ownsRow.frozenAt h k
theorem ownK.store {w:World} {base g n c:Nat} {l:List (Nat × Nat × Nat)} (h:ownK w base (.slice (some ⟨g,0,none⟩) n c) l) (hn:n=l.length) (k:Nat) (x:(Nat × Nat × Nat)) (hk:k < l.length) :
  ownK (((w.setCell ⟨g,k * 3,none⟩ (Value.int .i64 (x.1:Int))).setCell ⟨g,k * 3+1,none⟩ (Value.int .i64 (x.2.1:Int))).setCell ⟨g,k * 3+2,none⟩ (Value.int .i64 (x.2.2:Int))) base (.slice (some ⟨g,0,none⟩) n c) (l.set k x):=by
 subst hn
 have h0:w.ownsRow base 184 3 (.slice (some ⟨g,0,none⟩) l.length c) l.length (cK l):=h
 have h1:=(World.ownsRow.stored h0 (k * 3) (Value.int .i64 (x.1:Int))).1
 have h2:=(World.ownsRow.stored h1 (k * 3+1) (Value.int .i64 (x.2.1:Int))).1
 have h3:=(World.ownsRow.stored h2 (k * 3+2) (Value.int .i64 (x.2.2:Int))).1
 unfold ownK
 rw [List.length_set,cK_set l k x hk]
 exact h3
theorem ownK.rd {w:World} {base n c:Nat} {A:Option Addr} {l:List (Nat × Nat × Nat)} (h:ownK w base (.slice A n c) l):RdK w w.heap.size A n l:=by
 obtain ⟨A4,c4,e5,hd4,_,_⟩:=h.form
 injection e5 with e1 e2 e3
 rw [e1,e2]
 exact hd4
/-- One element that lies in a block, whole. -/
theorem rd_oneK (w:World) (x:(Nat × Nat × Nat)) (t:TypeId) (fr:Nat × Nat):RdK (w.alloc (.cells (eK x).toArray t fr)) (w.heap.size+1) (some ⟨w.heap.size,0,none⟩) 1 [x]:=by
 refine ⟨by rw [cK_length];rfl,fun _=>⟨_,_,rfl,by omega,fun j u hu=>?_⟩⟩
 rw [Nat.zero_add]
 have:=cell_of_row (w.alloc (.cells (eK x).toArray t fr)) w.heap.size j (eK x).toArray t fr (heap_alloc_new w _)
 rw [this]
 rw [cK_single] at hu
 simpa using hu
set_option maxRecDepth 100000 in
theorem run_appendK (w:World) (base:Nat) (t2:TypeId) (v:Value) (l:List (Nat × Nat × Nat)) (hown:ownK w base v l) (B m c:Nat) (A:Option Addr) (news:List (Nat × Nat × Nat)) (hr:RdK w B A m news)
  (hb:l.length+m≤1099511627776) (hbase:base≤w.heap.size) :
  ∃ v' w',(Builtin.append_ #[148,148] t2 #[v,.slice A m c]).run Tryz.prog w=.ok v' w'∧ownK w' base v' (l ++ news)∧w.grownBy w' v.ownBlock ∧
   (v'.ownBlock=v.ownBlock∨v'.ownBlock=some w.heap.size)∧(v'=.slice none 0 0 ↔ v=.slice none 0 0∧m=0):=by
 obtain ⟨i0,hi,hz0,hz1,hz2⟩:=info_parts Tryz.info_K
 have hl:=hr.len
 subst hl
 unfold ownK
 rw [List.length_append,cK_append]
 rcases A with _ | ad
 ·have hn:news=[]:=by
   rcases Nat.eq_zero_or_pos news.length with h0 | h0
   ·exact List.eq_nil_of_length_eq_zero h0
   ·obtain ⟨b,o,h,_⟩:=hr.2 h0
    cases h
  subst hn
  refine ⟨v,w,?_,by simpa [cK,ownK] using hown,World.grownBy.refl w _,.inl rfl,by simp⟩
  rcases hown.2 with ⟨rfl,h0⟩ | ⟨g,cap,cur,rfl,_,_,hnc,_⟩
  ·simp [Builtin.append_,run_underlying Tryz.underlying148,sizeOf,typeInfo,hi,Builtin.lenOf,Builtin.firstCells]
  ·simp [Builtin.append_,run_underlying Tryz.underlying148,sizeOf,typeInfo,hi,Builtin.lenOf,Builtin.firstCells,hnc,storeCells]
 ·have hcells:∀ j u,(cK news)[j]?=some u→w.cell? (ad.add j)=some u:=by
   intro j u hu
   rcases Nat.eq_zero_or_pos news.length with h0 | h0
   ·have hn:news=[]:=List.eq_nil_of_length_eq_zero h0
    subst hn
    simp [cK] at hu
   ·obtain ⟨b,o,h,_,hc⟩:=hr.2 h0
    injection h with h
    subst h
    rw [add_none]
    exact hc j u hu
  obtain ⟨v',w',hrun,h2,h3,h4,h5⟩:=run_append_own_at (P:=Tryz.prog) w base 148 t2 184 i0 _ 3 24 Tryz.underlying148 hi hz0 hz1 hz2 rfl (by omega) v l.length (cK l) hown ad news.length c (cK news) (by rw [cK_length]) hcells (cK_one _) (by unfold maxLen;omega) (by omega) hbase
  exact ⟨v',w',hrun,h2,h3,h5,h4⟩
/-- append(v, x...): v the call's own, x whatever. -/
theorem wpList_appendK {w:World} {ops:Array Oper} {rest:List Oper} {o:Oper} {a:Act} {Q:Exit→Act→World→Prop} (hgd:o.guard=none) (s x:Operand)
  (ho:o.op=.call { callee:=.builtin .append,args:=#[s,x],argTypes:=#[148,148] })
  (base:Nat) (v:Value) (l:List (Nat × Nat × Nat)) (hs:a.eval s=v) (hown:ownK w base v l) (B m c:Nat) (A:Option Addr) (news:List (Nat × Nat × Nat)) (hx:a.eval x=.slice A m c) (hr:RdK w B A m news)
  (hb:l.length+m≤1099511627776) (hbase:base≤w.heap.size)
  (h:∀ v' w',ownK w' base v' (l ++ news)→w.grownBy w' v.ownBlock→Below base w w'→(v'.ownBlock=v.ownBlock∨v'.ownBlock=some w.heap.size)→wpList Tryz.prog ops Q rest (a.put o.dst v') w') :
  wpList Tryz.prog ops Q (o :: rest) a w:=by
 refine wpList_plain hgd fun K hK=>?_
 obtain ⟨v',w',hrun,h2,h3,h4,_⟩:=run_appendK w base o.type v l hown B m c A news hr hb hbase
 unfold Oper.wp execOp
 simp only [ho,resolve,invoke,builtin,Sem.run_bind,Sem.run_pure,Result.andThen_ok,List.map_toArray,List.map_cons,List.map_nil,hs,hx,hrun]
 exact hK _ _ (h v' w' h2 h3 ((Below.refl _ _).grown h3 hbase (fun k hk=>(World.ownsRow.lt hown k hk).1)) h4)
end Go.Proofs.YtebbdifhiihfkaaGreatDoor

/- flate: zeros at a list's end cut away; how often each symbol stands. -/
namespace Go.Proofs.YtebbdifhiihfkaaGreatDoor
set_option linter.all false
open Go.RowKit
/-- How many stay of k when zeros at the end are cut away. -/
def cutK (ls:List Int) (least:Nat):Nat→Nat
 | 0=>0
 | k+1=>if least < k+1∧ls.getD k 0=0 then cutK ls least k else k+1
def cutL (ls:List Int) (least:Nat):List Int:=ls.take (cutK ls least ls.length)
theorem cutK_le (ls:List Int) (least:Nat):∀ k,cutK ls least k≤k
 | 0=>Nat.le_refl _
 | k+1=>by
  have:=cutK_le ls least k
  unfold cutK
  split <;> omega
theorem cutK_ge (ls:List Int) (least:Nat):∀ k,least≤k→least≤cutK ls least k
 | 0,h=>h
 | k+1,h=>by
  unfold cutK
  split
  ·rename_i e;exact cutK_ge ls least k (by omega)
  ·exact h
theorem cutK_on {ls:List Int} {least k:Nat} {x:Int} (h:least < k+1) (hx:ls[k]?=some x) (h0:x=0):cutK ls least (k+1)=cutK ls least k:=by
 have:least < k+1∧ls.getD k 0=0:=⟨h,by rw [List.getD_eq_getElem?_getD,hx];exact h0⟩
 exact if_pos this
theorem cutK_off {ls:List Int} {least k:Nat} {x:Int} (hx:ls[k]?=some x) (h0:¬ x=0):cutK ls least (k+1)=k+1 :=
 if_neg fun h=>h0 (by have:=h.2;rw [List.getD_eq_getElem?_getD,hx] at this;exact this)
theorem cutK_least {ls:List Int} {least k:Nat} (h:k≤least):cutK ls least k=k:=by
 cases k with
 | zero=>rfl
 | succ k=>exact if_neg fun e=>by omega
theorem cutL_len (ls:List Int) (least:Nat):(cutL ls least).length=cutK ls least ls.length:=by
 unfold cutL
 rw [List.length_take]
 have:=cutK_le ls least ls.length
 omega
def sliLen:Value→Nat
 | .slice _ k _=>k
 | _=>0
set_option maxRecDepth 100000 in
set_option maxHeartbeats 3200000 in
theorem cut_any (B n c:Nat) (A:Option Addr) (ls:List Int) (least:Nat) (w:World) (h:RdI w B A n ls) (hB:B≤w.heap.size) (hn:n≤1000) (hl9:least≤1000) (hc:n≤c) (hc9:c≤maxLen) :
  Calls Tryz.prog 154 #[.slice A n c,.int .i64 (least:Int)] w fun e w'=>e=.returned (.slice A (cutK ls least n) c)∧Below w.heap.size w w':=by
 have HR:=Lib.hid h
 have HC:=Lib.hid hc
 have hc7:c≤9223372036854775807:=by unfold maxLen at hc9;omega
 clear h hc9
 have HB0:=Lib.hid (Below.refl w.heap.size w)
 go_enter Tryz.func154,Tryz.ntmps154
 go_wp2_with fail
 go_loopw [0] (fun vl wr=>∃ k:Nat,k≤n∧vl=.slice A k c∧Hid (cutK ls least k=cutK ls least n)∧Hid (Below w.heap.size w wr)) (fun vl _=>sliLen vl)
 case atStart=>exact ⟨n,Nat.le_refl _,rfl,(show _=_ from rfl),HB0⟩
 case round =>
  clear HB0
  obtain ⟨k,hk,rfl,HE,HB1⟩:=hrel
  by_cases hlt:least < k
  ·have hlti:(least:Int) < (k:Int):=by omega
   obtain ⟨q,rfl⟩:∃ q,k=q+1:=⟨k - 1,by omega⟩
   have hqi:((q+1:Nat):Int) - 1=(q:Int):=by omega
   obtain ⟨b,o,x,rfl,hb,HX,e1⟩:=HR.out.one (show q < n by omega)
   have e1:=(HB1.out.cell (p:=⟨b,o+q,none⟩) (by show b < _;omega)).trans e1
   have hqc:q+1≤c:=by have:=HC.out;omega
   by_cases hx:x=0
   ·subst hx
    have d1:((0:Int) == 0)=true:=rfl
    have HE1:Hid (cutK ls least q=cutK ls least n):=(show _=_ by rw [← HE.out];exact (cutK_on hlt HX.out rfl).symm)
    obtain ⟨p,hp⟩:∃ p,q+1=p:=⟨_,rfl⟩
    rw [hp] at hqi hlti hqc
    simp only [hp]
    go_wp2_with fail
    go_roundw
    case rel=>exact ⟨q,by omega,rfl,HE1,HB1.out⟩
    case measure=>simp [sliLen];omega
   ·have d1:(x == 0)=false:=beq_eq_false_iff_ne.2 hx
    have HE1:Hid (q+1=cutK ls least n):=(show _=_ by rw [← HE.out];exact (cutK_off HX.out hx).symm)
    obtain ⟨p,hp⟩:∃ p,q+1=p:=⟨_,rfl⟩
    rw [hp] at hqi hlti hqc HE1
    simp only [hp]
    go_wp2_with fail
    go_ret
    exact ⟨by rw [← HE1.out];rfl,HB1.out⟩
  ·have hlti:¬ (least:Int) < (k:Int):=by omega
   have HE1:Hid (k=cutK ls least n):=(show _=_ by rw [← HE.out,cutK_least (by omega)])
   go_wp2_with fail
   go_ret
   exact ⟨by rw [← HE1.out];rfl,HB1.out⟩
end Go.Proofs.YtebbdifhiihfkaaGreatDoor

/- flate: how often each symbol stands. -/
namespace Go.Proofs.YtebbdifhiihfkaaGreatDoor
set_option linter.all false
open Go.RowKit
abbrev Tok:=Nat × Nat × Nat
/-- A byte, or a copy. -/
def TokOK (t:Tok):Prop:=(t.1=0∧t.2.2 < 256)∨(3≤t.1∧t.1≤258∧1≤t.2.1∧t.2.1≤32768)
def symT (t:Tok):Nat:=if t.1=0 then t.2.2 else 257+lenS t.1
def dstT (t:Tok):List Nat:=if t.1=0 then [] else [distS t.2.1]
def weighL (ts:List Tok):List Int:=bumps ((List.replicate 286 0).set 256 1) (ts.map symT)
def weighD (ts:List Tok):List Int:=bumps (List.replicate 30 0) (ts.flatMap dstT)
theorem symT_lt {t:Tok} (h:TokOK t):symT t < 286:=by
 unfold symT
 rcases h with ⟨h1,h2⟩ | ⟨h1,h2,_,_⟩
 ·rw [if_pos h1];omega
 ·rw [if_neg (by omega)]
  have:=(lenS_spec (x:=t.1) h1).1
  omega
theorem symV_at {y:Nat} (h:3≤y) (h2:y≤258):symV (y:Int)=(257+(lenS y:Int),((lenOf (lenS y)).2:Int),(y:Int) - ((lenOf (lenS y)).1:Int)):=by
 unfold symV
 rw [if_neg (by omega)]
 rfl
theorem dstV_at {y:Nat} (h:1≤y) (h2:y≤32768):dstV (y:Int)=((distS y:Int),((distOf (distS y)).2:Int),(y:Int) - ((distOf (distS y)).1:Int)):=by
 unfold dstV
 rw [if_neg (by omega)]
 rfl
theorem take_map_snoc {α:Type} {β:Type} (f:α→β) {l:List α} {k:Nat} {x:α} (h:l[k]?=some x):(l.take (k+1)).map f=(l.take k).map f ++ [f x]:=by
 obtain ⟨hk,hx⟩:=List.getElem?_eq_some_iff.1 h
 rw [List.take_succ_eq_append_getElem hk,hx]
 simp
theorem take_flat_snoc {α:Type} {β:Type} (f:α→List β) {l:List α} {k:Nat} {x:α} (h:l[k]?=some x):(l.take (k+1)).flatMap f=(l.take k).flatMap f ++ f x:=by
 obtain ⟨hk,hx⟩:=List.getElem?_eq_some_iff.1 h
 rw [List.take_succ_eq_append_getElem hk,hx]
 simp
theorem dstT_len (ts:List Tok):(ts.flatMap dstT).length≤ts.length:=by
 induction ts with
 | nil=>simp
 | cons t r ih =>
  rw [List.flatMap_cons,List.length_append,List.length_cons]
  have:(dstT t).length≤1:=by unfold dstT;split <;> simp
  omega
theorem w286_rng:∀ x ∈ ((List.replicate 286 (0:Int)).set 256 1),0≤x∧x≤1:=by
 intro x hx
 rcases List.mem_or_eq_of_mem_set hx with h | rfl
 ·rw [List.mem_replicate] at h;omega
 ·omega
theorem w30_rng:∀ x ∈ (List.replicate 30 (0:Int)),0≤x∧x≤1:=by
 intro x hx
 rw [List.mem_replicate] at hx
 omega
theorem weighL_len (ts:List Tok):(weighL ts).length=286:=by unfold weighL;rw [bumps_len,List.length_set,List.length_replicate]
theorem weighD_len (ts:List Tok):(weighD ts).length=30:=by unfold weighD;rw [bumps_len,List.length_replicate]
theorem weighL_rng (ts:List Tok):∀ x ∈ weighL ts,0≤x∧x≤1+ts.length:=by
 intro x hx
 have:=bumps_rng w286_rng (by omega) x hx
 rwa [List.length_map] at this
theorem weighD_rng (ts:List Tok):∀ x ∈ weighD ts,0≤x∧x≤1+ts.length:=by
 intro x hx
 have:=bumps_rng w30_rng (by omega) x hx
 have h2:=dstT_len ts
 omega
def zeroI (n:Nat):Obj:=.cells (madeCells (Value.int .i64 0).cells (n * 1)) 3
theorem run_makeI (w:World) (n:Nat) (hn:n≤1099511627776) :
  (Instr.makeSlice 120 (.int .i64 (n:Int)) (.int .i64 (n:Int))).run Tryz.prog w=.ok (.slice (some ⟨w.heap.size,0,none⟩) n n) (w.alloc (zeroI n)):=by
 obtain ⟨i0,hi,hz0,hz1,hz2⟩:=info_parts Tryz.info_I
 have hr:=run_make (P:=Tryz.prog) w 120 3 i0 _ Tryz.underlying120 hi hz0 .i64 .i64 n n (by omega) (Int.le_refl _) (by rw [hz2];omega) (by omega)
 simp only [Int.toNat_natCast,hz1] at hr
 exact hr
theorem own_zeroI (w:World) (n:Nat) (hn:n≤1099511627776):ownI (w.alloc (zeroI n)) w.heap.size (.slice (some ⟨w.heap.size,0,none⟩) n n) (List.replicate n 0):=by
 have h:=World.ownsRow_lit (base:=w.heap.size) (size:=1) (e:=3) w (madeCells (Value.int .i64 0).cells (n * 1)) n (Nat.le_refl _) (by unfold maxLen;omega) (size_madeCells _ _)
 unfold ownI
 rw [List.length_replicate]
 have e1:cI (List.replicate n (0:Int))=List.replicate n (Value.int .i64 0):=by simp [cI]
 rw [e1]
 have:(madeCells (Value.int .i64 0).cells (n * 1)).toList=List.replicate n (Value.int .i64 0):=by
  rw [Nat.mul_one];exact toList_madeCells_one _ _
 rwa [this] at h
theorem symbol_at (a s m r:Nat) (h:3≤a) (h2:a≤258) (hs:257+lenS a=s) (hm:(lenOf (lenS a)).2=m) (hr:a - (lenOf (lenS a)).1=r) (w:World):Calls Tryz.prog 150 #[.int .i64 (a:Int)] w fun e w'=>e=.returned (.tuple #[.int .i64 (s:Int),.int .i64 (m:Int),.int .i64 (r:Int)])∧w=w':=by
 refine (symbol_any (a:Int) w).mono ?_
 rintro e w' ⟨rfl,rfl⟩
 have:=(lenS_spec (x:=a) h).2.1
 rw [symV_at h h2]
 refine ⟨?_,rfl⟩
 rw [← hs,← hm,← hr,Int.natCast_sub this]
 rfl
theorem distance_at (a s m r:Nat) (h:1≤a) (h2:a≤32768) (hs:distS a=s) (hm:(distOf (distS a)).2=m) (hr:a - (distOf (distS a)).1=r) (w:World):Calls Tryz.prog 151 #[.int .i64 (a:Int)] w fun e w'=>e=.returned (.tuple #[.int .i64 (s:Int),.int .i64 (m:Int),.int .i64 (r:Int)])∧w=w':=by
 refine (distance_any (a:Int) w).mono ?_
 rintro e w' ⟨rfl,rfl⟩
 have:=(distS_spec (x:=a) h).2.1
 rw [dstV_at h h2]
 refine ⟨?_,rfl⟩
 rw [← hs,← hm,← hr,Int.natCast_sub this]
theorem bump_set {l:List Int} {p:Nat} {x:Int} (h:l[p]?=some x):bump l p=l.set p (x+1):=by
 unfold bump
 rw [List.getD_eq_getElem?_getD,h]
 rfl
theorem bumps_snoc (l:List Int) (ps:List Nat) (p:Nat):bumps l (ps ++ [p])=bump (bumps l ps) p:=by rw [bumps_append];rfl
set_option maxRecDepth 100000 in
set_option maxHeartbeats 3200000 in
theorem weigh_any (B n c:Nat) (A:Option Addr) (ts:List Tok) (w:World) (h:RdK w B A n ts) (hB:B≤w.heap.size) (hn:n≤50000) (hok:∀ t ∈ ts,TokOK t) :
  Calls Tryz.prog 152 #[.slice A n c] w fun e w'=>∃ ga gb,e=.returned (.tuple #[.slice (some ⟨ga,0,none⟩) 286 286,.slice (some ⟨gb,0,none⟩) 30 30])∧RdI w' w'.heap.size (some ⟨ga,0,none⟩) 286 (weighL ts)∧RdI w' w'.heap.size (some ⟨gb,0,none⟩) 30 (weighD ts)∧Below w.heap.size w w':=by
 have HR:=Lib.hid h
 have HOK:=Lib.hid hok
 have hl:=h.len
 have hm1:∀ w,(Instr.makeSlice 120 (.int .i64 286) (.int .i64 286)).run Tryz.prog w=.ok (.slice (some ⟨w.heap.size,0,none⟩) 286 286) (w.alloc (zeroI 286)):=fun w=>run_makeI w 286 (by omega)
 have hm2:∀ w,(Instr.makeSlice 120 (.int .i64 30) (.int .i64 30)).run Tryz.prog w=.ok (.slice (some ⟨w.heap.size,0,none⟩) 30 30) (w.alloc (zeroI 30)):=fun w=>run_makeI w 30 (by omega)
 clear h hok
 go_enter Tryz.func152,Tryz.ntmps152
 go_upto_region 1 with fail
 go_cut [4,5] (fun u v wc=>∃ ga gb,u=.slice (some ⟨ga,0,none⟩) 286 286∧v=.slice (some ⟨gb,0,none⟩) 30 30∧(ga ≠ gb∧w.heap.size≤ga∧w.heap.size≤gb∧ga < wc.heap.size∧gb < wc.heap.size)∧ownI wc w.heap.size (.slice (some ⟨ga,0,none⟩) 286 286) (List.replicate 286 0)∧ownI wc w.heap.size (.slice (some ⟨gb,0,none⟩) 30 30) (List.replicate 30 0)∧Below w.heap.size w wc)
 case first =>
  go_region
  all_goals
   go_wp2_with fail
   go_meet
   case rel =>
    first
     | exact ⟨w.heap.size,w.heap.size+1,rfl,rfl,⟨by omega,by omega,by omega,by simp;omega,by simp⟩,((own_zeroI w 286 (by omega)).alloc _).drew,(by have:=(own_zeroI (w.alloc (zeroI 286)) 30 (by omega)).mono (base':=w.heap.size) (by simp);simpa only [World.size_alloc] using this.drew),(((Below.refl w.heap.size w).alloc (Nat.le_refl _) _).alloc (by simp) _).drew⟩
     | exact ⟨w.heap.size+1,w.heap.size,rfl,rfl,⟨by omega,by omega,by omega,by simp,by simp;omega⟩,(by have:=(own_zeroI (w.alloc (zeroI 30)) 286 (by omega)).mono (base':=w.heap.size) (by simp);simpa only [World.size_alloc] using this.drew),((own_zeroI w 30 (by omega)).alloc _).drew,(((Below.refl w.heap.size w).alloc (Nat.le_refl _) _).alloc (by simp) _).drew⟩
 case rest =>
  clear hm1 hm2
  obtain ⟨ga,gb,rfl,rfl,⟨hgab,hga,hgb,hgaw,hgbw⟩,hoa,hob,hbw⟩:=hcut
  have c6:=hoa.cell (by rw [List.length_replicate]) (k:=256) (by rw [List.length_replicate];omega)
  have f6:=hoa.frozen (by rw [List.length_replicate]) 256
  have HOA:=Lib.hid (hoa.store (by rw [List.length_replicate]) 256 1)
  have HOB:=Lib.hid (hob.far (g:=ga) (by intro e;injection e with e;exact hgab e.symm) 256 (.int .i64 1))
  have HBW:=Lib.hid (hbw.setCell (p:=⟨ga,256,none⟩) hga (.int .i64 1))
  have hsz:(wc.setCell ⟨ga,256,none⟩ (.int .i64 1)).heap.size=wc.heap.size:=by simp
  clear hoa hob hbw
  go_wp2_with fail
  go_loopw [20] (fun vi wr=>∃ k:Nat,k≤n∧vi=.int .i64 k∧Hid (ownI wr w.heap.size (.slice (some ⟨ga,0,none⟩) 286 286) (bumps ((List.replicate 286 0).set 256 1) ((ts.take k).map symT)))∧Hid (ownI wr w.heap.size (.slice (some ⟨gb,0,none⟩) 30 30) (bumps (List.replicate 30 0) ((ts.take k).flatMap dstT)))∧Hid (Below w.heap.size w wr)∧ga < wr.heap.size∧gb < wr.heap.size) (fun vi _=>n - (intOf vi).toNat)
  case atStart=>exact ⟨0,Nat.zero_le _,rfl,HOA,HOB,HBW,by rw [hsz];exact hgaw,by rw [hsz];exact hgbw⟩
  case round =>
   clear HOA HOB HBW hsz hgaw hgbw
   obtain ⟨k,hk,rfl,HOA,HOB,HBW,hgaw,hgbw⟩:=hrel
   by_cases hlt:k < n
   ·have hlti:(k:Int) < (n:Int):=by omega
    obtain ⟨b,o,⟨a,d,y⟩,rfl,hb,HX,e1,e2,e3⟩:=(HR.out.blw (HBW.out.mono hB)).one hlt
    have hok:=HOK.out _ (List.mem_of_getElem? HX.out)
    have HLA:=Lib.hid (weighL_len (ts.take k))
    have HLB:=Lib.hid (weighD_len (ts.take k))
    have HRA:=Lib.hid (weighL_rng (ts.take k))
    have HRB:=Lib.hid (weighD_rng (ts.take k))
    have HTL:Hid ((ts.take k).length≤50000):=(show _≤_ by rw [List.length_take];omega)
    have HSA:Hid (bumps ((List.replicate 286 0).set 256 1) ((ts.take (k+1)).map symT)=bump (weighL (ts.take k)) (symT (a,d,y))):=(show _=_ by rw [take_map_snoc symT HX.out,bumps_snoc];rfl)
    have HSB:Hid (bumps (List.replicate 30 0) ((ts.take (k+1)).flatMap dstT)=bumps (weighD (ts.take k)) (dstT (a,d,y))):=(show _=_ by rw [take_flat_snoc dstT HX.out,bumps_append];rfl)
    have HOA:Hid (ownI wr w.heap.size (.slice (some ⟨ga,0,none⟩) 286 286) (weighL (ts.take k))):=HOA
    have HOB:Hid (ownI wr w.heap.size (.slice (some ⟨gb,0,none⟩) 30 30) (weighD (ts.take k))):=HOB
    generalize weighL (ts.take k)=la at *
    generalize weighD (ts.take k)=lb at *
    have hgaN:¬ ga=wr.heap.size:=by omega
    have hgbN:¬ gb=wr.heap.size:=by omega
    have hbN:¬ b=wr.heap.size:=by have:=HBW.out.size;omega
    by_cases ha:a=0
    ·have d1:((a:Int) == 0)=true:=by rw [ha];rfl
     have hy:y < 256:=by rcases hok with ⟨_,h⟩ | ⟨h,_⟩;exact h;(have:3≤a:=h);omega
     have hsym:symT (a,d,y)=y:=if_pos ha
     have hdst:dstT (a,d,y)=[]:=if_pos ha
     rw [hsym] at HSA
     rw [hdst] at HSB
     have hyl:y < la.length:=by rw [HLA.out];omega
     have HXV:=Lib.hid (List.getElem?_eq_getElem hyl)
     have c7:=HOA.out.cell HLA.out.symm hyl
     have f7:=HOA.out.frozen HLA.out.symm y
     have hr7:=HRA.out _ (List.getElem_mem hyl)
     generalize la[y]=x at *
     have HOA2:=Lib.hid (fun o'=>(HOA.out.store HLA.out.symm y (x+1)).alloc o')
     rw [← bump_set HXV.out,← HSA.out] at HOA2
     have HOB2:=Lib.hid (fun o'=>(HOB.out.far (g:=ga) (by intro e;injection e with e;exact hgab e.symm) y (.int .i64 (x+1))).alloc o')
     have HBW2:=Lib.hid (fun o'=>Below.alloc (HBW.out.setCell (p:=⟨ga,y,none⟩) hga (.int .i64 (x+1))) (by have:=HBW.out.size;simp;omega) o')
     have hx7:0≤x∧x≤50001:=by have:=HTL.out;omega
     clear HOA HOB HBW HRA HRB HTL hok hr7 HXV
     go_wp2_with fail
     go_roundw
     case rel=>exact ⟨k+1,by omega,by go_num,HOA2.out _,(show ownI _ _ _ _ by rw [HSB.out];exact HOB2.out _),HBW2.out _,by simp;omega,by simp;omega⟩
     case measure=>simp [intOf];omega
    ·have d1:((a:Int) == 0)=false:=beq_eq_false_iff_ne.2 (by omega)
     obtain ⟨h3,h4,h5,h6⟩:3≤a∧a≤258∧1≤d∧d≤32768:=by rcases hok with ⟨h,_⟩ | h;exact absurd h ha;exact h
     have hsym:symT (a,d,y)=257+lenS a:=if_neg ha
     have hdst:dstT (a,d,y)=[distS d]:=if_neg ha
     rw [hsym] at HSA
     rw [hdst] at HSB
     have q1:=(lenS_spec (x:=a) h3).1
     have q2:=(distS_spec (x:=d) h5).1
     obtain ⟨s,hs⟩:∃ s,257+lenS a=s:=⟨_,rfl⟩
     obtain ⟨q,hq⟩:∃ q,distS d=q:=⟨_,rfl⟩
     have HS1:=Lib.hid (fun w=>symbol_at a s _ _ h3 h4 hs rfl rfl w)
     have HS2:=Lib.hid (fun w=>distance_at d q _ _ h5 h6 hq rfl rfl w)
     generalize (lenOf (lenS a)).2=m1 at *
     generalize a - (lenOf (lenS a)).1=r1 at *
     generalize (distOf (distS d)).2=m2 at *
     generalize d - (distOf (distS d)).1=r2 at *
     rw [hs] at HSA
     rw [hq] at HSB
     have hsl:s < la.length:=by rw [HLA.out];omega
     have hql:q < lb.length:=by rw [HLB.out];omega
     have hs286:s < 286:=by omega
     have hq30:q < 30:=by omega
     have HXV:=Lib.hid (List.getElem?_eq_getElem hsl)
     have HYV:=Lib.hid (List.getElem?_eq_getElem hql)
     have c7:=HOA.out.cell HLA.out.symm hsl
     have f7:=HOA.out.frozen HLA.out.symm s
     have hr7:=HRA.out _ (List.getElem_mem hsl)
     have c8:=HOB.out.cell HLB.out.symm hql
     have f8:=HOB.out.frozen HLB.out.symm q
     have hr8:=HRB.out _ (List.getElem_mem hql)
     generalize la[s]=x at *
     generalize lb[q]=z at *
     have hgba:¬ gb=ga:=fun e=>hgab e.symm
     have HOA2:=Lib.hid (fun o'=>((HOA.out.store HLA.out.symm s (x+1)).far (g:=gb) (by intro e;injection e with e;exact hgab e) q (.int .i64 (z+1))).alloc o')
     rw [← bump_set HXV.out,← HSA.out] at HOA2
     have HOB2:=Lib.hid (fun o'=>((HOB.out.far (g:=ga) (by intro e;injection e with e;exact hgab e.symm) s (.int .i64 (x+1))).store HLB.out.symm q (z+1)).alloc o')
     have HSB2:Hid (lb.set q (z+1)=bumps (List.replicate 30 0) ((ts.take (k+1)).flatMap dstT)):=(show _=_ by rw [HSB.out,← bump_set HYV.out];rfl)
     rw [HSB2.out] at HOB2
     have HBW2:=Lib.hid (fun o'=>Below.alloc ((HBW.out.setCell (p:=⟨ga,s,none⟩) hga (.int .i64 (x+1))).setCell (p:=⟨gb,q,none⟩) hgb (.int .i64 (z+1))) (by have:=HBW.out.size;simp;omega) o')
     have hx7:0≤x∧x≤50001:=by have:=HTL.out;omega
     have hx8:0≤z∧z≤50001:=by have:=HTL.out;omega
     clear HOA HOB HBW HRA HRB HTL hok hr7 hr8 HXV HYV HSB HSB2 HSA q1 q2 hs hq
     go_wp2_with (first
      | (go_at_call 150;(with_reducible refine (HS1.out _).mono ?_);go_must (rintro e w5 ⟨rfl,rfl⟩))
      | (go_at_call 151;(with_reducible refine (HS2.out _).mono ?_);go_must (rintro e w5 ⟨rfl,rfl⟩)))
     go_roundw
     case rel=>exact ⟨k+1,by omega,by go_num,HOA2.out _,HOB2.out _,HBW2.out _,by simp;omega,by simp;omega⟩
     case measure=>simp [intOf];omega
   ·obtain rfl:k=n:=by omega
    have HT:Hid (ts.take k=ts):=(show _=_ from List.take_of_length_le (by omega))
    rw [HT.out] at HOA HOB
    have HRA:Hid (RdI wr wr.heap.size (some ⟨ga,0,none⟩) 286 (weighL ts)):=HOA.out.rd
    have HRB:Hid (RdI wr wr.heap.size (some ⟨gb,0,none⟩) 30 (weighD ts)):=HOB.out.rd
    clear HOA HOB
    go_wp2_with fail
    go_ret2
    exact ⟨ga,gb,rfl,HRA.out,HRB.out,HBW.out⟩
end Go.Proofs.YtebbdifhiihfkaaGreatDoor

