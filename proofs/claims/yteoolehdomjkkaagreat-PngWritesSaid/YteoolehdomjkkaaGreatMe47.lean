/- XMX XRowE XSorted -/
import Derived.Test.YteoolehdomjkkaaGreatMe07
import Derived.Test.YteoolehdomjkkaaGreatMe05
namespace Go.Proofs.YteoolehdomjkkaaGreat
set_option linter.all false
open Go.RowKit
abbrev MX:=Mem × Option Addr × Nat × Nat
def mxw (x:MX):Int:=x.1.w
def plI (l:List Nat):List Int:=l.map fun (x:Nat)=>(x:Int)
theorem plI_append (a b:List Nat):plI (a ++ b)=plI a ++ plI b:=by simp [plI]
/-- Each member's places lie in its row, below B. -/
def MOk (w:World) (B:Nat) (l:List MX):Prop:=∀ x ∈ l,RdI w B x.2.1 x.2.2.1 (plI x.1.items)
theorem MOk.blw {w w':World} {B:Nat} {l:List MX} (h:MOk w B l) (hb:Below B w w'):MOk w' B l:=fun x hx=>(h x hx).blw hb
theorem MOk.more {w:World} {B B':Nat} {l:List MX} (h:MOk w B l) (hB:B≤B'):MOk w B' l:=fun x hx=>(h x hx).more hB
theorem MOk.nil (w:World) (B:Nat):MOk w B []:=fun x hx=>by cases hx
theorem MOk.app {w:World} {B:Nat} {a b:List MX} (h:MOk w B a) (k:MOk w B b):MOk w B (a ++ b):=fun x hx=>by
 rcases List.mem_append.1 hx with h1 | h1
 ·exact h x h1
 ·exact k x h1
theorem MOk.one {w:World} {B:Nat} {x:MX} (h:RdI w B x.2.1 x.2.2.1 (plI x.1.items)):MOk w B [x]:=fun y hy=>by
 rw [List.mem_singleton] at hy
 rw [hy]
 exact h
theorem MOk.at {w:World} {B:Nat} {l:List MX} (h:MOk w B l) {k:Nat} {x:MX} (hx:l[k]?=some x):RdI w B x.2.1 x.2.2.1 (plI x.1.items):=h x (List.mem_of_getElem? hx)
theorem mx_map:∀ (n:Nat) (a b:List MX),a.length+b.length≤n→(mrgBy mxw a b).map (·.1)=mrgBy Mem.w (a.map (·.1)) (b.map (·.1)):=by
 intro n
 induction n with
 | zero =>
  intro a b h
  obtain rfl:a=[]:=List.eq_nil_of_length_eq_zero (by omega)
  obtain rfl:b=[]:=List.eq_nil_of_length_eq_zero (by omega)
  simp [mrgBy]
 | succ n ih =>
  intro a b h
  cases a with
  | nil=>simp [mrgBy]
  | cons x r =>
   cases b with
   | nil=>simp [mrgBy]
   | cons y s =>
    simp only [List.length_cons] at h
    rw [mrgBy,List.map_cons,List.map_cons,mrgBy]
    unfold mxw
    split
    ·rw [List.map_cons]
     have:=ih (x :: r) s (by simp only [List.length_cons];omega)
     unfold mxw at this
     rw [this,List.map_cons]
    ·rw [List.map_cons]
     have:=ih r (y :: s) (by simp only [List.length_cons];omega)
     unfold mxw at this
     rw [this,List.map_cons]
theorem mx_mem:∀ (n:Nat) (a b:List MX),a.length+b.length≤n→∀ x ∈ mrgBy mxw a b,x ∈ a∨x ∈ b:=by
 intro n
 induction n with
 | zero =>
  intro a b h x hx
  obtain rfl:a=[]:=List.eq_nil_of_length_eq_zero (by omega)
  obtain rfl:b=[]:=List.eq_nil_of_length_eq_zero (by omega)
  simp [mrgBy] at hx
 | succ n ih =>
  intro a b h x hx
  cases a with
  | nil=>rw [mrgBy] at hx;exact .inr hx
  | cons p r =>
   cases b with
   | nil=>simp [mrgBy] at hx;left;simpa using hx
   | cons q s =>
    simp only [List.length_cons] at h
    rw [mrgBy] at hx
    split at hx
    ·rcases List.mem_cons.1 hx with e | hx
     ·right;rw [e];simp
     ·rcases ih (p :: r) s (by simp only [List.length_cons];omega) x hx with h1 | h1
      ·exact .inl h1
      ·right;simp [h1]
    ·rcases List.mem_cons.1 hx with e | hx
     ·left;rw [e];simp
     ·rcases ih r (q :: s) (by simp only [List.length_cons];omega) x hx with h1 | h1
      ·left;simp [h1]
      ·exact .inr h1
/-- The merge, by where it stands in both lists. -/
theorem mx_takeA {a b:List MX} {i k:Nat} {x:MX} (hx:a[i]?=some x) (h:b.length≤k∨∃ y,b[k]?=some y∧mxw x≤mxw y):mrgBy mxw (a.drop i) (b.drop k)=x :: mrgBy mxw (a.drop (i+1)) (b.drop k):=by
 obtain ⟨hi,e⟩:=List.getElem?_eq_some_iff.1 hx
 rw [List.drop_eq_getElem_cons hi,e]
 rcases h with h | ⟨y,hy,hle⟩
 ·rw [List.drop_eq_nil_of_le h]
  cases a.drop (i+1) <;> simp [mrgBy]
 ·obtain ⟨hk,e2⟩:=List.getElem?_eq_some_iff.1 hy
  rw [List.drop_eq_getElem_cons hk,e2,mrgBy,if_neg (by omega)]
theorem mx_takeB {a b:List MX} {i k:Nat} {y:MX} (hy:b[k]?=some y) (h:a.length≤i∨∃ x,a[i]?=some x∧mxw y < mxw x):mrgBy mxw (a.drop i) (b.drop k)=y :: mrgBy mxw (a.drop i) (b.drop (k+1)):=by
 obtain ⟨hk,e⟩:=List.getElem?_eq_some_iff.1 hy
 rw [List.drop_eq_getElem_cons hk,e]
 rcases h with h | ⟨x,hx,hlt⟩
 ·rw [List.drop_eq_nil_of_le h,mrgBy,mrgBy]
 ·obtain ⟨hi,e2⟩:=List.getElem?_eq_some_iff.1 hx
  rw [List.drop_eq_getElem_cons hi,e2,mrgBy,if_pos hlt]
theorem mx_len:∀ (n:Nat) (a b:List MX),a.length+b.length≤n→(mrgBy mxw a b).length=a.length+b.length:=by
 intro n
 induction n with
 | zero =>
  intro a b h
  obtain rfl:a=[]:=List.eq_nil_of_length_eq_zero (by omega)
  obtain rfl:b=[]:=List.eq_nil_of_length_eq_zero (by omega)
  simp [mrgBy]
 | succ n ih =>
  intro a b h
  cases a with
  | nil=>simp [mrgBy]
  | cons p r =>
   cases b with
   | nil=>simp [mrgBy]
   | cons q s =>
    simp only [List.length_cons] at h
    rw [mrgBy]
    split
    ·rw [List.length_cons,ih (p :: r) s (by simp only [List.length_cons];omega)];simp only [List.length_cons];omega
    ·rw [List.length_cons,ih r (q :: s) (by simp only [List.length_cons];omega)];simp only [List.length_cons];omega
end Go.Proofs.YteoolehdomjkkaaGreat

/- Rows of aquref5.member: 2 cells an element. -/
namespace Go.Proofs.YteoolehdomjkkaaGreat
set_option linter.all false
open Go.RowKit
def eE (x:MX):List Value:=[Value.int .i64 x.1.w,Value.slice x.2.1 x.2.2.1 x.2.2.2]
theorem eE_len (x:MX):(eE x).length=2:=rfl
/-- The cells of a list. -/
def cE (l:List MX):List Value:=l.flatMap eE
theorem cE_length:∀ l:List MX,(cE l).length=l.length * 2
 | []=>rfl
 | x :: l=>by
  have:=cE_length l
  unfold cE at this ⊢
  rw [List.flatMap_cons,List.length_append,this,eE_len,List.length_cons]
  omega
theorem cE_append (a b:List MX):cE (a ++ b)=cE a ++ cE b:=by simp [cE]
theorem cE_single (x:MX):cE [x]=eE x:=by simp [cE]
theorem cE_get:∀ (l:List MX) (k j:Nat) (hk:k < l.length),j < 2→(cE l)[k * 2+j]?=(eE l[k])[j]?
 | x :: l,0,j,_,hj=>by
  unfold cE
  rw [List.flatMap_cons,List.getElem?_append_left (by rw [eE_len];omega)]
  simp
 | x :: l,i+1,j,hi,hj=>by
  have:=cE_get l i j (by simpa using hi) hj
  unfold cE at this ⊢
  rw [List.flatMap_cons,List.getElem?_append_right (by rw [eE_len];omega),eE_len,List.getElem_cons_succ,← this]
  congr 1
  omega
theorem cE_one (l:List MX):∀ u ∈ cE l,u.oneCell'=true:=by
 intro u hu
 simp only [cE,List.mem_flatMap] at hu
 obtain ⟨x,_,hx⟩:=hu
 simp only [eE,List.mem_cons,List.not_mem_nil,or_false] at hx
 rcases hx with rfl | rfl <;> rfl
theorem cE_set (l:List MX) (k:Nat) (x:MX) (hk:k < l.length):cE (l.set k x)=((cE l).set (k * 2) (Value.int .i64 x.1.w)).set (k * 2+1) (Value.slice x.2.1 x.2.2.1 x.2.2.2):=by
 have e1:l=l.take k ++ l[k] :: l.drop (k+1):=by rw [← List.drop_eq_getElem_cons hk,List.take_append_drop]
 have e2:l.set k x=l.take k ++ x :: l.drop (k+1):=by rw [List.set_eq_take_append_cons_drop,if_pos hk]
 rw [e2]
 have hl:(cE (l.take k)).length=k * 2:=by rw [cE_length,List.length_take,Nat.min_eq_left (by omega)]
 have e3:cE l=cE (l.take k) ++ (eE l[k] ++ cE (l.drop (k+1))):=by
  conv=>lhs;rw [e1]
  rw [cE_append]
  simp only [cE,List.flatMap_cons]
 have e4:cE (l.take k ++ x :: l.drop (k+1))=cE (l.take k) ++ (eE x ++ cE (l.drop (k+1))):=by
  rw [cE_append]
  simp only [cE,List.flatMap_cons]
 rw [e3,e4]
 generalize cE (l.take k)=P at *
 rw [← hl]
 simp [eE,List.set_append]
theorem Tryz.info_E:(Tryz.prog.info? 203).map (fun i=>(i.zero,i.size,i.bytes))=some (some (.agg #[.int .i64 0,.slice none 0 0]),2,32):=by kernel_rfl
def ownE (w:World) (base:Nat) (v:Value) (l:List MX):Prop:=w.ownsRow base 203 2 v l.length (cE l)
def RdE (w:World) (B:Nat) (A:Option Addr) (n:Nat) (l:List MX):Prop:=Rd w B 2 A n (cE l)
theorem RdE.len {w:World} {B n:Nat} {A:Option Addr} {l:List MX} (h:RdE w B A n l):l.length=n:=by
 have:=h.1;rw [cE_length] at this;omega
theorem RdE.one {w:World} {B n:Nat} {A:Option Addr} {l:List MX} (h:RdE w B A n l) {k:Nat} (hk:k < n) :
  ∃ b o x,A=some ⟨b,o,none⟩∧b < B∧Hid (l[k]?=some x)∧w.cell? ⟨b,o+k * 2,none⟩=some (Value.int .i64 x.1.w)∧w.cell? ⟨b,o+k * 2+1,none⟩=some (Value.slice x.2.1 x.2.2.1 x.2.2.2):=by
 obtain ⟨b,o,e,hb,hc⟩:=h.2 (by omega)
 have hl:=h.len
 have hk':k < l.length:=by omega
 refine ⟨b,o,l[k],e,hb,List.getElem?_eq_getElem hk',?_,?_⟩
 ·exact hc (k * 2) _ ((cE_get l k 0 hk' (by omega)).trans rfl)
 ·exact hc (k * 2+1) _ ((cE_get l k 1 hk' (by omega)).trans rfl)
theorem RdE.blw {w w':World} {B n:Nat} {A:Option Addr} {l:List MX} (h:RdE w B A n l) (hb:Below B w w'):RdE w' B A n l:=Rd.below h hb
theorem RdE.more {w:World} {B B' n:Nat} {A:Option Addr} {l:List MX} (h:RdE w B A n l) (hB:B≤B'):RdE w B' A n l:=Rd.more h hB
theorem RdE.here {w:World} {B n:Nat} {A:Option Addr} {l:List MX} (h:RdE w B A n l):RdE w w.heap.size A n l :=
 ⟨h.1,fun hn=>by
  obtain ⟨b,o,e,hb,hc⟩:=h.2 hn
  have hl:=h.1
  exact ⟨b,o,e,block_lt_of_cell (a:=⟨b,o+0,none⟩) (hc 0 (cE l)[0] (List.getElem?_eq_getElem (by omega))),hc⟩⟩
theorem RdE.later {w w':World} {n:Nat} {A:Option Addr} {l:List MX} (h:RdE w w.heap.size A n l) (hb:Below w.heap.size w w'):RdE w' w'.heap.size A n l:=RdE.here (RdE.blw h hb)
theorem RdE.alloc {w:World} {B n:Nat} {A:Option Addr} {l:List MX} (h:RdE w B A n l) (hB:B≤w.heap.size) (o:Obj):RdE (w.alloc o) B A n l:=Rd.alloc h hB o
theorem RdE.nil_ {w:World} {B:Nat} {A:Option Addr}:RdE w B A 0 []:=⟨by simp [cE],fun h=>absurd h (by omega)⟩
theorem RdE.cut {w:World} {B n:Nat} {A:Option Addr} {l:List MX} (h:RdE w B A n l) {k m:Nat} (hk:k+m≤n) {A':Option Addr} (hA:0 < m→A'=A.map (·.add (k * 2))) :
  RdE w B A' m ((l.drop k).take m):=by
 have:=Rd.cut h hk (A':=A') hA
 unfold RdE
 have e1:∀ (q:Nat) (l:List MX),cE (l.take q)=(cE l).take (q * 2):=fun q l=>by
  rcases Nat.lt_or_ge q l.length with hq | hq
  ·conv=>rhs;rw [← List.take_append_drop q l,cE_append]
   rw [List.take_left' (by rw [cE_length,List.length_take,Nat.min_eq_left (by omega)])]
  ·rw [List.take_of_length_le hq,List.take_of_length_le (by rw [cE_length];exact Nat.mul_le_mul_right _ hq)]
 have e2:∀ (q:Nat) (l:List MX),cE (l.drop q)=(cE l).drop (q * 2):=fun q l=>by
  rcases Nat.lt_or_ge q l.length with hq | hq
  ·conv=>rhs;rw [← List.take_append_drop q l,cE_append]
   rw [List.drop_left' (by rw [cE_length,List.length_take,Nat.min_eq_left (by omega)])]
  ·rw [List.drop_eq_nil_of_le hq,List.drop_eq_nil_of_le (by rw [cE_length];exact Nat.mul_le_mul_right _ hq)]
   rfl
 rw [e1,e2]
 exact this
theorem ownE.nil_ (w:World) (base:Nat):ownE w base (.slice none 0 0) []:=World.ownsRow_nil _ _ _ _
theorem ownE.mono {w:World} {base base':Nat} {v:Value} {l:List MX} (h:ownE w base v l) (hb:base'≤base):ownE w base' v l:=by
 refine ⟨h.1,?_⟩
 rcases h.2 with hn | ⟨g,cap,cur,rfl,hbg,rest⟩
 ·exact .inl hn
 ·exact .inr ⟨g,cap,cur,rfl,by omega,rest⟩
theorem ownE.later {w w':World} {base:Nat} {v:Value} {l:List MX} (h:ownE w base v l) (hb:Below w.heap.size w w'):ownE w' base v l :=
 Below.ownsRow h hb (fun g hg=>(World.ownsRow.lt h g hg).2)
theorem ownE.alloc {w:World} {base:Nat} {v:Value} {l:List MX} (h:ownE w base v l) (o:Obj):ownE (w.alloc o) base v l:=World.ownsRow.alloc h o
theorem ownE.drew {w:World} {base:Nat} {v:Value} {l:List MX} (h:ownE w base v l):ownE w.drew base v l:=h
theorem ownE.drewN {w:World} {base:Nat} {v:Value} {l:List MX} (h:ownE w base v l) (n:Nat):ownE (w.drewN n) base v l:=h
theorem ownE.form {w:World} {base:Nat} {v:Value} {l:List MX} (h:ownE w base v l) :
  ∃ A c,v=.slice A l.length c∧RdE w w.heap.size A l.length l∧l.length≤c∧c≤maxLen:=by
 rcases h.2 with ⟨rfl,h0⟩ | ⟨g,cap,cur,rfl,_,_,h1,h2,_⟩
 ·have:l=[]:=List.eq_nil_of_length_eq_zero h0
  subst this
  exact ⟨none,0,rfl,Rd.none_,by simp,by simp⟩
 ·exact ⟨_,_,rfl,Rd.of_own h,h1,h2⟩
theorem ownE.kept {w w':World} {base:Nat} {v:Value} {l:List MX} {row:Option Nat} (h:ownE w base v l) (hg:w.grownBy w' row) (hne:v.ownBlock=none∨v.ownBlock ≠ row):ownE w' base v l :=
 World.ownsRow.kept h hg hne
theorem ownE.far {w:World} {base g:Nat} {v:Value} {l:List MX} (h:ownE w base v l) (hg:v.ownBlock ≠ some g) (o:Nat) (u:Value) :
  ownE (w.setCell ⟨g,o,none⟩ u) base v l:=by
 refine ⟨h.1,?_⟩
 rcases h.2 with hn | ⟨g',cap,cur,rfl,hb,hgg,rest⟩
 ·exact .inl hn
 ·refine .inr ⟨g',cap,cur,rfl,hb,?_,rest⟩
  rw [Below.heap_setCell _ _ _ _ (by intro e;apply hg;simp [Value.ownBlock];exact e)]
  exact hgg
theorem ownE.ne {w:World} {base g:Nat} {v:Value} {l:List MX} (h:ownE w base v l) (hg:g < base):v.ownBlock ≠ some g:=by
 intro e
 have:=(World.ownsRow.lt h g e).1
 omega
theorem ownE.pos {w:World} {base n c:Nat} {A:Option Addr} {l:List MX} (h:ownE w base (.slice A n c) l) (hn:0 < n):n=l.length∧∃ g,A=some ⟨g,0,none⟩∧base≤g∧g < w.heap.size:=by
 rcases h.2 with ⟨h',_⟩ | ⟨g,cap,cur,h',hb,hg,_⟩
 ·injection h' with _ h2;omega
 ·injection h' with h1 h2
  exact ⟨h2,g,h1,hb,(World.ownsRow.lt h g (by rw [h1];rfl)).2⟩
theorem ownE.cell {w:World} {base g n c:Nat} {l:List MX} (h:ownE w base (.slice (some ⟨g,0,none⟩) n c) l) (hn:n=l.length) {k:Nat} (hk:k < l.length) :
  w.cell? ⟨g,k * 2,none⟩=some ((fun x:MX=>Value.int .i64 x.1.w) l[k])∧w.cell? ⟨g,k * 2+1,none⟩=some ((fun x:MX=>Value.slice x.2.1 x.2.2.1 x.2.2.2) l[k]):=by
 subst hn
 refine ⟨?_,?_⟩
 ·exact (World.ownsRow.cellAt h (k * 2) (by have:=hk;omega)).trans ((cE_get l k 0 hk (by omega)).trans rfl)
 ·exact (World.ownsRow.cellAt h (k * 2+1) (by have:=hk;omega)).trans ((cE_get l k 1 hk (by omega)).trans rfl)
theorem ownE.frozen {w:World} {base g n c:Nat} {l:List MX} (h:ownE w base (.slice (some ⟨g,0,none⟩) n c) l) (hn:n=l.length) (k:Nat) :
  w.frozen? ⟨g,k,none⟩=false:=by
 subst hn
 exact World.ownsRow.frozenAt h k
theorem ownE.store {w:World} {base g n c:Nat} {l:List MX} (h:ownE w base (.slice (some ⟨g,0,none⟩) n c) l) (hn:n=l.length) (k:Nat) (x:MX) (hk:k < l.length) :
  ownE ((w.setCell ⟨g,k * 2,none⟩ (Value.int .i64 x.1.w)).setCell ⟨g,k * 2+1,none⟩ (Value.slice x.2.1 x.2.2.1 x.2.2.2)) base (.slice (some ⟨g,0,none⟩) n c) (l.set k x):=by
 subst hn
 have h0:w.ownsRow base 203 2 (.slice (some ⟨g,0,none⟩) l.length c) l.length (cE l):=h
 have h1:=(World.ownsRow.stored h0 (k * 2) (Value.int .i64 x.1.w)).1
 have h2:=(World.ownsRow.stored h1 (k * 2+1) (Value.slice x.2.1 x.2.2.1 x.2.2.2)).1
 unfold ownE
 rw [List.length_set,cE_set l k x hk]
 exact h2
theorem ownE.rd {w:World} {base n c:Nat} {A:Option Addr} {l:List MX} (h:ownE w base (.slice A n c) l):RdE w w.heap.size A n l:=by
 obtain ⟨A4,c4,e5,hd4,_,_⟩:=h.form
 injection e5 with e1 e2 e3
 rw [e1,e2]
 exact hd4
/-- One element that lies in a block, whole. -/
theorem rd_oneE (w:World) (x:MX) (t:TypeId) (fr:Nat × Nat):RdE (w.alloc (.cells (eE x).toArray t fr)) (w.heap.size+1) (some ⟨w.heap.size,0,none⟩) 1 [x]:=by
 refine ⟨by rw [cE_length];rfl,fun _=>⟨_,_,rfl,by omega,fun j u hu=>?_⟩⟩
 rw [Nat.zero_add]
 have:=cell_of_row (w.alloc (.cells (eE x).toArray t fr)) w.heap.size j (eE x).toArray t fr (heap_alloc_new w _)
 rw [this]
 rw [cE_single] at hu
 simpa using hu
set_option maxRecDepth 100000 in
theorem run_appendE (w:World) (base:Nat) (t2:TypeId) (v:Value) (l:List MX) (hown:ownE w base v l) (B m c:Nat) (A:Option Addr) (news:List MX) (hr:RdE w B A m news)
  (hb:l.length+m≤1099511627776) (hbase:base≤w.heap.size) :
  ∃ v' w',(Builtin.append_ #[201,201] t2 #[v,.slice A m c]).run Tryz.prog w=.ok v' w'∧ownE w' base v' (l ++ news)∧w.grownBy w' v.ownBlock ∧
   (v'.ownBlock=v.ownBlock∨v'.ownBlock=some w.heap.size)∧(v'=.slice none 0 0 ↔ v=.slice none 0 0∧m=0):=by
 obtain ⟨i0,hi,hz0,hz1,hz2⟩:=info_parts Tryz.info_E
 have hl:=hr.len
 subst hl
 unfold ownE
 rw [List.length_append,cE_append]
 rcases A with _ | ad
 ·have hn:news=[]:=by
   rcases Nat.eq_zero_or_pos news.length with h0 | h0
   ·exact List.eq_nil_of_length_eq_zero h0
   ·obtain ⟨b,o,h,_⟩:=hr.2 h0
    cases h
  subst hn
  refine ⟨v,w,?_,by simpa [cE,ownE] using hown,World.grownBy.refl w _,.inl rfl,by simp⟩
  rcases hown.2 with ⟨rfl,h0⟩ | ⟨g,cap,cur,rfl,_,_,hnc,_⟩
  ·simp [Builtin.append_,run_underlying Tryz.underlying201,sizeOf,typeInfo,hi,Builtin.lenOf,Builtin.firstCells]
  ·simp [Builtin.append_,run_underlying Tryz.underlying201,sizeOf,typeInfo,hi,Builtin.lenOf,Builtin.firstCells,hnc,storeCells]
 ·have hcells:∀ j u,(cE news)[j]?=some u→w.cell? (ad.add j)=some u:=by
   intro j u hu
   rcases Nat.eq_zero_or_pos news.length with h0 | h0
   ·have hn:news=[]:=List.eq_nil_of_length_eq_zero h0
    subst hn
    simp [cE] at hu
   ·obtain ⟨b,o,h,_,hc⟩:=hr.2 h0
    injection h with h
    subst h
    rw [add_none]
    exact hc j u hu
  obtain ⟨v',w',hrun,h2,h3,h4,h5⟩:=run_append_own_at (P:=Tryz.prog) w base 201 t2 203 i0 _ 2 32 Tryz.underlying201 hi hz0 hz1 hz2 rfl (by omega) v l.length (cE l) hown ad news.length c (cE news) (by rw [cE_length]) hcells (cE_one _) (by unfold maxLen;omega) (by omega) hbase
  exact ⟨v',w',hrun,h2,h3,h5,h4⟩
/-- append(v, x...): v the call's own, x whatever. -/
theorem wpList_appendE {w:World} {ops:Array Oper} {rest:List Oper} {o:Oper} {a:Act} {Q:Exit→Act→World→Prop} (hgd:o.guard=none) (s x:Operand)
  (ho:o.op=.call { callee:=.builtin .append,args:=#[s,x],argTypes:=#[201,201] })
  (base:Nat) (v:Value) (l:List MX) (hs:a.eval s=v) (hown:ownE w base v l) (B m c:Nat) (A:Option Addr) (news:List MX) (hx:a.eval x=.slice A m c) (hr:RdE w B A m news)
  (hb:l.length+m≤1099511627776) (hbase:base≤w.heap.size)
  (h:∀ v' w',ownE w' base v' (l ++ news)→w.grownBy w' v.ownBlock→Below base w w'→(v'.ownBlock=v.ownBlock∨v'.ownBlock=some w.heap.size)→wpList Tryz.prog ops Q rest (a.put o.dst v') w') :
  wpList Tryz.prog ops Q (o :: rest) a w:=by
 refine wpList_plain hgd fun K hK=>?_
 obtain ⟨v',w',hrun,h2,h3,h4,_⟩:=run_appendE w base o.type v l hown B m c A news hr hb hbase
 unfold Oper.wp execOp
 simp only [ho,resolve,invoke,builtin,Sem.run_bind,Sem.run_pure,Result.andThen_ok,List.map_toArray,List.map_cons,List.map_nil,hs,hx,hrun]
 exact hK _ _ (h v' w' h2 h3 ((Below.refl _ _).grown h3 hbase (fun k hk=>(World.ownsRow.lt hown k hk).1)) h4)
/-- append of bytes as a step of a region that draws its order. -/
theorem step_appendE {w:World} {ops:Array Oper} {o:Oper} {a:Act} {K:Act→World→Prop} {Q:Exit→Act→World→Prop} {E:Prop} (hgd:o.guard=none) (s x:Operand)
  (ho:o.op=.call { callee:=.builtin .append,args:=#[s,x],argTypes:=#[201,201] })
  (base:Nat) (v:Value) (bs:List MX) (hs:a.eval s=v) (hown:ownE w base v bs) (B m c:Nat) (A:Option Addr) (news:List MX) (hx:a.eval x=.slice A m c) (hr:RdE w B A m news)
  (hb:bs.length+m≤1099511627776) (hbase:base≤w.heap.size)
  (h:∀ v' w',ownE w' base v' (bs ++ news)→w.grownBy w' v.ownBlock→Below base w w'→(v'.ownBlock=v.ownBlock∨v'.ownBlock=some w.heap.size)→K (a.put o.dst v') w') :
  if Region.wanted o (yielded ops a.tmps)=true then Oper.wp Tryz.prog o a w K Q else E:=by
 have hw:Region.wanted o (yielded ops a.tmps)=true:=by simp [Region.wanted,hgd]
 rw [if_pos hw]
 obtain ⟨v',w',hrun,h2,h3,h4,_⟩:=run_appendE w base o.type v bs hown B m c A news hr hb hbase
 unfold Oper.wp execOp
 simp only [ho,resolve,invoke,builtin,Sem.run_bind,Sem.run_pure,Result.andThen_ok,List.map_toArray,List.map_cons,List.map_nil,hs,hx,hrun]
 exact h v' w' h2 h3 ((Below.refl _ _).grown h3 hbase (fun k hk=>(World.ownsRow.lt hown k hk).1)) h4
end Go.Proofs.YteoolehdomjkkaaGreat

/- The document's sorted: items and packages put together. -/
namespace Go.Proofs.YteoolehdomjkkaaGreat
set_option linter.all false
open Go.RowKit
set_option maxRecDepth 100000 in
set_option maxHeartbeats 3200000 in
theorem sorted_any (B n c B' n' c':Nat) (A A':Option Addr) (a b:List MX) (w:World) (h:RdE w B A n a) (h':RdE w B' A' n' b) (hB1:B≤w.heap.size) (hB2:B'≤w.heap.size) (hn:n≤100000) (hn':n'≤100000) :
  Calls Tryz.prog 164 #[.slice A n c,.slice A' n' c'] w fun e w'=>∃ A2 n2 c2,e=.returned (.slice A2 n2 c2)∧n2=n+n'∧ownE w' w.heap.size (.slice A2 n2 c2) (mrgBy mxw a b)∧Below w.heap.size w w':=by
 have H1:=Lib.hid h
 have H2:=Lib.hid h'
 have HL1:=Lib.hid h.len
 have HL2:=Lib.hid h'.len
 obtain ⟨M,hM⟩:∃ M,mrgBy mxw a b=M:=⟨_,rfl⟩
 have HM:=Lib.hid hM
 rw [hM]
 clear h h' hM
 go_enter Tryz.func164,Tryz.ntmps164
 go_wp2_with fail
 go_loopw [6,7,5] (fun vi vk vo wr=>∃ (i k:Nat) (L:List MX) (Ao:Option Addr) (co:Nat),i≤n∧k≤n'∧vi=.int .i64 i∧vk=.int .i64 k∧vo=.slice Ao (i+k) co∧Hid (L.length=i+k)∧Hid (L ++ mrgBy mxw (a.drop i) (b.drop k)=M)∧Hid (ownE wr w.heap.size (.slice Ao (i+k) co) L)∧Hid (Below w.heap.size w wr))
  (fun vi vk _ _=>n+n' - ((intOf vi).toNat+(intOf vk).toNat))
 case atStart=>exact ⟨0,0,[],none,0,Nat.zero_le _,Nat.zero_le _,rfl,rfl,rfl,(show _=_ from rfl),(show _=_ from HM.out),ownE.nil_ _ _,Below.refl _ _⟩
 case round =>
  obtain ⟨i,k,L,Ao,co,hi,hk,rfl,rfl,rfl,HL,HJ,HO,HB⟩:=hrel
  have hz:=HB.out.size
  by_cases hkn:k < n'
  ·have dkm:((k:Int) == (n':Int))=false:=beq_eq_false_iff_ne.2 (by omega)
   by_cases hin:i < n
   ·obtain ⟨b1,o1,x,rfl,hb1,HX,e1,e2⟩:=(H1.out.blw (HB.out.mono hB1)).one hin
    obtain ⟨t,A3,n3,c3⟩:=x
    dsimp only at e1 e2
    obtain ⟨b2,o2,y,rfl,hb2,HY,g1,g2⟩:=(H2.out.blw (HB.out.mono hB2)).one hkn
    obtain ⟨u,A4,n4,c4⟩:=y
    dsimp only at g1 g2
    by_cases hle:t.w≤u.w
    ·have dle:decide (t.w≤u.w)=true:=decide_eq_true hle
     have HJ2:Hid (L ++ [(t,A3,n3,c3)] ++ mrgBy mxw (a.drop (i+1)) (b.drop (k))=M):=(show _=_ by rw [← HJ.out,mx_takeA HX.out (.inr ⟨_,HY.out,hle⟩),List.append_assoc];rfl)
     have HOq:=Lib.hid (fun (q:Nat)=>HO.out.drewN q)
     have HBq:=Lib.hid (fun (q:Nat)=>bdrewN HB.out q)
     have HC0:=Lib.hid (fun (q:Nat)=>show (wr.drewN q).cell? _=_ from e1)
     have HC1:=Lib.hid (fun (q:Nat)=>show (wr.drewN q).cell? _=_ from e2)
     clear HJ
     go_wp2_with fail
     go_quiet (fail)
     have k0:=HC0.out nq
     have k1:=HC1.out nq
     have HO4:=Lib.hid (HOq.out nq)
     have HB4:=Lib.hid (HBq.out nq)
     have hz4:=HB4.out.size
     clear HO HB HOq HBq HC0 HC1
     generalize wr.drewN nq=wq at *
     go_wp2_with (at_builtin;go_must (refine wpList_appendE rfl (.tmp 41) (.tmp 46) rfl w.heap.size (.slice Ao (i+k) co) L rfl (ownE.alloc HO4.out _) (wq.heap.size+1) 1 1 (some ⟨wq.heap.size,0,none⟩) [(t,A3,n3,c3)] rfl (rd_oneE wq (t,A3,n3,c3) _ _) (by have:=HL.out;omega) (by simp;omega) ?_;intro v1 w3 hown hgb hbl hat;obtain ⟨A5,c5,rfl,hr5,-,-⟩:=hown.form;have HO5:=Lib.hid hown;have HB5:=Lib.hid ((HB4.out.alloc hz4 (.cells (eE (t,A3,n3,c3)).toArray 203)).trans hbl);clear hown hgb hbl hat hr5))
     have HL5:Hid ((L ++ [(t,A3,n3,c3)]).length=i+1+k):=(show _=_ by have:=HL.out;simp;omega)
     rw [HL5.out] at HO5
     have HL6:L.length+1=i+1+k:=by have:=HL.out;omega
     go_roundw
     case rel=>exact ⟨i+1,k,L ++ [(t,A3,n3,c3)],A5,c5,by omega,by omega,by go_num,by go_num,by first | rw [HL6] | rfl,HL5,HJ2,HO5,HB5⟩
     case measure=>simp [intOf];omega
    ·have dle:decide (t.w≤u.w)=false:=decide_eq_false hle
     have HJ2:Hid (L ++ [(u,A4,n4,c4)] ++ mrgBy mxw (a.drop (i)) (b.drop (k+1))=M):=(show _=_ by rw [← HJ.out,mx_takeB HY.out (.inr ⟨_,HX.out,by show u.w < t.w;omega⟩),List.append_assoc];rfl)
     have HOq:=Lib.hid (fun (q:Nat)=>HO.out.drewN q)
     have HBq:=Lib.hid (fun (q:Nat)=>bdrewN HB.out q)
     have HC0:=Lib.hid (fun (q:Nat)=>show (wr.drewN q).cell? _=_ from g1)
     have HC1:=Lib.hid (fun (q:Nat)=>show (wr.drewN q).cell? _=_ from g2)
     clear HJ
     go_wp2_with fail
     go_quiet (fail)
     have k0:=HC0.out nq
     have k1:=HC1.out nq
     have HO4:=Lib.hid (HOq.out nq)
     have HB4:=Lib.hid (HBq.out nq)
     have hz4:=HB4.out.size
     clear HO HB HOq HBq HC0 HC1
     generalize wr.drewN nq=wq at *
     go_wp2_with (at_builtin;go_must (refine wpList_appendE rfl (.tmp 50) (.tmp 55) rfl w.heap.size (.slice Ao (i+k) co) L rfl (ownE.alloc HO4.out _) (wq.heap.size+1) 1 1 (some ⟨wq.heap.size,0,none⟩) [(u,A4,n4,c4)] rfl (rd_oneE wq (u,A4,n4,c4) _ _) (by have:=HL.out;omega) (by simp;omega) ?_;intro v1 w3 hown hgb hbl hat;obtain ⟨A5,c5,rfl,hr5,-,-⟩:=hown.form;have HO5:=Lib.hid hown;have HB5:=Lib.hid ((HB4.out.alloc hz4 (.cells (eE (u,A4,n4,c4)).toArray 203)).trans hbl);clear hown hgb hbl hat hr5))
     have HL5:Hid ((L ++ [(u,A4,n4,c4)]).length=i+(k+1)):=(show _=_ by have:=HL.out;simp;omega)
     rw [HL5.out] at HO5
     have HL6:L.length+1=i+(k+1):=by have:=HL.out;omega
     go_roundw
     case rel=>exact ⟨i,k+1,L ++ [(u,A4,n4,c4)],A5,c5,by omega,by omega,by go_num,by go_num,by first | rw [HL6] | rfl,HL5,HJ2,HO5,HB5⟩
     case measure=>simp [intOf];omega
   ·obtain rfl:i=n:=by omega
    obtain ⟨b2,o2,y,rfl,hb2,HY,g1,g2⟩:=(H2.out.blw (HB.out.mono hB2)).one hkn
    obtain ⟨u,A4,n4,c4⟩:=y
    dsimp only at g1 g2
    have HJ2:Hid (L ++ [(u,A4,n4,c4)] ++ mrgBy mxw (a.drop (i)) (b.drop (k+1))=M):=(show _=_ by rw [← HJ.out,mx_takeB HY.out (.inl (by rw [HL1.out];exact Nat.le_refl _)),List.append_assoc];rfl)
    have HOq:=Lib.hid (fun (q:Nat)=>HO.out.drewN q)
    have HBq:=Lib.hid (fun (q:Nat)=>bdrewN HB.out q)
    have HC0:=Lib.hid (fun (q:Nat)=>show (wr.drewN q).cell? _=_ from g1)
    have HC1:=Lib.hid (fun (q:Nat)=>show (wr.drewN q).cell? _=_ from g2)
    clear HJ
    go_wp2_with fail
    go_quiet (fail)
    have k0:=HC0.out nq
    have k1:=HC1.out nq
    have HO4:=Lib.hid (HOq.out nq)
    have HB4:=Lib.hid (HBq.out nq)
    have hz4:=HB4.out.size
    clear HO HB HOq HBq HC0 HC1
    generalize wr.drewN nq=wq at *
    go_wp2_with (at_builtin;go_must (refine wpList_appendE rfl (.tmp 50) (.tmp 55) rfl w.heap.size (.slice Ao (i+k) co) L rfl (ownE.alloc HO4.out _) (wq.heap.size+1) 1 1 (some ⟨wq.heap.size,0,none⟩) [(u,A4,n4,c4)] rfl (rd_oneE wq (u,A4,n4,c4) _ _) (by have:=HL.out;omega) (by simp;omega) ?_;intro v1 w3 hown hgb hbl hat;obtain ⟨A5,c5,rfl,hr5,-,-⟩:=hown.form;have HO5:=Lib.hid hown;have HB5:=Lib.hid ((HB4.out.alloc hz4 (.cells (eE (u,A4,n4,c4)).toArray 203)).trans hbl);clear hown hgb hbl hat hr5))
    have HL5:Hid ((L ++ [(u,A4,n4,c4)]).length=i+(k+1)):=(show _=_ by have:=HL.out;simp;omega)
    rw [HL5.out] at HO5
    have HL6:L.length+1=i+(k+1):=by have:=HL.out;omega
    go_roundw
    case rel=>exact ⟨i,k+1,L ++ [(u,A4,n4,c4)],A5,c5,by omega,by omega,by go_num,by go_num,by first | rw [HL6] | rfl,HL5,HJ2,HO5,HB5⟩
    case measure=>simp [intOf];omega
  ·obtain rfl:k=n':=by omega
   have dkm:((k:Int) == (k:Int))=true:=by simp
   by_cases hin:i < n
   ·obtain ⟨b1,o1,x,rfl,hb1,HX,e1,e2⟩:=(H1.out.blw (HB.out.mono hB1)).one hin
    obtain ⟨t,A3,n3,c3⟩:=x
    dsimp only at e1 e2
    have HJ2:Hid (L ++ [(t,A3,n3,c3)] ++ mrgBy mxw (a.drop (i+1)) (b.drop (k))=M):=(show _=_ by rw [← HJ.out,mx_takeA HX.out (.inl (by rw [HL2.out];exact Nat.le_refl _)),List.append_assoc];rfl)
    have HOq:=Lib.hid (fun (q:Nat)=>HO.out.drewN q)
    have HBq:=Lib.hid (fun (q:Nat)=>bdrewN HB.out q)
    have HC0:=Lib.hid (fun (q:Nat)=>show (wr.drewN q).cell? _=_ from e1)
    have HC1:=Lib.hid (fun (q:Nat)=>show (wr.drewN q).cell? _=_ from e2)
    clear HJ
    go_wp2_with fail
    go_quiet (fail)
    have k0:=HC0.out nq
    have k1:=HC1.out nq
    have HO4:=Lib.hid (HOq.out nq)
    have HB4:=Lib.hid (HBq.out nq)
    have hz4:=HB4.out.size
    clear HO HB HOq HBq HC0 HC1
    generalize wr.drewN nq=wq at *
    go_wp2_with (at_builtin;go_must (refine wpList_appendE rfl (.tmp 41) (.tmp 46) rfl w.heap.size (.slice Ao (i+k) co) L rfl (ownE.alloc HO4.out _) (wq.heap.size+1) 1 1 (some ⟨wq.heap.size,0,none⟩) [(t,A3,n3,c3)] rfl (rd_oneE wq (t,A3,n3,c3) _ _) (by have:=HL.out;omega) (by simp;omega) ?_;intro v1 w3 hown hgb hbl hat;obtain ⟨A5,c5,rfl,hr5,-,-⟩:=hown.form;have HO5:=Lib.hid hown;have HB5:=Lib.hid ((HB4.out.alloc hz4 (.cells (eE (t,A3,n3,c3)).toArray 203)).trans hbl);clear hown hgb hbl hat hr5))
    have HL5:Hid ((L ++ [(t,A3,n3,c3)]).length=i+1+k):=(show _=_ by have:=HL.out;simp;omega)
    rw [HL5.out] at HO5
    have HL6:L.length+1=i+1+k:=by have:=HL.out;omega
    go_roundw
    case rel=>exact ⟨i+1,k,L ++ [(t,A3,n3,c3)],A5,c5,by omega,by omega,by go_num,by go_num,by first | rw [HL6] | rfl,HL5,HJ2,HO5,HB5⟩
    case measure=>simp [intOf];omega
   ·obtain rfl:i=n:=by omega
    have HE:Hid (L=M):=(show _=_ by
     have:=HJ.out
     rw [List.drop_eq_nil_of_le (by rw [HL1.out];exact Nat.le_refl _),List.drop_eq_nil_of_le (by rw [HL2.out];exact Nat.le_refl _)] at this
     simpa [mrgBy] using this)
    rw [HE.out] at HO
    go_wp2_with fail
    go_ret
    exact ⟨Ao,_,co,rfl,rfl,HO.out,HB.out⟩
end Go.Proofs.YteoolehdomjkkaaGreat

