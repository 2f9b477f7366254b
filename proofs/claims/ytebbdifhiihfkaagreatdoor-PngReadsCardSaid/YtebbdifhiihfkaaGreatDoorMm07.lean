/- XRowQ XPc5 XPc6 -/
import Derived.Test.YtebbdifhiihfkaaGreatDoorMm01
import Derived.Test.YtebbdifhiihfkaaGreatDoorMm06
import Derived.Deep.RegionHeld3
namespace Go.Proofs.YtebbdifhiihfkaaGreatDoor
set_option linter.all false
set_option maxRecDepth 100000
open Go.RowKit
def eQ(x:(List UInt8×Option Addr×Nat×Nat)):List Value:=[Value.string ⟨x.1.toArray⟩,Value.slice x.2.1 x.2.2.1 x.2.2.2]
theorem zi8(x:(List UInt8×Option Addr×Nat×Nat)):(eQ x).length=2:=rfl
/-- The cells of a list. -/
def cQ(l:List (List UInt8×Option Addr×Nat×Nat)):List Value:=l.flatMap eQ
theorem zcC:∀l:List (List UInt8×Option Addr×Nat×Nat),(cQ l).length=l.length*2
 | []=>rfl
 |x :: l=>by
  have:=zcC l;unfold cQ at this ⊢;rw[List.flatMap_cons,lla,this,zi8,List.length_cons];omega
theorem zfD(a b:List (List UInt8×Option Addr×Nat×Nat)):cQ (a++b)=cQ a++cQ b:=by simp[cQ]
theorem zrn(x:(List UInt8×Option Addr×Nat×Nat)):cQ [x]=eQ x:=by simp[cQ]
theorem zml:∀(l:List (List UInt8×Option Addr×Nat×Nat)) (k j:Nat) (g:k<l.length),j<2->(cQ l)[k*2+j]?=(eQ l[k])[j]?
 |x :: l,0,j,_,hj=>by
  unfold cQ;rw[List.flatMap_cons,List.getElem?_append_left (by rw[zi8];omega)];simp
 |x :: l,i+1,j,hi,hj=>by
  have:=zml l i j (by simpa using hi) hj;unfold cQ at this ⊢;rw[List.flatMap_cons,List.getElem?_append_right (by rw[zi8];omega),zi8,List.getElem_cons_succ,<-this]
  congr 1
  omega
theorem zro(l:List (List UInt8×Option Addr×Nat×Nat)):∀u∈cQ l,u.oneCell'=true:=by
 intro u g;simp only[cQ,List.mem_flatMap] at g;obtain⟨x,_,hx⟩:=g;simp only[eQ,List.mem_cons,List.not_mem_nil,or_false] at hx;rcases hx with rfl|rfl<;>rfl
theorem Tryz.info_Q:(Tryz.prog.info? 33).map (fun i=>(i.zero,i.size,i.bytes))=some (some (.agg #[.string ⟨#[]⟩,.slice none 0 0]),2,40):=by kernel_rfl
def ownQ(w:World)(base:Nat)(v:Value)(l:List (List UInt8×Option Addr×Nat×Nat)):Prop:=w.ownsRow base 33 2 v l.length (cQ l)
def RdQ(w:World)(B:Nat)(A:Option Addr)(n:Nat)(l:List (List UInt8×Option Addr×Nat×Nat)):Prop:=Rd w B 2 A n (cQ l)
theorem RdQ.len{w:World}{B n:Nat}{A:Option Addr}{l:List (List UInt8×Option Addr×Nat×Nat)}(h:RdQ w B A n l):l.length=n:=by
 have:=h.1;rw[zcC] at this;omega
theorem RdQ.one{w:World}{B n:Nat}{A:Option Addr}{l:List (List UInt8×Option Addr×Nat×Nat)}(h:RdQ w B A n l){k:Nat}(s:k<n):
  ∃b o x,A=some ⟨b,o,none⟩/\b<B/\Hid (l[k]?=some x)/\w.cell? ⟨b,o+k*2,none⟩=some (Value.string ⟨x.1.toArray⟩)/\w.cell? ⟨b,o+k*2+1,none⟩=some (Value.slice x.2.1 x.2.2.1 x.2.2.2):=by
 obtain⟨b,o,e,r,q⟩:=h.2 (by omega);have t:=h.len;have g:k<l.length:=by omega
 refine⟨b,o,l[k],e,r,lge g,?_,?_⟩
 ·exact q (k*2) _ ((zml l k 0 g (by omega)).trans rfl)
 ·exact q (k*2+1) _ ((zml l k 1 g (by omega)).trans rfl)
theorem RdQ.blw{w w':World}{B n:Nat}{A:Option Addr}{l:List (List UInt8×Option Addr×Nat×Nat)}(h:RdQ w B A n l)(g:Below B w w'):RdQ w' B A n l:=Rd.below h g
theorem RdQ.here{w:World}{B n:Nat}{A:Option Addr}{l:List (List UInt8×Option Addr×Nat×Nat)}(h:RdQ w B A n l):RdQ w w.heap.size A n l :=
 ⟨h.1,fun q=>by
  obtain⟨b,o,e,s,g⟩:=h.2 q;have r:=h.1;exact⟨b,o,e,block_lt_of_cell (a:=⟨b,o+0,none⟩) (g 0 (cQ l)[0] (lge (by omega))),g⟩⟩
theorem RdQ.later{w w':World}{n:Nat}{A:Option Addr}{l:List (List UInt8×Option Addr×Nat×Nat)}(h:RdQ w w.heap.size A n l)(g:Below w.heap.size w w'):RdQ w' w'.heap.size A n l:=RdQ.here (RdQ.blw h g)
theorem RdQ.alloc{w:World}{B n:Nat}{A:Option Addr}{l:List (List UInt8×Option Addr×Nat×Nat)}(h:RdQ w B A n l)(g:B<=w.heap.size)(o:Obj):RdQ (w.alloc o) B A n l:=Rd.alloc h g o
theorem RdQ.nil_{w:World}{B:Nat}{A:Option Addr}:RdQ w B A 0 []:=⟨by simp[cQ],fun h=>absurd h (by omega)⟩
theorem RdQ.cut{w:World}{B n:Nat}{A:Option Addr}{l:List (List UInt8×Option Addr×Nat×Nat)}(h:RdQ w B A n l){k m:Nat}(g:k+m<=n){A':Option Addr}(o:0<m->A'=A.map (·.add (k*2))):
  RdQ w B A' m ((l.drop k).take m):=by
 have:=Rd.cut h g (A':=A') o;unfold RdQ;have s:∀(q:Nat) (l:List (List UInt8×Option Addr×Nat×Nat)),cQ (l.take q)=(cQ l).take (q*2):=fun q l=>by
  rcases Nat.lt_or_ge q l.length with hq|hq
  ·conv=>rhs;rw[<-List.take_append_drop q l,zfD]
   rw[List.take_left' (by rw[zcC,llt,Nat.min_eq_left (by omega)])]
  ·rw[List.take_of_length_le hq,List.take_of_length_le (by rw[zcC];exact Nat.mul_le_mul_right _ hq)]
 have r:∀(q:Nat) (l:List (List UInt8×Option Addr×Nat×Nat)),cQ (l.drop q)=(cQ l).drop (q*2):=fun q l=>by
  rcases Nat.lt_or_ge q l.length with hq|hq
  ·conv=>rhs;rw[<-List.take_append_drop q l,zfD]
   rw[List.drop_left' (by rw[zcC,llt,Nat.min_eq_left (by omega)])]
  ·rw[List.drop_eq_nil_of_le hq,List.drop_eq_nil_of_le (by rw[zcC];exact Nat.mul_le_mul_right _ hq)]
   rfl
 rw[s,r];exact this
theorem ownQ.nil_(w:World)(base:Nat):ownQ w base (.slice none 0 0) []:=World.ownsRow_nil _ _ _ _
theorem ownQ.later{w w':World}{base:Nat}{v:Value}{l:List (List UInt8×Option Addr×Nat×Nat)}(h:ownQ w base v l)(o:Below w.heap.size w w'):ownQ w' base v l :=
 Below.ownsRow h o (fun g hg=>(olt h g hg).2)
theorem ownQ.alloc{w:World}{base:Nat}{v:Value}{l:List (List UInt8×Option Addr×Nat×Nat)}(h:ownQ w base v l)(o:Obj):ownQ (w.alloc o) base v l:=World.ownsRow.alloc h o
theorem ownQ.form{w:World}{base:Nat}{v:Value}{l:List (List UInt8×Option Addr×Nat×Nat)}(h:ownQ w base v l):
  ∃A c,v=.slice A l.length c/\RdQ w w.heap.size A l.length l/\l.length<=c/\c<=maxLen:=by
 rcases h.2 with⟨rfl,h0⟩ | ⟨g,q,o,rfl,_,_,h1,h2,_⟩
 ·have:l=[]:=List.eq_nil_of_length_eq_zero h0
  subst this;exact⟨none,0,rfl,Rd.none_,by simp,by simp⟩
 ·exact⟨_,_,rfl,Rd.of_own h,h1,h2⟩
/-- One element that lies in a block, whole. -/
theorem zn3(w:World)(x:(List UInt8×Option Addr×Nat×Nat))(t:TypeId)(fr:Nat×Nat):RdQ (w.alloc (.cells (eQ x).toArray t fr)) (w.heap.size+1) (some ⟨w.heap.size,0,none⟩) 1 [x]:=by
 refine⟨by rw[zcC];rfl,fun _=>⟨_,_,rfl,by omega,fun j u g=>?_⟩⟩;rw[Nat.zero_add];have:=cell_of_row (w.alloc (.cells (eQ x).toArray t fr)) w.heap.size j (eQ x).toArray t fr (heap_alloc_new w _);rw[this];rw[zrn] at g
 simpa using g
theorem zm5(w:World)(base:Nat)(H:TypeId)(v:Value)(l:List (List UInt8×Option Addr×Nat×Nat))(r:ownQ w base v l)(B m c:Nat)(A:Option Addr)(q:List (List UInt8×Option Addr×Nat×Nat))(hr:RdQ w B A m q)
  (T:l.length+m<=1099511627776) (t:base<=w.heap.size) :
  ∃v' w',(Builtin.append_ #[25,25] H #[v,.slice A m c]).run Tryz.prog w=.ok v' w'/\ownQ w' base v' (l++q)/\w.grownBy w' v.ownBlock /\
   (v'.ownBlock=v.ownBlock\/v'.ownBlock=some w.heap.size)/\(v'=.slice none 0 0↔v=.slice none 0 0/\m=0):=by
 obtain⟨O,hi,E,F,D⟩:=info_parts Tryz.info_Q;have J:=hr.len;subst J;unfold ownQ;rw[lla,zfD];rcases A with _|ad
 ·have G:q=[]:=by
   rcases Nat.eq_zero_or_pos q.length with h0|h0
   ·exact List.eq_nil_of_length_eq_zero h0
   ·obtain⟨b,o,h,_⟩:=hr.2 h0
    cases h
  subst G;refine⟨v,w,?_,by simpa [cQ,ownQ] using r,World.grownBy.refl w _,.inl rfl,by simp⟩;rcases r.2 with⟨rfl,h0⟩ | ⟨g,N,R,rfl,_,_,C,_⟩
  ·simp[Builtin.append_,run_underlying Tryz.underlying25,sizeOf,typeInfo,hi,Builtin.lenOf,Builtin.firstCells]
  ·simp[Builtin.append_,run_underlying Tryz.underlying25,sizeOf,typeInfo,hi,Builtin.lenOf,Builtin.firstCells,C,storeCells]
 ·have s:∀j u,(cQ q)[j]?=some u->w.cell? (ad.add j)=some u:=by
   intro j u I;rcases Nat.eq_zero_or_pos q.length with h0|h0
   ·have G:q=[]:=List.eq_nil_of_length_eq_zero h0
    subst G;simp[cQ] at I
   ·obtain⟨b,o,h,_,S⟩:=hr.2 h0
    injection h with h;subst h;rw[zaS];exact S j u I
  obtain⟨v',w',z,h2,M,h4,L⟩:=run_append_own_at (P:=Tryz.prog) w base 25 H 33 O _ 2 40 Tryz.underlying25 hi E F D rfl (by omega) v l.length (cQ l) r ad q.length c (cQ q) (by rw[zcC]) s (zro _) (by unfold maxLen;omega) (by omega) t;exact⟨v',w',z,h2,M,L,h4⟩
/-- append(v, x...): v the call's own, x whatever. -/
theorem zjP{w:World}{ops:Array Oper}{rest:List Oper}{o:Oper}{a:Act}{Q:Exit->Act->World->Prop}(u:o.guard=none)(s x:Operand)
  (E:o.op=.call { callee:=.builtin .append,args:=#[s,x],argTypes:=#[25,25] })
  (base:Nat) (v:Value) (l:List (List UInt8×Option Addr×Nat×Nat)) (hs:a.eval s=v) (r:ownQ w base v l) (B m c:Nat) (A:Option Addr) (q:List (List UInt8×Option Addr×Nat×Nat)) (hx:a.eval x=.slice A m c) (hr:RdQ w B A m q)
  (F:l.length+m<=1099511627776) (g:base<=w.heap.size)
  (h:∀v' w',ownQ w' base v' (l++q)->w.grownBy w' v.ownBlock->Below base w w'->(v'.ownBlock=v.ownBlock\/v'.ownBlock=some w.heap.size)->wpList Tryz.prog ops Q rest (a.put o.dst v') w') :
  wpList Tryz.prog ops Q (o :: rest) a w:=by
 refine wpList_plain u fun K D=>?_
 obtain⟨v',w',t,h2,z,h4,_⟩:=zm5 w base o.type v l r B m c A q hr F g;unfold Oper.wp execOp;simp only[E,resolve,invoke,builtin,Sem.run_bind,Sem.run_pure,Result.andThen_ok,List.map_toArray,List.map_cons,List.map_nil,hs,hx,t];exact D _ _ (h v' w' h2 z ((Below.refl _ _).grown z g (fun k C=>(olt r k C).1)) h4)
end Go.Proofs.YtebbdifhiihfkaaGreatDoor

/- png: rows of chunks. -/
namespace Go.Proofs.YtebbdifhiihfkaaGreatDoor
set_option linter.all false
open Go.RowKit
abbrev CQ:=List UInt8×Option Addr×Nat×Nat
/-- Bytes that lie beside block T. -/
def DAt(w:World)(T:Option Nat)(A:Option Addr)(bs:List UInt8):Prop :=
 RdB w w.heap.size A bs.length bs/\∃g,A=some ⟨g,0,none⟩/\g<w.heap.size/\some g≠T
theorem DAt.grow{w w':World}{T r:Option Nat}{A:Option Addr}{bs:List UInt8}(h:DAt w T A bs)(hs:w.heap.size<=w'.heap.size)(C:∀b,b<w.heap.size->some b≠T->w'.heap[b]?=w.heap[b]?)(s:∀b,b<w.heap.size->some b≠T->some b≠r):DAt w' r A bs:=by
 obtain⟨⟨h1,h2⟩,g,rfl,hg,q⟩:=h;refine⟨⟨h1,fun z=>?_⟩,g,rfl,Nat.lt_of_lt_of_le hg hs,s g hg q⟩;obtain⟨b,o,e,hlt,B⟩:=h2 z;injection e with e;injection e with E t;subst E t;refine⟨g,0,rfl,Nat.lt_of_lt_of_le hg hs,fun j u D=>?_⟩;rw[World.cell?_of_block (w:=w) (w':=w') (a:=⟨g,0+j,none⟩) (C g hg q)];exact B j u D
theorem DAt.gro{w w':World}{T o:Option Nat}{A:Option Addr}{bs:List UInt8}(h:DAt w T A bs)(hg:w.grownBy w' T)(ht:o=T\/o=some w.heap.size):DAt w' o A bs :=
 h.grow hg.size (fun b q g=>hg.block b q g) (fun b q g=>by
  rcases ht with rfl|rfl
  ·exact g
  ·intro e;injection e with e;omega)
theorem DAt.later{w w':World}{T:Option Nat}{A:Option Addr}{bs:List UInt8}(h:DAt w T A bs)(g:Below w.heap.size w w'):DAt w' T A bs :=
 h.grow g.size (fun b hlt _=>g.block b hlt) (fun _ _ h=>h)
theorem DAt.new{w w':World}{T:Option Nat}{A:Option Addr}{c:Nat}{bs:List UInt8}(h:ownB w' w.heap.size (.slice A bs.length c) bs)(o:(Value.slice A bs.length c).ownBlock≠none)(r:∀g,T=some g->g<w.heap.size):DAt w' T A bs:=by
 refine⟨h.rd,?_⟩;rcases h.2 with⟨e,_⟩ | ⟨g,s,q,e,hg,_⟩
 ·rw[e] at o;exact absurd rfl o
 ·injection e with t u z
  subst t;have hlt:=(olt h g rfl).2;exact⟨g,rfl,hlt,fun e=>by have:=r g e.symm;omega⟩
/-- What a row of chunks reads, the data beside block T. -/
def CR(w:World)(T:Option Nat)(l:List CQ)(p:List CK):Prop :=
 l.length=p.length/\∀(i:Nat) k d,p[i]?=some (k,d)->∃A c,l[i]?=some (k,A,d.length,c)/\d.length<=c/\DAt w T A d
theorem CR.nil(w:World)(T:Option Nat):CR w T [] []:=⟨rfl,fun i k d e=>by simp at e⟩
theorem CR.gro{w w':World}{T g:Option Nat}{l:List CQ}{p:List CK}(h:CR w T l p)(hg:w.grownBy w' T)(ht:g=T\/g=some w.heap.size):CR w' g l p :=
 ⟨h.1,fun i k d e=>by
  obtain⟨A,c,h1,h2,o⟩:=h.2 i k d e;exact⟨A,c,h1,h2,o.gro hg ht⟩⟩
theorem CR.later{w w':World}{T:Option Nat}{l:List CQ}{p:List CK}(h:CR w T l p)(g:Below w.heap.size w w'):CR w' T l p :=
 ⟨h.1,fun i k d e=>by
  obtain⟨A,c,h1,h2,o⟩:=h.2 i k d e;exact⟨A,c,h1,h2,o.later g⟩⟩
theorem CR.alloc{w:World}{T:Option Nat}{l:List CQ}{p:List CK}(h:CR w T l p)(o:Obj):CR (w.alloc o) T l p:=h.later ((Below.refl w.heap.size w).alloc (nlr _) o)
theorem CR.snoc{w:World}{T:Option Nat}{l:List CQ}{p:List CK}(h:CR w T l p){k d:List UInt8}{A:Option Addr}{c:Nat}(u:DAt w T A d)(t:d.length<=c):CR w T (l++[(k,A,d.length,c)]) (p++[(k,d)]):=by
 refine⟨by simp[h.1],fun i s r e=>?_⟩;by_cases hi:i<p.length
 ·rw[List.getElem?_append_left hi] at e
  obtain⟨A2,c2,h2,q⟩:=h.2 i s r e;exact⟨A2,c2,by rw[List.getElem?_append_left (by rw[h.1];exact hi)];exact h2,q⟩
 ·rw[List.getElem?_append_right (by omega)] at e
  have g:i-p.length=0:=by
   refine Decidable.byContradiction fun o=>?_
   rw[List.getElem?_eq_none (by simp;omega)] at e;cases e
  rw[g] at e;simp only[List.getElem?_cons_zero,Option.some.injEq,Prod.mk.injEq] at e;obtain⟨rfl,rfl⟩:=e;refine⟨A,c,?_,t,u⟩;rw[List.getElem?_append_right (by rw[h.1];omega),h.1,g];rfl
/-- One chunk of a row. -/
theorem CR.one{w:World}{T:Option Nat}{l:List CQ}{p:List CK}(h:CR w T l p){i:Nat}(hi:i<p.length):∃k d A c,p[i]?=some (k,d)/\l[i]?=some (k,A,d.length,c)/\d.length<=c/\RdB w w.heap.size A d.length d:=by
 obtain⟨⟨k,d⟩,e⟩:∃x,p[i]?=some x:=⟨_,lge hi⟩;obtain⟨A,c,h1,h2,g⟩:=h.2 i k d e;exact⟨k,d,A,c,e,h1,h2,g.1⟩
theorem CR.take{w:World}{T:Option Nat}{l:List CQ}{p:List CK}(h:CR w T l p)(n:Nat):CR w T (l.take n) (p.take n):=by
 refine⟨by rw[llt,llt,h.1],fun i k d e=>?_⟩;rw[List.getElem?_take] at e;split at e
 ·rename_i hi
  obtain⟨A,c,h1,h2⟩:=h.2 i k d e;exact⟨A,c,by rw[List.getElem?_take,if_pos hi];exact h1,h2⟩
 ·cases e
end Go.Proofs.YtebbdifhiihfkaaGreatDoor

/- png: all chunks of a file. -/
namespace Go.Proofs.YtebbdifhiihfkaaGreatDoor
set_option linter.all false
set_option maxRecDepth 100000
set_option maxHeartbeats 6400000
open Go.RowKit
theorem CR.any{w:World}{T:Option Nat}{l:List CQ}{p:List CK}(h:CR w T l p):CR w none l p :=
 ⟨h.1,fun i k d e=>by
  obtain⟨A,c,h1,h2,o,g,h4,q,-⟩:=h.2 i k d e;exact⟨A,c,h1,h2,o,g,h4,q,fun e=>by cases e⟩⟩
theorem zo4(B n c z m t:Nat)(A A':Option Addr)(xs o:List UInt8)(w:World)(h:RdB w B A n xs)(u:RdB w z A' m o)(E:n<=c):
  Calls Tryz.prog 20 #[.slice A n c,.slice A' m t] w fun e w'=>e=.returned (.bool (xs.take m==o))/\w=w':=by
 have r:=h.len;have g:=u.len;by_cases hm:m<=n
 ·have q:(m:Int)<=(n:Int):=by omega
  have C:(m:Int)<=(c:Int):=by omega
  have s:m<=c:=by omega
  have D:=yo (fun c3=>zpB B m c3 z m t A A' (xs.take m) o w (RdB.pre h hm) u);clear r g;go_enter Tryz.func20,Tryz.ntmps20;go_wp2_with (go_at_call 47;(with_reducible refine(D.o _).mono ?_);go_must (rintro e w1 ⟨rfl,rfl⟩));go_ret;exact⟨rfl,rfl⟩
 ·have q:¬(m:Int)<=(n:Int):=by omega
  have e:(xs.take m==o)=false:=by
   rw[beq_eq_false_iff_ne];intro e;have:=congrArg List.length e;rw[llt] at this;omega
  rw[e];clear e r g;go_enter Tryz.func20,Tryz.ntmps20;go_wp2_with fail;go_ret;exact⟨rfl,rfl⟩
def zaZ(bs:List UInt8)(w:World)(e:Ending)(w':World):Prop :=
 ∃A n c l,e=.returned (.tuple #[.slice A n c,.int .i64 ((zab bs).1:Int)])/\RdQ w' w'.heap.size A n l/\CR w' none l (zab bs).2/\n<=c/\Below w.heap.size w w'
theorem zdZ(B n c:Nat)(A:Option Addr)(bs:List UInt8)(w:World)(h:RdB w B A n bs)(hB:B<=w.heap.size)(hc:n<=c)(hn:n<=1000000):
  Calls Tryz.prog 9 #[.slice A n c] w fun e w'=>zaZ bs w e w':=by
 have hl:=h.len;have kc:=zf6;have D:=yo ((Below.refl w.heap.size w).alloc (nlr _) (.cells #[.int .u8 137,.int .u8 80,.int .u8 78,.int .u8 71,.int .u8 13,.int .u8 10,.int .u8 26,.int .u8 10] 5 (8,9)));have O:=yo (zo4 B n c (w.heap.size+1) 8 8 A (some ⟨w.heap.size,0,none⟩) bs markL (w.alloc (.cells (cb markL).toArray 5 (8,9))) (Rd.alloc h hB _) (zgG w 5 (8,9) markL) hc);have U:(cb markL).toArray=#[.int .u8 137,.int .u8 80,.int .u8 78,.int .u8 71,.int .u8 13,.int .u8 10,.int .u8 26,.int .u8 10]:=rfl;rw[U] at O;clear U;obtain⟨w1,ah⟩:∃w1,w.alloc (.cells #[.int .u8 137,.int .u8 80,.int .u8 78,.int .u8 71,.int .u8 13,.int .u8 10,.int .u8 26,.int .u8 10] 5 (8,9))=w1:=⟨_,rfl⟩;rw[ah] at D O;have HR:=yo h;have ae:=yo hB;have u:=yo hl;clear h hB hl;by_cases hm:bs.take 8=markL
 ·have t:(bs.take 8==markL)=true:=by rw[hm];exact beq_self_eq_true _
  rw[t] at O;have F:Hid (zab bs=ckF bs n 8 []):=(show _=_ by unfold zab;rw[if_pos hm,u.o]);have h8:8<=n:=by rw[<-u.o];exact zlk hm
  clear hm t;go_enter Tryz.func9,Tryz.ntmps9;go_wp2_with (go_at_call 20;(with_reducible refine O.o.mono ?_);go_must (rintro e w2 ⟨rfl,rfl⟩));clear ah O kc;go_loopw [4,5] (fun vl va wr=>∃(k f:Nat) (o:List CK) (C:List CQ),k<=n/\va=.int .i64 (k:Int)/\Hid (ckF bs n 8 []=ckF bs f k o)/\Hid (n<=k+f)/\Hid (ownQ wr w.heap.size vl C)/\Hid (CR wr vl.ownBlock C o)/\Hid (Below w.heap.size w wr)/\Hid (zbo o<=k)) (fun _ va _=>n-(intOf va).toNat)
  case atStart=>exact⟨8,n,[],[],h8,rfl,rfl,(show n<=8+n by omega),ownQ.nil_ _ _,CR.nil _ _,D.o,(show 0<=8 by omega)⟩
  case round =>
   clear D;obtain⟨k,f,o,C,hk,rfl,HE,HF,HO,M,X,HT⟩:=hrel;have hz:=X.o.size;have Y:=yo (RdB.blw HR.o (X.o.mono ae.o));have ag:B<=wr.heap.size:=nlt ae.o hz;by_cases hlt:k<n
   ·have V:(k:Int)<(n:Int):=by omega
    have s:k<bs.length:=(by rw[u.o];exact hlt);obtain⟨f,rfl⟩:∃g,f=g+1:=⟨f-1,by have:=HF.o;omega⟩;by_cases h0:nxE bs k=0
    ·have z:=yo (ziA (f:=f) s h0 o)
     obtain⟨z1,z2,z3,z4⟩:=zh7 h0;have ac:=(zhz h0).2;rw[u.o] at z3;have J:=yo (ztK B n c k A bs wr Y.o ag hc hn z1 z2 z3 z4);have a2:C.length<=1000000:=(by have h1:=M.o.1;have h2:=zbU o;have h3:=HT.o;omega);have am:Hid (zbo (o++[(nxK bs k,nxD bs k)])<=k+(nxL bs k+12)):=(show _<=_ by
      rw[ze9];show zbo o+((nxD bs k).length+12+0)<=_;have:=HT.o;omega)
     have az:=yo ac;obtain⟨Al,cl,rfl,-,-,-⟩:=HO.o.form;clear h0 z1 z2 z4 s ac;have aq:Hid (∀g,(Value.slice Al C.length cl).ownBlock=some g->g<wr.heap.size):=(show ∀g,_ from fun g hg=>(olt HO.o g hg).2);generalize nxL bs k=L at *;generalize nxK bs k=kk at *;generalize nxD bs k=dd at *;have a0:IntKind.i64.wrap ((k:Int)+((L:Int)+12))=(k:Int)+((L:Int)+12):=by rw[show(k:Int)+((L:Int)+12)=((k+(L+12):Nat):Int) by omega];exact zaa _ (by omega)
     have ay:k+(L+12)<=n:=(by omega);have al:Hid ((k:Int)+((L:Int)+12)=((k+(L+12):Nat):Int)):=(show _=_ by omega);clear z3;go_wp2_with (first
      |(go_at_call 21;(with_reducible refine J.o.mono ?_);go_must (rintro e H ⟨v5,rfl,I,q,S⟩;obtain⟨r,c5,rfl,-,T,-⟩:=I.form;have ar:=yo T;have ai:=yo (DAt.new I S aq.o);have an:=q.size;have Z:=yo (((M.o.later q).alloc (.cells #[.string ⟨kk.toArray⟩,.slice r dd.length c5] 33)).alloc (.cells #[.string ⟨kk.toArray⟩,.slice r dd.length c5] 33));have au:=yo (ownQ.alloc (ownQ.alloc (HO.o.later q) (.cells #[.string ⟨kk.toArray⟩,.slice r dd.length c5] 33)) (.cells #[.string ⟨kk.toArray⟩,.slice r dd.length c5] 33));have N:=yo (((X.o.trans (q.mono hz)).alloc (nlt hz an) (.cells #[.string ⟨kk.toArray⟩,.slice r dd.length c5] 33)).alloc (by rw[wsa];omega) (.cells #[.string ⟨kk.toArray⟩,.slice r dd.length c5] 33));have ax:Hid (RdQ ((H.alloc (.cells #[.string ⟨kk.toArray⟩,.slice r dd.length c5] 33)).alloc (.cells #[.string ⟨kk.toArray⟩,.slice r dd.length c5] 33)) (H.heap.size+1+1) (some ⟨H.heap.size+1,0,none⟩) 1 [(kk,r,dd.length,c5)]):=(show RdQ _ _ _ _ _ from(by have:=zn3 (H.alloc (.cells #[.string ⟨kk.toArray⟩,.slice r dd.length c5] 33)) (kk,r,dd.length,c5) 33 (0,0);rw[wsa] at this;exact this));have av:w.heap.size<=((H.alloc (.cells #[.string ⟨kk.toArray⟩,.slice r dd.length c5] 33)).alloc (.cells #[.string ⟨kk.toArray⟩,.slice r dd.length c5] 33)).heap.size:=(by rw[wsa,wsa];omega);clear I q S T))
      |(at_builtin;(refine zjP rfl (.tmp 28) (.tmp 30) rfl w.heap.size (.slice Al C.length cl) C rfl au.o _ 1 1 (some ⟨H.heap.size+1,0,none⟩) [(kk,r,dd.length,c5)] rfl ax.o (by omega) av ?_;intro v7 w7 R ab aa G;have aj:=yo R;have aw:=yo ab;have ap:=yo (N.o.trans aa);have P:=yo G;clear R ab aa G)))
     go_roundw
     case rel =>
      refine⟨k+(L+12),f,o++[(kk,dd)],C++[(kk,r,dd.length,c5)],ay,?_,HE.o.trans z.o,(show n<=k+(L+12)+f by have:=HF.o;omega),aj.o,?_,ap.o,am.o⟩
      ·first|rfl|(rw[al.o])|go_num
      ·exact CR.gro ((Z.o).snoc (DAt.later (DAt.later ai.o ((Below.refl _ _).alloc (nlr _) _)) ((Below.refl _ _).alloc (nlr _) _)) ar.o) aw.o P.o
     case measure=>simp[intOf];omega
    ·have z:=yo (zhx (f:=f) s h0 o)
     have J:=yo (zrY B n c k A bs wr Y.o ag hc hn hlt h0);have a1:((nxE bs k:Int) != 0)=true:=(by rw[bne_iff_ne];omega);clear h0 s;generalize nxE bs k=E at *;go_wp2_with (go_at_call 21;(with_reducible refine J.o.mono ?_);go_must (rintro e H ⟨rfl,q⟩;have N:=yo ((X.o.trans (q.mono hz)).alloc (nlt hz q.size) (.cells #[.string ⟨#[]⟩,.slice none 0 0] 33));clear q));go_ret2;unfold zaZ;rw[F.o,HE.o,z.o];exact⟨none,0,0,[],rfl,RdQ.nil_,CR.nil _ _,nlr _,N.o⟩
   ·have V:¬(k:Int)<(n:Int):=by omega
    have z:=yo (zhw (bs:=bs) (k:=k) (by rw[u.o];exact hlt) o f);obtain⟨Al,cl,rfl,af,W,-⟩:=HO.o.form;have ao:=yo af;have ak:=yo W;clear af W;go_wp2_with fail;go_ret2;unfold zaZ;rw[F.o,HE.o,z.o];exact⟨Al,C.length,cl,C,rfl,ao.o,M.o.any,ak.o,X.o⟩
 ·have t:(bs.take 8==markL)=false:=by rw[beq_eq_false_iff_ne];exact hm
  rw[t] at O;have F:Hid (zab bs=(4,[])):=(show _=_ by unfold zab;rw[if_neg hm]);clear hm t;go_enter Tryz.func9,Tryz.ntmps9;go_wp2_with (go_at_call 20;(with_reducible refine O.o.mono ?_);go_must (rintro e w2 ⟨rfl,rfl⟩));go_ret2;unfold zaZ;rw[F.o];exact⟨none,0,0,[],rfl,RdQ.nil_,CR.nil _ _,nlr _,D.o⟩
end Go.Proofs.YtebbdifhiihfkaaGreatDoor

