/- XRowI XArr XLz0 -/
import Derived.Test.YtebbdifhiihfkaaGreatDoorMm01
import Derived.Maps.OwnSet
import Derived.DeepKeys5
namespace Go.Proofs.YtebbdifhiihfkaaGreatDoor
set_option linter.all false
set_option maxRecDepth 100000
open Go.RowKit
/-- The cells of a list. -/
def cI(l:List Int):List Value:=l.map fun x=>Value.int .i64 x
theorem zpI(l:List Int):(cI l).length=l.length:=by simp[cI]
theorem zpJ(a b:List Int):cI (a++b)=cI a++cI b:=by simp[cI]
theorem zpK{l:List Int}{k:Nat}(h:k<l.length):(cI l)[k]?=some ((fun x:Int=>Value.int .i64 x) l[k]):=by simp[cI,h]
theorem zfP(l:List Int):∀u∈cI l,u.oneCell'=true:=by
 intro u g;simp only[cI,List.mem_map] at g;obtain⟨b,_,rfl⟩:=g;rfl
theorem Tryz.info_I:(Tryz.prog.info? 3).map (fun i=>(i.zero,i.size,i.bytes))=some (some (Value.int .i64 0),1,8):=by kernel_rfl
def ownI(w:World)(base:Nat)(v:Value)(l:List Int):Prop:=w.ownsRow base 3 1 v l.length (cI l)
def RdI(w:World)(B:Nat)(A:Option Addr)(n:Nat)(l:List Int):Prop:=Rd w B 1 A n (cI l)
theorem RdI.len{w:World}{B n:Nat}{A:Option Addr}{l:List Int}(h:RdI w B A n l):l.length=n:=by
 have:=h.1;rw[zpI] at this;omega
theorem RdI.at_{w:World}{B n:Nat}{A:Option Addr}{l:List Int}(h:RdI w B A n l)(q:0<n):
  ∃b o,A=some ⟨b,o,none⟩/\b<B/\∀j (g:j<l.length),w.cell? ⟨b,o+j,none⟩=some ((fun x:Int=>Value.int .i64 x) l[j]):=by
 obtain⟨b,o,e,s,r⟩:=h.2 q;exact⟨b,o,e,s,fun j g=>r j _ (zpK g)⟩
theorem RdI.one{w:World}{B n:Nat}{A:Option Addr}{l:List Int}(h:RdI w B A n l){k:Nat}(r:k<n):
  ∃b o x,A=some ⟨b,o,none⟩/\b<B/\Hid (l[k]?=some x)/\w.cell? ⟨b,o+k,none⟩=some (Value.int .i64 x):=by
 obtain⟨b,o,e,q,g⟩:=h.at_ (by omega);have s:=h.len;exact⟨b,o,l[k],e,q,lge (by omega),g k (by omega)⟩
theorem RdI.blw{w w':World}{B n:Nat}{A:Option Addr}{l:List Int}(h:RdI w B A n l)(g:Below B w w'):RdI w' B A n l:=Rd.below h g
theorem RdI.more{w:World}{B g n:Nat}{A:Option Addr}{l:List Int}(h:RdI w B A n l)(o:B<=g):RdI w g A n l:=Rd.more h o
theorem RdI.here{w:World}{B n:Nat}{A:Option Addr}{l:List Int}(h:RdI w B A n l):RdI w w.heap.size A n l:=Rd.here h
theorem RdI.later{w w':World}{n:Nat}{A:Option Addr}{l:List Int}(h:RdI w w.heap.size A n l)(g:Below w.heap.size w w'):RdI w' w'.heap.size A n l:=Rd.here (Rd.below h g)
theorem RdI.alloc{w:World}{B n:Nat}{A:Option Addr}{l:List Int}(h:RdI w B A n l)(g:B<=w.heap.size)(o:Obj):RdI (w.alloc o) B A n l:=Rd.alloc h g o
theorem RdI.nil_{w:World}{B:Nat}{A:Option Addr}:RdI w B A 0 []:=⟨by simp[cI],fun h=>absurd h (by omega)⟩
theorem RdI.cut{w:World}{B n:Nat}{A:Option Addr}{l:List Int}(h:RdI w B A n l){k m:Nat}(g:k+m<=n){A':Option Addr}(o:0<m->A'=A.map (·.add k)):
  RdI w B A' m ((l.drop k).take m):=by
 have:=Rd.cut h g (A':=A') (by simpa using o);unfold RdI
 simpa [cI,List.map_drop,List.map_take] using this
theorem ownI.nil_(w:World)(base:Nat):ownI w base (.slice none 0 0) []:=World.ownsRow_nil _ _ _ _
theorem ownI.mono{w:World}{base base':Nat}{v:Value}{l:List Int}(h:ownI w base v l)(t:base'<=base):ownI w base' v l:=by
 refine⟨h.1,?_⟩;rcases h.2 with r | ⟨g,q,o,rfl,s,rest⟩
 ·exact .inl r
 ·exact .inr ⟨g,q,o,rfl,by omega,rest⟩
theorem ownI.later{w w':World}{base:Nat}{v:Value}{l:List Int}(h:ownI w base v l)(o:Below w.heap.size w w'):ownI w' base v l :=
 Below.ownsRow h o (fun g hg=>(olt h g hg).2)
theorem ownI.alloc{w:World}{base:Nat}{v:Value}{l:List Int}(h:ownI w base v l)(o:Obj):ownI (w.alloc o) base v l:=World.ownsRow.alloc h o
theorem ownI.drew{w:World}{base:Nat}{v:Value}{l:List Int}(h:ownI w base v l):ownI w.drew base v l:=h
theorem ownI.drewN{w:World}{base:Nat}{v:Value}{l:List Int}(h:ownI w base v l)(n:Nat):ownI (w.drewN n) base v l:=h
theorem ownI.form{w:World}{base:Nat}{v:Value}{l:List Int}(h:ownI w base v l):
  ∃A c,v=.slice A l.length c/\RdI w w.heap.size A l.length l/\l.length<=c/\c<=maxLen:=by
 rcases h.2 with⟨rfl,h0⟩ | ⟨g,q,o,rfl,_,_,h1,h2,_⟩
 ·have:l=[]:=List.eq_nil_of_length_eq_zero h0
  subst this;exact⟨none,0,rfl,Rd.none_,by simp,by simp⟩
 ·exact⟨_,_,rfl,Rd.of_own h,h1,h2⟩
theorem ownI.far{w:World}{base g:Nat}{v:Value}{l:List Int}(h:ownI w base v l)(hg:v.ownBlock≠some g)(o:Nat)(u:Value):
  ownI (w.setCell ⟨g,o,none⟩ u) base v l:=by
 refine⟨h.1,?_⟩;rcases h.2 with t | ⟨g',s,q,rfl,z,r,rest⟩
 ·exact .inl t
 ·refine .inr ⟨g',s,q,rfl,z,?_,rest⟩
  rw[Below.heap_setCell _ _ _ _ (by intro e;apply hg;simp[Value.ownBlock];exact e)];exact r
theorem ownI.ne{w:World}{base g:Nat}{v:Value}{l:List Int}(h:ownI w base v l)(hg:g<base):v.ownBlock≠some g:=by
 intro e;have:=(olt h g e).1;omega
theorem ownI.pos{w:World}{base n c:Nat}{A:Option Addr}{l:List Int}(h:ownI w base (.slice A n c) l)(t:0<n):n=l.length/\∃g,A=some ⟨g,0,none⟩/\base<=g/\g<w.heap.size:=by
 rcases h.2 with⟨o,_⟩ | ⟨g,r,q,o,s,hg,_⟩
 ·injection o with _ h2;omega
 ·injection o with h1 h2
  exact⟨h2,g,h1,s,(olt h g (by rw[h1];rfl)).2⟩
theorem ownI.cell{w:World}{base g n c:Nat}{l:List Int}(h:ownI w base (.slice (some ⟨g,0,none⟩) n c) l)(q:n=l.length){k:Nat}(o:k<l.length):
  w.cell? ⟨g,k,none⟩=some ((fun x:Int=>Value.int .i64 x) l[k]):=by
 subst q;rw[World.ownsRow.cellAt h k (by omega),zpK o]
theorem ownI.frozen{w:World}{base g n c:Nat}{l:List Int}(h:ownI w base (.slice (some ⟨g,0,none⟩) n c) l)(o:n=l.length)(k:Nat):
  w.frozen? ⟨g,k,none⟩=false:=by
 subst o;exact World.ownsRow.frozenAt h k
theorem ownI.store{w:World}{base g n c:Nat}{l:List Int}(h:ownI w base (.slice (some ⟨g,0,none⟩) n c) l)(o:n=l.length)(k:Nat)(x:Int):
  ownI (w.setCell ⟨g,k,none⟩ (Value.int .i64 x)) base (.slice (some ⟨g,0,none⟩) n c) (l.set k x):=by
 subst o;have:=(World.ownsRow.stored h k (Value.int .i64 x)).1;unfold ownI;rw[List.length_set];have e:cI (l.set k x)=(cI l).set k (Value.int .i64 x):=by simp[cI,List.map_set]
 rwa[e]
theorem ownI.rd{w:World}{base n c:Nat}{A:Option Addr}{l:List Int}(h:ownI w base (.slice A n c) l):RdI w w.heap.size A n l:=by
 obtain⟨s,c4,q,g,_,_⟩:=h.form;injection q with r o t;rw[r,o];exact g
/-- make of n zeros, in a new block. -/
theorem zc4{w:World}{ops:Array Oper}{rest:List Oper}{o:Oper}{a:Act}{Q:Exit->Act->World->Prop}
  (hg:o.guard=none) (l c:Operand) (g:o.op=Op.makeSlice 120 l c) (n:Nat) (L:Int) (A:a.eval l=.int .i64 L) (B:a.eval c=.int .i64 L)
  (t:L=(n:Int)) (E:n<=1099511627776)
  (z:∀w',ownI w' w.heap.size (.slice (some ⟨w.heap.size,0,none⟩) n n) (List.replicate n (0:Int))->Below w.heap.size w w'->w.heap.size<w'.heap.size ->
   wpList Tryz.prog ops Q rest (a.put o.dst (.slice (some ⟨w.heap.size,0,none⟩) n n)) w') :
  wpList Tryz.prog ops Q (o :: rest) a w:=by
 obtain⟨C,hi,q,r,s⟩:=info_parts Tryz.info_I;refine wpList_make_full w hg l c 120 g w.heap.size 3 C _ 1 Tryz.underlying120 hi q r _ _ _ _ n A B t t (by rw[s];omega) (by unfold maxLen;omega) (nlr _) ?_;intro w' h1 h2;have u:ownI w' w.heap.size (.slice (some ⟨w.heap.size,0,none⟩) n n) (List.replicate n (0:Int)):=by
  unfold ownI;have D:cI (List.replicate n (0:Int))=List.replicate n (Value.int .i64 0):=by simp[cI]
  rw[D,List.length_replicate];have:(madeCells (Value.int .i64 0).cells (n*1)).toList=List.replicate n (Value.int .i64 0):=by
   rw[Nat.mul_one];exact toList_madeCells_one _ _
  rwa[this] at h1
 exact z w' u ((Below.refl _ _).grown h2 (nlr _) (by simp)) (olt u _ rfl).2
/-- A literal's own row. -/
theorem zh6(w:World)(l:List Int)(g:l.length<=1099511627776):ownI (w.alloc (.cells (cI l).toArray 3)) w.heap.size (.slice (some ⟨w.heap.size,0,none⟩) l.length l.length) l:=by
 have:=World.ownsRow_lit (base:=w.heap.size) (size:=1) (e:=3) w (cI l).toArray l.length (nlr _) (by unfold maxLen;omega) (by simp[cI]);exact this
theorem ztJ(w:World)(t:TypeId)(fr:Nat×Nat)(l:List Int):RdI (w.alloc (.cells (cI l).toArray t fr)) (w.heap.size+1) (some ⟨w.heap.size,0,none⟩) l.length l:=by
 refine⟨by simp[cI],fun _=>⟨_,_,rfl,by omega,fun j u g=>?_⟩⟩;rw[Nat.zero_add];have:=cell_of_row (w.alloc (.cells (cI l).toArray t fr)) w.heap.size j (cI l).toArray t fr (heap_alloc_new w _);rw[this]
 simpa using g
theorem zbv(w:World)(x:Int):RdI (w.alloc (.cells #[Value.int .i64 x] 3)) (w.heap.size+1) (some ⟨w.heap.size,0,none⟩) 1 [x]:=ztJ w 3 (0,0) [x]
theorem zhP(w:World)(base:Nat)(H:TypeId)(v:Value)(l:List Int)(r:ownI w base v l)(B m c:Nat)(A:Option Addr)(q:List Int)(hr:RdI w B A m q)
  (T:l.length+m<=1099511627776) (t:base<=w.heap.size) :
  ∃v' w',(Builtin.append_ #[120,120] H #[v,.slice A m c]).run Tryz.prog w=.ok v' w'/\ownI w' base v' (l++q)/\w.grownBy w' v.ownBlock /\
   (v'.ownBlock=v.ownBlock\/v'.ownBlock=some w.heap.size)/\(v'=.slice none 0 0↔v=.slice none 0 0/\m=0):=by
 obtain⟨O,hi,E,F,D⟩:=info_parts Tryz.info_I;have J:=hr.len;subst J;unfold ownI;rw[lla,zpJ];rcases A with _|ad
 ·have G:q=[]:=by
   rcases Nat.eq_zero_or_pos q.length with h0|h0
   ·exact List.eq_nil_of_length_eq_zero h0
   ·obtain⟨b,o,h,_⟩:=hr.2 h0
    cases h
  subst G;refine⟨v,w,?_,by simpa [cI,ownI] using r,World.grownBy.refl w _,.inl rfl,by simp⟩;rcases r.2 with⟨rfl,h0⟩ | ⟨g,N,R,rfl,_,_,C,_⟩
  ·simp[Builtin.append_,run_underlying Tryz.underlying120,sizeOf,typeInfo,hi,Builtin.lenOf,Builtin.firstCells]
  ·simp[Builtin.append_,run_underlying Tryz.underlying120,sizeOf,typeInfo,hi,Builtin.lenOf,Builtin.firstCells,C,storeCells]
 ·have s:∀j u,(cI q)[j]?=some u->w.cell? (ad.add j)=some u:=by
   intro j u I;rcases Nat.eq_zero_or_pos q.length with h0|h0
   ·have G:q=[]:=List.eq_nil_of_length_eq_zero h0
    subst G;simp[cI] at I
   ·obtain⟨b,o,h,_,S⟩:=hr.2 h0
    injection h with h;subst h;rw[zaS];exact S j u I
  obtain⟨v',w',z,h2,M,h4,L⟩:=run_append_own_at (P:=Tryz.prog) w base 120 H 3 O _ 1 8 Tryz.underlying120 hi E F D rfl (by omega) v l.length (cI l) r ad q.length c (cI q) (by simp[cI]) s (zfP _) (by unfold maxLen;omega) (by omega) t;exact⟨v',w',z,h2,M,L,h4⟩
/-- append(v, x...): v the call's own, x whatever. -/
theorem zay{w:World}{ops:Array Oper}{rest:List Oper}{o:Oper}{a:Act}{Q:Exit->Act->World->Prop}(u:o.guard=none)(s x:Operand)
  (E:o.op=.call { callee:=.builtin .append,args:=#[s,x],argTypes:=#[120,120] })
  (base:Nat) (v:Value) (l:List Int) (hs:a.eval s=v) (r:ownI w base v l) (B m c:Nat) (A:Option Addr) (q:List Int) (hx:a.eval x=.slice A m c) (hr:RdI w B A m q)
  (F:l.length+m<=1099511627776) (g:base<=w.heap.size)
  (h:∀v' w',ownI w' base v' (l++q)->w.grownBy w' v.ownBlock->Below base w w'->(v'.ownBlock=v.ownBlock\/v'.ownBlock=some w.heap.size)->wpList Tryz.prog ops Q rest (a.put o.dst v') w') :
  wpList Tryz.prog ops Q (o :: rest) a w:=by
 refine wpList_plain u fun K D=>?_
 obtain⟨v',w',t,h2,z,h4,_⟩:=zhP w base o.type v l r B m c A q hr F g;unfold Oper.wp execOp;simp only[E,resolve,invoke,builtin,Sem.run_bind,Sem.run_pure,Result.andThen_ok,List.map_toArray,List.map_cons,List.map_nil,hs,hx,t];exact D _ _ (h v' w' h2 z ((Below.refl _ _).grown z g (fun k C=>(olt r k C).1)) h4)
/-- append of bytes as a step of a region that draws its order. -/
theorem ze8{w:World}{ops:Array Oper}{o:Oper}{a:Act}{K:Act->World->Prop}{Q:Exit->Act->World->Prop}{E:Prop}(u:o.guard=none)(s x:Operand)
  (F:o.op=.call { callee:=.builtin .append,args:=#[s,x],argTypes:=#[120,120] })
  (base:Nat) (v:Value) (bs:List Int) (hs:a.eval s=v) (r:ownI w base v bs) (B m c:Nat) (A:Option Addr) (q:List Int) (hx:a.eval x=.slice A m c) (hr:RdI w B A m q)
  (G:bs.length+m<=1099511627776) (g:base<=w.heap.size)
  (h:∀v' w',ownI w' base v' (bs++q)->w.grownBy w' v.ownBlock->Below base w w'->(v'.ownBlock=v.ownBlock\/v'.ownBlock=some w.heap.size)->K (a.put o.dst v') w') :
  if Region.wanted o (yielded ops a.tmps)=true then Oper.wp Tryz.prog o a w K Q else E:=by
 have D:Region.wanted o (yielded ops a.tmps)=true:=by simp[Region.wanted,u]
 rw[if_pos D];obtain⟨v',w',t,h2,z,h4,_⟩:=zhP w base o.type v bs r B m c A q hr G g;unfold Oper.wp execOp;simp only[F,resolve,invoke,builtin,Sem.run_bind,Sem.run_pure,Result.andThen_ok,List.map_toArray,List.map_cons,List.map_nil,hs,hx,t];exact h v' w' h2 z ((Below.refl _ _).grown z g (fun k C=>(olt r k C).1)) h4
end Go.Proofs.YtebbdifhiihfkaaGreatDoor

/- A variable that is an array: its cells known as a list. -/
namespace Go.Proofs.YtebbdifhiihfkaaGreatDoor
set_option linter.all false
open Go.RowKit
/-- Block g is an array variable that holds cs. -/
def Arr(w:World)(g:Nat)(cs:List Value):Prop:=∃t,w.heap[g]?=some (.cells cs.toArray t (0,0))
section
variable {w w' : World} {g : Nat} {cs : List Value}
theorem Arr.lt(h:Arr w g cs):g<w.heap.size:=by
 obtain⟨t,h⟩:=h;exact(Array.getElem?_eq_some_iff.1 h).1
theorem Arr.cell(h:Arr w g cs){k:Nat}{v:Value}(o:cs[k]?=some v):w.cell? ⟨g,k,none⟩=some v:=by
 obtain⟨t,h⟩:=h;rw[cell_of_row w g k _ t (0,0) h]
 simpa using o
theorem Arr.frozen(h:Arr w g cs)(k:Nat):w.frozen? ⟨g,k,none⟩=false:=by
 obtain⟨t,h⟩:=h;simp[World.frozen?,h]
theorem Arr.set(h:Arr w g cs)(k:Nat)(v:Value):Arr (w.setCell ⟨g,k,none⟩ v) g (cs.set k v):=by
 obtain⟨t,h⟩:=h;refine⟨t,?_⟩;rw[setCell_eq_setRow w g k _ t (0,0) v h,setRow_heap w g _ _ t (0,0) h];simp
theorem Arr.row(h:Arr w g cs)(o:List Value):Arr (w.setRow g o.toArray) g o:=by
 obtain⟨t,h⟩:=h;exact⟨t,setRow_heap w g _ _ t (0,0) h⟩
theorem Arr.far(h:Arr w g cs){p:Addr}(hp:p.block≠g)(v:Value):Arr (w.setCell p v) g cs:=by
 obtain⟨t,h⟩:=h;refine⟨t,?_⟩;rw[Below.heap_setCell _ _ _ _ (fun e=>hp e.symm)];exact h
theorem Arr.farRow(h:Arr w g cs){g':Nat}(hp:g'≠g)(v:Array Value):Arr (w.setRow g' v) g cs:=by
 obtain⟨t,h⟩:=h;refine⟨t,?_⟩;rw[setRow_other _ _ _ _ (fun e=>hp e.symm)];exact h
theorem Arr.drewN(h:Arr w g cs)(k:Nat):Arr (w.drewN k) g cs:=h
theorem Arr.drew(h:Arr w g cs):Arr w.drew g cs:=h
theorem Arr.alloc(h:Arr w g cs)(o:Obj):Arr (w.alloc o) g cs:=by
 have q:=h.lt;obtain⟨t,h⟩:=h;exact⟨t,(heap_alloc_old w o q).trans h⟩
theorem Arr.new(w:World)(cs:List Value)(t:TypeId):Arr (w.alloc (.cells cs.toArray t)) w.heap.size cs:=⟨t,heap_alloc_new w _⟩
theorem Arr.later(h:Arr w g cs)(o:Below w.heap.size w w'):Arr w' g cs:=by
 have q:=h.lt;obtain⟨t,h⟩:=h;exact⟨t,(o.block g q).trans h⟩
theorem Arr.blw{B:Nat}(h:Arr w g cs)(o:Below B w w')(hg:g<B):Arr w' g cs:=by
 obtain⟨t,h⟩:=h;exact⟨t,(o.block g hg).trans h⟩
theorem Arr.gro{row:Nat}(h:Arr w g cs)(o:w.grownBy w' (some row))(hg:g≠row):Arr w' g cs:=by
 have q:=h.lt;obtain⟨t,h⟩:=h;exact⟨t,(o.block g q (fun e=>hg (by injection e))).trans h⟩
theorem zbi{B:Nat}{a w:World}(h:Below B a w){g:Nat}(hg:B<=g)(cs:Array Value):Below B a (w.setRow g cs) :=
 h.trans ⟨rfl,rfl,rfl,by simp,fun k o=>setRow_other _ _ _ _ (by omega)⟩
end
theorem zcX{P:Program}{w:World}{ops:Array Oper}{o:Oper}{a:Act}{K:Act->World->Prop}{Q:Exit->Act->World->Prop}{E:Prop}(r:o.guard=none)(q:TypeId)(x:Operand)(z:o.op=.load q x)
  (g:Nat) (cs:List Value) (hx:a.eval x=.pointer (some ⟨g,0,none⟩)) (h:Arr w g cs) (d:TypeDesc) (A:P.underlying q=some d) (B:(match d with | .struct _ | .array _ _=>true|_=>false)=true) (hi:(P.info? q).map (·.size)=some cs.length)
  (s:K (a.put o.dst (.agg cs.toArray)) w):if Region.wanted o (yielded ops a.tmps)=true then Oper.wp P o a w K Q else E:=by
 have u:Region.wanted o (yielded ops a.tmps)=true:=by simp[Region.wanted,r]
 rw[if_pos u];obtain⟨t,h⟩:=h;exact wp_load_row q x z g hx t _ (0,0) d h A B (by simpa using hi) s
theorem zca{P:Program}{w:World}{ops:Array Oper}{o:Oper}{a:Act}{K:Act->World->Prop}{Q:Exit->Act->World->Prop}{E:Prop}(s:o.guard=none)(r:TypeId)(x y:Operand)(B:o.op=.store r x y)
  (g:Nat) (cs q:List Value) (hx:a.eval x=.pointer (some ⟨g,0,none⟩)) (hy:a.eval y=.agg q.toArray) (h:Arr w g cs) (hi:(P.info? r).map (·.size)=some q.length) (z:cs.length=q.length) (h1:∀v∈q,v.oneCell'=true)
  (u:K (a.put o.dst undef) (w.setRow g q.toArray)):if Region.wanted o (yielded ops a.tmps)=true then Oper.wp P o a w K Q else E:=by
 have A:Region.wanted o (yielded ops a.tmps)=true:=by simp[Region.wanted,s]
 rw[if_pos A];obtain⟨t,h⟩:=h;exact wp_store_row r x y B g q.toArray hx hy t cs.toArray h (by simpa using hi) (by simpa using z) (by rw[Array.all_eq_true_iff_forall_mem];intro v hv;exact h1 v (by simpa using hv)) u
theorem zfn{P:Program}{w:World}{ops:Array Oper}{rest:List Oper}{o:Oper}{a:Act}{Q:Exit->Act->World->Prop}(s:o.guard=none)(r:TypeId)(x y:Operand)(A:o.op=.store r x y)
  (g:Nat) (cs q:List Value) (hx:a.eval x=.pointer (some ⟨g,0,none⟩)) (hy:a.eval y=.agg q.toArray) (h:Arr w g cs) (hi:(P.info? r).map (·.size)=some q.length) (z:cs.length=q.length) (h1:∀v∈q,v.oneCell'=true)
  (u:wpList P ops Q rest (a.put o.dst undef) (w.setRow g q.toArray)):wpList P ops Q (o :: rest) a w:=by
 obtain⟨t,h⟩:=h;exact wpList_store_row s r x y A g q.toArray hx hy t cs.toArray h (by simpa using hi) (by simpa using z) (by rw[Array.all_eq_true_iff_forall_mem];intro v hv;exact h1 v (by simpa using hv)) u
/-- Two results that are arrays. -/
theorem zeD{P:Program}{O:Func}{E F:Tmp}{r s:TypeId}(h:O.results=#[.cell E r,.cell F s])(tmps:Array Value)(w:World)(A z:Nat)(q o:List Value)(J C:TypeDesc)
  (D:tmps.getD E undef=.pointer (some ⟨A,0,none⟩)) (M:tmps.getD F undef=.pointer (some ⟨z,0,none⟩)) (h1:Arr w A q) (h2:Arr w z o)
  (G:P.underlying r=some J) (L:(match J with | .struct _ | .array _ _=>true|_=>false)=true) (N:(P.info? r).map (·.size)=some q.length)
  (B:P.underlying s=some C) (H:(match C with | .struct _ | .array _ _=>true|_=>false)=true) (I:(P.info? s).map (·.size)=some o.length) :
  (results O tmps).run P w=.ok (.tuple #[.agg q.toArray,.agg o.toArray]) w:=by
 obtain⟨R,h1⟩:=h1;obtain⟨S,h2⟩:=h2;have t:tmps[E]?.getD undef=.pointer (some ⟨A,0,none⟩):=by simpa using D
 have u:tmps[F]?.getD undef=.pointer (some ⟨z,0,none⟩):=by simpa using M
 have U:=run_loadVar_row (P:=P) w A R r q.toArray (0,0) J h1 G L (by simpa using N);have T:=run_loadVar_row (P:=P) w z S s o.toArray (0,0) C h2 B H (by simpa using I);simp[results,h,t,u,asAddr,U,T]
theorem Arr.c3{w:World}{g:Nat}{q r o:Value}{l:List Value}(h:Arr w g (q :: r :: o :: l)):w.cell? ⟨g,0,none⟩=some q/\w.cell? ⟨g,1,none⟩=some r/\w.cell? ⟨g,2,none⟩=some o:=⟨h.cell (k:=0) rfl,h.cell (k:=1) rfl,h.cell (k:=2) rfl⟩
theorem Arr.q3{w:World}{g:Nat}{q r o:Value}{l:List Value}(h:Arr w g (q :: r :: o :: l)):w.frozen? ⟨g,0,none⟩=false/\w.frozen? ⟨g,1,none⟩=false/\w.frozen? ⟨g,2,none⟩=false:=⟨h.frozen 0,h.frozen 1,h.frozen 2⟩
theorem Arr.m3{w:World}{g:Nat}{q r o:Value}{l:List Value}(h:Arr w g (q :: r :: o :: l)):w.cell? ⟨g,0,none⟩=some q/\w.frozen? ⟨g,0,none⟩=false/\w.cell? ⟨g,1,none⟩=some r/\w.frozen? ⟨g,1,none⟩=false/\w.cell? ⟨g,2,none⟩=some o/\w.frozen? ⟨g,2,none⟩=false:=⟨h.cell (k:=0) rfl,h.frozen 0,h.cell (k:=1) rfl,h.frozen 1,h.cell (k:=2) rfl,h.frozen 2⟩
theorem Arr.c4{w:World}{g:Nat}{r s o q:Value}{l:List Value}(h:Arr w g (r :: s :: o :: q :: l)):w.cell? ⟨g,0,none⟩=some r/\w.cell? ⟨g,1,none⟩=some s/\w.cell? ⟨g,2,none⟩=some o/\w.cell? ⟨g,3,none⟩=some q:=⟨h.cell (k:=0) rfl,h.cell (k:=1) rfl,h.cell (k:=2) rfl,h.cell (k:=3) rfl⟩
theorem Arr.q4{w:World}{g:Nat}{r s o q:Value}{l:List Value}(h:Arr w g (r :: s :: o :: q :: l)):w.frozen? ⟨g,0,none⟩=false/\w.frozen? ⟨g,1,none⟩=false/\w.frozen? ⟨g,2,none⟩=false/\w.frozen? ⟨g,3,none⟩=false:=⟨h.frozen 0,h.frozen 1,h.frozen 2,h.frozen 3⟩
theorem Arr.m4{w:World}{g:Nat}{r s o q:Value}{l:List Value}(h:Arr w g (r :: s :: o :: q :: l)):w.cell? ⟨g,0,none⟩=some r/\w.frozen? ⟨g,0,none⟩=false/\w.cell? ⟨g,1,none⟩=some s/\w.frozen? ⟨g,1,none⟩=false/\w.cell? ⟨g,2,none⟩=some o/\w.frozen? ⟨g,2,none⟩=false/\w.cell? ⟨g,3,none⟩=some q/\w.frozen? ⟨g,3,none⟩=false:=⟨h.cell (k:=0) rfl,h.frozen 0,h.cell (k:=1) rfl,h.frozen 1,h.cell (k:=2) rfl,h.frozen 2,h.cell (k:=3) rfl,h.frozen 3⟩
theorem Arr.c5{w:World}{g:Nat}{r s q o t:Value}{l:List Value}(h:Arr w g (r :: s :: q :: o :: t :: l)):w.cell? ⟨g,0,none⟩=some r/\w.cell? ⟨g,1,none⟩=some s/\w.cell? ⟨g,2,none⟩=some q/\w.cell? ⟨g,3,none⟩=some o/\w.cell? ⟨g,4,none⟩=some t:=⟨h.cell (k:=0) rfl,h.cell (k:=1) rfl,h.cell (k:=2) rfl,h.cell (k:=3) rfl,h.cell (k:=4) rfl⟩
theorem Arr.q5{w:World}{g:Nat}{r s q o t:Value}{l:List Value}(h:Arr w g (r :: s :: q :: o :: t :: l)):w.frozen? ⟨g,0,none⟩=false/\w.frozen? ⟨g,1,none⟩=false/\w.frozen? ⟨g,2,none⟩=false/\w.frozen? ⟨g,3,none⟩=false/\w.frozen? ⟨g,4,none⟩=false:=⟨h.frozen 0,h.frozen 1,h.frozen 2,h.frozen 3,h.frozen 4⟩
theorem Arr.m5{w:World}{g:Nat}{r s q o t:Value}{l:List Value}(h:Arr w g (r :: s :: q :: o :: t :: l)):w.cell? ⟨g,0,none⟩=some r/\w.frozen? ⟨g,0,none⟩=false/\w.cell? ⟨g,1,none⟩=some s/\w.frozen? ⟨g,1,none⟩=false/\w.cell? ⟨g,2,none⟩=some q/\w.frozen? ⟨g,2,none⟩=false/\w.cell? ⟨g,3,none⟩=some o/\w.frozen? ⟨g,3,none⟩=false/\w.cell? ⟨g,4,none⟩=some t/\w.frozen? ⟨g,4,none⟩=false:=⟨h.cell (k:=0) rfl,h.frozen 0,h.cell (k:=1) rfl,h.frozen 1,h.cell (k:=2) rfl,h.frozen 2,h.cell (k:=3) rfl,h.frozen 3,h.cell (k:=4) rfl,h.frozen 4⟩
end Go.Proofs.YtebbdifhiihfkaaGreatDoor

/- lz: a map of places by three bytes. -/
namespace Go.Proofs.YtebbdifhiihfkaaGreatDoor
set_option linter.all false
set_option maxRecDepth 100000
open Go.RowKit Go.Maps Go.WideElems Go.WideShapes
abbrev MD3:=DataW Value
/-- Three bytes as a value. -/
def ziq(t:UInt8×UInt8×UInt8):Value:=.agg #[.int .u8 (t.1.toNat:Int),.int .u8 (t.2.1.toNat:Int),.int .u8 (t.2.2.toNat:Int)]
theorem zsR{s t:UInt8×UInt8×UInt8}(h:ziq s=ziq t):s=t:=by
 obtain⟨a,b,c⟩:=s;obtain⟨d,e,f⟩:=t;simp only[ziq,Value.agg.injEq,Array.mk.injEq,List.cons.injEq,Value.int.injEq,and_true,true_and,Int.natCast_inj,UInt8.toNat_inj] at h;obtain⟨h1,h2,g⟩:=h;subst h1 h2 g;rfl
/-- An element reads as itself. -/
def ztE(v:Value):Option (MD3×List MemPlace):=some (.held v,[])
theorem keyed3:Keyed Tryz.prog 217:=Keyed.of_law (deep_law_gate (by kernel_rfl) (of_decide_eq_true (by kernel_rfl)) (of_decide_eq_true (by kernel_rfl)) (by kernel_rfl) (by kernel_rfl))
theorem zvj(w:World):(zeroValue 3).run Tryz.prog w=.ok (.int .i64 0) w:=by kernel_rfl
theorem zsS{P:Program}{k e:TypeId}{n:Nat}(q:P.underlying k=some (.array 3 e))(he:P.underlying e=some (.int .u8))(s:P.keyType k=true)(r:P.cellsOf k=3)(g:P.cellsOf e=1)(hs:P.types.size=n+1)(a b c:UInt8):
  ∃l,keyOf P k (.agg #[.int .u8 (a.toNat:Int),.int .u8 (b.toNat:Int),.int .u8 (c.toNat:Int)])=some l:=by
 have z:Value.formed P k (.agg #[.int .u8 (a.toNat:Int),.int .u8 (b.toNat:Int),.int .u8 (c.toNat:Int)])=true:=by simp[Value.formed,q,r]
 have t:∀a:UInt8,P.keyLits (n+1) e [.int .u8 (a.toNat:Int)]=some [.int .u8 (a.toNat:Int)]:=fun a=>by
  have h1:=a.toNat_lt;have h2:(Lit.int .u8 (a.toNat:Int)).wf=true:=by
   simp[Lit.wf,IntKind.min,IntKind.max,IntKind.bits,IntKind.signed];omega
  rw[Program.keyLits.eq_def];simp[he,h2]
 have u:P.keyLits (P.types.size+1) k [.int .u8 (a.toNat:Int),.int .u8 (b.toNat:Int),.int .u8 (c.toNat:Int)]=some [.int .u8 (a.toNat:Int),.int .u8 (b.toNat:Int),.int .u8 (c.toNat:Int)]:=by
  rw[hs];rw[Program.keyLits.eq_def];simp[q,r,g,List.range,List.range.loop,t]
 have o:keyOf P k (.agg #[.int .u8 (a.toNat:Int),.int .u8 (b.toNat:Int),.int .u8 (c.toNat:Int)])=(P.keyLits (P.types.size+1) k [.int .u8 (a.toNat:Int),.int .u8 (b.toNat:Int),.int .u8 (c.toNat:Int)]).map fun ls=>.string (keyBytes ls):=by
  unfold keyOf;rw[q];simp only[s,z,Bool.and_self,if_true,Value.cells]
 exact⟨_,by rw[o,u];rfl⟩
theorem znU(t:UInt8×UInt8×UInt8):∃l,keyOf Tryz.prog 217 (ziq t)=some l :=
 zsS (e:=5) (n:=Tryz.prog.types.size-1) (by kernel_rfl) (by kernel_rfl) (by kernel_rfl) (by kernel_rfl) (by kernel_rfl) (by kernel_rfl) t.1 t.2.1 t.2.2
/-- Block b is a map that says f of three bytes. -/
def isM3(w:World)(b m:Nat)(f:UInt8×UInt8×UInt8->Nat):Prop :=
 ∃D:MD3,w.ownsMap Tryz.prog 217 ztE b m D/\∀t l,keyOf Tryz.prog 217 (ziq t)=some l->D.atKey l (.held (.int .i64 0))=.held (.int .i64 ((f t:Nat):Int))
theorem isM3.made(w:World):isM3 (w.alloc (.map #[] 0)) w.heap.size 0 (fun _=>0) :=
 ⟨_,World.ownsMap_made w Tryz.prog 217 ztE,fun t l _=>rfl⟩
theorem isM3.lt{w:World}{b m:Nat}{f:UInt8×UInt8×UInt8->Nat}(h:isM3 w b m f):b<w.heap.size:=by
 obtain⟨D,h,_⟩:=h;exact h.lt
theorem isM3.keep{w w':World}{b m:Nat}{f:UInt8×UInt8×UInt8->Nat}(h:isM3 w b m f)(o:w'.heap[b]?=w.heap[b]?):isM3 w' b m f:=by
 obtain⟨D,⟨q,g,e,F,hs,r⟩,h2⟩:=h;exact⟨D,⟨q,g,o.trans e,F,hs,r⟩,h2⟩
theorem isM3.look{w:World}{b m:Nat}{f:UInt8×UInt8×UInt8->Nat}(h:isM3 w b m f)(t:UInt8×UInt8×UInt8):
  (Instr.lookup 179 (.map (some b)) (ziq t) false).run Tryz.prog w=.ok (.int .i64 ((f t:Nat):Int)) w:=by
 obtain⟨D,r,h1⟩:=h;obtain⟨l,q⟩:=znU t;obtain⟨v,ps,g,hv⟩:=r.lookup keyed3 Tryz.underlying179 (zvj w) (zd:=.held (.int .i64 0)) (zp:=[]) rfl q;have o:DataW.held v=D.atKey l (.held (.int .i64 0)):=congrArg Prod.fst (Option.some.inj hv);rw[h1 t l q] at o;injection o with o;rw[g,o]
def zl8(f:UInt8×UInt8×UInt8->Nat)(t:UInt8×UInt8×UInt8)(v:Nat):UInt8×UInt8×UInt8->Nat:=fun s=>if t=s then v else f s
theorem isM3.store{w:World}{b m:Nat}{f:UInt8×UInt8×UInt8->Nat}(h:isM3 w b m f)(C:m<=1000000)(t:UInt8×UInt8×UInt8)(v:Nat):
  ∃w',(Instr.mapUpdate 179 (.map (some b)) (ziq t) (.int .i64 (v:Int))).run Tryz.prog w=.ok () w'/\isM3 w' b (m+1) (zl8 f t v)/\w.grownBy w' (some b):=by
 obtain⟨D,A,h1⟩:=h;obtain⟨l,r⟩:=znU t;obtain⟨w',o,q,ht⟩:=A.update keyed3 Tryz.underlying179 (by unfold maxLen;omega) r (val:=.int .i64 (v:Int)) rfl;refine⟨w',o,⟨_,q,fun s z g=>?_⟩,ht⟩;by_cases e:t=s
 ·subst e
  rw[r] at g;injection g with g;subst g;rw[Maps.atKey_put_same A.isMap (keyed3.key r)];unfold zl8;rw[if_pos rfl]
 ·have u:z≠l:=fun B=>by
   subst B;exact e (zsR (keyed3.inj r g))
  rw[Maps.atKey_put_other u,h1 s z g];unfold zl8;rw[if_neg e]
end Go.Proofs.YtebbdifhiihfkaaGreatDoor

