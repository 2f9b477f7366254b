/- XBase XFlP XFrame -/
import Derived.Test.YtebbdifhiihfkaaGreatDoorRows
import Derived.WalkKit
import Derived.WalkSpells
import Derived.WalkLawsBesides
import Derived.Laws.OwnMore
import Derived.Deep.AppendLies
import Derived.Deep.Draws
import Derived.Maps.AppendAt
import Derived.RegionTactic
import Derived.Lib.Hide
import Derived.Laws.BitsAllLaws
import Derived.BigRegion
import Derived.BigQuiet
import Derived.Deep.QuietTactic
import Derived.Laws.CopyOwn
import Derived.Lib.SlBytesConst
import Derived.Deep.RegionWith
import Derived.Deep.DeepCutAuto
import Derived.Deep.RegionLaw
import Derived.ProofKit
import Derived.OpenShut
import Derived.ShutString
import Derived.ChangeOld
set_option linter.all false
set_option maxRecDepth 100000
namespace Go.Proofs.YtebbdifhiihfkaaGreatDoor
open Go.RowKit
theorem _root_.Go.RowKit.Hid.o{p:Prop}(h:Hid p):p:=h
theorem zf5{α:Type}{P:List α->Prop}(h0:P [])(h1:∀l x,P l->P (l++[x]))(l:List α):P l:=by
 have h:∀l:List α,P l.reverse:=by
  intro l
  induction l with
  |nil=>exact h0
  |cons x l ih=>rw[List.reverse_cons];exact h1 _ _ ih
 have:=h l.reverse;rwa[List.reverse_reverse] at this
/-- The cells of a list of bytes. -/
def cb(bs:List UInt8):List Value:=bs.map fun b=>Value.int .u8 (b.toNat:Int)
theorem zby(bs:List UInt8):(cb bs).length=bs.length:=by simp[cb]
theorem zfk(a b:List UInt8):cb (a++b)=cb a++cb b:=by simp[cb]
theorem Below.ownsRow{B base:Nat}{w w':World}{e:TypeId}{size:Nat}{v:Value}{n:Nat}{xs:List Value}
  (h:w.ownsRow base e size v n xs) (u:Below B w w') (hv:∀g,v.ownBlock=some g->g<B):w'.ownsRow base e size v n xs:=by
 refine⟨h.1,?_⟩;rcases h.2 with t | ⟨g,s,o,rfl,q,r,rest⟩
 ·exact .inl t
 ·refine .inr ⟨g,s,o,rfl,q,?_,rest⟩
  rw[u.block g (hv g rfl)];exact r
theorem Tryz.info_u8:(Tryz.prog.info? 5).map (fun i=>(i.zero,i.size,i.bytes))=some (some (.int .u8 0),1,1):=by kernel_rfl
/-- v is a row of bytes of the call's own. -/
def ownB(w:World)(base:Nat)(v:Value)(bs:List UInt8):Prop:=w.ownsRow base 5 1 v bs.length (cb bs)
theorem zlg(n:Nat):cb (List.replicate n 0)=List.replicate n (.int .u8 0):=by simp[cb]
theorem zjW{w:World}{base g n:Nat}(h:w.ownsRow base 5 1 (.slice (some ⟨g,0,none⟩) n n) n (madeCells (Value.int .u8 0).cells (n*1)).toList):
  ownB w base (.slice (some ⟨g,0,none⟩) n n) (List.replicate n 0):=by
 unfold ownB;rw[zlg,List.length_replicate];have:(madeCells (Value.int .u8 0).cells (n*1)).toList=List.replicate n (.int .u8 0):=by
  rw[Nat.mul_one];exact toList_madeCells_one _ _
 rwa[this] at h
theorem zpy{bs:List UInt8}{k:Nat}(h:k<bs.length):(cb bs)[k]?=some (.int .u8 (bs[k].toNat:Int)):=by
 simp[cb,h]
theorem ownB.cell{w:World}{base g n c:Nat}{bs:List UInt8}(h:ownB w base (.slice (some ⟨g,0,none⟩) n c) bs)(q:n=bs.length){k:Nat}(o:k<bs.length):
  w.cell? ⟨g,k,none⟩=some (.int .u8 (bs[k].toNat:Int)):=by
 subst q;rw[World.ownsRow.cellAt h k (by omega),zpy o]
theorem ownB.frozen{w:World}{base g n c:Nat}{bs:List UInt8}(h:ownB w base (.slice (some ⟨g,0,none⟩) n c) bs)(o:n=bs.length)(k:Nat):
  w.frozen? ⟨g,k,none⟩=false:=by
 subst o;exact World.ownsRow.frozenAt h k
theorem ownB.store{w:World}{base g n c:Nat}{bs:List UInt8}(h:ownB w base (.slice (some ⟨g,0,none⟩) n c) bs)(o:n=bs.length)(k:Nat)(u:UInt8):
  ownB (w.setCell ⟨g,k,none⟩ (.int .u8 (u.toNat:Int))) base (.slice (some ⟨g,0,none⟩) n c) (bs.set k u):=by
 subst o;have:=(World.ownsRow.stored h k (.int .u8 (u.toNat:Int))).1;unfold ownB;rw[List.length_set];have e:cb (bs.set k u)=(cb bs).set k (.int .u8 (u.toNat:Int)):=by simp[cb,List.map_set]
 rwa[e]
theorem ownB.mono{w:World}{base base':Nat}{v:Value}{bs:List UInt8}(h:ownB w base v bs)(t:base'<=base):ownB w base' v bs:=by
 refine⟨h.1,?_⟩;rcases h.2 with r | ⟨g,q,o,rfl,s,rest⟩
 ·exact .inl r
 ·exact .inr ⟨g,q,o,rfl,by omega,rest⟩
/-- make([]byte, n): zeros in a new block. -/
theorem zdQ{w:World}{ops:Array Oper}{rest:List Oper}{o:Oper}{a:Act}{Q:Exit->Act->World->Prop}
  (hg:o.guard=none) (l c:Operand) (g:o.op=Op.makeSlice 22 l c) (n:Nat) (L:Int) (C:a.eval l=.int .i64 L) (D:a.eval c=.int .i64 L)
  (t:L=(n:Int)) (F:n<=140737488355328)
  (z:∀w',ownB w' w.heap.size (.slice (some ⟨w.heap.size,0,none⟩) n n) (List.replicate n 0)->Below w.heap.size w w'->w.heap.size<w'.heap.size ->
   wpList Tryz.prog ops Q rest (a.put o.dst (.slice (some ⟨w.heap.size,0,none⟩) n n)) w') :
  wpList Tryz.prog ops Q (o :: rest) a w:=by
 obtain⟨E,hi,q,r,s⟩:=info_parts Tryz.info_u8;refine wpList_make_full w hg l c 22 g w.heap.size 5 E _ 1 Tryz.underlying22 hi q r _ _ _ _ n C D t t (by rw[s];omega) (by unfold maxLen;omega) (Nat.le_refl _) ?_;intro w' h1 h2;have u:=zjW h1;exact z w' u ((Below.refl _ _).grown h2 (Nat.le_refl _) (by simp)) (World.ownsRow.lt u _ rfl).2
theorem ownB.cell'{w:World}{base g n c:Nat}{bs:List UInt8}(h:ownB w base (.slice (some ⟨g,0,none⟩) n c) bs)(q:n=bs.length){k:Nat}(o:k<bs.length):
  ∃v,w.cell? ⟨g,k,none⟩=some v:=⟨_,h.cell q o⟩
theorem zaA{a b c d:Value}(h1:a=c)(h2:b=d):Ending.returned (.tuple #[a,b])=Ending.returned (.tuple #[c,d]):=by rw[h1,h2]
theorem zaS(b o j:Nat):(⟨b,o,none⟩:Addr).add j=⟨b,o+j,none⟩:=by unfold Addr.add;split<;>simp_all
/-- A slice (address A, n elements of sz cells) reads as xs, below block B. -/
def Rd(w:World)(B sz:Nat)(A:Option Addr)(n:Nat)(xs:List Value):Prop :=
 xs.length=n*sz/\(0<n->∃b o,A=some ⟨b,o,none⟩/\b<B/\∀j u,xs[j]?=some u->w.cell? ⟨b,o+j,none⟩=some u)
section
variable {w w' : World} {B B' sz n : Nat} {A : Option Addr} {xs : List Value}
theorem Rd.none_:Rd w B sz A 0 []:=⟨by simp,fun h=>absurd h (by omega)⟩
theorem Rd.keep(h:Rd w B sz A n xs)(q:∀p:Addr,p.block<B->w'.cell? p=w.cell? p):Rd w' B sz A n xs :=
 ⟨h.1,fun r=>by
  obtain⟨b,o,e,g,s⟩:=h.2 r;exact⟨b,o,e,g,fun j u t=>(q _ g).trans (s j u t)⟩⟩
theorem Rd.more(h:Rd w B sz A n xs)(s:B<=B'):Rd w B' sz A n xs :=
 ⟨h.1,fun g=>by
  obtain⟨b,o,e,r,q⟩:=h.2 g;exact⟨b,o,e,by omega,q⟩⟩
theorem Rd.below(h:Rd w B sz A n xs)(g:Below B w w'):Rd w' B sz A n xs:=h.keep fun _ hp=>g.cell hp
theorem Rd.drew(h:Rd w B sz A n xs):Rd w.drew B sz A n xs:=h
theorem Rd.drewN(h:Rd w B sz A n xs)(k:Nat):Rd (w.drewN k) B sz A n xs:=h
theorem Rd.alloc(h:Rd w B sz A n xs)(g:B<=w.heap.size)(o:Obj):Rd (w.alloc o) B sz A n xs:=h.keep fun p hp=>World.cell?_alloc_lt w o p (by omega)
theorem Rd.setCell(h:Rd w B sz A n xs){p:Addr}(g:B<=p.block)(u:Value):Rd (w.setCell p u) B sz A n xs :=
 h.keep fun q hq=>World.cell?_setCell_other w p q u (fun e=>by subst e;omega)
theorem Rd.cut(h:Rd w B sz A n xs){k m:Nat}(z:k+m<=n){A':Option Addr}(q:0<m->A'=A.map (·.add (k*sz))):
  Rd w B sz A' m ((xs.drop (k*sz)).take (m*sz)):=by
 refine⟨by rw[List.length_take,List.length_drop,h.1,<-Nat.sub_mul];exact Nat.min_eq_left (Nat.mul_le_mul_right _ (by omega)),fun t=>?_⟩;obtain⟨b,o,rfl,s,r⟩:=h.2 (by omega);refine⟨b,o+k*sz,by rw[q t];simp[zaS],s,fun j u g=>?_⟩;rw[Nat.add_assoc];refine r _ u ?_;rw[List.getElem?_take] at g;split at g
 ·rw[<-g,List.getElem?_drop]
 ·cases g
theorem Rd.of_own{base:Nat}{e:TypeId}{c:Nat}(h:w.ownsRow base e sz (.slice A n c) n xs):Rd w w.heap.size sz A n xs:=by
 refine⟨h.1,fun r=>?_⟩;obtain⟨g,s,hv,_,hlt⟩:=h.form r;have o:A=some ⟨g,0,none⟩:=by injection hv
 subst o;refine⟨g,0,rfl,hlt,fun j u q=>?_⟩;rw[Nat.zero_add];have:=h.cells (g:=g) rfl j u q;rwa[zaS,Nat.zero_add] at this
theorem Rd.here(h:Rd w B 1 A n xs):Rd w w.heap.size 1 A n xs :=
 ⟨h.1,fun q=>by
  obtain⟨b,o,e,s,g⟩:=h.2 q;have r:=h.1;exact⟨b,o,e,block_lt_of_cell (a:=⟨b,o+0,none⟩) (g 0 xs[0] (List.getElem?_eq_getElem (by omega))),g⟩⟩
end
theorem zaa(n:Nat)(h:n<9223372036854775808):IntKind.i64.wrap (n:Int)=n:=by
 simp[IntKind.wrap,IntKind.bits,IntKind.signed];omega
theorem zfl(a:Nat)(g:a<9223372036854775808):(BitVec.ofInt 64 (a:Int)).toNat=a:=by
 rw[BitVec.ofInt_natCast,BitVec.toNat_ofNat];exact Nat.mod_eq_of_lt (by omega)
theorem zoc(a b:Nat)(o:a<9223372036854775808)(g:b<9223372036854775808):bits .or .i64 (a:Int) (b:Int)=((a |||b:Nat):Int):=by
 have hx:a |||b<2 ^ 63:=Nat.or_lt_two_pow (by omega) (by omega)
 show IntKind.i64.wrap ((BitVec.ofInt 64 (a:Int) |||BitVec.ofInt 64 (b:Int)).toNat:Int)=_;rw[BitVec.toNat_or,zfl a o,zfl b g,zaa _ (by omega)]
theorem zhK(a b:Nat)(o:a<9223372036854775808)(g:b<9223372036854775808):bits .and .i64 (a:Int) (b:Int)=((a &&& b:Nat):Int):=by
 have hx:a &&& b<2 ^ 63:=Nat.and_lt_two_pow _ (by omega);show IntKind.i64.wrap ((BitVec.ofInt 64 (a:Int) &&& BitVec.ofInt 64 (b:Int)).toNat:Int)=_;rw[BitVec.toNat_and,zfl a o,zfl b g,zaa _ (by omega)]
theorem zb6(x:Int)(h0:0<=x)(h1:x<=4611686018427387904):wrap64 x=x:=by
 unfold wrap64;rw[Int.emod_eq_of_lt (by omega) (by omega)];omega
/-- A slice of bytes. -/
def RdB(w:World)(B:Nat)(A:Option Addr)(n:Nat)(bs:List UInt8):Prop:=Rd w B 1 A n (cb bs)
theorem RdB.len{w:World}{B n:Nat}{A:Option Addr}{bs:List UInt8}(h:RdB w B A n bs):bs.length=n:=by
 have:=h.1;rw[zby] at this;omega
theorem RdB.at_{w:World}{B n:Nat}{A:Option Addr}{bs:List UInt8}(h:RdB w B A n bs)(q:0<n):
  ∃b o,A=some ⟨b,o,none⟩/\b<B/\∀j (g:j<bs.length),w.cell? ⟨b,o+j,none⟩=some (.int .u8 (bs[j].toNat:Int)):=by
 obtain⟨b,o,e,s,r⟩:=h.2 q;exact⟨b,o,e,s,fun j g=>r j _ (zpy g)⟩
theorem RdB.cut{w:World}{B n:Nat}{A:Option Addr}{bs:List UInt8}(h:RdB w B A n bs){k m:Nat}(g:k+m<=n){A':Option Addr}(o:0<m->A'=A.map (·.add k)):
  RdB w B A' m ((bs.drop k).take m):=by
 have:=Rd.cut h g (A':=A') (by simpa using o);unfold RdB
 simpa [cb,List.map_drop,List.map_take] using this
theorem ownB.form{w:World}{base:Nat}{v:Value}{bs:List UInt8}(h:ownB w base v bs):
  ∃A c,v=.slice A bs.length c/\RdB w w.heap.size A bs.length bs/\bs.length<=c/\c<=maxLen:=by
 have h2:=h.2;rcases h2 with⟨rfl,h0⟩ | ⟨g,q,o,rfl,_,_,h1,h2,_⟩
 ·have:bs=[]:=List.eq_nil_of_length_eq_zero h0
  subst this;exact⟨none,0,rfl,Rd.none_,by simp,by simp⟩
 ·exact⟨_,_,rfl,Rd.of_own h,h1,h2⟩
theorem RdB.blw{w w':World}{B n:Nat}{A:Option Addr}{bs:List UInt8}(h:RdB w B A n bs)(g:Below B w w'):RdB w' B A n bs:=Rd.below h g
theorem RdB.later{w w':World}{n:Nat}{A:Option Addr}{bs:List UInt8}(h:RdB w w.heap.size A n bs)(g:Below w.heap.size w w'):RdB w' w'.heap.size A n bs :=
 Rd.here (Rd.below h g)
theorem ownB.later{w w':World}{base:Nat}{v:Value}{bs:List UInt8}(h:ownB w base v bs)(o:Below w.heap.size w w'):ownB w' base v bs :=
 Below.ownsRow h o (fun g hg=>(World.ownsRow.lt h g hg).2)
/-- Two steps in a row, the second of which is told from its own beginning. -/
theorem zeg{B:Nat}{w w1 w2:World}(h:Below B w w1)(k:Below w1.heap.size w1 w2)(g:B<=w.heap.size):Below B w w2 :=
 h.trans (k.mono (Nat.le_trans g h.size))
/-- The value written out, its length a letter. -/
theorem ownB.slice{w:World}{base:Nat}{v:Value}{bs:List UInt8}(h:ownB w base v bs):
  ∃A n c,v=.slice A n c/\RdB w w.heap.size A n bs/\n<=c/\c<=maxLen:=by
 obtain⟨A,c,h1,h2,g,h4⟩:=h.form;exact⟨A,_,c,h1,h2,g,h4⟩
/-- string(b). -/
theorem zc2{w:World}{B n c:Nat}{A:Option Addr}{bs:List UInt8}(h:RdB w B A n bs):
  (convert 22 9 (.slice A n c)).run Tryz.prog w=.ok (.string ⟨bs.toArray⟩) w:=by
 have g:=h.len;subst g;rcases Nat.eq_zero_or_pos bs.length with h0|h0
 ·have:bs=[]:=List.eq_nil_of_length_eq_zero h0
  subst this;rcases A with _|a
  ·exact run_convert_bytes_nil (P:=Tryz.prog) w 22 5 Tryz.underlying22 Tryz.underlying5 _ _ 9 Tryz.underlying9
  ·exact run_convert_bytes_back w 22 9 5 a c [] Tryz.underlying22 Tryz.underlying5 Tryz.underlying9 (by simp)
 ·obtain⟨b,o,rfl,_,q⟩:=h.at_ h0
  exact run_convert_bytes_back w 22 9 5 _ c bs Tryz.underlying22 Tryz.underlying5 Tryz.underlying9
   (fun j r=>by rw[zaS];exact q j r)
/-- A literal's own row. -/
theorem zd3(w:World)(bs:List UInt8)(g:bs.length<=140737488355328):ownB (w.alloc (.cells (cb bs).toArray 5)) w.heap.size (.slice (some ⟨w.heap.size,0,none⟩) bs.length bs.length) bs:=by
 have:=World.ownsRow_lit (base:=w.heap.size) (size:=1) (e:=5) w (cb bs).toArray bs.length (Nat.le_refl _) (by unfold maxLen;omega) (by simp[cb]);exact this
theorem zf6(w:World)(C:Array Value)(n c:Nat):
  (convert 22 22 (.slice (some ⟨w.heap.size,0,none⟩) n c)).run Tryz.prog (w.alloc (.cells C 5))=.ok (.slice (some ⟨w.heap.size,0,none⟩) n c) (w.alloc (.cells C 5 (C.size,C.size+1))) :=
 Lib.run_convert_bytes_const (P:=Tryz.prog) w 22 5 C n c Tryz.underlying22 Tryz.underlying5
theorem zgF(bs:List UInt8):∀u∈cb bs,u.oneCell'=true:=by
 intro u g;simp only[cb,List.mem_map] at g;obtain⟨b,_,rfl⟩:=g;rfl
theorem zhL(w:World)(base:Nat)(H:TypeId)(v:Value)(bs:List UInt8)(r:ownB w base v bs)(B m c:Nat)(A:Option Addr)(q:List UInt8)(hr:RdB w B A m q)
  (T:bs.length+m<=140737488355328) (t:base<=w.heap.size) :
  ∃v' w',(Builtin.append_ #[22,22] H #[v,.slice A m c]).run Tryz.prog w=.ok v' w'/\ownB w' base v' (bs++q)/\w.grownBy w' v.ownBlock /\
   (v'.ownBlock=v.ownBlock\/v'.ownBlock=some w.heap.size)/\(v'=.slice none 0 0↔v=.slice none 0 0/\m=0):=by
 obtain⟨O,hi,E,F,D⟩:=info_parts Tryz.info_u8;have J:=hr.len;subst J;unfold ownB;rw[List.length_append,zfk];rcases A with _|ad
 ·have G:q=[]:=by
   rcases Nat.eq_zero_or_pos q.length with h0|h0
   ·exact List.eq_nil_of_length_eq_zero h0
   ·obtain⟨b,o,h,_⟩:=hr.2 h0
    cases h
  subst G;refine⟨v,w,?_,by simpa [cb,ownB] using r,World.grownBy.refl w _,.inl rfl,by simp⟩;rcases r.2 with⟨rfl,h0⟩ | ⟨g,N,R,rfl,_,_,C,_⟩
  ·simp[Builtin.append_,run_underlying Tryz.underlying22,sizeOf,typeInfo,hi,Builtin.lenOf,Builtin.firstCells]
  ·simp[Builtin.append_,run_underlying Tryz.underlying22,sizeOf,typeInfo,hi,Builtin.lenOf,Builtin.firstCells,C,storeCells]
 ·have s:∀j u,(cb q)[j]?=some u->w.cell? (ad.add j)=some u:=by
   intro j u I;rcases Nat.eq_zero_or_pos q.length with h0|h0
   ·have G:q=[]:=List.eq_nil_of_length_eq_zero h0
    subst G;simp[cb] at I
   ·obtain⟨b,o,h,_,S⟩:=hr.2 h0
    injection h with h;subst h;rw[zaS];exact S j u I
  obtain⟨v',w',z,h2,M,h4,L⟩:=run_append_own_at (P:=Tryz.prog) w base 22 H 5 O _ 1 1 Tryz.underlying22 hi E F D rfl (by omega) v bs.length (cb bs) r ad q.length c (cb q) (by simp[cb]) s (zgF _) (by unfold maxLen;omega) (by omega) t;exact⟨v',w',z,h2,M,L,h4⟩
/-- append(v, x...) of bytes: v the call's own, x whatever. -/
theorem zat{w:World}{ops:Array Oper}{rest:List Oper}{o:Oper}{a:Act}{Q:Exit->Act->World->Prop}(u:o.guard=none)(s x:Operand)
  (E:o.op=.call { callee:=.builtin .append,args:=#[s,x],argTypes:=#[22,22] })
  (base:Nat) (v:Value) (bs:List UInt8) (hs:a.eval s=v) (r:ownB w base v bs) (B m c:Nat) (A:Option Addr) (q:List UInt8) (hx:a.eval x=.slice A m c) (hr:RdB w B A m q)
  (F:bs.length+m<=140737488355328) (g:base<=w.heap.size)
  (h:∀v' w',ownB w' base v' (bs++q)->w.grownBy w' v.ownBlock->Below base w w'->(v'.ownBlock=v.ownBlock\/v'.ownBlock=some w.heap.size)->wpList Tryz.prog ops Q rest (a.put o.dst v') w') :
  wpList Tryz.prog ops Q (o :: rest) a w:=by
 refine wpList_plain u fun K D=>?_
 obtain⟨v',w',t,h2,z,h4,_⟩:=zhL w base o.type v bs r B m c A q hr F g;unfold Oper.wp execOp;simp only[E,resolve,invoke,builtin,Sem.run_bind,Sem.run_pure,Result.andThen_ok,List.map_toArray,List.map_cons,List.map_nil,hs,hx,t];exact D _ _ (h v' w' h2 z ((Below.refl _ _).grown z g (fun k C=>(World.ownsRow.lt r k C).1)) h4)
/-- The bytes of a literal that was laid just now. -/
theorem zgG(w:World)(t:TypeId)(fr:Nat×Nat)(bs:List UInt8):RdB (w.alloc (.cells (cb bs).toArray t fr)) (w.heap.size+1) (some ⟨w.heap.size,0,none⟩) bs.length bs:=by
 refine⟨by simp[cb],fun _=>⟨_,_,rfl,by omega,fun j u g=>?_⟩⟩;rw[Nat.zero_add];have:=cell_of_row (w.alloc (.cells (cb bs).toArray t fr)) w.heap.size j (cb bs).toArray t fr (heap_alloc_new w _);rw[this]
 simpa using g
/-- The block of n zero bytes that make lays. -/
def zht(n:Nat):Obj:=.cells (madeCells (Value.int .u8 0).cells (n*1)) 5
theorem zjX(w:World)(n:Nat)(s:n<=140737488355328):
  (Instr.makeSlice 22 (.int .i64 (n:Int)) (.int .i64 (n:Int))).run Tryz.prog w=.ok (.slice (some ⟨w.heap.size,0,none⟩) n n) (w.alloc (zht n)):=by
 obtain⟨r,hi,g,o,q⟩:=info_parts Tryz.info_u8;have hr:=run_make (P:=Tryz.prog) w 22 5 r _ Tryz.underlying22 hi g .i64 .i64 n n (by omega) (Int.le_refl _) (by rw[q];omega) (by omega);simp only[Int.toNat_natCast,o] at hr;exact hr
theorem zlh(w:World)(n:Nat)(g:n<=140737488355328):ownB (w.alloc (zht n)) w.heap.size (.slice (some ⟨w.heap.size,0,none⟩) n n) (List.replicate n 0) :=
 zjW (World.ownsRow_lit (base:=w.heap.size) (size:=1) (e:=5) w _ n (Nat.le_refl _) (by unfold maxLen;omega) (size_madeCells _ _))
theorem zbu{w:World}{base g:Nat}{v:Value}{bs:List UInt8}(h:ownB w base v bs)(hg:g<base):v.ownBlock≠some g:=by
 intro e;have:=(World.ownsRow.lt h g e).1;omega
/-- What is owned stays so while another block is written. -/
theorem ownB.far{w:World}{base g:Nat}{v:Value}{bs:List UInt8}(h:ownB w base v bs)(hg:v.ownBlock≠some g)(o:Nat)(u:Value):
  ownB (w.setCell ⟨g,o,none⟩ u) base v bs:=by
 refine⟨h.1,?_⟩;rcases h.2 with t | ⟨g',s,q,rfl,z,r,rest⟩
 ·exact .inl t
 ·refine .inr ⟨g',s,q,rfl,z,?_,rest⟩
  rw[Below.heap_setCell _ _ _ _ (by intro e;apply hg;simp[Value.ownBlock];exact e)];exact r
theorem ownB.pos{w:World}{base n c:Nat}{A:Option Addr}{bs:List UInt8}(h:ownB w base (.slice A n c) bs)(t:0<n):n=bs.length/\∃g,A=some ⟨g,0,none⟩/\base<=g/\g<w.heap.size:=by
 rcases h.2 with⟨o,_⟩ | ⟨g,r,q,o,s,hg,_⟩
 ·injection o with _ h2;omega
 ·injection o with h1 h2
  exact⟨h2,g,h1,s,(World.ownsRow.lt h g (by rw[h1];rfl)).2⟩
/-- One byte of a slice. -/
theorem RdB.byte{w:World}{B n:Nat}{A:Option Addr}{bs:List UInt8}(h:RdB w B A n bs){k:Nat}(r:k<n):
  ∃b o x,A=some ⟨b,o,none⟩/\b<B/\Hid (bs[k]?=some x)/\w.cell? ⟨b,o+k,none⟩=some (.int .u8 (x.toNat:Int)):=by
 obtain⟨b,o,e,q,g⟩:=h.at_ (by omega);have s:=h.len;exact⟨b,o,bs[k],e,q,List.getElem?_eq_getElem (by omega),g k (by omega)⟩
theorem ownB.byte{w:World}{base g n c:Nat}{bs:List UInt8}(h:ownB w base (.slice (some ⟨g,0,none⟩) n c) bs)(o:n=bs.length){k:Nat}(q:k<n):
  ∃x:UInt8,Hid (bs[k]?=some x)/\w.cell? ⟨g,k,none⟩=some (.int .u8 (x.toNat:Int)) :=
 ⟨bs[k]'(by omega),List.getElem?_eq_getElem (by omega),h.cell o (by omega)⟩
theorem zan{B:Nat}{w w':World}(h:Below B w w'){b o:Nat}(g:b<B){v:Value}(q:w.cell? ⟨b,o,none⟩=some v):w'.cell? ⟨b,o,none⟩=some v :=
 (h.cell (p:=⟨b,o,none⟩) g).trans q
theorem ownB.rd{w:World}{base n c:Nat}{A:Option Addr}{bs:List UInt8}(h:ownB w base (.slice A n c) bs):RdB w w.heap.size A n bs:=by
 obtain⟨s,t,c4,q,g,_,_⟩:=h.slice;injection q with r o u;rw[r,o];exact g
theorem ownB.alloc{w:World}{base:Nat}{v:Value}{bs:List UInt8}(h:ownB w base v bs)(o:Obj):ownB (w.alloc o) base v bs:=World.ownsRow.alloc h o
theorem ownB.drew{w:World}{base:Nat}{v:Value}{bs:List UInt8}(h:ownB w base v bs):ownB w.drew base v bs:=h
theorem ownB.drewN{w:World}{base:Nat}{v:Value}{bs:List UInt8}(h:ownB w base v bs)(n:Nat):ownB (w.drewN n) base v bs:=h
theorem zag{B:Nat}{a w:World}(h:Below B a w)(n:Nat):Below B a (w.drewN n):=⟨h.os,h.tape,h.output,h.size,h.block⟩
theorem ownB.kept{w w':World}{base:Nat}{v v':Value}{bs:List UInt8}(h:ownB w base v bs)(hg:w.grownBy w' v'.ownBlock)(g:v.ownBlock=none\/v.ownBlock≠v'.ownBlock):ownB w' base v bs :=
 World.ownsRow.kept h hg g
theorem ownB.nil_(w:World)(base:Nat):ownB w base (.slice none 0 0) []:=World.ownsRow_nil _ _ _ _
/-- A literal of one byte, of two. -/
theorem zfN(w:World)(x:Int)(b:UInt8)(h:x=(b.toNat:Int)):RdB (w.alloc (.cells #[.int .u8 x] 5)) (w.heap.size+1) (some ⟨w.heap.size,0,none⟩) 1 [b]:=by
 subst h;exact zgG w 5 (0,0) [b]
theorem zkZ(A:Option Addr):A.map (·.add 0)=A:=by cases A<;>simp[Addr.add]
/-- The front of a slice. -/
theorem RdB.pre{w:World}{B n m:Nat}{A:Option Addr}{bs:List UInt8}(h:RdB w B A n bs)(g:m<=n):RdB w B A m (bs.take m):=by
 have:=RdB.cut h (k:=0) (m:=m) (by omega) (A':=A) (fun _=>(zkZ A).symm)
 simpa using this
/-- append of bytes as a step of a region that draws its order. -/
theorem ze7{w:World}{ops:Array Oper}{o:Oper}{a:Act}{K:Act->World->Prop}{Q:Exit->Act->World->Prop}{E:Prop}(u:o.guard=none)(s x:Operand)
  (F:o.op=.call { callee:=.builtin .append,args:=#[s,x],argTypes:=#[22,22] })
  (base:Nat) (v:Value) (bs:List UInt8) (hs:a.eval s=v) (r:ownB w base v bs) (B m c:Nat) (A:Option Addr) (q:List UInt8) (hx:a.eval x=.slice A m c) (hr:RdB w B A m q)
  (G:bs.length+m<=140737488355328) (g:base<=w.heap.size)
  (h:∀v' w',ownB w' base v' (bs++q)->w.grownBy w' v.ownBlock->Below base w w'->(v'.ownBlock=v.ownBlock\/v'.ownBlock=some w.heap.size)->K (a.put o.dst v') w') :
  if Region.wanted o (yielded ops a.tmps)=true then Oper.wp Tryz.prog o a w K Q else E:=by
 have D:Region.wanted o (yielded ops a.tmps)=true:=by simp[Region.wanted,u]
 rw[if_pos D];obtain⟨v',w',t,h2,z,h4,_⟩:=zhL w base o.type v bs r B m c A q hr G g;unfold Oper.wp execOp;simp only[F,resolve,invoke,builtin,Sem.run_bind,Sem.run_pure,Result.andThen_ok,List.map_toArray,List.map_cons,List.map_nil,hs,hx,t];exact h v' w' h2 z ((Below.refl _ _).grown z g (fun k C=>(World.ownsRow.lt r k C).1)) h4
/-! Bytes in the walk's spelling. -/
@[go_sem] theorem xor_u8 (a b:UInt8):bits .xor .u8 (a.toNat:Int) (b.toNat:Int)=((a ^^^ b).toNat:Int):=by
 rw[u8_xor_nat _ _ (by have:=a.toNat_lt;omega) (by have:=b.toNat_lt;omega),UInt8.toNat_xor]
@[go_sem] theorem xor3_u8 (a b c:UInt8):bits .xor .u8 ((a.toNat ^^^ b.toNat:Nat):Int) (c.toNat:Int)=((a.toNat ^^^ b.toNat ^^^ c.toNat:Nat):Int):=by
 have:=xor_u8 (a ^^^ b) c
 simpa only[UInt8.toNat_xor] using this
@[go_sem] theorem sub_u8 (a b:UInt8):((a.toNat:Int)-b.toNat) % 256=((a-b).toNat:Int):=by
 rw[UInt8.toNat_sub];have:=a.toNat_lt;have:=b.toNat_lt;omega
theorem zpz(a b:UInt8):((a.toNat:Int)+b.toNat) % 256=((a+b).toNat:Int):=by
 rw[UInt8.toNat_add];omega
/-- A list filled from the left. -/
def zcb(X:List UInt8)(k:Nat):List UInt8:=X.take k++List.replicate (X.length-k) 0
theorem zod(X:List UInt8)(k:Nat)(h:k<=X.length):(zcb X k).length=X.length:=by simp[zcb];omega
theorem zmL(X:List UInt8):zcb X 0=List.replicate X.length 0:=by simp[zcb]
theorem zoe(X:List UInt8):zcb X X.length=X:=by simp[zcb]
theorem zmM(X:List UInt8)(k:Nat)(h:k<X.length):zcb X (k+1)=(zcb X k).set k X[k]:=by
 unfold zcb;have h1:X.length-k=(X.length-(k+1))+1:=by omega
 have g:(X.take k).length=k:=by simp;omega
 rw[h1,List.replicate_succ,List.set_append_right _ _ (by omega),g,Nat.sub_self,List.set_cons_zero,List.take_succ_eq_append_getElem h,List.append_assoc];rfl
theorem zof(X:List UInt8)(k:Nat)(y:UInt8)(h:X[k]?=some y):zcb X (k+1)=(zcb X k).set k y:=by
 obtain⟨g,rfl⟩:=List.getElem?_eq_some_iff.1 h;exact zmM X k g
theorem yo{p:Prop}(h:p):Hid p:=Lib.hid h
theorem nlr(n:Nat):n<=n:=Nat.le_refl n
theorem nlt{a b c:Nat}(h:a<=b)(k:b<=c):a<=c:=Nat.le_trans h k
theorem lla{α:Type}{a b:List α}:(a++b).length=a.length+b.length:=List.length_append
theorem llt{α:Type}{n:Nat}{a:List α}:(a.take n).length=min n a.length:=List.length_take
theorem lld{α:Type}{n:Nat}{a:List α}:(a.drop n).length=a.length-n:=List.length_drop
theorem lge{α:Type}{l:List α}{i:Nat}(h:i<l.length):l[i]?=some l[i]:=List.getElem?_eq_getElem h
theorem lgd{α:Type}{l:List α}{i:Nat}{x:α}:l.getD i x=l[i]?.getD x:=List.getD_eq_getElem?_getD
theorem bef{α:Type}[BEq α][LawfulBEq α]{a b:α}(h:a≠b):(a==b)=false:=beq_eq_false_iff_ne.2 h
theorem wsa(w:World)(o:Obj):(w.alloc o).heap.size=w.heap.size+1:=World.size_alloc w o
theorem olt{w:World}{base:Nat}{t:TypeId}{s:Nat}{v:Value}{n:Nat}{cs:List Value}(h:w.ownsRow base t s v n cs):∀g,v.ownBlock=some g->base<=g/\g<w.heap.size:=World.ownsRow.lt h
end Go.Proofs.YtebbdifhiihfkaaGreatDoor

/- flate: symbols of lengths and distances, the fixed lengths, plainly. -/
namespace Go.Proofs.YtebbdifhiihfkaaGreatDoor
set_option linter.all false
/-- A symbol's first number and how many more bits it has: of symbols in groups. -/
def grp(s per first:Nat):Nat×Nat:=if s<2*per then(first+s,0) else(first+(per+s % per)*2 ^ (s / per-1),s / per-1)
def lenOf(s:Nat):Nat×Nat:=if s=28 then(258,0) else grp s 4 3
def zae(s:Nat):Nat×Nat:=grp s 2 1
/-- The greatest symbol from k down that begins no later than x. -/
def zeh(f:Nat->Nat×Nat)(x:Nat):Nat->Nat
 |0=>0
 |k+1=>if(f (k+1)).1<=x then k+1 else zeh f x k
def za5(x:Nat):Nat:=zeh lenOf x 28
def zaK(x:Nat):Nat:=zeh zae x 29
theorem zgd(f:Nat->Nat×Nat)(x:Nat)(h0:(f 0).1<=x):∀k,zeh f x k<=k/\(f (zeh f x k)).1<=x/\∀j,zeh f x k<j->j<=k->x<(f j).1
 |0=>⟨nlr _,h0,fun j h1 h2=>by have:zeh f x 0=0:=rfl;omega⟩
 |k+1=>by
  by_cases h:(f (k+1)).1<=x
  ·have e:zeh f x (k+1)=k+1:=if_pos h
   rw[e];exact⟨nlr _,h,fun j h1 h2=>by omega⟩
  ·have e:zeh f x (k+1)=zeh f x k:=if_neg h
   rw[e];obtain⟨h1,h2,g⟩:=zgd f x h0 k;refine⟨by omega,h2,fun j o q=>?_⟩;by_cases hj2:j<=k
   ·exact g j o hj2
   ·obtain rfl:j=k+1:=by omega
    omega
/-- The fixed lengths. -/
def za6(i:Nat):Int:=if i<144 then 8 else if i<256 then 9 else if i<280 then 7 else 8
def fixL:List Int:=(List.range 288).map za6
def fixD:List Int:=List.replicate 32 5
theorem zpV(k:Nat):(List.range (k+1)).map za6=(List.range k).map za6++[za6 k]:=by rw[List.range_succ,List.map_append];rfl
theorem zcO{x:Nat}(h:3<=x):za5 x<=28/\(lenOf (za5 x)).1<=x/\∀j,za5 x<j->j<=28->x<(lenOf j).1:=zgd lenOf x h 28
theorem zcr{x:Nat}(h:1<=x):zaK x<=29/\(zae (zaK x)).1<=x/\∀j,zaK x<j->j<=29->x<(zae j).1:=zgd zae x h 29
theorem zu0{k:Nat}(h:k<=28):k=0\/k=1\/k=2\/k=3\/k=4\/k=5\/k=6\/k=7\/k=8\/k=9\/k=10\/k=11\/k=12\/k=13\/k=14\/k=15\/k=16\/k=17\/k=18\/k=19\/k=20\/k=21\/k=22\/k=23\/k=24\/k=25\/k=26\/k=27\/k=28:=by omega
/-- A symbol's interval decides it. -/
theorem zj6{f:Nat->Nat×Nat}{x k s n:Nat}(g:∀i j,i<j->j<=n->(f i).1<(f j).1)(h1:k<=n/\(f k).1<=x/\∀j,k<j->j<=n->x<(f j).1)(h2:s<=n/\(f s).1<=x/\∀j,s<j->j<=n->x<(f j).1):k=s:=by
 rcases Nat.lt_trichotomy k s with h|h|h
 ·have:=h1.2.2 s h h2.1;omega
 ·exact h
 ·have:=h2.2.2 k h h1.1;omega
theorem zns{f:Nat->Nat×Nat}{n:Nat}(h:∀i,i<n->(f i).1<(f (i+1)).1):∀i j,i<j->j<=n->(f i).1<(f j).1:=by
 intro i j g o
 induction j with
 |zero=>omega
 |succ j ih =>
  have h1:=h j (by omega);by_cases e:i=j
  ·rw[e];exact h1
  ·have:=ih (by omega) (by omega)
   omega
theorem zr9:∀i j,i<j->j<=28->(lenOf i).1<(lenOf j).1:=zns (n:=28) (by decide)
theorem zpW:∀i j,i<j->j<=29->(zae i).1<(zae j).1:=zns (n:=29) (by decide)
end Go.Proofs.YtebbdifhiihfkaaGreatDoor

/- What every statement's proof needs of its frame: arguments opened to bytes. -/
namespace Go.Proofs.YtebbdifhiihfkaaGreatDoor
set_option linter.all false
open Go.ChangeShapes Go.WideShapes Go.ChangeAt Go.RowKit
open Go.ChangeMaps (open_string shut_string)
theorem own:ownKnob Tryz.prog.godebug=none:=by kernel_rfl
theorem zuS:laidOutB Tryz.prog=true:=by kernel_rfl
theorem zuT(z:Int)(h:(Lit.int .u8 z).wf=true):((UInt8.ofNat z.toNat).toNat:Int)=z:=by
 have b:=bounds_u8 h;rw[UInt8.toNat_ofNat'];omega
theorem zpx{H:Type}{enc:TypeId×Value->H}{W:World}{sp:Nat->Bool}{held:Bool}{a:Option Addr}{n c:Nat}{d:DataW H}{p:List MemPlace}
  (h:DataW.Trod enc Tryz.prog W 0 sp held 22 (.slice a n c) d p):∃bs,RdB W W.heap.size a n bs/\n<=c/\c<=maxLen:=by
 obtain⟨C,I⟩:=h;rcases open_ints Tryz.underlying22 Tryz.underlying5 (by kernel_rfl) I with⟨q,_⟩ | ⟨x,l,M,t,q,_,E,L,hz,_,g,A⟩
 ·simp[Value.cells] at q
  obtain⟨rfl,rfl,rfl⟩:=q;exact⟨[],Rd.none_,by omega,by simp⟩
 ·simp[Value.cells] at q
  obtain⟨rfl,rfl,rfl⟩:=q;have F:n<=t.length:=by rw[hz];split<;>omega
  refine⟨(t.take n).map fun z=>UInt8.ofNat z.toNat,⟨by simp[cb];omega,fun N=>?_⟩,E,L⟩;have h0:=g 0 (by omega);obtain⟨b,o,s⟩:=x;have r:s=none:=by simpa [Addr.add] using World.cell?_spot h0
  subst r;refine⟨b,o,rfl,?_,fun j u B=>?_⟩
  ·have:=block_lt_of_cell h0
   simpa [zaS] using this
  ·have J:j<n:=by
    have:=(List.getElem?_eq_some_iff.1 B).1;simp[cb] at this;omega
   have D:=g j (by omega);rw[zaS] at D;rw[D];have G:=A (t[j]'(by omega)) (List.getElem_mem _);simp[cb,List.getElem?_take,J,lge (show j<t.length by omega)] at B;rw[<-B];have:=zuT _ G;rw[UInt8.toNat_ofNat'] at this;simp[List.getD,lge (show j<t.length by omega)]
   simpa using this.symm
end Go.Proofs.YtebbdifhiihfkaaGreatDoor

