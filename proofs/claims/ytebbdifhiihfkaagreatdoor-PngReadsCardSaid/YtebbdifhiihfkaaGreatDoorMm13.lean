/- XRowK XFl8 XFl9 -/
import Derived.Test.YtebbdifhiihfkaaGreatDoorMm01
import Derived.Test.YtebbdifhiihfkaaGreatDoorMm09
import Derived.Test.YtebbdifhiihfkaaGreatDoorMm12
namespace Go.Proofs.YtebbdifhiihfkaaGreatDoor
set_option linter.all false
set_option maxRecDepth 100000
open Go.RowKit
def eK(x:(Nat×Nat×Nat)):List Value:=[Value.int .i64 (x.1:Int),Value.int .i64 (x.2.1:Int),Value.int .i64 (x.2.2:Int)]
theorem ziF(x:(Nat×Nat×Nat)):(eK x).length=3:=rfl
/-- The cells of a list. -/
def cK(l:List (Nat×Nat×Nat)):List Value:=l.flatMap eK
theorem zfr:∀l:List (Nat×Nat×Nat),(cK l).length=l.length*3
 | []=>rfl
 |x :: l=>by
  have:=zfr l;unfold cK at this ⊢;rw[List.flatMap_cons,lla,this,ziF,List.length_cons];omega
theorem zpY(a b:List (Nat×Nat×Nat)):cK (a++b)=cK a++cK b:=by simp[cK]
theorem zpZ(x:(Nat×Nat×Nat)):cK [x]=eK x:=by simp[cK]
theorem ziG:∀(l:List (Nat×Nat×Nat)) (k j:Nat) (g:k<l.length),j<3->(cK l)[k*3+j]?=(eK l[k])[j]?
 |x :: l,0,j,_,hj=>by
  unfold cK;rw[List.flatMap_cons,List.getElem?_append_left (by rw[ziF];omega)];simp
 |x :: l,i+1,j,hi,hj=>by
  have:=ziG l i j (by simpa using hi) hj;unfold cK at this ⊢;rw[List.flatMap_cons,List.getElem?_append_right (by rw[ziF];omega),ziF,List.getElem_cons_succ,<-this]
  congr 1
  omega
theorem zu5(l:List (Nat×Nat×Nat)):∀u∈cK l,u.oneCell'=true:=by
 intro u g;simp only[cK,List.mem_flatMap] at g;obtain⟨x,_,hx⟩:=g;simp only[eK,List.mem_cons,List.not_mem_nil,or_false] at hx;rcases hx with rfl|rfl|rfl<;>rfl
theorem Tryz.info_K:(Tryz.prog.info? 184).map (fun i=>(i.zero,i.size,i.bytes))=some (some (.agg #[.int .i64 0,.int .i64 0,.int .i64 0]),3,24):=by kernel_rfl
def ownK(w:World)(base:Nat)(v:Value)(l:List (Nat×Nat×Nat)):Prop:=w.ownsRow base 184 3 v l.length (cK l)
def RdK(w:World)(B:Nat)(A:Option Addr)(n:Nat)(l:List (Nat×Nat×Nat)):Prop:=Rd w B 3 A n (cK l)
theorem RdK.len{w:World}{B n:Nat}{A:Option Addr}{l:List (Nat×Nat×Nat)}(h:RdK w B A n l):l.length=n:=by
 have:=h.1;rw[zfr] at this;omega
theorem RdK.one{w:World}{B n:Nat}{A:Option Addr}{l:List (Nat×Nat×Nat)}(h:RdK w B A n l){k:Nat}(s:k<n):
  ∃b o x,A=some ⟨b,o,none⟩/\b<B/\Hid (l[k]?=some x)/\w.cell? ⟨b,o+k*3,none⟩=some (Value.int .i64 (x.1:Int))/\w.cell? ⟨b,o+k*3+1,none⟩=some (Value.int .i64 (x.2.1:Int))/\w.cell? ⟨b,o+k*3+2,none⟩=some (Value.int .i64 (x.2.2:Int)):=by
 obtain⟨b,o,e,r,q⟩:=h.2 (by omega);have t:=h.len;have g:k<l.length:=by omega
 refine⟨b,o,l[k],e,r,lge g,?_,?_,?_⟩
 ·exact q (k*3) _ ((ziG l k 0 g (by omega)).trans rfl)
 ·exact q (k*3+1) _ ((ziG l k 1 g (by omega)).trans rfl)
 ·exact q (k*3+2) _ ((ziG l k 2 g (by omega)).trans rfl)
theorem RdK.blw{w w':World}{B n:Nat}{A:Option Addr}{l:List (Nat×Nat×Nat)}(h:RdK w B A n l)(g:Below B w w'):RdK w' B A n l:=Rd.below h g
theorem RdK.more{w:World}{B g n:Nat}{A:Option Addr}{l:List (Nat×Nat×Nat)}(h:RdK w B A n l)(o:B<=g):RdK w g A n l:=Rd.more h o
theorem RdK.alloc{w:World}{B n:Nat}{A:Option Addr}{l:List (Nat×Nat×Nat)}(h:RdK w B A n l)(g:B<=w.heap.size)(o:Obj):RdK (w.alloc o) B A n l:=Rd.alloc h g o
theorem ownK.nil_(w:World)(base:Nat):ownK w base (.slice none 0 0) []:=World.ownsRow_nil _ _ _ _
theorem ownK.alloc{w:World}{base:Nat}{v:Value}{l:List (Nat×Nat×Nat)}(h:ownK w base v l)(o:Obj):ownK (w.alloc o) base v l:=World.ownsRow.alloc h o
theorem ownK.drewN{w:World}{base:Nat}{v:Value}{l:List (Nat×Nat×Nat)}(h:ownK w base v l)(n:Nat):ownK (w.drewN n) base v l:=h
theorem ownK.form{w:World}{base:Nat}{v:Value}{l:List (Nat×Nat×Nat)}(h:ownK w base v l):
  ∃A c,v=.slice A l.length c/\RdK w w.heap.size A l.length l/\l.length<=c/\c<=maxLen:=by
 rcases h.2 with⟨rfl,h0⟩ | ⟨g,q,o,rfl,_,_,h1,h2,_⟩
 ·have:l=[]:=List.eq_nil_of_length_eq_zero h0
  subst this;exact⟨none,0,rfl,Rd.none_,by simp,by simp⟩
 ·exact⟨_,_,rfl,Rd.of_own h,h1,h2⟩
theorem ownK.ne{w:World}{base g:Nat}{v:Value}{l:List (Nat×Nat×Nat)}(h:ownK w base v l)(hg:g<base):v.ownBlock≠some g:=by
 intro e;have:=(olt h g e).1;omega
theorem ownK.rd{w:World}{base n c:Nat}{A:Option Addr}{l:List (Nat×Nat×Nat)}(h:ownK w base (.slice A n c) l):RdK w w.heap.size A n l:=by
 obtain⟨s,c4,q,g,_,_⟩:=h.form;injection q with r o t;rw[r,o];exact g
/-- One element that lies in a block, whole. -/
theorem znt(w:World)(x:(Nat×Nat×Nat))(t:TypeId)(fr:Nat×Nat):RdK (w.alloc (.cells (eK x).toArray t fr)) (w.heap.size+1) (some ⟨w.heap.size,0,none⟩) 1 [x]:=by
 refine⟨by rw[zfr];rfl,fun _=>⟨_,_,rfl,by omega,fun j u g=>?_⟩⟩;rw[Nat.zero_add];have:=cell_of_row (w.alloc (.cells (eK x).toArray t fr)) w.heap.size j (eK x).toArray t fr (heap_alloc_new w _);rw[this];rw[zpZ] at g
 simpa using g
theorem zmP(w:World)(base:Nat)(H:TypeId)(v:Value)(l:List (Nat×Nat×Nat))(r:ownK w base v l)(B m c:Nat)(A:Option Addr)(q:List (Nat×Nat×Nat))(hr:RdK w B A m q)
  (T:l.length+m<=1099511627776) (t:base<=w.heap.size) :
  ∃v' w',(Builtin.append_ #[148,148] H #[v,.slice A m c]).run Tryz.prog w=.ok v' w'/\ownK w' base v' (l++q)/\w.grownBy w' v.ownBlock /\
   (v'.ownBlock=v.ownBlock\/v'.ownBlock=some w.heap.size)/\(v'=.slice none 0 0↔v=.slice none 0 0/\m=0):=by
 obtain⟨O,hi,E,F,D⟩:=info_parts Tryz.info_K;have J:=hr.len;subst J;unfold ownK;rw[lla,zpY];rcases A with _|ad
 ·have G:q=[]:=by
   rcases Nat.eq_zero_or_pos q.length with h0|h0
   ·exact List.eq_nil_of_length_eq_zero h0
   ·obtain⟨b,o,h,_⟩:=hr.2 h0
    cases h
  subst G;refine⟨v,w,?_,by simpa [cK,ownK] using r,World.grownBy.refl w _,.inl rfl,by simp⟩;rcases r.2 with⟨rfl,h0⟩ | ⟨g,N,R,rfl,_,_,C,_⟩
  ·simp[Builtin.append_,run_underlying Tryz.underlying148,sizeOf,typeInfo,hi,Builtin.lenOf,Builtin.firstCells]
  ·simp[Builtin.append_,run_underlying Tryz.underlying148,sizeOf,typeInfo,hi,Builtin.lenOf,Builtin.firstCells,C,storeCells]
 ·have s:∀j u,(cK q)[j]?=some u->w.cell? (ad.add j)=some u:=by
   intro j u I;rcases Nat.eq_zero_or_pos q.length with h0|h0
   ·have G:q=[]:=List.eq_nil_of_length_eq_zero h0
    subst G;simp[cK] at I
   ·obtain⟨b,o,h,_,S⟩:=hr.2 h0
    injection h with h;subst h;rw[zaS];exact S j u I
  obtain⟨v',w',z,h2,M,h4,L⟩:=run_append_own_at (P:=Tryz.prog) w base 148 H 184 O _ 3 24 Tryz.underlying148 hi E F D rfl (by omega) v l.length (cK l) r ad q.length c (cK q) (by rw[zfr]) s (zu5 _) (by unfold maxLen;omega) (by omega) t;exact⟨v',w',z,h2,M,L,h4⟩
/-- append(v, x...): v the call's own, x whatever. -/
theorem zfR{w:World}{ops:Array Oper}{rest:List Oper}{o:Oper}{a:Act}{Q:Exit->Act->World->Prop}(u:o.guard=none)(s x:Operand)
  (E:o.op=.call { callee:=.builtin .append,args:=#[s,x],argTypes:=#[148,148] })
  (base:Nat) (v:Value) (l:List (Nat×Nat×Nat)) (hs:a.eval s=v) (r:ownK w base v l) (B m c:Nat) (A:Option Addr) (q:List (Nat×Nat×Nat)) (hx:a.eval x=.slice A m c) (hr:RdK w B A m q)
  (F:l.length+m<=1099511627776) (g:base<=w.heap.size)
  (h:∀v' w',ownK w' base v' (l++q)->w.grownBy w' v.ownBlock->Below base w w'->(v'.ownBlock=v.ownBlock\/v'.ownBlock=some w.heap.size)->wpList Tryz.prog ops Q rest (a.put o.dst v') w') :
  wpList Tryz.prog ops Q (o :: rest) a w:=by
 refine wpList_plain u fun K D=>?_
 obtain⟨v',w',t,h2,z,h4,_⟩:=zmP w base o.type v l r B m c A q hr F g;unfold Oper.wp execOp;simp only[E,resolve,invoke,builtin,Sem.run_bind,Sem.run_pure,Result.andThen_ok,List.map_toArray,List.map_cons,List.map_nil,hs,hx,t];exact D _ _ (h v' w' h2 z ((Below.refl _ _).grown z g (fun k C=>(olt r k C).1)) h4)
end Go.Proofs.YtebbdifhiihfkaaGreatDoor

/- flate: zeros at a list's end cut away; how often each symbol stands. -/
namespace Go.Proofs.YtebbdifhiihfkaaGreatDoor
set_option linter.all false
set_option maxRecDepth 100000
set_option maxHeartbeats 3200000
open Go.RowKit
/-- How many stay of k when zeros at the end are cut away. -/
def zbC(ls:List Int)(least:Nat):Nat->Nat
 |0=>0
 |k+1=>if least<k+1/\ls.getD k 0=0 then zbC ls least k else k+1
def zeG(ls:List Int)(least:Nat):List Int:=ls.take (zbC ls least ls.length)
theorem ze3(ls:List Int)(least:Nat):∀k,zbC ls least k<=k
 |0=>nlr _
 |k+1=>by
  have:=ze3 ls least k;unfold zbC;split<;>omega
theorem zhC(ls:List Int)(least:Nat):∀k,least<=k->least<=zbC ls least k
 |0,h=>h
 |k+1,h=>by
  unfold zbC;split
  ·rename_i e;exact zhC ls least k (by omega)
  ·exact h
theorem ztV{ls:List Int}{least k:Nat}{x:Int}(h:least<k+1)(hx:ls[k]?=some x)(h0:x=0):zbC ls least (k+1)=zbC ls least k:=by
 have:least<k+1/\ls.getD k 0=0:=⟨h,by rw[lgd,hx];exact h0⟩;exact if_pos this
theorem zsp{ls:List Int}{least k:Nat}{x:Int}(hx:ls[k]?=some x)(h0:¬x=0):zbC ls least (k+1)=k+1 :=
 if_neg fun h=>h0 (by have:=h.2;rw[lgd,hx] at this;exact this)
theorem zoB{ls:List Int}{least k:Nat}(h:k<=least):zbC ls least k=k:=by
 cases k with
 |zero=>rfl
 |succ k=>exact if_neg fun e=>by omega
theorem zh9(ls:List Int)(least:Nat):(zeG ls least).length=zbC ls least ls.length:=by
 unfold zeG;rw[llt];have:=ze3 ls least ls.length;omega
def zqh:Value->Nat
 | .slice _ k _=>k
 |_=>0
theorem ztW(B n c:Nat)(A:Option Addr)(ls:List Int)(least:Nat)(w:World)(h:RdI w B A n ls)(S:B<=w.heap.size)(R:n<=1000)(I:least<=1000)(N:n<=c)(z:c<=maxLen):
  Calls Tryz.prog 154 #[.slice A n c,.int .i64 (least:Int)] w fun e w'=>e=.returned (.slice A (zbC ls least n) c)/\Below w.heap.size w w':=by
 have J:=yo h;have H:=yo N;have M:c<=9223372036854775807:=by unfold maxLen at z;omega
 clear h z;have t:=yo (Below.refl w.heap.size w);go_enter Tryz.func154,Tryz.ntmps154;go_wp2_with fail;go_loopw [0] (fun E wr=>∃k:Nat,k<=n/\E=.slice A k c/\Hid (zbC ls least k=zbC ls least n)/\Hid (Below w.heap.size w wr)) (fun E _=>zqh E)
 case atStart=>exact⟨n,nlr _,rfl,(show _=_ from rfl),t⟩
 case round =>
  clear t;obtain⟨k,O,rfl,D,s⟩:=hrel;by_cases hlt:least<k
  ·have r:(least:Int)<(k:Int):=by omega
   obtain⟨q,rfl⟩:∃q,k=q+1:=⟨k-1,by omega⟩;have u:((q+1:Nat):Int)-1=(q:Int):=(by omega);obtain⟨b,o,x,rfl,P,F,G⟩:=J.o.one (show q<n by omega);have G:=(s.o.cell (p:=⟨b,o+q,none⟩) (by show b<_;omega)).trans G;have C:q+1<=c:=(by have:=H.o;omega);by_cases hx:x=0
   ·subst hx
    have L:((0:Int)==0)=true:=rfl;have g:Hid (zbC ls least q=zbC ls least n):=(show _=_ by rw[<-D.o];exact(ztV hlt F.o rfl).symm);obtain⟨p,hp⟩:∃p,q+1=p:=⟨_,rfl⟩;rw[hp] at u r C;simp only[hp];go_wp2_with fail;go_roundw
    case rel=>exact⟨q,by omega,rfl,g,s.o⟩
    case measure=>simp[zqh];omega
   ·have L:(x==0)=false:=bef hx
    have g:Hid (q+1=zbC ls least n):=(show _=_ by rw[<-D.o];exact(zsp F.o hx).symm);obtain⟨p,hp⟩:∃p,q+1=p:=⟨_,rfl⟩;rw[hp] at u r C g;simp only[hp];go_wp2_with fail;go_ret;exact⟨by rw[<-g.o];rfl,s.o⟩
  ·have r:¬(least:Int)<(k:Int):=by omega
   have g:Hid (k=zbC ls least n):=(show _=_ by rw[<-D.o,zoB (by omega)]);go_wp2_with fail;go_ret;exact⟨by rw[<-g.o];rfl,s.o⟩
end Go.Proofs.YtebbdifhiihfkaaGreatDoor

/- flate: how often each symbol stands. -/
namespace Go.Proofs.YtebbdifhiihfkaaGreatDoor
set_option linter.all false
set_option maxRecDepth 100000
set_option maxHeartbeats 3200000
open Go.RowKit
abbrev Tok:=Nat×Nat×Nat
/-- A byte, or a copy. -/
def zci(t:Tok):Prop:=(t.1=0/\t.2.2<256)\/(3<=t.1/\t.1<=258/\1<=t.2.1/\t.2.1<=32768)
def zdr(t:Tok):Nat:=if t.1=0 then t.2.2 else 257+za5 t.1
def zc8(t:Tok):List Nat:=if t.1=0 then[] else[zaK t.2.1]
def zce(ts:List Tok):List Int:=zaD ((List.replicate 286 0).set 256 1) (ts.map zdr)
def zbE(ts:List Tok):List Int:=zaD (List.replicate 30 0) (ts.flatMap zc8)
theorem zny{t:Tok}(h:zci t):zdr t<286:=by
 unfold zdr;rcases h with⟨h1,h2⟩ | ⟨h1,h2,_,_⟩
 ·rw[if_pos h1];omega
 ·rw[if_neg (by omega)]
  have:=(zcO (x:=t.1) h1).1;omega
theorem ztX{y:Nat}(h:3<=y)(h2:y<=258):zge (y:Int)=(257+(za5 y:Int),((lenOf (za5 y)).2:Int),(y:Int)-((lenOf (za5 y)).1:Int)):=by
 unfold zge;rw[if_neg (by omega)];rfl
theorem ztY{y:Nat}(h:1<=y)(h2:y<=32768):zgf (y:Int)=((zaK y:Int),((zae (zaK y)).2:Int),(y:Int)-((zae (zaK y)).1:Int)):=by
 unfold zgf;rw[if_neg (by omega)];rfl
theorem zgD{α:Type}{β:Type}(f:α->β){l:List α}{k:Nat}{x:α}(h:l[k]?=some x):(l.take (k+1)).map f=(l.take k).map f++[f x]:=by
 obtain⟨g,hx⟩:=List.getElem?_eq_some_iff.1 h;rw[List.take_succ_eq_append_getElem g,hx];simp
theorem zdi{α:Type}{β:Type}(f:α->List β){l:List α}{k:Nat}{x:α}(h:l[k]?=some x):(l.take (k+1)).flatMap f=(l.take k).flatMap f++f x:=by
 obtain⟨g,hx⟩:=List.getElem?_eq_some_iff.1 h;rw[List.take_succ_eq_append_getElem g,hx];simp
theorem zsq(ts:List Tok):(ts.flatMap zc8).length<=ts.length:=by
 induction ts with
 |nil=>simp
 |cons t r ih =>
  rw[List.flatMap_cons,lla,List.length_cons];have:(zc8 t).length<=1:=by unfold zc8;split<;>simp
  omega
theorem zly:∀x∈((List.replicate 286 (0:Int)).set 256 1),0<=x/\x<=1:=by
 intro x hx;rcases List.mem_or_eq_of_mem_set hx with h|rfl
 ·rw[List.mem_replicate] at h;omega
 ·omega
theorem znz:∀x∈(List.replicate 30 (0:Int)),0<=x/\x<=1:=by
 intro x hx;rw[List.mem_replicate] at hx;omega
theorem zdj(ts:List Tok):(zce ts).length=286:=by unfold zce;rw[zbz,List.length_set,List.length_replicate]
theorem zcR(ts:List Tok):(zbE ts).length=30:=by unfold zbE;rw[zbz,List.length_replicate]
theorem ziH(ts:List Tok):∀x∈zce ts,0<=x/\x<=1+ts.length:=by
 intro x hx;have:=zeu zly (by omega) x hx;rwa[List.length_map] at this
theorem ziI(ts:List Tok):∀x∈zbE ts,0<=x/\x<=1+ts.length:=by
 intro x hx;have:=zeu znz (by omega) x hx;have h2:=zsq ts;omega
def zem(n:Nat):Obj:=.cells (madeCells (Value.int .i64 0).cells (n*1)) 3
theorem zfs(w:World)(n:Nat)(s:n<=1099511627776):
  (Instr.makeSlice 120 (.int .i64 (n:Int)) (.int .i64 (n:Int))).run Tryz.prog w=.ok (.slice (some ⟨w.heap.size,0,none⟩) n n) (w.alloc (zem n)):=by
 obtain⟨r,hi,g,o,q⟩:=info_parts Tryz.info_I;have hr:=run_make (P:=Tryz.prog) w 120 3 r _ Tryz.underlying120 hi g .i64 .i64 n n (by omega) (Int.le_refl _) (by rw[q];omega) (by omega);simp only[Int.toNat_natCast,o] at hr;exact hr
theorem zcP(w:World)(n:Nat)(o:n<=1099511627776):ownI (w.alloc (zem n)) w.heap.size (.slice (some ⟨w.heap.size,0,none⟩) n n) (List.replicate n 0):=by
 have h:=World.ownsRow_lit (base:=w.heap.size) (size:=1) (e:=3) w (madeCells (Value.int .i64 0).cells (n*1)) n (nlr _) (by unfold maxLen;omega) (size_madeCells _ _);unfold ownI;rw[List.length_replicate];have g:cI (List.replicate n (0:Int))=List.replicate n (Value.int .i64 0):=by simp[cI]
 rw[g];have:(madeCells (Value.int .i64 0).cells (n*1)).toList=List.replicate n (Value.int .i64 0):=by
  rw[Nat.mul_one];exact toList_madeCells_one _ _
 rwa[this] at h
theorem zkc(a s m r:Nat)(h:3<=a)(h2:a<=258)(hs:257+za5 a=s)(g:(lenOf (za5 a)).2=m)(hr:a-(lenOf (za5 a)).1=r)(w:World):Calls Tryz.prog 150 #[.int .i64 (a:Int)] w fun e w'=>e=.returned (.tuple #[.int .i64 (s:Int),.int .i64 (m:Int),.int .i64 (r:Int)])/\w=w':=by
 refine(zos (a:Int) w).mono ?_;rintro e w' ⟨rfl,rfl⟩;have:=(zcO (x:=a) h).2.1;rw[ztX h h2];refine⟨?_,rfl⟩;rw[<-hs,<-g,<-hr,Int.natCast_sub this];rfl
theorem zhS(a s m r:Nat)(h:1<=a)(h2:a<=32768)(hs:zaK a=s)(g:(zae (zaK a)).2=m)(hr:a-(zae (zaK a)).1=r)(w:World):Calls Tryz.prog 151 #[.int .i64 (a:Int)] w fun e w'=>e=.returned (.tuple #[.int .i64 (s:Int),.int .i64 (m:Int),.int .i64 (r:Int)])/\w=w':=by
 refine(zlr (a:Int) w).mono ?_;rintro e w' ⟨rfl,rfl⟩;have:=(zcr (x:=a) h).2.1;rw[ztY h h2];refine⟨?_,rfl⟩;rw[<-hs,<-g,<-hr,Int.natCast_sub this]
theorem zgi{l:List Int}{p:Nat}{x:Int}(h:l[p]?=some x):zdq l p=l.set p (x+1):=by
 unfold zdq;rw[lgd,h];rfl
theorem ziJ(l:List Int)(ps:List Nat)(p:Nat):zaD l (ps++[p])=zdq (zaD l ps) p:=by rw[zdS];rfl
theorem zqi(B n c:Nat)(A:Option Addr)(ts:List Tok)(w:World)(h:RdK w B A n ts)(hB:B<=w.heap.size)(hn:n<=50000)(J:∀t∈ts,zci t):
  Calls Tryz.prog 152 #[.slice A n c] w fun e w'=>∃E F,e=.returned (.tuple #[.slice (some ⟨E,0,none⟩) 286 286,.slice (some ⟨F,0,none⟩) 30 30])/\RdI w' w'.heap.size (some ⟨E,0,none⟩) 286 (zce ts)/\RdI w' w'.heap.size (some ⟨F,0,none⟩) 30 (zbE ts)/\Below w.heap.size w w':=by
 have HR:=yo h;have an:=yo J;have hl:=h.len;have aw:∀w,(Instr.makeSlice 120 (.int .i64 286) (.int .i64 286)).run Tryz.prog w=.ok (.slice (some ⟨w.heap.size,0,none⟩) 286 286) (w.alloc (zem 286)):=fun w=>zfs w 286 (by omega)
 have ao:∀w,(Instr.makeSlice 120 (.int .i64 30) (.int .i64 30)).run Tryz.prog w=.ok (.slice (some ⟨w.heap.size,0,none⟩) 30 30) (w.alloc (zem 30)):=fun w=>zfs w 30 (by omega)
 clear h J;go_enter Tryz.func152,Tryz.ntmps152;go_upto_region 1 with fail;go_cut [4,5] (fun u v wc=>∃E F,u=.slice (some ⟨E,0,none⟩) 286 286/\v=.slice (some ⟨F,0,none⟩) 30 30/\(E≠F/\w.heap.size<=E/\w.heap.size<=F/\E<wc.heap.size/\F<wc.heap.size)/\ownI wc w.heap.size (.slice (some ⟨E,0,none⟩) 286 286) (List.replicate 286 0)/\ownI wc w.heap.size (.slice (some ⟨F,0,none⟩) 30 30) (List.replicate 30 0)/\Below w.heap.size w wc)
 case first =>
  go_region
  all_goals
   go_wp2_with fail;go_meet
   case rel =>
    first
     |exact⟨w.heap.size,w.heap.size+1,rfl,rfl,⟨by omega,by omega,by omega,by simp;omega,by simp⟩,((zcP w 286 (by omega)).alloc _).drew,(by have:=(zcP (w.alloc (zem 286)) 30 (by omega)).mono (base':=w.heap.size) (by simp);simpa only[wsa] using this.drew),(((Below.refl w.heap.size w).alloc (nlr _) _).alloc (by simp) _).drew⟩
     |exact⟨w.heap.size+1,w.heap.size,rfl,rfl,⟨by omega,by omega,by omega,by simp,by simp;omega⟩,(by have:=(zcP (w.alloc (zem 30)) 286 (by omega)).mono (base':=w.heap.size) (by simp);simpa only[wsa] using this.drew),((zcP w 30 (by omega)).alloc _).drew,(((Below.refl w.heap.size w).alloc (nlr _) _).alloc (by simp) _).drew⟩
 case rest =>
  clear aw ao;obtain⟨E,F,rfl,rfl,⟨G,af,am,S,W⟩,aa,ak,al⟩:=hcut;have c6:=aa.cell (by rw[List.length_replicate]) (k:=256) (by rw[List.length_replicate];omega);have f6:=aa.frozen (by rw[List.length_replicate]) 256;have r:=yo (aa.store (by rw[List.length_replicate]) 256 1);have C:=yo (ak.far (g:=E) (by intro e;injection e with e;exact G e.symm) 256 (.int .i64 1));have D:=yo (al.setCell (p:=⟨E,256,none⟩) af (.int .i64 1));have ag:(wc.setCell ⟨E,256,none⟩ (.int .i64 1)).heap.size=wc.heap.size:=by simp
  clear aa ak al;go_wp2_with fail;go_loopw [20] (fun vi wr=>∃k:Nat,k<=n/\vi=.int .i64 k/\Hid (ownI wr w.heap.size (.slice (some ⟨E,0,none⟩) 286 286) (zaD ((List.replicate 286 0).set 256 1) ((ts.take k).map zdr)))/\Hid (ownI wr w.heap.size (.slice (some ⟨F,0,none⟩) 30 30) (zaD (List.replicate 30 0) ((ts.take k).flatMap zc8)))/\Hid (Below w.heap.size w wr)/\E<wr.heap.size/\F<wr.heap.size) (fun vi _=>n-(intOf vi).toNat)
  case atStart=>exact⟨0,Nat.zero_le _,rfl,r,C,D,by rw[ag];exact S,by rw[ag];exact W⟩
  case round =>
   clear r C D ag S W;obtain⟨k,hk,rfl,r,C,D,S,W⟩:=hrel;by_cases hlt:k<n
   ·have ax:(k:Int)<(n:Int):=by omega
    obtain⟨b,o,⟨a,d,y⟩,rfl,hb,HX,e1,e2,e3⟩:=(HR.o.blw (D.o.mono hB)).one hlt;have J:=an.o _ (List.mem_of_getElem? HX.o);have H:=yo (zdj (ts.take k));have Z:=yo (zcR (ts.take k));have N:=yo (ziH (ts.take k));have P:=yo (ziI (ts.take k));have T:Hid ((ts.take k).length<=50000):=(show _<=_ by rw[llt];omega);have M:Hid (zaD ((List.replicate 286 0).set 256 1) ((ts.take (k+1)).map zdr)=zdq (zce (ts.take k)) (zdr (a,d,y))):=(show _=_ by rw[zgD zdr HX.o,ziJ];rfl);have O:Hid (zaD (List.replicate 30 0) ((ts.take (k+1)).flatMap zc8)=zaD (zbE (ts.take k)) (zc8 (a,d,y))):=(show _=_ by rw[zdi zc8 HX.o,zdS];rfl);have r:Hid (ownI wr w.heap.size (.slice (some ⟨E,0,none⟩) 286 286) (zce (ts.take k))):=r;have C:Hid (ownI wr w.heap.size (.slice (some ⟨F,0,none⟩) 30 30) (zbE (ts.take k))):=C;generalize zce (ts.take k)=la at *;generalize zbE (ts.take k)=lb at *;have a0:¬E=wr.heap.size:=(by omega);have az:¬F=wr.heap.size:=(by omega);have a2:¬b=wr.heap.size:=(by have:=D.o.size;omega);by_cases ha:a=0
    ·have d1:((a:Int)==0)=true:=by rw[ha];rfl
     have hy:y<256:=by rcases J with⟨_,h⟩ | ⟨h,_⟩;exact h;(have:3<=a:=h);omega
     have R:zdr (a,d,y)=y:=if_pos ha;have U:zc8 (a,d,y)=[]:=if_pos ha;rw[R] at M;rw[U] at O;have ah:y<la.length:=(by rw[H.o];omega);have X:=yo (lge ah);have c7:=r.o.cell H.o.symm ah;have f7:=r.o.frozen H.o.symm y;have ai:=N.o _ (List.getElem_mem ah);generalize la[y]=x at *;have I:=yo (fun V=>(r.o.store H.o.symm y (x+1)).alloc V);rw[<-zgi X.o,<-M.o] at I;have L:=yo (fun V=>(C.o.far (g:=E) (by intro e;injection e with e;exact G e.symm) y (.int .i64 (x+1))).alloc V);have Y:=yo (fun V=>Below.alloc (D.o.setCell (p:=⟨E,y,none⟩) af (.int .i64 (x+1))) (by have:=D.o.size;simp;omega) V);have ar:0<=x/\x<=50001:=(by have:=T.o;omega);clear r C D N P T J ai X;go_wp2_with fail;go_roundw
     case rel=>exact⟨k+1,by omega,by go_num,I.o _,(show ownI _ _ _ _ by rw[O.o];exact L.o _),Y.o _,by simp;omega,by simp;omega⟩
     case measure=>simp[intOf];omega
    ·have d1:((a:Int)==0)=false:=bef (by omega)
     obtain⟨h3,h4,h5,h6⟩:3<=a/\a<=258/\1<=d/\d<=32768:=by rcases J with⟨h,_⟩|h;exact absurd h ha;exact h
     have R:zdr (a,d,y)=257+za5 a:=if_neg ha;have U:zc8 (a,d,y)=[zaK d]:=if_neg ha;rw[R] at M;rw[U] at O;have q1:=(zcO (x:=a) h3).1;have q2:=(zcr (x:=d) h5).1;obtain⟨s,hs⟩:∃s,257+za5 a=s:=⟨_,rfl⟩;obtain⟨q,hq⟩:∃q,zaK d=q:=⟨_,rfl⟩;have aq:=yo (fun w=>zkc a s _ _ h3 h4 hs rfl rfl w);have ap:=yo (fun w=>zhS d q _ _ h5 h6 hq rfl rfl w);generalize (lenOf (za5 a)).2=m1 at *;generalize a-(lenOf (za5 a)).1=r1 at *;generalize (zae (zaK d)).2=m2 at *;generalize d-(zae (zaK d)).1=r2 at *;rw[hs] at M;rw[hq] at O;have ae:s<la.length:=(by rw[H.o];omega);have ac:q<lb.length:=(by rw[Z.o];omega);have au:s<286:=(by omega);have a1:q<30:=(by omega);have X:=yo (lge ae);have aj:=yo (lge ac);have c7:=r.o.cell H.o.symm ae;have f7:=r.o.frozen H.o.symm s;have ai:=N.o _ (List.getElem_mem ae);have c8:=C.o.cell Z.o.symm ac;have f8:=C.o.frozen Z.o.symm q;have av:=P.o _ (List.getElem_mem ac);generalize la[s]=x at *;generalize lb[q]=z at *;have ay:¬F=E:=fun e=>G e.symm
     have I:=yo (fun V=>((r.o.store H.o.symm s (x+1)).far (g:=F) (by intro e;injection e with e;exact G e) q (.int .i64 (z+1))).alloc V);rw[<-zgi X.o,<-M.o] at I;have L:=yo (fun V=>((C.o.far (g:=E) (by intro e;injection e with e;exact G e.symm) s (.int .i64 (x+1))).store Z.o.symm q (z+1)).alloc V);have ab:Hid (lb.set q (z+1)=zaD (List.replicate 30 0) ((ts.take (k+1)).flatMap zc8)):=(show _=_ by rw[O.o,<-zgi aj.o];rfl);rw[ab.o] at L;have Y:=yo (fun V=>Below.alloc ((D.o.setCell (p:=⟨E,s,none⟩) af (.int .i64 (x+1))).setCell (p:=⟨F,q,none⟩) am (.int .i64 (z+1))) (by have:=D.o.size;simp;omega) V);have ar:0<=x/\x<=50001:=(by have:=T.o;omega);have a3:0<=z/\z<=50001:=(by have:=T.o;omega);clear r C D N P T J ai av X aj O ab M q1 q2 hs hq;go_wp2_with (first
      |(go_at_call 150;(with_reducible refine(aq.o _).mono ?_);go_must (rintro e w5 ⟨rfl,rfl⟩))
      |(go_at_call 151;(with_reducible refine(ap.o _).mono ?_);go_must (rintro e w5 ⟨rfl,rfl⟩)))
     go_roundw
     case rel=>exact⟨k+1,by omega,by go_num,I.o _,L.o _,Y.o _,by simp;omega,by simp;omega⟩
     case measure=>simp[intOf];omega
   ·obtain rfl:k=n:=by omega
    have HT:Hid (ts.take k=ts):=(show _=_ from List.take_of_length_le (by omega));rw[HT.o] at r C;have N:Hid (RdI wr wr.heap.size (some ⟨E,0,none⟩) 286 (zce ts)):=r.o.rd;have P:Hid (RdI wr wr.heap.size (some ⟨F,0,none⟩) 30 (zbE ts)):=C.o.rd;clear r C;go_wp2_with fail;go_ret2;exact⟨E,F,rfl,N.o,P.o,D.o⟩
end Go.Proofs.YtebbdifhiihfkaaGreatDoor

