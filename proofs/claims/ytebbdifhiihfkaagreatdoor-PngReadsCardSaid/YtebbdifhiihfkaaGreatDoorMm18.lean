/- XRowG XFl3 XFl4 -/
import Derived.Test.YtebbdifhiihfkaaGreatDoorMm01
import Derived.Test.YtebbdifhiihfkaaGreatDoorMm02
namespace Go.Proofs.YtebbdifhiihfkaaGreatDoor
set_option linter.all false
set_option maxRecDepth 100000
open Go.RowKit
def eG(x:(Nat×Nat×Nat)):List Value:=[Value.int .i64 (x.1:Int),Value.int .i64 (x.2.1:Int),Value.int .i64 (x.2.2:Int)]
theorem ziT(x:(Nat×Nat×Nat)):(eG x).length=3:=rfl
/-- The cells of a list. -/
def cG(l:List (Nat×Nat×Nat)):List Value:=l.flatMap eG
theorem zfu:∀l:List (Nat×Nat×Nat),(cG l).length=l.length*3
 | []=>rfl
 |x :: l=>by
  have:=zfu l;unfold cG at this ⊢;rw[List.flatMap_cons,lla,this,ziT,List.length_cons];omega
theorem zqH(a b:List (Nat×Nat×Nat)):cG (a++b)=cG a++cG b:=by simp[cG]
theorem zqI(x:(Nat×Nat×Nat)):cG [x]=eG x:=by simp[cG]
theorem ziU:∀(l:List (Nat×Nat×Nat)) (k j:Nat) (g:k<l.length),j<3->(cG l)[k*3+j]?=(eG l[k])[j]?
 |x :: l,0,j,_,hj=>by
  unfold cG;rw[List.flatMap_cons,List.getElem?_append_left (by rw[ziT];omega)];simp
 |x :: l,i+1,j,hi,hj=>by
  have:=ziU l i j (by simpa using hi) hj;unfold cG at this ⊢;rw[List.flatMap_cons,List.getElem?_append_right (by rw[ziT];omega),ziT,List.getElem_cons_succ,<-this]
  congr 1
  omega
theorem zvg(l:List (Nat×Nat×Nat)):∀u∈cG l,u.oneCell'=true:=by
 intro u g;simp only[cG,List.mem_flatMap] at g;obtain⟨x,_,hx⟩:=g;simp only[eG,List.mem_cons,List.not_mem_nil,or_false] at hx;rcases hx with rfl|rfl|rfl<;>rfl
theorem Tryz.info_G:(Tryz.prog.info? 202).map (fun i=>(i.zero,i.size,i.bytes))=some (some (.agg #[.int .i64 0,.int .i64 0,.int .i64 0]),3,24):=by kernel_rfl
def ownG(w:World)(base:Nat)(v:Value)(l:List (Nat×Nat×Nat)):Prop:=w.ownsRow base 202 3 v l.length (cG l)
def RdG(w:World)(B:Nat)(A:Option Addr)(n:Nat)(l:List (Nat×Nat×Nat)):Prop:=Rd w B 3 A n (cG l)
theorem RdG.len{w:World}{B n:Nat}{A:Option Addr}{l:List (Nat×Nat×Nat)}(h:RdG w B A n l):l.length=n:=by
 have:=h.1;rw[zfu] at this;omega
theorem RdG.one{w:World}{B n:Nat}{A:Option Addr}{l:List (Nat×Nat×Nat)}(h:RdG w B A n l){k:Nat}(s:k<n):
  ∃b o x,A=some ⟨b,o,none⟩/\b<B/\Hid (l[k]?=some x)/\w.cell? ⟨b,o+k*3,none⟩=some (Value.int .i64 (x.1:Int))/\w.cell? ⟨b,o+k*3+1,none⟩=some (Value.int .i64 (x.2.1:Int))/\w.cell? ⟨b,o+k*3+2,none⟩=some (Value.int .i64 (x.2.2:Int)):=by
 obtain⟨b,o,e,r,q⟩:=h.2 (by omega);have t:=h.len;have g:k<l.length:=by omega
 refine⟨b,o,l[k],e,r,lge g,?_,?_,?_⟩
 ·exact q (k*3) _ ((ziU l k 0 g (by omega)).trans rfl)
 ·exact q (k*3+1) _ ((ziU l k 1 g (by omega)).trans rfl)
 ·exact q (k*3+2) _ ((ziU l k 2 g (by omega)).trans rfl)
theorem RdG.blw{w w':World}{B n:Nat}{A:Option Addr}{l:List (Nat×Nat×Nat)}(h:RdG w B A n l)(g:Below B w w'):RdG w' B A n l:=Rd.below h g
theorem RdG.here{w:World}{B n:Nat}{A:Option Addr}{l:List (Nat×Nat×Nat)}(h:RdG w B A n l):RdG w w.heap.size A n l :=
 ⟨h.1,fun q=>by
  obtain⟨b,o,e,s,g⟩:=h.2 q;have r:=h.1;exact⟨b,o,e,block_lt_of_cell (a:=⟨b,o+0,none⟩) (g 0 (cG l)[0] (lge (by omega))),g⟩⟩
theorem RdG.later{w w':World}{n:Nat}{A:Option Addr}{l:List (Nat×Nat×Nat)}(h:RdG w w.heap.size A n l)(g:Below w.heap.size w w'):RdG w' w'.heap.size A n l:=RdG.here (RdG.blw h g)
theorem ownG.nil_(w:World)(base:Nat):ownG w base (.slice none 0 0) []:=World.ownsRow_nil _ _ _ _
theorem ownG.mono{w:World}{base base':Nat}{v:Value}{l:List (Nat×Nat×Nat)}(h:ownG w base v l)(t:base'<=base):ownG w base' v l:=by
 refine⟨h.1,?_⟩;rcases h.2 with r | ⟨g,q,o,rfl,s,rest⟩
 ·exact .inl r
 ·exact .inr ⟨g,q,o,rfl,by omega,rest⟩
theorem ownG.later{w w':World}{base:Nat}{v:Value}{l:List (Nat×Nat×Nat)}(h:ownG w base v l)(o:Below w.heap.size w w'):ownG w' base v l :=
 Below.ownsRow h o (fun g hg=>(olt h g hg).2)
theorem ownG.alloc{w:World}{base:Nat}{v:Value}{l:List (Nat×Nat×Nat)}(h:ownG w base v l)(o:Obj):ownG (w.alloc o) base v l:=World.ownsRow.alloc h o
theorem ownG.drewN{w:World}{base:Nat}{v:Value}{l:List (Nat×Nat×Nat)}(h:ownG w base v l)(n:Nat):ownG (w.drewN n) base v l:=h
theorem ownG.form{w:World}{base:Nat}{v:Value}{l:List (Nat×Nat×Nat)}(h:ownG w base v l):
  ∃A c,v=.slice A l.length c/\RdG w w.heap.size A l.length l/\l.length<=c/\c<=maxLen:=by
 rcases h.2 with⟨rfl,h0⟩ | ⟨g,q,o,rfl,_,_,h1,h2,_⟩
 ·have:l=[]:=List.eq_nil_of_length_eq_zero h0
  subst this;exact⟨none,0,rfl,Rd.none_,by simp,by simp⟩
 ·exact⟨_,_,rfl,Rd.of_own h,h1,h2⟩
theorem ownG.rd{w:World}{base n c:Nat}{A:Option Addr}{l:List (Nat×Nat×Nat)}(h:ownG w base (.slice A n c) l):RdG w w.heap.size A n l:=by
 obtain⟨s,c4,q,g,_,_⟩:=h.form;injection q with r o t;rw[r,o];exact g
/-- One element that lies in a block, whole. -/
theorem zdN(w:World)(x:(Nat×Nat×Nat))(t:TypeId)(fr:Nat×Nat):RdG (w.alloc (.cells (eG x).toArray t fr)) (w.heap.size+1) (some ⟨w.heap.size,0,none⟩) 1 [x]:=by
 refine⟨by rw[zfu];rfl,fun _=>⟨_,_,rfl,by omega,fun j u g=>?_⟩⟩;rw[Nat.zero_add];have:=cell_of_row (w.alloc (.cells (eG x).toArray t fr)) w.heap.size j (eG x).toArray t fr (heap_alloc_new w _);rw[this];rw[zqI] at g
 simpa using g
theorem zmW(w:World)(base:Nat)(H:TypeId)(v:Value)(l:List (Nat×Nat×Nat))(r:ownG w base v l)(B m c:Nat)(A:Option Addr)(q:List (Nat×Nat×Nat))(hr:RdG w B A m q)
  (T:l.length+m<=1099511627776) (t:base<=w.heap.size) :
  ∃v' w',(Builtin.append_ #[199,199] H #[v,.slice A m c]).run Tryz.prog w=.ok v' w'/\ownG w' base v' (l++q)/\w.grownBy w' v.ownBlock /\
   (v'.ownBlock=v.ownBlock\/v'.ownBlock=some w.heap.size)/\(v'=.slice none 0 0↔v=.slice none 0 0/\m=0):=by
 obtain⟨O,hi,E,F,D⟩:=info_parts Tryz.info_G;have J:=hr.len;subst J;unfold ownG;rw[lla,zqH];rcases A with _|ad
 ·have G:q=[]:=by
   rcases Nat.eq_zero_or_pos q.length with h0|h0
   ·exact List.eq_nil_of_length_eq_zero h0
   ·obtain⟨b,o,h,_⟩:=hr.2 h0
    cases h
  subst G;refine⟨v,w,?_,by simpa [cG,ownG] using r,World.grownBy.refl w _,.inl rfl,by simp⟩;rcases r.2 with⟨rfl,h0⟩ | ⟨g,N,R,rfl,_,_,C,_⟩
  ·simp[Builtin.append_,run_underlying Tryz.underlying199,sizeOf,typeInfo,hi,Builtin.lenOf,Builtin.firstCells]
  ·simp[Builtin.append_,run_underlying Tryz.underlying199,sizeOf,typeInfo,hi,Builtin.lenOf,Builtin.firstCells,C,storeCells]
 ·have s:∀j u,(cG q)[j]?=some u->w.cell? (ad.add j)=some u:=by
   intro j u I;rcases Nat.eq_zero_or_pos q.length with h0|h0
   ·have G:q=[]:=List.eq_nil_of_length_eq_zero h0
    subst G;simp[cG] at I
   ·obtain⟨b,o,h,_,S⟩:=hr.2 h0
    injection h with h;subst h;rw[zaS];exact S j u I
  obtain⟨v',w',z,h2,M,h4,L⟩:=run_append_own_at (P:=Tryz.prog) w base 199 H 202 O _ 3 24 Tryz.underlying199 hi E F D rfl (by omega) v l.length (cG l) r ad q.length c (cG q) (by rw[zfu]) s (zvg _) (by unfold maxLen;omega) (by omega) t;exact⟨v',w',z,h2,M,L,h4⟩
/-- append(v, x...): v the call's own, x whatever. -/
theorem zbk{w:World}{ops:Array Oper}{rest:List Oper}{o:Oper}{a:Act}{Q:Exit->Act->World->Prop}(u:o.guard=none)(s x:Operand)
  (E:o.op=.call { callee:=.builtin .append,args:=#[s,x],argTypes:=#[199,199] })
  (base:Nat) (v:Value) (l:List (Nat×Nat×Nat)) (hs:a.eval s=v) (r:ownG w base v l) (B m c:Nat) (A:Option Addr) (q:List (Nat×Nat×Nat)) (hx:a.eval x=.slice A m c) (hr:RdG w B A m q)
  (F:l.length+m<=1099511627776) (g:base<=w.heap.size)
  (h:∀v' w',ownG w' base v' (l++q)->w.grownBy w' v.ownBlock->Below base w w'->(v'.ownBlock=v.ownBlock\/v'.ownBlock=some w.heap.size)->wpList Tryz.prog ops Q rest (a.put o.dst v') w') :
  wpList Tryz.prog ops Q (o :: rest) a w:=by
 refine wpList_plain u fun K D=>?_
 obtain⟨v',w',t,h2,z,h4,_⟩:=zmW w base o.type v l r B m c A q hr F g;unfold Oper.wp execOp;simp only[E,resolve,invoke,builtin,Sem.run_bind,Sem.run_pure,Result.andThen_ok,List.map_toArray,List.map_cons,List.map_nil,hs,hx,t];exact D _ _ (h v' w' h2 z ((Below.refl _ _).grown z g (fun k C=>(olt r k C).1)) h4)
end Go.Proofs.YtebbdifhiihfkaaGreatDoor

/- flate: runs of lengths written. -/
namespace Go.Proofs.YtebbdifhiihfkaaGreatDoor
set_option linter.all false
set_option maxRecDepth 100000
set_option maxHeartbeats 3200000
open Go.RowKit
abbrev Sgn:=Nat×Nat×Nat
def zeU(n:Nat):List Sgn:=if 3<=n then[(17,n-3,3)] else List.replicate n (0,0,0)
def zdw:Nat->Nat->List Sgn
 |0,n=>zeU n
 |f+1,n=>if 11<=n then(18,min n 138-11,7) :: zdw f (n-min n 138) else zeU n
/-- Lengths of 0. -/
def zct(n:Nat):List Sgn:=zdw n n
def zcp(x:Nat):Nat->Nat->List Sgn
 |0,n=>List.replicate n (x,0,0)
 |f+1,n=>if 3<=n then(16,min n 6-3,2) :: zcp x f (n-min n 6) else List.replicate n (x,0,0)
/-- Lengths above 0. -/
def zbS(x n:Nat):List Sgn:=(x,0,0) :: zcp x (n-1) (n-1)
theorem zeV{f n:Nat}(h:11<=n):zdw (f+1) n=(18,min n 138-11,7) :: zdw f (n-min n 138):=if_pos h
theorem zfg{f n:Nat}(h:¬11<=n):zdw f n=zeU n:=by
 cases f with
 |zero=>rfl
 |succ f=>exact if_neg h
theorem zeo{x f n:Nat}(h:3<=n):zcp x (f+1) n=(16,min n 6-3,2) :: zcp x f (n-min n 6):=if_pos h
theorem zeJ{x f n:Nat}(h:¬3<=n):zcp x f n=List.replicate n (x,0,0):=by
 cases f with
 |zero=>rfl
 |succ f=>exact if_neg h
theorem ziV(k:Nat)(x:Sgn):List.replicate (k+1) x=List.replicate k x++[x]:=List.replicate_succ'
theorem zfv(base n:Nat)(v:Value)(l:List Sgn)(w:World)(h:ownG w base v l)(ab:base<=w.heap.size)(hl:l.length<=1000000)(hn:n<=1000):
  Calls Tryz.prog 177 #[v,.int .i64 (n:Int)] w fun e w'=>∃v',e=.returned v'/\ownG w' base v' (l++zct n)/\Below base w w':=by
 have O:Hid (ownG w base v (l++[])):=(show ownG _ _ _ _ by rw[List.append_nil];exact h);have N:=yo (Below.refl base w);obtain⟨A0,c0,rfl,-⟩:=h.form;clear h;go_enter Tryz.func177,Tryz.ntmps177;go_wp2_with fail;go_loopw [1,0] (fun M Y wr=>∃(m f:Nat) (D:List Sgn),M=.int .i64 m/\m<=f/\D.length+m<=n/\Hid (D++zdw f m=zct n)/\Hid (ownG wr base Y (l++D))/\Hid (Below base w wr)) (fun M _ _=>(intOf M).toNat)
 case atStart=>exact⟨n,n,[],rfl,nlr _,by simp,(show _=_ from rfl),O,N⟩
 case round =>
  clear O N;obtain⟨m,f,D,rfl,ag,af,T,C,t⟩:=hrel;obtain⟨Av,nv,rfl,-⟩:=C.o.form;have ac:(l++D).length=l.length+D.length:=lla;by_cases hbig:11<=m
  ·have U:(11:Int)<=(m:Int):=by omega
   obtain⟨g,rfl⟩:∃g,f=g+1:=⟨f-1,by omega⟩;by_cases h1:¬138<m
   ·have V:¬(138:Int)<(m:Int):=by omega
    have H:Hid ((D++[(18,m-11,7)])++zdw g 0=zct n):=(show _=_ by have:=T.o;rw[zeV hbig,Nat.min_eq_left (by omega),Nat.sub_self] at this;rw[List.append_assoc];exact this);have G:Hid ((l++D)++[(18,m-11,7)]=l++(D++[(18,m-11,7)])):=(show _=_ from List.append_assoc _ _ _);obtain⟨q,hq⟩:∃q,m-11=q:=⟨_,rfl⟩;have Z:(m:Int)-11=(q:Int):=(by omega);have R:(m:Int)-(m:Int)=0:=(by omega);rw[hq] at H G;go_wp2_with (at_builtin;go_must (refine zbk rfl (.tmp 10) (.tmp 14) rfl base _ _ rfl (ownG.alloc C.o _) _ 1 1 _ [(18,q,7)] rfl (zdN _ (18,q,7) _ _) (by simp at *;omega) (by have:=t.o.size;simp;omega) ?_;intro I J r z o s;have u:=yo ((t.o.alloc (by have:=t.o.size;omega) _).trans o);have A:Hid (ownG J base I (l++(D++[(18,q,7)]))):=(show ownG _ _ _ _ from by rw[<-G.o];exact r);clear r z o s));go_roundw
    case rel=>exact⟨0,g,D++[(18,q,7)],rfl,Nat.zero_le _,(by rw[lla];simp;omega),H,A,u⟩
    case measure=>simp[intOf];omega
   ·have V:(138:Int)<(m:Int):=by omega
    have H:Hid ((D++[(18,127,7)])++zdw g (m-138)=zct n):=(show _=_ by have:=T.o;rw[zeV hbig,Nat.min_eq_right (by omega)] at this;rw[List.append_assoc];exact this);have G:Hid ((l++D)++[(18,127,7)]=l++(D++[(18,127,7)])):=(show _=_ from List.append_assoc _ _ _);have R:(m:Int)-138=((m-138:Nat):Int):=(by omega);go_wp2_with (at_builtin;go_must (refine zbk rfl (.tmp 10) (.tmp 14) rfl base _ _ rfl (ownG.alloc C.o _) _ 1 1 _ [(18,127,7)] rfl (zdN _ (18,127,7) _ _) (by simp at *;omega) (by have:=t.o.size;simp;omega) ?_;intro I J r z o s;have u:=yo ((t.o.alloc (by have:=t.o.size;omega) _).trans o);have A:Hid (ownG J base I (l++(D++[(18,127,7)]))):=(show ownG _ _ _ _ from by rw[<-G.o];exact r);clear r z o s));go_roundw
    case rel=>exact⟨m-138,g,D++[(18,127,7)],by rw[<-R],by omega,(by rw[lla];simp;omega),H,A,u⟩
    case measure=>simp[intOf];omega
  ·have U:¬(11:Int)<=(m:Int):=by omega
   have E:=yo T.o;rw[zfg hbig] at E;obtain⟨X,rfl⟩:∃X:World,X=wr:=⟨_,rfl⟩;by_cases h3:3<=m
   ·have W:(3:Int)<=(m:Int):=by omega
    obtain⟨q,hq⟩:∃q,m-3=q:=⟨_,rfl⟩;have Z:(m:Int)-3=(q:Int):=(by omega);have B:Hid ((l++D)++[(17,q,3)]=l++zct n):=(show _=_ by rw[<-E.o];unfold zeU;rw[if_pos h3,hq,List.append_assoc]);go_wp2_with (at_builtin;go_must (refine zbk rfl (.tmp 21) (.tmp 25) rfl base _ _ rfl (ownG.alloc C.o _) _ 1 1 _ [(17,q,3)] rfl (zdN _ (17,q,3) _ _) (by simp at *;omega) (by have:=t.o.size;simp;omega) ?_;intro I J r z o s;have u:=yo ((t.o.alloc (by have:=t.o.size;omega) _).trans o);have A:Hid (ownG J base I (l++zct n)):=(show ownG _ _ _ _ from by rw[<-B.o];exact r);clear r z o s));go_ret;exact⟨_,rfl,A.o,u.o⟩
   ·have W:¬(3:Int)<=(m:Int):=by omega
    have B:Hid (D++List.replicate m (0,0,0)=zct n):=(show _=_ by rw[<-E.o];unfold zeU;rw[if_neg h3]);have B:Hid ((l++D)++List.replicate m (0,0,0)=l++zct n):=(show _=_ by rw[List.append_assoc,B.o]);have ae:(l++D).length<=1001000:=(by omega);clear ac T;generalize l++D=F at *;have P:Hid (ownG X base (.slice Av F.length nv) (F++List.replicate 0 (0,0,0))):=(show ownG _ _ _ _ by rw[List.replicate_zero,List.append_nil];exact C.o);have S:=yo t.o;clear C t E;go_wp2_with fail;go_loopw [28,0] (fun M Y wr=>∃k:Nat,k<=m/\M=.int .i64 k/\Hid (ownG wr base Y (F++List.replicate k (0,0,0)))/\Hid (Below base w wr)) (fun M _ _=>m-(intOf M).toNat)
    case atStart=>exact⟨0,Nat.zero_le _,rfl,P,S⟩
    case round =>
     clear P S;obtain⟨k,hk,rfl,C,t⟩:=hrel;obtain⟨Av,nv,rfl,-⟩:=C.o.form;by_cases hlt:k<m
     ·have aa:Hid ((F++List.replicate k (0,0,0))++[(0,0,0)]=F++List.replicate (k+1) (0,0,0)):=(show _=_ by rw[ziV,List.append_assoc])
      have ah:(F++List.replicate k ((0,0,0):Sgn)).length<=2000000:=(by rw[lla,List.length_replicate];omega);generalize F++List.replicate k ((0,0,0):Sgn)=L at *;go_wp2_with (at_builtin;go_must (refine zbk rfl (.tmp 30) (.tmp 32) rfl base _ _ rfl (ownG.alloc C.o _) _ 1 1 _ [(0,0,0)] rfl (zdN _ (0,0,0) _ _) (by simp at *;omega) (by have:=t.o.size;simp;omega) ?_;intro I J r z o s;have u:=yo ((t.o.alloc (by have:=t.o.size;omega) _).trans o);have A:Hid (ownG J base I (F++List.replicate (k+1) (0,0,0))):=(show ownG _ _ _ _ from by rw[<-aa.o];exact r);clear r z o s));go_roundw
      case rel=>exact⟨k+1,by omega,by go_num,A,u⟩
      case measure=>simp[intOf];omega
     ·obtain rfl:k=m:=by omega
      have HF:Hid (F++List.replicate k (0,0,0)=l++zct n):=B;go_wp2_with fail;go_ret;exact⟨_,rfl,(by rw[<-HF.o];exact C.o),t.o⟩
theorem zeW(base x n:Nat)(v:Value)(l:List Sgn)(w:World)(h:ownG w base v l)(aa:base<=w.heap.size)(hl:l.length<=1000000)(hn:n<=1000)(aj:1<=n):
  Calls Tryz.prog 178 #[v,.int .i64 (x:Int),.int .i64 (n:Int)] w fun e w'=>∃v',e=.returned v'/\ownG w' base v' (l++zbS x n)/\Below base w w':=by
 have B:=yo h;have u:=yo (Below.refl base w);obtain⟨A0,c0,rfl,-⟩:=h.form;obtain⟨P,hP⟩:∃P,n-1=P:=⟨_,rfl⟩;have ae:(n:Int)-1=(P:Int):=by omega
 clear h;go_enter Tryz.func178,Tryz.ntmps178;go_wp2_with (at_builtin;go_must (refine zbk rfl (.tmp 8) (.tmp 11) rfl base _ _ rfl (ownG.alloc B.o _) _ 1 1 _ [(x,0,0)] rfl (zdN _ (x,0,0) _ _) (by simp at *;omega) (by have:=u.o.size;simp;omega) ?_;intro I H r A o s;have z:=yo ((u.o.alloc (by have:=u.o.size;omega) _).trans o);have t:Hid (ownG H base I (l++[(x,0,0)])):=(show ownG _ _ _ _ from by rw[<-(show l++[(x,0,0)]=l++[(x,0,0)] from rfl)];exact r);clear r A o s));have J:=yo t.o;have R:=yo z.o;obtain⟨A0,c0,rfl,-⟩:=t.o.form;clear B u t z;obtain⟨N,rfl⟩:∃N:World,N=H:=⟨_,rfl⟩;have O:(l++[((x,0,0):Sgn)]).length=l.length+1:=by simp
 rw[O] at J;rw[O];go_loopw [2,0] (fun M Y wr=>∃(m f:Nat) (D:List Sgn),M=.int .i64 m/\m<=f/\D.length+m<=n/\Hid (D++zcp x f m=zbS x n)/\Hid (ownG wr base Y (l++D))/\Hid (Below base w wr)) (fun M _ _=>(intOf M).toNat)
 case atStart=>exact⟨P,P,[(x,0,0)],rfl,nlr _,by simp;omega,(show _=_ by unfold zbS;rw[hP];rfl),J,R⟩
 case round =>
  clear J R;obtain⟨m,f,D,rfl,ah,af,V,B,u⟩:=hrel;obtain⟨Av,nv,rfl,-⟩:=B.o.form;have ab:(l++D).length=l.length+D.length:=lla;by_cases hbig:3<=m
  ·have W:(3:Int)<=(m:Int):=by omega
   obtain⟨g,rfl⟩:∃g,f=g+1:=⟨f-1,by omega⟩;by_cases h1:¬6<m
   ·have X:¬(6:Int)<(m:Int):=by omega
    have F:Hid ((D++[(16,m-3,2)])++zcp x g 0=zbS x n):=(show _=_ by have:=V.o;rw[zeo hbig,Nat.min_eq_left (by omega),Nat.sub_self] at this;rw[List.append_assoc];exact this);have E:Hid ((l++D)++[(16,m-3,2)]=l++(D++[(16,m-3,2)])):=(show _=_ from List.append_assoc _ _ _);obtain⟨q,hq⟩:∃q,m-3=q:=⟨_,rfl⟩;have ag:(m:Int)-3=(q:Int):=(by omega);have T:(m:Int)-(m:Int)=0:=(by omega);rw[hq] at F E;go_wp2_with (at_builtin;go_must (refine zbk rfl (.tmp 19) (.tmp 23) rfl base _ _ rfl (ownG.alloc B.o _) _ 1 1 _ [(16,q,2)] rfl (zdN _ (16,q,2) _ _) (by simp at *;omega) (by have:=u.o.size;simp;omega) ?_;intro I H r A o s;have z:=yo ((u.o.alloc (by have:=u.o.size;omega) _).trans o);have t:Hid (ownG H base I (l++(D++[(16,q,2)]))):=(show ownG _ _ _ _ from by rw[<-E.o];exact r);clear r A o s));go_roundw
    case rel=>exact⟨0,g,D++[(16,q,2)],rfl,Nat.zero_le _,(by rw[lla];simp;omega),F,t,z⟩
    case measure=>simp[intOf];omega
   ·have X:(6:Int)<(m:Int):=by omega
    have F:Hid ((D++[(16,3,2)])++zcp x g (m-6)=zbS x n):=(show _=_ by have:=V.o;rw[zeo hbig,Nat.min_eq_right (by omega)] at this;rw[List.append_assoc];exact this);have E:Hid ((l++D)++[(16,3,2)]=l++(D++[(16,3,2)])):=(show _=_ from List.append_assoc _ _ _);have T:(m:Int)-6=((m-6:Nat):Int):=(by omega);go_wp2_with (at_builtin;go_must (refine zbk rfl (.tmp 19) (.tmp 23) rfl base _ _ rfl (ownG.alloc B.o _) _ 1 1 _ [(16,3,2)] rfl (zdN _ (16,3,2) _ _) (by simp at *;omega) (by have:=u.o.size;simp;omega) ?_;intro I H r A o s;have z:=yo ((u.o.alloc (by have:=u.o.size;omega) _).trans o);have t:Hid (ownG H base I (l++(D++[(16,3,2)]))):=(show ownG _ _ _ _ from by rw[<-E.o];exact r);clear r A o s));go_roundw
    case rel=>exact⟨m-6,g,D++[(16,3,2)],by rw[<-T],by omega,(by rw[lla];simp;omega),F,t,z⟩
    case measure=>simp[intOf];omega
  ·have W:¬(3:Int)<=(m:Int):=by omega
   have G:=yo V.o;rw[zeJ hbig] at G;obtain⟨N,rfl⟩:∃N:World,N=wr:=⟨_,rfl⟩;have G:Hid ((l++D)++List.replicate m (x,0,0)=l++zbS x n):=(show _=_ by rw[List.append_assoc,G.o]);have ac:(l++D).length<=1001000:=(by omega);clear ab V;generalize l++D=C at *;have S:Hid (ownG N base (.slice Av C.length nv) (C++List.replicate 0 (x,0,0))):=(show ownG _ _ _ _ by rw[List.replicate_zero,List.append_nil];exact B.o);have U:=yo u.o;clear B u;go_wp2_with fail;go_loopw [29,0] (fun M Y wr=>∃k:Nat,k<=m/\M=.int .i64 k/\Hid (ownG wr base Y (C++List.replicate k (x,0,0)))/\Hid (Below base w wr)) (fun M _ _=>m-(intOf M).toNat)
   case atStart=>exact⟨0,Nat.zero_le _,rfl,S,U⟩
   case round =>
    clear S U;obtain⟨k,hk,rfl,B,u⟩:=hrel;obtain⟨Av,nv,rfl,-⟩:=B.o.form;by_cases hlt:k<m
    ·have Z:Hid ((C++List.replicate k (x,0,0))++[(x,0,0)]=C++List.replicate (k+1) (x,0,0)):=(show _=_ by rw[ziV,List.append_assoc])
     have ai:(C++List.replicate k ((x,0,0):Sgn)).length<=2000000:=(by rw[lla,List.length_replicate];omega);generalize C++List.replicate k ((x,0,0):Sgn)=L at *;go_wp2_with (at_builtin;go_must (refine zbk rfl (.tmp 31) (.tmp 34) rfl base _ _ rfl (ownG.alloc B.o _) _ 1 1 _ [(x,0,0)] rfl (zdN _ (x,0,0) _ _) (by simp at *;omega) (by have:=u.o.size;simp;omega) ?_;intro I H r A o s;have z:=yo ((u.o.alloc (by have:=u.o.size;omega) _).trans o);have t:Hid (ownG H base I (C++List.replicate (k+1) (x,0,0))):=(show ownG _ _ _ _ from by rw[<-Z.o];exact r);clear r A o s));go_roundw
     case rel=>exact⟨k+1,by omega,by go_num,t,z⟩
     case measure=>simp[intOf];omega
    ·obtain rfl:k=m:=by omega
     have HF:Hid (C++List.replicate k (x,0,0)=l++zbS x n):=G;go_wp2_with fail;go_ret;exact⟨_,rfl,(by rw[<-HF.o];exact B.o),u.o⟩
end Go.Proofs.YtebbdifhiihfkaaGreatDoor

/- flate: lists of lengths as runs. -/
namespace Go.Proofs.YtebbdifhiihfkaaGreatDoor
set_option linter.all false
set_option maxRecDepth 100000
set_option maxHeartbeats 3200000
open Go.RowKit
/-- How many of a list's first elements are x. -/
def same(x:Int):List Int->Nat
 | []=>0
 |y :: r=>if y=x then same x r+1 else 0
theorem znJ(x:Int):∀l:List Int,same x l<=l.length
 | []=>nlr _
 |y :: r=>by
  have:=znJ x r;unfold same;split
  ·simp;omega
  ·simp
def zcT:Nat->List Int->List Sgn
 |0,_=>[]
 |_+1,[]=>[]
 |f+1,x :: r=>(if x=0 then zct (same x r+1) else zbS x.toNat (same x r+1))++zcT f (r.drop (same x r))
/-- A list of lengths as runs. -/
def zbn(l:List Int):List Sgn:=zcT l.length l
theorem zub{x:Int}{l:List Int}{k:Nat}(g:k<=l.length)(h1:∀j,j<k->l[j]?=some x)(h2:l[k]?≠some x):same x l=k:=by
 induction l generalizing k with
 |nil=>simp at g;subst g;rfl
 |cons y r ih =>
  cases k with
  |zero =>
   have:¬y=x:=fun e=>h2 (by simp[e])
   exact if_neg this
  |succ k =>
   have hy:y=x:=(by have:=h1 0 (by omega);simpa using this);have:same x r=k:=ih (by simp at g;omega) (fun j o=>by have:=h1 (j+1) (by omega);simpa using this) (by simpa using h2);show(if y=x then same x r+1 else 0)=k+1;rw[if_pos hy,this]
theorem zsI{f:Nat}{l:List Int}{i:Nat}(hi:i<l.length):zcT (f+1) (l.drop i)=(if l[i]=0 then zct (same l[i] (l.drop (i+1))+1) else zbS l[i].toNat (same l[i] (l.drop (i+1))+1))++zcT f (l.drop (i+1+same l[i] (l.drop (i+1)))):=by
 rw[List.drop_eq_getElem_cons hi];show _++zcT f ((l.drop (i+1)).drop _)=_;rw[List.drop_drop]
theorem zqJ(f:Nat){l:List Int}{i:Nat}(hi:l.length<=i):zcT f (l.drop i)=[]:=by
 rw[List.drop_eq_nil_of_le hi];cases f<;>rfl
theorem zlV{l:List Int}{i k:Nat}(hi:i<l.length)(g:i<k)(o:k<=l.length)(h1:∀j,i<=j->j<k->l[j]?=some l[i])(h2:l[k]?≠some l[i]):same l[i] (l.drop (i+1))=k-i-1:=by
 refine zub (by rw[lld];omega) (fun j q=>?_) ?_
 ·rw[List.getElem?_drop];exact h1 _ (by omega) (by omega)
 ·rw[List.getElem?_drop,show i+1+(k-i-1)=k by omega];exact h2
theorem zkp(n:Nat):(zeU n).length<=n:=by
 unfold zeU;split
 ·simp;omega
 ·simp
theorem ziW:∀f n:Nat,(zdw f n).length<=n
 |0,n=>zkp n
 |f+1,n=>by
  by_cases h:11<=n
  ·rw[zeV h,List.length_cons]
   have:=ziW f (n-min n 138);omega
  ·rw[zfg h];exact zkp n
theorem zhV(x:Nat):∀f n:Nat,(zcp x f n).length<=n
 |0,n=>by rw[zcp];simp
 |f+1,n=>by
  by_cases h:3<=n
  ·rw[zeo h,List.length_cons]
   have:=zhV x f (n-min n 6);omega
  ·rw[zeJ h];simp
theorem zgl(n:Nat):(zct n).length<=n:=ziW n n
theorem zfG(x n:Nat)(h:1<=n):(zbS x n).length<=n:=by
 have:=zhV x (n-1) (n-1);unfold zbS;rw[List.length_cons];omega
theorem zvh{x y:Int}(h:¬x=y):(some x:Option Int)≠some y:=fun e=>h (by injection e)
theorem zsJ(B n c:Nat)(A:Option Addr)(ls:List Int)(w:World)(h:RdI w B A n ls)(hB:B<=w.heap.size)(hn:n<=1000)(h0:∀x∈ls,0<=x):
  Calls Tryz.prog 155 #[.slice A n c] w fun e w'=>∃v',e=.returned v'/\ownG w' w.heap.size v' (zbn ls)/\Below w.heap.size w w':=by
 have HR:=yo h;have hl:=h.len;have ah:=yo h0;have W:=yo (ownG.nil_ w w.heap.size);have V:=yo (Below.refl w.heap.size w);clear h h0;go_enter Tryz.func155,Tryz.ntmps155;go_wp2_with fail;go_loopw [4,3] (fun vi vl wr=>∃(i f:Nat) (D:List Sgn),i<=n/\vi=.int .i64 i/\n<=f+i/\D.length<=i/\Hid (D++zcT f (ls.drop i)=zbn ls)/\Hid (ownG wr w.heap.size vl D)/\Hid (Below w.heap.size w wr)) (fun vi _ _=>n-(intOf vi).toNat)
 case atStart=>exact⟨0,n,[],Nat.zero_le _,rfl,nlr _,nlr _,(show _=_ by unfold zbn;rw[hl];rfl),W,V⟩
 case round =>
  clear W V;obtain⟨i,f,D,ac,rfl,hf,ak,HE,F,r⟩:=hrel;obtain⟨J,nv,rfl,-⟩:=F.o.form;obtain⟨wo,rfl⟩:∃wo:World,wo=wr:=⟨_,rfl⟩;by_cases hlt:i<n
  ·have ai:(i:Int)<(n:Int):=by omega
   obtain⟨g,rfl⟩:∃g,f=g+1:=⟨f-1,by omega⟩;have I:i<ls.length:=(by omega);obtain⟨b,o,x,rfl,hb,HX,e1⟩:=HR.o.one hlt;have G:Hid (ls[i]=x):=(show _=_ by have:=HX.o;rw[lge I] at this;injection this);have s:=yo (HE.o);rw[zsI I,G.o] at s;have aa:0<=x:=ah.o x (List.mem_of_getElem? HX.o);have ab:=(r.o.cell (p:=⟨b,o+i,none⟩) (by show b<_;omega)).trans e1;have L:True:=trivial;clear e1 HE;go_wp2_with fail;go_loopw [5] (fun vk wr=>∃k:Nat,i<=k/\k<=n/\vk=.int .i64 k/\Hid (∀j,i<=j->j<k->ls[j]?=some x)/\Hid (wr.heap=wo.heap)/\Hid (ownG wr w.heap.size (.slice J D.length nv) D)/\Hid (Below w.heap.size w wr)) (fun vk _=>n-(intOf vk).toNat)
   case atStart=>exact⟨i,nlr _,ac,rfl,(show ∀j,_ from fun j a b=>by omega),(show _=_ from rfl),F,r⟩
   case round =>
    clear F r L;obtain⟨k,am,aj,rfl,HS,L,F,r⟩:=hrel;have ei:wr.cell? ⟨b,o+i,none⟩=some (.int .i64 x):=(by rw[<-ab];unfold World.cell?;rw[L.o]);by_cases hk:k<n
    ·have af:(k:Int)<(n:Int):=by omega
     obtain⟨b2,o2,y,H,al,HY,e2⟩:=HR.o.one hk;injection H with H;injection H with H ae;subst H ae;have ek:wr.cell? ⟨b,o+k,none⟩=some (.int .i64 y):=(r.o.cell (p:=⟨b,o+k,none⟩) (by show b<_;omega)).trans e2;clear e2;by_cases hxy:y=x
     ·subst hxy
      have d1:(y==y)=true:=beq_self_eq_true _;have ag:Hid (∀j,i<=j->j<k+1->ls[j]?=some y):=(show ∀j,_ from fun j a b=>by
       by_cases e:j=k
       ·rw[e];exact HY.o
       ·exact HS.o j a (by omega))
      go_wp2_with fail;go_quiet (fail);go_wp2_with fail;go_roundw
      case rel=>exact⟨k+1,by omega,by omega,by go_num,ag,(show _=_ from L.o),F.o.drewN nq,zag r.o _⟩
      case measure=>simp[intOf];omega
     ·have d1:(y==x)=false:=bef hxy
      have Y:i<k:=by
       rcases Nat.lt_or_ge i k with e|e
       ·exact e
       ·obtain rfl:i=k:=by omega
        exact absurd (by have:=HY.o.symm.trans HX.o;injection this) hxy
      have HK:Hid (same x (ls.drop (i+1))=k-i-1):=(show _=_ by
       have:=zlV (l:=ls) I Y (by omega) (fun j a b=>by rw[G.o];exact HS.o j a b) (by rw[G.o,HY.o];exact zvh hxy);rwa[G.o] at this)
      have O:(k:Int)-(i:Int)=((k-i:Nat):Int):=(by omega);obtain⟨m,hm⟩:∃m,k-i=m:=⟨_,rfl⟩;have z:1<=m:=(by omega);have S:k-i-1+1=m:=(by omega);have P:i+1+(k-i-1)=k:=(by omega);rw[HK.o,S,P] at s;rw[hm] at O;by_cases hx:x=0
      ·subst hx
       have U:((0:Int)==0)=true:=rfl;rw[if_pos rfl,<-List.append_assoc] at s;have T:=yo (fun q=>zfv w.heap.size m (.slice J D.length nv) D (wr.drewN q) (F.o.drewN q) r.o.size (by omega) (by omega));have R:=yo (zfv w.heap.size m (.slice J D.length nv) D wr F.o r.o.size (by omega) (by omega));have N:=zgl m;generalize zct m=Z at *;go_wp2_with fail;go_quiet (fail);go_wp2_with ((go_at_call 177;(with_reducible refine(T.o _).mono ?_);go_must (rintro e w5 ⟨v5,rfl,t,u⟩;have C:=yo t;have E:=yo ((zag r.o _).trans u);clear t u)));go_roundw
       case rel=>exact⟨k,g,D++Z,by omega,rfl,by omega,(by rw[lla];omega),s,C,E⟩
       case measure=>simp[intOf];omega
      ·have U:(x==0)=false:=bef hx
       rw[if_neg hx,<-List.append_assoc] at s;obtain⟨X,rfl⟩:=Int.eq_ofNat_of_zero_le aa;have M:(X:Int).toNat=X:=rfl;rw[M] at s;have T:=yo (fun q=>zeW w.heap.size X m (.slice J D.length nv) D (wr.drewN q) (F.o.drewN q) r.o.size (by omega) (by omega) z);have R:=yo (zeW w.heap.size X m (.slice J D.length nv) D wr F.o r.o.size (by omega) (by omega) z);have N:=zfG X m z;generalize zbS X m=Z at *;go_wp2_with fail;go_quiet (fail);go_wp2_with ((go_at_call 178;(with_reducible refine(T.o _).mono ?_);go_must (rintro e w5 ⟨v5,rfl,t,u⟩;have C:=yo t;have E:=yo ((zag r.o _).trans u);clear t u)));go_roundw
       case rel=>exact⟨k,g,D++Z,by omega,rfl,by omega,(by rw[lla];omega),s,C,E⟩
       case measure=>simp[intOf];omega
    ·obtain rfl:k=n:=by omega
     have af:¬(k:Int)<(k:Int):=(by omega);have HK:Hid (same x (ls.drop (i+1))=k-i-1):=(show _=_ by
      have:=zlV (l:=ls) I hlt (by omega) (fun j a b=>by rw[G.o];exact HS.o j a b) (by rw[List.getElem?_eq_none (by omega)];simp);rwa[G.o] at this)
     have O:(k:Int)-(i:Int)=((k-i:Nat):Int):=(by omega);obtain⟨m,hm⟩:∃m,k-i=m:=⟨_,rfl⟩;have z:1<=m:=(by omega);have S:k-i-1+1=m:=(by omega);have P:i+1+(k-i-1)=k:=(by omega);rw[HK.o,S,P] at s;rw[hm] at O;by_cases hx:x=0
     ·subst hx
      have U:((0:Int)==0)=true:=rfl;rw[if_pos rfl,<-List.append_assoc] at s;have T:=yo (fun q=>zfv w.heap.size m (.slice J D.length nv) D (wr.drewN q) (F.o.drewN q) r.o.size (by omega) (by omega));have R:=yo (zfv w.heap.size m (.slice J D.length nv) D wr F.o r.o.size (by omega) (by omega));have N:=zgl m;generalize zct m=Z at *;go_wp2_with fail;go_quiet (fail);go_wp2_with ((go_at_call 177;(with_reducible refine(T.o _).mono ?_);go_must (rintro e w5 ⟨v5,rfl,t,u⟩;have C:=yo t;have E:=yo ((zag r.o _).trans u);clear t u)));go_roundw
      case rel=>exact⟨k,g,D++Z,by omega,rfl,by omega,(by rw[lla];omega),s,C,E⟩
      case measure=>simp[intOf];omega
     ·have U:(x==0)=false:=bef hx
      rw[if_neg hx,<-List.append_assoc] at s;obtain⟨X,rfl⟩:=Int.eq_ofNat_of_zero_le aa;have M:(X:Int).toNat=X:=rfl;rw[M] at s;have T:=yo (fun q=>zeW w.heap.size X m (.slice J D.length nv) D (wr.drewN q) (F.o.drewN q) r.o.size (by omega) (by omega) z);have R:=yo (zeW w.heap.size X m (.slice J D.length nv) D wr F.o r.o.size (by omega) (by omega) z);have N:=zfG X m z;generalize zbS X m=Z at *;go_wp2_with fail;go_quiet (fail);go_wp2_with ((go_at_call 178;(with_reducible refine(T.o _).mono ?_);go_must (rintro e w5 ⟨v5,rfl,t,u⟩;have C:=yo t;have E:=yo ((zag r.o _).trans u);clear t u)));go_roundw
      case rel=>exact⟨k,g,D++Z,by omega,rfl,by omega,(by rw[lla];omega),s,C,E⟩
      case measure=>simp[intOf];omega
  ·obtain rfl:i=n:=by omega
   have HF:Hid (D=zbn ls):=(show _=_ by have:=HE.o;rw[zqJ _ (by omega),List.append_nil] at this;exact this);go_wp2_with fail;go_ret;exact⟨_,rfl,(by rw[<-HF.o];exact F.o),r.o⟩
end Go.Proofs.YtebbdifhiihfkaaGreatDoor

