/- XSort2 XSort3 XSort4 XSort5 XSort6 -/
import Derived.Test.YtebbdifhiihfkaaGreatDoorMm10
namespace Go.Proofs.YtebbdifhiihfkaaGreatDoor
set_option linter.all false
set_option maxRecDepth 100000
set_option maxHeartbeats 3200000
open Go.RowKit
theorem zeF(q W:World)(base g n c:Nat)(P X M Y R:List MP)(f:Value)(h:SortW q base g n c (P++X++M++Y++R) W)(s:X.length=Y.length)(t:n<=1099511627776)(a b k:Int)
  (u:a=P.length) (z:b=P.length+X.length+M.length) (r:k=X.length) :
  Calls Tryz.prog 192 #[.slice (some ⟨g,0,none⟩) n c,.int .i64 a,.int .i64 b,.int .i64 k,f] W fun e w' =>
   e=.returned (.tuple #[])/\SortW q base g n c (P++Y++M++X++R) w':=by
 subst u r;have o:b=((P.length+X.length+M.length:Nat):Int):=by omega
 subst o;exact zk0 q W base g n c P X M Y R f h s t _ _ _ rfl rfl rfl
theorem zot(E W:World)(base g n c:Nat)(P U V R:List MP)(f:Value)(h:SortW E base g n c (P++U++V++R) W)(hU:0<U.length)(hV:0<V.length)(M:n<=1099511627776)(a m b:Nat)
  (ha:a=P.length) (X:m=P.length+U.length) (hb:b=P.length+U.length+V.length) :
  Calls Tryz.prog 191 #[.slice (some ⟨g,0,none⟩) n c,.int .i64 a,.int .i64 m,.int .i64 b,f] W fun e w' =>
   e=.returned (.tuple #[])/\SortW E base g n c (P++V++U++R) w':=by
 have A:=h.len;simp only[lla] at A;have D:=yo h;have Y:(m:Int)-a=(U.length:Int):=by omega
 have S:(b:Int)-m=(V.length:Int):=by omega
 have T:m=P.length+U.length:=X;have b1:b<=n:=by omega
 have b2:a<=m:=by omega
 have b3:m<=b:=by omega
 have J:=yo Y;have L:=yo S;have O:=yo T;clear h ha X hb A Y S T;go_enter Tryz.func191,Tryz.ntmps191;go_wp2;go_loopw [10,11] (fun N I wr=>∃(i j:Nat) (u q r B:List MP),N=.int .i64 i/\I=.int .i64 j/\0<i/\0<j/\i<=m/\m+j<=n/\Hid (i=q.length)/\Hid (j=r.length)/\Hid (m=u.length+i)/\Hid (SortW E base g n c (u++q++r++B) wr)/\Hid (u++r++q++B=P++V++U++R))
  (fun N I _=>(intOf N).toNat+(intOf I).toNat)
 case atStart=>exact⟨U.length,V.length,P,U,V,R,by rw[J.o],by rw[L.o],hU,hV,by have:=J.o;omega,by have:=L.o;omega,rfl,rfl,O.o,D.o,rfl⟩
 case round =>
  clear D J L O;obtain⟨i,j,u,q,r,B,rfl,rfl,hi,hj,Z,aa,s,C,z,D,H⟩:=hrel;by_cases hij:i=j
  ·subst hij
   have F:=yo (zeF E wr base g n c u q [] r B f (by simpa using D.o) (by rw[<-s.o,<-C.o]) M ((m:Int)-i) m i (by have:=z.o;omega) (by have:=z.o;have:=s.o;simp;omega) (by have:=s.o;omega));go_wp2_with (go_at_call 192;(with_reducible refine F.o.mono ?_);go_must (rintro e w1 ⟨rfl,o⟩;have t:=yo o;clear o));go_end0;refine⟨rfl,t.o.same ?_⟩;rw[<-H.o];simp
  ·by_cases hgt:j<i
   ·have G:q=q.take j++q.drop j:=(List.take_append_drop j q).symm
    have F:=yo (zeF E wr base g n c u (q.take j) (q.drop j) r B f (by have:=D.o;rw[G] at this;simpa using this) (by have:=s.o;have:=C.o;simp;omega) M ((m:Int)-i) m j (by have:=z.o;omega) (by have:=z.o;have:=s.o;simp;omega) (by have:=s.o;simp;omega));clear G;go_wp2_with (go_at_call 192;(with_reducible refine F.o.mono ?_);go_must (rintro e w1 ⟨rfl,o⟩;have t:=yo o;clear o));go_roundw
    case rel =>
     refine⟨i-j,j,u++r,q.drop j,q.take j,B,by go_num,rfl,by omega,by omega,by omega,by omega,?_,?_,?_,?_,?_⟩
     ·exact show _=_ by have:=s.o;simp;omega
     ·exact show _=_ by have:=s.o;simp;omega
     ·exact show _=_ by have:=z.o;have:=C.o;simp;omega
     ·exact t.o
     ·exact show _=_ by rw[<-H.o];simp
    case measure=>simp[intOf];omega
   ·have hlt:i<j:=by omega
    have G:r=r.take (j-i)++r.drop (j-i):=(List.take_append_drop _ r).symm;have F:=yo (zeF E wr base g n c u q (r.take (j-i)) (r.drop (j-i)) B f (by have:=D.o;rw[G] at this;simpa using this) (by have:=s.o;have:=C.o;simp;omega) M ((m:Int)-i) ((m:Int)+j-i) i (by have:=z.o;omega) (by have:=z.o;have:=s.o;have:=C.o;simp;omega) (by have:=s.o;omega));clear G;go_wp2_with (go_at_call 192;(with_reducible refine F.o.mono ?_);go_must (rintro e w1 ⟨rfl,o⟩;have t:=yo o;clear o));go_roundw
    case rel =>
     refine⟨i,j-i,u,r.drop (j-i),r.take (j-i),q++B,rfl,by go_num,by omega,by omega,by omega,by omega,?_,?_,?_,?_,?_⟩
     ·exact show _=_ by have:=C.o;simp;omega
     ·exact show _=_ by have:=C.o;simp;omega
     ·exact z
     ·exact t.o.same (by simp)
     ·exact show _=_ by rw[<-H.o];simp
    case measure=>simp[intOf];omega
/-- The row while one element goes down: insertionSort. -/
theorem zp4{S:List MP}{i:Nat}(h:i<S.length):zam (fun x:MP=>x.2.w) (S.take i)++S.drop i=zam (fun x:MP=>x.2.w) (S.take i)++S[i] :: S.drop (i+1):=by
 rw[List.drop_eq_getElem_cons h]
theorem ztQ{x y:MP}{B:List MP}(h:x.2.w<y.2.w)(k:∀z∈B,x.2.w<z.2.w):∀z∈y :: B,x.2.w<z.2.w:=fun z hz=>by
 rcases List.mem_cons.1 hz with rfl|hz
 ·exact h
 ·exact k z hz
theorem zk1(J W:World)(base g n c:Nat)(P S R:List MP)(h:SortW J base g n c (P++S++R) W)(hn:n<=1099511627776)(a b:Nat)
  (ha:a=P.length) (hb:b=P.length+S.length) :
  Calls Tryz.prog 189 #[.slice (some ⟨g,0,none⟩) n c,.int .i64 a,.int .i64 b,.func (.func 185) #[] #[]] W fun e w' =>
   e=.returned (.tuple #[])/\SortW J base g n c (P++zam (fun x:MP=>x.2.w) S++R) w':=by
 have D:=h.len;simp only[lla] at D;have h0:SortW J base g n c (P++(zam (fun x:MP=>x.2.w) (S.take 1)++S.drop 1)++R) W:=by
  refine h.same ?_;cases S with
  |nil=>rfl
  |cons x t=>rfl
 have u:=yo h0;have b1:b<=n:=by omega
 have b2:a<=b:=by omega
 have U:=yo ha;have HB:=yo hb;clear h h0 ha hb D;go_enter Tryz.func189,Tryz.ntmps189;go_wp2;go_loopw [8] (fun vi wr=>∃i:Nat,vi=.int .i64 ((a:Int)+i)/\1<=i/\a+i<=b+1/\Hid (SortW J base g n c (P++(zam (fun x:MP=>x.2.w) (S.take i)++S.drop i)++R) wr))
  (fun vi _=>b+1-(intOf vi).toNat)
 case atStart=>exact⟨1,rfl,by omega,by omega,u⟩
 case round =>
  clear u;obtain⟨i,rfl,ae,ab,u⟩:=hrel;by_cases hlt:a+i<b
  ·have E:i<S.length:=by have:=U.o;have:=HB.o;omega
   have O:(a:Int)+i<b:=(by omega);go_wp2;go_loopw [9] (fun Z wr=>∃(j:Nat) (A B:List MP),Z=.int .i64 j/\a<=j/\j<=a+i/\Hid (j=P.length+A.length)/\Hid (zam (fun x:MP=>x.2.w) (S.take i)=A++B)/\Hid (∀y∈B,S[i].2.w<y.2.w)/\Hid (SortW J base g n c (P++(A++S[i] :: B++S.drop (i+1))++R) wr))
    (fun Z _=>(intOf Z).toNat)
   case atStart =>
    have e0:=u.o;rw[zp4 E] at e0;refine⟨a+i,zam (fun x:MP=>x.2.w) (S.take i),[],by go_num,by omega,by omega,?_,(show _=_ by simp),(show ∀y∈_,_ by simp),e0.same (by simp)⟩;exact show _=_ by rw[(zaR (wt:=fun x:MP=>x.2.w) (S.take i)).2.length];have:=U.o;simp;omega
   case round =>
    clear u;obtain⟨j,A,B,rfl,ac,aa,Y,V,M,u⟩:=hrel;have s:Srt (fun x:MP=>x.2.w) (A++B):=(by rw[<-V.o];exact(zaR _).1);by_cases hja:a<j
    ·-- a lower neighbour stands there
     have X:A≠[]:=by
      rintro rfl;have:=Y.o;have:=U.o;simp at *;omega
     obtain⟨A',y,rfl⟩:∃A' y,A=A'++[y]:=⟨A.dropLast,A.getLast X,(List.dropLast_concat_getLast X).symm⟩;obtain⟨q,rfl⟩:∃q,j=q+1:=⟨j-1,by omega⟩;have lq:(P++A').length=q:=(by have:=Y.o;simp at *;omega);have C:SortW J base g n c ((P++A')++y :: S[i] :: (B++S.drop (i+1)++R)) wr:=u.o.same (by simp);generalize hx:S[i]=x at *;have F:∀z∈B,x.2.w<z.2.w:=fun z hz=>M.o z hz
     have I:=yo (fun m=>Calls.quiet_of (n:=m) (w:=wr) (zgg x y (wr.drewN m) (C.wt (by simp)) (C.wt (by simp))));have c1:=C.at_;have c2:=C.nx;have f1:=C.fr q;have f2:=C.fr (q+1);rw[lq] at c1 c2;have r1:IntKind.i64.wrap ((q:Int)+1)=(q:Int)+1:=(by rw[IntKind.wrap_i64];omega);have r2:IntKind.i64.wrap (q:Int)=(q:Int):=(by rw[IntKind.wrap_i64];omega);have g1:((q:Int)+1).toNat=q+1:=(by omega);have g2:(q:Int).toNat=q:=(by omega);have p1:(0:Int)<=(q:Int)+1:=(by omega);have p2:(0:Int)<=(q:Int):=(by omega);have p3:(q:Int)+1<n:=(by omega);have p4:(q:Int)<n:=(by omega);have t1:(a:Int)<(q:Int)+1:=(by omega);have t2:decide ((q:Int)+1 > (a:Int))=true:=decide_eq_true t1;by_cases hlt2:x.2.w<y.2.w
     ·have N:zbP x.2.w y.2.w<0:=(zc6 _ _).2 hlt2
      generalize zbP x.2.w y.2.w=r at I N;have v2:decide (r<0)=true:=decide_eq_true N;have o:=yo (fun m=>(C.drewN (m+1)).pws);have H:=yo (fun m=>(C.drewN m).at3' (.pointer (some ⟨y.1,0,none⟩)));rw[lq] at o H;clear C hx u M s;go_wp2_with fail;go_quiet ((go_at_call 185;exact I.o _));have c3:=H.o nq;have L:=yo (o.o nq);clear H o I;go_wp2_with fail
      go_region
      go_wp2_with fail;go_roundw
      case rel=>exact⟨q,A',y :: B,rfl,by omega,by omega,(show _=_ by rw[<-lq];simp),(show _=_ by rw[V.o];simp),ztQ hlt2 F,L.o.same (by simp)⟩
      case measure=>simp[intOf]
     ·have N:¬zbP x.2.w y.2.w<0:=fun h=>hlt2 ((zc6 _ _).1 h)
      generalize zbP x.2.w y.2.w=r at I N;have v2:decide (r<0)=false:=decide_eq_false N;have T:zam (fun x:MP=>x.2.w) (S.take (i+1))=(A'++[y])++x :: B:=by
       rw[List.take_succ_eq_append_getElem E,hx];refine zgO V.o (fun z hz=>?_) F;have h2:=(Srt.append.1 s).1;rcases List.mem_append.1 hz with hz|hz
       ·have:=(Srt.append.1 h2).2.2 z hz y (by simp)
        omega
       ·have:z=y:=by simpa using hz
        subst this;omega
      have G:=yo T;have o:=yo (fun m=>C.drewN m);clear C hx u M s T F;go_wp2_with fail;go_quiet ((go_at_call 185;exact I.o _));have L:=yo (o.o nq);clear o I;go_wp2_with fail;go_roundw
      case rel=>exact⟨i+1,by first|go_num|(congr 1;omega),by omega,by omega,L.o.same (by rw[G.o]<;>simp)⟩
      case measure=>simp[intOf];omega
    ·obtain rfl:j=a:=by omega
     have X:A=[]:=by
      have:=Y.o;have:=U.o;exact List.eq_nil_of_length_eq_zero (by omega)
     subst X;have T:zam (fun x:MP=>x.2.w) (S.take (i+1))=[]++S[i] :: B:=by
      rw[List.take_succ_eq_append_getElem E];exact zgO V.o (fun z hz=>by cases hz) M.o
     have G:=yo T;have t2:decide ((j:Int) > (j:Int))=false:=decide_eq_false (by omega);have o:=yo (fun m=>u.o.drewN m);clear u M s T;go_wp2_with fail;go_quiet (fail);have L:=yo (o.o nq);clear o;go_wp2_with fail;go_roundw
     case rel=>exact⟨i+1,by first|go_num|(congr 1;omega),by omega,by omega,L.o.same (by rw[G.o]<;>simp)⟩
     case measure=>simp[intOf];omega
  ·have O:¬(a:Int)+i<b:=by omega
   go_wp2;go_end0;refine⟨rfl,u.o.same ?_⟩;have:=U.o;have:=HB.o;rw[List.take_of_length_le (by omega),List.drop_eq_nil_of_le (by omega),List.append_nil,List.append_assoc]
end Go.Proofs.YtebbdifhiihfkaaGreatDoor

/- slices.SortStableFunc over rows of members: symMerge. -/
namespace Go.Proofs.YtebbdifhiihfkaaGreatDoor
set_option linter.all false
set_option maxRecDepth 100000
set_option maxHeartbeats 3200000
open Go.RowKit
/-- The weight at a place. -/
def wd(d:List MP)(k:Nat):Int:=(d.getD k default).2.w
section
variable {w0 W : World} {base g n c : Nat} {d : List MP}
theorem SortW.gt(h:SortW w0 base g n c d W){k:Nat}(q:k<n):∃z:MP,Hid (d[k]?=some z)/\W.cell? ⟨g,k,none⟩=some (.pointer (some ⟨z.1,0,none⟩))/\W.cell? ⟨z.1,0,none⟩=some (.int .i64 z.2.w)/\z.2.w=wd d k:=by
 have r:=h.len;have o:k<d.length:=by omega
 refine⟨d[k],lge o,?_,h.wt (List.getElem_mem o),?_⟩
 ·have:=h.own.cell h.len o
  exact this
 ·unfold wd
  rw[lgd,lge o];rfl
theorem SortW.swp0{L1 o:List MP}{x y:MP}(h:SortW w0 base g n c (L1++x :: y :: o) W):
  SortW w0 base g n c (L1++y :: x :: o) ((W.setCell ⟨g,L1.length,none⟩ (.pointer (some ⟨y.1,0,none⟩))).setCell ⟨g,L1.length+1,none⟩ (.pointer (some ⟨x.1,0,none⟩))):=SortW.swp (L2:=[]) h
end
theorem zp5{α:Type}{wt:α->Int}{x:α}{B1 B2:List α}(h:Srt wt (B1++B2))(h1:∀y∈B1,wt y<wt x)(h2:∀y∈B2,wt x<=wt y):zam wt (x :: (B1++B2))=B1++x :: B2:=by
 refine(SS.eq_stab ⟨?_,?_⟩).symm
 ·obtain⟨q,o,r⟩:=Srt.append.1 h
  refine Srt.append.2 ⟨q,?_,?_⟩
  ·unfold Srt
   rw[List.pairwise_cons];exact⟨h2,o⟩
  ·intro y hy z hz
   rcases List.mem_cons.1 hz with rfl|hz
   ·have:=h1 y hy;omega
   ·exact r y hy z hz
 ·have e:FEq wt ([x]++B1++B2) (B1++[x]++B2):=(FEq.swap (fun y hy z hz=>by
   have:y=x:=by simpa using hy
   subst this;exact h1 z hz)).append (FEq.refl _)
  simpa using e
theorem zcs{P M R:List MP}{k t:Nat}(o:k=P.length+t)(ht:t<M.length):wd (P++(M++R)) k=M[t].2.w:=by
 subst o;unfold wd;rw[lgd,List.getElem?_append_right (by omega),Nat.add_sub_cancel_left,List.getElem?_append_left ht,lge ht];rfl
theorem zej{α:Type}{l:List α}{n:Nat}{y:α}(h:y∈l.take n):∃t,t<n/\∃ht:t<l.length,l[t]=y:=by
 obtain⟨t,ht,e⟩:=List.getElem_of_mem h;rw[llt] at ht;exact⟨t,by omega,by omega,by rw[List.getElem_take] at e;exact e⟩
theorem zek{α:Type}{l:List α}{n:Nat}{y:α}(h:y∈l.drop n):∃t,n<=t/\∃ht:t<l.length,l[t]=y:=by
 obtain⟨t,ht,e⟩:=List.getElem_of_mem h;rw[lld] at ht;exact⟨n+t,by omega,by omega,by rw[List.getElem_drop] at e;exact e⟩
theorem zp6(w0 W:World)(base g n c:Nat)(P:List MP)(x:MP)(B R:List MP)(h:SortW w0 base g n c (P++x :: (B++R)) W)(hn:n<=1099511627776)(a m b:Nat)
  (ha:a=P.length) (hm:m=a+1) (hb:b=a+1+B.length) (hB:Srt (fun x:MP=>x.2.w) B) :
  Calls Tryz.prog 190 #[.slice (some ⟨g,0,none⟩) n c,.int .i64 a,.int .i64 m,.int .i64 b,.func (.func 185) #[] #[]] W fun e w' =>
   e=.returned (.tuple #[])/\SortW w0 base g n c (P++zam (fun x:MP=>x.2.w) (x :: B)++R) w':=by
 have E:=h.len;simp only[lla,List.length_cons] at E;have o:=yo h;have b1:b<=n:=by omega
 have b2:a<b:=by omega
 have b3:m<=b:=by omega
 have b4:a<n:=by omega
 have X:=yo ha;have HB:=yo hb;have e1:(m:Int)-a=1:=by omega
 have U:=yo hm;clear h ha hb E hm;go_enter Tryz.func190,Tryz.ntmps190;go_wp2;go_loopw [10,11] (fun vi vj wr=>∃i j:Nat,vi=.int .i64 i/\vj=.int .i64 j/\m<=i/\i<=j/\j<=b/\Hid (∀k,m<=k->k<i->wd (P++x :: (B++R)) k<x.2.w)/\Hid (∀k,j<=k->k<b->x.2.w<=wd (P++x :: (B++R)) k)/\Hid (SortW w0 base g n c (P++x :: (B++R)) wr))
  (fun vi vj _=>(intOf vj).toNat-(intOf vi).toNat)
 case atStart=>exact⟨m,b,rfl,rfl,by omega,by omega,by omega,(show ∀k,_ by intro k;omega),(show ∀k,_ by intro k;omega),o⟩
 case round =>
  clear o;obtain⟨i,j,rfl,rfl,aj,ac,ai,H1,H2,o⟩:=hrel;by_cases hlt:i<j
  ·go_wp2_with fail
   have eh:((i:Int)+j) / 2=(((i+j) / 2:Nat):Int):=(by omega);rw[eh];clear eh;obtain⟨z,hz,cz,I,H⟩:=o.o.gt (k:=(i+j) / 2) (by omega);have ae:i<=(i+j) / 2:=(by omega);have ah:(i+j) / 2<j:=(by omega);have ca:=o.o.at_;have S:=o.o.wt (x:=x) (by simp);rw[<-X.o] at ca;have G:=yo (fun q=>Calls.quiet_of (n:=q) (w:=wr) (zgg z x (wr.drewN q) I S));have HE:=yo H;clear hz H I S;generalize (i+j) / 2=k at *;have g1:(k:Int).toNat=k:=(by omega);have p3:(k:Int)<n:=(by omega);have p4:(a:Int)<n:=(by omega);have C:∀k1 F,m<=k1->k1<=F->F<b->wd (P++x :: (B++R)) k1<=wd (P++x :: (B++R)) F:=by
    intro k1 F V N q3;have l1:=X.o;have l2:=HB.o;have l3:=U.o;have w1:=zcs (P:=P++[x]) (M:=B) (R:=R) (k:=k1) (t:=k1-m) (by simp;omega) (by omega);have w2:=zcs (P:=P++[x]) (M:=B) (R:=R) (k:=F) (t:=F-m) (by simp;omega) (by omega);simp only[List.append_assoc,List.cons_append,List.nil_append] at w1 w2;rw[w1,w2];rcases Nat.lt_or_eq_of_le N with N|rfl
    ·exact(List.pairwise_iff_getElem.1 hB) (k1-m) (F-m) (by omega) (by omega) (by omega)
    ·exact Int.le_refl _
   have L:=yo C;clear C;by_cases T:z.2.w<x.2.w
   ·have J:zbP z.2.w x.2.w<0:=(zc6 _ _).2 T
    have D:wd (P++x :: (B++R)) k<x.2.w:=(by rw[<-HE.o];exact T);generalize zbP z.2.w x.2.w=r at G J;have v2:decide (r<0)=true:=decide_eq_true J;have Y:=yo D;have A:=yo (fun m=>o.o.drewN m);clear T D o;go_quiet ((go_at_call 185;exact G.o _));have o:=yo (A.o nq);clear A G;go_wp2_with fail;go_roundw
    case rel=>exact⟨k+1,j,by go_num,rfl,by omega,by omega,by omega,(show ∀q,_ from fun q V N=>by have:=L.o q k V (by omega) (by omega);have:=Y.o;omega),H2,o⟩
    case measure=>simp[intOf];omega
   ·have J:¬zbP z.2.w x.2.w<0:=fun h=>T ((zc6 _ _).1 h)
    have D:x.2.w<=wd (P++x :: (B++R)) k:=(by rw[<-HE.o];omega);generalize zbP z.2.w x.2.w=r at G J;have v2:decide (r<0)=false:=decide_eq_false J;have Y:=yo D;have A:=yo (fun m=>o.o.drewN m);clear T D o;go_quiet ((go_at_call 185;exact G.o _));have o:=yo (A.o nq);clear A G;go_wp2_with fail;go_roundw
    case rel=>exact⟨i,k,rfl,rfl,by omega,by omega,by omega,H1,(show ∀q,_ from fun q V N=>by have:=L.o k q (by omega) V N;have:=Y.o;omega),o⟩
    case measure=>simp[intOf];omega
  ·obtain rfl:i=j:=by omega
   clear hlt ac;have e9:zam (fun x:MP=>x.2.w) (x :: B)=B.take (i-m)++x :: B.drop (i-m):=by
    have l1:=X.o;have l2:=HB.o;have l3:=U.o;have:=zp5 (wt:=fun x:MP=>x.2.w) (x:=x) (B1:=B.take (i-m)) (B2:=B.drop (i-m)) (by rw[List.take_append_drop];exact hB) ?_ ?_
    ·rwa[List.take_append_drop] at this
    ·intro y hy
     obtain⟨t,t1,t2,rfl⟩:=zej hy;have w1:=zcs (P:=P++[x]) (M:=B) (R:=R) (k:=m+t) (t:=t) (by simp;omega) t2;simp only[List.append_assoc,List.cons_append,List.nil_append] at w1;have:=H1.o (m+t) (by omega) (by omega);omega
    ·intro y hy
     obtain⟨t,t1,t2,rfl⟩:=zek hy;have w1:=zcs (P:=P++[x]) (M:=B) (R:=R) (k:=m+t) (t:=t) (by simp;omega) t2;simp only[List.append_assoc,List.cons_append,List.nil_append] at w1;have:=H2.o (m+t) (by omega) (by omega);omega
   have O:=yo e9;clear e9 H1 H2;obtain⟨s,hs⟩:∃s,i=m+s:=⟨i-m,by omega⟩;have ag:s<=B.length:=(by have:=HB.o;have:=U.o;omega);rw[show i-m=s by omega] at O;have aa:=U.o;have hi:i=a+1+s:=(by omega);clear hs aa;subst hi;go_wp2;go_loopw [13] (fun vk wr=>∃t:Nat,vk=.int .i64 ((a+t:Nat):Int)/\t<=s/\Hid (SortW w0 base g n c (P++(B.take t++x :: (B.drop t++R))) wr))
    (fun vk _=>a+s-(intOf vk).toNat)
   case atStart=>exact⟨0,rfl,by omega,o⟩
   case round =>
    clear o;obtain⟨t,rfl,af,o⟩:=hrel;by_cases hlt:t<s
    ·have ht:t<B.length:=by omega
     have hS:=o.o;rw[List.drop_eq_getElem_cons ht] at hS;have u:SortW w0 base g n c ((P++B.take t)++x :: B[t] :: (B.drop (t+1)++R)) wr:=hS.same (by simp only[List.append_assoc,List.cons_append]);have lq:(P++B.take t).length=a+t:=(by have:=X.o;simp;omega);have eT:P++(B.take (t+1)++x :: (B.drop (t+1)++R))=(P++B.take t)++B[t] :: x :: (B.drop (t+1)++R):=by
      rw[List.take_succ_eq_append_getElem ht];simp only[List.append_assoc,List.cons_append,List.nil_append]
     generalize B[t]=y at u eT;have ET:=yo eT;have c1:=u.at_;have c2:=u.nx;have c3:=SortW.at3 (L2:=[]) u (.pointer (some ⟨y.1,0,none⟩));have Z:=u.swp0.drew;have f1:=u.fr (a+t);have f2:=u.fr (a+t+1);rw[List.length_nil,Nat.add_zero] at c3;rw[lq] at c1 c2 c3 Z;have A:=yo Z;clear Z hS u o lq eT;have ab:((a+t:Nat):Int)<(a+1+s:Nat)-1:=(by omega);generalize hk:a+t=k at *;have r1:IntKind.i64.wrap ((k:Int)+1)=(k:Int)+1:=(by rw[IntKind.wrap_i64];omega);have g1:((k:Int)+1).toNat=k+1:=(by omega);have g2:(k:Int).toNat=k:=(by omega);have p1:(0:Int)<=(k:Int)+1:=(by omega);have p3:(k:Int)+1<n:=(by omega);have p4:(k:Int)<n:=(by omega);have HK:=yo hk;clear hk;go_wp2_with fail
     go_region
     go_wp2_with fail;go_roundw
     case rel=>exact⟨t+1,by rw[<-HK.o];go_num,by omega,A.o.same ET.o.symm⟩
     case measure=>have:=HK.o;simp[intOf];omega
    ·obtain rfl:t=s:=by omega
     have ab:¬((a:Int)+t<(a:Int)+1+t-1):=(by omega);go_wp2;refine bodyPost_ret (v:=.tuple #[]) (results_none rfl _ _ _) rfl ?_;exact⟨rfl,o.o.same (by rw[O.o];simp)⟩
end Go.Proofs.YtebbdifhiihfkaaGreatDoor

/- slices.SortStableFunc over rows of members: symMerge, one element behind. -/
namespace Go.Proofs.YtebbdifhiihfkaaGreatDoor
set_option linter.all false
set_option maxRecDepth 100000
set_option maxHeartbeats 3200000
open Go.RowKit
theorem zp7{α:Type}{wt:α->Int}{x:α}{A1 A2:List α}(h:Srt wt (A1++A2))(h1:∀y∈A1,wt y<=wt x)(h2:∀y∈A2,wt x<wt y):zam wt ((A1++A2)++[x])=A1++x :: A2 :=
 zgO (SS.of h).eq_stab.symm h1 h2
theorem zsa(I W:World)(base g n c:Nat)(P:List MP)(x:MP)(A R:List MP)(h:SortW I base g n c (P++(A++x :: R)) W)(hn:n<=1099511627776)(a m b:Nat)
  (ha:a=P.length) (hm:m=a+A.length) (hb:b=m+1) (h1:A.length≠1) (hB:Srt (fun x:MP=>x.2.w) A) :
  Calls Tryz.prog 190 #[.slice (some ⟨g,0,none⟩) n c,.int .i64 a,.int .i64 m,.int .i64 b,.func (.func 185) #[] #[]] W fun e w' =>
   e=.returned (.tuple #[])/\SortW I base g n c (P++zam (fun x:MP=>x.2.w) (A++[x])++R) w':=by
 have F:=h.len;simp only[lla,List.length_cons] at F;have o:=yo h;have b1:b<=n:=by omega
 have b2:a<=m:=by omega
 have b3:m<b:=by omega
 have b4:m<n:=by omega
 have Z:=yo ha;have G:=yo hm;have e1:¬((m:Int)-a=1):=by omega
 have al:(((m:Int)-a)==1)=false:=by simpa using e1
 have e2:(b:Int)-m=1:=by omega
 have HB:=yo hb;clear h ha hb F hm h1;go_enter Tryz.func190,Tryz.ntmps190;go_wp2;go_loopw [14,15] (fun vi vj wr=>∃i j:Nat,vi=.int .i64 i/\vj=.int .i64 j/\a<=i/\i<=j/\j<=m/\Hid (∀k,a<=k->k<i->wd (P++(A++x :: R)) k<=x.2.w)/\Hid (∀k,j<=k->k<m->x.2.w<wd (P++(A++x :: R)) k)/\Hid (SortW I base g n c (P++(A++x :: R)) wr))
  (fun vi vj _=>(intOf vj).toNat-(intOf vi).toNat)
 case atStart=>exact⟨a,m,rfl,rfl,by omega,by omega,by omega,(show ∀k,_ by intro k;omega),(show ∀k,_ by intro k;omega),o⟩
 case round =>
  clear o;obtain⟨i,j,rfl,rfl,ak,ab,ao,H1,H2,o⟩:=hrel;by_cases hlt:i<j
  ·go_wp2_with fail
   have eh:((i:Int)+j) / 2=(((i+j) / 2:Nat):Int):=(by omega);rw[eh];clear eh;obtain⟨z,hz,cz,N,V⟩:=o.o.gt (k:=(i+j) / 2) (by omega);have ai:i<=(i+j) / 2:=(by omega);have an:(i+j) / 2<j:=(by omega);have ca:=SortW.at_ (L1:=P++A) (x:=x) (L2:=R) (o.o.same (by simp));have T:=o.o.wt (x:=x) (by simp);rw[show(P++A).length=m by have:=Z.o;have:=G.o;simp;omega] at ca;have J:=yo (fun q=>Calls.quiet_of (n:=q) (w:=wr) (zgg x z (wr.drewN q) T N));have HE:=yo V;clear hz V N T;generalize (i+j) / 2=k at *;have g1:(k:Int).toNat=k:=(by omega);have p3:(k:Int)<n:=(by omega);have p4:(m:Int)<n:=(by omega);have E:∀k1 H,a<=k1->k1<=H->H<m->wd (P++(A++x :: R)) k1<=wd (P++(A++x :: R)) H:=by
    intro k1 H Y L q3;have l1:=Z.o;have l2:=HB.o;have l3:=G.o;have w1:=zcs (P:=P) (M:=A) (R:=x :: R) (k:=k1) (t:=k1-a) (by omega) (by omega);have w2:=zcs (P:=P) (M:=A) (R:=x :: R) (k:=H) (t:=H-a) (by omega) (by omega);rw[w1,w2];rcases Nat.lt_or_eq_of_le L with L|rfl
    ·exact(List.pairwise_iff_getElem.1 hB) (k1-a) (H-a) (by omega) (by omega) (by omega)
    ·exact Int.le_refl _
   have X:=yo E;clear E;by_cases U:x.2.w<z.2.w
   ·have O:zbP x.2.w z.2.w<0:=(zc6 _ _).2 U
    have D:x.2.w<wd (P++(A++x :: R)) k:=(by rw[<-HE.o];exact U);generalize zbP x.2.w z.2.w=r at J O;have v2:decide (r<0)=true:=decide_eq_true O;have HC:=yo D;have C:=yo (fun m=>o.o.drewN m);clear U D o;go_quiet ((go_at_call 185;exact J.o _));have o:=yo (C.o nq);clear C J;go_wp2_with fail;go_roundw
    case rel=>exact⟨i,k,rfl,rfl,by omega,by omega,by omega,H1,(show ∀q,_ from fun q Y L=>by have:=X.o k q (by omega) Y L;have:=HC.o;omega),o⟩
    case measure=>simp[intOf];omega
   ·have O:¬zbP x.2.w z.2.w<0:=fun h=>U ((zc6 _ _).1 h)
    have D:wd (P++(A++x :: R)) k<=x.2.w:=(by rw[<-HE.o];omega);generalize zbP x.2.w z.2.w=r at J O;have v2:decide (r<0)=false:=decide_eq_false O;have HC:=yo D;have C:=yo (fun m=>o.o.drewN m);clear U D o;go_quiet ((go_at_call 185;exact J.o _));have o:=yo (C.o nq);clear C J;go_wp2_with fail;go_roundw
    case rel=>exact⟨k+1,j,by go_num,rfl,by omega,by omega,by omega,(show ∀q,_ from fun q Y L=>by have:=X.o q k Y (by omega) (by omega);have:=HC.o;omega),H2,o⟩
    case measure=>simp[intOf];omega
  ·obtain rfl:i=j:=by omega
   clear hlt ab;have e9:zam (fun x:MP=>x.2.w) (A++[x])=A.take (i-a)++x :: A.drop (i-a):=by
    have l1:=Z.o;have l2:=HB.o;have l3:=G.o;have:=zp7 (wt:=fun x:MP=>x.2.w) (x:=x) (A1:=A.take (i-a)) (A2:=A.drop (i-a)) (by rw[List.take_append_drop];exact hB) ?_ ?_
    ·rwa[List.take_append_drop] at this
    ·intro y hy
     obtain⟨t,t1,t2,rfl⟩:=zej hy;have w1:=zcs (P:=P) (M:=A) (R:=x :: R) (k:=a+t) (t:=t) (by omega) t2;have:=H1.o (a+t) (by omega) (by omega);omega
    ·intro y hy
     obtain⟨t,t1,t2,rfl⟩:=zek hy;have w1:=zcs (P:=P) (M:=A) (R:=x :: R) (k:=a+t) (t:=t) (by omega) t2;have:=H2.o (a+t) (by omega) (by omega);omega
   have af:=yo e9;have h7:SortW I base g n c (P++(A.take (i-a)++(A.drop (i-a)).take (m-i)++x :: ((A.drop (i-a)).drop (m-i)++R))) wr:=by
    refine o.o.same ?_;have:=G.o;rw[List.take_of_length_le (l:=A.drop (i-a)) (by simp;omega),List.drop_eq_nil_of_le (show(A.drop (i-a)).length<=m-i by simp;omega),List.take_append_drop];rfl
   have aa:(A.drop (i-a)).length=m-i:=(by have:=G.o;simp;omega);have ag:(A.take (i-a)).length=i-a:=(by have:=G.o;simp;omega);clear e9 H1 H2 o;generalize A.drop (i-a)=A2 at *;generalize A.take (i-a)=A1 at *;have o:=yo h7;clear h7;obtain⟨u,hu⟩:∃u,m=i+u:=⟨m-i,by omega⟩;have ae:=yo (show A2.length=u by omega);have ac:=yo (show P.length+A1.length=i by have:=Z.o;omega);rw[show m-i=u by omega] at o;clear ag aa G;subst hu;go_wp2;go_loopw [17] (fun vk wr=>∃t:Nat,vk=.int .i64 ((i+t:Nat):Int)/\t<=u/\Hid (SortW I base g n c (P++(A1++A2.take t++x :: (A2.drop t++R))) wr))
    (fun vk _=>(intOf vk).toNat)
   case atStart=>exact⟨u,rfl,by omega,o⟩
   case round =>
    clear o;obtain⟨t,rfl,aj,o⟩:=hrel;by_cases hlt:0<t
    ·obtain⟨s,rfl⟩:∃s,t=s+1:=⟨t-1,by omega⟩
     have ht:s<A2.length:=(by have:=ae.o;omega);have hS:=o.o;rw[List.take_succ_eq_append_getElem ht] at hS;have B:SortW I base g n c ((P++A1++A2.take s)++A2[s] :: x :: (A2.drop (s+1)++R)) wr:=hS.same (by simp only[List.append_assoc,List.cons_append,List.nil_append]);have lq:(P++A1++A2.take s).length=i+s:=(by have:=ac.o;simp;omega);have eT:P++(A1++A2.take s++x :: (A2.drop s++R))=(P++A1++A2.take s)++x :: A2[s] :: (A2.drop (s+1)++R):=by
      rw[List.drop_eq_getElem_cons ht];simp only[List.append_assoc,List.cons_append,List.nil_append]
     generalize A2[s]=y at B eT;have ET:=yo eT;have c1:=B.at_;have c2:=B.nx;have c3:=B.at3' (.pointer (some ⟨y.1,0,none⟩));have S1:=B.pws.drew;have f1:=B.fr (i+s);have f2:=B.fr (i+s+1);rw[lq] at c1 c2 c3 S1;have C:=yo S1;clear S1 hS B o lq eT;have ah:(i:Int)<(i:Int)+s+1:=(by omega);have S:i+(s+1)=i+s+1:=(by omega);rw[S];clear S;have am:i<=i+s:=(by omega);generalize S:i+s=k at *;have r1:IntKind.i64.wrap ((k:Int)+1)=(k:Int)+1:=(by rw[IntKind.wrap_i64];omega);have r2:IntKind.i64.wrap (k:Int)=(k:Int):=(by rw[IntKind.wrap_i64];omega);have g1:((k:Int)+1).toNat=k+1:=(by omega);have g2:(k:Int).toNat=k:=(by omega);have p1:(0:Int)<=(k:Int)+1:=(by omega);have p3:(k:Int)+1<n:=(by omega);have p4:(k:Int)<n:=(by omega);have p5:(i:Int)<(k:Int)+1:=(by omega);have HK:=yo S;clear S ah;go_wp2_with fail
     go_region
     go_wp2_with fail;go_roundw
     case rel=>exact⟨s,by rw[HK.o],by omega,C.o.same ET.o.symm⟩
     case measure=>simp[intOf]
    ·obtain rfl:t=0:=by omega
     go_wp2;refine bodyPost_ret (v:=.tuple #[]) (results_none rfl _ _ _) rfl ?_;exact⟨rfl,o.o.same (by rw[af.o];simp)⟩
end Go.Proofs.YtebbdifhiihfkaaGreatDoor

/- slices.SortStableFunc over rows of members: symMerge, whole. -/
namespace Go.Proofs.YtebbdifhiihfkaaGreatDoor
set_option linter.all false
set_option maxRecDepth 100000
set_option maxHeartbeats 6400000
open Go.RowKit
abbrev mw:MP->Int:=fun x=>x.2.w
theorem zou(r W:World)(base g n c:Nat)(P U V R:List MP)(f:Value)(h:SortW r base g n c (P++U++V++R) W)(z:0<U.length)(u:0<V.length)(s:n<=1099511627776)(a m b:Int)
  (t:a=P.length) (B:m=P.length+U.length) (A:b=P.length+U.length+V.length) :
  Calls Tryz.prog 191 #[.slice (some ⟨g,0,none⟩) n c,.int .i64 a,.int .i64 m,.int .i64 b,f] W fun e w' =>
   e=.returned (.tuple #[])/\SortW r base g n c (P++V++U++R) w':=by
 have q:m=((P.length+U.length:Nat):Int):=by omega
 have o:b=((P.length+U.length+V.length:Nat):Int):=by omega
 subst t q o;exact zot r W base g n c P U V R f h z u s _ _ _ rfl rfl rfl
theorem zsb{A1 U V B2:List MP}(r:Srt mw (A1++U))(t:Srt mw (V++B2))(g:∀u∈U,∀v∈V,mw v<mw u)(o:∀x∈A1,∀y∈B2,mw x<=mw y):
  zam mw ((A1++U)++(V++B2))=zam mw (A1++V)++zam mw (U++B2):=by
 have h1:FEq mw ((A1++U)++(V++B2)) ((A1++V)++(U++B2)):=by
  have:=(FEq.refl A1).append ((FEq.swap g).append (FEq.refl B2))
  simpa using this
 obtain⟨z,B,s⟩:=Srt.append.1 r;obtain⟨A,b2,q⟩:=Srt.append.1 t;refine(SS.eq_stab (SS.feq h1 (SS.join (zaR _) (zaR _) ?_))).symm;intro x hx y hy;rcases List.mem_append.1 hx with hx|hx<;>rcases List.mem_append.1 hy with hy|hy
 ·exact s x hx y hy
 ·exact o x hx y hy
 ·have:=g y hy x hx;omega
 ·exact q x hx y hy
theorem zgQ{A B:List MP}(g:Srt mw A)(o:Srt mw B)(h:A=[]\/B=[]):zam mw (A++B)=A++B:=by
 rcases h with rfl|rfl
 ·simpa using (SS.of o).eq_stab.symm
 ·simpa using (SS.of g).eq_stab.symm
/-- What the search found. -/
theorem zp8{P A B R:List MP}{a m b g C z s:Nat}(Z:a=P.length)(hm:m=a+A.length)(hb:b=m+B.length)(L:Srt mw A)(N:Srt mw B)
  (h1:a<=C) (h2:C<=s) (h3:s<=z) (h4:z<=m) (h5:z<=g) (Y:g+m<=b+C) (h7:C=a\/g+m=b+C) (h8:z=m\/z=g)
  (W:∀k,C<=k->k<s->wd (P++(A++(B++R))) k<=wd (P++(A++(B++R))) (g+m-1-k)) (O:∀k,s<=k->k<z->wd (P++(A++(B++R))) (g+m-1-k)<wd (P++(A++(B++R))) k) :
  zam mw (A++B)=zam mw (A.take (s-a)++B.take (g-s))++zam mw (A.drop (s-a)++B.drop (g-s)):=by
 have G:∀t (ht:t<A.length),wd (P++(A++(B++R))) (a+t)=mw A[t]:=fun t ht=>zcs (by omega) ht
 have wB:∀t (ht:t<B.length),wd (P++(A++(B++R))) (m+t)=mw B[t]:=fun t ht=>by
  have:=zcs (P:=P++A) (M:=B) (R:=R) (k:=m+t) (t:=t) (by simp;omega) ht;rwa[List.append_assoc] at this
 have F:∀r o (h:r<=o) (ht:o<A.length),mw (A[r]'(by omega))<=mw A[o]:=fun r o h ht=>by
  rcases Nat.lt_or_eq_of_le h with h|rfl
  ·exact(List.pairwise_iff_getElem.1 L) r o (by omega) ht h
  ·exact Int.le_refl _
 have J:∀r o (h:r<=o) (ht:o<B.length),mw (B[r]'(by omega))<=mw B[o]:=fun r o h ht=>by
  rcases Nat.lt_or_eq_of_le h with h|rfl
  ·exact(List.pairwise_iff_getElem.1 N) r o (by omega) ht h
  ·exact Int.le_refl _
 have:=zsb (A1:=A.take (s-a)) (U:=A.drop (s-a)) (V:=B.take (g-s)) (B2:=B.drop (g-s)) (by rw[List.take_append_drop];exact L) (by rw[List.take_append_drop];exact N) ?_ ?_
 ·rwa[List.take_append_drop,List.take_append_drop] at this
 ·intro u X v hv
  obtain⟨t,r,o,rfl⟩:=zek X;obtain⟨q,H,I,rfl⟩:=zej hv;have hs:s<z:=by omega
  have e:=O s (nlr _) hs;have E:=G (s-a) (by omega);have D:=wB (g-1-s) (by omega);rw[show a+(s-a)=s by omega] at E;rw[show m+(g-1-s)=g+m-1-s by omega] at D;have T:=F (s-a) t r o;have S:=J q (g-1-s) (by omega) (by omega);omega
 ·intro x hx y hy
  obtain⟨t,r,o,rfl⟩:=zej hx;obtain⟨q,H,I,rfl⟩:=zek hy;have hs:C<s:=by omega
  have e:=W (s-1) (by omega) (by omega);have E:=G (s-1-a) (by omega);have D:=wB (g-s) (by omega);rw[show a+(s-1-a)=s-1 by omega] at E;rw[show m+(g-s)=g+m-1-(s-1) by omega] at D;have T:=F t (s-1-a) (by omega) (by omega);have S:=J (g-s) q H I;omega
theorem ztR(O W:World)(base g n c:Nat)(P A B R:List MP)(h:SortW O base g n c (P++(A++(B++R))) W)(hn:n<=1099511627776)(a m b:Nat)
  (ha:a=P.length) (hm:m=a+A.length) (hb:b=m+B.length) (h1:2<=A.length) (h2:2<=B.length) (hA:Srt mw A) (hB:Srt mw B)
  (ih:∀(W:World) (P A' Y R:List MP) (a m b:Int),SortW O base g n c (P++(A'++(Y++R))) W->a=P.length->m=a+A'.length->b=m+Y.length->0<A'.length->0<Y.length->A'.length+Y.length<A.length+B.length->Srt mw A'->Srt mw Y ->
   Calls Tryz.prog 190 #[.slice (some ⟨g,0,none⟩) n c,.int .i64 a,.int .i64 m,.int .i64 b,.func (.func 185) #[] #[]] W fun e w' =>
    e=.returned (.tuple #[])/\SortW O base g n c (P++(zam mw (A'++Y)++R)) w') :
  Calls Tryz.prog 190 #[.slice (some ⟨g,0,none⟩) n c,.int .i64 a,.int .i64 m,.int .i64 b,.func (.func 185) #[] #[]] W fun e w' =>
   e=.returned (.tuple #[])/\SortW O base g n c (P++(zam mw (A++B)++R)) w':=by
 have S:=h.len;simp only[lla,List.length_cons] at S;have o:=yo h;have b1:b<=n:=by omega
 have b2:a+2<=m:=by omega
 have b3:m+2<=b:=by omega
 have HA:=yo ha;have HM:=yo hm;have HB:=yo hb;have am:=yo ih;have e1:¬((m:Int)-a=1):=by omega
 have a6:(((m:Int)-a)==1)=false:=by simpa using e1
 have e2:¬((b:Int)-m=1):=by omega
 have a7:(((b:Int)-m)==1)=false:=by simpa using e2
 clear h ha hb S hm h1 h2 ih;go_enter Tryz.func190,Tryz.ntmps190;go_upto_if 140 with(fail);have eh:((a:Int)+b) / 2=(((a+b) / 2:Nat):Int):=by omega
 rw[eh];clear eh;have a1:a+b<=(a+b) / 2*2+1:=by omega
 have az:(a+b) / 2*2<=a+b:=by omega
 generalize (a+b) / 2=mid at *;obtain⟨E,F,q0,X,q2,q3,q4,q5,q6⟩:∃E F:Nat,(m > mid->E=mid+m-b/\F=mid)/\(¬m > mid->E=a/\F=m)/\a<=E/\E<=F/\F<=m/\F<=mid/\mid+m<=b+E:=by
  by_cases hq:m > mid
  ·exact⟨mid+m-b,mid,fun _=>⟨rfl,rfl⟩,fun h=>absurd hq h,by omega,by omega,by omega,by omega,by omega⟩
  ·exact⟨a,m,fun h=>absurd h hq,fun _=>⟨rfl,rfl⟩,by omega,by omega,by omega,by omega,by omega⟩
 have q7:(E=a\/mid+m=b+E)/\(F=m\/F=mid):=by
  by_cases hq:m > mid
  ·obtain⟨rfl,rfl⟩:=q0 hq;omega
  ·obtain⟨rfl,rfl⟩:=X hq;omega
 have ae:=yo q0;have al:=yo X;have T:=yo q7;clear q0 X q7;go_cut [20,21] (fun u v wc=>u=.int .i64 E/\v=.int .i64 F/\wc=W)
 case first =>
  by_cases hq:mid<m
  ·obtain⟨z1,z2⟩:=ae.o hq
   have z3:(mid:Int)+m-b=(E:Int):=(by omega);have Z3:=yo z3;have Z2:=yo z2;clear z1 z2 z3;have a3:decide ((mid:Int)<(m:Int))=true:=decide_eq_true (by omega);go_wp2_with fail;go_meet
   case rel=>exact⟨by rw[Z3.o],by rw[Z2.o],rfl⟩
  ·obtain⟨z1,z2⟩:=al.o (by omega)
   have Z1:=yo z1;have Z2:=yo z2;clear z1 z2;have a3:decide ((mid:Int)<(m:Int))=false:=decide_eq_false (by omega);go_wp2_with fail;go_meet
   case rel=>exact⟨by rw[Z1.o],by rw[Z2.o],rfl⟩
 case rest =>
  obtain⟨rfl,rfl,rfl⟩:=hcut;go_wp2_with fail;go_loopw [20,21] (fun vi vj wr=>∃i j:Nat,vi=.int .i64 i/\vj=.int .i64 j/\E<=i/\i<=j/\j<=F/\Hid (∀k,E<=k->k<i->wd (P++(A++(B++R))) k<=wd (P++(A++(B++R))) (mid+m-1-k))/\Hid (∀k,j<=k->k<F->wd (P++(A++(B++R))) (mid+m-1-k)<wd (P++(A++(B++R))) k)/\Hid (SortW O base g n c (P++(A++(B++R))) wr))
   (fun vi vj _=>(intOf vj).toNat-(intOf vi).toNat)
  case atStart=>exact⟨E,F,rfl,rfl,by omega,by omega,by omega,(show ∀k,_ by intro k;omega),(show ∀k,_ by intro k;omega),o⟩
  case round =>
   clear o;obtain⟨i,j,rfl,rfl,ax,aw,a4,H1,H2,o⟩:=hrel;by_cases hlt:i<j
   ·go_wp2_with fail
    have eh:((i:Int)+j) / 2=(((i+j) / 2:Nat):Int):=(by omega);rw[eh];clear eh;have a5:i<=(i+j) / 2:=(by omega);have a8:(i+j) / 2<j:=(by omega);obtain⟨z,hz,cz,aj,ap⟩:=o.o.gt (k:=(i+j) / 2) (by omega);obtain⟨y,hy,cy,an,ai⟩:=o.o.gt (k:=mid+m-1-(i+j) / 2) (by omega);have Z:=yo (fun q=>Calls.quiet_of (n:=q) (w:=wr) (zgg y z (wr.drewN q) an aj));have HE:=yo ap;have HF:=yo ai;clear hz ap hy ai aj an;generalize (i+j) / 2=k at *;have g1:(k:Int).toNat=k:=(by omega);have p3:(k:Int)<n:=(by omega);have g2:((mid:Int)+m-1-k).toNat=mid+m-1-k:=(by omega);have r1:IntKind.i64.wrap ((mid:Int)+m-1-k)=(mid:Int)+m-1-k:=(by rw[IntKind.wrap_i64];omega);have p4:(mid:Int)+m-1-k<n:=(by omega);have p5:(0:Int)<=(mid:Int)+m-1-k:=(by omega);have H:∀k1 N,E<=k1->k1<=N->N<F->wd (P++(A++(B++R))) k1<=wd (P++(A++(B++R))) N/\wd (P++(A++(B++R))) (mid+m-1-N)<=wd (P++(A++(B++R))) (mid+m-1-k1):=by
     intro k1 N x1 x2 x3;have l1:=HA.o;have l2:=HB.o;have l3:=HM.o;have w1:=zcs (P:=P) (M:=A) (R:=B++R) (k:=k1) (t:=k1-a) (by omega) (by omega);have w2:=zcs (P:=P) (M:=A) (R:=B++R) (k:=N) (t:=N-a) (by omega) (by omega);have w3:=zcs (P:=P++A) (M:=B) (R:=R) (k:=mid+m-1-k1) (t:=mid-1-k1) (by simp;omega) (by omega);have w4:=zcs (P:=P++A) (M:=B) (R:=R) (k:=mid+m-1-N) (t:=mid-1-N) (by simp;omega) (by omega);rw[List.append_assoc] at w3 w4;rw[w1,w2,w3,w4];rcases Nat.lt_or_eq_of_le x2 with x2|rfl
     ·exact⟨(List.pairwise_iff_getElem.1 hA) (k1-a) (N-a) (by omega) (by omega) (by omega),(List.pairwise_iff_getElem.1 hB) (mid-1-N) (mid-1-k1) (by omega) (by omega) (by omega)⟩
     ·exact⟨Int.le_refl _,Int.le_refl _⟩
    have au:=yo H;clear H;by_cases hc:y.2.w<z.2.w
    ·have v1:zbP y.2.w z.2.w<0:=(zc6 _ _).2 hc
     have G:wd (P++(A++(B++R))) (mid+m-1-k)<wd (P++(A++(B++R))) k:=(by rw[<-HE.o,<-HF.o];exact hc);generalize zbP y.2.w z.2.w=r at Z v1;have v2:decide (r<0)=true:=decide_eq_true v1;have HC:=yo G;have I:=yo (fun m=>o.o.drewN m);clear hc G o;go_quiet ((go_at_call 185;exact Z.o _));have o:=yo (I.o nq);clear I Z r1 g2;go_wp2_with fail;go_roundw
     case rel=>exact⟨i,k,rfl,rfl,by omega,by omega,by omega,H1,(show ∀q,_ from fun q X q2=>by have:=au.o k q (by omega) X q2;have:=HC.o;omega),o⟩
     case measure=>simp[intOf];omega
    ·have v1:¬zbP y.2.w z.2.w<0:=fun h=>hc ((zc6 _ _).1 h)
     have G:wd (P++(A++(B++R))) k<=wd (P++(A++(B++R))) (mid+m-1-k):=(by rw[<-HE.o,<-HF.o];omega);generalize zbP y.2.w z.2.w=r at Z v1;have v2:decide (r<0)=false:=decide_eq_false v1;have HC:=yo G;have I:=yo (fun m=>o.o.drewN m);clear hc G o;go_quiet ((go_at_call 185;exact Z.o _));have o:=yo (I.o nq);clear I Z r1 g2;go_wp2_with fail;go_roundw
     case rel=>exact⟨k+1,j,by go_num,rfl,by omega,by omega,by omega,(show ∀q,_ from fun q X q2=>by have:=au.o q k X (by omega) (by omega);have:=HC.o;omega),H2,o⟩
     case measure=>simp[intOf];omega
   ·obtain rfl:i=j:=by omega
    clear hlt aw;have e9:=zp8 HA.o HM.o HB.o hA hB q2 ax a4 q4 q5 q6 T.o.1 T.o.2 H1.o H2.o;have a0:=yo e9;have ar:(A.take (i-a)).length=i-a:=(by have:=HM.o;simp;omega);have lU:(A.drop (i-a)).length=m-i:=(by have:=HM.o;simp;omega);have lV:(B.take (mid-i)).length=mid-i:=(by have:=HB.o;simp;omega);have ao:(B.drop (mid-i)).length=b+i-mid-m:=(by have:=HB.o;simp;omega);have sA:Srt mw (A.take (i-a))/\Srt mw (A.drop (i-a)):=by
     have:=hA;rw[<-List.take_append_drop (i-a) A] at this;exact⟨(Srt.append.1 this).1,(Srt.append.1 this).2.1⟩
    have sB:Srt mw (B.take (mid-i))/\Srt mw (B.drop (mid-i)):=by
     have:=hB;rw[<-List.take_append_drop (mid-i) B] at this;exact⟨(Srt.append.1 this).1,(Srt.append.1 this).2.1⟩
    have h7:SortW O base g n c (P++A.take (i-a)++A.drop (i-a)++B.take (mid-i)++(B.drop (mid-i)++R)) wr:=by
     refine o.o.same ?_
     conv=>lhs;rw[<-List.take_append_drop (i-a) A,<-List.take_append_drop (mid-i) B]
     simp only[List.append_assoc]
    clear e9 H1 H2 o;generalize A.take (i-a)=A1 at *;generalize A.drop (i-a)=U at *;generalize B.take (mid-i)=V at *;generalize B.drop (mid-i)=B2 at *;have C:=yo ar;have s:=yo lU;have D:=yo lV;have L:=yo ao;have LP:=yo (show P.length=a from HA.o.symm);have ab:=yo (show A.length+B.length=A1.length+U.length+(V.length+B2.length) by have:=HM.o;have:=HB.o;omega);clear ar lU lV ao;have ac:=yo (fun(h1:i<m) (h2:i<mid)=>zou O wr base g n c (P++A1) U V (B2++R) (.func (.func 185) #[] #[]) (h7.same (by simp)) (by have:=s.o;omega) (by have:=D.o;omega) hn (i:Int) (m:Int) ((mid:Int)+m-i)
     (by have:=LP.o;have:=C.o;simp;omega) (by have:=LP.o;have:=C.o;have:=s.o;simp;omega) (by have:=LP.o;have:=C.o;have:=s.o;have:=D.o;simp;omega))
    have a2:=yo (fun(h:¬(i<m/\i<mid))=>show SortW O base g n c (P++(A1++(V++(U++B2++R)))) wr from h7.same (by
     have l2:=s.o;have l3:=D.o;by_cases hh:i<m
     ·have:V=[]:=List.eq_nil_of_length_eq_zero (by omega)
      subst this;simp
     ·have:U=[]:=List.eq_nil_of_length_eq_zero (by omega)
      subst this;simp))
    have ay:=yo (fun(W':World) (hW:SortW O base g n c (P++(A1++(V++(U++B2++R)))) W') (h1:a<i) (h2:i<mid) =>
     am.o W' P A1 V (U++B2++R) (a:Int) (i:Int) (mid:Int) hW (by have:=LP.o;omega) (by have:=C.o;omega) (by have:=D.o;omega) (by have:=C.o;omega) (by have:=D.o;omega) (by have:=ab.o;have:=s.o;have:=L.o;omega) sA.1 sB.1)
    have af:=yo (fun(h:¬(a<i/\i<mid))=>zgQ sA.1 sB.1 (by
     have l1:=C.o;have l3:=D.o;by_cases hh:a<i
     ·exact .inr (List.eq_nil_of_length_eq_zero (by omega))
     ·exact .inl (List.eq_nil_of_length_eq_zero (by omega))))
    have av:=yo (fun(W':World) (hW:SortW O base g n c ((P++zam mw (A1++V))++(U++(B2++R))) W') (h1:i<m) (h2:(mid:Int)+m-i<b) =>
     am.o W' (P++zam mw (A1++V)) U B2 R (mid:Int) ((mid:Int)+m-i) (b:Int) hW (by
      have:=(zaR (wt:=mw) (A1++V)).2.length;have:=LP.o;have:=C.o;have:=D.o;simp at *;omega) (by have:=s.o;omega) (by have:=L.o;omega) (by have:=s.o;omega) (by have:=L.o;omega) (by have:=ab.o;have:=s.o;have:=L.o;have:=D.o;have:=C.o;omega) sA.2 sB.2)
    have ak:=yo (fun(h:¬(i<m/\(mid:Int)+m-i<b))=>zgQ sA.2 sB.2 (by
     have l1:=s.o;have l3:=L.o;by_cases hh:i<m
     ·exact .inr (List.eq_nil_of_length_eq_zero (by omega))
     ·exact .inl (List.eq_nil_of_length_eq_zero (by omega))))
    clear h7 ae al T hA hB;have x1:((mid:Int)+m-i)<=b:=(by omega);by_cases hU:i<m<;>by_cases hV:i<mid<;>by_cases hA1:a<i<;>by_cases hB2:(mid:Int)+m-i<b<;>(first|(exfalso;omega)|skip)
    all_goals
     (try (have o:=yo (a2.o (by omega))))
     (first|(have t1:(m:Int)<(mid:Int)+m-i:=by omega)|(have t1:¬(m:Int)<(mid:Int)+m-i:=by omega))
     (first|(have t2:(mid:Int)<(mid:Int)+m-i:=by omega)|(have t2:¬(mid:Int)<(mid:Int)+m-i:=by omega))
     go_wp2_with (first
      |(go_at_call 191;(with_reducible refine(ac.o hU hV).mono ?_);go_must (rintro e w1 ⟨rfl,ah⟩;have o:=yo (SortW.same (d':=P++(A1++(V++(U++B2++R)))) ah (by simp only[List.append_assoc]));clear ah))
      |(go_at_call 190;(with_reducible refine(ay.o _ o.o hA1 hV).mono ?_);go_must (rintro e w2 ⟨rfl,aq⟩;have aa:=yo (SortW.same (d':=(P++zam mw (A1++V))++(U++(B2++R))) aq (by simp only[List.append_assoc]));clear aq))
      |(go_at_call 190;(with_reducible refine(av.o _ aa.o hU hB2).mono ?_);go_must (rintro e w3 ⟨rfl,J⟩;have ag:=yo J;clear J))
      |(go_at_call 190;(with_reducible refine(av.o _ (SortW.same o.o (by rw[af.o (by omega)];simp only[List.append_assoc])) hU hB2).mono ?_);go_must (rintro e w3 ⟨rfl,J⟩;have ag:=yo J;clear J)))
     refine bodyPost_end (results_none rfl _ _ _) rfl ?_;refine⟨rfl,?_⟩;rw[a0.o]
     first
      |(refine ag.o.same ?_;simp only[List.append_assoc])
      |(refine aa.o.same ?_;rw[ak.o (by omega)];simp only[List.append_assoc])
      |(refine o.o.same ?_;rw[ak.o (by omega),af.o (by omega)];simp only[List.append_assoc])
theorem znu(o:World)(base g n c:Nat)(q:n<=1099511627776):∀(N:Nat) (W:World) (P A B R:List MP) (a m b:Int),A.length+B.length=N->SortW o base g n c (P++(A++(B++R))) W->a=P.length->m=a+A.length->b=m+B.length->0<A.length->0<B.length->Srt mw A->Srt mw B ->
   Calls Tryz.prog 190 #[.slice (some ⟨g,0,none⟩) n c,.int .i64 a,.int .i64 m,.int .i64 b,.func (.func 185) #[] #[]] W fun e w' =>
    e=.returned (.tuple #[])/\SortW o base g n c (P++(zam mw (A++B)++R)) w':=by
 intro N
 induction N using Nat.strongRecOn with
 |ind N ih =>
  intro W P A B R a m b O h z T S h1 h2 r s;have F:m=((P.length+A.length:Nat):Int):=by omega
  have J:b=((P.length+A.length+B.length:Nat):Int):=by omega
  subst z F J;by_cases c1:A.length=1
  ·obtain⟨x,rfl⟩:=List.length_eq_one_iff.1 c1
   have:=zp6 o W base g n c P x B R h q P.length (P.length+1) (P.length+1+B.length) rfl rfl rfl s
   simpa using this
  ·by_cases c2:B.length=1
   ·obtain⟨x,rfl⟩:=List.length_eq_one_iff.1 c2
    have:=zsa o W base g n c P x A R h q P.length (P.length+A.length) (P.length+A.length+1) rfl rfl rfl c1 r
    simpa using this
   ·exact ztR o W base g n c P A B R h q P.length (P.length+A.length) (P.length+A.length+B.length) rfl rfl rfl (by omega) (by omega) r s
     (fun W G A' t I a m b k1 L H u E D M k8 C=>ih (A'.length+t.length) (by omega) W G A' t I a m b rfl k1 L H u E D k8 C)
end Go.Proofs.YtebbdifhiihfkaaGreatDoor

/- slices.SortStableFunc over rows of members: whole. -/
namespace Go.Proofs.YtebbdifhiihfkaaGreatDoor
set_option linter.all false
set_option maxRecDepth 100000
set_option maxHeartbeats 3200000
open Go.RowKit
theorem zcd(l:List MP):(zam mw l).length=l.length:=(zaR l).2.length
theorem zgh(l:List MP):Srt mw (zam mw l):=(zaR l).1
theorem zj8(a b:List MP):zam mw (zam mw a++zam mw b)=zam mw (a++b) :=
 (SS.eq_stab (SS.feq ((zaR a).2.append (zaR b).2) (zaR _)))
/-- Runs of so many, each sorted. -/
def cs(bs:Nat)(l:List MP):List MP :=
 if h:0<bs/\bs<l.length then zam mw (l.take bs)++cs bs (l.drop bs) else zam mw l
termination_by l.length
decreasing_by simp;omega
theorem zc7{bs:Nat}{l:List MP}(h:l.length<=bs):cs bs l=zam mw l:=by
 rw[cs,dif_neg (by omega)]
theorem zgR{bs:Nat}{U V:List MP}(h0:0<bs)(g:U.length=bs):cs bs (U++V)=zam mw U++cs bs V:=by
 by_cases hV:V=[]
 ·subst hV
  rw[List.append_nil,zc7 (by omega),zc7 (by simp)];simp[zam]
 ·have:0<V.length:=List.length_pos_iff.2 hV
  rw[cs,dif_pos (by simp;omega),<-g,List.take_left,List.drop_left]
theorem zu7{bs:Nat}{U V R:List MP}(h0:0<bs)(o:U.length=bs)(g:V.length=bs):cs (2*bs) (U++(V++R))=zam mw (U++V)++cs (2*bs) R:=by
 rw[<-List.append_assoc];exact zgR (by omega) (by simp;omega)
theorem zov(s W:World)(base g n c:Nat)(d:List MP)(h:SortW s base g n c d W)(Y:n<=1099511627776):
  Calls Tryz.prog 187 #[.slice (some ⟨g,0,none⟩) n c,.int .i64 n,.func (.func 185) #[] #[]] W fun e w' =>
   e=.returned (.tuple #[])/\SortW s base g n c (zam mw d) w':=by
 have X:=yo h.len;have r:=yo h;have u:=yo (fun(W:World) (P S R:List MP) (a b:Int) (h:SortW s base g n c (P++S++R) W) (ha:a=(P.length:Int)) (hb:b=((P.length+S.length:Nat):Int))=>(show Calls Tryz.prog 189 #[.slice (some ⟨g,0,none⟩) n c,.int .i64 a,.int .i64 b,.func (.func 185) #[] #[]] W fun e w'=>e=.returned (.tuple #[])/\SortW s base g n c (P++zam (fun x:MP=>x.2.w) S++R) w' by subst ha hb;exact zk1 s W base g n c P S R h Y _ _ rfl rfl));clear h;go_enter Tryz.func187,Tryz.ntmps187;go_wp2;go_loopw [7,8] (fun B J wr=>∃(a:Nat) (M V:List MP),B=.int .i64 a/\J=.int .i64 ((a:Int)+20)/\a<=n/\Hid (M.length=a)/\Hid (a+V.length=n)/\Hid (M++cs 20 V=cs 20 d)/\Hid (SortW s base g n c (M++V) wr))
  (fun B _ _=>n-(intOf B).toNat)
 case atStart=>exact⟨0,[],d,rfl,rfl,Nat.zero_le _,rfl,(show _=_ by have:=X.o;omega),rfl,r⟩
 case round =>
  clear r;obtain⟨a,M,V,rfl,rfl,Z,z,t,D,r⟩:=hrel;by_cases hlt:(a:Int)+20<=n
  ·have F:20<=V.length:=by have:=t.o;omega
   have C:=yo (u.o wr M (V.take 20) (V.drop 20) (a:Int) ((a:Int)+20) (r.o.same (by simp)) (by rw[z.o]) (by rw[z.o];simp;omega));go_wp2_with (go_at_call 189;(with_reducible refine C.o.mono ?_);go_must (rintro e w1 ⟨rfl,o⟩;have q:=yo o;clear o));go_roundw
   case rel =>
    refine⟨a+20,M++zam mw (V.take 20),V.drop 20,by go_num,by first|go_num|(congr 1;omega),by omega,(show _=_ by rw[lla,zcd,z.o];simp;omega),(show _=_ by have:=t.o;simp;omega),?_,q⟩;show _=_;rw[<-D.o,List.append_assoc,<-zgR (by omega) (by simp;omega),List.take_append_drop]
   case measure=>simp[intOf];omega
  ·have C:=yo (u.o wr M V [] (a:Int) (n:Int) (r.o.same (by simp)) (by rw[z.o]) (by rw[z.o,t.o]))
   have HD:Hid (M++zam mw V++[]=cs 20 d):=(show _=_ by rw[<-D.o,zc7 (by have:=t.o;omega),List.append_nil]);clear D r u z t;go_wp2_with (go_at_call 189;(with_reducible refine C.o.mono ?_);go_must (rintro e w1 ⟨rfl,o⟩;have q:=yo (o.same HD.o);clear o));clear HD C;go_loopw [6,7,8,9] (fun T B J vm wr=>∃(bs:Nat),T=.int .i64 bs/\20<=bs/\bs<=2*n+20/\Hid (SortW s base g n c (cs bs d) wr))
    (fun T _ _ _ _=>n-(intOf T).toNat)
   case atStart=>exact⟨20,rfl,by omega,by omega,q⟩
   case round =>
    clear q;obtain⟨bs,rfl,aa,ab,r⟩:=hrel;by_cases hlt:bs<n
    ·obtain⟨wo,rfl⟩:∃wo:World,wo=wr:=⟨_,rfl⟩
     go_wp2_with fail;go_loopw [7,8] (fun B J wr=>∃(a:Nat) (M V:List MP),B=.int .i64 a/\J=.int .i64 ((a:Int)+2*bs)/\a<=n/\Hid (M.length=a)/\Hid (a+V.length=n)/\Hid (M++cs (2*bs) V=cs (2*bs) d)/\Hid (SortW s base g n c (M++cs bs V) wr))
      (fun B _ _=>n-(intOf B).toNat)
     case atStart=>exact⟨0,[],d,rfl,by first|go_num|(congr 1;omega),Nat.zero_le _,rfl,(show _=_ by have:=X.o;omega),rfl,r⟩
     case round =>
      clear r;obtain⟨a,M,V,rfl,rfl,Z,z,t,D,r⟩:=hrel;by_cases hlt2:(a:Int)+2*bs<=n
      ·have F:2*bs<=V.length:=by have:=t.o;omega
       have E:(V.take bs).length=bs:=(by simp;omega);have U:((V.drop bs).take bs).length=bs:=(by simp;omega);have O:V=V.take bs++((V.drop bs).take bs++(V.drop bs).drop bs):=(by rw[List.take_append_drop,List.take_append_drop]);have I:((V.drop bs).drop bs).length=V.length-2*bs:=(by simp;omega);generalize V.take bs=V1 at *;generalize (V.drop bs).take bs=V2 at *;generalize (V.drop bs).drop bs=V3 at *;subst O;have G:SortW s base g n c (M++(zam mw V1++(zam mw V2++cs bs V3))) wr:=r.o.same (by rw[zgR (by omega) E,zgR (by omega) U]);have C:=yo (znu s base g n c Y _ wr M (zam mw V1) (zam mw V2) (cs bs V3) (a:Int) ((a:Int)+bs) ((a:Int)+2*bs) rfl G (by rw[z.o]) (by rw[zcd];omega) (by rw[zcd];omega) (by rw[zcd];omega) (by rw[zcd];omega) (zgh _) (zgh _));have L1:=yo E;have L2:=yo U;have L3:=yo I;clear G r E U I;go_wp2_with (go_at_call 190;(with_reducible refine C.o.mono ?_);go_must (rintro e w1 ⟨rfl,o⟩;have q:=yo o;clear o));go_roundw
       case rel =>
        refine⟨a+2*bs,M++zam mw (V1++V2),V3,by go_num,by first|go_num|(congr 1;omega),by omega,(show _=_ by rw[lla,zcd,z.o,lla,L1.o,L2.o];omega),(show _=_ by have:=t.o;have:=L1.o;have:=L2.o;simp at *;omega),?_,q.o.same ?_⟩
        ·show _=_
         rw[<-D.o,zu7 (by omega) L1.o L2.o,List.append_assoc]
        ·rw[zj8,List.append_assoc]
       case measure=>simp[intOf];omega
      ·by_cases hlt3:(a:Int)+bs<n
       ·have F:bs<V.length:=by have:=t.o;omega
        have A:V.length<=2*bs:=(by have:=t.o;omega);have E:(V.take bs).length=bs:=(by simp;omega);have O:V=V.take bs++V.drop bs:=(by rw[List.take_append_drop]);have I:(V.drop bs).length=V.length-bs:=(by simp);have H:cs (2*bs) V=zam mw V:=zc7 A;generalize V.take bs=V1 at *;generalize V.drop bs=V2 at *;have N:=t.o;subst O;have G:SortW s base g n c (M++(zam mw V1++(zam mw V2++[]))) wr:=r.o.same (by rw[zgR (by omega) E,zc7 (l:=V2) (by omega),List.append_nil]);have C:=yo (znu s base g n c Y _ wr M (zam mw V1) (zam mw V2) [] (a:Int) ((a:Int)+bs) (n:Int) rfl G (by rw[z.o]) (by rw[zcd];omega) (by rw[zcd];omega) (by rw[zcd];omega) (by rw[zcd];omega) (zgh _) (zgh _));have L:Hid (M++(zam mw (zam mw V1++zam mw V2)++[])=cs (2*bs) d):=(show _=_ by rw[<-D.o,H,zj8,List.append_nil]);clear G r E I H N;go_wp2_with (go_at_call 190;(with_reducible refine C.o.mono ?_);go_must (rintro e w1 ⟨rfl,o⟩;have q:=yo (o.same L.o);clear o));go_roundw
        case rel=>exact⟨2*bs,by first|go_num|(congr 1;omega),by omega,by omega,q⟩
        case measure=>simp[intOf];omega
       ·have A:V.length<=bs:=by have:=t.o;omega
        have L:Hid (M++cs bs V=cs (2*bs) d):=(show _=_ by rw[<-D.o,zc7 A,zc7 (by omega)]);clear A;go_wp2_with fail;go_roundw
        case rel=>exact⟨2*bs,by first|go_num|(congr 1;omega),by omega,by omega,r.o.same L.o⟩
        case measure=>simp[intOf];omega
    ·go_wp2_with fail
     go_end0;exact⟨rfl,r.o.same (by rw[zc7];have:=X.o;omega)⟩
theorem zsc(q W:World)(base g n c:Nat)(d:List MP)(h:SortW q base g n c d W)(s:n<=1099511627776):
  Calls Tryz.prog 184 #[.slice (some ⟨g,0,none⟩) n c,.func (.func 185) #[] #[]] W fun e w' =>
   e=.returned (.tuple #[])/\SortW q base g n c (zam mw d) w':=by
 have r:=yo (zov q W base g n c d h s);clear h;go_enter Tryz.func184,Tryz.ntmps184;go_wp2_with (go_at_call 187;(with_reducible refine r.o.mono ?_);go_must (rintro e w1 ⟨rfl,o⟩));go_end0;exact⟨rfl,o⟩
theorem zk2(f:Value)(W:World):
  Calls Tryz.prog 189 #[.slice none 0 0,.int .i64 0,.int .i64 0,f] W fun e w'=>e=.returned (.tuple #[])/\W=w':=by
 go_enter Tryz.func189,Tryz.ntmps189;go_wp2;refine wp_loop_rounds 1 ?_;rw[rounds_succ];go_wp2;go_end0;exact⟨rfl,rfl⟩
theorem zow(f:Value)(W:World):
  Calls Tryz.prog 187 #[.slice none 0 0,.int .i64 0,f] W fun e w'=>e=.returned (.tuple #[])/\W=w':=by
 go_enter Tryz.func187,Tryz.ntmps187;go_wp2;refine wp_loop_rounds 1 ?_;rw[rounds_succ];go_wp2_with (go_at_call 189;(with_reducible refine(zk2 _ _).mono ?_);go_must (rintro e w1 ⟨rfl,rfl⟩));refine wp_loop_rounds 1 ?_;rw[rounds_succ];go_wp2;go_end0;exact⟨rfl,rfl⟩
theorem zsd(f:Value)(W:World):
  Calls Tryz.prog 184 #[.slice none 0 0,f] W fun e w'=>e=.returned (.tuple #[])/\W=w':=by
 go_enter Tryz.func184,Tryz.ntmps184;go_wp2_with (go_at_call 187;(with_reducible refine(zow _ _).mono ?_);go_must (rintro e w1 ⟨rfl,rfl⟩));go_end0;exact⟨rfl,rfl⟩
end Go.Proofs.YtebbdifhiihfkaaGreatDoor

