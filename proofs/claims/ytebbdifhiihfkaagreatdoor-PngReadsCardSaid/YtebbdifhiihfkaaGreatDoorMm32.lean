/- XPcP XFiltFirst XFiltPure XPdP XPd1 -/
import Derived.Test.YtebbdifhiihfkaaGreatDoorMm06
import Derived.Test.YtebbdifhiihfkaaGreatDoorMm31
import Derived.Test.YtebbdifhiihfkaaGreatDoorMm27
import Derived.Test.YtebbdifhiihfkaaGreatDoorMm28
import Derived.Deep.RegionHeld3
import Derived.BigQuiet
namespace Go.Proofs.YtebbdifhiihfkaaGreatDoor
set_option linter.all false
open Go.RowKit
end Go.Proofs.YtebbdifhiihfkaaGreatDoor

set_option linter.all false
namespace Go.Proofs.YtebbdifhiihfkaaGreatDoor
open Go.RowKit
end Go.Proofs.YtebbdifhiihfkaaGreatDoor

/- What the filters do, as lists. -/
set_option linter.all false
namespace Go.Proofs.YtebbdifhiihfkaaGreatDoor
open Go.RowKit
theorem zrk(g o:Int)(prev row:List UInt8):(zdz g o prev row).length=row.length:=zdR _ _ _ _ _
end Go.Proofs.YtebbdifhiihfkaaGreatDoor

/- png: a picture read, plainly. -/
namespace Go.Proofs.YtebbdifhiihfkaaGreatDoor
set_option linter.all false
open Go.RowKit
/-- What a head says. -/
def chV(c:UInt8):Nat:=if c=0 then 1 else if c=4 then 2 else if c=2 then 3 else if c=6 then 4 else 0
def hdW(hd:List UInt8):Nat:=beV (hd.take 4)
def hdH(hd:List UInt8):Nat:=beV ((hd.drop 4).take 4)
def hdC(hd:List UInt8):Nat:=chV (hd.getD 9 0)
def hdD(hd:List UInt8):Nat:=(hd.getD 8 0).toNat
def zjL(hd:List UInt8):Sh:=⟨(hdW hd:Int),(hdH hd:Int),(hdC hd:Int),(hdD hd:Int)⟩
def zdE(hd:List UInt8):Prop:=hd.getD 10 0≠0\/hd.getD 11 0≠0\/1<(hd.getD 12 0).toNat\/hdC hd=0\/(hdD hd≠8/\hdD hd≠16)\/hdW hd=0\/hdH hd=0
instance (hd:List UInt8):Decidable (zdE hd):=by unfold zdE;infer_instance
def zc1(hd:List UInt8):Int:=if zdE hd then 4 else if(zjL hd).may=true then 0 else 10
def zfK(hd:List UInt8):Bool:=hd.getD 12 0==1
/-- Rows unfiltered: the pixels, the last row. -/
def unK(n:Nat)(rs:List UInt8)(y:Nat):Nat:=(rs.getD (y*(n+1)) 0).toNat
def unR(K n:Nat)(rs prev:List UInt8)(y:Nat):List UInt8:=zdz (unK n rs y:Int) (K:Int) prev ((rs.drop (y*(n+1)+1)).take n)
def unF(K n:Nat)(rs:List UInt8):Nat->Option (List UInt8×List UInt8)
 |0=>some ([],[])
 |y+1=>match unF K n rs y with
  |none=>none
  |some p=>if 4<unK n rs y then none else some (p.1++unR K n rs p.2 y,unR K n rs p.2 y)
theorem zmh{K n:Nat}{rs:List UInt8}{y:Nat}(h:unF K n rs y=none):∀z,y<=z->unF K n rs z=none:=fun z hz=>by
 induction z with
 |zero =>
  obtain rfl:y=0:=by omega
  exact h
 |succ z ih =>
  by_cases e:y=z+1
  ·rw[<-e];exact h
  ·rw[unF,ih (by omega)]
theorem zmi{K n:Nat}{rs:List UInt8}{y:Nat}{p:List UInt8×List UInt8}(h:unF K n rs y=some p)(g:¬4<unK n rs y):unF K n rs (y+1)=some (p.1++unR K n rs p.2 y,unR K n rs p.2 y):=by
 rw[unF,h];show(if _ then _ else _)=_;rw[if_neg g]
theorem zmj{K n:Nat}{rs:List UInt8}{y:Nat}{p:List UInt8×List UInt8}(h:unF K n rs y=some p)(g:4<unK n rs y):unF K n rs (y+1)=none:=by
 rw[unF,h];show(if _ then _ else _)=_;rw[if_pos g]
theorem zjM{K n:Nat}{rs prev:List UInt8}{y:Nat}(h:(y+1)*(n+1)<=rs.length):(unR K n rs prev y).length=n:=by
 rw[Nat.succ_mul] at h;unfold unR;rw[zrk,llt,lld];omega
theorem zfZ{K n:Nat}{rs:List UInt8}:∀ {y:Nat}{p:List UInt8×List UInt8},unF K n rs y=some p->y*(n+1)<=rs.length->p.1.length=y*n/\(p.2.length=0\/p.2.length=n)
 |0,p,h,_=>by
  injection h with h;subst h;exact⟨by simp,.inl rfl⟩
 |y+1,p,h,hl=>by
  rw[unF] at h;cases e:unF K n rs y with
  |none=>rw[e] at h;cases h
  |some q =>
   rw[e] at h;have h:(if 4<unK n rs y then none else some (q.1++unR K n rs q.2 y,unR K n rs q.2 y))=some p:=h;split at h
   ·cases h
   ·injection h with h
    subst h;have h1:=zfZ e (by rw[Nat.succ_mul] at hl;omega);have h2:=zjM (K:=K) (prev:=q.2) hl;exact⟨by show(q.1++_).length=_;rw[lla,h1.1,h2,Nat.succ_mul],.inr h2⟩
end Go.Proofs.YtebbdifhiihfkaaGreatDoor

/- png: how many bytes rows have; rows unfiltered. -/
namespace Go.Proofs.YtebbdifhiihfkaaGreatDoor
set_option linter.all false
set_option maxRecDepth 100000
set_option maxHeartbeats 6400000
open Go.RowKit
theorem zjN(W H C D K:Nat)(w:World)(hs:PS W H C D K)(hz:H*(W*K)<=16384):
  Calls Tryz.prog 30 #[.agg #[.int .i64 (W:Int),.int .i64 (H:Int),.int .i64 (C:Int),.int .i64 (D:Int)]] w fun e w'=>e=.returned (.int .i64 ((H*(W*K+1):Nat):Int))/\Below w.heap.size w w':=by
 have z:=hs.size.1;have R:=hs.h2;have A:=yo (fun w=>zd4 ⟨W,H,C,D⟩ w);rw[z] at A;dsimp only[Sh.v] at A;have he:H*(W*K+1)=H*(W*K)+H:=by rw[Nat.mul_add,Nat.mul_one]
 rw[he];generalize H*(W*K)=q at *;have N:IntKind.i64.wrap ((q:Int)+(H:Int))=((q+H:Nat):Int):=by rw[show(q:Int)+(H:Int)=((q+H:Nat):Int) by omega];exact zaa _ (by omega)
 obtain⟨r,hr⟩:∃r,q+H=r:=⟨_,rfl⟩;rw[hr] at N ⊢;clear hr hs z he;obtain⟨w1,o⟩:∃w1,w.alloc (.cells #[.int .i64 (W:Int),.int .i64 (H:Int),.int .i64 (C:Int),.int .i64 (D:Int)] 37)=w1:=⟨_,rfl⟩;obtain⟨bk,t⟩:∃b,w.heap.size=b:=⟨_,rfl⟩;have u:Hid (Arr w1 bk [.int .i64 (W:Int),.int .i64 (H:Int),.int .i64 (C:Int),.int .i64 (D:Int)]):=(show Arr _ _ _ by rw[<-o,<-t];exact Arr.new w [.int .i64 (W:Int),.int .i64 (H:Int),.int .i64 (C:Int),.int .i64 (D:Int)] _);have G:Hid (Below bk w w1):=(show Below _ _ _ by rw[<-o,<-t];exact(Below.refl w.heap.size w).alloc (nlr _) _);have E:bk<=w1.heap.size:=by rw[<-o,wsa,t];exact Nat.le_succ _
 obtain⟨M,J,L,P⟩:=u.o.c4;go_enter Tryz.func30,Tryz.ntmps30;simp only[o,t];go_upto_region 1 with fail;clear o
 go_region_held3 (fun w'=>w'.cell? ⟨bk,0,none⟩=some (.int .i64 (W:Int))/\w'.cell? ⟨bk,1,none⟩=some (.int .i64 (H:Int))/\w'.cell? ⟨bk,2,none⟩=some (.int .i64 (C:Int))/\w'.cell? ⟨bk,3,none⟩=some (.int .i64 (D:Int)))
  (first|go_keep|(with_reducible exact⟨M,J,L,P⟩)|(with_reducible exact⟨O,c1,c2,c3⟩))
  (first|(go_at_call 42;(with_reducible refine(A.o _).mono ?_);go_must (rintro e I ⟨rfl,g⟩;have s:Below w1.heap.size w1 I:=⟨g.os,g.tape,g.output,g.size,g.block⟩;have F:=yo (u.o.later s);obtain⟨O,c1,c2,c3⟩:=F.o.c4;have B:=yo (G.o.trans (s.mono E));clear g s)))
 all_goals
  go_wp2_with fail;go_ret;exact⟨rfl,B.o⟩
def zrl(W H C D:Nat)(R:Option (List UInt8×List UInt8))(b:Nat)(w:World)(e:Ending)(w':World):Prop :=
 match R with
 |none=>e=.returned (.tuple #[.agg #[.int .i64 0,.int .i64 0,.int .i64 0,.int .i64 0,.slice none 0 0],.int .i64 4])/\Below b w w'
 |some p=>∃v,e=.returned (.tuple #[.agg #[.int .i64 (W:Int),.int .i64 (H:Int),.int .i64 (C:Int),.int .i64 (D:Int),v],.int .i64 0])/\ownB w' b v p.1/\Below b w w'
/-- Bytes beside block T, if there are any. -/
def Pv(w:World)(T:Option Nat)(A:Option Addr)(n:Nat)(bs:List UInt8):Prop :=
 RdB w w.heap.size A n bs/\(0<n->∀b o,A=some ⟨b,o,none⟩->some b≠T)
theorem Pv.grow{w w':World}{T r:Option Nat}{A:Option Addr}{n:Nat}{bs:List UInt8}(h:Pv w T A n bs)(hs:w.heap.size<=w'.heap.size)(B:∀b,b<w.heap.size->some b≠T->w'.heap[b]?=w.heap[b]?)(z:∀b,b<w.heap.size->some b≠T->some b≠r):Pv w' r A n bs:=by
 obtain⟨⟨h1,h2⟩,s⟩:=h;refine⟨⟨h1,fun g=>?_⟩,fun g E G e=>?_⟩
 ·obtain⟨b,o,rfl,hlt,t⟩:=h2 g
  have q:=s g b o rfl;refine⟨b,o,rfl,Nat.lt_of_lt_of_le hlt hs,fun j u C=>?_⟩;rw[World.cell?_of_block (w:=w) (w':=w') (a:=⟨b,o+j,none⟩) (B b hlt q)];exact t j u C
 ·obtain⟨b,o,rfl,hlt,t⟩:=h2 g
  injection e with e;injection e with D F;subst D;exact z b hlt (s g b o rfl)
theorem Pv.gro{w w':World}{T o:Option Nat}{A:Option Addr}{n:Nat}{bs:List UInt8}(h:Pv w T A n bs)(hg:w.grownBy w' T)(ht:o=T\/o=some w.heap.size):Pv w' o A n bs :=
 h.grow hg.size (fun b q g=>hg.block b q g) (fun b q g=>by
  rcases ht with rfl|rfl
  ·exact g
  ·intro e;injection e with e;omega)
theorem Pv.later{w w':World}{T:Option Nat}{A:Option Addr}{n:Nat}{bs:List UInt8}(h:Pv w T A n bs)(g:Below w.heap.size w w'):Pv w' T A n bs :=
 h.grow g.size (fun b hlt _=>g.block b hlt) (fun _ _ h=>h)
theorem Pv.new{w w':World}{T:Option Nat}{A:Option Addr}{c:Nat}{bs:List UInt8}(h:ownB w' w.heap.size (.slice A bs.length c) bs)(r:∀g,T=some g->g<w.heap.size):Pv w' T A bs.length bs :=
 ⟨h.rd,fun t b o e s=>by
  subst e;obtain⟨-,g,q,hg,-⟩:=h.pos t;injection q with q;injection q with u z;have:=r b s.symm;omega⟩
theorem zkI{K g n:Nat}{prev row:List UInt8}(h1:1<=K)(q:K<=8)(o:g<=4)(hr:row.length=n)(hp:prev.length=0\/prev.length=n):zdA (g:Int) (K:Int) prev row=(zdz (g:Int) (K:Int) prev row,0):=by
 unfold zdA;rw[if_pos];unfold zaz;rw[if_neg (by omega),if_neg (by omega)]
theorem zf0(W H C D K n m c B:Nat)(A:Option Addr)(rs:List UInt8)(w:World)(hs:PS W H C D K)(hn:W*K=n)(h:RdB w B A m rs)(hB:B<=w.heap.size)(hm:m=H*(n+1))(aX:m<=c)(br:m<=1000000):
  Calls Tryz.prog 59 #[.slice A m c,.agg #[.int .i64 (W:Int),.int .i64 (H:Int),.int .i64 (C:Int),.int .i64 (D:Int)]] w fun e w'=>zrl W H C D (unF K n rs H) w.heap.size w e w':=by
 have af:=hs.d16;have G:=hs.size.2;have ab:=hs.nums;obtain⟨w1,w2,h1,h2,c1,c2,hd,hK,ak,ah⟩:=hs;rw[hn] at G;have bi:1<=n:=by rw[<-hn];exact Nat.mul_le_mul w1 ak
 have bn:n<=256*8:=by rw[<-hn];exact Nat.mul_le_mul w2 ah
 have T:=h.len;have bp:1*1<=m:=by rw[hm];exact Nat.mul_le_mul h1 (by omega)
 obtain⟨b,o,rfl,hb,-⟩:=h.at_ (by omega);obtain⟨M,s⟩:∃w1,(w.alloc (.cells #[.int .i64 (W:Int),.int .i64 (H:Int),.int .i64 (C:Int),.int .i64 (D:Int)] 37)).alloc (.cells #[.int .i64 0,.int .i64 0,.int .i64 0,.int .i64 0,.slice none 0 0] 39)=w1:=⟨_,rfl⟩;obtain⟨bx,E⟩:∃b,w.heap.size=b:=⟨_,rfl⟩;have Z:Hid (Arr M bx [.int .i64 (W:Int),.int .i64 (H:Int),.int .i64 (C:Int),.int .i64 (D:Int)]):=(show Arr _ _ _ by rw[<-s,<-E];exact(Arr.new w [.int .i64 (W:Int),.int .i64 (H:Int),.int .i64 (C:Int),.int .i64 (D:Int)] _).alloc _);have a8:Hid (Arr M (bx+1) [.int .i64 0,.int .i64 0,.int .i64 0,.int .i64 0,.slice none 0 0]):=(show Arr _ _ _ by
  rw[<-s,<-E];have:=Arr.new (w.alloc (.cells #[.int .i64 (W:Int),.int .i64 (H:Int),.int .i64 (C:Int),.int .i64 (D:Int)] 37)) [.int .i64 0,.int .i64 0,.int .i64 0,.int .i64 0,.slice none 0 0] 39;rw[wsa] at this;exact this)
 have a7:Hid (RdB M B (some ⟨b,o,none⟩) m rs):=(show RdB _ _ _ _ _ by rw[<-s];exact Rd.alloc (Rd.alloc h hB _) (by rw[wsa];omega) _);have av:Hid (Below bx w M):=(show Below _ _ _ by rw[<-s,<-E];exact((Below.refl w.heap.size w).alloc (nlr _) _).alloc (by rw[wsa];omega) _);have aV:bx+2<=M.heap.size:=by rw[<-s,wsa,wsa,E];exact nlr _
 have aw:Hid (Calls Tryz.prog 71 #[.agg #[.int .i64 (W:Int),.int .i64 (H:Int),.int .i64 (C:Int),.int .i64 (D:Int)]] M fun e w'=>e=.returned (.int .i64 (n:Int))/\Below M.heap.size M w'):=(show Calls _ _ _ _ _ by have:=zhB ⟨W,H,C,D⟩ M;rw[G] at this;exact this);have aR:=yo (fun w=>znr (W:Int) (H:Int) C D K c2 af hK w);obtain⟨a0,a1,a2,a3⟩:=Z.o.c4;have HM:=yo hm;have S:=yo T;clear h hK hn G hd w1 w2 c1 hm T ab;rw[E] at hB ⊢;go_enter Tryz.func59,Tryz.ntmps59;(try simp only[s,E]);go_wp2_with (go_at_call 71;(with_reducible refine aw.o.mono ?_);go_must (rintro e w2 ⟨rfl,F⟩;have an:=yo (Z.o.later F);have aO:=yo (a8.o.later F);have aH:=yo (RdB.blw a7.o (F.mono (by omega)));have b1:=an.o.cell (k:=1) rfl;have aS:=F.size;have aB:=yo (av.o.trans (F.mono (by omega)));clear F a0 a1 a2 a3));clear s aw Z a7 av a8;have aT:bx+2<=w2.heap.size:=by omega
 clear aV aS;go_loopw [17,7,8] (fun vk vo vp wr=>∃(k:Nat) (Ap:Option Addr) (np cp:Nat) (p:List UInt8×List UInt8),k<=H/\vk=.int .i64 k/\Hid (unF K n rs k=some p)/\Hid (ownB wr (bx+2) vo p.1)/\vp=.slice Ap np cp/\Hid (Pv wr vo.ownBlock Ap np p.2)/\Hid (Below (bx+2) w2 wr)) (fun vk _ _ _=>H-(intOf vk).toNat)
 case atStart=>exact⟨0,none,0,0,([],[]),Nat.zero_le _,rfl,rfl,ownB.nil_ w2 (bx+2),rfl,⟨Rd.none_,fun h=>absurd h (Nat.lt_irrefl _)⟩,Below.refl _ _⟩
 case round =>
  obtain⟨k,Ap,np,cp,p,hk,rfl,HU,HO,rfl,HP,HB⟩:=hrel;obtain⟨out,prev⟩:=p;have hz:bx+2<=wr.heap.size:=nlt aT HB.o.size;have HA:=yo (an.o.blw HB.o (by omega));have HX:=yo (aO.o.blw HB.o (by omega));have HR:=yo (RdB.blw aH.o (HB.o.mono (by omega)));have ar:=yo (aB.o.trans (HB.o.mono (by omega)));by_cases hlt:k<H
  ·have ag:(k:Int)<(H:Int):=by omega
   obtain⟨q,hq⟩:∃q,k*(n+1)=q:=⟨_,rfl⟩;obtain⟨z,N⟩:∃z,(k+1)*(n+1)=z:=⟨_,rfl⟩;have U:z=q+(n+1):=(by rw[<-N,<-hq,Nat.succ_mul]);have bh:z<=m:=by
    rw[HM.o,<-N];exact Nat.mul_le_mul_right (n+1) (by omega)
   obtain⟨bq,oq,J,aa,-,a9,ek⟩:=HR.o.byte (k:=q) (by omega);injection aa with aa;injection aa with e1 e2;subst e1 e2;have X:Hid (unK n rs k=J.toNat):=(show _=_ by unfold unK;rw[hq,lgd,a9.o];rfl);have az:=yo (zfZ HU.o (by rw[hq,S.o];omega));have aI:Hid (RdB wr B (some ⟨b,o+q+1,none⟩) n ((rs.drop (q+1)).take n)):=(show RdB _ _ _ _ _ from RdB.cut HR.o (k:=q+1) (m:=n) (by omega) (fun _=>by simp[Addr.add]));have bo:IntKind.i64.wrap ((n:Int)+1)=(n:Int)+1:=by rw[show(n:Int)+1=((n+1:Nat):Int) by omega];exact zaa _ (by omega)
   have bd:(k:Int)*((n:Int)+1)=(q:Int):=(by rw[<-hq];push_cast;rfl);have ba:IntKind.i64.wrap (q:Int)=(q:Int):=zaa _ (by omega);have bs:IntKind.i64.wrap ((k:Int)+1)=(k:Int)+1:=by rw[show(k:Int)+1=((k+1:Nat):Int) by omega];exact zaa _ (by omega)
   have bc:((k:Int)+1)*((n:Int)+1)=(z:Int):=(by rw[<-N];push_cast;rfl);have bf:IntKind.i64.wrap (z:Int)=(z:Int):=zaa _ (by omega);have g1:q<=z:=(by omega);have g2:z<=c:=(by omega);have g3:(q:Int)<=(z:Int):=(by omega);have g4:(z:Int)<=(c:Int):=(by omega);have g5:¬c=q:=(by omega);have g6:z-q=n+1:=(by omega);have g7:q<c:=(by omega);have g8:0<z-q:=(by omega);obtain⟨b0,b1,b2,b3⟩:=HA.o.c4;have HQ:=yo hq;have ap:=yo U;clear hq N U;by_cases hk4:4<J.toNat
   ·have al:(4:Int)<(J.toNat:Int):=by omega
    have HN:Hid (unF K n rs H=none):=(show _=_ from zmh (zmj HU.o (by rw[X.o];exact hk4)) H (by omega));obtain⟨z0,z1,z2,z3,z4⟩:=HX.o.c5;obtain⟨f0,f1,f2,f3,f4⟩:=HX.o.q5;go_wp2_with fail;refine bodyPost_ret (v:=.tuple #[.agg #[.int .i64 0,.int .i64 0,.int .i64 0,.int .i64 0,.slice none 0 0],.int .i64 4]) ?_ rfl ?_
    ·unfold results
     go_simp
    ·rw[HN.o]
     exact⟨rfl,((((ar.o.setCell (p:=⟨bx+1,0,none⟩) (Nat.le_succ _) _).setCell (p:=⟨bx+1,1,none⟩) (Nat.le_succ _) _).setCell (p:=⟨bx+1,2,none⟩) (Nat.le_succ _) _).setCell (p:=⟨bx+1,3,none⟩) (Nat.le_succ _) _).setCell (p:=⟨bx+1,4,none⟩) (Nat.le_succ _) _⟩
   ·have al:¬(4:Int)<(J.toNat:Int):=by omega
    obtain⟨x,hx⟩:∃x,unR K n rs prev k=x:=⟨_,rfl⟩;have aJ:Hid (unF K n rs (k+1)=some (out++x,x)):=(show _=_ by rw[<-hx];exact zmi HU.o (by rw[X.o];exact hk4));have P:x.length=n:=(by rw[<-hx];exact zjM (by have h1:(k+1)*(n+1)<=H*(n+1):=Nat.mul_le_mul_right _ (by omega);have h2:=HM.o;have h3:=S.o;omega));have au:zdz (J.toNat:Int) (K:Int) prev ((rs.drop (q+1)).take n)=x:=(by rw[<-hx];unfold unR;rw[X.o,HQ.o]);have aW:Hid (∀t c',RdB t t.heap.size Ap np prev->RdB t B (some ⟨b,o+q+1,none⟩) n ((rs.drop (q+1)).take n)->B<=t.heap.size->Calls Tryz.prog 87 #[.int .i64 (J.toNat:Int),.int .i64 (K:Int),.slice Ap np cp,.slice (some ⟨b,o+q+1,none⟩) n c'] t fun e w'=>∃v,e=.returned (.tuple #[v,.int .i64 0])/\ownB w' t.heap.size v x/\Below t.heap.size t w'):=(show ∀t c',_ from fun t c' h1 h2 h3=>by
     have:=zr2 (J.toNat:Int) (K:Int) t.heap.size np cp B n c' Ap (some ⟨b,o+q+1,none⟩) prev ((rs.drop (q+1)).take n) t h1 h2 (nlr _) h3 (by omega);rw[zkI ak ah (by omega) h2.len (az.o.2),au] at this;exact this)
    have a6:=yo P;have aZ:out.length<=600000:=by
     have h1:out.length=k*n:=az.o.1;have h2:k*n<=256*2048:=Nat.mul_le_mul (by omega) (by omega);omega
    obtain⟨Ao,co,rfl,-,-,-⟩:=HO.o.form;have bl:IntKind.i64.wrap (J.toNat:Int)=(J.toNat:Int):=zaa _ (by omega);have bg:¬c-q=1:=(by have:=ap.o;omega);have bb:(1:Int)<=((n:Int)+1):=(by omega);have bk:1<=n+1:=(by omega);have bj:1<=c-q:=(by omega);have am:∀g,(Value.slice Ao out.length co).ownBlock=some g->g<wr.heap.size:=fun g hg=>(olt HO.o g hg).2
    have aU:=yo am;have ay:B<=wr.heap.size:=(by omega);clear hx au P am a9;go_upto_region 9 with fail;go_cut [11,12] (fun vx ve wx=>∃Ax cx,vx=.slice Ax n cx/\ve=.int .i64 0/\ownB wx wr.heap.size (.slice Ax n cx) x/\Below wr.heap.size wr wx)
    case first =>
     have aY:=yo (Below.refl wr.heap.size wr)
     go_region_held3 (fun w'=>w'.cell? ⟨bx,0,none⟩=some (.int .i64 (W:Int))/\w'.cell? ⟨bx,1,none⟩=some (.int .i64 (H:Int))/\w'.cell? ⟨bx,2,none⟩=some (.int .i64 (C:Int))/\w'.cell? ⟨bx,3,none⟩=some (.int .i64 (D:Int))/\w'.cell? ⟨b,o+q,none⟩=some (.int .u8 (J.toNat:Int)))
      (first|go_keep|(with_reducible exact⟨b0,b1,b2,b3,ek⟩)|(with_reducible exact⟨d0,d1,d2,d3,d4⟩)|(with_reducible exact⟨r0,r1,r2,r3,r4⟩))
      (first
      |(go_at_call 73;(with_reducible refine(aR.o _).mono ?_);go_must (rintro e t ⟨rfl,u⟩;have r:Below wr.heap.size wr t:=⟨u.os,u.tape,u.output,u.size,u.block⟩;have aM:=yo (HA.o.later r);obtain⟨d0,d1,d2,d3⟩:=aM.o.c4;have d4:=zan r (by omega) ek;have Y:=r.size;have ae:=yo (aW.o t (c-q-1) (HP.o.later r).1 (RdB.blw aI.o (r.mono ay)) (nlt ay Y));have aF:=yo r;clear u r))
      |(go_at_call 87;(with_reducible refine ae.o.mono ?_);go_must (rintro e w4 ⟨v4,rfl,ac,ao⟩;obtain⟨A4,c4,ax,-,-,-⟩:=ac.form;rw[a6.o] at ax;subst ax;have aL:=yo (ac.mono Y);have V:=yo (aF.o.trans (ao.mono Y));have aD:=yo (HA.o.later V.o);obtain⟨r0,r1,r2,r3⟩:=aD.o.c4;have r4:=zan V.o (by omega) ek;clear ac ao)))
     all_goals
      go_wp2_with fail;go_meet
      case rel=>exact⟨_,_,rfl,rfl,aL.o,V.o⟩
    case rest =>
    obtain⟨Ax,cx,rfl,rfl,L,O⟩:=hcut;have bm:=yo L;have aK:=yo L.rd;have aQ:=yo (HO.o.later O);have aC:Hid (Pv wc (Value.slice Ao out.length co).ownBlock Ax n x):=(show Pv _ _ _ _ _ by
     have P:=a6.o;subst P;exact Pv.new L aU.o)
    have aN:=yo (HB.o.trans (O.mono hz));have aE:bx+2<=wc.heap.size:=nlt hz O.size;clear L O;go_wp2_with (at_builtin;(refine zat rfl (.tmp 53) (.tmp 54) rfl (bx+2) (.slice Ao out.length co) out rfl aQ.o _ n cx Ax x rfl aK.o (by omega) aE ?_;intro v6 w6 a5 aj a4 R;have aA:=yo a5;have aP:=yo aj;have aG:=yo (aN.o.trans a4);have ai:=yo R;clear a5 aj a4 R));go_roundw
    case rel=>exact⟨k+1,Ax,n,cx,(out++x,x),by omega,by go_num,aJ.o,aA.o,rfl,aC.o.gro aP.o ai.o,aG.o⟩
    case measure=>simp[intOf];omega
  ·obtain rfl:k=H:=by omega
   have ag:¬(k:Int)<(k:Int):=(by omega);obtain⟨Ao,co,rfl,-,-,-⟩:=HO.o.form;obtain⟨b0,b1,b2,b3⟩:=HA.o.c4;obtain⟨z0,z1,z2,z3,z4⟩:=HX.o.c5;obtain⟨f0,f1,f2,f3,f4⟩:=HX.o.q5;have aq:(Value.slice Ao out.length co).ownBlock≠some (bx+1):=zbu HO.o (Nat.lt_succ_self _);have I:=yo aq;clear aq;go_wp2_with fail;refine bodyPost_ret (v:=.tuple #[.agg #[.int .i64 (W:Int),.int .i64 (k:Int),.int .i64 (C:Int),.int .i64 (D:Int),.slice Ao out.length co],.int .i64 0]) ?_ rfl ?_
   ·unfold results
    go_simp
   ·rw[HU.o]
    exact⟨_,rfl,(((((HO.o.far I.o 0 _).far I.o 1 _).far I.o 2 _).far I.o 3 _).far I.o 4 _).mono (by omega),((((ar.o.setCell (p:=⟨bx+1,0,none⟩) (Nat.le_succ _) _).setCell (p:=⟨bx+1,1,none⟩) (Nat.le_succ _) _).setCell (p:=⟨bx+1,2,none⟩) (Nat.le_succ _) _).setCell (p:=⟨bx+1,3,none⟩) (Nat.le_succ _) _).setCell (p:=⟨bx+1,4,none⟩) (Nat.le_succ _) _⟩
end Go.Proofs.YtebbdifhiihfkaaGreatDoor

