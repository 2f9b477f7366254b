/- XPh1 XPh2 XPh3 XPh5 -/
import Derived.Test.YtebbdifhiihfkaaGreatDoorMm31
import Derived.BigQuiet
namespace Go.Proofs.YtebbdifhiihfkaaGreatDoor
set_option linter.all false
set_option maxRecDepth 100000
open Go.RowKit
theorem zux(w:World):Calls Tryz.prog 66 #[.int .i64 1] w fun e w'=>e=.returned (.tuple #[.int .i64 0,.int .i64 0,.int .i64 8,.int .i64 8])/\Below w.heap.size w w':=by
 go_enter Tryz.func66,Tryz.ntmps66;go_wp2_with fail;go_quiet (fail);go_wp2_with fail;(try simp only[Exit.inBlock,Exit.then]);refine bodyPost_ret (zaM rfl _ _ _) rfl ⟨rfl,zag (((((Below.refl w.heap.size w).alloc (nlr _) _).alloc (by simp) _).alloc (by simp;omega) _).alloc (by simp;omega) _) _⟩
theorem zuy(w:World):Calls Tryz.prog 66 #[.int .i64 2] w fun e w'=>e=.returned (.tuple #[.int .i64 4,.int .i64 0,.int .i64 8,.int .i64 8])/\Below w.heap.size w w':=by
 go_enter Tryz.func66,Tryz.ntmps66;go_wp2_with fail;go_quiet (fail);go_wp2_with fail;(try simp only[Exit.inBlock,Exit.then]);refine bodyPost_ret (zaM rfl _ _ _) rfl ⟨rfl,zag (((((Below.refl w.heap.size w).alloc (nlr _) _).alloc (by simp) _).alloc (by simp;omega) _).alloc (by simp;omega) _) _⟩
theorem zuz(w:World):Calls Tryz.prog 66 #[.int .i64 3] w fun e w'=>e=.returned (.tuple #[.int .i64 0,.int .i64 4,.int .i64 4,.int .i64 8])/\Below w.heap.size w w':=by
 go_enter Tryz.func66,Tryz.ntmps66;go_wp2_with fail;go_quiet (fail);go_wp2_with fail;(try simp only[Exit.inBlock,Exit.then]);refine bodyPost_ret (zaM rfl _ _ _) rfl ⟨rfl,zag (((((Below.refl w.heap.size w).alloc (nlr _) _).alloc (by simp) _).alloc (by simp;omega) _).alloc (by simp;omega) _) _⟩
theorem zuA(w:World):Calls Tryz.prog 66 #[.int .i64 4] w fun e w'=>e=.returned (.tuple #[.int .i64 2,.int .i64 0,.int .i64 4,.int .i64 4])/\Below w.heap.size w w':=by
 go_enter Tryz.func66,Tryz.ntmps66;go_wp2_with fail;go_quiet (fail);go_wp2_with fail;(try simp only[Exit.inBlock,Exit.then]);refine bodyPost_ret (zaM rfl _ _ _) rfl ⟨rfl,zag (((((Below.refl w.heap.size w).alloc (nlr _) _).alloc (by simp) _).alloc (by simp;omega) _).alloc (by simp;omega) _) _⟩
theorem zuB(w:World):Calls Tryz.prog 66 #[.int .i64 5] w fun e w'=>e=.returned (.tuple #[.int .i64 0,.int .i64 2,.int .i64 2,.int .i64 4])/\Below w.heap.size w w':=by
 go_enter Tryz.func66,Tryz.ntmps66;go_wp2_with fail;go_quiet (fail);go_wp2_with fail;(try simp only[Exit.inBlock,Exit.then]);refine bodyPost_ret (zaM rfl _ _ _) rfl ⟨rfl,zag (((((Below.refl w.heap.size w).alloc (nlr _) _).alloc (by simp) _).alloc (by simp;omega) _).alloc (by simp;omega) _) _⟩
theorem zuC(w:World):Calls Tryz.prog 66 #[.int .i64 6] w fun e w'=>e=.returned (.tuple #[.int .i64 1,.int .i64 0,.int .i64 2,.int .i64 2])/\Below w.heap.size w w':=by
 go_enter Tryz.func66,Tryz.ntmps66;go_wp2_with fail;go_quiet (fail);go_wp2_with fail;(try simp only[Exit.inBlock,Exit.then]);refine bodyPost_ret (zaM rfl _ _ _) rfl ⟨rfl,zag (((((Below.refl w.heap.size w).alloc (nlr _) _).alloc (by simp) _).alloc (by simp;omega) _).alloc (by simp;omega) _) _⟩
theorem zuD(w:World):Calls Tryz.prog 66 #[.int .i64 7] w fun e w'=>e=.returned (.tuple #[.int .i64 0,.int .i64 1,.int .i64 1,.int .i64 2])/\Below w.heap.size w w':=by
 go_enter Tryz.func66,Tryz.ntmps66;go_wp2_with fail;go_quiet (fail);go_wp2_with fail;(try simp only[Exit.inBlock,Exit.then]);refine bodyPost_ret (zaM rfl _ _ _) rfl ⟨rfl,zag (((((Below.refl w.heap.size w).alloc (nlr _) _).alloc (by simp) _).alloc (by simp;omega) _).alloc (by simp;omega) _) _⟩
theorem zkP(k:Nat)(h1:1<=k)(g:k<=7)(w:World):Calls Tryz.prog 66 #[.int .i64 (k:Int)] w fun e w'=>e=.returned (.tuple #[.int .i64 ((gT k).1.1:Int),.int .i64 ((gT k).1.2:Int),.int .i64 ((gT k).2.1:Int),.int .i64 ((gT k).2.2:Int)])/\Below w.heap.size w w':=by
 rcases(show k=1\/k=2\/k=3\/k=4\/k=5\/k=6\/k=7 by omega) with rfl|rfl|rfl|rfl|rfl|rfl|rfl
 ·exact zux w
 ·exact zuy w
 ·exact zuz w
 ·exact zuA w
 ·exact zuB w
 ·exact zuC w
 ·exact zuD w
end Go.Proofs.YtebbdifhiihfkaaGreatDoor

/- png: the document's Pass. -/
namespace Go.Proofs.YtebbdifhiihfkaaGreatDoor
set_option linter.all false
set_option maxRecDepth 100000
set_option maxHeartbeats 3200000
open Go.RowKit
theorem zvH(s:Sh)(k:Int)(w:World)(h:s.may=false\/(s.may=true/\(k<1\/7<k))):
  Calls Tryz.prog 64 #[.agg #[.int .i64 s.w,.int .i64 s.h,.int .i64 s.c,.int .i64 s.d],.int .i64 k] w fun e w'=>e=.returned (.tuple #[.int .i64 0,.int .i64 0])/\Below w.heap.size w w':=by
 have r:=yo (zgM s (w.alloc (.cells #[.int .i64 s.w,.int .i64 s.h,.int .i64 s.c,.int .i64 s.d] 37)));have r:Hid (Calls Tryz.prog 61 #[.agg #[.int .i64 s.w,.int .i64 s.h,.int .i64 s.c,.int .i64 s.d]] (w.alloc (.cells #[.int .i64 s.w,.int .i64 s.h,.int .i64 s.c,.int .i64 s.d] 37)) fun e w'=>e=.returned (.bool s.may)/\Below (w.alloc (.cells #[.int .i64 s.w,.int .i64 s.h,.int .i64 s.c,.int .i64 s.d] 37)).heap.size (w.alloc (.cells #[.int .i64 s.w,.int .i64 s.h,.int .i64 s.c,.int .i64 s.d] 37)) w'):=r;have q:=yo ((Below.refl w.heap.size w).alloc (nlr _) (.cells #[.int .i64 s.w,.int .i64 s.h,.int .i64 s.c,.int .i64 s.d] 37));have hz:w.heap.size<=(w.alloc (.cells #[.int .i64 s.w,.int .i64 s.h,.int .i64 s.c,.int .i64 s.d] 37)).heap.size:=by simp
 generalize s.may=mm at *;rcases h with rfl | ⟨rfl,h|h⟩
 ·go_enter Tryz.func64,Tryz.ntmps64
  go_wp2_with (go_at_call 61;(with_reducible refine r.o.mono ?_);go_must (rintro e w2 ⟨rfl,g⟩;have o:=yo (q.o.trans (g.mono hz));clear g));go_ret2;exact⟨rfl,o.o⟩
 ·go_enter Tryz.func64,Tryz.ntmps64
  go_wp2_with (go_at_call 61;(with_reducible refine r.o.mono ?_);go_must (rintro e w2 ⟨rfl,g⟩;have o:=yo (q.o.trans (g.mono hz));clear g));go_ret2;exact⟨rfl,o.o⟩
 ·have h1:¬k<1:=by omega
  go_enter Tryz.func64,Tryz.ntmps64;go_wp2_with (go_at_call 61;(with_reducible refine r.o.mono ?_);go_must (rintro e w2 ⟨rfl,g⟩;have o:=yo (q.o.trans (g.mono hz));clear g));go_ret2;exact⟨rfl,o.o⟩
theorem zmx(W H k:Nat)(c d:Int)(w:World)(V:Sh.may ⟨W,H,c,d⟩=true)(hW:1<=W/\W<=256)(hH:1<=H/\H<=256)(h1:1<=k)(h7:k<=7):
  Calls Tryz.prog 64 #[.agg #[.int .i64 (W:Int),.int .i64 (H:Int),.int .i64 c,.int .i64 d],.int .i64 (k:Int)] w fun e w'=>e=.returned (.tuple #[.int .i64 (zai W H k:Int),.int .i64 (zao W H k:Int)])/\Below w.heap.size w w':=by
 obtain⟨w1,u⟩:∃w1,w.alloc (.cells #[.int .i64 (W:Int),.int .i64 (H:Int),.int .i64 c,.int .i64 d] 37)=w1:=⟨_,rfl⟩;obtain⟨bk,B⟩:∃b,w.heap.size=b:=⟨_,rfl⟩;have E:Hid (Arr w1 bk [.int .i64 (W:Int),.int .i64 (H:Int),.int .i64 c,.int .i64 d]):=(show Arr _ _ _ by rw[<-u,<-B];exact Arr.new w [.int .i64 (W:Int),.int .i64 (H:Int),.int .i64 c,.int .i64 d] _);have G:Hid (Below bk w w1):=(show Below _ _ _ by rw[<-u,<-B];exact(Below.refl w.heap.size w).alloc (nlr _) _);have ae:w1.heap.size=bk+1:=by rw[<-u,wsa,B]
 have M:Hid (Calls Tryz.prog 61 #[.agg #[.int .i64 (W:Int),.int .i64 (H:Int),.int .i64 c,.int .i64 d]] w1 fun e w'=>e=.returned (.bool true)/\Below w1.heap.size w1 w'):=(show Calls _ _ _ _ _ by have:=zgM ⟨W,H,c,d⟩ w1;rw[V] at this;exact this);have HG:=yo (fun w=>zkP k h1 h7 w);obtain⟨g1,g2,g3,g4,g5,g6,g7,g8⟩:=zdp k;have s:zai W H k=if W<=(gT k).1.1\/H<=(gT k).1.2 then 0 else cw W (gT k).1.1 (gT k).2.1:=rfl;have t:zao W H k=if W<=(gT k).1.1\/H<=(gT k).1.2 then 0 else cw H (gT k).1.2 (gT k).2.2:=rfl;generalize (gT k).1.1=X at *;generalize (gT k).1.2=Y at *;generalize (gT k).2.1=DX at *;generalize (gT k).2.2=DY at *;generalize zai W H k=PW at *;generalize zao W H k=PH at *;obtain⟨a,R⟩:∃a,W+DX-1-X=a:=⟨_,rfl⟩;obtain⟨b,T⟩:∃b,H+DY-1-Y=b:=⟨_,rfl⟩;obtain⟨q,hq⟩:∃q,a / DX=q:=⟨_,rfl⟩;obtain⟨r,hr⟩:∃r,b / DY=r:=⟨_,rfl⟩;obtain⟨U,ak⟩:∃P:Int,(W:Int)-(X:Int)=P:=⟨_,rfl⟩;obtain⟨P2,ah⟩:∃P:Int,U+(DX:Int)=P:=⟨_,rfl⟩;obtain⟨O,Z⟩:∃P:Int,(H:Int)-(Y:Int)=P:=⟨_,rfl⟩;obtain⟨S,aj⟩:∃P:Int,O+(DY:Int)=P:=⟨_,rfl⟩;have ab:P2-1=(a:Int):=by omega
 have ag:S-1=(b:Int):=by omega
 have g:∀x:Int,-100000<=x->x<=100000->IntKind.i64.wrap x=x:=fun x h1 h2=>by rw[IntKind.wrap_i64];omega
 have v1:=g U (by omega) (by omega);have v2:=g P2 (by omega) (by omega);have v3:=g (a:Int) (by omega) (by omega);have v4:=g O (by omega) (by omega);have v5:=g S (by omega) (by omega);have v6:=g (b:Int) (by omega) (by omega);have af:q<=a:=by rw[<-hq];exact Nat.div_le_self _ _
 have aa:r<=b:=by rw[<-hr];exact Nat.div_le_self _ _
 have v7:=g (q:Int) (by omega) (by omega);have v8:=g (r:Int) (by omega) (by omega);have q1:(a:Int).tdiv (DX:Int)=(q:Int):=by rw[<-hq];rfl
 have q2:(a:Int) / (DX:Int)=(q:Int):=by rw[<-hq];rfl
 have r1:(b:Int).tdiv (DY:Int)=(r:Int):=by rw[<-hr];rfl
 have r2:(b:Int) / (DY:Int)=(r:Int):=by rw[<-hr];rfl
 have z1:¬(DX:Int)=0:=by omega
 have z2:¬(DY:Int)=0:=by omega
 have z3:((DX:Int)==0)=false:=bef z1;have z4:((DY:Int)==0)=false:=bef z2;have k1:¬(k:Int)<1:=by omega
 have k7:¬(7:Int)<(k:Int):=by omega
 have z:¬W<=X->cw W X DX=q:=fun h=>by unfold cw;rw[<-hq,<-R];congr 1;omega
 have D:¬H<=Y->cw H Y DY=r:=fun h=>by unfold cw;rw[<-hr,<-T];congr 1;omega
 clear R T hq hr g V;obtain⟨a0,a1,a2,a3⟩:=E.o.c4;go_enter Tryz.func64,Tryz.ntmps64;simp only[u,B];go_wp2_with (first
  |(go_at_call 61;(with_reducible refine M.o.mono ?_);go_must (rintro e w2 ⟨rfl,C⟩;have I:=yo (E.o.later C);have ac:=C.size;have J:=yo (G.o.trans (C.mono (by omega)));clear C a0 a1 a2 a3))
  |(go_at_call 66;(with_reducible refine(HG.o _).mono ?_);go_must (rintro e w3 ⟨rfl,A⟩;have F:=yo (I.o.later A);have c0:=F.o.cell (k:=0) rfl;have c1:=F.o.cell (k:=1) rfl;have ai:=A.size;have o:=yo (J.o.trans (A.mono (by omega)));clear A)))
 by_cases hx:W<=X
 ·have L:(W:Int)<=(X:Int):=by omega
  rw[if_pos (.inl hx)] at s t;clear z D;go_quiet (fail);go_wp2_with fail;go_ret2
  first|exact⟨rfl,zag o.o _⟩|exact⟨by rw[s,t];rfl,zag o.o _⟩
 ·have L:¬(W:Int)<=(X:Int):=by omega
  by_cases hy:H<=Y
  ·have N:(H:Int)<=(Y:Int):=by omega
   rw[if_pos (.inr hy)] at s t;clear z D;go_quiet (fail);go_wp2_with fail;go_ret2
   first|exact⟨rfl,zag o.o _⟩|exact⟨by rw[s,t];rfl,zag o.o _⟩
  ·have N:¬(H:Int)<=(Y:Int):=by omega
   rw[if_neg (by omega),z hx] at s;rw[if_neg (by omega),D hy] at t;clear z D;go_quiet (fail);go_wp2_with fail;go_ret2
   first|exact⟨rfl,zag o.o _⟩|exact⟨by rw[s,t];rfl,zag o.o _⟩
end Go.Proofs.YtebbdifhiihfkaaGreatDoor

/- png: the document's rows. -/
namespace Go.Proofs.YtebbdifhiihfkaaGreatDoor
set_option linter.all false
open Go.RowKit
end Go.Proofs.YtebbdifhiihfkaaGreatDoor

/- png: the document's pixels, a pass of them. -/
namespace Go.Proofs.YtebbdifhiihfkaaGreatDoor
set_option linter.all false
set_option maxRecDepth 100000
set_option maxHeartbeats 3200000
open Go.RowKit
theorem zpg(W H C D K m c B x y q b o:Nat)(X Y:Int)(bs:List UInt8)(w:World)(S:X=(x:Int))(O:Y=(y:Int))(hs:PS W H C D K)(R:m=H*(W*K))(aa:m<=1000000)(M:m<=c)(hx:x<W)(hy:y<H)(hq:(y*W+x)*K=q):
  Calls Tryz.prog 67 #[.agg #[.int .i64 (W:Int),.int .i64 (H:Int),.int .i64 (C:Int),.int .i64 (D:Int),.slice (some ⟨b,o,none⟩) m c],.int .i64 X,.int .i64 Y] w fun e w'=>e=.returned (.slice (some ⟨b,o+q,none⟩) K (c-q))/\Below w.heap.size w w':=by
 subst S O;have G:=zvC (K:=K) hx hy R;rw[hq] at G;have J:=hs.k8;have N:=hs.k1;have I:=hs.w2;have ac:=hs.h2;have e1:(C:Int)*(D:Int)=((8*K:Nat):Int):=by rw[<-hs.k];push_cast;rfl
 have P:IntKind.i64.wrap ((8*K:Nat):Int)=((8*K:Nat):Int):=zaa _ (by omega);have Z:(((8*K:Nat):Int)).tdiv 8=(K:Int):=by
  show(((8*K / 8:Nat)):Int)=_;rw[Nat.mul_div_cancel_left _ (by decide)]
 have e5:(((8*K:Nat):Int)) / 8=(K:Int):=by omega
 obtain⟨KQ,A⟩:∃Q,8*K=Q:=⟨_,rfl⟩;rw[A] at e1 P Z e5;have e4:IntKind.i64.wrap (K:Int)=(K:Int):=zaa K (by omega);obtain⟨n,E⟩:∃n,W*K=n:=⟨_,rfl⟩;have T:n<=256*8:=by rw[<-E];exact Nat.mul_le_mul I J
 have t:=yo (fun w=>zgb ⟨W,H,C,D⟩ w);rw[hs.size.2,E] at t;obtain⟨u,r⟩:∃a,y*n=a:=⟨_,rfl⟩;obtain⟨z,s⟩:∃a,x*K=a:=⟨_,rfl⟩;have F:u+z=q:=by rw[<-r,<-s,<-E,<-hq,Nat.add_mul,Nat.mul_assoc]
 have f1:(y:Int)*(n:Int)=(u:Int):=zi5 r;have f2:(x:Int)*(K:Int)=(z:Int):=zi5 s;have f3:(u:Int)+(z:Int)=(q:Int):=by omega
 have f4:IntKind.i64.wrap (u:Int)=(u:Int):=zaa u (by omega);have f5:IntKind.i64.wrap (z:Int)=(z:Int):=zaa z (by omega);have f6:IntKind.i64.wrap (q:Int)=(q:Int):=zaa q (by omega);have f7:IntKind.i64.wrap ((q:Int)+(K:Int))=(q:Int)+(K:Int):=by rw[show(q:Int)+(K:Int)=((q+K:Nat):Int) by omega];exact zaa _ (by omega)
 have f8:((q:Int)+(K:Int)).toNat-q=K:=by omega
 have f9:¬c=q:=by omega
 have V:q<c:=by omega
 have ab:(q:Int)<=(q:Int)+(K:Int):=by omega
 have U:(q:Int)+(K:Int)<=(c:Int):=by omega
 dsimp only[Sh.v] at t;clear hs r s E F hq A;go_enter Tryz.func67,Tryz.ntmps67;go_wp2_with (go_at_call 68;(with_reducible refine(t.o _).mono ?_);go_must (rintro e w1 ⟨rfl,g⟩;have c4:=(zuZ g) 4;have c0:=(zuZ g) 0;have L:=yo (bxd g);clear g));go_ret;exact⟨by first|rfl|simp,L.o⟩
end Go.Proofs.YtebbdifhiihfkaaGreatDoor

