/- XQb XQe XQf -/
import Derived.Test.YtebbdifhiihfkaaGreatDoorMm31
import Derived.Test.YtebbdifhiihfkaaGreatDoorMm37
namespace Go.Proofs.YtebbdifhiihfkaaGreatDoor
set_option linter.all false
set_option maxRecDepth 100000
set_option maxHeartbeats 6400000
open Go.RowKit
theorem zpc(W H C D K k M s z z4 g t r:Nat)(sc sd:Int)(A4:Option Addr)(I c4:Nat)(O o:List UInt8)(w:World)
  (hC:C<=4) (hD:D<=16) (hK:C*D=8*K) (br:1<=K) (ap:K<=8) (hW:W<=256) (hH:H<=256) (h1:1<=k) (h7:k<=7) (X:H*(W*K)=r)
  (hM:ownB w z (.slice (some ⟨M,0,none⟩) r s) O) (hS:ownB w z4 (.slice A4 I c4) o) (a7:(Value.slice A4 I c4).ownBlock≠some M) (al:I=g*t*K)
  (aT:g<=256) (aP:t<=256) (hx:∀i,i<g->(gT k).1.1+i*(gT k).2.1<W) (hy:∀j,j<t->(gT k).1.2+j*(gT k).2.2<H) :
  Calls Tryz.prog 60 #[.agg #[.int .i64 (W:Int),.int .i64 (H:Int),.int .i64 (C:Int),.int .i64 (D:Int),.slice (some ⟨M,0,none⟩) r s],.int .i64 (k:Int),.agg #[.int .i64 (g:Int),.int .i64 (t:Int),.int .i64 sc,.int .i64 sd,.slice A4 I c4]] w fun e w'=>(∃v,e=.returned v)/\ownB w' z (.slice (some ⟨M,0,none⟩) r s) (spF W K (gT k).1.1 (gT k).1.2 (gT k).2.1 (gT k).2.2 g o O (g*t))/\w.grownBy w' (some M):=by
 obtain⟨w1,u⟩:∃w1,(w.alloc (.cells #[.int .i64 (W:Int),.int .i64 (H:Int),.int .i64 (C:Int),.int .i64 (D:Int),.slice (some ⟨M,0,none⟩) r s] 39)).alloc (.cells #[.int .i64 (g:Int),.int .i64 (t:Int),.int .i64 sc,.int .i64 sd,.slice A4 I c4] 39)=w1:=⟨_,rfl⟩;obtain⟨b1,E⟩:∃b,w.heap.size=b:=⟨_,rfl⟩;have af:Hid (Arr w1 b1 [.int .i64 (W:Int),.int .i64 (H:Int),.int .i64 (C:Int),.int .i64 (D:Int),.slice (some ⟨M,0,none⟩) r s]):=(show Arr _ _ _ by rw[<-u,<-E];exact(Arr.new w [.int .i64 (W:Int),.int .i64 (H:Int),.int .i64 (C:Int),.int .i64 (D:Int),.slice (some ⟨M,0,none⟩) r s] _).alloc _);have aw:Hid (Arr w1 (b1+1) [.int .i64 (g:Int),.int .i64 (t:Int),.int .i64 sc,.int .i64 sd,.slice A4 I c4]):=(show Arr _ _ _ by
  rw[<-u,<-E];have:=Arr.new (w.alloc (.cells #[.int .i64 (W:Int),.int .i64 (H:Int),.int .i64 (C:Int),.int .i64 (D:Int),.slice (some ⟨M,0,none⟩) r s] 39)) [.int .i64 (g:Int),.int .i64 (t:Int),.int .i64 sc,.int .i64 sd,.slice A4 I c4] 39;rw[wsa] at this;exact this)
 have a9:Hid (Below b1 w w1):=(show Below _ _ _ by rw[<-u,<-E];exact((Below.refl w.heap.size w).alloc (nlr _) _).alloc (by rw[wsa];omega) _);have ar:Hid (ownB w1 z (.slice (some ⟨M,0,none⟩) r s) O):=(show ownB _ _ _ _ by rw[<-u];exact ownB.alloc (ownB.alloc hM _) _);have aF:Hid (ownB w1 z4 (.slice A4 I c4) o):=(show ownB _ _ _ _ by rw[<-u];exact ownB.alloc (ownB.alloc hS _) _);have b3:M<b1:=by rw[<-E];exact(olt hM M rfl).2
 have bJ:w1.heap.size=b1+2:=by rw[<-u,wsa,wsa,E]
 have aB:O.length=r:=by
  obtain⟨A5,c5,N,-,-,-⟩:=hM.form;injection N with _ N _;exact N.symm
 have ax:o.length=I:=by
  obtain⟨A5,c5,N,-,-,-⟩:=hS.form;injection N with _ N _;exact N.symm
 have bt:r<=s:=by
  obtain⟨A5,c5,N,-,h5,-⟩:=hM.form;injection N with _ N e6;omega
 have bC:I<=c4:=by
  obtain⟨A5,c5,N,-,h5,-⟩:=hS.form;injection N with _ N e6;omega
 have Z:=yo (zjS (K:=K) hx hy (aB.trans X.symm) (ax.trans al));have a4:=yo (fun m hm=>zmp (K:=K) (m:=m) hx hy hm);rw[X] at Z a4;have bj:r<=524288:=by
  rw[<-X];have h1:=Nat.mul_le_mul hH (Nat.mul_le_mul hW ap);omega
 have HG:=yo (fun w=>zmg k h1 h7 w);have ba:=yo (fun w=>znr (W:Int) (H:Int) C D K hC hD hK w);have HX:=yo hx;have HY:=yo hy;have bc:=yo a7;have az:=yo al;have aZ:(gT k).1.1<=4/\(gT k).1.2<=4/\(gT k).2.1<=8/\(gT k).2.2<=8:=⟨(zdp k).1,(zdp k).2.1,(zdp k).2.2.2.2.2.1,(zdp k).2.2.2.2.2.2.2⟩;obtain⟨a0,a1,a2,a3⟩:=af.o.c4;have bD:(1:Int)<=(k:Int):=by omega
 have bF:(k:Int)<=7:=by omega
 generalize (gT k).1.1=x at *;generalize (gT k).1.2=y at *;generalize (gT k).2.1=dx at *;generalize (gT k).2.2=dy at *;obtain⟨bK,bz,am,bl⟩:=aZ;clear hx hy a7 al X aB ax;go_enter Tryz.func60,Tryz.ntmps60;go_upto_region 1 with fail;(try simp only[u,E]);clear u;go_wp2_with (first
  |(go_at_call 88;(with_reducible refine(HG.o _).mono ?_);go_must (rintro e w2 ⟨rfl,B⟩;have aj:=yo (af.o.later B);obtain⟨b0,bb,bf,bd⟩:=aj.o.c4;have av:=yo (aw.o.later B);have aD:=yo (ar.o.later B);have ay:=yo (aF.o.later B);have ao:=yo (a9.o.trans (B.mono (by omega)));have bH:=B.size;clear B))
  |(go_at_call 73;(with_reducible refine(ba.o _).mono ?_);go_must (rintro e w3 ⟨rfl,A⟩;have aq:=yo (aj.o.later A);have ak:=yo (av.o.later A);have aL:=yo (aD.o.later A);have aM:=yo (ay.o.later A);have aU:=yo (ao.o.trans (A.mono (by omega)));have b5:=A.size;have c1:=ak.o.cell (k:=1) rfl;clear A)))
 clear a0 a1 a2 a3 af aw ar aF a9 aj av aD ay ao b0 bb bf bd;have aE:b1≠M:=by omega
 have aH:b1+1≠M:=by omega
 have aC:=yo aE;have aG:=yo aH;clear aE aH;go_loopw [27] (fun vj wr=>∃j:Nat,j<=t/\vj=.int .i64 (j:Int)/\Hid (ownB wr z (.slice (some ⟨M,0,none⟩) r s) (spF W K x y dx dy g o O (j*g)))/\Hid (w3.grownBy wr (some M))) (fun vj _=>t-(intOf vj).toNat)
 case atStart=>exact⟨0,Nat.zero_le _,rfl,(show ownB _ _ _ _ by rw[Nat.zero_mul];exact aL.o),zeq _ _⟩
 case round =>
  clear aL;obtain⟨j,hj,rfl,V,U⟩:=hrel;obtain⟨wo,rfl⟩:∃wo:World,wo=wr:=⟨_,rfl⟩;have L:=yo (aq.o.gro U.o aC.o);have G:=yo (ak.o.gro U.o aG.o);have e0:=L.o.cell (k:=0) rfl;have e4:=L.o.cell (k:=4) rfl;have f0:=G.o.cell (k:=0) rfl;have f1:=G.o.cell (k:=1) rfl;have f4:=G.o.cell (k:=4) rfl;by_cases hlt:j<t
  ·have an:(j:Int)<(t:Int):=by omega
   obtain⟨JP,J⟩:∃x,j*g=x:=⟨_,rfl⟩;obtain⟨JD,P⟩:∃x,j*dy=x:=⟨_,rfl⟩;obtain⟨Y,hY⟩:∃x,y+JD=x:=⟨_,rfl⟩;obtain⟨YW,R⟩:∃x,Y*W=x:=⟨_,rfl⟩;have b4:Y<H:=(by have:=HY.o j hlt;rw[P] at this;omega);have bq:JP+g<=g*t:=by
    rw[<-J,Nat.mul_comm g t,<-Nat.succ_mul];exact Nat.mul_le_mul_right _ hlt
   have aO:g*t<=65536:=Nat.mul_le_mul aT aP;have bh:YW<=65536:=(by rw[<-R];exact nlt (Nat.mul_le_mul (show Y<=256 by omega) hW) (by decide));have b8:IntKind.i64.wrap ((j:Int)*(g:Int))=(JP:Int):=(by rw[<-J,<-Int.natCast_mul];exact zaa _ (by rw[J];omega));have b7:IntKind.i64.wrap ((j:Int)*(dy:Int))=(JD:Int):=(by rw[<-P,<-Int.natCast_mul];exact zaa _ (by rw[P];omega));have bs:IntKind.i64.wrap ((y:Int)+(JD:Int))=(Y:Int):=by rw[show(y:Int)+(JD:Int)=(Y:Int) by omega];exact zaa _ (by omega)
   have bw:IntKind.i64.wrap ((Y:Int)*(W:Int))=(YW:Int):=(by rw[<-R,<-Int.natCast_mul];exact zaa _ (by rw[R];omega));rw[J] at V;have aI:=yo J;have aY:=yo P;have aV:=yo hY;have aS:=yo R;clear J P hY R;go_wp2_with fail;go_loopw [33] (fun vi wr=>∃i:Nat,i<=g/\vi=.int .i64 (i:Int)/\Hid (ownB wr z (.slice (some ⟨M,0,none⟩) r s) (spF W K x y dx dy g o O (JP+i)))/\Hid (w3.grownBy wr (some M))) (fun vi _=>g-(intOf vi).toNat)
   case atStart=>exact⟨0,Nat.zero_le _,rfl,V,U⟩
   case round =>
    clear V U L G e0 e4 f0 f1 f4;obtain⟨i,hi,rfl,V,U⟩:=hrel;have L:=yo (aq.o.gro U.o aC.o);have G:=yo (ak.o.gro U.o aG.o);have e0:=L.o.cell (k:=0) rfl;have e4:=L.o.cell (k:=4) rfl;have f0:=G.o.cell (k:=0) rfl;have f4:=G.o.cell (k:=4) rfl;by_cases hli:i<g
    ·have aA:(i:Int)<(g:Int):=by omega
     obtain⟨m,hm⟩:∃x,JP+i=x:=⟨_,rfl⟩;obtain⟨F,hF⟩:∃x,m*K=x:=⟨_,rfl⟩;obtain⟨ID,S⟩:∃x,i*dx=x:=⟨_,rfl⟩;obtain⟨P1,au⟩:∃q,YW+x=q:=⟨_,rfl⟩;obtain⟨P2,a6⟩:∃q,P1+ID=q:=⟨_,rfl⟩;obtain⟨T,hT⟩:∃q,P2*K=q:=⟨_,rfl⟩;have ae:m<g*t:=(by omega);have aa:m / g=j/\m % g=i:=by
      have e:m=i+g*j:=(by rw[<-hm,<-aI.o,Nat.mul_comm g j];omega);rw[e];exact⟨by rw[Nat.add_mul_div_left _ _ (by omega),Nat.div_eq_of_lt hli,Nat.zero_add],by rw[Nat.add_mul_mod_self_left,Nat.mod_eq_of_lt hli]⟩
     have ag:spA W K x y dx dy g m=T:=by
      unfold spA;rw[aa.1,aa.2,aY.o,aV.o,aS.o,au,S,a6,hT]
     have ai:=a4.o m ae;rw[ag] at ai;have a5:ID<=2048:=(by rw[<-S];exact nlt (Nat.mul_le_mul (show i<=256 by omega) am) (by decide));have aJ:F+K<=I:=by
      rw[az.o,<-hF,<-Nat.succ_mul];exact Nat.mul_le_mul_right _ ae
     have aK:I<=524288:=(by rw[az.o];exact Nat.mul_le_mul aO ap);have bv:IntKind.i64.wrap ((JP:Int)+(i:Int))=(m:Int):=by rw[show(JP:Int)+(i:Int)=(m:Int) by omega];exact zaa _ (by omega)
     have b6:IntKind.i64.wrap ((m:Int)*(K:Int))=(F:Int):=(by rw[<-hF,<-Int.natCast_mul];exact zaa _ (by rw[hF];omega));have b2:IntKind.i64.wrap ((i:Int)*(dx:Int))=(ID:Int):=(by rw[<-S,<-Int.natCast_mul];exact zaa _ (by rw[S];omega));have bE:IntKind.i64.wrap ((YW:Int)+(x:Int))=(P1:Int):=by rw[show(YW:Int)+(x:Int)=(P1:Int) by omega];exact zaa _ (by omega)
     have b9:IntKind.i64.wrap ((P1:Int)+(ID:Int))=(P2:Int):=by rw[show(P1:Int)+(ID:Int)=(P2:Int) by omega];exact zaa _ (by omega)
     have bp:IntKind.i64.wrap ((P2:Int)*(K:Int))=(T:Int):=(by rw[<-hT,<-Int.natCast_mul];exact zaa _ (by rw[hT];omega));have bo:IntKind.i64.wrap ((F:Int)+(K:Int))=(F:Int)+(K:Int):=by rw[show(F:Int)+(K:Int)=((F+K:Nat):Int) by omega];exact zaa _ (by omega)
     have ac:Hid (ownB wr z4 (.slice A4 I c4) o):=(show ownB _ _ _ _ from aM.o.kept (v':=.slice (some ⟨M,0,none⟩) r s) U.o (.inr bc.o));obtain⟨-,g4,rfl,-,-⟩:=ac.o.pos (show 0<I by omega);have aW:Hid (RdB wr wr.heap.size (some ⟨g4,F,none⟩) K ((o.drop F).take K)):=(show RdB _ _ _ _ _ from RdB.cut ac.o.rd aJ (fun _=>by simp[Addr.add]));have bu:T<=r:=(by omega);have bG:T<=s:=(by omega);have bm:¬s=T:=(by omega);have bA:F<=F+K:=(by omega);have bI:F+K<=c4:=(by omega);have bg:¬c4=F:=(by omega);have bn:(F:Int)<=(F:Int)+(K:Int):=(by omega);have bk:(F:Int)+(K:Int)<=(c4:Int):=(by omega);have bi:(T:Int)<=(r:Int):=(by omega);have u1:((F:Int)+(K:Int)).toNat-F=K:=(by omega);have u2:((F:Int)+(K:Int)).toNat=F+K:=(by omega);have aR:Hid (K<=r-T):=(show _<=_ by omega);have a8:Hid (T+K<=r):=ai;have ab:Hid (spF W K x y dx dy g o O (m+1)=splice (spF W K x y dx dy g o O m) T ((o.drop F).take K)):=(show _=_ by rw[spF,ag,hF]);rw[hm] at V;have aQ:Hid (r=(spF W K x y dx dy g o O m).length):=(show _=_ from(Z.o m (by omega)).symm);have aX:Hid (JP+(i+1)=m+1):=(show _=_ by omega);have bx:IntKind.i64.wrap ((i:Int)+1)=(i:Int)+1:=by rw[show(i:Int)+1=((i+1:Nat):Int) by omega];exact zaa _ (by omega)
     clear hm hF S au a6 hT ae aa ag ai a5 aJ aK ac;go_upto_region 10 with fail
     go_region_law (refine zji rfl (.tmp 64) (.tmp 71) rfl z M r s _ V.o aQ.o T _ _ rfl wr.heap.size K _ _ _ rfl aW.o aR.o a8.o ?_;intro w4 hz4 hg4)
     all_goals
      have ah:Hid (ownB w4 z (.slice (some ⟨M,0,none⟩) r s) (spF W K x y dx dy g o O (JP+(i+1)))):=(show ownB _ _ _ _ by rw[aX.o,ab.o];exact hz4);have aN:Hid (w3.grownBy w4 (some M)):=(show _ from zd0 U.o (zk6 hg4));clear hz4 hg4;go_wp2_with fail;go_roundw
      case rel=>exact⟨i+1,by omega,by go_num,ah,aN⟩
      case measure=>simp[intOf];omega
    ·obtain rfl:i=g:=by omega
     have aA:¬(i:Int)<(i:Int):=(by omega);have bB:IntKind.i64.wrap ((j:Int)+1)=(j:Int)+1:=by rw[show(j:Int)+1=((j+1:Nat):Int) by omega];exact zaa _ (by omega)
     have ah:Hid (ownB wr z (.slice (some ⟨M,0,none⟩) r s) (spF W K x y dx dy i o O ((j+1)*i))):=(show ownB _ _ _ _ by rw[Nat.succ_mul,aI.o];exact V.o);clear V;go_wp2_with fail;go_roundw
     case rel=>exact⟨j+1,by omega,by go_num,ah,U⟩
     case measure=>simp[intOf];omega
  ·obtain rfl:j=t:=by omega
   have an:¬(j:Int)<(j:Int):=(by omega);go_wp2_with fail;go_end0;refine⟨⟨_,rfl⟩,(show ownB _ _ _ _ by rw[Nat.mul_comm g j];exact V.o),?_⟩;exact zd0 (zhm (aU.o.mono (Nat.le_of_eq E)) _) U.o
end Go.Proofs.YtebbdifhiihfkaaGreatDoor

/- png: the passes of a laced picture, as a reader takes them. -/
namespace Go.Proofs.YtebbdifhiihfkaaGreatDoor
set_option linter.all false
set_option maxRecDepth 100000
set_option maxHeartbeats 6400000
open Go.RowKit
/-- The shape of the pass behind the k-th; none where it is empty. -/
def shO(W H C D k:Nat):Sh:=if zai W H (k+1)=0 then⟨0,0,0,0⟩ else⟨zai W H (k+1),zao W H (k+1),C,D⟩
def lL(W H C D:Nat):Nat->List Sh
 |0=>[]
 |k+1=>lL W H C D k++[shO W H C D k]
theorem zf2(W H C D:Nat):∀k,(lL W H C D k).length=k
 |0=>rfl
 |k+1=>by rw[lL,lla,zf2];rfl
theorem zmw{W H C D:Nat}:∀ {n k:Nat}{s:Sh},(lL W H C D n)[k]?=some s->s=shO W H C D k/\k<n
 |0,k,s,h=>by simp[lL] at h
 |n+1,k,s,h=>by
  by_cases hk:k<n
  ·rw[lL,List.getElem?_append_left (by rw[zf2];exact hk)] at h
   have:=zmw h;exact⟨this.1,by omega⟩
  ·rw[lL,List.getElem?_append_right (by rw[zf2];omega),zf2] at h
   have h0:k-n=0:=by
    refine Decidable.byContradiction fun g=>?_
    rw[List.getElem?_eq_none (by simp;omega)] at h;cases h
   rw[h0] at h;have:k=n:=by omega
   subst this;injection h with h;exact⟨h.symm,by omega⟩
theorem zpd(W H C D K:Nat)(w:World)(hs:PS W H C D K)(hz:H*(W*K)<=16384):
  Calls Tryz.prog 29 #[.agg #[.int .i64 (W:Int),.int .i64 (H:Int),.int .i64 (C:Int),.int .i64 (D:Int)],.bool true] w fun e w'=>∃g cl,e=.returned (.slice (some ⟨g,0,none⟩) 7 cl)/\RdV w' w'.heap.size (some ⟨g,0,none⟩) 7 (lL W H C D 7)/\Below w.heap.size w w':=by
 obtain⟨w1,E⟩:∃w1,w.alloc (.cells #[.int .i64 (W:Int),.int .i64 (H:Int),.int .i64 (C:Int),.int .i64 (D:Int)] 37)=w1:=⟨_,rfl⟩;obtain⟨bk,G⟩:∃b,w.heap.size=b:=⟨_,rfl⟩;have av:Hid (Arr w1 bk [.int .i64 (W:Int),.int .i64 (H:Int),.int .i64 (C:Int),.int .i64 (D:Int)]):=(show Arr _ _ _ by rw[<-E,<-G];exact Arr.new w [.int .i64 (W:Int),.int .i64 (H:Int),.int .i64 (C:Int),.int .i64 (D:Int)] _);have a0:Hid (Below bk w w1):=(show Below _ _ _ by rw[<-E,<-G];exact(Below.refl w.heap.size w).alloc (nlr _) _);have a3:w1.heap.size=bk+1:=by rw[<-E,wsa,G]
 have aq:=yo (fun k sb w h1 h7 au=>zrj W H C D K k sb w hs hz h1 h7 au);have HS:=yo hs;clear hs hz;go_enter Tryz.func29,Tryz.ntmps29;(try simp only[E,G]);go_wp2_with fail;go_loopw [6,5] (fun vk vo wr=>∃(q:Nat),1<=q/\q<=8/\vk=.int .i64 (q:Int)/\Hid (ownV wr (bk+1) vo (lL W H C D (q-1)))/\Hid (Below (bk+1) w1 wr)) (fun vk _ _=>9-(intOf vk).toNat)
 case atStart=>exact⟨1,by omega,by omega,rfl,ownV.nil_ _ _,Below.refl _ _⟩
 case round =>
  clear E;obtain⟨q,aj,a2,rfl,HO,HB⟩:=hrel;have a5:=HB.o.size;have HA:=yo (av.o.blw HB.o (Nat.lt_succ_self bk));obtain⟨k,al⟩:∃k,q-1=k:=⟨_,rfl⟩;have t:Hid (q=k+1):=(show _=_ by omega);rw[al] at HO;clear al;obtain⟨Ao,Z,rfl,ak,ar,-⟩:=HO.o.form;have ap:=yo ak;have ae:=zf2 W H C D k;obtain⟨Fn,I⟩:∃L,(lL W H C D k).length=L:=⟨_,rfl⟩;rw[I] at HO ap ae ar;simp only[I];have az:=yo ae;have a1:=yo I;have an:Hid ((lL W H C D k).length+1<=1099511627776):=(show _<=_ by have h1:=zf2 W H C D k;have h2:=t.o;omega);clear I ak ae;by_cases hlt:q<=7
  ·have ao:(q:Int)<=7:=by omega
   have am:q<=7:=(by omega);have a4:IntKind.i64.wrap ((q:Int)+1)=(q:Int)+1:=by rw[show(q:Int)+1=((q+1:Nat):Int) by omega];exact zaa _ (by omega)
   obtain⟨e0,e1,e2,e3⟩:=HA.o.c4;have ab:=zee W H q HS.o.w2 HS.o.h2;by_cases hpw:zai W H q=0
   ·have ai:=ab.2.2.1 hpw
    have ah:Hid (lL W H C D q=lL W H C D k++[⟨0,0,0,0⟩]):=(show _=_ by rw[t.o,lL];unfold shO;rw[<-t.o,if_pos hpw]);have J:=yo (fun w=>aq.o q false w aj am (by rw[hpw];rfl));rw[hpw,ai] at J;clear hpw ai ab;go_upto_region 10 with(go_at_call 57;(with_reducible refine(J.o _).mono ?_);go_must (rintro e B ⟨rfl,s⟩;have T:=yo (HO.o.later s);have Y:=yo (HB.o.trans (s.mono (by omega)));have aw:=s.size;clear s e0 e1 e2 e3));obtain⟨o,r⟩:∃o,B.alloc (.cells #[.int .i64 0,.int .i64 0,.int .i64 0,.int .i64 0] 37)=o:=⟨_,rfl⟩;have P:Hid (Arr o B.heap.size [.int .i64 0,.int .i64 0,.int .i64 0,.int .i64 0]):=(show Arr _ _ _ by rw[<-r];exact Arr.new B [.int .i64 0,.int .i64 0,.int .i64 0,.int .i64 0] 37);have aa:Hid (Below (bk+1) w1 o):=(show Below _ _ _ by rw[<-r];exact Y.o.trans ((Below.refl (bk+1) B).alloc (by omega) _));have ag:Hid (ownV o (bk+1) (.slice Ao Fn Z) (lL W H C D k)):=(show ownV _ _ _ _ by rw[<-r];exact ownV.alloc T.o _);have A:Hid (o.heap.size=B.heap.size+1):=(show _=_ by rw[<-r];simp);have ax:bk+1<o.heap.size:=(by rw[A.o];omega);obtain⟨e0,e1,e2,e3⟩:=P.o.c4;have X:Hid (RdV (o.alloc (.cells #[.int .i64 0,.int .i64 0,.int .i64 0,.int .i64 0] 37)) (o.heap.size+1) (some ⟨o.heap.size,0,none⟩) 1 [⟨0,0,0,0⟩]):=(show RdV _ _ _ _ _ by have:=zjR o ⟨0,0,0,0⟩ 37 (0,0);exact this);have R:Hid (ownV (o.alloc (.cells #[.int .i64 0,.int .i64 0,.int .i64 0,.int .i64 0] 37)) (bk+1) (.slice Ao Fn Z) (lL W H C D k)):=(show ownV _ _ _ _ from ownV.alloc ag.o _);have ac:=yo ((Below.refl o.heap.size o).alloc (nlr _) (.cells #[.int .i64 0,.int .i64 0,.int .i64 0,.int .i64 0] 37));have S:bk+1<=(o.alloc (.cells #[.int .i64 0,.int .i64 0,.int .i64 0,.int .i64 0] 37)).heap.size:=(by rw[wsa];omega);go_wp2_with (at_builtin;go_must (refine zf1 rfl (.tmp 26) (.tmp 28) rfl (bk+1) (.slice Ao Fn Z) (lL W H C D k) rfl R.o _ 1 1 (some ⟨o.heap.size,0,none⟩) [⟨0,0,0,0⟩] rfl X.o an.o S ?_;intro v7 w7 u V z F;have O:=yo u;have N:=yo (aa.o.trans ((ac.o.mono (show bk+1<=o.heap.size by omega)).trans z));clear u V z F));have af:Hid (ownV w7 (bk+1) v7 (lL W H C D (q+1-1))):=(show ownV _ _ _ _ by rw[Nat.add_sub_cancel,ah.o];exact O.o);have U:Hid (Below (bk+1) w1 w7):=N;go_roundw
    case rel=>exact⟨q+1,by omega,by omega,by go_num,af,U⟩
    case measure=>simp[intOf];omega
   ·have M:1<=zai W H q:=by omega
    have ah:Hid (lL W H C D q=lL W H C D k++[⟨zai W H q,zao W H q,C,D⟩]):=(show _=_ by rw[t.o,lL];unfold shO;rw[<-t.o,if_neg hpw]);have J:=yo (fun w=>aq.o q true w aj am (decide_eq_true M));clear hpw M;generalize zai W H q=pw at *;generalize zao W H q=ph at *;clear ab;go_upto_region 10 with(go_at_call 57;(with_reducible refine(J.o _).mono ?_);go_must (rintro e B ⟨rfl,s⟩;have T:=yo (HO.o.later s);have Y:=yo (HB.o.trans (s.mono (by omega)));have aw:=s.size;clear s e0 e1 e2 e3));obtain⟨o,r⟩:∃o,B.alloc (.cells #[.int .i64 (pw:Int),.int .i64 (ph:Int),.int .i64 (C:Int),.int .i64 (D:Int)] 37)=o:=⟨_,rfl⟩;have P:Hid (Arr o B.heap.size [.int .i64 (pw:Int),.int .i64 (ph:Int),.int .i64 (C:Int),.int .i64 (D:Int)]):=(show Arr _ _ _ by rw[<-r];exact Arr.new B [.int .i64 (pw:Int),.int .i64 (ph:Int),.int .i64 (C:Int),.int .i64 (D:Int)] 37);have aa:Hid (Below (bk+1) w1 o):=(show Below _ _ _ by rw[<-r];exact Y.o.trans ((Below.refl (bk+1) B).alloc (by omega) _));have ag:Hid (ownV o (bk+1) (.slice Ao Fn Z) (lL W H C D k)):=(show ownV _ _ _ _ by rw[<-r];exact ownV.alloc T.o _);have A:Hid (o.heap.size=B.heap.size+1):=(show _=_ by rw[<-r];simp);have ax:bk+1<o.heap.size:=(by rw[A.o];omega);obtain⟨e0,e1,e2,e3⟩:=P.o.c4;have X:Hid (RdV (o.alloc (.cells #[.int .i64 (pw:Int),.int .i64 (ph:Int),.int .i64 (C:Int),.int .i64 (D:Int)] 37)) (o.heap.size+1) (some ⟨o.heap.size,0,none⟩) 1 [⟨pw,ph,C,D⟩]):=(show RdV _ _ _ _ _ by have:=zjR o ⟨pw,ph,C,D⟩ 37 (0,0);exact this);have R:Hid (ownV (o.alloc (.cells #[.int .i64 (pw:Int),.int .i64 (ph:Int),.int .i64 (C:Int),.int .i64 (D:Int)] 37)) (bk+1) (.slice Ao Fn Z) (lL W H C D k)):=(show ownV _ _ _ _ from ownV.alloc ag.o _);have ac:=yo ((Below.refl o.heap.size o).alloc (nlr _) (.cells #[.int .i64 (pw:Int),.int .i64 (ph:Int),.int .i64 (C:Int),.int .i64 (D:Int)] 37));have S:bk+1<=(o.alloc (.cells #[.int .i64 (pw:Int),.int .i64 (ph:Int),.int .i64 (C:Int),.int .i64 (D:Int)] 37)).heap.size:=(by rw[wsa];omega);go_wp2_with (at_builtin;go_must (refine zf1 rfl (.tmp 26) (.tmp 28) rfl (bk+1) (.slice Ao Fn Z) (lL W H C D k) rfl R.o _ 1 1 (some ⟨o.heap.size,0,none⟩) [⟨pw,ph,C,D⟩] rfl X.o an.o S ?_;intro v7 w7 u V z F;have O:=yo u;have N:=yo (aa.o.trans ((ac.o.mono (show bk+1<=o.heap.size by omega)).trans z));clear u V z F));have af:Hid (ownV w7 (bk+1) v7 (lL W H C D (q+1-1))):=(show ownV _ _ _ _ by rw[Nat.add_sub_cancel,ah.o];exact O.o);have U:Hid (Below (bk+1) w1 w7):=N;go_roundw
    case rel=>exact⟨q+1,by omega,by omega,by go_num,af,U⟩
    case measure=>simp[intOf];omega
  ·have ao:¬(q:Int)<=7:=by omega
   obtain rfl:k=7:=by have:=t.o;omega
   obtain rfl:Fn=7:=by have:=az.o;have:=a1.o;omega
   have ay:=yo (a0.o.trans (HB.o.mono (Nat.le_succ bk)));obtain⟨-,g,rfl,-,-⟩:=HO.o.pos (show 0<7 by decide);go_wp2_with fail;go_ret;exact⟨g,⟨Z,rfl⟩,ap.o,ay.o⟩
end Go.Proofs.YtebbdifhiihfkaaGreatDoor

/- png: pictures read, laced or not. -/
namespace Go.Proofs.YtebbdifhiihfkaaGreatDoor
set_option linter.all false
set_option maxRecDepth 100000
open Go.RowKit
theorem ztj(w:World):Calls Tryz.prog 30 #[.agg #[.int .i64 0,.int .i64 0,.int .i64 0,.int .i64 0]] w fun e w'=>e=.returned (.int .i64 0)/\Below w.heap.size w w':=by
 have z:=yo (fun w=>zd4 ⟨0,0,0,0⟩ w);rw[show Sh.size ⟨0,0,0,0⟩=0 by decide] at z;dsimp only[Sh.v] at z;obtain⟨w1,o⟩:∃w1,w.alloc (.cells #[.int .i64 0,.int .i64 0,.int .i64 0,.int .i64 0] 37)=w1:=⟨_,rfl⟩;obtain⟨bk,r⟩:∃b,w.heap.size=b:=⟨_,rfl⟩;have s:Hid (Arr w1 bk [.int .i64 0,.int .i64 0,.int .i64 0,.int .i64 0]):=(show Arr _ _ _ by rw[<-o,<-r];exact Arr.new w [.int .i64 0,.int .i64 0,.int .i64 0,.int .i64 0] _);have B:Hid (Below bk w w1):=(show Below _ _ _ by rw[<-o,<-r];exact(Below.refl w.heap.size w).alloc (nlr _) _);have A:bk<=w1.heap.size:=by rw[<-o,wsa,r];exact Nat.le_succ _
 obtain⟨E,C,G,F⟩:=s.o.c4;go_enter Tryz.func30,Tryz.ntmps30;(try simp only[o,r]);go_upto_region 1 with fail;clear o
 go_region_held3 (fun w'=>w'.cell? ⟨bk,0,none⟩=some (.int .i64 0)/\w'.cell? ⟨bk,1,none⟩=some (.int .i64 0)/\w'.cell? ⟨bk,2,none⟩=some (.int .i64 0)/\w'.cell? ⟨bk,3,none⟩=some (.int .i64 0))
  (first|go_keep|(with_reducible exact⟨E,C,G,F⟩)|(with_reducible exact⟨D,c1,c2,c3⟩))
  (first|(go_at_call 42;(with_reducible refine(z.o _).mono ?_);go_must (rintro e H ⟨rfl,g⟩;have q:Below w1.heap.size w1 H:=⟨g.os,g.tape,g.output,g.size,g.block⟩;have u:=yo (s.o.later q);obtain⟨D,c1,c2,c3⟩:=u.o.c4;have t:=yo (B.o.trans (q.mono A));clear g q)))
 all_goals
  go_wp2_with fail;go_ret;exact⟨rfl,t.o⟩
theorem ztk(A:Option Addr)(c:Nat)(w:World):Calls Tryz.prog 59 #[.slice A 0 c,.agg #[.int .i64 0,.int .i64 0,.int .i64 0,.int .i64 0]] w fun e w'=>UnU ⟨0,0,0,0⟩ [] 0 w.heap.size w e w':=by
 have r:=yo (fun w=>zhB ⟨0,0,0,0⟩ w);rw[show Sh.row ⟨0,0,0,0⟩=0 by decide] at r;dsimp only[Sh.v] at r;obtain⟨u,g⟩:∃w1,(w.alloc (.cells #[.int .i64 0,.int .i64 0,.int .i64 0,.int .i64 0] 37)).alloc (.cells #[.int .i64 0,.int .i64 0,.int .i64 0,.int .i64 0,.slice none 0 0] 39)=w1:=⟨_,rfl⟩;obtain⟨bx,o⟩:∃b,w.heap.size=b:=⟨_,rfl⟩;have s:Hid (Arr u bx [.int .i64 0,.int .i64 0,.int .i64 0,.int .i64 0]):=(show Arr _ _ _ by rw[<-g,<-o];exact(Arr.new w [.int .i64 0,.int .i64 0,.int .i64 0,.int .i64 0] _).alloc _);have C:Hid (Arr u (bx+1) [.int .i64 0,.int .i64 0,.int .i64 0,.int .i64 0,.slice none 0 0]):=(show Arr _ _ _ by
  rw[<-g,<-o];have:=Arr.new (w.alloc (.cells #[.int .i64 0,.int .i64 0,.int .i64 0,.int .i64 0] 37)) [.int .i64 0,.int .i64 0,.int .i64 0,.int .i64 0,.slice none 0 0] 39;rw[wsa] at this;exact this)
 have D:Hid (Below bx w u):=(show Below _ _ _ by rw[<-g,<-o];exact((Below.refl w.heap.size w).alloc (nlr _) _).alloc (by rw[wsa];omega) _);have G:bx+2<=u.heap.size:=by rw[<-g,wsa,wsa,o];exact nlr _
 obtain⟨H,E,F,I⟩:=s.o.c4;rw[o];go_enter Tryz.func59,Tryz.ntmps59;(try simp only[g,o]);go_wp2_with (go_at_call 71;(with_reducible refine(r.o _).mono ?_);go_must (rintro e w2 ⟨rfl,q⟩;have z:=yo (s.o.later q);have t:=yo (C.o.later q);obtain⟨L,N,b2,R⟩:=z.o.c4;obtain⟨P,W,U,S,M⟩:=t.o.c5;obtain⟨T,V,O,X,J⟩:=t.o.q5;have B:=yo (D.o.trans (q.mono (by omega)));clear q H E F I));clear g;refine wp_loop_rounds 1 ?_;rw[rounds_succ];go_wp2_with fail;refine bodyPost_ret (v:=.tuple #[.agg #[.int .i64 0,.int .i64 0,.int .i64 0,.int .i64 0,.slice none 0 0],.int .i64 0]) ?_ rfl ?_
 ·unfold results
  go_simp
 ·exact⟨_,rfl,ownB.nil_ _ _,((((B.o.setCell (p:=⟨bx+1,0,none⟩) (Nat.le_succ _) _).setCell (p:=⟨bx+1,1,none⟩) (Nat.le_succ _) _).setCell (p:=⟨bx+1,2,none⟩) (Nat.le_succ _) _).setCell (p:=⟨bx+1,3,none⟩) (Nat.le_succ _) _).setCell (p:=⟨bx+1,4,none⟩) (Nat.le_succ _) _⟩
/-- What a pass reads as. -/
def nO(W H K k:Nat):Nat:=if zai W H (k+1)=0 then 0 else zao W H (k+1)*(zai W H (k+1)*K+1)
def oO(W H K:Nat):Nat->Nat
 |0=>0
 |k+1=>oO W H K k+nO W H K k
def uO(W H C D K:Nat)(rs:List UInt8)(k:Nat):Sh×List UInt8×Int :=
 if zai W H (k+1)=0 then(⟨0,0,0,0⟩,[],0) else unT (zai W H (k+1)) (zao W H (k+1)) C D (unF K (zai W H (k+1)*K) ((rs.drop (oO W H K k)).take (nO W H K k)) (zao W H (k+1)))
def sO(W H K k:Nat)(src px:List UInt8):List UInt8:=spF W K (gT (k+1)).1.1 (gT (k+1)).1.2 (gT (k+1)).2.1 (gT (k+1)).2.2 (zai W H (k+1)) src px (zai W H (k+1)*zao W H (k+1))
def zhn(W H C D K:Nat)(rs:List UInt8):Sh×List UInt8×Int:=zdM 7 W H C D (uO W H C D K rs) (sO W H K) (List.replicate (H*(W*K)) 0)
theorem zf3(W H K:Nat){a b:Nat}(h:a<=b):oO W H K a<=oO W H K b:=by
 induction b with
 |zero =>
  obtain rfl:a=0:=by omega
  exact nlr _
 |succ b ih =>
  by_cases e:a=b+1
  ·rw[e];exact nlr _
  ·exact nlt (ih (by omega)) (Nat.le_add_right _ _)
theorem zpe{W H K:Nat}(g:W<=256)(o:H<=256):∀k,oO W H K k<=ze2 W H k*K+256*k
 |0=>by show 0<=_;exact Nat.zero_le _
 |k+1=>by
  have ih:=zpe (K:=K) g o k;have hp:=zee W H (k+1) g o;rw[oO,ze2,Nat.add_mul];unfold nO;split
  ·omega
  ·rw[Nat.mul_add,Nat.mul_one,<-Nat.mul_assoc,Nat.mul_comm (zao W H (k+1))]
   omega
theorem zkO(W H C D:Nat)(R:Option (List UInt8×List UInt8)):(unT W H C D R).2.2=0\/(unT W H C D R).2.2=4/\(unT W H C D R).1=⟨0,0,0,0⟩/\(unT W H C D R).2.1=[]:=by
 cases R with
 |none=>exact .inr ⟨rfl,rfl,rfl⟩
 |some p=>exact .inl rfl
theorem zix{W H K:Nat}(hz:H*(W*K)<=16384){k:Nat}(g:k<=7):ze2 W H k*K<=16384:=by
 have h1:=Nat.mul_le_mul_right K (zo3 W H k g);have h2:W*H*K=H*(W*K):=by rw[Nat.mul_comm W H,Nat.mul_assoc]
 omega
theorem zrB{W H C D K n:Nat}(hs:PS W H C D K)(hz:H*(W*K)<=16384):∀k s,(lL W H C D n)[k]?=some s->n<=7->∀w,Calls Tryz.prog 30 #[.agg #[.int .i64 s.w,.int .i64 s.h,.int .i64 s.c,.int .i64 s.d]] w fun e w'=>e=.returned (.int .i64 (nO W H K k:Int))/\Below w.heap.size w w':=by
 intro k s o r w;obtain⟨rfl,q⟩:=zmw o;unfold shO nO;by_cases hp:zai W H (k+1)=0
 ·rw[if_pos hp,if_pos hp]
  exact ztj w
 ·rw[if_neg hp,if_neg hp]
  have g:=zee W H (k+1) hs.w2 hs.h2;exact zjN (zai W H (k+1)) (zao W H (k+1)) C D K w (hs.pass (by omega) g.1 (by have h1:¬zao W H (k+1)=0:=fun e=>hp (g.2.2.2 e);omega) g.2.1) (by
    have h1:=zix hz (show k+1<=7 by omega);rw[ze2,Nat.add_mul] at h1;have h2:zao W H (k+1)*(zai W H (k+1)*K)=zai W H (k+1)*zao W H (k+1)*K:=(by rw[<-Nat.mul_assoc,Nat.mul_comm (zao W H (k+1))]);omega)
theorem ztl(W H C D K m c T g:Nat)(A:Option Addr)(rs:List UInt8)(w:World)(hs:PS W H C D K)(hz:H*(W*K)<=16384)(h:RdB w w.heap.size A m rs)(G:RdV w w.heap.size (some ⟨g,0,none⟩) 7 (lL W H C D 7))(t:m<=c)(S:oO W H K 7<=m)(N:m<=1000000):
  Calls Tryz.prog 33 #[.agg #[.int .i64 (W:Int),.int .i64 (H:Int),.int .i64 (C:Int),.int .i64 (D:Int)],.slice (some ⟨g,0,none⟩) 7 T,.slice A m c] w fun e w'=>UnU (zhn W H C D K rs).1 (zhn W H C D K rs).2.1 (zhn W H C D K rs).2.2 w.heap.size w e w':=by
 refine zmr W H C D (H*(W*K)) 7 m c w.heap.size T A (some ⟨g,0,none⟩) rs (lL W H C D 7) (nO W H K) (oO W H K) (uO W H C D K rs) (sO W H K) w ?_ hz h (nlr _) t N G (by decide) (by decide) rfl (fun k=>rfl) (fun k q=>nlt (zf3 W H K q) S) ?_ ?_ ?_ ?_
 ·intro w
  have:=zd4 ⟨W,H,C,D⟩ w;rw[hs.size.1] at this;exact this
 ·exact fun k s q w=>zrB hs hz k s q (by decide) w
 ·intro k s q w A2 c2 B2 h2 L O
  obtain⟨rfl,X⟩:=zmw q;have J:oO W H K k+nO W H K k<=m:=nlt (zf3 W H K (show k+1<=7 by omega)) S;unfold shO uO;by_cases hp:zai W H (k+1)=0
  ·have hn0:nO W H K k=0:=by unfold nO;rw[if_pos hp]
   rw[if_pos hp,if_pos hp,hn0];exact ztk A2 c2 w
  ·rw[if_neg hp,if_neg hp]
   have o:=zee W H (k+1) hs.w2 hs.h2;exact(zf0 (zai W H (k+1)) (zao W H (k+1)) C D K _ _ c2 B2 A2 _ w (hs.pass (by omega) o.1 (by have h1:¬zao W H (k+1)=0:=fun e=>hp (o.2.2.2 e);omega) o.2.1) rfl h2 L (by unfold nO;rw[if_neg hp]) O (by omega)).mono (fun e w' Z=>zmq Z)
 ·intro k
  unfold uO;split
  ·exact .inl rfl
  ·exact zkO _ _ _ _ _
 ·intro k q _ F w z M V A4 U c4 px Y E P
  have o:=zee W H (k+1) hs.w2 hs.h2;have R:U=(uO W H C D K rs k).2.1.length:=by
   obtain⟨A5,c5,e5,-,-,-⟩:=E.form;injection e5
  have r:=zn2 (W:=W) (H:=H) (k:=k+1);have u:(uO W H C D K rs k).1=⟨zai W H (k+1),zao W H (k+1),(uO W H C D K rs k).1.c,(uO W H C D K rs k).1.d⟩/\(uO W H C D K rs k).2.1.length=zai W H (k+1)*zao W H (k+1)*K:=by
   unfold uO at F ⊢;by_cases hp:zai W H (k+1)=0
   ·rw[if_pos hp,hp,o.2.2.1 hp]
    exact⟨rfl,by simp⟩
   ·rw[if_neg hp] at F ⊢
    cases hR:unF K (zai W H (k+1)*K) ((rs.drop (oO W H K k)).take (nO W H K k)) (zao W H (k+1)) with
    |none=>rw[hR] at F;cases F
    |some p =>
     refine⟨rfl,?_⟩;have B:=h.len;have J:oO W H K k+nO W H K k<=m:=nlt (zf3 W H K (show k+1<=7 by omega)) S;have G:=(zfZ hR (by rw[llt,lld,B,Nat.min_eq_left (by omega)];unfold nO;rw[if_neg hp];exact nlr _)).1;show p.1.length=_;rw[G,Nat.mul_comm,Nat.mul_assoc,Nat.mul_comm K,<-Nat.mul_assoc]
  have I:((k:Int)+1)=((k+1:Nat):Int):=by omega
  rw[I,u.1];exact zpc W H C D K (k+1) M _ z V (zai W H (k+1)) (zao W H (k+1)) (H*(W*K)) _ _ A4 U c4 px _ w hs.c2 hs.d16 hs.k hs.k1 hs.k8 hs.w2 hs.h2 (by omega) (by omega) rfl Y E P (by rw[R,u.2]) o.1 o.2.1 r.1 r.2
def zpf(W H C D K:Nat)(rs:List UInt8):Sh×List UInt8×Int:=zdM 1 W H C D (fun _=>unT W H C D (unF K (W*K) (rs.take (H*(W*K+1))) H)) (fun _ _ _=>[]) (List.replicate (H*(W*K)) 0)
def ztm(N:Nat):Nat->Nat
 |0=>0
 |k+1=>ztm N k+N
theorem zrC(W H C D K m c z g:Nat)(A:Option Addr)(rs:List UInt8)(w:World)(hs:PS W H C D K)(hz:H*(W*K)<=16384)(h:RdB w w.heap.size A m rs)(B:RdV w w.heap.size (some ⟨g,0,none⟩) 1 [⟨W,H,C,D⟩])(q:m<=c)(G:H*(W*K+1)<=m)(t:m<=1000000):
  Calls Tryz.prog 33 #[.agg #[.int .i64 (W:Int),.int .i64 (H:Int),.int .i64 (C:Int),.int .i64 (D:Int)],.slice (some ⟨g,0,none⟩) 1 z,.slice A m c] w fun e w'=>UnU (zpf W H C D K rs).1 (zpf W H C D K rs).2.1 (zpf W H C D K rs).2.2 w.heap.size w e w':=by
 refine zmr W H C D (H*(W*K)) 1 m c w.heap.size z A (some ⟨g,0,none⟩) rs [⟨W,H,C,D⟩] (fun _=>H*(W*K+1)) (ztm (H*(W*K+1))) _ _ w ?_ hz h (nlr _) q t B (by decide) (by decide) rfl (fun k=>rfl) (fun k o=>?_) ?_ ?_ ?_ ?_
 ·intro w
  have:=zd4 ⟨W,H,C,D⟩ w;rw[hs.size.1] at this;exact this
 ·match k,o with
  |0,_=>exact Nat.zero_le _
  |1,_=>show 0+_<=_;omega
 ·intro k s o w
  match k,o with
  |0,o =>
   injection o with o;subst o;exact zjN W H C D K w hs hz
 ·intro k s o w A2 c2 B2 h2 r u
  match k,o with
  |0,o =>
   injection o with o;subst o;exact(zf0 W H C D K _ _ c2 B2 A2 _ w hs rfl h2 r rfl u (by omega)).mono (fun e w' F=>zmq F)
 ·intro k
  exact zkO _ _ _ _ _
 ·intro k _ E
  exact absurd rfl E
end Go.Proofs.YtebbdifhiihfkaaGreatDoor

