/- XQl XQm XQn -/
import Derived.Test.YtebbdifhiihfkaaGreatDoorMm32
import Derived.Test.YtebbdifhiihfkaaGreatDoorMm28
import Derived.Test.YtebbdifhiihfkaaGreatDoorMm30
import Derived.Test.YtebbdifhiihfkaaGreatDoorMm38
import Derived.Test.YtebbdifhiihfkaaGreatDoorMm39
namespace Go.Proofs.YtebbdifhiihfkaaGreatDoor
set_option linter.all false
set_option maxRecDepth 100000
set_option maxHeartbeats 6400000
open Go.RowKit
theorem zrm{g:Nat}{K:Int}{prev row:List UInt8}(h:4<g):(zdA (g:Int) K prev row).2=1:=by
 have e:zaz (g:Int) K prev.length row.length=1:=by unfold zaz;rw[if_pos (.inr (.inl (by omega)))]
 unfold zdA;rw[e,if_neg (by decide)]
def zjO(R:Option (List UInt8×List UInt8)):List UInt8:=match R with
 |none=>[]
 |some p=>p.1
theorem zmk{K n N:Nat}{rs:List UInt8}:∀ {y:Nat},y*(n+1)<=N->unF K n (rs.take N) y=unF K n rs y
 |0,_=>rfl
 |y+1,h=>by
  rw[Nat.succ_mul] at h;have ih:=zmk (K:=K) (rs:=rs) (show y*(n+1)<=N by omega);have g:unK n (rs.take N) y=unK n rs y:=by
   unfold unK;rw[lgd,lgd,List.getElem?_take,if_pos (by omega)]
  have o:∀prev,unR K n (rs.take N) prev y=unR K n rs prev y:=fun prev=>by
   unfold unR;rw[g,List.drop_take,List.take_take,Nat.min_eq_left (by omega)]
  rw[unF,unF,ih,g];cases unF K n rs y with
  |none=>rfl
  |some p =>
   show(if _ then _ else _)=(if _ then _ else _);rw[o]
def zi6(R:Option (List UInt8×List UInt8))(w:World)(e:Ending)(w':World):Prop:=∃v,e=.returned (.tuple #[v,.bool R.isSome])/\ownB w' w.heap.size v (zjO R)/\Below w.heap.size w w'
theorem zi7(W H C D K n m c B:Nat)(A:Option Addr)(rs:List UInt8)(w:World)(hs:PS W H C D K)(hn:W*K=n)(h:RdB w B A m rs)(hB:B<=w.heap.size)(hm:H*(n+1)<=m)(aQ:m<=c)(bf:m<=1000000):
  Calls Tryz.prog 39 #[.agg #[.int .i64 (W:Int),.int .i64 (H:Int),.int .i64 (C:Int),.int .i64 (D:Int)],.slice A m c] w fun e w'=>zi6 (unF K n rs H) w e w':=by
 have J:=hs.size.2;obtain⟨w1,w2,h1,h2,c1,c2,hd,hK,ak,ah⟩:=hs;rw[hn] at J;have e1:(C:Int)*(D:Int)=((8*K:Nat):Int):=by rw[<-hK];push_cast;rfl
 have e2:IntKind.i64.wrap ((8*K:Nat):Int)=((8*K:Nat):Int):=zaa _ (by omega);have e3:(((8*K:Nat):Int)).tdiv 8=(K:Int):=by
  show(((8*K / 8:Nat)):Int)=_;rw[Nat.mul_div_cancel_left _ (by decide)]
 have e5:(((8*K:Nat):Int)) / 8=(K:Int):=by omega
 obtain⟨KQ,ar⟩:∃Q,8*K=Q:=⟨_,rfl⟩;rw[ar] at e1 e2 e3 e5;have e4:IntKind.i64.wrap (K:Int)=(K:Int):=zaa K (by omega);have aY:1<=n:=by rw[<-hn];exact Nat.mul_le_mul w1 ak
 have bb:n<=256*8:=by rw[<-hn];exact Nat.mul_le_mul w2 ah
 have T:=h.len;have bd:1*1<=m:=nlt (Nat.mul_le_mul h1 (show 1<=n+1 by omega)) hm;obtain⟨b,o,rfl,hb,-⟩:=h.at_ (by omega);obtain⟨P,z⟩:∃w1,w.alloc (.cells #[.int .i64 (W:Int),.int .i64 (H:Int),.int .i64 (C:Int),.int .i64 (D:Int)] 37)=w1:=⟨_,rfl⟩;obtain⟨bx,E⟩:∃b,w.heap.size=b:=⟨_,rfl⟩;have ab:Hid (Arr P bx [.int .i64 (W:Int),.int .i64 (H:Int),.int .i64 (C:Int),.int .i64 (D:Int)]):=(show Arr _ _ _ by rw[<-z,<-E];exact Arr.new w [.int .i64 (W:Int),.int .i64 (H:Int),.int .i64 (C:Int),.int .i64 (D:Int)] _);have ay:Hid (RdB P B (some ⟨b,o,none⟩) m rs):=(show RdB _ _ _ _ _ by rw[<-z];exact Rd.alloc h hB _);have ap:Hid (Below bx w P):=(show Below _ _ _ by rw[<-z,<-E];exact(Below.refl w.heap.size w).alloc (nlr _) _);have aP:bx+1<=P.heap.size:=by rw[<-z,wsa,E];exact nlr _
 have aq:Hid (Calls Tryz.prog 68 #[.agg #[.int .i64 (W:Int),.int .i64 (H:Int),.int .i64 (C:Int),.int .i64 (D:Int)]] P fun e w'=>e=.returned (.int .i64 (n:Int))/\Below P.heap.size P w'):=(show Calls _ _ _ _ _ by have:=zgb ⟨W,H,C,D⟩ P;rw[J] at this;exact this);obtain⟨a0,a1,a2,a3⟩:=ab.o.c4;have HM:=yo hm;have S:=yo T;clear h hK hn J hd w1 w2 c1 hm T ar;rw[E] at hB;unfold zi6;rw[E];go_enter Tryz.func39,Tryz.ntmps39;(try simp only[z,E]);go_wp2_with (go_at_call 68;(with_reducible refine aq.o.mono ?_);go_must (rintro e w2 ⟨rfl,G⟩;have am:=yo (ab.o.later G);have aD:=yo (RdB.blw ay.o (G.mono (by omega)));have b1:=am.o.cell (k:=1) rfl;have aM:=G.size;have a5:=yo (ap.o.trans (G.mono (by omega)));clear G a0 a1 a2 a3));clear z aq ab ay ap b1;have aN:bx+1<=w2.heap.size:=by omega
 clear aP aM;go_loopw [9,6,7] (fun vk vo vp wr=>∃(k:Nat) (Ap:Option Addr) (np cp:Nat) (p:List UInt8×List UInt8),k<=H/\vk=.int .i64 k/\Hid (unF K n rs k=some p)/\Hid (ownB wr (bx+1) vo p.1)/\vp=.slice Ap np cp/\Hid (Pv wr vo.ownBlock Ap np p.2)/\Hid (Below (bx+1) w2 wr)) (fun vk _ _ _=>H-(intOf vk).toNat)
 case atStart=>exact⟨0,none,0,0,([],[]),Nat.zero_le _,rfl,rfl,ownB.nil_ w2 (bx+1),rfl,⟨Rd.none_,fun h=>absurd h (Nat.lt_irrefl _)⟩,Below.refl _ _⟩
 case round =>
  obtain⟨k,Ap,np,cp,p,hk,rfl,HU,HO,rfl,HP,HB⟩:=hrel;obtain⟨out,prev⟩:=p;have hz:bx+1<=wr.heap.size:=nlt aN HB.o.size;have HA:=yo (am.o.blw HB.o (by omega));have HR:=yo (RdB.blw aD.o (HB.o.mono (by omega)));have an:=yo (a5.o.trans (HB.o.mono (by omega)));have b1:=HA.o.cell (k:=1) rfl;by_cases hlt:k<H
  ·have ag:(k:Int)<(H:Int):=by omega
   obtain⟨q,hq⟩:∃q,k*(n+1)=q:=⟨_,rfl⟩;have aX:q+(n+1)<=m:=by
    have h3:(k+1)*(n+1)<=H*(n+1):=Nat.mul_le_mul_right (n+1) (by omega);rw[Nat.succ_mul,hq] at h3;have:=HM.o;omega
   obtain⟨bq,oq,I,ac,-,az,ek⟩:=HR.o.byte (k:=q) (by omega);injection ac with ac;injection ac with aC aI;subst aC aI;have Z:Hid (unK n rs k=I.toNat):=(show _=_ by unfold unK;rw[hq,lgd,az.o];rfl);have au:=yo (zfZ HU.o (by rw[hq,S.o];omega));have ae:Hid (RdB wr B (some ⟨b,o+(q+1),none⟩) n ((rs.drop (q+1)).take n)):=(show RdB _ _ _ _ _ from RdB.cut HR.o (k:=q+1) (m:=n) (by omega) (fun _=>by simp[Addr.add]));have bc:IntKind.i64.wrap ((n:Int)+1)=(n:Int)+1:=by rw[show(n:Int)+1=((n+1:Nat):Int) by omega];exact zaa _ (by omega)
   have aV:(k:Int)*((n:Int)+1)=(q:Int):=(by rw[<-hq];push_cast;rfl);have aS:IntKind.i64.wrap (q:Int)=(q:Int):=zaa _ (by omega);have bg:IntKind.i64.wrap ((k:Int)+1)=(k:Int)+1:=by rw[show(k:Int)+1=((k+1:Nat):Int) by omega];exact zaa _ (by omega)
   obtain⟨u,aa⟩:∃x,q+1=x:=⟨_,rfl⟩;obtain⟨U,a8⟩:∃x,u+n=x:=⟨_,rfl⟩;have aU:IntKind.i64.wrap ((q:Int)+1)=(u:Int):=by rw[show(q:Int)+1=(u:Int) by omega];exact zaa _ (by omega)
   have aW:IntKind.i64.wrap ((u:Int)+(n:Int))=(U:Int):=by rw[show(u:Int)+(n:Int)=(U:Int) by omega];exact zaa _ (by omega)
   have aZ:IntKind.i64.wrap (I.toNat:Int)=(I.toNat:Int):=zaa _ (by have:=I.toNat_lt;omega);have g1:u<=U:=(by omega);have g2:U<=c:=(by omega);have g3:(u:Int)<=(U:Int):=(by omega);have g4:(U:Int)<=(c:Int):=(by omega);have g5:¬c=u:=(by omega);have g6:U-u=n:=(by omega);have g7:q<m:=(by omega);have aT:(q:Int)<(m:Int):=(by omega);have b2:=HA.o.cell (k:=2) rfl;have b3:=HA.o.cell (k:=3) rfl;rw[aa] at ae;have HQ:=yo hq;have aA:=yo aa;have aH:B<=wr.heap.size:=(by omega);have t:=yo (zpQ (I.toNat:Int) (K:Int) wr.heap.size np cp B n (c-u) Ap (some ⟨b,o+u,none⟩) prev ((rs.drop u).take n) wr.drew HP.o.1 ae.o (nlr _) aH (by omega));obtain⟨Ao,co,rfl,-,-,-⟩:=HO.o.form;clear hq aa a8 az;by_cases hk4:4<I.toNat
   ·have HN:Hid (unF K n rs H=none):=(show _=_ from zmh (zmj HU.o (by rw[Z.o];exact hk4)) H (by omega))
    have a6:Hid ((zdA (I.toNat:Int) (K:Int) prev ((rs.drop u).take n)).2=1):=(show _=_ from zrm hk4);rw[a6.o] at t;generalize (zdA (I.toNat:Int) (K:Int) prev ((rs.drop u).take n)).1=X at *;go_upto_region 7 with fail
    go_region_held3 (fun w'=>w'.cell? ⟨bx,2,none⟩=some (.int .i64 (C:Int))/\w'.cell? ⟨bx,3,none⟩=some (.int .i64 (D:Int))/\w'.cell? ⟨b,o+q,none⟩=some (.int .u8 (I.toNat:Int)))
     (first|go_keep|(with_reducible exact⟨b2,b3,ek⟩)|(with_reducible exact⟨r2,r3,r4⟩))
     (first
     |(go_at_call 69;(with_reducible refine(t.o).mono ?_);go_must (rintro e w4 ⟨v4,rfl,L,s⟩;have r:Below wr.heap.size wr w4:=⟨s.os,s.tape,s.output,s.size,s.block⟩;have Y:=yo (an.o.trans (r.mono (by omega)));have F:=yo (HA.o.later r);have r2:=F.o.cell (k:=2) rfl;have r3:=F.o.cell (k:=3) rfl;have r4:=zan r (by omega) ek;clear L s r)))
    all_goals
     go_wp2_with fail;go_ret2;rw[HN.o];exact⟨_,rfl,ownB.nil_ _ _,Y.o⟩
   ·obtain⟨x,hx⟩:∃x,unR K n rs prev k=x:=⟨_,rfl⟩
    have aE:Hid (unF K n rs (k+1)=some (out++x,x)):=(show _=_ by rw[<-hx];exact zmi HU.o (by rw[Z.o];exact hk4));have O:x.length=n:=(by rw[<-hx];exact zjM (by have h1:(k+1)*(n+1)<=H*(n+1):=Nat.mul_le_mul_right _ (by omega);have h2:=HM.o;have h3:=S.o;omega));have ao:zdz (I.toNat:Int) (K:Int) prev ((rs.drop u).take n)=x:=(by rw[<-hx];unfold unR;rw[Z.o,HQ.o,aA.o]);have V:=t.o;rw[zkI ak ah (by omega) ae.o.len au.o.2,ao] at V;replace t:=yo V;have ax:=yo O;have aR:out.length<=600000:=by
     have h1:out.length=k*n:=au.o.1;have h2:k*n<=256*2048:=Nat.mul_le_mul (by omega) (by omega);omega
    have al:∀g,(Value.slice Ao out.length co).ownBlock=some g->g<wr.heap.size:=fun g hg=>(olt HO.o g hg).2
    have aO:=yo al;clear hx ao O al V;go_upto_region 7 with fail;go_cut [11,12] (fun vx ve wx=>∃Ax cx,vx=.slice Ax n cx/\ve=.int .i64 0/\ownB wx wr.heap.size (.slice Ax n cx) x/\Below wr.heap.size wr wx)
    case first =>
     go_region_held3 (fun w'=>w'.cell? ⟨bx,2,none⟩=some (.int .i64 (C:Int))/\w'.cell? ⟨bx,3,none⟩=some (.int .i64 (D:Int))/\w'.cell? ⟨b,o+q,none⟩=some (.int .u8 (I.toNat:Int)))
      (first|go_keep|(with_reducible exact⟨b2,b3,ek⟩)|(with_reducible exact⟨r2,r3,r4⟩))
      (first
      |(go_at_call 69;(with_reducible refine(t.o).mono ?_);go_must (rintro e w4 ⟨v4,rfl,L,s⟩;have r:Below wr.heap.size wr w4:=⟨s.os,s.tape,s.output,s.size,s.block⟩;obtain⟨A4,c4,af,-,-,-⟩:=L.form;dsimp only at af;rw[ax.o] at af;subst af;have aG:Hid (ownB w4 wr.heap.size (.slice A4 n c4) x):=L;have Y:=yo r;have F:=yo (HA.o.later r);have r2:=F.o.cell (k:=2) rfl;have r3:=F.o.cell (k:=3) rfl;have r4:=zan r (by omega) ek;clear L s r)))
     all_goals
      go_wp2_with fail;go_meet
      case rel=>exact⟨_,_,rfl,rfl,aG.o,Y.o⟩
    case rest =>
    obtain⟨Ax,cx,rfl,rfl,M,N⟩:=hcut;have ba:=yo M;have aF:=yo M.rd;have aL:=yo (HO.o.later N);have a7:Hid (Pv wc (Value.slice Ao out.length co).ownBlock Ax n x):=(show Pv _ _ _ _ _ by
     have O:=ax.o;subst O;exact Pv.new M aO.o)
    have aJ:=yo (HB.o.trans (N.mono hz));have a9:bx+1<=wc.heap.size:=nlt hz N.size;clear M N;go_wp2_with (at_builtin;(refine zat rfl (.tmp 51) (.tmp 52) rfl (bx+1) (.slice Ao out.length co) out rfl aL.o _ n cx Ax x rfl aF.o (by omega) a9 ?_;intro v6 w6 aw aj av R;have a4:=yo aw;have aK:=yo aj;have aB:=yo (aJ.o.trans av);have ai:=yo R;clear aw aj av R));go_roundw
    case rel=>exact⟨k+1,Ax,n,cx,(out++x,x),by omega,by go_num,aE.o,a4.o,rfl,a7.o.gro aK.o ai.o,aB.o⟩
    case measure=>simp[intOf];omega
  ·obtain rfl:k=H:=by omega
   have ag:¬(k:Int)<(k:Int):=(by omega);obtain⟨Ao,co,rfl,-,-,-⟩:=HO.o.form;go_wp2_with fail;go_ret2;rw[HU.o];exact⟨_,rfl,HO.o.mono (Nat.le_succ bx),an.o⟩
end Go.Proofs.YtebbdifhiihfkaaGreatDoor

/- png: how many bytes come out, for the document. -/
namespace Go.Proofs.YtebbdifhiihfkaaGreatDoor
set_option linter.all false
set_option maxRecDepth 100000
set_option maxHeartbeats 6400000
open Go.RowKit
theorem zgx(W H C D K:Nat)(w:World)(hs:PS W H C D K):
  Calls Tryz.prog 63 #[.agg #[.int .i64 (W:Int),.int .i64 (H:Int),.int .i64 (C:Int),.int .i64 (D:Int)]] w fun e w'=>e=.returned (.int .i64 ((H*(W*K+1):Nat):Int))/\Below w.heap.size w w':=by
 obtain⟨n,u⟩:∃n,W*K=n:=⟨_,rfl⟩;have G:n<=256*8:=by rw[<-u];exact Nat.mul_le_mul hs.w2 hs.k8
 have S:=hs.h2;have z:=yo (fun w=>zgb ⟨W,H,C,D⟩ w);rw[hs.size.2,u] at z;dsimp only[Sh.v] at z;rw[u];obtain⟨r,hr⟩:∃r,H*(n+1)=r:=⟨_,rfl⟩;have I:r<=256*2049:=by rw[<-hr];exact Nat.mul_le_mul S (by omega)
 have M:IntKind.i64.wrap ((n:Int)+1)=(n:Int)+1:=by rw[show(n:Int)+1=((n+1:Nat):Int) by omega];exact zaa _ (by omega)
 have N:(H:Int)*((n:Int)+1)=(r:Int):=by rw[<-hr];push_cast;rfl
 have P:IntKind.i64.wrap (r:Int)=(r:Int):=zaa _ (by omega);rw[hr];clear hr hs u;obtain⟨w1,g⟩:∃w1,w.alloc (.cells #[.int .i64 (W:Int),.int .i64 (H:Int),.int .i64 (C:Int),.int .i64 (D:Int)] 37)=w1:=⟨_,rfl⟩;obtain⟨bk,s⟩:∃b,w.heap.size=b:=⟨_,rfl⟩;have t:Hid (Arr w1 bk [.int .i64 (W:Int),.int .i64 (H:Int),.int .i64 (C:Int),.int .i64 (D:Int)]):=(show Arr _ _ _ by rw[<-g,<-s];exact Arr.new w [.int .i64 (W:Int),.int .i64 (H:Int),.int .i64 (C:Int),.int .i64 (D:Int)] _);have F:Hid (Below bk w w1):=(show Below _ _ _ by rw[<-g,<-s];exact(Below.refl w.heap.size w).alloc (nlr _) _);have B:bk<=w1.heap.size:=by rw[<-g,wsa,s];exact Nat.le_succ _
 obtain⟨R,L,O,U⟩:=t.o.c4;go_enter Tryz.func63,Tryz.ntmps63;(try simp only[g,s]);go_upto_region 1 with fail;clear g
 go_region_held3 (fun w'=>w'.cell? ⟨bk,0,none⟩=some (.int .i64 (W:Int))/\w'.cell? ⟨bk,1,none⟩=some (.int .i64 (H:Int))/\w'.cell? ⟨bk,2,none⟩=some (.int .i64 (C:Int))/\w'.cell? ⟨bk,3,none⟩=some (.int .i64 (D:Int)))
  (first|go_keep|(with_reducible exact⟨R,L,O,U⟩)|(with_reducible exact⟨T,c1,c2,c3⟩))
  (first|(go_at_call 68;(with_reducible refine(z.o _).mono ?_);go_must (rintro e J ⟨rfl,o⟩;have q:Below w1.heap.size w1 J:=⟨o.os,o.tape,o.output,o.size,o.block⟩;have E:=yo (t.o.later q);obtain⟨T,c1,c2,c3⟩:=E.o.c4;have A:=yo (F.o.trans (q.mono B));clear o q)))
 all_goals
  go_wp2_with fail;go_ret;exact⟨rfl,A.o⟩
theorem zmy(W H C D K:Nat)(w:World)(hs:PS W H C D K):
  Calls Tryz.prog 37 #[.agg #[.int .i64 (W:Int),.int .i64 (H:Int),.int .i64 (C:Int),.int .i64 (D:Int)],.bool false] w fun e w'=>e=.returned (.int .i64 ((H*(W*K+1):Nat):Int))/\Below w.heap.size w w':=by
 have q:=yo (fun w=>zgx W H C D K w hs);clear hs;go_enter Tryz.func37,Tryz.ntmps37;go_wp2_with (go_at_call 63;(with_reducible refine(q.o _).mono ?_);go_must (rintro e w2 ⟨rfl,g⟩;have o:=yo (((Below.refl w.heap.size w).alloc (nlr _) (.cells #[.int .i64 (W:Int),.int .i64 (H:Int),.int .i64 (C:Int),.int .i64 (D:Int)] 37)).trans (g.mono (by rw[wsa];omega)));clear g));go_ret;exact⟨rfl,o.o⟩
theorem zmz(W H C D K:Nat)(w:World)(hs:PS W H C D K)(hz:H*(W*K)<=16384):
  Calls Tryz.prog 37 #[.agg #[.int .i64 (W:Int),.int .i64 (H:Int),.int .i64 (C:Int),.int .i64 (D:Int)],.bool true] w fun e w'=>e=.returned (.int .i64 ((oO W H K 7:Nat):Int))/\Below w.heap.size w w':=by
 obtain⟨w1,z⟩:∃w1,w.alloc (.cells #[.int .i64 (W:Int),.int .i64 (H:Int),.int .i64 (C:Int),.int .i64 (D:Int)] 37)=w1:=⟨_,rfl⟩;obtain⟨bk,F⟩:∃b,w.heap.size=b:=⟨_,rfl⟩;have ah:Hid (Arr w1 bk [.int .i64 (W:Int),.int .i64 (H:Int),.int .i64 (C:Int),.int .i64 (D:Int)]):=(show Arr _ _ _ by rw[<-z,<-F];exact Arr.new w [.int .i64 (W:Int),.int .i64 (H:Int),.int .i64 (C:Int),.int .i64 (D:Int)] _);have ao:Hid (Below bk w w1):=(show Below _ _ _ by rw[<-z,<-F];exact(Below.refl w.heap.size w).alloc (nlr _) _);have au:w1.heap.size=bk+1:=by rw[<-z,wsa,F]
 have af:=yo (fun k w h1 h7=>zmx W H k (C:Int) (D:Int) w (hs.may hz) ⟨hs.w1,hs.w2⟩ ⟨hs.h1,hs.h2⟩ h1 h7);have aj:=yo (fun Z ph h1 h2 h3 h4 w=>zgx Z ph C D K w (hs.pass h1 h2 h3 h4));have HS:=yo hs;have am:=yo (fun k (hk:k<=7)=>show oO W H K k<=40000 by
  have h1:=zpe (K:=K) hs.w2 hs.h2 k;have h2:=zix hz hk;omega)
 clear hs hz;go_enter Tryz.func37,Tryz.ntmps37;(try simp only[z,F]);go_wp2_with fail;go_loopw [6,5] (fun vk vn wr=>∃(q:Nat),1<=q/\q<=8/\vk=.int .i64 (q:Int)/\vn=.int .i64 ((oO W H K (q-1):Nat):Int)/\Hid (Below (bk+1) w1 wr)) (fun vk _ _=>9-(intOf vk).toNat)
 case atStart=>exact⟨1,by omega,by omega,rfl,rfl,Below.refl _ _⟩
 case round =>
  clear z;obtain⟨q,ae,aq,rfl,rfl,HB⟩:=hrel;have ax:=HB.o.size;have HA:=yo (ah.o.blw HB.o (Nat.lt_succ_self bk));obtain⟨k,V⟩:∃k,q-1=k:=⟨_,rfl⟩;have G:Hid (q=k+1):=(show _=_ by omega);rw[V];clear V;by_cases hlt:q<=7
  ·have ab:(q:Int)<=7:=by omega
   have X:q<=7:=(by omega);have aw:IntKind.i64.wrap ((q:Int)+1)=(q:Int)+1:=by rw[show(q:Int)+1=((q+1:Nat):Int) by omega];exact zaa _ (by omega)
   obtain⟨e0,e1,e2,e3⟩:=HA.o.c4;have u:=zee W H q HS.o.w2 HS.o.h2;have ai:=am.o q X;have r:oO W H K q=oO W H K k+nO W H K k:=(by rw[G.o];rfl);have R:=yo (fun w=>af.o q w ae X);obtain⟨L,t⟩:∃L,wr.alloc (.cells #[.int .i64 (W:Int),.int .i64 (H:Int),.int .i64 (C:Int),.int .i64 (D:Int)] 37)=L:=⟨_,rfl⟩;obtain⟨o,A⟩:∃b,wr.heap.size=b:=⟨_,rfl⟩;have aa:Hid (Arr L o [.int .i64 (W:Int),.int .i64 (H:Int),.int .i64 (C:Int),.int .i64 (D:Int)]):=(show Arr _ _ _ by rw[<-t,<-A];exact Arr.new wr [.int .i64 (W:Int),.int .i64 (H:Int),.int .i64 (C:Int),.int .i64 (D:Int)] _);have ak:Hid (Arr L bk [.int .i64 (W:Int),.int .i64 (H:Int),.int .i64 (C:Int),.int .i64 (D:Int)]):=(show Arr _ _ _ by rw[<-t];exact HA.o.alloc _);have ac:Hid (Below (bk+1) w1 L):=(show Below _ _ _ by rw[<-t];exact HB.o.alloc (by omega) _);have ar:o+1<=L.heap.size:=(by rw[<-t,wsa,A];exact nlr _);have B:bk+1<=o:=(by omega);obtain⟨d0,d1,d2,d3⟩:=ak.o.c4;go_upto_region 7 with fail;go_upto_region 8 with fail;(try simp only[t,A]);clear t A e0 e1 e2 e3;by_cases hpw:zai W H q=0
   ·have T:=u.2.2.1 hpw
    have hn0:nO W H K k=0:=(by unfold nO;rw[<-G.o,if_pos hpw]);rw[hn0,Nat.add_zero] at r;have E:=yo r;rw[hpw,T] at R;clear hpw T u hn0 r;go_upto_region 9 with(go_at_call 64;(with_reducible refine(R.o _).mono ?_);go_must (rintro e U ⟨rfl,s⟩;have g:=yo (aa.o.later s);obtain⟨c0,c1,c2,c3⟩:=g.o.c4;have f0:=g.o.frozen 0;have f1:=g.o.frozen 1;have O:=yo (ac.o.trans (s.mono (show bk+1<=L.heap.size by omega)));clear s d0 d1 d2 d3));have HG:Hid (Arr ((U.setCell ⟨o,0,none⟩ (.int .i64 0)).setCell ⟨o,1,none⟩ (.int .i64 0)) o [.int .i64 0,.int .i64 0,.int .i64 (C:Int),.int .i64 (D:Int)]):=(show Arr _ _ _ from(g.o.set 0 _).set 1 _);have I:Hid (Below (bk+1) w1 ((U.setCell ⟨o,0,none⟩ (.int .i64 0)).setCell ⟨o,1,none⟩ (.int .i64 0))):=(show Below _ _ _ from(O.o.setCell (p:=⟨o,0,none⟩) B _).setCell (p:=⟨o,1,none⟩) B _);have g0:=HG.o.cell (k:=0) rfl;go_wp2_with fail;go_roundw
    case rel=>exact⟨q+1,by omega,by omega,by go_num,by rw[Nat.add_sub_cancel,E.o],I⟩
    case measure=>simp[intOf];omega
   ·have N:1<=zai W H q:=by omega
    have M:1<=zao W H q:=by
     have h1:¬zao W H q=0:=fun e=>hpw (u.2.2.2 e)
     omega
    have hn0:nO W H K k=zao W H q*(zai W H q*K+1):=(by unfold nO;rw[<-G.o,if_neg hpw]);have J:=yo (aj.o (zai W H q) (zao W H q) N u.1 M u.2.1);rw[<-hn0] at J;have E:=yo r;have ap:(0:Int)<(zai W H q:Int):=(by omega);generalize nO W H K k=nk at *;obtain⟨ok,P⟩:∃x,oO W H K k=x:=⟨_,rfl⟩;rw[P] at r E;simp only[P];obtain⟨oq,S⟩:∃x,oO W H K q=x:=⟨_,rfl⟩;rw[S] at r E ai;have ag:=yo S;generalize zai W H q=Z at *;generalize zao W H q=ph at *;have av:IntKind.i64.wrap ((ok:Int)+(nk:Int))=(oq:Int):=by rw[show(ok:Int)+(nk:Int)=(oq:Int) by omega];exact zaa _ (by omega)
    clear hpw u hn0 r P N M S;go_upto_region 9 with(go_at_call 64;(with_reducible refine(R.o _).mono ?_);go_must (rintro e U ⟨rfl,s⟩;have g:=yo (aa.o.later s);obtain⟨c0,c1,c2,c3⟩:=g.o.c4;have f0:=g.o.frozen 0;have f1:=g.o.frozen 1;have O:=yo (ac.o.trans (s.mono (show bk+1<=L.heap.size by omega)));clear s d0 d1 d2 d3));have HG:Hid (Arr ((U.setCell ⟨o,0,none⟩ (.int .i64 (Z:Int))).setCell ⟨o,1,none⟩ (.int .i64 (ph:Int))) o [.int .i64 (Z:Int),.int .i64 (ph:Int),.int .i64 (C:Int),.int .i64 (D:Int)]):=(show Arr _ _ _ from(g.o.set 0 _).set 1 _);have I:Hid (Below (bk+1) w1 ((U.setCell ⟨o,0,none⟩ (.int .i64 (Z:Int))).setCell ⟨o,1,none⟩ (.int .i64 (ph:Int)))):=(show Below _ _ _ from(O.o.setCell (p:=⟨o,0,none⟩) B _).setCell (p:=⟨o,1,none⟩) B _);obtain⟨g0,g1,g2,g3⟩:=HG.o.c4;go_wp2_with (go_at_call 63;(with_reducible refine(J.o _).mono ?_);go_must (rintro e w6 ⟨rfl,Y⟩;have al:=yo (I.o.trans (Y.mono (by have:=I.o.size;omega)));clear Y));go_roundw
    case rel=>exact⟨q+1,by omega,by omega,by go_num,by rw[Nat.add_sub_cancel,ag.o],al⟩
    case measure=>simp[intOf];omega
  ·have ab:¬(q:Int)<=7:=by omega
   obtain rfl:k=7:=by have:=G.o;omega
   have an:=yo (ao.o.trans (HB.o.mono (Nat.le_succ bk)));go_wp2_with fail;go_ret;exact⟨rfl,an.o⟩
end Go.Proofs.YtebbdifhiihfkaaGreatDoor

/- png: the document's picture of the passes. -/
namespace Go.Proofs.YtebbdifhiihfkaaGreatDoor
set_option linter.all false
set_option maxRecDepth 100000
set_option maxHeartbeats 25600000
open Go.RowKit
def UnB(s:Sh)(out:List UInt8)(ok:Bool)(b:Nat)(w:World)(e:Ending)(w':World):Prop :=
 ∃v,e=.returned (.tuple #[.agg #[.int .i64 s.w,.int .i64 s.h,.int .i64 s.c,.int .i64 s.d,v],.bool ok])/\ownB w' b v out/\Below b w w'
theorem ztn{W H K k:Nat}{g o:List UInt8}(h:zai W H (k+1)=0):sO W H K k g o=o:=by
 unfold sO;rw[h,Nat.zero_mul];rfl
theorem zm9(W H C D K m c B:Nat)(A:Option Addr)(rs:List UInt8)(w:World)(hs:PS W H C D K)(hz:H*(W*K)<=16384)(h:RdB w B A m rs)(O:B<=w.heap.size)(bc:m<=c)(hm:oO W H K 7<=m)(en:m<=1000000):
  Calls Tryz.prog 38 #[.agg #[.int .i64 (W:Int),.int .i64 (H:Int),.int .i64 (C:Int),.int .i64 (D:Int)],.slice A m c] w fun e w'=>UnB (zhn W H C D K rs).1 (zhn W H C D K rs).2.1 (decide ((zhn W H C D K rs).2.2=0)) w.heap.size w e w':=by
 obtain⟨g,af⟩:∃g,H*(W*K)=g:=⟨_,rfl⟩;have aX:zhn W H C D K rs=zdM 7 W H C D (uO W H C D K rs) (sO W H K) (List.replicate g 0):=by rw[<-af];rfl
 rw[aX];clear aX;have b6:=yo (fun w=>zj5 ⟨W,H,C,D⟩ w);rw[hs.size.1,af] at b6;dsimp only[Sh.v] at b6;have cj:=fun w=>zjX w g (by omega)
 have df:=yo (fun k w h1 h7=>zmx W H k (C:Int) (D:Int) w (hs.may hz) ⟨hs.w1,hs.w2⟩ ⟨hs.h1,hs.h2⟩ h1 h7);have dl:=yo (fun S ph h1 h2 h3 h4 w=>zgx S ph C D K w (hs.pass h1 h2 h3 h4));have dz:=yo (fun k w h1 h7=>zkP k h1 h7 w);have dK:=yo (fun(x y q:Nat) (X Y:Int) (M:Nat) (w:World) (hX:X=(x:Int)) (hY:Y=(y:Int)) (hx:x<W) (hy:y<H) (hq:(y*W+x)*K=q)=>zpg W H C D K g g 0 x y q M 0 X Y [] w hX hY hs af.symm (by omega) (nlr g) hx hy hq);have dE:=yo (fun k (hk:k<=7)=>nlt (zf3 W H K hk) hm);have HS:=yo hs;have cU:=hs.k;have e8:=hs.k1;have dm:=hs.k8;have bY:=yo af;have e1:(C:Int)*(D:Int)=((8*K:Nat):Int):=by rw[<-cU];push_cast;rfl
 have e2:IntKind.i64.wrap ((8*K:Nat):Int)=((8*K:Nat):Int):=zaa _ (by omega);have e3:(((8*K:Nat):Int)).tdiv 8=(K:Int):=by
  show(((8*K / 8:Nat)):Int)=_;rw[Nat.mul_div_cancel_left _ (by decide)]
 have e5:(((8*K:Nat):Int)) / 8=(K:Int):=by omega
 obtain⟨KQ,bQ⟩:∃Q,8*K=Q:=⟨_,rfl⟩;rw[bQ] at e1 e2 e3 e5;have e4:IntKind.i64.wrap (K:Int)=(K:Int):=zaa K (by omega);obtain⟨t,ag⟩:∃w1,(w.alloc (.cells #[.int .i64 (W:Int),.int .i64 (H:Int),.int .i64 (C:Int),.int .i64 (D:Int)] 37)).alloc (.cells #[.int .i64 0,.int .i64 0,.int .i64 0,.int .i64 0,.slice none 0 0] 39)=w1:=⟨_,rfl⟩;obtain⟨bx,ah⟩:∃b,w.heap.size=b:=⟨_,rfl⟩;have br:Hid (Arr t bx [.int .i64 (W:Int),.int .i64 (H:Int),.int .i64 (C:Int),.int .i64 (D:Int)]):=(show Arr _ _ _ by rw[<-ag,<-ah];exact(Arr.new w [.int .i64 (W:Int),.int .i64 (H:Int),.int .i64 (C:Int),.int .i64 (D:Int)] _).alloc _);have bT:Hid (Arr t (bx+1) [.int .i64 0,.int .i64 0,.int .i64 0,.int .i64 0,.slice none 0 0]):=(show Arr _ _ _ by
  rw[<-ag,<-ah];have:=Arr.new (w.alloc (.cells #[.int .i64 (W:Int),.int .i64 (H:Int),.int .i64 (C:Int),.int .i64 (D:Int)] 37)) [.int .i64 0,.int .i64 0,.int .i64 0,.int .i64 0,.slice none 0 0] 39;rw[wsa] at this;exact this)
 have cV:Hid (RdB t B A m rs):=(show RdB _ _ _ _ _ by rw[<-ag];exact Rd.alloc (Rd.alloc h O _) (by rw[wsa];omega) _);have cO:Hid (Below bx w t):=(show Below _ _ _ by rw[<-ag,<-ah];exact((Below.refl w.heap.size w).alloc (nlr _) _).alloc (by rw[wsa];omega) _);have dk:bx+2<=t.heap.size:=by rw[<-ag,wsa,wsa,ah];exact nlr _
 obtain⟨a0,a1,a2,a3⟩:=br.o.c4;rw[ah] at O ⊢;have dT:g<=16384:=by omega
 have aT:=h.len;have cd:=yo aT;clear h hs hz hm bQ cU af aT;go_enter Tryz.func38,Tryz.ntmps38;go_upto_region 1 with fail;(try simp only[ag,ah]);clear ag ah;have bI:=yo cj;have ct:Hid (g<=140737488355328):=(show _<=_ by omega);have HC:Hid (bx<t.heap.size/\t.cell? ⟨bx,0,none⟩=some (.int .i64 (W:Int))/\t.cell? ⟨bx,1,none⟩=some (.int .i64 (H:Int))/\t.cell? ⟨bx,2,none⟩=some (.int .i64 (C:Int))/\t.cell? ⟨bx,3,none⟩=some (.int .i64 (D:Int))):=(show _/\_ from⟨by omega,a0,a1,a2,a3⟩);have aS:Hid (t.heap.size<=t.heap.size):=nlr _;clear cj a0 a1 a2 a3;go_cut [6] (fun v8 wx=>∃G M,v8=.pointer (some ⟨G,0,none⟩)/\t.heap.size<=G/\ownB wx t.heap.size (.slice (some ⟨M,0,none⟩) g g) (List.replicate g 0)/\Arr wx G [.int .i64 (W:Int),.int .i64 (H:Int),.int .i64 (C:Int),.int .i64 (D:Int),.slice (some ⟨M,0,none⟩) g g]/\G≠M/\Below t.heap.size t wx)
 case first =>
  refine zef (by kernel_rfl) (by kernel_rfl) (zrx (fun v=>⟨#[.agg #[.int .i64 (W:Int),.int .i64 (H:Int),.int .i64 (C:Int),.int .i64 (D:Int)],.slice A m c,.pointer (some ⟨bx,0,none⟩),undef,.pointer (some ⟨bx+1,0,none⟩),.bool false,v 8,undef,undef,undef,undef,undef,undef,undef,undef,undef,undef,v 14,v 15,v 16,v 17,v 18,undef,undef,undef,undef,undef,undef,undef,undef,undef,undef,undef,undef,undef,undef,undef,undef,undef,undef,undef,undef,undef,undef,undef,undef,undef,undef,undef,undef,undef,undef,undef,undef,undef,undef,undef,undef,undef,undef,undef,undef,undef,undef,undef,undef,undef,undef,undef,undef,undef,undef,undef,undef,undef,undef,undef,undef,undef,undef,undef,undef,undef,undef,undef,undef,undef,undef,undef,undef,undef,undef,undef,undef,undef,undef,undef,undef,undef,undef,undef,undef,undef,undef,undef,undef],[]⟩) W H C D g t.heap.size t) ?_ ?_ ?_
  ·exact⟨0,0,fun _=>undef,rfl,(fun h=>by cases h),(fun h=>by cases h),(fun h=>by cases h),(fun h=>by cases h),(fun h=>by cases h),(fun h=>by cases h),(fun h=>by cases h),(fun h=>by cases h),(fun h=>by cases h),(fun h=>by cases h),(Below.refl _ _).drew⟩
  ·intro f a w i cR hf he hI
   have hi:i<7:=cR;clear cR;obtain⟨G,M,v,rfl,p0,p1,p2,p3,p4,p5,p6,d4,d6,q,O⟩:=hI;replace p0:=yo p0;replace p1:=yo p1;replace p2:=yo p2;replace p3:=yo p3;replace p4:=yo p4;replace p5:=yo p5;replace p6:=yo p6;replace d4:=yo d4;replace d6:=yo d6;replace q:=yo q;replace O:=yo O;have d7:i=0\/i=1\/i=2\/i=3\/i=4\/i=5\/i=6:=(by omega);clear hi;rcases d7 with rfl|rfl|rfl|rfl|rfl|rfl|rfl
   ·have dn:=zbT O.o HC.o.1 HC.o.2.1
    have cZ:=zbT O.o HC.o.1 HC.o.2.2.1;have dv:=zbT O.o HC.o.1 HC.o.2.2.2.1;have dw:=zbT O.o HC.o.1 HC.o.2.2.2.2;clear he;refine zaq rfl rfl (fun K HK=>?_);dsimp only;go_simp;exact HK.o _ _ ⟨G,M,(fun k=>if k=14 then .agg #[.int .i64 (W:Int),.int .i64 (H:Int),.int .i64 (C:Int),.int .i64 (D:Int)] else v k),rfl,fun _=>rfl,p1.o,p2.o,p3.o,p4.o,p5.o,p6.o,d4.o,d6.o,q.o,O.o⟩
   ·have dn:=zbT O.o HC.o.1 HC.o.2.1
    have cZ:=zbT O.o HC.o.1 HC.o.2.2.1;have dv:=zbT O.o HC.o.1 HC.o.2.2.2.1;have dw:=zbT O.o HC.o.1 HC.o.2.2.2.2;clear he;refine zaq rfl rfl (fun K HK=>?_);dsimp only;go_simp;exact HK.o _ _ ⟨G,M,(fun k=>if k=15 then .agg #[.int .i64 (W:Int),.int .i64 (H:Int),.int .i64 (C:Int),.int .i64 (D:Int)] else v k),rfl,p0.o,fun _=>rfl,p2.o,p3.o,p4.o,p5.o,p6.o,d4.o,d6.o,q.o,O.o⟩
   ·have aj:t.heap.size<=w.heap.size:=nlt aS.o O.o.size
    have f1:f 1=true:=he 1 (by kernel_rfl);have r1:=p1.o f1;clear he;refine zaq rfl rfl (fun K HK=>?_);dsimp only;rw[r1];clear r1;go_simp;go_at_call 65
    (with_reducible refine(b6.o _).mono ?_)
    rintro e w' ⟨rfl,hb⟩;go_simp;exact HK.o _ _ ⟨G,M,(fun k=>if k=16 then .int .i64 (g:Int) else(fun k=>if k=15 then .agg #[.int .i64 (W:Int),.int .i64 (H:Int),.int .i64 (C:Int),.int .i64 (D:Int)] else v k) k),rfl,p0.o,fun _=>rfl,fun _=>rfl,fun h=>⟨(p3.o h).1,ownB.later (p3.o h).2 hb⟩,p4.o,fun h=>⟨(p5.o h).1,(p5.o h).2.1,Nat.lt_of_lt_of_le (p5.o h).2.2.1 hb.size,fun h6=>Arr.later ((p5.o h).2.2.2 h6) hb⟩,fun h=>Arr.later (p6.o h) hb,d4.o,d6.o,q.o,O.o.trans (Below.mono hb aj)⟩
   ·have aj:t.heap.size<=w.heap.size:=nlt aS.o O.o.size
    have f2:f 2=true:=he 2 (by kernel_rfl);have r2:=p2.o f2;have km:=bI.o w;clear he;refine zaq rfl rfl (fun K HK=>?_);dsimp only;rw[r2];clear r2;go_simp;have hb:Below w.heap.size w (w.alloc (zht g)):=(Below.refl w.heap.size w).alloc (nlr _) _;exact HK.o _ _ ⟨G,w.heap.size,(fun k=>if k=17 then .slice (some ⟨w.heap.size,0,none⟩) g g else(fun k=>if k=16 then .int .i64 (g:Int) else v k) k),rfl,p0.o,p1.o,fun _=>rfl,fun _=>⟨rfl,(zlh w g ct.o).mono aj⟩,fun h=>Bool.noConfusion (show true=false from(d4.o h).symm.trans hf),fun h=>⟨(p5.o h).1,(p5.o h).2.1,Nat.lt_of_lt_of_le (p5.o h).2.2.1 hb.size,fun h6=>Arr.later ((p5.o h).2.2.2 h6) hb⟩,fun h=>Bool.noConfusion (show true=false from(d4.o (d6.o h).1).symm.trans hf),fun _=>rfl,d6.o,fun _ h5=>Nat.ne_of_lt (p5.o h5).2.2.1,O.o.trans (Below.mono hb aj)⟩
   ·have f0:f 0=true:=he 0 (by kernel_rfl)
    have f3:f 3=true:=he 3 (by kernel_rfl);have r0:=p0.o f0;have r3:=(p3.o f3).1;clear he;refine zaq rfl rfl (fun K HK=>?_);dsimp only;rw[r0,r3];clear r0 r3;go_simp;exact HK.o _ _ ⟨G,M,(fun k=>if k=18 then .agg #[.int .i64 (W:Int),.int .i64 (H:Int),.int .i64 (C:Int),.int .i64 (D:Int),.slice (some ⟨M,0,none⟩) g g] else(fun k=>if k=17 then .slice (some ⟨M,0,none⟩) g g else(fun k=>if k=14 then .agg #[.int .i64 (W:Int),.int .i64 (H:Int),.int .i64 (C:Int),.int .i64 (D:Int)] else v k) k) k),rfl,fun _=>rfl,p1.o,p2.o,fun _=>⟨rfl,(p3.o f3).2⟩,fun _=>rfl,p5.o,p6.o,fun _=>f3,fun h=>⟨rfl,(d6.o h).2⟩,q.o,O.o⟩
   ·have aj:t.heap.size<=w.heap.size:=nlt aS.o O.o.size
    clear he;refine zaq rfl rfl (fun K HK=>?_);dsimp only;go_simp;have hb:Below w.heap.size w (w.alloc (.cells #[.int .i64 0,.int .i64 0,.int .i64 0,.int .i64 0,.slice none 0 0] 39)):=(Below.refl w.heap.size w).alloc (nlr _) _;exact HK.o _ _ ⟨w.heap.size,M,(fun k=>if k=8 then .pointer (some ⟨w.heap.size,0,none⟩) else v k),rfl,p0.o,p1.o,p2.o,fun h=>⟨(p3.o h).1,ownB.later (p3.o h).2 hb⟩,p4.o,fun _=>⟨rfl,aj,(by rw[wsa];exact Nat.lt_succ_self _),fun _=>Arr.new w [.int .i64 0,.int .i64 0,.int .i64 0,.int .i64 0,.slice none 0 0] _⟩,fun h=>Bool.noConfusion (show true=false from(d6.o h).2.symm.trans hf),d4.o,fun h=>⟨(d6.o h).1,rfl⟩,fun h3 _=>fun e=>Nat.lt_irrefl _ (by have h1:=(olt (p3.o h3).2 M rfl).2;rw[<-e] at h1;exact h1),O.o.trans (Below.mono hb aj)⟩
   ·have f4:f 4=true:=he 4 (by kernel_rfl)
    have f5:f 5=true:=he 5 (by kernel_rfl);have f3:=d4.o f4;have r4:=p4.o f4;obtain⟨r5,ar,d9,hA⟩:=p5.o f5;replace hA:=hA hf;obtain⟨s0,s1,s2,s3,s4⟩:=hA.c5;obtain⟨z0,z1,z2,z3,z4⟩:=hA.q5;have aA:(Value.slice (some ⟨M,0,none⟩) g g).ownBlock≠some G:=fun e=>q.o f3 f5 (by injection e with e;exact e.symm)
    have co:ownB (((((w.setCell ⟨G,0,none⟩ (.int .i64 (W:Int))).setCell ⟨G,1,none⟩ (.int .i64 (H:Int))).setCell ⟨G,2,none⟩ (.int .i64 (C:Int))).setCell ⟨G,3,none⟩ (.int .i64 (D:Int))).setCell ⟨G,4,none⟩ (.slice (some ⟨M,0,none⟩) g g)) t.heap.size (.slice (some ⟨M,0,none⟩) g g) (List.replicate g 0):=(((((p3.o f3).2.far aA 0 _).far aA 1 _).far aA 2 _).far aA 3 _).far aA 4 _;have bS:Arr (((((w.setCell ⟨G,0,none⟩ (.int .i64 (W:Int))).setCell ⟨G,1,none⟩ (.int .i64 (H:Int))).setCell ⟨G,2,none⟩ (.int .i64 (C:Int))).setCell ⟨G,3,none⟩ (.int .i64 (D:Int))).setCell ⟨G,4,none⟩ (.slice (some ⟨M,0,none⟩) g g)) G [.int .i64 (W:Int),.int .i64 (H:Int),.int .i64 (C:Int),.int .i64 (D:Int),.slice (some ⟨M,0,none⟩) g g]:=((((hA.set 0 _).set 1 _).set 2 _).set 3 _).set 4 _;have dR:Below t.heap.size t (((((w.setCell ⟨G,0,none⟩ (.int .i64 (W:Int))).setCell ⟨G,1,none⟩ (.int .i64 (H:Int))).setCell ⟨G,2,none⟩ (.int .i64 (C:Int))).setCell ⟨G,3,none⟩ (.int .i64 (D:Int))).setCell ⟨G,4,none⟩ (.slice (some ⟨M,0,none⟩) g g)):=((((O.o.setCell (p:=⟨G,0,none⟩) ar _).setCell (p:=⟨G,1,none⟩) ar _).setCell (p:=⟨G,2,none⟩) ar _).setCell (p:=⟨G,3,none⟩) ar _).setCell (p:=⟨G,4,none⟩) ar _;clear he;refine zaq rfl rfl (fun K HK=>?_);dsimp only;rw[r4,r5];clear r4 r5;go_simp;exact HK.o _ _ ⟨G,M,(fun k=>if k=18 then .agg #[.int .i64 (W:Int),.int .i64 (H:Int),.int .i64 (C:Int),.int .i64 (D:Int),.slice (some ⟨M,0,none⟩) g g] else(fun k=>if k=8 then .pointer (some ⟨G,0,none⟩) else v k) k),rfl,p0.o,p1.o,p2.o,fun h=>⟨(p3.o h).1,co⟩,fun _=>rfl,fun _=>⟨rfl,ar,(by simpa using d9),fun h=>Bool.noConfusion (show true=false from h)⟩,fun _=>bS,d4.o,fun _=>⟨f4,f5⟩,q.o,dR⟩
  ·intro f a w an hI
   obtain⟨G,M,v,rfl,p0,p1,p2,p3,p4,p5,p6,d4,d6,q,O⟩:=hI;have g3:=an 3 (by decide);have g5:=an 5 (by decide);have g6:=an 6 (by decide);have dF:Hid (v 8=.pointer (some ⟨G,0,none⟩)/\t.heap.size<=G/\ownB w t.heap.size (.slice (some ⟨M,0,none⟩) g g) (List.replicate g 0)/\Arr w G [.int .i64 (W:Int),.int .i64 (H:Int),.int .i64 (C:Int),.int .i64 (D:Int),.slice (some ⟨M,0,none⟩) g g]/\G≠M/\Below t.heap.size t w):=(show _/\_ from⟨(p5 g5).1,(p5 g5).2.1,(p3 g3).2,p6 g6,q g3 g5,O⟩);clear p0 p1 p2 p3 p4 p5 p6 d4 d6 q O an g3 g5 g6;go_wp2_with fail;go_meet
   case rel=>exact⟨G,M,dF.o⟩
 case rest =>
 clear HC bI ct aS;obtain⟨wm,rfl⟩:∃wm:World,wm=wc:=⟨_,rfl⟩;obtain⟨G0,M,rfl,hG,b0,bj,cI,cb⟩:=hcut;have aB:=yo b0;have bb:=yo bj;have cX:=yo cI;have ay:=yo cb;have cy:t.heap.size<=M/\M<wm.heap.size:=olt b0 M rfl;have a4:=yo cy;have b9:=yo hG;have et:=yo bj.lt;obtain⟨z,hz⟩:∃z,t.heap.size=z:=⟨_,rfl⟩;rw[hz] at aB ay a4 b9 dk;clear hG b0 bj cI cb cy hz;have aY:Hid (RdB wm B A m (rs.drop (oO W H K 0))):=(show RdB _ _ _ _ _ from RdB.blw cV.o (ay.o.mono (by omega)));have cw:Hid (m=m-oO W H K 0):=(show _=_ from rfl);have ck:=yo (cO.o.trans (ay.o.mono (show bx<=z by omega)));have ce:=yo (bT.o.blw ay.o (show bx+1<z by omega));have b8:=yo (br.o.blw ay.o (show bx<z by omega));have bl:Hid (z<=wm.heap.size):=(show _<=_ by have:=a4.o;omega);have bO:=yo bc;have s2:=b8.o.cell (k:=2) rfl;have s3:=b8.o.cell (k:=3) rfl;clear bT cV cO br ay bc;go_wp2_with fail;clear s2 s3;go_loopw [8,1] (fun vq vb wr=>∃(q:Nat) (px:List UInt8) (Ar:Option Addr) (mr cr:Nat),1<=q/\q<=8/\vq=.int .i64 (q:Int)/\vb=.slice Ar mr cr/\Hid (zdL (uO W H C D K rs) (sO W H K) (List.replicate g 0) (q-1)=some px)/\Hid (ownB wr z (.slice (some ⟨M,0,none⟩) g g) px)/\Hid (Arr wr G0 [.int .i64 (W:Int),.int .i64 (H:Int),.int .i64 (C:Int),.int .i64 (D:Int),.slice (some ⟨M,0,none⟩) g g])/\Hid (RdB wr B Ar mr (rs.drop (oO W H K (q-1))))/\Hid (mr=m-oO W H K (q-1))/\Hid (mr<=cr)/\Hid (Below z wm wr)) (fun vq _ _=>9-(intOf vq).toNat)
 case atStart=>exact⟨1,_,A,m,c,by omega,by omega,rfl,rfl,(show _=_ from rfl),aB,bb,aY,cw,bO,Below.refl _ _⟩
 case round =>
  clear aB bb aY cw bO e1 e2 e3 e5;obtain⟨q,px,Ar,mr,cr,cl,em,rfl,rfl,ao,aE,bn,aI,aq,a7,az⟩:=hrel;have dQ:=az.o.size;have dS:z<=wr.heap.size:=nlt bl.o dQ;obtain⟨k,aV⟩:∃k,q-1=k:=⟨_,rfl⟩;have E:Hid (q=k+1):=(show _=_ by omega);rw[aV] at ao aI aq;clear aV;have HA:=yo (b8.o.blw az.o (show bx<z by omega));by_cases hlt:q<=7
  ·have bW:(q:Int)<=7:=by omega
   have ca:q<=7:=(by omega);have aN:IntKind.i64.wrap ((q:Int)+1)=(q:Int)+1:=by rw[show(q:Int)+1=((q+1:Nat):Int) by omega];exact zaa _ (by omega)
   have bP:=yo aN;clear aN;obtain⟨e0,e1,e2,e3⟩:=HA.o.c4;have Z:=zee W H q HS.o.w2 HS.o.h2;have bi:=yo (fun w=>df.o q w cl ca);have b3:=yo (fun e=>zkL (u:=uO W H C D K rs) (sp:=sO W H K) ao.o e);have cN:=yo (fun e=>zkM (u:=uO W H C D K rs) (sp:=sO W H K) ao.o e);have aR:Hid (oO W H K (k+1)=oO W H K k+nO W H K k):=(show _=_ from rfl);have cC:oO W H K k+nO W H K k<=m:=dE.o (k+1) (by have:=E.o;omega);obtain⟨wz,au⟩:∃wz,wr.alloc (.cells #[.int .i64 (W:Int),.int .i64 (H:Int),.int .i64 (C:Int),.int .i64 (D:Int)] 37)=wz:=⟨_,rfl⟩;obtain⟨U,av⟩:∃b,wr.heap.size=b:=⟨_,rfl⟩;have bM:Hid (Arr wz U [.int .i64 (W:Int),.int .i64 (H:Int),.int .i64 (C:Int),.int .i64 (D:Int)]):=(show Arr _ _ _ by rw[<-au,<-av];exact Arr.new wr [.int .i64 (W:Int),.int .i64 (H:Int),.int .i64 (C:Int),.int .i64 (D:Int)] _);have dr:Hid (Arr wz bx [.int .i64 (W:Int),.int .i64 (H:Int),.int .i64 (C:Int),.int .i64 (D:Int)]):=(show Arr _ _ _ by rw[<-au];exact HA.o.alloc _);have bR:Hid (Below U wr wz):=(show Below _ _ _ by rw[<-au,<-av];exact(Below.refl wr.heap.size wr).alloc (nlr _) _);have b7:=yo av;have ei:U+1<=wz.heap.size:=(by rw[<-au,wsa,av];exact nlr _);have bE:z<=U:=(by omega);obtain⟨d0,d1,d2,d3⟩:=dr.o.c4;go_upto_region 7 with fail;(try simp only[au,av]);clear au av e0 e1 e2 e3;by_cases hpw:zai W H q=0
   ·have cJ:=Z.2.2.1 hpw
    have hn0:nO W H K k=0:=(by unfold nO;rw[<-E.o,if_pos hpw]);have aK:Hid (zdL (uO W H C D K rs) (sO W H K) (List.replicate g 0) (q+1-1)=some px):=(show _=_ by
     rw[Nat.add_sub_cancel,E.o];have cB:uO W H C D K rs k=(⟨0,0,0,0⟩,[],0):=(by unfold uO;rw[<-E.o,if_pos hpw]);have h9:=b3.o (by rw[cB]);rw[cB,ztn (by rw[<-E.o];exact hpw)] at h9;exact h9)
    have c9:Hid (oO W H K (q+1-1)=oO W H K k):=(show _=_ by rw[Nat.add_sub_cancel,E.o,aR.o,hn0,Nat.add_zero]);rw[hpw,cJ] at bi;clear hpw cJ Z hn0 cC;go_upto_region 8 with(go_at_call 64;(with_reducible refine(bi.o _).mono ?_);go_must (rintro e w4 ⟨rfl,s⟩;have N:=yo (bM.o.later s);obtain⟨c0,c1,c2,c3⟩:=N.o.c4;have f0:=N.o.frozen 0;have f1:=N.o.frozen 1;have aa:=yo (bR.o.trans (s.mono (show U<=wz.heap.size by omega)));clear s d0 d1 d2 d3));obtain⟨V,ac⟩:∃V,((w4.setCell ⟨U,0,none⟩ (.int .i64 0)).setCell ⟨U,1,none⟩ (.int .i64 0))=V:=⟨_,rfl⟩;have HG:Hid (Arr V U [.int .i64 0,.int .i64 0,.int .i64 (C:Int),.int .i64 (D:Int)]):=(show Arr _ _ _ by rw[<-ac];exact(N.o.set 0 _).set 1 _);have ai:Hid (Below U wr V):=(show Below _ _ _ by rw[<-ac];exact(aa.o.setCell (p:=⟨U,0,none⟩) (nlr _) _).setCell (p:=⟨U,1,none⟩) (nlr _) _);(try simp only[ac]);clear ac N aa c0 c1 c2 c3 f0 f1;have ab:=yo (ai.o.mono (Nat.le_of_eq b7.o));have aL:=yo (aE.o.later ab.o);have aG:=yo (bn.o.later ab.o);have aC:Hid (RdB V B Ar mr (rs.drop (oO W H K (q+1-1)))):=(show RdB _ _ _ _ _ by rw[c9.o];exact RdB.blw aI.o (ai.o.mono (by omega)));have aJ:=yo (az.o.trans (ai.o.mono bE));have dh:Hid (mr=m-oO W H K (q+1-1)):=(show _=_ by rw[c9.o];exact aq.o);have g0:=HG.o.cell (k:=0) rfl;have aN:=bP.o;go_wp2_with fail;go_roundw
    case rel=>exact⟨q+1,px,Ar,mr,cr,by omega,by omega,by go_num,rfl,aK,aL,aG,aC,dh,a7,aJ⟩
    case measure=>simp[intOf];omega
   ·have aU:1<=zai W H q:=by omega
    have bf:1<=zao W H q:=by
     have h1:¬zao W H q=0:=fun e=>hpw (Z.2.2.2 e)
     omega
    have bZ:=HS.o.pass aU Z.1 bf Z.2.1;have hn0:nO W H K k=zao W H q*(zai W H q*K+1):=(by unfold nO;rw[<-E.o,if_neg hpw]);have ap:=yo (dl.o (zai W H q) (zao W H q) aU Z.1 bf Z.2.1);rw[<-hn0] at ap;have aP:=yo (fun w A' c' (h:RdB w B A' (nO W H K k) ((rs.drop (oO W H K k)).take (nO W H K k))) (O:B<=w.heap.size) (hc:nO W H K k<=c')=>zi7 (zai W H q) (zao W H q) C D K (zai W H q*K) (nO W H K k) c' B A' _ w bZ rfl h O (Nat.le_of_eq hn0.symm) hc (by omega));obtain⟨R,hR⟩:∃R,unF K (zai W H q*K) ((rs.drop (oO W H K k)).take (nO W H K k)) (zao W H q)=R:=⟨_,rfl⟩;rw[hR] at aP;have aH:Hid (uO W H C D K rs k=unT (zai W H q) (zao W H q) C D R):=(show _=_ by
     rw[<-hR];unfold uO;rw[<-E.o,if_neg hpw])
    have cA:Hid (∀p,R=some p->p.1.length=zai W H q*zao W H q*K):=(show ∀p,_ from fun p e=>by
     rw[e] at hR;have hl:=(zfZ hR (by rw[llt,lld,cd.o,Nat.min_eq_left (by omega),hn0];exact nlr _)).1;rw[hl,Nat.mul_comm,Nat.mul_assoc,Nat.mul_comm K,<-Nat.mul_assoc])
    have bL:Hid (∀o px,sO W H K k o px=spF W K (gT q).1.1 (gT q).1.2 (gT q).2.1 (gT q).2.2 (zai W H q) o px (zai W H q*zao W H q)):=(show ∀o px,_ from fun o px=>by unfold sO;rw[<-E.o]);have al:=zn2 (W:=W) (H:=H) (k:=q);have d5:=yo al.1;have dO:=yo al.2;have bq:=yo (fun m (hm:m<zai W H q*zao W H q)=>zmp (K:=K) (m:=m) al.1 al.2 hm);have bp:=yo (fun(o:List UInt8) (hs1:o.length=zai W H q*zao W H q*K) (hp1:px.length=H*(W*K))=>zjS (K:=K) al.1 al.2 hp1 hs1);rw[bY.o] at bq bp;have dP:(gT q).1.1<=4/\(gT q).1.2<=4/\(gT q).2.1<=8/\(gT q).2.2<=8:=⟨(zdp q).1,(zdp q).2.1,(zdp q).2.2.2.2.2.1,(zdp q).2.2.2.2.2.2.2⟩;have dN:=yo (fun w=>dz.o q w cl ca);have cv:=Z.1;have bH:=Z.2.1;have eb:((zai W H q:Int)==0)=false:=(by rw[beq_eq_false_iff_ne];omega);clear hR bZ hn0 hpw Z al;generalize nO W H K k=nk at *;obtain⟨ok,bF⟩:∃x,oO W H K k=x:=⟨_,rfl⟩;rw[bF] at aI aq aR aP cC;generalize zai W H q=S at *;generalize zao W H q=ph at *;generalize (gT q).1.1=x at *;generalize (gT q).1.2=y at *;generalize (gT q).2.1=dx at *;generalize (gT q).2.2=dy at *;clear bF;have cK:nk<=mr:=(by have:=aq.o;omega);have du:nk<=cr:=nlt cK a7.o;have b2:=yo cK;go_upto_region 8 with(go_at_call 64;(with_reducible refine(bi.o _).mono ?_);go_must (rintro e w4 ⟨rfl,s⟩;have N:=yo (bM.o.later s);obtain⟨c0,c1,c2,c3⟩:=N.o.c4;have f0:=N.o.frozen 0;have f1:=N.o.frozen 1;have aa:=yo (bR.o.trans (s.mono (show U<=wz.heap.size by omega)));clear s d0 d1 d2 d3));obtain⟨V,ac⟩:∃V,((w4.setCell ⟨U,0,none⟩ (.int .i64 (S:Int))).setCell ⟨U,1,none⟩ (.int .i64 (ph:Int)))=V:=⟨_,rfl⟩;have HG:Hid (Arr V U [.int .i64 (S:Int),.int .i64 (ph:Int),.int .i64 (C:Int),.int .i64 (D:Int)]):=(show Arr _ _ _ by rw[<-ac];exact(N.o.set 0 _).set 1 _);have ai:Hid (Below U wr V):=(show Below _ _ _ by rw[<-ac];exact(aa.o.setCell (p:=⟨U,0,none⟩) (nlr _) _).setCell (p:=⟨U,1,none⟩) (nlr _) _);(try simp only[ac]);clear ac N aa c0 c1 c2 c3 f0 f1;have ab:=yo (ai.o.mono (Nat.le_of_eq b7.o));have aL:=yo (aE.o.later ab.o);have aG:=yo (bn.o.later ab.o);have aC:Hid (RdB V B Ar mr (rs.drop ok)):=(show RdB _ _ _ _ _ from RdB.blw aI.o (ai.o.mono (by omega)));have aJ:=yo (az.o.trans (ai.o.mono bE));have ae:Hid (U<V.heap.size/\z<=V.heap.size/\B<=V.heap.size):=(show _/\_ from⟨HG.o.lt,by have:=HG.o.lt;omega,by have:=HG.o.lt;omega⟩);obtain⟨g0,g1,g2,g3⟩:=HG.o.c4;have dV:(nk:Int)<=(cr:Int):=(by omega);go_upto_region 9 with fail;go_cut [10,11] (fun d8 dG wx=>∃A4 n4 c4,d8=.slice A4 n4 c4/\dG=.bool R.isSome/\ownB wx V.heap.size (.slice A4 n4 c4) (zjO R)/\Below V.heap.size V wx)
    case first =>
     go_region_held3 (fun w'=>w'.cell? ⟨U,0,none⟩=some (.int .i64 (S:Int))/\w'.cell? ⟨U,1,none⟩=some (.int .i64 (ph:Int))/\w'.cell? ⟨U,2,none⟩=some (.int .i64 (C:Int))/\w'.cell? ⟨U,3,none⟩=some (.int .i64 (D:Int)))
      (first|go_keep|(with_reducible exact⟨g0,g1,g2,g3⟩)|(with_reducible exact⟨r0,r1,r2,r3⟩)|(with_reducible exact⟨q0,q1,q2,q3⟩))
      (first
      |(go_at_call 63;(with_reducible refine(ap.o _).mono ?_);go_must (rintro e w6 ⟨rfl,P⟩;have r:Below V.heap.size V w6:=⟨P.os,P.tape,P.output,P.size,P.block⟩;have dD:=yo (HG.o.later r);obtain⟨r0,r1,r2,r3⟩:=dD.o.c4;have dM:=yo r;have bm:=r.size;have bA:=yo (aP.o w6 Ar cr (RdB.pre (RdB.blw aC.o (r.mono ae.o.2.2)) b2.o) (nlt ae.o.2.2 bm) du);clear P r))
      |(go_at_call 39;(with_reducible refine bA.o.mono ?_);go_must (rintro e w7 ⟨v7,rfl,bu,cc⟩;obtain⟨A4,c4,dC,-,-,-⟩:=bu.form;subst dC;have dI:Hid (ownB w7 V.heap.size (.slice A4 (zjO R).length c4) (zjO R)):=ownB.mono bu bm;have bJ:=yo (dM.o.trans (cc.mono bm));have di:=yo (HG.o.later bJ.o);obtain⟨q0,q1,q2,q3⟩:=di.o.c4;clear bu cc)))
     all_goals
      go_wp2_with fail;go_meet
      case rel=>exact⟨_,_,_,rfl,rfl,dI.o,bJ.o⟩
    case rest =>
    obtain⟨A4,n4,c4,rfl,rfl,aM,s⟩:=hcut;have bw:=yo (HG.o.later s);have cD:=yo (aL.o.later s);have c7:=yo (aG.o.later s);have b4:Hid (RdB wc B Ar mr (rs.drop ok)):=(show RdB _ _ _ _ _ from RdB.blw aC.o (s.mono ae.o.2.2));have aa:=yo (aJ.o.trans (s.mono ae.o.2.1));have bt:=yo aM;have b5:Hid (n4=(zjO R).length):=(show _=_ by
     obtain⟨A5,c5,e5,-,-,-⟩:=aM.form;injection e5)
    have dB:Hid ((Value.slice A4 n4 c4).ownBlock≠some M):=zbu aM (by have h1:=a4.o;have h2:=HG.o.lt;have h3:=ab.o.size;omega);have bo:=s.size;have N:Hid (z<=wc.heap.size):=(show _<=_ from nlt ae.o.2.1 bo);clear aM s HG aL aG aC aJ g0 g1 g2 g3;cases hRc:R with
    |none =>
     have a6:=yo (ce.o.blw aa.o (show bx+1<z by omega));have bg:=yo (ck.o.trans (aa.o.mono (show bx<=z by omega)));obtain⟨z0,z1,z2,z3,z4⟩:=a6.o.c5;obtain⟨f0,f1,f2,f3,f4⟩:=a6.o.q5;have HU:Hid (zdM 7 W H C D (uO W H C D K rs) (sO W H K) (List.replicate g 0)=(⟨0,0,0,0⟩,[],4)):=(show _=_ by
      unfold zdM;rw[if_neg (by decide),zkK (cN.o (by rw[aH.o,hRc];show ¬(4:Int)=0;decide)) 7 (by have:=E.o;omega)])
     clear hRc;dsimp only[Option.isSome];go_wp2_with fail;refine bodyPost_ret (v:=.tuple #[.agg #[.int .i64 0,.int .i64 0,.int .i64 0,.int .i64 0,.slice none 0 0],.bool false]) ?_ rfl ?_
     ·unfold results
      go_simp
     ·rw[HU.o]
      exact⟨_,rfl,ownB.nil_ _ _,((((bg.o.setCell (p:=⟨bx+1,0,none⟩) (Nat.le_succ _) _).setCell (p:=⟨bx+1,1,none⟩) (Nat.le_succ _) _).setCell (p:=⟨bx+1,2,none⟩) (Nat.le_succ _) _).setCell (p:=⟨bx+1,3,none⟩) (Nat.le_succ _) _).setCell (p:=⟨bx+1,4,none⟩) (Nat.le_succ _) _⟩
    |some p =>
     dsimp only[Option.isSome];rw[hRc] at bt b5;have aZ:=yo (cA.o p hRc);have aK:Hid (zdL (uO W H C D K rs) (sO W H K) (List.replicate g 0) (q+1-1)=some (spF W K x y dx dy S p.1 px (S*ph))):=(show _=_ by
      rw[Nat.add_sub_cancel,E.o,<-bL.o];have h9:=b3.o (by rw[aH.o,hRc];rfl);rw[aH.o,hRc] at h9;exact h9)
     have ba:Hid (ownB wc V.heap.size (.slice A4 n4 c4) p.1):=bt;have a9:Hid (n4=S*ph*K):=(show _=_ from b5.o.trans aZ.o);have cx:px.length=g:=by
      obtain⟨A5,c5,e5,-,-,-⟩:=aE.o.form;injection e5 with _ e5 _;exact e5.symm
     have aW:=yo (bp.o p.1 aZ.o cx);clear hRc bt b5 cA bp b3 cN aH aP bL;generalize p.1=o at *;obtain⟨g0,g1,g2,g3⟩:=bw.o.c4;have bd:S*ph<=65536:=Nat.mul_le_mul cv bH;go_upto_region 12 with fail;go_cut [1] (fun v1 wx=>∃Aq mq cq,v1=.slice Aq mq cq/\RdB wx B Aq mq (rs.drop (ok+nk))/\mq=m-(ok+nk)/\mq<=cq/\Below wc.heap.size wc wx)
     case first =>
      by_cases hce:cr=nk
      ·have bs:=yo hce
       go_wp2_with (go_at_call 63;(with_reducible refine(ap.o _).mono ?_);go_must (rintro e w8 ⟨rfl,aD⟩;have a5:=yo aD;clear aD));go_meet
       case rel=>exact⟨Ar,mr-nk,0,rfl,(by rw[<-List.drop_drop];exact zhJ (c:=0) (A':=Ar) (RdB.blw b4.o (a5.o.mono (nlt ae.o.2.2 bo))) b2.o (by have h1:=a7.o;have h2:=bs.o;omega)),(by have:=aq.o;omega),(by have h1:=a7.o;have h2:=bs.o;omega),a5.o⟩
      ·have bs:=yo hce
       go_wp2_with (go_at_call 63;(with_reducible refine(ap.o _).mono ?_);go_must (rintro e w8 ⟨rfl,aD⟩;have a5:=yo aD;clear aD));go_meet
       case rel=>exact⟨_,mr-nk,cr-nk,rfl,(by rw[<-List.drop_drop];exact zhJ (c:=0) (RdB.blw b4.o (a5.o.mono (nlt ae.o.2.2 bo))) b2.o (fun _=>rfl)),(by have:=aq.o;omega),(by have:=a7.o;omega),a5.o⟩
     case rest =>
     obtain⟨Aq,mq,cq,rfl,cs,bD,cL,am⟩:=hcut;have c8:=yo cs;have cY:Hid (mq=m-oO W H K (q+1-1)):=(show _=_ by rw[Nat.add_sub_cancel,E.o,aR.o];exact bD);have de:=yo cL;have cu:=yo (bw.o.later am);have c6:=yo (cD.o.later am);have bC:=yo (c7.o.later am);have cG:=yo (ba.o.later am);have ch:=yo (aa.o.trans (am.mono N.o));have dp:=am.size;clear cs bD cL am g0 g1 g2 g3 bw cD c7 b4 aa ba;go_upto_region 14 with(go_at_call 66;(with_reducible refine(dN.o _).mono ?_);go_must (rintro e w9 ⟨rfl,ak⟩;have dt:=yo (cu.o.later ak);have cT:=yo (c6.o.later ak);have dg:=yo (bC.o.later ak);have dd:=yo (cG.o.later ak);have bh:=yo (ch.o.trans (ak.mono (nlt N.o dp)));have cm:=yo (RdB.blw c8.o (ak.mono (by have h1:=ae.o.2.2;omega)));clear ak));clear cu c6 bC cG ch c8;obtain⟨PP,aQ⟩:∃x,S*ph=x:=⟨_,rfl⟩;have dU:IntKind.i64.wrap ((S:Int)*(ph:Int))=(PP:Int):=(by rw[<-aQ,<-Int.natCast_mul];exact zaa _ (by omega));rw[aQ] at aK a9 bq aW bd;have dL:=yo aQ;have dA:Hid (U≠M):=(show _≠_ by have h1:=a4.o;have h2:=b7.o;omega);obtain⟨ep,ew,cH,cE⟩:=dP;clear aQ;go_wp2_with fail;go_loopw [16] (fun vi wr=>∃i:Nat,i<=PP/\vi=.int .i64 (i:Int)/\Hid (ownB wr z (.slice (some ⟨M,0,none⟩) g g) (spF W K x y dx dy S o px i))/\Hid (w9.grownBy wr (some M))) (fun vi _=>PP-(intOf vi).toNat)
     case atStart=>exact⟨0,Nat.zero_le _,rfl,cT,zeq _ _⟩
     case round =>
      clear cT;obtain⟨i,hi,rfl,cz,L⟩:=hrel;have cg:=yo (dt.o.gro L.o dA.o);have bV:=yo (dg.o.gro L.o cX.o);have g0:=cg.o.cell (k:=0) rfl;have g1:=cg.o.cell (k:=1) rfl;by_cases hli:i<PP
      ·have bN:(i:Int)<(PP:Int):=by omega
       obtain⟨r0,r1,r2,r3,r4⟩:=bV.o.c5;obtain⟨I,hI⟩:∃x,i % S=x:=⟨_,rfl⟩;obtain⟨J,hJ⟩:∃x,i / S=x:=⟨_,rfl⟩;have bB:I<S:=(by rw[<-hI];exact Nat.mod_lt _ (by omega));have cW:J<ph:=(by rw[<-hJ];exact Nat.div_lt_of_lt_mul (by rw[dL.o];exact hli));have e9:(i:Int).tmod (S:Int)=(I:Int):=(by rw[<-hI];rfl);have er:(i:Int) % (S:Int)=(I:Int):=(by rw[<-hI];rfl);have es:(i:Int).tdiv (S:Int)=(J:Int):=(by rw[<-hJ];rfl);have ej:(i:Int) / (S:Int)=(J:Int):=(by rw[<-hJ];rfl);have ey:¬(S:Int)=0:=(by omega);have dY:¬S=0:=(by omega);obtain⟨ID,aw⟩:∃x,I*dx=x:=⟨_,rfl⟩;obtain⟨JD,ax⟩:∃x,J*dy=x:=⟨_,rfl⟩;have cf:ID<=2048:=(by rw[<-aw];exact nlt (Nat.mul_le_mul (show I<=256 by omega) cH) (by decide));have cP:JD<=2048:=(by rw[<-ax];exact nlt (Nat.mul_le_mul (show J<=256 by omega) cE) (by decide));obtain⟨X1,cn⟩:∃a,x+ID=a:=⟨_,rfl⟩;obtain⟨Y1,cQ⟩:∃a,y+JD=a:=⟨_,rfl⟩;have bK:X1<W:=(by have:=d5.o I bB;rw[aw] at this;omega);have bG:Y1<H:=(by have:=dO.o J cW;rw[ax] at this;omega);obtain⟨T,hT⟩:∃a,(Y1*W+X1)*K=a:=⟨_,rfl⟩;have b1:spA W K x y dx dy S i=T:=by
        unfold spA;rw[hI,hJ,aw,ax,cQ,Nat.add_assoc,cn,hT]
       have bk:=bq.o i hli;rw[b1] at bk;obtain⟨F,hF⟩:∃a,i*K=a:=⟨_,rfl⟩;have cp:F+K<=n4:=by
        rw[a9.o,<-hF,<-Nat.succ_mul];exact Nat.mul_le_mul_right _ hli
       have cF:n4<=524288:=(by rw[a9.o];exact Nat.mul_le_mul bd dm);have ed:IntKind.i64.wrap (I:Int)=(I:Int):=zaa _ (by omega);have ee:IntKind.i64.wrap (J:Int)=(J:Int):=zaa _ (by omega);have ek:IntKind.i64.wrap ((I:Int)*(dx:Int))=(ID:Int):=(by rw[<-aw,<-Int.natCast_mul];exact zaa _ (by rw[aw];omega));have eu:IntKind.i64.wrap ((J:Int)*(dy:Int))=(JD:Int):=(by rw[<-ax,<-Int.natCast_mul];exact zaa _ (by rw[ax];omega));have ez:IntKind.i64.wrap ((x:Int)+(ID:Int))=(X1:Int):=by rw[show(x:Int)+(ID:Int)=(X1:Int) by omega];exact zaa _ (by omega)
       have ec:IntKind.i64.wrap ((y:Int)+(JD:Int))=(Y1:Int):=by rw[show(y:Int)+(JD:Int)=(Y1:Int) by omega];exact zaa _ (by omega)
       have eh:IntKind.i64.wrap ((i:Int)*(K:Int))=(F:Int):=(by rw[<-hF,<-Int.natCast_mul];exact zaa _ (by rw[hF];omega));have ev:IntKind.i64.wrap ((F:Int)+(K:Int))=(F:Int)+(K:Int):=by rw[show(F:Int)+(K:Int)=((F+K:Nat):Int) by omega];exact zaa _ (by omega)
       have el:IntKind.i64.wrap ((i:Int)+1)=(i:Int)+1:=by rw[show(i:Int)+1=((i+1:Nat):Int) by omega];exact zaa _ (by omega)
       have a8:=fun w=>dK.o X1 Y1 T (X1:Int) (Y1:Int) M w rfl rfl bK bG hT
       simp only[Nat.zero_add] at a8;have cS:=yo a8;have aO:Hid (ownB wr V.heap.size (.slice A4 n4 c4) o):=(show ownB _ _ _ _ from dd.o.kept (v':=.slice (some ⟨M,0,none⟩) g g) L.o (.inr dB.o));obtain⟨-,g4,rfl,-,-⟩:=aO.o.pos (show 0<n4 by omega);have e7:n4<=c4:=by
        obtain⟨A5,c5,e5,-,h5,-⟩:=aO.o.form;injection e5 with _ e5 e6;omega
       have dq:Hid (RdB wr wr.heap.size (some ⟨g4,F,none⟩) K ((o.drop F).take K)):=(show RdB _ _ _ _ _ from RdB.cut aO.o.rd cp (fun _=>by simp[Addr.add]));have ef:F<=F+K:=(by omega);have eg:F+K<=c4:=(by omega);have ea:¬c4=F:=(by omega);have dZ:(F:Int)<=(F:Int)+(K:Int):=(by omega);have dW:(F:Int)+(K:Int)<=(c4:Int):=(by omega);have u1:((F:Int)+(K:Int)).toNat-F=K:=(by omega);have u2:((F:Int)+(K:Int)).toNat=F+K:=(by omega);have ci:Hid (T+K<=g):=bk;have bv:Hid (spF W K x y dx dy S o px (i+1)=splice (spF W K x y dx dy S o px i) T ((o.drop F).take K)):=(show _=_ by rw[spF,b1,hF]);have da:Hid (g=(spF W K x y dx dy S o px i).length):=(show _=_ from(aW.o i (by omega)).symm);clear hI hJ aw ax cn cQ hT b1 bk hF cp cF a8 aO bK bG bB cW cf cP;go_upto_region 17 with fail
       go_region_law (first
        |(go_simp;go_at_call 67;(with_reducible refine(cS.o _).mono ?_);go_must (rintro e w6 ⟨rfl,P⟩;have r:Below wr.heap.size wr w6:=⟨P.os,P.tape,P.output,P.size,P.block⟩;have dJ:=yo (cz.o.later r);have ds:Hid (RdB w6 wr.heap.size (some ⟨g4,F,none⟩) K ((o.drop F).take K)):=(show RdB _ _ _ _ _ from RdB.blw dq.o r);have dj:=yo (zd0 L.o (zhm r (some M)));clear P r))
        |(refine zji rfl (.tmp 93) (.tmp 103) rfl z M g g _ dJ.o da.o T _ _ rfl wr.heap.size K _ _ _ rfl ds.o (nlr _) ci.o ?_;intro w8 cM bX))
       all_goals
        have dH:Hid (ownB w8 z (.slice (some ⟨M,0,none⟩) g g) (spF W K x y dx dy S o px (i+1))):=(show ownB _ _ _ _ by rw[bv.o];exact cM);have db:=yo (zd0 dj.o bX);clear cM bX;go_wp2_with fail;go_roundw
        case rel=>exact⟨i+1,by omega,by go_num,dH,db⟩
        case measure=>simp[intOf];omega
      ·obtain rfl:i=PP:=by omega
       have bN:¬(i:Int)<(i:Int):=(by omega);have dc:Hid (Below z wm wr):=(show Below _ _ _ from bh.o.trans ⟨L.o.os,L.o.tape,L.o.output,L.o.size,fun a ha=>L.o.block a (by have h1:=bh.o.size;have h2:=bl.o;omega) (fun e=>by injection e with e;have:=a4.o;omega)⟩);have bU:Hid (RdB wr B Aq mq (rs.drop (oO W H K (q+1-1)))):=(show RdB _ _ _ _ _ by
        rw[Nat.add_sub_cancel,E.o,aR.o];exact RdB.blw cm.o ⟨L.o.os,L.o.tape,L.o.output,L.o.size,fun a ha=>L.o.block a (by have h1:=bh.o.size;have h2:=bl.o;omega) (fun e=>by injection e with e;have:=a4.o;omega)⟩)
       have aN:=bP.o;go_wp2_with fail;go_roundw
       case rel=>exact⟨q+1,_,Aq,mq,cq,by omega,by omega,by go_num,rfl,aK,cz,bV,bU,cY,de,dc⟩
       case measure=>simp[intOf];omega
  ·have bW:¬(q:Int)<=7:=by omega
   obtain rfl:k=7:=by have:=E.o;omega
   have a6:=yo (ce.o.blw az.o (show bx+1<z by omega));have bg:=yo (ck.o.trans (az.o.mono (show bx<=z by omega)));obtain⟨g0,g1,g2,g3,g4⟩:=bn.o.c5;obtain⟨z0,z1,z2,z3,z4⟩:=a6.o.c5;obtain⟨f0,f1,f2,f3,f4⟩:=a6.o.q5;have eo:¬G0=bx+1:=(by have:=b9.o;omega);have dX:¬bx+1=G0:=(by have:=b9.o;omega);have aF:Hid ((Value.slice (some ⟨M,0,none⟩) g g).ownBlock≠some (bx+1)):=zbu aE.o (by omega);go_wp2_with fail;refine bodyPost_ret (v:=.tuple #[.agg #[.int .i64 (W:Int),.int .i64 (H:Int),.int .i64 (C:Int),.int .i64 (D:Int),.slice (some ⟨M,0,none⟩) g g],.bool true]) ?_ rfl ?_
   ·unfold results
    go_simp
   ·have hU:zdM 7 W H C D (uO W H C D K rs) (sO W H K) (List.replicate g 0)=(⟨W,H,C,D⟩,px,0):=by
     unfold zdM;rw[if_neg (by decide),ao.o]
    rw[hU];exact⟨_,rfl,(((((aE.o.far aF.o 0 _).far aF.o 1 _).far aF.o 2 _).far aF.o 3 _).far aF.o 4 _).mono (by omega),((((bg.o.setCell (p:=⟨bx+1,0,none⟩) (Nat.le_succ _) _).setCell (p:=⟨bx+1,1,none⟩) (Nat.le_succ _) _).setCell (p:=⟨bx+1,2,none⟩) (Nat.le_succ _) _).setCell (p:=⟨bx+1,3,none⟩) (Nat.le_succ _) _).setCell (p:=⟨bx+1,4,none⟩) (Nat.le_succ _) _⟩
end Go.Proofs.YtebbdifhiihfkaaGreatDoor

