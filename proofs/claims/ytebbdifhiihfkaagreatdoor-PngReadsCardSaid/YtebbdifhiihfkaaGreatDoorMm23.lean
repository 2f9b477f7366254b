/- XNewG XNextG -/
import Derived.Test.YtebbdifhiihfkaaGreatDoorMm15
namespace Go.Proofs.YtebbdifhiihfkaaGreatDoor
set_option linter.all false
set_option maxRecDepth 100000
set_option maxHeartbeats 3200000
open Go.RowKit
/-- A decoder of one's own, from block lo on. -/
def zjI(w:World)(lo g:Nat)(ls:List Int):Prop:=∃A c,Arr w g (zbW ls 16 (.slice A (zaF ls 15).length c))/\ownI w (g+1) (.slice A (zaF ls 15).length c) (zaF ls 15)/\lo<=g
def zs6(w:World)(ls:List Int)(e:Ending)(w':World):Prop :=
 ∃v,e=.returned (.tuple #[v,.int .i64 (nwE ls)])/\(nwE ls=0->∃g,v=.pointer (some ⟨g,0,none⟩)/\zjI w' w.heap.size g ls)/\(nwE ls≠0->v=.pointer none)/\Below w.heap.size w w'
theorem zul(B n c:Nat)(A:Option Addr)(ls:List Int)(w:World)(h:RdI w B A n ls)(M:B<=w.heap.size)(hn:n<=1099511627776):
  Calls Tryz.prog 160 #[.slice A n c] w fun e w'=>zs6 w ls e w':=by
 have HC:=yo (zkj B n c A ls w h M hn);by_cases hE:cdE ls=0
 ·obtain⟨g1,g2,g3⟩:=zif hE
  have HL:=yo h.len;have ai:n<=300:=by have:=h.len;omega
  have av:=yo g1;have P:Hid (nwE ls=if(zaF ls 15).length=0 then 4 else 0):=(show _=_ by unfold nwE;rw[if_pos hE]);have aj:=yo (fun(w':World) (hb:Below w.heap.size w w')=>ziK B n c A ls w' (h.blw (hb.mono M)) (nlt M hb.size) ai g1 g2);have H:=yo h;rw[hE] at HC;clear h hE g1 g2 g3;go_enter Tryz.func160,Tryz.ntmps160;go_wp2_with (first
   |(go_at_call 148;(with_reducible refine HC.o.mono ?_);go_must (rintro e w1 ⟨A1,n1,c1,rfl,-,-,C⟩;have aa:=yo C;have N:=C.size;clear C))
   |(go_at_call 168;(with_reducible refine(aj.o _ (aa.o.alloc N _)).mono ?_);go_must (rintro e w2 ⟨rfl,O⟩;have ap:=O.size;simp only[wsa] at ap;have Y:=yo (show Arr w2 w1.heap.size decZ from Arr.later (Arr.new w1 decZ 236) O);have ag:=yo ((aa.o.alloc N (.cells decZ.toArray 236)).trans (O.mono (by simp;omega)));clear O))
   |(refine zfe rfl 219 (.tmp 28) (.tmp 25) rfl w1.heap.size 0 decZ (cU (zav ls 16)) (zie ls) rfl rfl Y.o (Tryz.size_u16.trans (by simp[cU,zav])) (by rw[zbA];decide) (zgY _) (zt5 _ _ _ (by simp[cU,zav])) ?_;have R:=yo (Y.o.row (zie ls));have L:=yo (zbi ag.o (g:=w1.heap.size) N (zie ls).toArray))
   |(refine zfe rfl 220 (.tmp 30) (.tmp 26) rfl w1.heap.size 16 (zie ls) (cI (zaQ ls)) (zbW ls 1 (.slice none 0 0)) rfl rfl R.o (Tryz.size_i16.trans (by simp[cI,zaQ,zbV])) (by rw[zcS,zsB];decide) (zfP _) (by unfold zbW;rw[zt3];exact zt6 _ _ _ _ 16 (by rw[zbA]) (by simp[cI,zaQ,zbV])) ?_;have T:=yo (R.o.row (zbW ls 1 (.slice none 0 0)));have z:=yo (zbi L.o (g:=w1.heap.size) N (zbW ls 1 (.slice none 0 0)).toArray)))
  clear Y R aa ag L HC aj;generalize hg:w1.heap.size=g at *;generalize (w2.setRow g (zie ls).toArray).setRow g (zbW ls 1 (.slice none 0 0)).toArray=wa at *;have a1:=T.o.lt;go_loopw [7] (fun Z wr=>∃l:Nat,1<=l/\l<=16/\Z=.int .i64 l/\∃A c,Hid (Arr wr g (zbW ls l (.slice A (zaF ls (l-1)).length c)))/\Hid (ownI wr (g+1) (.slice A (zaF ls (l-1)).length c) (zaF ls (l-1)))/\Hid (Below w.heap.size w wr))
   (fun Z _=>17-(intOf Z).toNat)
  case atStart=>exact⟨1,by omega,by omega,rfl,none,0,T,ownI.nil_ _ _,z⟩
  case round =>
   clear T z;obtain⟨l,al,az,rfl,Ap,cp,r,u,I⟩:=hrel;by_cases hlt:l<=15
   ·have ay:(l:Int)<=15:=by omega
    have au:(l:Int)<16:=(by omega);have c3:=r.o.cell (zg2 ls l _);have c2:=r.o.cell ((znD ls l _ (t:=l) (by omega)).trans (zsx ls (nlr l) (by omega)));have f2:=r.o.frozen (32+l);have D:=zju ls (l-1);have aw:(zaF ls (l-1)).length<=4500:=nlt D (by have:=HL.o;rw[this];exact nlt (Nat.mul_le_mul (show l-1<=15 by omega) ai) (by decide));clear D;have ak:=yo (show Arr (wr.setCell ⟨g,32+l,none⟩ (.int .i64 ((zaF ls (l-1)).length:Int))).drew g (zbW ls (l+1) (.slice Ap (zaF ls (l-1)).length cp)) from by
     rw[<-zqx ls _ al (by omega)];exact(r.o.set (32+l) _).drew)
    have ab:=yo (ownI.drew (ownI.far u.o (ownI.ne u.o (show g<g+1 by omega)) (32+l) (.int .i64 ((zaF ls (l-1)).length:Int))));have ac:=yo (Below.drew (I.o.setCell (p:=⟨g,32+l,none⟩) (by show w.heap.size<=g;omega) (.int .i64 ((zaF ls (l-1)).length:Int))));clear r u I;go_wp2_with fail
    go_region_law (fail)
    go_simp;go_wp2_with fail;have ae:Hid (zaF ls (l-1)++plc ls l n=zaF ls (l+1-1)):=(show _=_ by
     obtain⟨q,rfl⟩:∃q,l=q+1:=⟨l-1,by omega⟩;rw[Nat.add_sub_cancel,Nat.add_sub_cancel,zaF,HL.o])
    have V:Hid (zaF ls (l-1)=zaF ls (l-1)++plc ls l 0):=(show _=_ by simp[plc]);generalize hU:zaF ls (l-1)=U at *;go_loopw [47] (fun Z wr=>∃k:Nat,k<=n/\Z=.int .i64 k/\∃A c,Hid (Arr wr g (zbW ls (l+1) (.slice A (U++plc ls l k).length c)))/\Hid (ownI wr (g+1) (.slice A (U++plc ls l k).length c) (U++plc ls l k))/\Hid (Below w.heap.size w wr))
     (fun Z _=>n-(intOf Z).toNat)
    case atStart=>exact⟨0,Nat.zero_le _,rfl,Ap,cp,by rw[<-V.o];exact ak,by rw[<-V.o];exact ab,ac⟩
    case round =>
     clear ak ab ac V c3 c2 f2;obtain⟨k,hk,rfl,Aq,cq,r,u,I⟩:=hrel;by_cases hlt2:k<n
     ·obtain⟨b,o,x,rfl,hb,HX,e1⟩:=(H.o.blw (I.o.mono M)).one hlt2
      have a3:(U++plc ls l k).length<=4800:=by
       rw[lla,ze4];have:=zfc ls k l;have h2:=zlC ls l;have h3:=HL.o;omega
      by_cases hxl:x=(l:Int)
      ·subst hxl
       have F:Hid (U++plc ls l (k+1)=U++plc ls l k++[(k:Int)]):=(show _=_ by rw[plc,if_pos HX.o,List.append_assoc]);have ax:=r.o.lt;have c3:=r.o.cell (zg2 ls (l+1) _);have an:((l:Int)==(l:Int))=true:=(by simp);generalize am:U++plc ls l k=LK at *;clear am;go_wp2_with (at_builtin;go_must (refine zay rfl (.tmp 59) (.tmp 61) rfl (g+1) _ LK rfl (ownI.alloc u.o _) (wr.heap.size+1) 1 1 (some ⟨wr.heap.size,0,none⟩) [(k:Int)] rfl (zbv wr (k:Int)) (by omega) (by simp;omega) ?_;intro v1 w3 s ao X ar;obtain⟨A3,c3,rfl,aq,-,-⟩:=s.form;rw[show(LK++[(k:Int)]).length=LK.length+1 by simp] at s ⊢;have W:=yo ((r.o.alloc (.cells #[.int .i64 (k:Int)] 3)).blw X (Nat.lt_succ_self g));have af:=yo s;have L:=yo ((I.o.alloc (by omega) (.cells #[.int .i64 (k:Int)] 3)).trans (X.mono (by omega)));have a0:=W.o.cell (zg2 ls (l+1) _);have a2:=W.o.frozen 48;clear s ao X ar aq r u I));have S:=yo (W.o.set 48 (.slice A3 (LK.length+1) c3));rw[zoE] at S;have ah:=yo (ownI.far af.o (ownI.ne af.o (show g<g+1 by omega)) 48 (.slice A3 (LK.length+1) c3));have z:=yo (L.o.setCell (p:=⟨g,48,none⟩) (by show w.heap.size<=g;omega) (.slice A3 (LK.length+1) c3));have G:Hid (LK.length+1=(U++plc ls l (k+1)).length):=(show _=_ by rw[F.o];simp);rw[<-F.o,G.o] at ah;rw[G.o] at S z;go_roundw
       case rel=>exact⟨k+1,by omega,by go_num,A3,c3,by rw[G.o];exact S,by rw[G.o];exact ah,by rw[G.o];exact z⟩
       case measure=>simp[intOf];omega
      ·have F:Hid (plc ls l (k+1)=plc ls l k):=(show _=_ by rw[plc,if_neg (by rw[HX.o];simp;exact hxl)])
       have an:(x==(l:Int))=false:=bef hxl;go_wp2_with fail;go_roundw
       case rel=>exact⟨k+1,by omega,by go_num,Aq,cq,by rw[F.o];exact r,by rw[F.o];exact u,I⟩
       case measure=>simp[intOf];omega
     ·obtain rfl:k=n:=by omega
      rw[ae.o] at r u;go_wp2_with fail;go_roundw
      case rel=>exact⟨l+1,by omega,by omega,by go_num,Aq,cq,r,u,I⟩
      case measure=>simp[intOf];omega
   ·obtain rfl:l=16:=by omega
    have c3:=r.o.cell (zg2 ls 16 _);have HD:Hid (zjI wr w.heap.size g ls):=(show zjI _ _ _ _ from⟨Ap,cp,r.o,u.o,by omega⟩);have D:(zaF ls (16-1)).length<=4500:=nlt (zju ls 15) (by have:=HL.o;omega);by_cases hz:(zaF ls 15).length=0
    ·have J:Hid (nwE ls=4):=(show _=_ by rw[P.o,if_pos hz])
     rw[show 16-1=15 from rfl,hz] at c3;clear r u P D hz;go_wp2_with fail;go_ret2;exact⟨_,zaA rfl (by rw[J.o];rfl),fun h=>absurd (J.o.symm.trans h) (by decide),fun _=>rfl,I.o⟩
    ·have J:Hid (nwE ls=0):=(show _=_ by rw[P.o,if_neg hz])
     rw[show 16-1=15 from rfl] at c3 D;clear r u P;generalize (zaF ls 15).length=m at *;have dm:((m:Int)==0)=false:=bef (by omega);go_wp2_with fail;go_ret2;exact⟨_,zaA rfl (by rw[J.o];rfl),fun _=>⟨g,rfl,HD.o⟩,fun h=>absurd J.o h,I.o⟩
 ·have J:Hid (nwE ls=cdE ls/\cdE ls≠0):=(show _/\_ by unfold nwE;rw[if_neg hE];exact⟨rfl,hE⟩)
  have de:(cdE ls != 0)=true:=by simp[bne];exact hE
  clear h hE;generalize cdE ls=E at *;go_enter Tryz.func160,Tryz.ntmps160;go_wp2_with (go_at_call 148;(with_reducible refine HC.o.mono ?_);go_must (rintro e w1 ⟨A1,n1,c1,rfl,-,-,C⟩));go_ret2;exact⟨_,zaA rfl (by rw[J.o.1];rfl),fun h=>absurd (J.o.1.symm.trans h) J.o.2,fun _=>rfl,C⟩
end Go.Proofs.YtebbdifhiihfkaaGreatDoor

/- Decoders: the next place, the decoder being newer than the bits' reader. -/
namespace Go.Proofs.YtebbdifhiihfkaaGreatDoor
set_option linter.all false
set_option maxRecDepth 100000
set_option maxHeartbeats 3200000
open Go.RowKit
theorem zs7(B n c gd gr P:Nat)(A:Option Addr)(ls:List Int)(bs:List UInt8)(w:World)(lo:Nat)(hd:zjI w lo gd ls)(aw:gr<lo)(hr:Arr w gr (rdr A n c P))(hb:RdB w B A n bs)(hg:B<=gr)(hP:P<=8*n)(hn:n<=1099511627776)
  (I:zau ls=false) (W:krN ls<=32768) (O:ls.length<=300) :
  Calls Tryz.prog 179 #[.pointer (some ⟨gd,0,none⟩),.pointer (some ⟨gr,0,none⟩)] w fun e w'=>zgj ls bs A n c P gr w e w':=by
 obtain⟨Ad,cd,T,S,ay⟩:=hd;have N:=yo I;have ah:=yo W;have ao:=yo O;have HD:=yo T;have ac:=yo S;have HR:=yo hr;have ag:=yo hb;have az:=hr.lt;have af:=yo hb.len;clear I W T S hr hb O;go_enter Tryz.func179,Tryz.ntmps179;go_wp2_with fail;go_loopw [7,6] (fun vt vv wr=>∃t v Q:Nat,1<=t/\t<=16/\vt=.int .i64 t/\vv=.int .u32 v/\Hid (v<2 ^ (t-1))/\Hid (Q<=8*n)/\Hid (Arr wr gr (rdr A n c Q))/\Hid (w.grownBy wr (some gr))/\Hid (nx ls bs (16-t) t v Q=nx ls bs 15 1 0 P))
  (fun vt _ _=>17-(intOf vt).toNat)
 case atStart=>exact⟨1,0,P,by omega,by omega,rfl,rfl,(show 0<2 ^ (1-1) by decide),hP,HR,zhD _ _,(show _=_ from rfl)⟩
 case round =>
  clear HR;obtain⟨t,v,Q,z,ar,rfl,rfl,HV,HQ,HA,M,X⟩:=hrel;have hQ:=HQ.o;by_cases hlt:t<=15
  ·have ax:(t:Int)<=15:=by omega
   have ap:(t:Int)<16:=(by omega);have u:Hid (nx ls bs (15-t+1) t v Q=nx ls bs 15 1 0 P):=(show _=_ by
    have:=X.o;rwa[show 16-t=15-t+1 by omega] at this)
   by_cases hfit:8*n<Q+1
   ·have HC:=yo (zoH HA.o hn hQ hfit)
    have HE:Hid ((0,2,Q)=nx ls bs 15 1 0 P):=(show _=_ by rw[<-u.o,zlL (by rw[af.o];omega)]);go_wp2_with (go_at_call 126;(with_reducible refine HC.o.mono ?_);go_must (rintro e D ⟨rfl,Y⟩));go_ret2;exact zea HE.o rfl (HA.o.gbN Y) (zd9 M.o (zd8 Y gr))
   ·have HC:=yo (zsC HA.o (ag.o.blw (zd7 M.o (by omega) hg)) hg hn (by omega))
    have U:=zib bs Q;obtain⟨V,hV⟩:∃V,v*2+zaE bs Q=V:=⟨_,rfl⟩;obtain⟨p1,p2,p3⟩:=zlS HV.o z hlt U hV;have aa:=yo p1;have an:=znE v (zaE bs Q) p3 U;rw[hV] at an;have C:=yo hV;have R:¬8*bs.length<=Q:=(by rw[af.o];omega);have L:=yo R;have a1:=zev ls N.o ah.o t hlt;have a0:=yo (fun(h:Hit ls t V V)=>h);clear p1 hV R;generalize s:zaE bs Q=bq at *;have ed:=zvb ls 16 (.slice Ad (zaF ls 15).length cd) (t:=t) (by omega);have ec:=zvc ls 16 (.slice Ad (zaF ls 15).length cd) (t:=t) (by omega);have ef:=(znD ls 16 (.slice Ad (zaF ls 15).length cd) (t:=t) (by omega)).trans (zt2 ls (l:=16) z (by omega) (by omega));have ep:=zg2 ls 16 (.slice Ad (zaF ls 15).length cd);have q:=yo (fun(wx:World) (k:w.grownBy wx (some gr))=>HD.o.gro k (by omega));by_cases h1:V<fst ls t
    ·have HH:Hid (zfd ls t (v*2+bq)=none):=(show _=_ by rw[C.o];exact zic (fun p h=>by have:=zg3 z h;omega))
     have G:Hid (nx ls bs (16-(t+1)) (t+1) V (Q+1)=nx ls bs 15 1 0 P):=(show _=_ by
      rw[<-u.o,zoF L.o (by rw[s];exact HH.o),s,C.o,show 16-(t+1)=15-t by omega])
     generalize fst ls t=F at *;generalize cz ls t=Z at *;have ae:decide ((V:Int)-(F:Int) ≥ 0)=false:=decide_eq_false (by omega);clear X u HH s HV;go_wp2_with (go_at_call 126;(with_reducible refine HC.o.mono ?_);go_must (rintro e D ⟨rfl,r,o⟩;have E:=yo r;have g:=yo (zd9 M.o o);have c0:=(q.o D g.o).cell ed;have c1:=(q.o D g.o).cell ec;clear r o));go_roundw
     case rel=>exact⟨t+1,V,Q+1,by omega,by omega,by go_num,rfl,aa,(show Q+1<=8*n by omega),E,g,G⟩
     case measure=>simp[intOf];omega
    ·obtain⟨j,hj⟩:∃j,V=fst ls t+j:=⟨V-fst ls t,by omega⟩
     have a2:(V:Int)-(fst ls t:Int)=(j:Int):=(by omega);by_cases h2:j<cz ls t
     ·obtain⟨p,J,ab,au⟩:=zvd z (show fst ls t<=V by omega) (show V<fst ls t+cz ls t by omega)
      have H:=zlJ z ab 15 hlt;rw[show V-fst ls t=j by omega] at H;have aj:=(List.getElem?_eq_some_iff.1 H).1;have ai:=yo H;have G:Hid (((p:Int),0,Q+1)=nx ls bs 15 1 0 P):=(show _=_ by
       rw[<-u.o,zqy L.o (by rw[s,C.o];exact zlK J)])
      have am:=zju ls 15;have aq:(zaF ls 15).length<=4500:=(by have:=ao.o;omega);generalize fst ls t=F at *;generalize cz ls t=Z at *;generalize (zaF ls (t-1)).length=fr at *;have ae:decide ((j:Int) ≥ 0)=true:=decide_eq_true (by omega);have al:decide ((j:Int)<(Z:Int))=true:=decide_eq_true (by omega);clear X u s HV J ab H am hj h1;go_wp2_with (go_at_call 126;(with_reducible refine HC.o.mono ?_);go_must (rintro e D ⟨rfl,r,o⟩;have E:=yo r;have g:=yo (zd9 M.o o);have c0:=(q.o D g.o).cell ed;have c1:=(q.o D g.o).cell ec;have c2:=(q.o D g.o).cell ef;have c3:=(q.o D g.o).cell ep;obtain⟨b7,o7,x7,rfl,av,ak,e7⟩:=(ownI.rd (World.ownsRow.kept ac.o g.o (.inr (ownI.ne ac.o (by omega))))).one aj;obtain rfl:x7=(p:Int):=Option.some.inj (ak.o.symm.trans ai.o);clear r o));go_quiet (fail);go_wp2_with fail;go_ret2;exact zea G.o rfl (E.o.drewN _) (zlP g.o _)
     ·have HH:Hid (zfd ls t (v*2+bq)=none):=(show _=_ by rw[C.o];exact zic (fun p h=>by have:=zg3 z h;omega))
      have G:Hid (nx ls bs (16-(t+1)) (t+1) V (Q+1)=nx ls bs 15 1 0 P):=(show _=_ by
       rw[<-u.o,zoF L.o (by rw[s];exact HH.o),s,C.o,show 16-(t+1)=15-t by omega])
      generalize fst ls t=F at *;generalize cz ls t=Z at *;have ae:decide ((j:Int) ≥ 0)=true:=decide_eq_true (by omega);have al:decide ((j:Int)<(Z:Int))=false:=decide_eq_false (by omega);clear X u HH s HV hj h1;go_wp2_with (go_at_call 126;(with_reducible refine HC.o.mono ?_);go_must (rintro e D ⟨rfl,r,o⟩;have E:=yo r;have g:=yo (zd9 M.o o);have c0:=(q.o D g.o).cell ed;have c1:=(q.o D g.o).cell ec;clear r o));go_roundw
      case rel=>exact⟨t+1,V,Q+1,by omega,by omega,by go_num,rfl,aa,(show Q+1<=8*n by omega),E,g,G⟩
      case measure=>simp[intOf];omega
  ·obtain rfl:t=16:=by omega
   have HE:Hid ((0,4,Q)=nx ls bs 15 1 0 P):=(show _=_ by rw[<-X.o];rfl);go_wp2_with fail;go_ret2;exact zea HE.o rfl HA.o M.o
end Go.Proofs.YtebbdifhiihfkaaGreatDoor

