/- XRd11 XRd12 -/
import Derived.Test.YtebbdifhiihfkaaGreatDoorMm26
import Derived.Test.YtebbdifhiihfkaaGreatDoorMm25
import Derived.Test.YtebbdifhiihfkaaGreatDoorMm09
import Derived.Deep.RegionHeld3
namespace Go.Proofs.YtebbdifhiihfkaaGreatDoor
set_option linter.all false
set_option maxRecDepth 100000
set_option maxHeartbeats 6400000
open Go.RowKit
theorem zn5:∀i (h:i<ordL.length),ordL[i]<19:=by decide
section
variable (r g n c : Nat) (A : Option Addr) (bs : List UInt8) (most : Int) (vo : Value) (s : RS) (w : World)
theorem zti(f:Nat)(h:FS w r g A n c bs most vo s)(hm:most<=1000000)(ho:(s.o.length:Int)<=most)(hf:8*n+1<=f):
  Calls Tryz.prog 104 #[.pointer (some ⟨r,0,none⟩)] w fun e w'=>e=.returned (.tuple #[])/\∃a8,FS w' r g A n c bs most a8 (zc0 bs most f s)/\RFr w w' r g vo a8:=by
 have S:=(FR.arr h).lt;have cr:=FR.gr h;have Y:Hid (∀k,vo.ownBlock=some k->k<w.heap.size):=(show ∀k,_ from fun k J=>(olt (FR.own h) k J).2);have cb:=yo (RFr.refl w r g vo);have aX:=yo (zbf r g n c A bs most vo s w 5 5 rfl h (by omega));have aP:Hid (((zaO bs s).2.o.length:Int)<=most):=(show _<=_ by rw[zkF];exact ho);have B:=yo (zo0 bs s)
 -- letters for what is read
 have aq:Hid (zc0 bs most f s=zdX bs most (zaO bs s).1 (hdN bs s) f (zaO bs s).2):=(show _=_ from rfl);have bm:Hid (zaO bs s=zeZ bs (zbJ (hdL bs s).1 (hdL bs s).2) (hdN bs s+hdM bs s) (zaY (hdL bs s).1 false (hdL bs s).2)):=(show _=_ from rfl);have aR:Hid (hdL bs s=zcA bs (ordL.take (4+(zac bs (hdB bs s) 4).1)) (List.replicate 19 0) (zac bs (hdB bs s) 4).2):=(show _=_ from rfl);have ay:Hid (hdB bs s=if 30<hdM bs s then(zac bs (hdA bs s) 5).2.fail 4 else(zac bs (hdA bs s) 5).2):=(show _=_ from rfl);have an:Hid (hdA bs s=if 286<hdN bs s then(zac bs s 5).2.fail 4 else(zac bs s 5).2):=(show _=_ from rfl);have ax:=yo (fun w5 (h:FS w5 r g A n c bs most vo (hdA bs s))=>zbf r g n c A bs most vo (hdA bs s) w5 5 5 rfl h (by omega));have bt:=yo (fun w5 (h:FS w5 r g A n c bs most vo (hdB bs s))=>zbf r g n c A bs most vo (hdB bs s) w5 4 4 rfl h (by omega));have cj:(zac bs s 5).1<32:=zbx bs s (m:=5) (by omega);have ch:(zac bs (hdA bs s) 5).1<32:=zbx bs (hdA bs s) (m:=5) (by omega);have cd:(zac bs (hdB bs s) 4).1<16:=zbx bs (hdB bs s) (m:=4) (by omega);have cp:(257:Int)+((zac bs s 5).1:Int)=(hdN bs s:Int):=by unfold hdN;omega
 have cq:(1:Int)+((zac bs (hdA bs s) 5).1:Int)=(hdM bs s:Int):=by unfold hdM;omega
 have co:257<=hdN bs s/\hdN bs s<=288:=by unfold hdN;omega
 have cn:1<=hdM bs s/\hdM bs s<=32:=by unfold hdM;omega
 generalize zc0 bs most f s=R at *;generalize zaO bs s=LS at *;generalize hdL bs s=DL at *;generalize (zac bs (hdB bs s) 4).1=v3 at *;generalize (zac bs (hdB bs s) 4).2=t3 at *;generalize hdB bs s=sB at *;generalize hdM bs s=M at *;generalize (zac bs (hdA bs s) 5).1=v2 at *;generalize (zac bs (hdA bs s) 5).2=t2 at *;generalize hdA bs s=sA at *;generalize hdN bs s=N at *;generalize (zac bs s 5).1=v1 at *;generalize (zac bs s 5).2=t1 at *;obtain⟨Q,hQ⟩:∃Q,4+v3=Q:=⟨_,rfl⟩;rw[hQ] at aR;have ce:(4:Int)+(v3:Int)=(Q:Int):=by omega
 have ck:4<=Q/\Q<=19:=by omega
 clear hQ h ho;go_enter Tryz.func104,Tryz.ntmps104;go_upto_if 14 with(go_at_call 101;(with_reducible refine aX.o.mono ?_);go_must (rintro e w1 ⟨rfl,bu,br⟩;have ac:=yo bu;have ag:=yo br;clear bu br));go_cut [2] from 10 (fun v wc=>v=.int .i64 (N:Int)/\Hid (FS wc r g A n c bs most vo sA)/\Hid (RFr w wc r g vo vo))
 case first =>
  by_cases h286:286<N
  ·have aQ:(286:Int)<(N:Int):=by omega
   rw[if_pos h286] at an;have G:=yo (za8 r g n c A bs most vo t1 w1 4 ac.o);rw[<-an.o] at G;go_wp2_with (go_at_call 105;(with_reducible refine G.o.mono ?_);go_must (rintro e w2 ⟨rfl,a1,ao⟩;have F:=yo a1;have C:=yo (ag.o.trans ao);clear a1 ao));go_meet
   case rel=>exact⟨rfl,F,C⟩
  ·have aQ:¬(286:Int)<(N:Int):=by omega
   rw[if_neg h286] at an;go_wp2_with fail;go_meet
   case rel=>exact⟨rfl,(show FS _ _ _ _ _ _ _ _ _ _ by rw[an.o];exact ac.o),ag⟩
 case rest =>
  obtain⟨rfl,ac,ag⟩:=hcut;rename_i w1;have ax:=yo (ax.o _ ac.o);go_upto_if 21 with(go_at_call 101;(with_reducible refine ax.o.mono ?_);go_must (rintro e w2 ⟨rfl,a1,ao⟩;have F:=yo a1;have C:=yo (ag.o.trans ao);clear a1 ao));go_cut [3] from 10 (fun v wc=>v=.int .i64 (M:Int)/\Hid (FS wc r g A n c bs most vo sB)/\Hid (RFr w wc r g vo vo))
  case first =>
   by_cases h30:30<M
   ·have bp:(30:Int)<(M:Int):=by omega
    rw[if_pos h30] at ay;have G:=yo (za8 r g n c A bs most vo t2 w2 4 F.o);rw[<-ay.o] at G;go_wp2_with (go_at_call 105;(with_reducible refine G.o.mono ?_);go_must (rintro e w3 ⟨rfl,bO,b1⟩;have aB:=yo bO;have aC:=yo (C.o.trans b1);clear bO b1));go_meet
    case rel=>exact⟨rfl,aB,aC⟩
   ·have bp:¬(30:Int)<(M:Int):=by omega
    rw[if_neg h30] at ay;go_wp2_with fail;go_meet
    case rel=>exact⟨rfl,(show FS _ _ _ _ _ _ _ _ _ _ by rw[ay.o];exact F.o),C⟩
  case rest =>
   obtain⟨rfl,F,C⟩:=hcut;clear an ay ax ac ag aX;have a3:=C.o.size;go_wp2_with (first
    |(at_make;refine zc4 rfl _ _ rfl 19 _ rfl rfl rfl (by omega) ?_;intro w3 aK a2 bq;have bA:=yo (ownI.mono aK a3);have aB:Hid (FS w3 r g A n c bs most vo sB):=(show FS _ _ _ _ _ _ _ _ _ _ from FR.later F.o a2);have aC:=yo (C.o.trans (RFr.ofB a2 r g vo));have bE:=a2.size;clear aK a2)
    |(go_at_call 131;(with_reducible refine(zfx w3).mono ?_);go_must (rintro e w4 ⟨rfl,bM,a4⟩;have aU:=yo (ownI.mono bM (nlt a3 bE));have aW:=yo (bA.o.later a4);have b9:Hid (FS w4 r g A n c bs most vo sB):=(show FS _ _ _ _ _ _ _ _ _ _ from FR.later aB.o a4);have bl:=yo (aC.o.trans (RFr.ofB a4 r g vo));have bc:=yo (bt.o w4 b9.o);clear bM a4))
    |(go_at_call 101;(with_reducible refine bc.o.mono ?_);go_must (rintro e w5 ⟨rfl,b2,aA⟩;have b6:=yo b2;have b0:=yo (bl.o.trans aA);have b8:Hid (ownI w5 w.heap.size (.slice (some ⟨wc.heap.size,0,none⟩) 19 19) (List.replicate 19 0)):=(show ownI _ _ _ _ from ownI.rfr aW.o aA S (by omega) (fun k J u=>by have h1:=Y.o k J;have h2:=(olt aW.o k u).1;omega));have b7:Hid (ownI w5 w.heap.size (.slice (some ⟨w3.heap.size,0,none⟩) 19 19) (ordL.map fun(x:Nat)=>(x:Int))):=(show ownI _ _ _ _ from ownI.rfr aU.o aA S (by omega) (fun k J u=>by have h1:=Y.o k J;have h2:=(olt aU.o k u).1;omega));clear b2 aA)))
   have aw:wc.heap.size≠w3.heap.size:=(by omega);clear bt aB aC bA b9 bl aW aU bc F C;generalize wc.heap.size=G1 at *;generalize w3.heap.size=G2 at *;clear bE bq a3;have bg:Hid (zcA bs ((ordL.take Q).drop 0) (List.replicate 19 0) t3=DL):=(show _=_ from aR.o.symm);go_loopw [31] (fun vi wr=>∃(i:Nat) (L:List Int) (q:RS),i<=Q/\vi=.int .i64 i/\Hid (L.length=19)/\Hid (FS wr r g A n c bs most vo q)/\Hid (RFr w wr r g vo vo)/\Hid (ownI wr w.heap.size (.slice (some ⟨G1,0,none⟩) 19 19) L)/\Hid (ownI wr w.heap.size (.slice (some ⟨G2,0,none⟩) 19 19) (ordL.map fun(x:Nat)=>(x:Int)))/\Hid (zcA bs ((ordL.take Q).drop i) L q=DL)) (fun vi _=>Q-(intOf vi).toNat)
   case atStart=>exact⟨0,_,t3,Nat.zero_le _,rfl,(show(List.replicate 19 (0:Int)).length=19 from rfl),b6,b0,b8,b7,bg⟩
   case round =>
    clear b6 b0 b8 b7 bg;obtain⟨i,L,q,hi,rfl,P,HF,HR,HL,HO,HS⟩:=hrel;have a3:=HR.o.size;by_cases hlt:i<Q
    ·have ba:(i:Int)<(Q:Int):=by omega
     have aI:i<ordL.length:=(by show i<19;omega);have bP:=zn5 i aI;have bx:=yo HS.o;rw[List.drop_eq_getElem_cons (show i<(ordL.take Q).length by rw[llt];show i<min Q 19;omega),List.getElem_take,zcA] at bx;have e1:wr.cell? ⟨G2,i,none⟩=some (.int .i64 (ordL[i]:Int)):=by
      have:=ownI.cell HO.o rfl (k:=i) (by rw[List.length_map];exact aI);rw[List.getElem_map] at this;exact this
     generalize ordL[i]=kk at *;have bY:(kk:Int)<19:=(by omega);have HG:=yo (zbf r g n c A bs most vo q wr 3 3 rfl HF.o (by omega));have hv:=zbx bs q (m:=3) (by omega);generalize (zac bs q 3).1=v at *;generalize (zac bs q 3).2=nx1 at *;go_wp2_with (go_at_call 101;(with_reducible refine HG.o.mono ?_);go_must (rintro e H ⟨rfl,E,t⟩;have bU:=yo E;have au:=yo (HR.o.trans t);have aj:Hid (ownI H w.heap.size (.slice (some ⟨G1,0,none⟩) 19 19) L):=(show ownI _ _ _ _ from ownI.rfr HL.o t S (by omega) (fun k J u=>by have h1:=Y.o k J;have h2:=(olt HL.o k u).1;omega));have b4:Hid (ownI H w.heap.size (.slice (some ⟨G2,0,none⟩) 19 19) (ordL.map fun(x:Nat)=>(x:Int))):=(show ownI _ _ _ _ from ownI.rfr HO.o t S (by omega) (fun k J u=>by have h1:=Y.o k J;have h2:=(olt HO.o k u).1;omega));have c6:=ownI.cell aj.o P.o.symm (k:=kk) (by rw[P.o];exact bP);have f6:=ownI.frozen aj.o P.o.symm kk;have bw:=yo (World.ownsRow.stored (show H.ownsRow w.heap.size _ _ (.slice (some ⟨G1,0,none⟩) 19 19) 19 (cI L) from by have:=aj.o;unfold ownI at this;rwa[P.o] at this) kk (Value.int .i64 (v:Int))).2;have bj:Hid (∀k,(Value.slice (some ⟨G1,0,none⟩) 19 19).ownBlock=some k->w.heap.size<=k):=(show ∀k,_ from fun k J=>(olt aj.o k J).1);clear E t));go_roundw
     case rel=>exact⟨i+1,L.set kk (v:Int),nx1,by omega,by go_num,(show _=_ by rw[List.length_set];exact P.o),(show FS _ _ _ _ _ _ _ _ _ _ from FR.side bU.o S Y.o bj.o bw.o),RFr.side (l:=L) au.o bj.o bw.o,ownI.store aj.o P.o.symm kk _,ownI.far b4.o (fun e=>aw (by injection e with e;exact e.symm)) kk _,bx⟩
     case measure=>simp[intOf];omega
    ·obtain rfl:i=Q:=by omega
     have ba:¬(i:Int)<(i:Int):=(by omega);have bn:Hid ((L,q)=DL):=(show _=_ by
      rw[<-HS.o,List.drop_eq_nil_of_le (by rw[llt];omega)];rfl)
     have aS:=yo (zda r g n c A bs most vo q wr wr.heap.size 19 19 (some ⟨G1,0,none⟩) L false HF.o (by have:=HL.o.rd;exact this) (nlr _) (by omega));obtain⟨T,b3⟩:∃T,N+M=T:=⟨_,rfl⟩;have bZ:(N:Int)+(M:Int)=(T:Int):=(by omega);have bW:T-N=M:=(by omega);have ah:=yo (fun H dv (h:FS H r g A n c bs most vo (zaY L false q)) (hd:DV H r g vo dv (zbJ L q))=>zo9 r g n c A bs most vo (zaY L false q) H dv (zbJ L q) T h hd zkC (by omega));have ai:=yo bm.o;rw[<-bn.o,b3] at ai;rw[<-ai.o] at ah;rw[b3] at B;clear ai bm bn HS aR ac ag F C ax HO P aw;obtain⟨all,o⟩:=LS;replace B:Hid (o.e=0->all.length=T):=B;replace aq:Hid (R=zdX bs most all N f o):=aq;replace ah:Hid (∀H dv,FS H r g A n c bs most vo (zaY L false q)->DV H r g vo dv (zbJ L q)->Calls Tryz.prog 132 #[.pointer (some ⟨r,0,none⟩),dv,.int .i64 (T:Int)] H fun e w'=>∃lv,e=.returned lv/\FS w' r g A n c bs most vo o/\ownI w' H.heap.size lv all/\RFr H w' r g vo vo):=ah;replace aP:Hid ((o.o.length:Int)<=most):=aP;by_cases he6:o.e=0
     ·have d6:(o.e==0)=true:=by rw[he6];rfl
      have bS:(o.e != 0)=false:=(by rw[he6];rfl);have bH:=B.o he6;have aG:256<all.length:=(by omega);have bR:(256:Int)<(T:Int):=(by omega);have bi:all.getD 256 0=all[256]:=(by rw[lgd,lge aG];rfl);have bf:Hid (∀w' D W,ownI w' w.heap.size (.slice (some ⟨D,0,none⟩) all.length W) all->w'.cell? ⟨D,256,none⟩=some (.int .i64 all[256])):=(show ∀w' D W,_ from fun w' D W h=>ownI.cell h rfl aG);have az:Hid (zcZ all o=if all[256]=0 then o.fail 4 else o):=(show _=_ by unfold zcZ;rw[bi]);generalize all[256]=x at *;clear bi;go_upto_if 57 with(first
       |(go_at_call 130;(with_reducible refine aS.o.mono ?_);go_must (rintro e H ⟨dv,rfl,E,t,a0⟩;have bD:=(HR.o.trans t).size;have au:=yo (HR.o.trans t);have aa:=yo (ah.o H dv E a0);clear E a0 t))
       |(go_at_call 132;(with_reducible refine aa.o.mono ?_);go_must (rintro e w7 ⟨lv,rfl,O,ae,ap⟩;obtain⟨Al,W,rfl,-,cf,cc⟩:=ae.form;obtain⟨-,D,rfl,-,-⟩:=ownI.pos ae (by omega);have aO:=yo (ownI.mono ae bD);have aY:=bf.o w7 D W aO.o;have bb:=(FR.arr O).cell (k:=3) rfl;have am:=yo O;have av:=yo (au.o.trans ap);clear O ae ap)))
      have Z:Hid (ownI w7 w.heap.size (.slice (some ⟨D,0,none⟩) T W) all):=(show ownI w7 w.heap.size (.slice (some ⟨D,0,none⟩) T W) all from by have:=aO.o;rwa[bH] at this);have ca:T<=W:=(by omega);clear aO bf aa aS ah aY bb HF HR HL;go_cut [] from 10 (fun wc=>Hid (FS wc r g A n c bs most vo (zcZ all o))/\Hid (RFr w wc r g vo vo)/\Hid (ownI wc w.heap.size (.slice (some ⟨D,0,none⟩) T W) all))
      case first =>
       by_cases hx:x=0
       ·have bT:(x==0)=true:=by rw[hx];rfl
        rw[if_pos hx] at az;have G:=yo (za8 r g n c A bs most vo o w7 4 am.o);rw[<-az.o] at G;clear hx;go_wp2_with (go_at_call 105;(with_reducible refine G.o.mono ?_);go_must (rintro e I ⟨rfl,al,V⟩;have a9:=yo al;have a5:=yo (av.o.trans V);have a6:Hid (ownI I w.heap.size (.slice (some ⟨D,0,none⟩) T W) all):=(show ownI _ _ _ _ from ownI.rfr Z.o V S (by omega) (fun k J u=>by have h1:=Y.o k J;have h2:=(olt Z.o k u).1;omega));clear al V));go_meet
        case rel=>exact⟨a9,a5,a6⟩
       ·have bT:(x==0)=false:=bef hx
        rw[if_neg hx] at az;go_wp2_with fail;go_meet
        case rel=>exact⟨(show FS _ _ _ _ _ _ _ _ _ _ by rw[az.o];exact am.o),av,Z⟩
      case rest =>
       obtain⟨aE,aL,ar⟩:=hcut;obtain⟨s7,a7⟩:∃x,zcZ all o=x:=⟨_,rfl⟩;have bC:Hid (zcn all N o=zaY (all.take N) false s7):=(show _=_ by unfold zcn;rw[a7]);have U:Hid (zcg all N o=if zcJ (all.drop N)=true then zcn all N o else zaY (all.drop N) true (zcn all N o)):=(show _=_ from rfl);have X:Hid (zi3 all N o=if zcJ (all.drop N)=true then none else zbJ (all.drop N) (zcn all N o)):=(show _=_ from rfl);have HZ:Hid ((zcg all N o).e=0->zcg all N o=o/\zbJ (all.take N) s7=some (all.take N)):=(show _->_ by rw[<-a7];exact zq7);rw[a7] at aE;have bX:=aL.o.size;have aH:=yo (zda r g n c A bs most vo s7 wc wc.heap.size N W (some ⟨D,0,none⟩) (all.take N) false aE.o (by have h1:=(ownI.rd ar.o).cut (k:=0) (m:=N) (by omega) (A':=some ⟨D,0,none⟩) (fun _=>rfl);rwa[List.drop_zero] at h1) (nlr _) (by omega));rw[<-bC.o] at aH;have bk:Hid (∀I,ownI I w.heap.size (.slice (some ⟨D,0,none⟩) T W) all->RdI I I.heap.size (some ⟨D,N,none⟩) M (all.drop N)):=(show ∀I,_ from fun I h=>by
        have h1:=(ownI.rd h).cut (k:=N) (m:=M) (by omega) (A':=some ⟨D,N,none⟩) (fun _=>by simp[Addr.add,(show ¬N=0 by omega)]);rwa[List.take_of_length_le (by rw[lld];omega)] at h1)
       have ab:Hid (R=if(zcg all N o).e=0 then zaG bs most (all.take N) (zi3 all N o) f (zcg all N o) else zcg all N o):=(show _=_ by rw[aq.o];exact if_pos he6);clear a7 aq az am av Z;obtain⟨z,hz⟩:∃z,zcJ (all.drop N)=z:=⟨_,rfl⟩;have bV:=yo hz;rw[hz] at U X;clear hz;generalize zcn all N o=s8 at *;generalize zcg all N o=s9 at *;generalize zi3 all N o=D9 at *;generalize zbJ (all.take N) s7=D8 at *;go_upto_if 69 with(first
        |(go_at_call 130;(with_reducible refine aH.o.mono ?_);go_must (rintro e I ⟨d8,rfl,al,V,bK⟩;have a9:=yo al;have a5:=yo (aL.o.trans V);have a6:Hid (ownI I w.heap.size (.slice (some ⟨D,0,none⟩) T W) all):=(show ownI _ _ _ _ from ownI.rfr ar.o V S (by omega) (fun k J u=>by have h1:=Y.o k J;have h2:=(olt ar.o k u).1;omega));have bo:=yo bK;have bh:=yo (zth I.heap.size M (W-N) (some ⟨D,N,none⟩) (all.drop N) I (bk.o I a6.o) (by omega));rw[bV.o] at bh;clear al V bK))
        |(go_at_call 133;(with_reducible refine bh.o.mono ?_);go_must (rintro e w9 ⟨rfl,rfl⟩)))
       go_cut [9] from 10 (fun v wc=>Hid (FS wc r g A n c bs most vo s9)/\Hid (RFr w wc r g vo vo)/\Hid (DV wc r g vo v D9)/\Hid (DV wc r g vo d8 D8))
       case first =>
        cases z with
        |true =>
         replace U:Hid (s9=s8):=U;replace X:Hid (D9=none):=X;go_wp2_with fail;go_meet
         case rel=>exact⟨(show FS _ _ _ _ _ _ _ _ _ _ by rw[U.o];exact a9.o),a5,(show DV _ _ _ _ _ _ from .inl ⟨rfl,X.o⟩),bo⟩
        |false =>
         replace U:Hid (s9=zaY (all.drop N) true s8):=U;replace X:Hid (D9=zbJ (all.drop N) s8):=X;have aM:=yo (zda r g n c A bs most vo s8 I I.heap.size M (W-N) (some ⟨D,N,none⟩) (all.drop N) true a9.o (bk.o I a6.o) (nlr _) (by omega));rw[<-U.o,<-X.o] at aM;go_wp2_with (go_at_call 130;(with_reducible refine aM.o.mono ?_);go_must (rintro e cs ⟨cg,rfl,aD,ak,aF⟩;have b5:=yo aD;have bv:=yo (a5.o.trans ak);have bd:=yo aF;have aT:=yo (bo.o.fr ak);clear aD ak aF));go_meet
         case rel=>exact⟨b5,bv,bd,aT⟩
       case rest =>
        obtain⟨aV,bL,bQ,bB⟩:=hcut;have ci:=(FR.arr aV.o).cell (k:=3) rfl;by_cases he9:s9.e=0
        ·have d9:(s9.e==0)=true:=by rw[he9];rfl
         have af:Hid (R=zaG bs most (all.take N) D9 f s9):=(show _=_ by rw[ab.o,if_pos he9]);obtain⟨bI,bG⟩:=HZ.o he9;have bJ:=bB.o;rw[bG] at bJ;have bz:(s9.o.length:Int)<=most:=(by rw[bI];exact aP.o);clear bI bG;rcases bJ with⟨-,h0⟩ | ⟨gd,ds,rfl,h0,h1,h2⟩
         ·cases h0
         ·injection h0 with h0
          subst h0;have bF:=yo (zhZ r g n c A bs most vo s9 wc gd (all.take N) u9 D9 f aV.o h1 h2 bQ.o hm bz (by omega));rw[<-af.o] at bF;clear h1 h2 bz ab af bC;go_wp2_with (go_at_call 129;(with_reducible refine bF.o.mono ?_);go_must (rintro e cm ⟨rfl,a8,aJ,aN⟩;have bN:=yo aJ;have aZ:=yo (bL.o.trans aN);clear aJ aN));(try simp only[Exit.inBlock,Exit.then]);first|(refine bodyPost_ret (results_none rfl _ _ _) rfl ?_)|(refine bodyPost_end (results_none rfl _ _ _) rfl ?_)
          exact⟨rfl,a8,bN.o,aZ.o⟩
        ·have d9:(s9.e==0)=false:=bef he9
         have af:Hid (R=s9):=(show _=_ by rw[ab.o,if_neg he9]);clear ab;go_wp2_with fail;(try simp only[Exit.inBlock,Exit.then]);first|(refine bodyPost_ret (results_none rfl _ _ _) rfl ?_)|(refine bodyPost_end (results_none rfl _ _ _) rfl ?_)
         exact⟨rfl,vo,by rw[af.o];exact aV.o,bL.o⟩
     ·have d6:(o.e==0)=false:=bef he6
      have bS:(o.e != 0)=true:=(by rw[bne_iff_ne];exact he6);have af:Hid (R=o):=(show _=_ by rw[aq.o];exact if_neg he6);go_wp2_with (first
       |(go_at_call 130;(with_reducible refine aS.o.mono ?_);go_must (rintro e H ⟨dv,rfl,E,t,a0⟩;have bD:=(HR.o.trans t).size;have au:=yo (HR.o.trans t);have aa:=yo (ah.o H dv E a0);clear E a0 t))
       |(go_at_call 132;(with_reducible refine aa.o.mono ?_);go_must (rintro e w7 ⟨lv,rfl,O,ae,ap⟩;have bb:=(FR.arr O).cell (k:=3) rfl;have am:=yo O;have av:=yo (au.o.trans ap);clear O ae ap)))
      (try simp only[Exit.inBlock,Exit.then]);first|(refine bodyPost_ret (results_none rfl _ _ _) rfl ?_)|(refine bodyPost_end (results_none rfl _ _ _) rfl ?_)
      exact⟨rfl,vo,by rw[af.o];exact am.o,av.o⟩
end
end Go.Proofs.YtebbdifhiihfkaaGreatDoor

/- flate: the reader of blocks, whatever comes: a block of the fixed codes. -/
namespace Go.Proofs.YtebbdifhiihfkaaGreatDoor
set_option linter.all false
set_option maxRecDepth 100000
set_option maxHeartbeats 3200000
open Go.RowKit
theorem RdI.rfr{w w':World}{r g B b o n:Nat}{vo q:Value}{l:List Int}(h:RdI w B (some ⟨b,o,none⟩) n l)(F:RFr w w' r g vo q)(t:b<w.heap.size)(hr:b≠r)(hg:b≠g)(hv:vo.ownBlock≠some b):RdI w' B (some ⟨b,o,none⟩) n l:=by
 refine⟨h.1,fun C=>?_⟩;obtain⟨H,I,e,hlt,D⟩:=h.2 C;injection e with e;injection e with G z J;subst G z;exact⟨_,_,rfl,hlt,fun j u E=>(World.cell?_of_block (F.block b t hr hg hv)).trans (D j u E)⟩
section
variable (r g n c : Nat) (A : Option Addr) (bs : List UInt8) (most : Int) (vo : Value) (s : RS) (w : World)
theorem zpa(f:Nat)(h:FS w r g A n c bs most vo s)(he:s.e=0)(hm:most<=1000000)(ho:(s.o.length:Int)<=most)(hf:8*n+1<=f):
  Calls Tryz.prog 103 #[.pointer (some ⟨r,0,none⟩)] w fun e w'=>e=.returned (.tuple #[])/\∃q,FS w' r g A n c bs most q (zhG bs most f s)/\RFr w w' r g vo q:=by
 have al:=(FR.arr h).lt;have ao:=FR.gr h;have ah:Hid (∀k,vo.ownBlock=some k->k<w.heap.size):=(show ∀k,_ from fun k hk=>(olt (FR.own h) k hk).2);have H:=yo h;have J:zbJ fixL s=some fixL:=if_pos ⟨he,by decide +kernel⟩;have G:zbJ fixD s=some fixD:=if_pos ⟨he,by decide +kernel⟩;have af:Hid (∀w1 t b,FS w1 r g A n c bs most vo s->RdI w1 w1.heap.size (some ⟨b,0,none⟩) 288 fixL->Calls Tryz.prog 130 #[.pointer (some ⟨r,0,none⟩),.slice (some ⟨b,0,none⟩) 288 t,.bool false] w1 fun e w'=>∃u,e=.returned u/\FS w' r g A n c bs most vo s/\RFr w1 w' r g vo vo/\DV w' r g vo u (some fixL)):=(show ∀w1 t b,_ from fun w1 t b h hr=>by
  have:=zda r g n c A bs most vo s w1 w1.heap.size 288 t (some ⟨b,0,none⟩) fixL false h hr (nlr _) (by omega);rwa[zta,J] at this)
 have ac:Hid (∀w1 B t b,B<=w1.heap.size->FS w1 r g A n c bs most vo s->RdI w1 B (some ⟨b,0,none⟩) 32 fixD->Calls Tryz.prog 130 #[.pointer (some ⟨r,0,none⟩),.slice (some ⟨b,0,none⟩) 32 t,.bool false] w1 fun e w'=>∃u,e=.returned u/\FS w' r g A n c bs most vo s/\RFr w1 w' r g vo vo/\DV w' r g vo u (some fixD)):=(show ∀w1 B t b,_ from fun w1 B t b hB h hr=>by
  have:=zda r g n c A bs most vo s w1 B 32 t (some ⟨b,0,none⟩) fixD false h hr hB (by omega);rwa[ztb,G] at this)
 have ab:Hid (∀w1 E u,FS w1 r g A n c bs most vo s->DK w1 r g vo E fixL->OkL fixL->DV w1 r g vo u (some fixD)->Calls Tryz.prog 129 #[.pointer (some ⟨r,0,none⟩),.pointer (some ⟨E,0,none⟩),u] w1 fun e w'=>e=.returned (.tuple #[])/\∃q,FS w' r g A n c bs most q (zhG bs most f s)/\RFr w1 w' r g vo q):=(show ∀w1 E u,_ from fun w1 E u h1 h2 h3 h4=>zhZ r g n c A bs most vo s w1 E fixL u (some fixD) f h1 h2 h3 h4 hm ho (by omega));clear h J G;generalize zhG bs most f s=R at *;go_enter Tryz.func103,Tryz.ntmps103;go_wp2_with (first
  |(go_at_call 118;(with_reducible refine(zj7 w).mono ?_);go_must (rintro e w1 ⟨E,t,gd,cd,rfl,an,am,I,D,z⟩;have X:Hid (FS w1 r g A n c bs most vo s):=(show FS _ _ _ _ _ _ _ _ _ _ from FR.later H.o z);have ai:=yo (RFr.ofB z r g vo);have O:=yo (af.o w1 t E X.o I);have ag:=yo D;have ak:=z.size;have V:gd<w1.heap.size:=(by obtain⟨b,o,e,hb,-⟩:=D.at_ (by omega);injection e with e;injection e with e;omega);clear I D z))
  |(go_at_call 130;(with_reducible refine O.o.mono ?_);go_must (rintro e w2 ⟨d2,rfl,T,C,U⟩;have aa:=yo (ai.o.trans C);have Z:=yo U;have L:=yo (ac.o w2 w1.heap.size cd gd C.size T (RdI.rfr ag.o C V (by omega) (by omega) (fun e=>by have:=ah.o gd e;omega)));clear T C U))
  |(go_at_call 130;(with_reducible refine L.o.mono ?_);go_must (rintro e w3 ⟨d3,rfl,W,F,S⟩;rcases Z.o with⟨-,h0⟩ | ⟨gq,ds,rfl,h0,h1,h2⟩;(· cases h0);injection h0 with h0;subst h0;have aj:=yo (aa.o.trans F);have M:=yo (ab.o w3 gq d3 W (h1.fr F) h2 S);clear W F S h1 h2))
  |(go_at_call 129;(with_reducible refine M.o.mono ?_);go_must (rintro e w4 ⟨rfl,q,P,N⟩;have Y:=yo P;have ae:=yo (aj.o.trans N);clear P N)))
 (try simp only[Exit.inBlock,Exit.then]);first|(refine bodyPost_ret (results_none rfl _ _ _) rfl ?_)|(refine bodyPost_end (results_none rfl _ _ _) rfl ?_)
 exact⟨rfl,q,Y.o,ae.o⟩
end
end Go.Proofs.YtebbdifhiihfkaaGreatDoor

