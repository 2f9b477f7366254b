/- XIq6 -/
import Derived.Test.YtebbdifhiihfkaaGreatDoorMm43
import Derived.Test.YtebbdifhiihfkaaGreatDoorMm20
import Derived.BigQuiet
namespace Go.Proofs.YtebbdifhiihfkaaGreatDoor
set_option linter.all false
set_option maxRecDepth 100000
set_option maxHeartbeats 6400000
open Go.RowKit
/-- The document's decoder, or none, as a pointer. -/
def DV5(w:World)(r g:Nat)(vo:Value)(dv:Value)(dl:Option (List Int)):Prop:=(dv=.pointer none/\dl=none)\/∃gd ds,dv=.pointer (some ⟨gd,0,none⟩)/\dl=some ds/\DK5 w r g vo gd ds/\OkL ds
theorem DV5.fr{w w':World}{r g:Nat}{vo o q:Value}{dl:Option (List Int)}(h:DV5 w r g vo q dl)(z:RFr w w' r g vo o):DV5 w' r g o q dl:=by
 rcases h with h | ⟨t,u,h1,h2,s,h4⟩
 ·exact .inl h
 ·exact .inr ⟨t,u,h1,h2,s.fr z,h4⟩
theorem zpp{p:Nat}(h:p<30):1<=(zae p).1:=by
 rcases zlq (show p<=29 by omega) with rfl|rfl|rfl|rfl|rfl|rfl|rfl|rfl|rfl|rfl|rfl|rfl|rfl|rfl|rfl|rfl|rfl|rfl|rfl|rfl|rfl|rfl|rfl|rfl|rfl|rfl|rfl|rfl|rfl|rfl<;>decide
theorem zrL(bs:List UInt8)(ls:List Int)(P:Nat)(out:List UInt8):zad bs ls ⟨P,out,0⟩=((nx ls bs 15 1 0 P).1,⟨(nx ls bs 15 1 0 P).2.2,out,(nx ls bs 15 1 0 P).2.1⟩):=by
 unfold zad;rw[if_pos rfl]
section
variable (r g n c P : Nat) (A : Option Addr) (bs : List UInt8) (vo : Value) (out : List UInt8) (most : Int) (w : World)
theorem zjo(B aE ny cx cy:Nat)(Ax Ay:Option Addr)(ll dd:List Int)(f:Nat)(h:FI w r g A n c P bs vo out most)(hx:RdI w B Ax aE ll)(hy:RdI w B Ay ny dd)(hB:B<=w.heap.size)(cr:aE<=1000)(cs:ny<=1000)(aZ:nwE ll=0)(hm:most<=1000000)(ho:(out.length:Int)<=most)(hf:8*n+1<=P+f):
  Calls Tryz.prog 112 #[.pointer (some ⟨r,0,none⟩),.slice Ax aE cx,.slice Ay ny cy] w (zbc r g n c A bs vo most w (zaG bs most ll (if nwE dd=0 then some dd else none) f ⟨P,out,0⟩)):=by
 obtain⟨dl,aB⟩:∃dl,(if nwE dd=0 then some dd else none)=dl:=⟨_,rfl⟩;rw[aB];have aJ:=yo (fun h=>zhf (ls:=dd) h);obtain⟨E2,aS⟩:∃E2,nwE dd=E2:=⟨_,rfl⟩;rw[aS] at aB aJ;have b1:=yo aB;have b4:=h.arr.lt;have cB:=h.gr;have a7:=yo h.rb.len;have bG:Hid (∀k,vo.ownBlock=some k->k<w.heap.size):=(show ∀k,_ from fun k hk=>(olt h.own k hk).2);have bn:=yo (zhf aZ);have au:=zho B aE cx Ax ll w hx hB (by omega);unfold zle at au;rw[aZ] at au;replace au:=yo au;have U:=fun w1 (h:RdI w1 B Ay ny dd) (hb:B<=w1.heap.size)=>zho B ny cy Ay dd w1 h hb (by omega)
 unfold zle at U;rw[aS] at U;replace U:=yo U;have bV:Hid (∀(w1 w2:World) (v2:Value),(E2=0->∃gd,v2=.pointer (some ⟨gd,0,none⟩)/\zjn w2 w1.heap.size gd dd)->(E2≠0->v2=.pointer none)->r<w1.heap.size->g<w1.heap.size->w.heap.size<=w1.heap.size->DV5 w2 r g vo v2 dl):=(show ∀(w1 w2:World) (v2:Value),_ from fun w1 w2 v2 az aH h1 h2 h3=>by
  rw[<-b1.o];by_cases hE:E2=0
  ·obtain⟨gd,rfl,aF⟩:=az hE
   rw[if_pos hE];exact .inr ⟨gd,dd,rfl,rfl,DK5.new (r:=r) (g:=g) (vo:=vo) aF h1 h2 (fun k hk=>by have:=bG.o k hk;omega),aJ.o hE⟩
  ·rw[if_neg hE]
   exact .inl ⟨aH hE,rfl⟩)
 have HY:=yo hy;have H:=yo h;have HO:=yo ho;have aw:=yo hf;obtain⟨R,hR⟩:∃R,zaG bs most ll dl f ⟨P,out,0⟩=R:=⟨_,rfl⟩;rw[hR];have bw:=yo hR;clear h hx hy aZ aB ho hf hR aS;go_enter Tryz.func112,Tryz.ntmps112;go_wp2_with (first
  |(go_at_call 138;(with_reducible refine au.o.mono ?_);go_must (rintro e w1 ⟨v1,rfl,a0,-,a6⟩;obtain⟨gl,rfl,aF⟩:=a0 rfl;have cd:=a6.size;have bC:=yo (H.o.later a6);have bH:=yo (RFr.ofB a6 r g vo);have bo:=yo (DK5.new (r:=r) (g:=g) (vo:=vo) aF b4 (by omega) bG.o);have aN:=yo (U.o w1 (RdI.blw HY.o (a6.mono hB)) (by omega));clear a0 a6 aF))
  |(go_at_call 138;(with_reducible refine aN.o.mono ?_);go_must (rintro e w2 ⟨v2,rfl,az,aH,aC⟩;have aa:=yo (bH.o.trans (RFr.ofB aC r g vo));have bh:=yo (bC.o.later aC);have bO:=yo (bo.o.fr (RFr.ofB aC r g vo));have bY:=yo (bV.o w1 w2 v2 az aH (by omega) (by omega) cd);clear az aH aC bo bC bH)))
 have b6:=yo (RFr.refl w2 r g vo);go_loopw [11] (fun cA wr=>∃(P':Nat) (O:Value) (o:List UInt8) (f:Nat),Hid (FI wr r g A n c P' bs O o most)/\Hid (RFr w2 wr r g vo O)/\Hid (8*n+1<=P'+f)/\Hid (zaG bs most ll dl f ⟨P',o,0⟩=R)/\Hid ((o.length:Int)<=most)) (fun _ wr=>8*n+1-zhF wr g)
 case atStart=>exact⟨P,vo,out,f,bh,b6,aw,bw,HO⟩
 case round =>
  clear bh b6 aw bw HO H au U aN;obtain⟨P',O,o,f,HF,HR,aw,HL,HO⟩:=hrel;have cm:P'<=8*n:=HF.o.fit;have aM:=zb0 HF.o.rd;have c0:=HF.o.arr.cell (k:=0) rfl;obtain⟨f,rfl⟩:∃f',f=f'+1:=⟨f-1,by have:=aw.o;omega⟩;have HN:=yo (zhp r g gl n c P' A bs O o most ll wr HF.o (bO.o.fr HR.o) bn.o);have I:=yo (zrL bs ll P' o);obtain⟨q,b2,bP,bK⟩:=zhb ll bs 15 1 0 P';have bQ:q<=300:=by have:=bn.o.2.2;omega
  have br:=yo (fun h2=>zjH ll bs 15 1 0 P' h2);rw[b2] at HN I;clear b2 bP bK;generalize (nx ll bs 15 1 0 P').2.2=P1 at *;generalize (nx ll bs 15 1 0 P').2.1=e1 at *;obtain⟨L,hL⟩:∃L,o.length=L:=⟨_,rfl⟩;have T:=yo hL;rw[hL] at HO;have bg:(L:Int)<=most:=HO.o;clear hL;by_cases ht:e1=0
  ·subst ht
   have cw:P'<P1:=br.o rfl;clear br;by_cases h285:285<q
   ·have bb:(285:Int)<(q:Int):=by omega
    have HE:Hid (¬R.e=0):=(show ¬_ by
     rw[<-HL.o,zkR rfl (by rw[I.o]) (by rw[I.o];show(256:Int)<(q:Int);omega)];exact zde (zpk (by rw[I.o];show 286<=q;omega)))
    go_wp2_with (go_at_call 139;(with_reducible refine HN.o.mono ?_);go_must (rintro e w5 ⟨rfl,s,t⟩; have N:=yo s;have F:=yo (HR.o.trans t);clear s t));go_ret;unfold zbc;exact⟨false,_,_,_,rfl,N.o,aa.o.trans (F.o),.inr ⟨rfl,HE.o⟩⟩
   ·have bb:¬(285:Int)<(q:Int):=by omega
    by_cases h256:q=256
    ·subst h256
     have HE:Hid (R=⟨P1,o,0⟩):=(show _=_ by
      rw[<-HL.o,ztq rfl (by rw[I.o]) (by rw[I.o];rfl),I.o])
     go_wp2_with (go_at_call 139;(with_reducible refine HN.o.mono ?_);go_must (rintro e w5 ⟨rfl,s,t⟩; have N:=yo s;have F:=yo (HR.o.trans t);clear s t));go_ret;unfold zbc;exact⟨true,_,_,_,rfl,N.o,aa.o.trans (F.o),.inl ⟨rfl,HE.o⟩⟩
    ·have bU:((q:Int)==256)=false:=bef (by omega)
     by_cases hlt:q<256
     ·have ao:(q:Int)<256:=by omega
      have Y:Hid (zaG bs most ll dl f (zas most ⟨P1,o,0⟩ (UInt8.ofNat q))=R):=(show _=_ by
       rw[<-HL.o,zrF rfl (by rw[I.o]) (by rw[I.o];exact ao),I.o];rfl)
      by_cases hov:most<=(L:Int)
      ·have HE:Hid (¬R.e=0):=(show ¬_ by rw[<-Y.o];exact zde (zgz (by show most<=((o.length:Nat):Int);rw[T.o];exact hov)))
       have b5:decide ((L:Int) ≥ most)=true:=decide_eq_true hov;obtain⟨Aq,cq,a8,-,-,-⟩:=HF.o.own.form;subst a8;rw[T.o] at HN HF HR;go_upto_region 11 with(first
        |(go_at_call 139;(with_reducible refine HN.o.mono ?_);go_must (rintro e w5 ⟨rfl,s,t⟩;have bl:r<w5.heap.size:=s.arr.lt;have bI:=s.arr.cell (k:=1) rfl;have cb:=s.arr.cell (k:=2) rfl;have N:=yo s;have F:=yo (HR.o.trans t);clear s t)))
       go_quiet (fail);go_wp2_with fail;go_ret;unfold zbc;exact⟨false,_,_,_,rfl,N.o.drewN _,aa.o.trans (F.o.drewN _),.inr ⟨rfl,HE.o⟩⟩
      ·obtain⟨x,hx⟩:∃x:UInt8,q=x.toNat:=⟨UInt8.ofNat q,by rw[UInt8.toNat_ofNat'];exact(Nat.mod_eq_of_lt (by omega)).symm⟩
       subst hx;have bu:UInt8.ofNat x.toNat=x:=(by simp);rw[bu,zeB (by show((o.length:Nat):Int)<most;rw[T.o];omega)] at Y;have bW:=x.toNat_lt;have cC:(x.toNat:Int) % 256=(x.toNat:Int):=Int.emod_eq_of_lt (by omega) (by omega);have bJ:Hid ((((o++[x]).length:Nat):Int)<=most):=(show _<=_ by rw[lla,T.o];show((L+1:Nat):Int)<=most;omega);have bm:Hid (8*n+1<=P1+f):=(show _<=_ by have:=aw.o;omega);have al:o.length+1<=140737488355328:=(by rw[T.o];omega);clear bu;have b5:decide ((L:Int) ≥ most)=false:=decide_eq_false (by omega);obtain⟨Aq,cq,a8,-,-,-⟩:=HF.o.own.form;subst a8;rw[T.o] at HN HF HR;go_upto_region 11 with(first
        |(go_at_call 139;(with_reducible refine HN.o.mono ?_);go_must (rintro e w5 ⟨rfl,s,t⟩;have bl:r<w5.heap.size:=s.arr.lt;have bI:=s.arr.cell (k:=1) rfl;have cb:=s.arr.cell (k:=2) rfl;have N:=yo s;have F:=yo (HR.o.trans t);clear s t)))
       go_quiet (fail);have aG:=yo (N.o.drewN nq);have bz:=yo (F.o.drewN nq);have aL:r+1<=(w5.drewN nq).heap.size+1:=(by show r+1<=w5.heap.size+1;omega);generalize w5.drewN nq=wq at aG bz aL ⊢;have cu:=aG.o.arr.cell (k:=1) rfl;go_wp2_with (at_builtin;go_must (refine zat rfl (.tmp 72) (.tmp 75) rfl (r+1) (.slice Aq L cq) o rfl (ownB.alloc aG.o.own _) (wq.heap.size+1) 1 1 (some ⟨wq.heap.size,0,none⟩) [x] rfl (zfN wq (x.toNat:Int) x rfl) al (by rw[wsa];exact aL) ?_;intro v6 W ae ak ac a1;obtain⟨A6,c6,rfl,-,-,-⟩:=ae.form;obtain⟨u,z,bT,bS⟩:=aG.o.gave ae ak ac a1;obtain⟨l6,an⟩:∃l,(o++[x]).length=l:=⟨_,rfl⟩;rw[an] at u z ⊢;clear an;have X:=yo u;have J:=yo (bz.o.trans z);have aU:=zb0 u.rd;clear u z ae ak ac a1));go_roundw
       case rel=>exact⟨P1,_,o++[x],f,X,J,bm,Y,bJ⟩
       case measure=>rw[aU,aM];omega
     ·have ao:¬(q:Int)<256:=by omega
      obtain⟨k,hk⟩:∃k,q-257=k:=⟨_,rfl⟩;have aP:k<=28:=(by omega);have aY:=yo hk;have bF:(q:Int)=257+(k:Int):=(by omega);have Y:Hid (zaG bs most ll dl f (za3 bs most ⟨P1,o,0⟩ q dl)=R):=(show _=_ by
       rw[<-HL.o,zkR rfl (by rw[I.o]) (by rw[I.o];show(256:Int)<(q:Int);omega),I.o];rfl)
      have ap:=yo (fun w=>zk8 k (q:Int) bF aP w);have bE:=zfb aP;have b7:Hid (¬P1+(lenOf k).2<=8*n->¬R.e=0):=(show _->_ from fun hf=>by
       rw[<-Y.o];refine zde (zrG ?_);rw[aY.o];exact zbs (by rw[a7.o];exact hf))
      have aI:Hid (P1+(lenOf k).2<=8*n->dl=none->¬R.e=0):=(show _->_->_ from fun hf hd=>by
       rw[<-Y.o,hd];exact zde zpl)
      have a9:Hid (∀ds,P1+(lenOf k).2<=8*n->dl=some ds->za3 bs most ⟨P1,o,0⟩ q dl=cpB bs most ⟨P1+(lenOf k).2,o,0⟩ ((lenOf k).1+zaj bs P1 (lenOf k).2) (some ds)):=(show ∀ds,_ from fun ds hf hd=>by
       have e1:zac bs (⟨P1,o,0⟩:RS) (lenOf k).2=(zaj bs P1 (lenOf k).2,⟨P1+(lenOf k).2,o,0⟩):=za2 rfl (by rw[a7.o];exact hf);rw[hd,zts (by omega) (by rw[aY.o,e1]),aY.o,e1])
      have aD:Hid (∀w1,FI w1 r g A n c P1 bs O o most->¬P1+(lenOf k).2<=8*n->Calls Tryz.prog 109 #[.pointer (some ⟨r,0,none⟩),.int .i64 ((lenOf k).2:Int)] w1 fun e w'=>e=.returned (.tuple #[.int .i64 0,.bool false])/\FI w' r g A n c P1 bs O o most/\RFr w1 w' r g O O):=(show ∀w1,_ from fun w1 h hh=>zba r g n c P1 (lenOf k).2 A bs O o most _ w1 rfl h (by omega) hh);have aA:Hid (∀w1,FI w1 r g A n c P1 bs O o most->P1+(lenOf k).2<=8*n->Calls Tryz.prog 109 #[.pointer (some ⟨r,0,none⟩),.int .i64 ((lenOf k).2:Int)] w1 fun e w'=>e=.returned (.tuple #[.int .i64 ((zaj bs P1 (lenOf k).2:Nat):Int),.bool true])/\FI w' r g A n c (P1+(lenOf k).2) bs O o most/\RFr w1 w' r g O O):=(show ∀w1,_ from fun w1 h hh=>zbb r g n c P1 (lenOf k).2 A bs O o most _ w1 rfl h (by omega) hh);have a0:=zbw bs P1 (lenOf k).2;have az:zaj bs P1 (lenOf k).2<32:=Nat.lt_of_lt_of_le a0 (Nat.pow_le_pow_right (n:=2) (by decide) bE.2);clear a0;generalize zaj bs P1 (lenOf k).2=m1 at *;generalize (lenOf k).2=kb at *;generalize (lenOf k).1=n1 at *;generalize za3 bs most ⟨P1,o,0⟩ q dl=CP at *;clear hk bF;by_cases hf1:P1+kb<=8*n
      ·have af:=yo (fun w1 h=>aA.o w1 h hf1)
       have HD:=yo (bY.o.fr HR.o);rcases HD.o with⟨aW,ax⟩ | ⟨gd,ds,aW,ax,-,b9⟩
       ·have HE:=yo (aI.o hf1 ax)
        subst aW;clear ax aI a9 aD aA HD;go_wp2_with (first
         |(go_at_call 139;(with_reducible refine HN.o.mono ?_);go_must (rintro e w5 ⟨rfl,s,t⟩;have E:=yo (af.o w5 s);have S:=yo t;have N:=yo s;have F:=yo (HR.o.trans t);clear s t))
         |(go_at_call 140;(with_reducible refine(ap.o _).mono ?_);go_must (rintro e w9 ⟨rfl,rfl⟩))
         |(go_at_call 109;(with_reducible refine E.o.mono ?_);go_must (rintro e W ⟨rfl,u,z⟩; have X:=yo u;have J:=yo (F.o.trans z);clear u z E)))
        go_ret;unfold zbc;exact⟨false,_,_,_,rfl,X.o,aa.o.trans (J.o),.inr ⟨rfl,HE.o⟩⟩
       ·have a3:=yo (a9.o ds hf1 ax)
        have a2:=yo b9;subst aW;obtain⟨P2,b0⟩:∃P2,P1+kb=P2:=⟨_,rfl⟩;rw[b0] at af a3;have ci:P1<=P2:=(by omega);have ch:P2<=8*n:=(by omega)
        -- the distance
        have aj:Hid (∀W,RFr wr W r g O O->DK5 W r g O gd ds):=(show ∀W,_ from fun W hr=>by
         rcases HD.o.fr hr with⟨h1,h2⟩ | ⟨ct,cv,h1,h2,h3,-⟩
         ·cases h1
         ·injection h1 with h1
          injection h1 with h1;injection h1 with h1;rw[ax] at h2;injection h2 with h2;subst h1 h2;exact h3)
        have U:=yo (fun W (h:FI W r g A n c P2 bs O o most) (hd:DK5 W r g O gd ds)=>zhp r g gd n c P2 A bs O o most ds W h hd a2.o);have ab:=yo (zrL bs ds P2 o);obtain⟨p,bk,bM,bZ⟩:=zhb ds bs 15 1 0 P2;have bX:p<=300:=(by have:=a2.o.2.2;omega);have bp:=yo ((zi2 ds bs 15 1 0 P2 (by rw[a7.o];exact ch)).2);rw[bk] at U ab;clear bk bM bZ aI a9 aD aA b0 HD;generalize (nx ds bs 15 1 0 P2).2.2=P3 at *;generalize (nx ds bs 15 1 0 P2).2.1=e2 at *;have cl:P2<=P3:=bp.o;by_cases hbad:e2=0/\p<30
        ·obtain⟨rfl,aO⟩:=hbad
         have bx:¬(29:Int)<(p:Int):=(by omega);have b8:=yo (fun w=>znd p (p:Int) rfl aO w);have bA:=zet (show p<=29 by omega);have ba:Hid (¬P3+(zae p).2<=8*n->¬R.e=0):=(show _->_ from fun hf=>by
          rw[<-Y.o,a3.o,zrH (by rw[ab.o];show(p:Int)<30;omega),ab.o];exact zde (zjm (zbs (by rw[a7.o];exact hf))))
         have aX:Hid (P3+(zae p).2<=8*n->CP=za1 most ⟨P3+(zae p).2,o,0⟩ (n1+m1) ((zae p).1+zaj bs P3 (zae p).2)):=(show _->_ from fun hf=>by
          have e1:zac bs (⟨P3,o,0⟩:RS) (zae p).2=(zaj bs P3 (zae p).2,⟨P3+(zae p).2,o,0⟩):=za2 rfl (by rw[a7.o];exact hf);rw[a3.o,zrH (by rw[ab.o];show(p:Int)<30;omega),ab.o];show za1 most (zac bs ⟨P3,o,0⟩ (zae p).2).2 _ _=_;rw[e1];show za1 most _ _ ((zae p).1+(zac bs ⟨P3,o,0⟩ (zae p).2).1)=_;rw[e1])
         have aR:Hid (∀w1,FI w1 r g A n c P3 bs O o most->¬P3+(zae p).2<=8*n->Calls Tryz.prog 109 #[.pointer (some ⟨r,0,none⟩),.int .i64 ((zae p).2:Int)] w1 fun e w'=>e=.returned (.tuple #[.int .i64 0,.bool false])/\FI w' r g A n c P3 bs O o most/\RFr w1 w' r g O O):=(show ∀w1,_ from fun w1 h hh=>zba r g n c P3 (zae p).2 A bs O o most _ w1 rfl h (by omega) hh);have aV:Hid (∀w1,FI w1 r g A n c P3 bs O o most->P3+(zae p).2<=8*n->Calls Tryz.prog 109 #[.pointer (some ⟨r,0,none⟩),.int .i64 ((zae p).2:Int)] w1 fun e w'=>e=.returned (.tuple #[.int .i64 ((zaj bs P3 (zae p).2:Nat):Int),.bool true])/\FI w' r g A n c (P3+(zae p).2) bs O o most/\RFr w1 w' r g O O):=(show ∀w1,_ from fun w1 h hh=>zbb r g n c P3 (zae p).2 A bs O o most _ w1 rfl h (by omega) hh);have bL:1<=(zae p).1:=zpp aO;have bj:=zbw bs P3 (zae p).2;have c5:zaj bs P3 (zae p).2<8192:=Nat.lt_of_lt_of_le bj (Nat.pow_le_pow_right (n:=2) (by decide) bA.2);clear bj;generalize zaj bs P3 (zae p).2=m2 at *;generalize (zae p).2=kd at *;generalize (zae p).1=n2 at *;by_cases hf3:P3+kd<=8*n
         ·have a4:=yo (fun w1 h=>aV.o w1 h hf3)
          have ah:=yo (aX.o hf3);obtain⟨Aq,cq,a8,-,-,-⟩:=HF.o.own.form;subst a8;rw[T.o] at HN HF HR af U aj a4;obtain⟨P4,bB⟩:∃P4,P3+kd=P4:=⟨_,rfl⟩;rw[bB] at a4 ah;have ck:P3<=P4:=(by omega);have c3:P4<=8*n:=(by omega);obtain⟨D,hD⟩:∃D,n2+m2=D:=⟨_,rfl⟩;obtain⟨M,hM⟩:∃M,n1+m1=M:=⟨_,rfl⟩;rw[hD,hM] at ah;have cf:(n2:Int)+(m2:Int)=(D:Int):=(by omega);have cg:(n1:Int)+(m1:Int)=(M:Int):=(by omega);have ce:IntKind.i64.wrap (D:Int)=(D:Int):=zaa D (by omega);have bR:IntKind.i64.wrap (M:Int)=(M:Int):=zaa M (by omega);have cn:IntKind.i64.wrap ((n2:Int)+(m2:Int))=(D:Int):=(by rw[cf];exact ce);have cj:IntKind.i64.wrap ((n1:Int)+(m1:Int))=(M:Int):=(by rw[cg];exact bR);have c7:1<=D:=(by omega);have cp:D<=100000:=(by omega);have c8:M<=1000:=(by omega);have co:IntKind.i64.wrap (most-(L:Int))=most-(L:Int):=(by obtain⟨d,hd⟩:∃d:Nat,most-(L:Int)=(d:Int):=⟨(most-(L:Int)).toNat,by omega⟩;rw[hd];exact zaa d (by omega));clear hD hM bB aR aV ba aX bL bA bE;go_upto_region 23 with(first
           |(go_at_call 139;(with_reducible refine HN.o.mono ?_);go_must (rintro e w5 ⟨rfl,s,t⟩;have E:=yo (af.o w5 s);have S:=yo t;have N:=yo s;have F:=yo (HR.o.trans t);clear s t))
           |(go_at_call 140;(with_reducible refine(ap.o _).mono ?_);go_must (rintro e w9 ⟨rfl,rfl⟩))
           |(go_at_call 109;(with_reducible refine E.o.mono ?_);go_must (rintro e W ⟨rfl,u,z⟩;have bc:=u.arr.cell (k:=0) rfl;have G:=yo (U.o W u (aj.o W (S.o.trans z)));have X:=yo u;have J:=yo (F.o.trans z);clear u z E))
           |(go_at_call 139;(with_reducible refine G.o.mono ?_);go_must (rintro e w7 ⟨rfl,V,Z⟩;have ai:=yo (a4.o w7 V);have aq:=yo V;have am:=yo (J.o.trans Z);clear V Z G))
           |(go_at_call 141;(with_reducible refine(b8.o _).mono ?_);go_must (rintro e w9 ⟨rfl,rfl⟩))
           |(go_at_call 109;(with_reducible refine ai.o.mono ?_);go_must (rintro e w8 ⟨rfl,ag,a5⟩;have av:=yo ag;have ar:=yo (am.o.trans a5);have bD:=ag.arr.cell (k:=1) rfl;have bf:=ag.arr.cell (k:=2) rfl;clear ag a5 ai)))
          by_cases hDL:L<D
          ·have bq:(L:Int)<(D:Int):=by omega
           have HE:Hid (¬R.e=0):=(show ¬_ by
            rw[<-Y.o,ah.o];exact zde (zjl (by show((o.length:Nat):Int)<=most;rw[T.o];exact bg) (fun h=>by have h1:D<=o.length:=h.1;rw[T.o] at h1;omega)))
           go_quiet (fail);go_wp2_with fail;go_ret;unfold zbc;exact⟨false,_,_,_,rfl,av.o.drewN _,aa.o.trans (ar.o.drewN _),.inr ⟨rfl,HE.o⟩⟩
          ·have bq:¬(L:Int)<(D:Int):=by omega
           by_cases hML:most-(L:Int)<(M:Int)
           ·have HE:Hid (¬R.e=0):=(show ¬_ by
             rw[<-Y.o,ah.o];exact zde (zjl (by show((o.length:Nat):Int)<=most;rw[T.o];exact bg) (fun h=>by have h1:((o.length:Nat):Int)+(M:Int)<=most:=h.2;rw[T.o] at h1;omega)))
            go_quiet (fail);go_wp2_with fail;go_ret;unfold zbc;exact⟨false,_,_,_,rfl,av.o.drewN _,aa.o.trans (ar.o.drewN _),.inr ⟨rfl,HE.o⟩⟩
           ·have HE:Hid (zaG bs most ll dl f ⟨P4,zcI D M o,0⟩=R):=(show _=_ by
             rw[<-Y.o,ah.o,zrE rfl (by show D<=o.length;rw[T.o];omega) (by show((o.length:Nat):Int)+(M:Int)<=most;rw[T.o];omega)])
            go_quiet (fail);have aQ:=yo (av.o.drewN nq);have aK:=yo (ar.o.drewN nq);clear bD bf av ar ah Y HN I ab U a3 X aq;go_wp2_with fail;obtain⟨wo,rfl⟩:∃wo:World,wo=wr:=⟨_,rfl⟩;go_loopw [23] (fun vc wr=>∃(i:Nat) (vz:Value),i<=M/\vc=.int .i64 i/\Hid (FI wr r g A n c P4 bs vz (zcI D i o) most)/\Hid (RFr w2 wr r g vo vz)) (fun vc _=>M-(intOf vc).toNat)
            case atStart=>exact⟨0,_,Nat.zero_le _,rfl,aQ,aK⟩
            case round =>
             clear aQ aK;obtain⟨i,vz,hi,rfl,HF,HR⟩:=hrel;obtain⟨C,hC⟩:∃C,(zcI D i o).length=C:=⟨_,rfl⟩;have aT:C=L+i:=(by rw[<-hC,zmE,T.o]);by_cases hlt:i<M
             ·have ao:(i:Int)<(M:Int):=by omega
              have ay:=yo (zkQ D i o);obtain⟨K,hK⟩:∃K,C-D=K:=⟨_,rfl⟩;have bt:K<(zcI D i o).length:=(by rw[hC];omega);have ca:Hid ((zcI D i o).getD ((zcI D i o).length-D) 0=(zcI D i o)[K]):=(show _=_ by
               rw[hC,hK,lgd,lge bt];rfl)
              obtain⟨Az,cz,rfl,-,-,-⟩:=HF.o.own.form;obtain⟨-,gz,rfl,-,c9⟩:=ownB.pos HF.o.own (show 0<(zcI D i o).length by omega);have ed:=ownB.cell HF.o.own rfl bt;rw[ca.o] at ay;generalize (zcI D i o)[K]=x at *;generalize zcI D i o=cur at *;rw[hC] at HF HR;have bW:=x.toNat_lt;have c1:=HF.o.arr.cell (k:=1) rfl;have b4:=HF.o.arr.lt;have bi:=yo (HF.o.drewN 1);have cc:=yo (HR.o.drewN 1);have ah:=yo hC;have k1:IntKind.i64.wrap ((C:Int)-(n2:Int))=(C:Int)-(n2:Int):=by rw[show(C:Int)-(n2:Int)=((C-n2:Nat):Int) by omega];exact zaa _ (by omega)
              have k2:(C:Int)-(n2:Int)-(m2:Int)=(K:Int):=(by omega);have k3:IntKind.i64.wrap (K:Int)=(K:Int):=zaa K (by omega);have k4:(K:Int)<(C:Int):=(by omega);have k5:K<C:=(by omega);have al:cur.length+1<=140737488355328:=(by rw[ah.o];omega);have b3:r+1<=wr.heap.size+1:=(by omega);clear hC hK aT;go_upto_region 28 with(fail)
              go_region_law (first
               |(refine ze7 rfl (.tmp 162) (.tmp 178) rfl (r+1) (.slice (some ⟨gz,0,none⟩) C cz) cur rfl (ownB.alloc bi.o.own _) (wr.heap.size+1) 1 1 (some ⟨wr.heap.size,0,none⟩) [x] rfl (zfN (wr.drewN 1) (x.toNat:Int) x rfl) al (show r+1<=(wr.alloc (.cells #[Value.int .u8 (x.toNat:Int)] 5)).heap.size from by rw[wsa];exact b3) ?_;intro v6 W ae ak ac a1;replace ak:((wr.drewN 1).alloc (.cells #[Value.int .u8 (x.toNat:Int)] 5)).grownBy W _:=ak;replace ac:Below (r+1) ((wr.drewN 1).alloc (.cells #[Value.int .u8 (x.toNat:Int)] 5)) W:=ac;obtain⟨A6,c6,rfl,-,-,-⟩:=ae.form;obtain⟨u,z,bT,bS⟩:=bi.o.gave ae ak ac a1;rw[<-ay.o] at u z;obtain⟨l6,an⟩:∃l,(cur++[x]).length=l:=⟨_,rfl⟩;rw[ay.o,an] at u;rw[ay.o,an] at z;rw[<-ay.o] at u;rw[an];clear an;have X:=yo u;have J:=yo (cc.o.trans z);clear u z ae ak ac a1))
              all_goals
               go_simp;go_wp2_with fail;go_roundw
               case rel=>exact⟨i+1,_,by omega,by go_num,X,J⟩
               case measure=>simp[intOf];omega
             ·obtain rfl:i=M:=by omega
              have ao:¬(i:Int)<(i:Int):=(by omega);have bN:Hid ((((zcI D i o).length:Nat):Int)<=most):=(show _<=_ by rw[hC,aT];omega);have bv:Hid (8*n+1<=P4+f):=(show _<=_ by have:=aw.o;omega);have bd:=zb0 HF.o.rd;clear hC aT;go_wp2_with fail;go_roundw
              case rel=>exact⟨P4,_,_,f,HF,HR,bv,HE,bN⟩
              case measure=>rw[bd,aM];omega
         ·have HE:=yo (ba.o hf3)
          have a4:=yo (fun w1 h=>aR.o w1 h hf3);clear aV aR ba aX;go_wp2_with (first
           |(go_at_call 139;(with_reducible refine HN.o.mono ?_);go_must (rintro e w5 ⟨rfl,s,t⟩;have E:=yo (af.o w5 s);have S:=yo t;have N:=yo s;have F:=yo (HR.o.trans t);clear s t))
           |(go_at_call 140;(with_reducible refine(ap.o _).mono ?_);go_must (rintro e w9 ⟨rfl,rfl⟩))
           |(go_at_call 109;(with_reducible refine E.o.mono ?_);go_must (rintro e W ⟨rfl,u,z⟩;have bc:=u.arr.cell (k:=0) rfl;have G:=yo (U.o W u (aj.o W (S.o.trans z)));have X:=yo u;have J:=yo (F.o.trans z);clear u z E))
           |(go_at_call 139;(with_reducible refine G.o.mono ?_);go_must (rintro e w7 ⟨rfl,V,Z⟩;have ai:=yo (a4.o w7 V);have aq:=yo V;have am:=yo (J.o.trans Z);clear V Z G))
           |(go_at_call 141;(with_reducible refine(b8.o _).mono ?_);go_must (rintro e w9 ⟨rfl,rfl⟩))
           |(go_at_call 109;(with_reducible refine ai.o.mono ?_);go_must (rintro e w8 ⟨rfl,ag,a5⟩;have av:=yo ag;have ar:=yo (am.o.trans a5);have bD:=ag.arr.cell (k:=1) rfl;have bf:=ag.arr.cell (k:=2) rfl;clear ag a5 ai)))
          go_quiet (fail);go_wp2_with fail;go_ret;unfold zbc;exact⟨false,_,_,_,rfl,av.o.drewN _,aa.o.trans (ar.o.drewN _),.inr ⟨rfl,HE.o⟩⟩
        ·have HE:Hid (¬R.e=0):=(show ¬_ by
          rw[<-Y.o,a3.o];refine zde (zuE (fun h=>hbad ?_));rw[ab.o] at h;exact⟨h.1,by have h2:(p:Int)<30:=h.2;omega⟩)
         by_cases he2:e2=0
         ·have d2:(e2 != 0)=false:=by rw[he2];rfl
          have bx:(29:Int)<(p:Int):=by
           have:¬p<30:=fun h=>hbad ⟨he2,h⟩
           omega
          go_wp2_with (first
           |(go_at_call 139;(with_reducible refine HN.o.mono ?_);go_must (rintro e w5 ⟨rfl,s,t⟩;have E:=yo (af.o w5 s);have S:=yo t;have N:=yo s;have F:=yo (HR.o.trans t);clear s t))
           |(go_at_call 140;(with_reducible refine(ap.o _).mono ?_);go_must (rintro e w9 ⟨rfl,rfl⟩))
           |(go_at_call 109;(with_reducible refine E.o.mono ?_);go_must (rintro e W ⟨rfl,u,z⟩;have bc:=u.arr.cell (k:=0) rfl;have G:=yo (U.o W u (aj.o W (S.o.trans z)));have X:=yo u;have J:=yo (F.o.trans z);clear u z E))
           |(go_at_call 139;(with_reducible refine G.o.mono ?_);go_must (rintro e w7 ⟨rfl,V,Z⟩; have aq:=yo V;have am:=yo (J.o.trans Z);clear V Z G)))
          go_ret;unfold zbc;exact⟨false,_,_,_,rfl,aq.o,aa.o.trans (am.o),.inr ⟨rfl,HE.o⟩⟩
         ·have d2:(e2 != 0)=true:=by rw[bne_iff_ne];exact he2
          go_wp2_with (first
           |(go_at_call 139;(with_reducible refine HN.o.mono ?_);go_must (rintro e w5 ⟨rfl,s,t⟩;have E:=yo (af.o w5 s);have S:=yo t;have N:=yo s;have F:=yo (HR.o.trans t);clear s t))
           |(go_at_call 140;(with_reducible refine(ap.o _).mono ?_);go_must (rintro e w9 ⟨rfl,rfl⟩))
           |(go_at_call 109;(with_reducible refine E.o.mono ?_);go_must (rintro e W ⟨rfl,u,z⟩;have bc:=u.arr.cell (k:=0) rfl;have G:=yo (U.o W u (aj.o W (S.o.trans z)));have X:=yo u;have J:=yo (F.o.trans z);clear u z E))
           |(go_at_call 139;(with_reducible refine G.o.mono ?_);go_must (rintro e w7 ⟨rfl,V,Z⟩; have aq:=yo V;have am:=yo (J.o.trans Z);clear V Z G)))
          go_ret;unfold zbc;exact⟨false,_,_,_,rfl,aq.o,aa.o.trans (am.o),.inr ⟨rfl,HE.o⟩⟩
      ·have HE:=yo (b7.o hf1)
       have af:=yo (fun w1 h=>aD.o w1 h hf1);clear aI a9 aD aA b7;go_wp2_with (first
        |(go_at_call 139;(with_reducible refine HN.o.mono ?_);go_must (rintro e w5 ⟨rfl,s,t⟩;have E:=yo (af.o w5 s);have S:=yo t;have N:=yo s;have F:=yo (HR.o.trans t);clear s t))
        |(go_at_call 140;(with_reducible refine(ap.o _).mono ?_);go_must (rintro e w9 ⟨rfl,rfl⟩))
        |(go_at_call 109;(with_reducible refine E.o.mono ?_);go_must (rintro e W ⟨rfl,u,z⟩; have X:=yo u;have J:=yo (F.o.trans z);clear u z E)))
       go_ret;unfold zbc;exact⟨false,_,_,_,rfl,X.o,aa.o.trans (J.o),.inr ⟨rfl,HE.o⟩⟩
  ·have HE:Hid (¬R.e=0):=(show ¬_ by
    rw[<-HL.o];exact ztr rfl (by rw[I.o];exact ht))
   have c4:(e1 != 0)=true:=(by rw[bne_iff_ne];exact ht);go_wp2_with (go_at_call 139;(with_reducible refine HN.o.mono ?_);go_must (rintro e w5 ⟨rfl,s,t⟩; have N:=yo s;have F:=yo (HR.o.trans t);clear s t));go_ret;unfold zbc;exact⟨false,_,_,_,rfl,N.o,aa.o.trans (F.o),.inr ⟨rfl,HE.o⟩⟩
end
end Go.Proofs.YtebbdifhiihfkaaGreatDoor

