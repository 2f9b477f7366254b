/- XRd13 XUnp2 XUnp3 -/
import Derived.Test.YtebbdifhiihfkaaGreatDoorMm35
import Derived.Test.YtebbdifhiihfkaaGreatDoorMm24
import Derived.Test.YtebbdifhiihfkaaGreatDoorMm27
namespace Go.Proofs.YtebbdifhiihfkaaGreatDoor
set_option linter.all false
set_option maxRecDepth 100000
set_option maxHeartbeats 6400000
open Go.RowKit
def zjj(n g r:Nat)(vi:Value)(w:World):Nat:=if intOf vi=0/\zld w r=0 then 8*n+1-zhF w g else 0
theorem zh0(B n c:Nat)(A:Option Addr)(bs:List UInt8)(most:Int)(w:World)(h:RdB w B A n bs)(hB:B<=w.heap.size)(hn:n<=1000000):
  Calls Tryz.prog 85 #[.slice A n c,.int .i64 most] w fun e w'=>∃v,e=.returned (.tuple #[v,.int .i64 ((zak bs most).2.1:Int),.int .i64 (zak bs most).2.2])/\ownB w' w.heap.size v (zak bs most).1/\Below w.heap.size w w':=by
 by_cases hmost:most<0\/40000<most
 ·have HP:Hid (zak bs most=([],0,1)):=(show _=_ from if_pos hmost)
  rw[HP.o];clear h;go_enter Tryz.func85,Tryz.ntmps85;rcases hmost with h1|h1
  ·have t1:decide (most<0)=true:=decide_eq_true h1
   go_wp2_with fail;go_ret3;exact⟨_,rfl,ownB.nil_ _ _,Below.refl _ _⟩
  ·have t1:decide (most<0)=false:=decide_eq_false (by omega)
   have W:decide (most > 40000)=true:=decide_eq_true h1;have t3:¬most<0:=(by omega);go_wp2_with fail;go_ret3;exact⟨_,rfl,ownB.nil_ _ _,Below.refl _ _⟩
 ·have ax:¬most<0:=fun h=>hmost (.inl h)
  have ay:¬40000<most:=fun h=>hmost (.inr h)
  have h0:0<=most:=by omega
  have hm:most<=40000:=by omega
  have az:bs.length=n:=h.len;have HP:Hid (zak bs most=if(zbr bs most).e=0 then((zbr bs most).o,((zbr bs most).p+7) / 8,0) else([],0,(zbr bs most).e)):=(show _=_ from if_neg hmost);rw[HP.o];obtain⟨S,hS⟩:∃S,zbr bs most=S:=⟨_,rfl⟩;rw[hS];obtain⟨T,hT⟩:∃T,(if S.e=0 then(S.o,(S.p+7) / 8,0) else(([]:List UInt8),0,S.e))=T:=⟨_,rfl⟩;rw[hT];have HT:=yo hT;have HC:Hid (zb1 bs most (8*n+1) (8*n+1) ⟨0,[],0⟩=S):=(show _=_ by rw[<-hS,<-az];rfl);have HN:=yo (zk4 B n c A bs w h (by omega));have t1:decide (most<0)=false:=decide_eq_false (by omega);have W:decide (most > 40000)=false:=decide_eq_false (by omega);have t3:¬most<0:=by omega
  have t4:¬40000<most:=by omega
  clear h hS ax ay HP hmost hT;go_enter Tryz.func85,Tryz.ntmps85;go_wp2_with (go_at_call 100;(with_reducible refine HN.o.mono ?_);go_must (rintro e w1 ⟨g,A1,c1,rfl,hg,al,aq,ap,ag⟩;have t:Hid (FS (w1.alloc (.cells #[.pointer (some ⟨g,0,none⟩),.slice none 0 0,.int .i64 most,.int .i64 0] 129)) w1.heap.size g A1 n c1 bs most (.slice none 0 0) ⟨0,[],0⟩):=(show FR _ _ _ _ _ _ _ _ _ _ _ _ from⟨Arr.new w1 [.pointer (some ⟨g,0,none⟩),.slice none 0 0,.int .i64 most,.int .i64 0] 129,aq.alloc _,Rd.alloc ap (Nat.le_of_lt al) _,ownB.nil_ _ _,al,Nat.zero_le _,hn⟩);have ao:=yo (ag.alloc ag.size (.cells #[.pointer (some ⟨g,0,none⟩),.slice none 0 0,.int .i64 most,.int .i64 0] 129));have a0:=ag.size;clear aq ap ag));obtain⟨r,hr⟩:∃r,w1.heap.size=r:=⟨_,rfl⟩;rw[hr] at t;simp only[hr];have a7:g<r:=by omega
  have a6:w.heap.size<=r:=by omega
  have hr:=yo hr;clear a0 al;go_wp2_with fail;have aj:=yo (ao.o);obtain⟨w2,ak⟩:∃w2,w1.alloc (.cells #[.pointer (some ⟨g,0,none⟩),.slice none 0 0,.int .i64 most,.int .i64 0] 129)=w2:=⟨_,rfl⟩;simp only[ak];rw[ak] at aj t;clear ak ao;go_loopw [8] (fun vi wr=>∃(q f:Nat) (vo:Value) (o:RS),vi=.int .i64 q/\q<=1/\Hid (FS wr r g A1 n c1 bs most vo o)/\Hid (Below w.heap.size w wr)/\Hid (if q=0 then zb1 bs most (8*n+1) f o=S else o=S)/\Hid ((o.o.length:Int)<=most)/\Hid (o.e=0->8*n+1<=o.p+f)) (fun vi wr=>zjj n g r vi wr)
  case atStart=>exact⟨0,8*n+1,.slice none 0 0,⟨0,[],0⟩,rfl,Nat.zero_le _,t,aj,(show _=_ from HC.o),(show(((0:Nat):Int))<=most from h0),(show _->_ from fun _=>Nat.le_add_left _ _)⟩
  case round =>
   clear t aj HC;obtain⟨q,f,vo,o,rfl,hl,t,HB,HC,HO,am⟩:=hrel;have c3:=(FR.arr t.o).cell (k:=3) rfl;have ai:=zcW c3;have an:=zb0 (FR.rd t.o);by_cases hgo:q=0/\o.e=0
   ·obtain⟨rfl,he⟩:=hgo
    have d1:(o.e==0)=true:=(by rw[he];rfl);obtain⟨f,rfl⟩:∃f',f=f'+1:=⟨f-1,by have:=am.o he;have:=FR.fit t.o;omega⟩;have ar:Hid ((if zfJ bs o=0 then zb1 bs most (8*n+1) f (zbR bs most (8*n+1) o) else zbR bs most (8*n+1) o)=S):=(show _=_ by
     have h1:zb1 bs most (8*n+1) (f+1) o=S:=(by have:=HC.o;rwa[if_pos rfl] at this);rw[<-h1];exact(if_pos he).symm)
    have a1:=am.o he;have ab:=zfY (bs:=bs) (most:=most) (f:=8*n+1) (s:=o);have X:((zbR bs most (8*n+1) o).o.length:Int)<=most:=ziw (by rw[zgt];exact HO.o);have J:Hid (zbR bs most (8*n+1) o=zdY bs most (8*n+1) (zgs bs o) (zdJ bs o)):=(show _=_ from rfl);have aa:Hid (¬zgs bs o=0->(zdJ bs o).e=0):=(show _->_ from fun h=>zur h);have av:((zdJ bs o).o.length:Int)<=most:=(by rw[zgt];exact HO.o);have a5:zfJ bs o<2:=zbx bs o (m:=1) (by omega);have a4:zgs bs o<4:=zbx bs (zac bs o 1).2 (m:=2) (by omega);have ac:Hid (Calls Tryz.prog 101 #[.pointer (some ⟨r,0,none⟩),.int .i64 1] wr fun e w'=>e=.returned (.int .i64 (zfJ bs o:Int))/\FS w' r g A1 n c1 bs most vo (zac bs o 1).2/\RFr wr w' r g vo vo):=(show Calls _ _ _ _ _ from zbf r g n c1 A1 bs most vo o wr 1 1 rfl t.o (by omega));have af:Hid (∀w3,FS w3 r g A1 n c1 bs most vo (zac bs o 1).2->Calls Tryz.prog 101 #[.pointer (some ⟨r,0,none⟩),.int .i64 2] w3 fun e w'=>e=.returned (.int .i64 (zgs bs o:Int))/\FS w' r g A1 n c1 bs most vo (zdJ bs o)/\RFr w3 w' r g vo vo):=(show ∀w3,_ from fun w3 h=>zbf r g n c1 A1 bs most vo _ w3 2 2 rfl h (by omega));have ah:zjj n g r (.int .i64 ((0:Nat):Int)) wr=8*n+1-o.p:=(by unfold zjj;rw[ai,an];exact if_pos ⟨rfl,he⟩);have aw:Hid (o.p<=8*n):=(show _ from FR.fit t.o);generalize zdJ bs o=W at *;generalize (zac bs o 1).2=t1 at *;generalize zgs bs o=k at *;generalize zfJ bs o=q at *;generalize zbR bs most (8*n+1) o=nxt at *;have D:w.heap.size<=g:=hg;have V:Hid (∀w5 Z,FS w5 r g A1 n c1 bs most Z nxt->zjj n g r (.int .i64 (q:Int)) w5<8*n+1-o.p):=(show ∀w5 Z,_ from fun w5 Z h5=>by
     have h1:=zb0 (FR.rd h5);have h2:=zcW ((FR.arr h5).cell (k:=3) rfl);have h3:=aw.o;unfold zjj;rw[h2,h1];split
     ·rename_i hh
      have:=ab hh.2;omega
     ·omega)
    have ae:Hid (if q=0 then zb1 bs most (8*n+1) f nxt=S else nxt=S):=(show _ by
     have:=ar.o;by_cases h:q=0
     ·rw[if_pos h] at this ⊢;exact this
     ·rw[if_neg h] at this ⊢;exact this)
    have Y:Hid (nxt.e=0->8*n+1<=nxt.p+f):=(show _->_ from fun h=>by have:=ab h;omega);clear ar HC am ab ai an;rcases(show k=0\/k=1\/k=2\/k=3 by omega) with rfl|rfl|rfl|rfl
    ·have HK:=yo (fun N (h:FS N r g A1 n c1 bs most vo W)=>zoZ r g n c1 A1 bs most vo W N h (by omega))
     rw[show zbl bs most W=nxt from J.o.symm] at HK;clear J aa;go_wp2_with (first
      |(go_at_call 101;(with_reducible refine ac.o.mono ?_);go_must (rintro e w3 ⟨rfl,C,F⟩;have M:=yo (HB.o.trans (FR.fr t.o F D));have u:=yo (af.o _ C);have U:=yo C;clear C F))
      |(go_at_call 101;(with_reducible refine u.o.mono ?_);go_must (rintro e N ⟨rfl,z,E⟩;have L:=yo (M.o.trans (FR.fr U.o E D));have O:=yo (HK.o _ z);have R:=yo z;clear z E u))
      |(go_at_call 102;(with_reducible refine O.o.mono ?_);go_must (rintro e w5 ⟨rfl,Z,G,I⟩;have P:=yo (L.o.trans (FR.fr R.o I D));have H:=yo G;clear G I)))
     go_roundw
     case rel=>exact⟨q,f,Z,nxt,rfl,by omega,H,P,ae,X,Y⟩
     case measure=>rw[ah];exact V.o _ Z H.o
    ·have HK:=yo (fun N (h:FS N r g A1 n c1 bs most vo W)=>zpa r g n c1 A1 bs most vo W N (8*n+1) h (aa.o (by omega)) (by omega) av (nlr _))
     rw[show zhG bs most (8*n+1) W=nxt from J.o.symm] at HK;clear J aa;go_wp2_with (first
      |(go_at_call 101;(with_reducible refine ac.o.mono ?_);go_must (rintro e w3 ⟨rfl,C,F⟩;have M:=yo (HB.o.trans (FR.fr t.o F D));have u:=yo (af.o _ C);have U:=yo C;clear C F))
      |(go_at_call 101;(with_reducible refine u.o.mono ?_);go_must (rintro e N ⟨rfl,z,E⟩;have L:=yo (M.o.trans (FR.fr U.o E D));have O:=yo (HK.o _ z);have R:=yo z;clear z E u))
      |(go_at_call 103;(with_reducible refine O.o.mono ?_);go_must (rintro e w5 ⟨rfl,Z,G,I⟩;have P:=yo (L.o.trans (FR.fr R.o I D));have H:=yo G;clear G I)))
     go_roundw
     case rel=>exact⟨q,f,Z,nxt,rfl,by omega,H,P,ae,X,Y⟩
     case measure=>rw[ah];exact V.o _ Z H.o
    ·have HK:=yo (fun N (h:FS N r g A1 n c1 bs most vo W)=>zti r g n c1 A1 bs most vo W N (8*n+1) h (by omega) av (nlr _))
     rw[show zc0 bs most (8*n+1) W=nxt from J.o.symm] at HK;clear J aa;go_wp2_with (first
      |(go_at_call 101;(with_reducible refine ac.o.mono ?_);go_must (rintro e w3 ⟨rfl,C,F⟩;have M:=yo (HB.o.trans (FR.fr t.o F D));have u:=yo (af.o _ C);have U:=yo C;clear C F))
      |(go_at_call 101;(with_reducible refine u.o.mono ?_);go_must (rintro e N ⟨rfl,z,E⟩;have L:=yo (M.o.trans (FR.fr U.o E D));have O:=yo (HK.o _ z);have R:=yo z;clear z E u))
      |(go_at_call 104;(with_reducible refine O.o.mono ?_);go_must (rintro e w5 ⟨rfl,Z,G,I⟩;have P:=yo (L.o.trans (FR.fr R.o I D));have H:=yo G;clear G I)))
     go_roundw
     case rel=>exact⟨q,f,Z,nxt,rfl,by omega,H,P,ae,X,Y⟩
     case measure=>rw[ah];exact V.o _ Z H.o
    ·have HK:=yo (fun N (h:FS N r g A1 n c1 bs most vo W)=>za8 r g n c1 A1 bs most vo W N 4 h)
     rw[show W.fail 4=nxt from J.o.symm] at HK;clear J aa;go_wp2_with (first
      |(go_at_call 101;(with_reducible refine ac.o.mono ?_);go_must (rintro e w3 ⟨rfl,C,F⟩;have M:=yo (HB.o.trans (FR.fr t.o F D));have u:=yo (af.o _ C);have U:=yo C;clear C F))
      |(go_at_call 101;(with_reducible refine u.o.mono ?_);go_must (rintro e N ⟨rfl,z,E⟩;have L:=yo (M.o.trans (FR.fr U.o E D));have O:=yo (HK.o _ z);have R:=yo z;clear z E u))
      |(go_at_call 105;(with_reducible refine O.o.mono ?_);go_must (rintro e w5 ⟨rfl,G,I⟩;have P:=yo (L.o.trans (FR.fr R.o I D));have H:=yo G;clear G I)))
     go_roundw
     case rel=>exact⟨q,f,vo,nxt,rfl,by omega,H,P,ae,X,Y⟩
     case measure=>rw[ah];exact V.o _ vo H.o
   ·have au:Hid (o=S):=(show _=_ by
     have h1:=HC.o;by_cases hl0:q=0
     ·rw[if_pos hl0] at h1
      rwa[ziv (fun h=>hgo ⟨hl0,h⟩)] at h1
     ·rwa[if_neg hl0] at h1)
    rw[<-au.o] at HT;clear au HC;by_cases he:o.e=0
    ·obtain rfl:q=1:=by
      have:¬q=0:=fun h=>hgo ⟨h,he⟩
      omega
     rw[if_pos he] at HT;have d1:(o.e != 0)=false:=(by rw[he];rfl);obtain⟨Av,cv,rfl,-,-,-⟩:=(FR.own t.o).form;have c0:=(FR.arr t.o).cell (k:=0) rfl;have a3:=(FR.arr t.o).cell (k:=1) rfl;have cg:=(FR.rd t.o).cell (k:=1) rfl;have a2:o.p<=8*n:=FR.fit t.o;have e1:IntKind.i64.wrap ((o.p:Int)+7)=(o.p:Int)+7:=(by have:=zaa (o.p+7) (by omega);simpa using this);have e2:((o.p:Int)+7).tdiv 8=(((o.p+7) / 8:Nat):Int):=by rw[show(o.p:Int)+7=((o.p+7:Nat):Int) by omega];rfl
     have e3:((o.p:Int)+7) / 8=(((o.p+7) / 8:Nat):Int):=(by omega);obtain⟨Q,hQ⟩:∃Q,(o.p+7) / 8=Q:=⟨_,rfl⟩;rw[hQ] at e2 e3;have e4:IntKind.i64.wrap (Q:Int)=(Q:Int):=zaa Q (by omega);go_wp2_with fail;go_quiet ((go_at_call 106;exact Calls.quiet_of_same ((zvf g o.p _ (by exact cg)).mono fun _ _ h=>⟨h.1,h.2.symm⟩)));go_wp2_with fail;go_ret3;rw[<-HT.o];exact⟨_,by rw[hQ];rfl,(FR.own (FR.drewN t.o _)).mono (by omega),zag HB.o _⟩
    ·rw[if_neg he] at HT
     have d1:(o.e != 0)=true:=(by rw[bne_iff_ne];exact he);have d2:(o.e==0)=false:=bef he;rcases(show q=0\/q=1 by omega) with rfl|rfl
     ·go_wp2_with fail
      go_quiet (fail);go_wp2_with fail;go_ret3;rw[<-HT.o];exact⟨_,rfl,ownB.nil_ _ _,zag HB.o _⟩
     ·go_wp2_with fail
      go_quiet (fail);go_wp2_with fail;go_ret3;rw[<-HT.o];exact⟨_,rfl,ownB.nil_ _ _,zag HB.o _⟩
end Go.Proofs.YtebbdifhiihfkaaGreatDoor

/- zlib: Unpack and Whole, whatever comes. -/
namespace Go.Proofs.YtebbdifhiihfkaaGreatDoor
set_option linter.all false
set_option maxRecDepth 100000
set_option maxHeartbeats 6400000
open Go.RowKit
theorem zvD(N:Nat):N &&& 32=N / 32 % 2*32:=by
 refine Nat.eq_of_testBit_eq fun i=>?_
 rw[Nat.testBit_and,show(32:Nat)=2 ^ 5 from rfl,Nat.testBit_two_pow];by_cases h5:5=i
 ·subst h5
  rw[Nat.testBit_eq_decide_div_mod_eq];rcases Nat.mod_two_eq_zero_or_one (N / 2 ^ 5) with h|h
  ·rw[h];simp
  ·rw[h];decide
 ·rcases Nat.mod_two_eq_zero_or_one (N / 2 ^ 5) with h|h
  ·rw[h];simp[h5]
  ·rw[h,Nat.one_mul,Nat.testBit_two_pow]
   simp[h5]
theorem zpb(B n c:Nat)(A:Option Addr)(bs:List UInt8)(most:Int)(w:World)(h:RdB w B A n bs)(X:B<=w.heap.size)(hc:n<=c)(hn:n<=1000000):
  Calls Tryz.prog 58 #[.slice A n c,.int .i64 most] w fun e w'=>∃v,e=.returned (.tuple #[v,.int .i64 ((zax bs most).2.1:Int),.int .i64 (zax bs most).2.2])/\ownB w' w.heap.size v (zax bs most).1/\Below w.heap.size w w':=by
 have hl:=h.len;have V:=yo h;have z:=yo (zb7 B n c A bs 0 2 w h hc (by omega));by_cases h2:bs.length<2
 ·have hP:zax bs most=([],0,2):=if_pos h2
  rw[hP];have hr:rdR beV bs 0 2=(0,2):=by unfold rdR;rw[if_neg (by omega),if_pos (by omega)]
  rw[hr] at z;clear h hP hr;go_enter Tryz.func58,Tryz.ntmps58;go_wp2_with (go_at_call 18;(with_reducible refine z.o.mono ?_);go_must (rintro e w1 ⟨rfl,rfl⟩));go_ret3;exact⟨_,rfl,ownB.nil_ _ _,Below.refl _ _⟩
 ·have hr:rdR beV bs 0 2=((hdV bs:Int),0):=by
   unfold rdR;rw[if_neg (by omega),if_neg (by omega)];rfl
  rw[hr] at z;have hv:=zut (bs:=bs) (by omega);have hP:zax bs most=if zdo (hdV bs) then([],0,4) else
   if(zak (bs.drop 2) most).2.2=0 then
    (if bs.length<2+(zak (bs.drop 2) most).2.1+4 then([],0,2) else if zdc bs (zak (bs.drop 2) most).2.1=zbm (zak (bs.drop 2) most).1 then((zak (bs.drop 2) most).1,2+(zak (bs.drop 2) most).2.1+4,0) else([],0,5))
   else([],0,(zak (bs.drop 2) most).2.2):=if_neg h2
  rw[hP];have ab:zdo (hdV bs)↔(¬hdV bs / 256 % 16=8\/7<hdV bs / 4096\/¬hdV bs % 31=0\/¬hdV bs / 32 % 2=0):=Iff.rfl;clear hP hr;generalize hdV bs=N at *;have q1:(N:Int) / 256=((N / 256:Nat):Int):=by omega
  have q2:(N:Int) / 4096=((N / 4096:Nat):Int):=by omega
  have q3:(N:Int).tmod 31=((N % 31:Nat):Int):=rfl;have ag:(N:Int) % 31=((N % 31:Nat):Int):=by omega
  have q4:bits .and .i64 ((N / 256:Nat):Int) 15=((N / 256 % 16:Nat):Int):=by
   have:=zhK (N / 256) 15 (by omega) (by omega);rw[show(15:Nat)=2 ^ 4-1 from rfl,Nat.and_two_pow_sub_one_eq_mod] at this;exact this
  have q5:bits .and .i64 (N:Int) 32=((N / 32 % 2*32:Nat):Int):=by
   have:=zhK N 32 (by omega) (by omega);rw[zvD N] at this;exact this
  obtain⟨n1,T⟩:∃x,N / 256=x:=⟨_,rfl⟩;obtain⟨W,P⟩:∃x,N / 256 % 16=x:=⟨_,rfl⟩;obtain⟨Z,ae⟩:∃x,N / 4096=x:=⟨_,rfl⟩;obtain⟨U,af⟩:∃x,N % 31=x:=⟨_,rfl⟩;obtain⟨n5,aa⟩:∃x,N / 32 % 2*32=x:=⟨_,rfl⟩;have D:zdo N↔(¬W=8\/7<Z\/¬U=0\/¬n5=0):=by rw[ab];omega
  rw[T] at q1;rw[P,T] at q4;rw[ae] at q2;rw[af] at q3 ag;rw[aa] at q5;have w3:IntKind.i64.wrap (U:Int)=(U:Int):=zaa U (by omega);clear ab T P ae af aa h;by_cases hbad:zdo N
  ·rw[if_pos hbad]
   have hb:=D.1 hbad;clear D hbad;have key:(((W:Int) != 8)=true)\/(((W:Int) != 8)=false/\(7:Int)<(Z:Int))\/(((W:Int) != 8)=false/\¬(7:Int)<(Z:Int)/\((U:Int) != 0)=true)\/(((W:Int) != 8)=false/\¬(7:Int)<(Z:Int)/\((U:Int) != 0)=false/\((n5:Int) != 0)=true):=by
    rw[bne_iff_ne,bne_iff_ne,bne_iff_ne,bne_eq_false_iff_eq,bne_eq_false_iff_eq];omega
   clear hb;rcases key with k1 | ⟨k1,k2⟩ | ⟨k1,k2,k3⟩ | ⟨k1,k2,k3,k4⟩ <;>
    ·go_enter Tryz.func58,Tryz.ntmps58
     go_wp2_with (go_at_call 18;(with_reducible refine z.o.mono ?_);go_must (rintro e w1 ⟨rfl,rfl⟩));go_ret3;exact⟨_,rfl,ownB.nil_ _ _,Below.refl _ _⟩
  ·rw[if_neg hbad]
   obtain⟨k1,k2,k3,k4⟩:((W:Int) != 8)=false/\¬(7:Int)<(Z:Int)/\((U:Int) != 0)=false/\((n5:Int) != 0)=false:=by
    rw[bne_eq_false_iff_eq,bne_eq_false_iff_eq,bne_eq_false_iff_eq];have:=mt D.2 hbad;omega
   clear D hbad;obtain⟨b,o,rfl,-,-⟩:=V.o.at_ (show 0<n by omega);have ak:(2:Int)<=(n:Int):=(by omega);have M:RdB w B (some ⟨b,o+2,none⟩) (n-2) (bs.drop 2):=by
    have h1:=RdB.cut V.o (k:=2) (m:=n-2) (by omega) (A':=some ⟨b,o+2,none⟩) (fun _=>by simp[Addr.add]);rwa[List.take_of_length_le (by rw[lld];omega)] at h1
   have Y:=yo (zh0 B (n-2) (c-2) (some ⟨b,o+2,none⟩) (bs.drop 2) most w M X (by omega));have C:Hid (n=2->Calls Tryz.prog 85 #[.slice (some ⟨b,o,none⟩) 0 0,.int .i64 most] w fun e w'=>∃v,e=.returned (.tuple #[v,.int .i64 ((zak (bs.drop 2) most).2.1:Int),.int .i64 (zak (bs.drop 2) most).2.2])/\ownB w' w.heap.size v (zak (bs.drop 2) most).1/\Below w.heap.size w w'):=(show _->_ from fun P=>by
    have e:bs.drop 2=[]:=List.drop_eq_nil_of_le (by omega);rw[e];exact zh0 B 0 0 (some ⟨b,o,none⟩) [] most w zir X (by omega))
   have H:Hid ((zak (bs.drop 2) most).2.2=0->(zak (bs.drop 2) most).2.1+2<=n/\(zak (bs.drop 2) most).1.length<=40000):=(show _->_ from fun h=>by
    have h1:=zhh h;have h3:=ze1 h;rw[lld] at h1;omega)
   have L:=yo (fun(k:Int) w1 (h:RdB w1 B (some ⟨b,o,none⟩) n bs)=>zb7 B n c (some ⟨b,o,none⟩) bs k 4 w1 h hc (by omega));obtain⟨⟨xs,u,E⟩,hI⟩:∃I,zak (bs.drop 2) most=I:=⟨_,rfl⟩;rw[hI] at Y C H ⊢;replace H:Hid (E=0->u+2<=n/\xs.length<=40000):=H;have aj:(2:Int)<=(c:Int):=(by omega);have am:2<=c:=(by omega);clear hI M;show Calls _ _ _ _ (fun e w'=>∃v,e=.returned (.tuple #[v,.int .i64 (((if E=0 then(if bs.length<2+u+4 then([],0,2) else if zdc bs u=zbm xs then(xs,2+u+4,0) else([],0,5)) else([],0,E)):List UInt8×Nat×Int).2.1:Int),.int .i64 ((if E=0 then(if bs.length<2+u+4 then([],0,2) else if zdc bs u=zbm xs then(xs,2+u+4,0) else([],0,5)) else([],0,E)):List UInt8×Nat×Int).2.2])/\ownB w' w.heap.size v ((if E=0 then(if bs.length<2+u+4 then([],0,2) else if zdc bs u=zbm xs then(xs,2+u+4,0) else([],0,5)) else([],0,E)):List UInt8×Nat×Int).1/\Below w.heap.size w w');by_cases hE:E=0
   ·rw[if_pos hE]
    have dE:(E != 0)=false:=(by rw[hE];rfl);obtain⟨hu,an⟩:=H.o hE;have hk:(2:Int)+(u:Int)=((2+u:Nat):Int):=(by omega);obtain⟨K,hK⟩:∃K,2+u=K:=⟨_,rfl⟩;rw[hK] at hk;have R:∀h:bs.length<K+4,rdR beV bs (K:Int) 4=(0,2):=fun h=>by unfold rdR;rw[if_neg (by omega),if_pos (by omega)]
    have O:∀h:¬bs.length<K+4,rdR beV bs (K:Int) 4=((zdc bs u:Int),0):=fun h=>by
     unfold rdR zdc;rw[if_neg (by omega),if_neg (by omega),Int.toNat_natCast,hK];rfl
    have F:=yo (L.o (K:Int));rw[hK];clear L H;by_cases h4:bs.length<K+4
    ·rw[if_pos h4]
     rw[R h4] at F;clear R O;by_cases hcc:c=2
     ·subst hcc
      obtain rfl:n=2:=by omega
      have G:=yo (C.o rfl);clear C;go_enter Tryz.func58,Tryz.ntmps58;go_wp2_with (first
       |(go_at_call 18;(with_reducible refine z.o.mono ?_);go_must (rintro e w1 ⟨rfl,rfl⟩))
       |(go_at_call 85;(with_reducible refine G.o.mono ?_);go_must (rintro e w2 ⟨v2,rfl,q,g⟩;obtain⟨A2,c2,rfl,-,-,-⟩:=q.form;have t:=yo g;have r:=yo (F.o w2 (V.o.blw (g.mono X)));clear q g))
       |(go_at_call 18;(with_reducible refine r.o.mono ?_);go_must (rintro e w3 ⟨rfl,rfl⟩)))
      go_ret3;exact⟨_,rfl,ownB.nil_ _ _,t.o⟩
     ·clear C
      go_enter Tryz.func58,Tryz.ntmps58;go_wp2_with (first
       |(go_at_call 18;(with_reducible refine z.o.mono ?_);go_must (rintro e w1 ⟨rfl,rfl⟩))
       |(go_at_call 85;(with_reducible refine Y.o.mono ?_);go_must (rintro e w2 ⟨v2,rfl,q,g⟩;obtain⟨A2,c2,rfl,-,-,-⟩:=q.form;have t:=yo g;have r:=yo (F.o w2 (V.o.blw (g.mono X)));clear q g))
       |(go_at_call 18;(with_reducible refine r.o.mono ?_);go_must (rintro e w3 ⟨rfl,rfl⟩)))
      go_ret3;exact⟨_,rfl,ownB.nil_ _ _,t.o⟩
    ·rw[if_neg h4]
     rw[O h4] at F;have hs:=zn0 (bs:=bs) (u:=u) (by omega);have ha:=zgo xs;have al:IntKind.u32.wrap (zdc bs u:Int)=(zdc bs u:Int):=(by show(zdc bs u:Int) % 4294967296=_;omega);have ai:(K:Int)+4=((K+4:Nat):Int):=(by omega);obtain⟨K4,ac⟩:∃x,K+4=x:=⟨_,rfl⟩;rw[ac] at ai ⊢;clear R O;generalize zdc bs u=s at *;by_cases hsum:s=zbm xs
     ·rw[if_pos hsum]
      have dS:((s:Int) != (zbm xs:Int))=false:=(by rw[hsum];exact bne_self_eq_false _);have S:=yo (fun A2 c2 w2 w1 (h:RdB w1 w2 A2 xs.length xs)=>zgJ w2 xs.length c2 A2 xs w1 h (by omega));generalize zbm xs=ad at *;clear hsum;go_enter Tryz.func58,Tryz.ntmps58;go_wp2_with (first
       |(go_at_call 18;(with_reducible refine z.o.mono ?_);go_must (rintro e w1 ⟨rfl,rfl⟩))
       |(go_at_call 85;(with_reducible refine Y.o.mono ?_);go_must (rintro e w2 ⟨v2,rfl,q,g⟩;obtain⟨A2,c2,rfl,-,-,-⟩:=q.form;have ah:=yo q;have t:=yo g;have r:=yo (F.o w2 (V.o.blw (g.mono X)));have J:=yo (S.o A2 c2 w2.heap.size w2 (ownB.rd q));clear q g))
       |(go_at_call 18;(with_reducible refine r.o.mono ?_);go_must (rintro e w3 ⟨rfl,rfl⟩))
       |(go_at_call 86;(with_reducible refine J.o.mono ?_);go_must (rintro e w4 ⟨rfl,rfl⟩)))
      go_ret3;exact⟨_,rfl,ah.o,t.o⟩
     ·rw[if_neg hsum]
      have dS:((s:Int) != (zbm xs:Int))=true:=(by rw[bne_iff_ne];omega);have S:=yo (fun A2 c2 w2 w1 (h:RdB w1 w2 A2 xs.length xs)=>zgJ w2 xs.length c2 A2 xs w1 h (by omega));generalize zbm xs=ad at *;clear hsum;go_enter Tryz.func58,Tryz.ntmps58;go_wp2_with (first
       |(go_at_call 18;(with_reducible refine z.o.mono ?_);go_must (rintro e w1 ⟨rfl,rfl⟩))
       |(go_at_call 85;(with_reducible refine Y.o.mono ?_);go_must (rintro e w2 ⟨v2,rfl,q,g⟩;obtain⟨A2,c2,rfl,-,-,-⟩:=q.form;have t:=yo g;have r:=yo (F.o w2 (V.o.blw (g.mono X)));have J:=yo (S.o A2 c2 w2.heap.size w2 (ownB.rd q));clear q g))
       |(go_at_call 18;(with_reducible refine r.o.mono ?_);go_must (rintro e w3 ⟨rfl,rfl⟩))
       |(go_at_call 86;(with_reducible refine J.o.mono ?_);go_must (rintro e w4 ⟨rfl,rfl⟩)))
      go_ret3;exact⟨_,rfl,ownB.nil_ _ _,t.o⟩
   ·rw[if_neg hE]
    have dE:(E != 0)=true:=(by rw[bne_iff_ne];exact hE);by_cases hcc:c=2
    ·subst hcc
     obtain rfl:n=2:=by omega
     have G:=yo (C.o rfl);clear C;go_enter Tryz.func58,Tryz.ntmps58;go_wp2_with (first
      |(go_at_call 18;(with_reducible refine z.o.mono ?_);go_must (rintro e w1 ⟨rfl,rfl⟩))
      |(go_at_call 85;(with_reducible refine G.o.mono ?_);go_must (rintro e w2 ⟨v2,rfl,q,g⟩;obtain⟨A2,c2,rfl,-,-,-⟩:=q.form;have t:=yo g;clear q g)))
     go_ret3;exact⟨_,rfl,ownB.nil_ _ _,t.o⟩
    ·clear C
     go_enter Tryz.func58,Tryz.ntmps58;go_wp2_with (first
      |(go_at_call 18;(with_reducible refine z.o.mono ?_);go_must (rintro e w1 ⟨rfl,rfl⟩))
      |(go_at_call 85;(with_reducible refine Y.o.mono ?_);go_must (rintro e w2 ⟨v2,rfl,q,g⟩;obtain⟨A2,c2,rfl,-,-,-⟩:=q.form;have t:=yo g;clear q g)))
     go_ret3;exact⟨_,rfl,ownB.nil_ _ _,t.o⟩
end Go.Proofs.YtebbdifhiihfkaaGreatDoor

/- zlib: Whole, whatever comes. -/
namespace Go.Proofs.YtebbdifhiihfkaaGreatDoor
set_option linter.all false
set_option maxRecDepth 100000
set_option maxHeartbeats 3200000
open Go.RowKit
theorem zgw{bs:List UInt8}{most:Int}(h:(zax bs most).2.2=0):(zax bs most).2.1<=bs.length/\(zax bs most).1.length<=40000/\(((zax bs most).1.length:Nat):Int)<=most:=by
 unfold zax at h ⊢;split at h
 ·exact absurd (show(2:Int)=0 from h) (by decide)
 ·rename_i h1
  rw[if_neg h1];split at h
  ·exact absurd (show(4:Int)=0 from h) (by decide)
  ·rename_i h2
   rw[if_neg h2];split at h
   ·rename_i g
    rw[if_pos g];split at h
    ·exact absurd (show(2:Int)=0 from h) (by decide)
    ·rename_i h4
     rw[if_neg h4];split at h
     ·rename_i o
      rw[if_pos o];have r:=zhh g;have q:=ze1 g;exact⟨by show 2+(zak (bs.drop 2) most).2.1+4<=_;omega,by show(zak (bs.drop 2) most).1.length<=_;omega,by show(((zak (bs.drop 2) most).1.length:Nat):Int)<=_;omega⟩
     ·exact absurd (show(5:Int)=0 from h) (by decide)
   ·rename_i g
    exact absurd h g
theorem zrA(B n c:Nat)(A:Option Addr)(bs:List UInt8)(most:Int)(w:World)(h:RdB w B A n bs)(L:B<=w.heap.size)(J:n<=c)(H:n<=1000000):
  Calls Tryz.prog 31 #[.slice A n c,.int .i64 most] w fun e w'=>∃v,e=.returned (.tuple #[v,.int .i64 (zcB bs most).2])/\ownB w' w.heap.size v (zcB bs most).1/\Below w.heap.size w w':=by
 have M:=h.len;have s:=yo (zpb B n c A bs most w h L J H);have D:zcB bs most=if(zax bs most).2.2=0 then(if(zax bs most).2.1<bs.length then([],3) else((zax bs most).1,0)) else([],(zax bs most).2.2):=rfl;have r:=zgw (bs:=bs) (most:=most);rw[D];clear h D;obtain⟨⟨xs,u,E⟩,C⟩:∃I,zax bs most=I:=⟨_,rfl⟩;rw[C] at s r ⊢;clear C;replace r:E=0->u<=bs.length/\xs.length<=40000/\((xs.length:Nat):Int)<=most:=r;show Calls _ _ _ _ (fun e w'=>∃v,e=.returned (.tuple #[v,.int .i64 ((if E=0 then(if u<bs.length then([],3) else(xs,0)) else([],E)):List UInt8×Int).2])/\ownB w' w.heap.size v ((if E=0 then(if u<bs.length then([],3) else(xs,0)) else([],E)):List UInt8×Int).1/\Below w.heap.size w w');by_cases hE:E=0
 ·rw[if_pos hE]
  have G:(E != 0)=false:=by rw[hE];rfl
  by_cases hu:u<bs.length
  ·rw[if_pos hu]
   have z:(u:Int)<(n:Int):=(by omega);clear r;go_enter Tryz.func31,Tryz.ntmps31;go_wp2_with (go_at_call 58;(with_reducible refine s.o.mono ?_);go_must (rintro e w2 ⟨F,rfl,g,o⟩;obtain⟨A2,c2,rfl,-,-,-⟩:=g.form;have q:=yo o;clear g o));go_ret2;exact⟨_,rfl,ownB.nil_ _ _,q.o⟩
  ·rw[if_neg hu]
   have z:¬(u:Int)<(n:Int):=(by omega);clear r;go_enter Tryz.func31,Tryz.ntmps31;go_wp2_with (go_at_call 58;(with_reducible refine s.o.mono ?_);go_must (rintro e w2 ⟨F,rfl,g,o⟩;obtain⟨A2,c2,rfl,-,-,-⟩:=g.form;have t:=yo g;have q:=yo o;clear g o));go_ret2;exact⟨_,rfl,t.o,q.o⟩
 ·rw[if_neg hE]
  have G:(E != 0)=true:=by rw[bne_iff_ne];exact hE
  go_enter Tryz.func31,Tryz.ntmps31;go_wp2_with (go_at_call 58;(with_reducible refine s.o.mono ?_);go_must (rintro e w2 ⟨F,rfl,g,o⟩;obtain⟨A2,c2,rfl,-,-,-⟩:=g.form;have q:=yo o;clear g o));go_ret2;exact⟨_,rfl,ownB.nil_ _ _,q.o⟩
end Go.Proofs.YtebbdifhiihfkaaGreatDoor

