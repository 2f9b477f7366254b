/- XQo XQp XPng2 XPng3 XPngReads -/
import Derived.Test.YtebbdifhiihfkaaGreatDoorMm40
import Derived.Test.YtebbdifhiihfkaaGreatDoorMm42
import Derived.Test.YtebbdifhiihfkaaGreatDoorMm48
import Derived.Test.YtebbdifhiihfkaaGreatDoorMm29
import Derived.Test.YtebbdifhiihfkaaGreatDoorMm28
import Derived.Test.YtebbdifhiihfkaaGreatDoorMm30
import Derived.Test.YtebbdifhiihfkaaGreatDoorMm31
import Derived.Deep.RegionHeld3
namespace Go.Proofs.YtebbdifhiihfkaaGreatDoor
set_option linter.all false
set_option maxRecDepth 100000
set_option maxHeartbeats 12800000
open Go.RowKit
theorem zmI(B n c:Nat)(A:Option Addr)(bs:List UInt8)(w:World)(h:RdB w B A n bs)(N:B<=w.heap.size)(hc:n<=c)(Z:n<=1000000)(P:(zab bs).1≠0):
  Calls Tryz.prog 13 #[.slice A n c] w fun e w'=>UnB ⟨0,0,0,0⟩ [] false w.heap.size w e w':=by
 have W:=h.len;have D:=zbL (bs:=bs);have u:=zbO (bs:=bs);obtain⟨w1,o⟩:∃w1,w.alloc (.cells #[.int .i64 0,.int .i64 0,.int .i64 0,.int .i64 0,.slice none 0 0] 39)=w1:=⟨_,rfl⟩;obtain⟨bx,q⟩:∃b,w.heap.size=b:=⟨_,rfl⟩;have F:Hid (Arr w1 bx [.int .i64 0,.int .i64 0,.int .i64 0,.int .i64 0,.slice none 0 0]):=(show Arr _ _ _ by rw[<-o,<-q];exact Arr.new w [.int .i64 0,.int .i64 0,.int .i64 0,.int .i64 0,.slice none 0 0] _);have J:Hid (RdB w1 B A n bs):=(show RdB _ _ _ _ _ by rw[<-o];exact Rd.alloc h N _);have L:Hid (Below bx w w1):=(show Below _ _ _ by rw[<-o,<-q];exact(Below.refl w.heap.size w).alloc (nlr _) _);have V:bx+1<=w1.heap.size:=by rw[<-o,wsa,q];exact nlr _
 have s:=zdy B n c A bs w1 J.o (by omega) hc Z;unfold zaZ at s;obtain⟨H,z⟩:∃H:Int,((zab bs).1:Int)=H:=⟨_,rfl⟩;obtain⟨p,hp⟩:∃p,(zab bs).2=p:=⟨_,rfl⟩;rw[z,hp] at s;rw[hp] at D u;have C:Hid (zbo p<=1000000):=(show _<=_ by omega);have T:=yo u;rw[q] at N ⊢;have Y:(H != 0)=true:=by rw[<-z,bne_iff_ne];omega
 have E:=yo s;clear s P z hp h u;go_enter Tryz.func13,Tryz.ntmps13;(try simp only[o,q]);go_wp2_with (go_at_call 10;(with_reducible refine E.o.mono ?_);go_must (rintro e w2 ⟨A2,M,c2,l,rfl,t,g,X,r⟩;have S:=yo t;have R:=yo g;have G:=yo (F.o.later r);have I:=yo (L.o.trans (r.mono (by omega)));have U:=r.size;have O:Hid (l.length=M):=(show _=_ from t.len);have aa:Hid (M<=1000000):=(show _<=_ by have h1:=t.len;have h2:=g.1;have h3:=zbU p;have h4:=C.o;omega);obtain⟨x0,f0,x1,f1,x2,f2,x3,f3,x4,f4⟩:=G.o.m5;clear t g r));refine bodyPost_ret (v:=.tuple #[.agg #[.int .i64 0,.int .i64 0,.int .i64 0,.int .i64 0,.slice none 0 0],.bool false]) ?_ rfl ?_
 ·unfold results
  go_simp
 ·exact⟨_,rfl,ownB.nil_ _ _,((((I.o.setCell (p:=⟨bx,0,none⟩) (nlr _) _).setCell (p:=⟨bx,1,none⟩) (nlr _) _).setCell (p:=⟨bx,2,none⟩) (nlr _) _).setCell (p:=⟨bx,3,none⟩) (nlr _) _).setCell (p:=⟨bx,4,none⟩) (nlr _) _⟩
theorem zk9(B n c:Nat)(A:Option Addr)(bs:List UInt8)(w:World)(h:RdB w B A n bs)(hB:B<=w.heap.size)(hc:n<=c)(hn:n<=1000000)(hE:(zab bs).1=0)(U:¬zaV (zab bs).2):
  Calls Tryz.prog 13 #[.slice A n c] w fun e w'=>UnB ⟨0,0,0,0⟩ [] false w.heap.size w e w':=by
 have ae:=h.len;have F:=zbL (bs:=bs);have D:=zbO (bs:=bs);obtain⟨w1,o⟩:∃w1,w.alloc (.cells #[.int .i64 0,.int .i64 0,.int .i64 0,.int .i64 0,.slice none 0 0] 39)=w1:=⟨_,rfl⟩;obtain⟨bx,q⟩:∃b,w.heap.size=b:=⟨_,rfl⟩;have I:Hid (Arr w1 bx [.int .i64 0,.int .i64 0,.int .i64 0,.int .i64 0,.slice none 0 0]):=(show Arr _ _ _ by rw[<-o,<-q];exact Arr.new w [.int .i64 0,.int .i64 0,.int .i64 0,.int .i64 0,.slice none 0 0] _);have V:Hid (RdB w1 B A n bs):=(show RdB _ _ _ _ _ by rw[<-o];exact Rd.alloc h hB _);have Y:Hid (Below bx w w1):=(show Below _ _ _ by rw[<-o,<-q];exact(Below.refl w.heap.size w).alloc (nlr _) _);have ac:bx+1<=w1.heap.size:=by rw[<-o,wsa,q];exact nlr _
 have t:=zdy B n c A bs w1 V.o (by omega) hc hn;unfold zaZ at t;obtain⟨R,G⟩:∃R:Int,((zab bs).1:Int)=R:=⟨_,rfl⟩;obtain⟨p,hp⟩:∃p,(zab bs).2=p:=⟨_,rfl⟩;rw[G,hp] at t;rw[hp] at F D;have z:Hid (zbo p<=1000000):=(show _<=_ by omega);have P:=yo D;rw[q] at hB ⊢;rw[hp] at U;obtain rfl:R=0:=by omega
 have H:=yo t;have HS:=yo U;clear t hE G hp h D U;go_enter Tryz.func13,Tryz.ntmps13;(try simp only[o,q]);go_wp2_with (first
  |(go_at_call 10;(with_reducible refine H.o.mono ?_);go_must (rintro e w2 ⟨A2,J,c2,l,rfl,u,g,W,s⟩;have O:=yo u;have N:=yo g;have E:=yo (I.o.later s);have S:=yo (Y.o.trans (s.mono (by omega)));have ab:=s.size;have aa:Hid (l.length=J):=(show _=_ from u.len);have X:Hid (J<=1000000):=(show _<=_ by have h1:=u.len;have h2:=g.1;have h3:=zbU p;have h4:=z.o;omega);obtain⟨x0,f0,x1,f1,x2,f2,x3,f3,x4,f4⟩:=E.o.m5;clear u g s))
  |(go_at_call 34;(with_reducible refine(zgy w2.heap.size J c2 A2 l p w2 O.o N.o (nlr _) W X.o P.o z.o).mono ?_);go_must (rintro e w3 ⟨v3,Z,rfl,C,L,r⟩;obtain rfl:Z=false:=(by cases Z with|false=>rfl|true=>exact absurd (C.1 rfl) HS.o);have M:=yo (E.o.later r);have T:=yo (S.o.trans (r.mono (by omega)));have af:=r.size;obtain⟨x0,f0,x1,f1,x2,f2,x3,f3,x4,f4⟩:=M.o.m5; clear C r L)))
 refine bodyPost_ret (v:=.tuple #[.agg #[.int .i64 0,.int .i64 0,.int .i64 0,.int .i64 0,.slice none 0 0],.bool false]) ?_ rfl ?_
 ·unfold results
  go_simp
 ·exact⟨_,rfl,ownB.nil_ _ _,((((T.o.setCell (p:=⟨bx,0,none⟩) (nlr _) _).setCell (p:=⟨bx,1,none⟩) (nlr _) _).setCell (p:=⟨bx,2,none⟩) (nlr _) _).setCell (p:=⟨bx,3,none⟩) (nlr _) _).setCell (p:=⟨bx,4,none⟩) (nlr _) _⟩
theorem zpu(B n c:Nat)(A:Option Addr)(bs:List UInt8)(w:World)(h:RdB w B A n bs)(hB:B<=w.heap.size)(hc:n<=c)(hn:n<=1000000)(hE:(zab bs).1=0)(hS:zaV (zab bs).2)(hH:zc1 (zap (zab bs).2)≠0):
  Calls Tryz.prog 13 #[.slice A n c] w fun e w'=>UnB ⟨0,0,0,0⟩ [] false w.heap.size w e w':=by
 have aC:=h.len;have S:=zbL (bs:=bs);have M:=zbO (bs:=bs);obtain⟨w1,s⟩:∃w1,w.alloc (.cells #[.int .i64 0,.int .i64 0,.int .i64 0,.int .i64 0,.slice none 0 0] 39)=w1:=⟨_,rfl⟩;obtain⟨bx,q⟩:∃b,w.heap.size=b:=⟨_,rfl⟩;have ak:Hid (Arr w1 bx [.int .i64 0,.int .i64 0,.int .i64 0,.int .i64 0,.slice none 0 0]):=(show Arr _ _ _ by rw[<-s,<-q];exact Arr.new w [.int .i64 0,.int .i64 0,.int .i64 0,.int .i64 0,.slice none 0 0] _);have a3:Hid (RdB w1 B A n bs):=(show RdB _ _ _ _ _ by rw[<-s];exact Rd.alloc h hB _);have av:Hid (Below bx w w1):=(show Below _ _ _ by rw[<-s,<-q];exact(Below.refl w.heap.size w).alloc (nlr _) _);have aE:bx+1<=w1.heap.size:=by rw[<-s,wsa,q];exact nlr _
 have G:=zdy B n c A bs w1 a3.o (by omega) hc hn;unfold zaZ at G;obtain⟨E1,ai⟩:∃E1:Int,((zab bs).1:Int)=E1:=⟨_,rfl⟩;obtain⟨p,hp⟩:∃p,(zab bs).2=p:=⟨_,rfl⟩;rw[ai,hp] at G;rw[hp] at S M;have I:Hid (zbo p<=1000000):=(show _<=_ by omega);have ax:=yo M;rw[q] at hB ⊢;rw[hp] at hS hH;obtain rfl:E1=0:=by omega
 have HS:=yo hS;obtain⟨F,P,O,-,-⟩:=hS;obtain⟨hd,u⟩:∃hd,zap p=hd:=⟨_,rfl⟩;have X:p[0]?=some (zaX,hd):=by
  rw[lge F];have h1:p.getD 0 ([],[])=p[0]:=by rw[lgd,lge F];rfl
  have h2:zap p=p[0].2:=by unfold zap;rw[h1]
  rw[h1] at P;rw[<-u,h2,<-P]
 rw[u] at O;have a5:=yo X;have V:=yo O;have W:=yo F;rw[u] at hH;obtain⟨E,L⟩:∃E,zc1 hd=E:=⟨_,rfl⟩;rw[L] at hH;have aA:(E != 0)=true:=by rw[bne_iff_ne];exact hH
 have ap:=yo L;have a0:=yo G;clear G hE ai hp h M u F P O X L hH;go_enter Tryz.func13,Tryz.ntmps13;(try simp only[s,q]);go_wp2_with (first
  |(go_at_call 10;(with_reducible refine a0.o.mono ?_);go_must (rintro e w2 ⟨A2,n2,c2,l,rfl,D,r,an,C⟩;have ac:=yo D;have ab:=yo r;have af:=yo (ak.o.later C);have am:=yo (av.o.trans (C.mono (by omega)));have aD:=C.size;have a1:Hid (l.length=n2):=(show _=_ from D.len);have au:Hid (n2<=1000000):=(show _<=_ by have h1:=D.len;have h2:=r.1;have h3:=zbU p;have h4:=I.o;omega);obtain⟨x0,f0,x1,f1,x2,f2,x3,f3,x4,f4⟩:=af.o.m5;clear D r C))
  |(go_at_call 34;(with_reducible refine(zgy w2.heap.size n2 c2 A2 l p w2 ac.o ab.o (nlr _) an au.o ax.o I.o).mono ?_);go_must (rintro e w3 ⟨v3,b3,rfl,J,al,g⟩;obtain rfl:b3=true:=J.2 HS.o;have T:=yo (af.o.later g);have aq:=yo (am.o.trans (g.mono (by omega)));have aB:=g.size;obtain⟨x0,f0,x1,f1,x2,f2,x3,f3,x4,f4⟩:=T.o.m5;have a4:=yo (RdQ.later ac.o g);have U:=yo (ab.o.later g);obtain⟨kz,dz,Az,cz,Y,Z,ay,R⟩:=U.o.one (i:=0) W.o;have N:=Y.symm.trans a5.o;injection N with N;injection N with ah aa;subst ah aa;have t:=V.o;have aw:Hid (l[0]?=some (zaX,Az,13,cz)):=(show _=_ by rw[Z,t]);have H:RdB w3 w3.heap.size Az 13 dz:=(by rw[<-t];exact R);have aj:0<n2:=(by have h1:=a1.o;have h2:=U.o.1;have h3:=W.o;omega);obtain⟨bl,ol,xl,rfl,a9,a2,e1,e2⟩:=a4.o.one (k:=0) aj;have az:xl=(zaX,Az,13,cz):=(by have:=a2.o.symm.trans aw.o;injection this);subst az;simp only[Nat.zero_mul,Nat.add_zero] at e1 e2;(try dsimp only at e1 e2);have a7:(0:Int)<(n2:Int):=(by omega);have o:=yo (zh2 w3.heap.size cz Az dz w3 H (nlr _) (by omega));clear Y Z ay R t H e1;unfold zeA ShP at o;rw[ap.o] at o;clear J g al))
  |(go_at_call 35;(with_reducible refine o.o.mono ?_);go_must (rintro e w4 ⟨la,rfl,ar,z⟩;have ag:=yo (T.o.later z);have ao:=yo (aq.o.trans (z.mono (by omega)));have a8:=z.size;have ae:=ag.o.lt;have a6:=Nat.ne_of_lt ae;obtain⟨x0,f0,x1,f1,x2,f2,x3,f3,x4,f4⟩:=ag.o.m5; clear z ar)))
 refine bodyPost_ret (v:=.tuple #[.agg #[.int .i64 0,.int .i64 0,.int .i64 0,.int .i64 0,.slice none 0 0],.bool false]) ?_ rfl ?_
 ·unfold results
  go_simp
 ·exact⟨_,rfl,ownB.nil_ _ _,Below.alloc (((((ao.o.setCell (p:=⟨bx,0,none⟩) (nlr _) _).setCell (p:=⟨bx,1,none⟩) (nlr _) _).setCell (p:=⟨bx,2,none⟩) (nlr _) _).setCell (p:=⟨bx,3,none⟩) (nlr _) _).setCell (p:=⟨bx,4,none⟩) (nlr _) _) (by simp;omega) _⟩
theorem zmJ(W H C D K N:Nat)(LA:Bool)(U:List UInt8->Sh×List UInt8×Int)(sF:Sh)(out:List UInt8)(EF:Int)(B n c:Nat)(A:Option Addr)(bs:List UInt8)(w:World)(h:RdB w B A n bs)(hB:B<=w.heap.size)(hc:n<=c)(hn:n<=1000000)(hE:(zab bs).1=0)(hS:zaV (zab bs).2)(hH:zc1 (zap (zab bs).2)=0)(hL:zfK (zap (zab bs).2)=LA)
  (aw:hdW (zap (zab bs).2)=W) (ax:hdH (zap (zab bs).2)=H) (ay:hdC (zap (zab bs).2)=C) (a4:hdD (zap (zab bs).2)=D) (cm:N<=40000)
  (bv:∀w,Calls Tryz.prog 37 #[.agg #[.int .i64 (W:Int),.int .i64 (H:Int),.int .i64 (C:Int),.int .i64 (D:Int)],.bool LA] w fun e w'=>e=.returned (.int .i64 (N:Int))/\Below w.heap.size w w')
  (bq:LA=true->∀w A c d,RdB w w.heap.size A d.length d->d.length<=c->N<=d.length->d.length<=1000000->Calls Tryz.prog 38 #[.agg #[.int .i64 (W:Int),.int .i64 (H:Int),.int .i64 (C:Int),.int .i64 (D:Int)],.slice A d.length c] w fun e w'=>UnB (U d).1 (U d).2.1 (decide ((U d).2.2=0)) w.heap.size w e w')
  (aZ:LA=false->∀w A c d,RdB w w.heap.size A d.length d->d.length<=c->N<=d.length->d.length<=1000000->Calls Tryz.prog 39 #[.agg #[.int .i64 (W:Int),.int .i64 (H:Int),.int .i64 (C:Int),.int .i64 (D:Int)],.slice A d.length c] w fun e w'=>zi6 (unF K (W*K) d H) w e w')
  (bd:LA=false->∀d,U d=unT W H C D (unF K (W*K) d H))
  (hR:zfL U N (zcB (za4 (zab bs).2) (N:Int))=(sF,out,EF)) :
  Calls Tryz.prog 13 #[.slice A n c] w fun e w'=>UnB sF out (decide (EF=0)) w.heap.size w e w':=by
 have aP:=h.len;have a7:=zbL (bs:=bs);have aH:=zbO (bs:=bs);obtain⟨w1,ap⟩:∃w1,w.alloc (.cells #[.int .i64 0,.int .i64 0,.int .i64 0,.int .i64 0,.slice none 0 0] 39)=w1:=⟨_,rfl⟩;obtain⟨bx,ah⟩:∃b,w.heap.size=b:=⟨_,rfl⟩;have b4:Hid (Arr w1 bx [.int .i64 0,.int .i64 0,.int .i64 0,.int .i64 0,.slice none 0 0]):=(show Arr _ _ _ by rw[<-ap,<-ah];exact Arr.new w [.int .i64 0,.int .i64 0,.int .i64 0,.int .i64 0,.slice none 0 0] _);have cc:Hid (RdB w1 B A n bs):=(show RdB _ _ _ _ _ by rw[<-ap];exact Rd.alloc h hB _);have bK:Hid (Below bx w w1):=(show Below _ _ _ by rw[<-ap,<-ah];exact(Below.refl w.heap.size w).alloc (nlr _) _);have co:bx+1<=w1.heap.size:=by rw[<-ap,wsa,ah];exact nlr _
 have au:=zdy B n c A bs w1 cc.o (by omega) hc hn;unfold zaZ at au;obtain⟨E1,b1⟩:∃E1:Int,((zab bs).1:Int)=E1:=⟨_,rfl⟩;obtain⟨p,hp⟩:∃p,(zab bs).2=p:=⟨_,rfl⟩;rw[b1,hp] at au;rw[hp] at a7 aH;have aA:Hid (zbo p<=1000000):=(show _<=_ by omega);have bN:=yo aH;rw[ah] at hB ⊢;rw[hp] at hS hH hL aw ax ay a4 hR;obtain rfl:E1=0:=by omega
 have HS:=yo hS;obtain⟨a5,aR,aN,-,-⟩:=hS;obtain⟨hd,av⟩:∃hd,zap p=hd:=⟨_,rfl⟩;have bf:p[0]?=some (zaX,hd):=by
  rw[lge a5];have h1:p.getD 0 ([],[])=p[0]:=by rw[lgd,lge a5];rfl
  have h2:zap p=p[0].2:=by unfold zap;rw[h1]
  rw[h1] at aR;rw[<-av,h2,<-aR]
 rw[av] at aN;have ce:=yo bf;have bb:=yo aN;have bc:=yo a5;rw[av] at hH hL aw ax ay a4;have bG:=yo hH;have bO:=yo hL;have bQ:=yo aw;have b9:=yo ax;have bA:=yo ay;have b5:=yo a4;have bV:=yo au;have ab:=yo bv;have bT:=yo bq;have bD:=yo aZ;have bI:=yo bd;obtain⟨data,F⟩:∃d,za4 p=d:=⟨_,rfl⟩;have bF:data.length<=1000000:=by rw[<-F];have h1:=zfa p;omega
 have bM:=yo F;rw[F] at hR;obtain⟨⟨S,RE⟩,o⟩:∃R,zcB data (N:Int)=R:=⟨_,rfl⟩;rw[o] at hR;have am:=yo (fun A9 c9 (w9:World) (h:RdB w9 w9.heap.size A9 data.length data) (bE:data.length<=c9)=>zpt w9.heap.size data.length c9 A9 data (N:Int) w9 h (nlr _) bE bF);rw[o] at am;have bz:RE=0->S.length<=1000000:=fun h=>by
  have h1:(zax data (N:Int)).2.2=0:=by
   unfold zcB at o;split at o
   ·assumption
   ·injection o with _ o;exact o.trans h
  have h2:=(zgw h1).2.1;unfold zcB at o;rw[if_pos h1] at o;split at o
  ·injection o with h3 _;rw[<-h3];exact Nat.zero_le _
  ·injection o with h3 _;rw[<-h3];omega
 have bB:=yo bz;have ao:=yo hR;obtain⟨sW,sH,sC,sD⟩:=sF;clear au hE b1 hp h aH av a5 aR aN bf hH hL aw ax ay a4 hR bv bq aZ bd F o bz a7;go_enter Tryz.func13,Tryz.ntmps13;(try simp only[ap,ah]);go_upto_region 8 with(first
  |(go_at_call 10;(with_reducible refine bV.o.mono ?_);go_must (rintro e w2 ⟨A2,n2,c2,l,rfl,a0,al,b7,az⟩;have bo:=yo a0;have bn:=yo al;have bt:=yo (b4.o.later az);have b6:=yo (bK.o.trans (az.mono (by omega)));have cn:=az.size;have bW:Hid (l.length=n2):=(show _=_ from a0.len);have bJ:Hid (n2<=1000000):=(show _<=_ by have h1:=a0.len;have h2:=al.1;have h3:=zbU p;have h4:=aA.o;omega);obtain⟨Z,f0,x1,X,x2,V,x3,f3,x4,Y⟩:=bt.o.m5;clear a0 al az))
  |(go_at_call 34;(with_reducible refine(zgy w2.heap.size n2 c2 A2 l p w2 bo.o bn.o (nlr _) b7 bJ.o bN.o aA.o).mono ?_);go_must (rintro e w3 ⟨v3,b3,rfl,aC,aV,aa⟩;obtain rfl:b3=true:=aC.2 HS.o;have aW:=yo (bt.o.later aa);have bH:=yo (b6.o.trans (aa.mono (by omega)));have cl:=aa.size;obtain⟨Z,f0,x1,X,x2,V,x3,f3,x4,Y⟩:=aW.o.m5;have cd:=yo (RdQ.later bo.o aa);have ba:=yo (bn.o.later aa);obtain⟨kz,dz,Az,cz,bi,bk,bR,aT⟩:=ba.o.one (i:=0) bc.o;have aK:=bi.symm.trans ce.o;injection aK with aK;injection aK with b0 bm;subst b0 bm;have aq:=bb.o;have bL:Hid (l[0]?=some (zaX,Az,13,cz)):=(show _=_ by rw[bk,aq]);have a8:RdB w3 w3.heap.size Az 13 dz:=(by rw[<-aq];exact aT);have b2:0<n2:=(by have h1:=bW.o;have h2:=ba.o.1;have h3:=bc.o;omega);obtain⟨bl,ol,xl,rfl,cj,cb,e1,e2⟩:=cd.o.one (k:=0) b2;have bS:xl=(zaX,Az,13,cz):=(by have:=cb.o.symm.trans bL.o;injection this);subst bS;simp only[Nat.zero_mul,Nat.add_zero] at e1 e2;(try dsimp only at e1 e2);have ch:(0:Int)<(n2:Int):=(by omega);have af:=yo (zh2 w3.heap.size cz Az dz w3 a8 (nlr _) (by omega));clear bi bk bR aT aq a8 e1;unfold zeA ShP at af;rw[bG.o,bQ.o,b9.o,bA.o,b5.o] at af;have ar:=aV rfl;rw[bM.o] at ar;have bZ:=yo ar;clear ar;clear aC aa aV))
  |(go_at_call 35;(with_reducible refine af.o.mono ?_);go_must (rintro e w4 ⟨la,rfl,bh,ai⟩;have aQ:=yo (aW.o.later ai);have bC:=yo (bH.o.trans (ai.mono (by omega)));have ci:=ai.size;have a9:=aQ.o.lt;have bg:=Nat.ne_of_lt a9;obtain⟨Z,f0,x1,X,x2,V,x3,f3,x4,Y⟩:=aQ.o.m5;obtain rfl:la=LA:=(bh (by first|rfl|trivial)).trans bO.o;have bP:=yo (bZ.o.later ai);clear ai bh)))
 obtain⟨w5,J⟩:∃w5,w4.alloc (.cells #[.int .i64 (W:Int),.int .i64 (H:Int),.int .i64 (C:Int),.int .i64 (D:Int)] 37)=w5:=⟨_,rfl⟩;obtain⟨aD,a1⟩:∃b,w4.heap.size=b:=⟨_,rfl⟩;have aE:Hid (Arr w5 aD [.int .i64 (W:Int),.int .i64 (H:Int),.int .i64 (C:Int),.int .i64 (D:Int)]):=(show Arr _ _ _ by rw[<-J,<-a1];exact Arr.new w4 [.int .i64 (W:Int),.int .i64 (H:Int),.int .i64 (C:Int),.int .i64 (D:Int)] _);have aY:=yo (show Arr w5 bx [.int .i64 0,.int .i64 0,.int .i64 0,.int .i64 0,.slice none 0 0] by rw[<-J];exact aQ.o.alloc _);have br:Hid (Below bx w w5):=(show Below _ _ _ by rw[<-J];exact bC.o.alloc (by omega) _);have bU:Hid (ownB w5 w2.heap.size v3 data):=(show ownB _ _ _ _ by rw[<-J];exact ownB.alloc bP.o _);have ck:aD+1<=w5.heap.size:=by rw[<-J,wsa,a1];exact nlr _
 have cg:bx<aD:=by omega
 obtain⟨A3,c3,rfl,bw,aU,-⟩:=bU.o.form;have bp:=yo bw;(try simp only[J,a1]);clear J a1 Z x1 x2 x3 x4 f0 X V f3 Y bw bg a9;obtain⟨s0,s1,s2,s3⟩:=aE.o.c4;by_cases hre:RE=0
 case neg =>
  have M:Hid (sW=0/\sH=0/\sC=0/\sD=0/\out=[]/\decide (EF=0)=false):=(show _/\_ by
   have h1:=ao.o;unfold zfL at h1;rw[if_pos (show((S,RE):List UInt8×Int).2≠0 from hre)] at h1;injection h1 with h1 h2;injection h1 with h4 h5 h6 h7;injection h2 with h2 h3;exact⟨h4.symm,h5.symm,h6.symm,h7.symm,h2.symm,decide_eq_false (by rw[<-h3];exact hre)⟩)
  rw[decide_eq_false hre] at am;clear hre;go_wp2_with (first
   |(go_at_call 37;(with_reducible refine(ab.o _).mono ?_);go_must (rintro e w6 ⟨rfl,q⟩;have aM:=yo (aY.o.later q);have aF:=yo (aE.o.later q);have aL:=yo (br.o.trans (q.mono (by omega)));have aO:=yo (RdB.later bp.o q);have aS:=yo (am.o A3 c3 w6 aO.o aU);have bY:=q.size;clear q s0 s1 s2 s3))
   |(go_at_call 36;(with_reducible refine aS.o.mono ?_);go_must (rintro e w7 ⟨v7,rfl,ae,s⟩;obtain⟨A7,c7,rfl,ak,a3,-⟩:=ae.form;have an:=yo ak;have G:=yo (aM.o.later s);have P:=yo (aF.o.later s);have O:=yo (aL.o.trans (s.mono (by omega)));have ca:=s.size;obtain⟨Z,f0,x1,X,x2,V,x3,f3,x4,Y⟩:=G.o.m5;obtain⟨s0,s1,s2,s3⟩:=P.o.c4;clear ae s ak)))
  refine bodyPost_ret (v:=.tuple #[.agg #[.int .i64 0,.int .i64 0,.int .i64 0,.int .i64 0,.slice none 0 0],.bool false]) ?_ rfl ?_
  ·unfold results
   go_simp
  ·obtain⟨rfl,rfl,rfl,rfl,rfl,T⟩:=M.o
   rw[T];exact⟨_,rfl,ownB.nil_ _ _,by first|exact((((O.o.setCell (p:=⟨bx,0,none⟩) (nlr _) _).setCell (p:=⟨bx,1,none⟩) (nlr _) _).setCell (p:=⟨bx,2,none⟩) (nlr _) _).setCell (p:=⟨bx,3,none⟩) (nlr _) _).setCell (p:=⟨bx,4,none⟩) (nlr _) _|exact zag (((((O.o.setCell (p:=⟨bx,0,none⟩) (nlr _) _).setCell (p:=⟨bx,1,none⟩) (nlr _) _).setCell (p:=⟨bx,2,none⟩) (nlr _) _).setCell (p:=⟨bx,3,none⟩) (nlr _) _).setCell (p:=⟨bx,4,none⟩) (nlr _) _) _⟩
 have bu:=yo hre;have aB:=bB.o hre;rw[decide_eq_true hre] at am;clear hre;go_upto_region 11 with(first
  |(go_at_call 37;(with_reducible refine(ab.o _).mono ?_);go_must (rintro e w6 ⟨rfl,q⟩;have aM:=yo (aY.o.later q);have aF:=yo (aE.o.later q);have aL:=yo (br.o.trans (q.mono (by omega)));have aO:=yo (RdB.later bp.o q);have aS:=yo (am.o A3 c3 w6 aO.o aU);have bY:=q.size;clear q s0 s1 s2 s3))
  |(go_at_call 36;(with_reducible refine aS.o.mono ?_);go_must (rintro e w7 ⟨v7,rfl,ae,s⟩;obtain⟨A7,c7,rfl,ak,a3,-⟩:=ae.form;have an:=yo ak;have G:=yo (aM.o.later s);have P:=yo (aF.o.later s);have O:=yo (aL.o.trans (s.mono (by omega)));have ca:=s.size;obtain⟨Z,f0,x1,X,x2,V,x3,f3,x4,Y⟩:=G.o.m5;obtain⟨s0,s1,s2,s3⟩:=P.o.c4;clear ae s ak)))
 have cf:bx<=w7.heap.size:=Nat.le_of_lt G.o.lt;by_cases aP:S.length<N
 case pos =>
  have bj:(S.length:Int)<(N:Int):=by omega
  have M:Hid (sW=0/\sH=0/\sC=0/\sD=0/\out=[]/\decide (EF=0)=false):=(show _/\_ by
   have h1:=ao.o;unfold zfL at h1;rw[if_neg (show ¬((S,RE):List UInt8×Int).2≠0 from fun h=>h bu.o),if_pos (show((S,RE):List UInt8×Int).1.length<N from aP)] at h1;injection h1 with h1 h2;injection h1 with h4 h5 h6 h7;injection h2 with h2 h3;exact⟨h4.symm,h5.symm,h6.symm,h7.symm,h2.symm,decide_eq_false (by rw[<-h3];decide)⟩)
  clear Z x1 x2 x3 x4 f0 X V f3 Y;go_wp2_with (go_at_call 37;(with_reducible refine(ab.o _).mono ?_);go_must (rintro e w8 ⟨rfl,g⟩;have z:=yo (G.o.later g);have I:=yo (P.o.later g);have L:=yo (O.o.trans (g.mono (by omega)));have ac:=yo (RdB.later an.o g);have aI:=g.size;obtain⟨Z,f0,x1,X,x2,V,x3,f3,x4,Y⟩:=z.o.m5;obtain⟨r0,r1,r2,r3⟩:=I.o.c4;clear g s0 s1 s2 s3));refine bodyPost_ret (v:=.tuple #[.agg #[.int .i64 0,.int .i64 0,.int .i64 0,.int .i64 0,.slice none 0 0],.bool false]) ?_ rfl ?_
  ·unfold results
   go_simp
  ·obtain⟨rfl,rfl,rfl,rfl,rfl,T⟩:=M.o
   rw[T];exact⟨_,rfl,ownB.nil_ _ _,((((L.o.setCell (p:=⟨bx,0,none⟩) (nlr _) _).setCell (p:=⟨bx,1,none⟩) (nlr _) _).setCell (p:=⟨bx,2,none⟩) (nlr _) _).setCell (p:=⟨bx,3,none⟩) (nlr _) _).setCell (p:=⟨bx,4,none⟩) (nlr _) _⟩
 have bj:¬(S.length:Int)<(N:Int):=by omega
 have a2:Hid (U S=(⟨sW,sH,sC,sD⟩,out,EF)):=(show _=_ by
  have h1:=ao.o;unfold zfL at h1;rw[if_neg (show ¬((S,RE):List UInt8×Int).2≠0 from fun h=>h bu.o),if_neg (show ¬((S,RE):List UInt8×Int).1.length<N from aP)] at h1;exact h1)
 have aX:N<=S.length:=by omega
 clear Z x1 x2 x3 x4 f0 X V f3 Y;cases la with
 |true =>
  have E:=yo (fun w A c h1 h2=>bT.o rfl w A c S h1 h2 aX aB);rw[a2.o] at E;dsimp only at E;unfold UnB at E;obtain⟨DE,aJ⟩:∃b,decide (EF=0)=b:=⟨_,rfl⟩;rw[aJ] at E;have b8:=yo aJ;clear aJ;go_wp2_with (first
   |(go_at_call 37;(with_reducible refine(ab.o _).mono ?_);go_must (rintro e w8 ⟨rfl,g⟩;have z:=yo (G.o.later g);have I:=yo (P.o.later g);have L:=yo (O.o.trans (g.mono (by omega)));have ac:=yo (RdB.later an.o g);have aI:=g.size;obtain⟨Z,f0,x1,X,x2,V,x3,f3,x4,Y⟩:=z.o.m5;obtain⟨r0,r1,r2,r3⟩:=I.o.c4;clear g s0 s1 s2 s3))
   |(go_at_call 38;(with_reducible refine(E.o w8 A7 c7 ac.o a3).mono ?_);go_must (rintro e w9 ⟨v9,rfl,t,r⟩;obtain⟨A9,c9,rfl,-,-,-⟩:=t.form;have aG:=yo t;have ag:=yo (z.o.later r);have aj:=yo (L.o.trans (r.mono (by omega)));have u:=yo (zbu t (show bx<w8.heap.size by omega));obtain⟨Z,f0,x1,X,x2,V,x3,f3,x4,Y⟩:=ag.o.m5;clear r t)))
  refine bodyPost_ret (v:=.tuple #[.agg #[.int .i64 sW,.int .i64 sH,.int .i64 sC,.int .i64 sD,.slice A9 out.length c9],.bool DE]) ?_ rfl ?_
  ·unfold results
   go_simp
  ·rw[b8.o]
   exact⟨_,rfl,(((((aG.o.far u.o 0 _).far u.o 1 _).far u.o 2 _).far u.o 3 _).far u.o 4 _).mono (by omega),((((aj.o.setCell (p:=⟨bx,0,none⟩) (nlr _) _).setCell (p:=⟨bx,1,none⟩) (nlr _) _).setCell (p:=⟨bx,2,none⟩) (nlr _) _).setCell (p:=⟨bx,3,none⟩) (nlr _) _).setCell (p:=⟨bx,4,none⟩) (nlr _) _⟩
 |false =>
  have E:=yo (fun w A c h1 h2=>bD.o rfl w A c S h1 h2 aX aB);have a6:=bI.o rfl S;rw[a2.o] at a6;obtain⟨R,hR⟩:∃R,unF K (W*K) S H=R:=⟨_,rfl⟩;rw[hR] at a6 E;unfold zi6 at E;clear hR;cases R with
  |none =>
   injection a6 with q1 q2;injection q1 with q3 q4 q5 q6;injection q2 with q7 q8;have M:Hid (sW=0/\sH=0/\sC=0/\sD=0/\out=[]/\decide (EF=0)=false):=(show _/\_ from⟨q3,q4,q5,q6,q7,decide_eq_false (by rw[q8];decide)⟩);clear q3 q4 q5 q6 q7 q8 a2 ao;go_wp2_with (first
    |(go_at_call 37;(with_reducible refine(ab.o _).mono ?_);go_must (rintro e w8 ⟨rfl,g⟩;have z:=yo (G.o.later g);have I:=yo (P.o.later g);have L:=yo (O.o.trans (g.mono (by omega)));have ac:=yo (RdB.later an.o g);have aI:=g.size;obtain⟨Z,f0,x1,X,x2,V,x3,f3,x4,Y⟩:=z.o.m5;obtain⟨r0,r1,r2,r3⟩:=I.o.c4;clear g s0 s1 s2 s3))
    |(go_at_call 39;(with_reducible refine(E.o w8 A7 c7 ac.o a3).mono ?_);go_must (rintro e w9 ⟨v9,rfl,t,r⟩;have ag:=yo (z.o.later r);have aj:=yo (L.o.trans (r.mono (by omega)));obtain⟨Z,f0,x1,X,x2,V,x3,f3,x4,Y⟩:=ag.o.m5;dsimp only[Option.isSome];clear r t)))
   refine bodyPost_ret (v:=.tuple #[.agg #[.int .i64 0,.int .i64 0,.int .i64 0,.int .i64 0,.slice none 0 0],.bool false]) ?_ rfl ?_
   ·unfold results
    go_simp
   ·obtain⟨rfl,rfl,rfl,rfl,rfl,T⟩:=M.o
    rw[T];exact⟨_,rfl,ownB.nil_ _ _,((((aj.o.setCell (p:=⟨bx,0,none⟩) (nlr _) _).setCell (p:=⟨bx,1,none⟩) (nlr _) _).setCell (p:=⟨bx,2,none⟩) (nlr _) _).setCell (p:=⟨bx,3,none⟩) (nlr _) _).setCell (p:=⟨bx,4,none⟩) (nlr _) _⟩
  |some p9 =>
   injection a6 with q1 q2;injection q1 with q3 q4 q5 q6;injection q2 with q7 q8;have M:Hid (sW=(W:Int)/\sH=(H:Int)/\sC=(C:Int)/\sD=(D:Int)/\out=p9.1/\decide (EF=0)=true):=(show _/\_ from⟨q3,q4,q5,q6,q7,decide_eq_true q8⟩);clear q3 q4 q5 q6 q7 q8 a2 ao;go_wp2_with (first
    |(go_at_call 37;(with_reducible refine(ab.o _).mono ?_);go_must (rintro e w8 ⟨rfl,g⟩;have z:=yo (G.o.later g);have I:=yo (P.o.later g);have L:=yo (O.o.trans (g.mono (by omega)));have ac:=yo (RdB.later an.o g);have aI:=g.size;obtain⟨Z,f0,x1,X,x2,V,x3,f3,x4,Y⟩:=z.o.m5;obtain⟨r0,r1,r2,r3⟩:=I.o.c4;clear g s0 s1 s2 s3))
    |(go_at_call 39;(with_reducible refine(E.o w8 A7 c7 ac.o a3).mono ?_);go_must (rintro e w9 ⟨v9,rfl,t,r⟩;obtain⟨A9,c9,rfl,-,-,-⟩:=t.form;have aG:Hid (ownB w9 w8.heap.size (.slice A9 p9.1.length c9) p9.1):=t;have ag:=yo (z.o.later r);have bX:=yo (I.o.later r);have aj:=yo (L.o.trans (r.mono (by omega)));have u:Hid ((Value.slice A9 p9.1.length c9).ownBlock≠some bx):=zbu t (show bx<w8.heap.size by omega);obtain⟨Z,f0,x1,X,x2,V,x3,f3,x4,Y⟩:=ag.o.m5;dsimp only[Option.isSome,zjO];obtain⟨t0,t1,t2,t3⟩:=bX.o.c4;clear r t r0 r1 r2 r3)))
   refine bodyPost_ret (v:=.tuple #[.agg #[.int .i64 (W:Int),.int .i64 (H:Int),.int .i64 (C:Int),.int .i64 (D:Int),.slice A9 p9.1.length c9],.bool true]) ?_ rfl ?_
   ·unfold results
    go_simp
   ·obtain⟨rfl,rfl,rfl,rfl,rfl,T⟩:=M.o
    rw[T];exact⟨_,rfl,(((((aG.o.far u.o 0 _).far u.o 1 _).far u.o 2 _).far u.o 3 _).far u.o 4 _).mono (by omega),((((aj.o.setCell (p:=⟨bx,0,none⟩) (nlr _) _).setCell (p:=⟨bx,1,none⟩) (nlr _) _).setCell (p:=⟨bx,2,none⟩) (nlr _) _).setCell (p:=⟨bx,3,none⟩) (nlr _) _).setCell (p:=⟨bx,4,none⟩) (nlr _) _⟩
end Go.Proofs.YtebbdifhiihfkaaGreatDoor

/- png: the program's reading and the document's, held together. -/
namespace Go.Proofs.YtebbdifhiihfkaaGreatDoor
set_option linter.all false
open Go.RowKit
/-- What both answer of a file. -/
structure Both(bs:List UInt8)(s:Sh)(out:List UInt8)(E:Int):Prop where
 dec:∀(B n c:Nat) (A:Option Addr) (w:World),RdB w B A n bs->B<=w.heap.size->n<=c->n<=1000000->Calls Tryz.prog 12 #[.slice A n c] w fun e w'=>UnU s out E w.heap.size w e w'
 unp:∀(B n c:Nat) (A:Option Addr) (w:World),RdB w B A n bs->B<=w.heap.size->n<=c->n<=1000000->Calls Tryz.prog 13 #[.slice A n c] w fun e w'=>UnB s out (decide (E=0)) w.heap.size w e w'
theorem zvG{g:List UInt8}(h:zc1 g=0):∃K,PS (hdW g) (hdH g) (hdC g) (hdD g) K/\hdH g*(hdW g*K)<=16384:=by
 unfold zc1 at h;split at h
 ·cases h
 ·split at h
  ·rename_i t
   obtain⟨W,H,C,D,K,e,hs,hz⟩:=PS.of_may t;unfold zjL at e;injection e with B z A u;have s:hdW g=W:=(by omega);have r:hdH g=H:=(by omega);have q:hdC g=C:=(by omega);have o:hdD g=D:=(by omega);rw[s,r,q,o];exact⟨K,hs,hz⟩
  ·cases h
theorem zvM(bs:List UInt8):∃s out E,Both bs s out E:=by
 by_cases hE:(zab bs).1=0
 case neg =>
  refine⟨⟨0,0,0,0⟩,[],((zab bs).1:Int),fun B n c A w h r q o=>zk7 B n c A bs w h r q o hE,fun B n c A w h r q o=>?_⟩;rw[decide_eq_false (by omega)];exact zmI B n c A bs w h r q o hE
 by_cases hS:zaV (zab bs).2
 case neg =>
  exact⟨⟨0,0,0,0⟩,[],4,fun B n c A w h r q o=>zjT B n c A bs w h r q o hE hS,fun B n c A w h r q o=>zk9 B n c A bs w h r q o hE hS⟩
 by_cases hH:zc1 (zap (zab bs).2)=0
 case neg =>
  refine⟨⟨0,0,0,0⟩,[],zc1 (zap (zab bs).2),fun B n c A w h r q o=>zm8 B n c A bs w h r q o hE hS hH,fun B n c A w h r q o=>?_⟩;rw[decide_eq_false hH];exact zpu B n c A bs w h r q o hE hS hH
 obtain⟨K,hs,hz⟩:=zvG hH;obtain⟨H,I⟩:∃H,zap (zab bs).2=H:=⟨_,rfl⟩;cases hL:zfK (zap (zab bs).2) with
 |true =>
  have u:oO (hdW (zap (zab bs).2)) (hdH (zap (zab bs).2)) K 7<=40000:=by
   have h1:=zpe (K:=K) hs.w2 hs.h2 7;have h2:=zix hz (k:=7) (by decide);omega
  obtain⟨⟨s,out,E⟩,C⟩:∃x,zfL (zhn (hdW (zap (zab bs).2)) (hdH (zap (zab bs).2)) (hdC (zap (zab bs).2)) (hdD (zap (zab bs).2)) K) (oO (hdW (zap (zab bs).2)) (hdH (zap (zab bs).2)) K 7) (zcB (za4 (zab bs).2) (oO (hdW (zap (zab bs).2)) (hdH (zap (zab bs).2)) K 7:Nat))=x:=⟨_,rfl⟩;refine⟨s,out,E,fun B n c A w h r q o=>?_,fun B n c A w h r q o=>?_⟩
  ·exact zkN _ _ _ _ _ 7 true (lL (hdW (zap (zab bs).2)) (hdH (zap (zab bs).2)) (hdC (zap (zab bs).2)) (hdD (zap (zab bs).2)) 7) (nO (hdW (zap (zab bs).2)) (hdH (zap (zab bs).2)) K) (oO (hdW (zap (zab bs).2)) (hdH (zap (zab bs).2)) K) _ s out E B n c A bs w h r q o hE hS hH hL rfl rfl rfl rfl (by decide) (by decide) u (fun w=>zpd _ _ _ _ K w hs hz) (fun k s t w=>zrB hs hz k s t (by decide) w) rfl (fun k=>rfl) rfl (fun k t=>zf3 _ _ _ t)
    (fun w A c g F G h1 h2 z h4 D=>ztl _ _ _ _ K _ c F g A G w hs hz h1 h2 z h4 D) C
  ·exact zmJ _ _ _ _ K _ true _ s out E B n c A bs w h r q o hE hS hH hL rfl rfl rfl rfl u (fun w=>zmz _ _ _ _ K w hs hz)
    (fun _ w A c d h1 h2 z h4=>zm9 _ _ _ _ K _ c _ A d w hs hz h1 (nlr _) h2 z h4) (fun e=>by cases e) (fun e=>by cases e) C
 |false =>
  have u:hdH (zap (zab bs).2)*(hdW (zap (zab bs).2)*K+1)<=40000:=by rw[Nat.mul_add,Nat.mul_one];have:=hs.h2;omega
  obtain⟨⟨s,out,E⟩,C⟩:∃x,zfL (zpf (hdW (zap (zab bs).2)) (hdH (zap (zab bs).2)) (hdC (zap (zab bs).2)) (hdD (zap (zab bs).2)) K) (hdH (zap (zab bs).2)*(hdW (zap (zab bs).2)*K+1)) (zcB (za4 (zab bs).2) (hdH (zap (zab bs).2)*(hdW (zap (zab bs).2)*K+1):Nat))=x:=⟨_,rfl⟩;refine⟨s,out,E,fun B n c A w h r q o=>?_,fun B n c A w h r q o=>?_⟩
  ·refine zkN _ _ _ _ _ 1 false [⟨(hdW (zap (zab bs).2):Int),(hdH (zap (zab bs).2):Int),(hdC (zap (zab bs).2):Int),(hdD (zap (zab bs).2):Int)⟩] (fun _=>hdH (zap (zab bs).2)*(hdW (zap (zab bs).2)*K+1)) (ztm (hdH (zap (zab bs).2)*(hdW (zap (zab bs).2)*K+1))) _ s out E B n c A bs w h r q o hE hS hH hL rfl rfl rfl rfl (by decide) (by decide) u (fun w=>(zo8 _ _ _ _ w).mono (fun e w' ⟨g,h1,h2,z⟩=>⟨g,1,h1,h2,z⟩)) (fun k s t w=>?_) rfl (fun k=>rfl) (Nat.zero_add _) (fun k t=>?_)
    (fun w A c g F G h1 h2 z h4 D=>zrC _ _ _ _ K _ c F g A G w hs hz h1 h2 z h4 D) C
   ·match k,t with
    |0,t =>
     injection t with t;subst t;exact zjN _ _ _ _ K w hs hz
   ·match k,t with
    |0,_=>exact Nat.zero_le _
    |1,_=>exact Nat.le_of_eq (Nat.zero_add _)
  ·exact zmJ _ _ _ _ K _ false _ s out E B n c A bs w h r q o hE hS hH hL rfl rfl rfl rfl u (fun w=>zmy _ _ _ _ K w hs) (fun e=>by cases e)
    (fun _ w A c d h1 h2 z h4=>zi7 _ _ _ _ K _ _ c _ A d w hs rfl h1 (nlr _) z h2 h4)
    (fun _ d=>by
     show unT _ _ _ _ (unF _ _ (d.take _) _)=_;rw[zmk (nlr _)]) C
end Go.Proofs.YtebbdifhiihfkaaGreatDoor

/- png: a file of rows (of the smallest shape). -/
namespace Go.Proofs.YtebbdifhiihfkaaGreatDoor
set_option linter.all false
set_option maxRecDepth 100000
set_option maxHeartbeats 6400000
open Go.RowKit
theorem znh(w:World):Calls Tryz.prog 75 #[.int .i64 1] w fun e w'=>e=.returned (.int .u8 0)/\Below w.heap.size w w':=by
 go_enter Tryz.func75,Tryz.ntmps75;go_wp2_with fail;go_ret;exact⟨rfl,(Below.refl w.heap.size w).alloc (nlr _) _⟩
theorem zob(w:World):Calls Tryz.prog 46 #[.int .i64 1,.int .i64 4] w fun e w'=>∃v,e=.returned (.tuple #[v,.int .i64 0])/\ownB w' w.heap.size v [0,0,0,1]/\Below w.heap.size w w':=by
 have h:=zhv 1 4 w;rw[show beR 1 4=(([0,0,0,1]:List UInt8),(0:Int)) by kernel_rfl] at h;exact h
/-- A file of rows. -/
def zjq(bz C1 N C C3:List UInt8):List UInt8:=zis (zis (zis [137,80,78,71,13,10,26,10] [0,0,0,13] [73,72,68,82] [0,0,0,1,0,0,0,1,8,0,0,0,0] C1) N [73,68,65,84] bz C) [0,0,0,0] [73,69,78,68] [] C3
theorem ztz(B n c:Nat)(A:Option Addr)(rs:List UInt8)(w:World)(h:RdB w B A n rs)(hB:B<=w.heap.size)(hn:n<=1000)(au:n<=c):
  Calls Tryz.prog 44 #[.agg #[.int .i64 1,.int .i64 1,.int .i64 1,.int .i64 8],.int .u8 0,.slice A n c] w fun e w'=>∃g9 n9 c9 D C1 N C C3,e=.returned (.tuple #[.slice (some ⟨g9,0,none⟩) n9 c9,.int .i64 0])/\RowM w' g9 n9 c9 (zjq D C1 N C C3)/\Below w.heap.size w w':=by
 obtain⟨S,hS,b0⟩:=zmb (zgo rs);obtain⟨w1,u⟩:∃w1,w.alloc (.cells #[.int .i64 1,.int .i64 1,.int .i64 1,.int .i64 8] 37)=w1:=⟨_,rfl⟩;obtain⟨bk,J⟩:∃b,w.heap.size=b:=⟨_,rfl⟩;have bs:Hid (Arr w1 bk [.int .i64 1,.int .i64 1,.int .i64 1,.int .i64 8]):=(show Arr _ _ _ by rw[<-u,<-J];exact Arr.new w [.int .i64 1,.int .i64 1,.int .i64 1,.int .i64 8] _);have aN:RdB w1 B A n rs:=by rw[<-u];exact Rd.alloc h hB _
 have bH:w1.heap.size=bk+1:=by rw[<-u,wsa,J]
 have bp:Hid (Below bk w w1):=(show Below _ _ _ by rw[<-u,<-J];exact(Below.refl w.heap.size w).alloc (nlr _) _);have aU:=yo (zs0 B n c A rs S w1 aN (by omega) (by omega) au hS b0);have bB:=h.len;clear h aN hS;go_enter Tryz.func44,Tryz.ntmps44;simp only[u,J];go_upto_region 6 with(first
  |(go_at_call 74;(with_reducible refine aU.o.mono ?_);go_must (rintro e w2 ⟨v2,bz,rfl,aE,aK,M⟩;have bC:=zma aK;obtain⟨A2,c2,a7,ag,-,-⟩:=aE.form;obtain⟨n2,ai⟩:∃L,(zeY bz S).length=L:=⟨_,rfl⟩;rw[ai] at a7 ag;subst a7;have br:=yo ag;have af:=yo (bs.o.later M);have bD:=af.o.cell (k:=0) rfl;have bA:=af.o.cell (k:=1) rfl;have bE:=M.size;have aX:=yo (bp.o.trans (M.mono (by omega)));have b8:n2<=2000:=(by rw[<-ai];unfold zeY;rw[lla,lla];show 2+bz.length+S.length<=_;omega);clear aE aK M ag))
  |(go_at_call 46;(with_reducible refine(zob w2).mono ?_);go_must (rintro e w3 ⟨v3,rfl,aq,F⟩;have b2:=yo aq;have aF:=yo (af.o.later F);have bF:=aF.o.cell (k:=1) rfl;have bv:=yo (RdB.blw br.o F);have bG:=F.size;have bi:=yo (aX.o.trans (F.mono (by omega)));clear aq F))
  |(go_at_call 46;(with_reducible refine(zob w3).mono ?_);go_must (rintro e z ⟨v4,rfl,aP,t⟩;have bw:=yo aP;have E:=yo (ownB.later b2.o t);have a6:=yo (aF.o.later t);have bb:=yo (RdB.blw bv.o (t.mono (by omega)));have bI:=t.size;have bg:=yo (bi.o.trans (t.mono (by omega)));clear aP t)))
 obtain⟨A3,c3,rfl,-,-,-⟩:=E.o.form;obtain⟨A4,c4,rfl,ar,-,-⟩:=bw.o.form;have aa:Hid (ownB z.drew w2.heap.size (.slice A3 4 c3) [0,0,0,1]):=E;have ac:Hid (RdB z.drew z.heap.size A4 4 [0,0,0,1]):=ar;have s2:z.drew.cell? ⟨bk,2,none⟩=some (.int .i64 1):=a6.o.cell (k:=2) rfl;have s3:z.drew.cell? ⟨bk,3,none⟩=some (.int .i64 8):=a6.o.cell (k:=3) rfl;have q:bk<w2.heap.size:=by omega
 have aB:([0,0,0,1]:List UInt8).length+4<=140737488355328:=by decide
 have a3:w2.heap.size<=z.drew.heap.size:=by show w2.heap.size<=z.heap.size;omega
 have ay:([0,0,0,1,0,0,0,1]:List UInt8).length+5<=140737488355328:=by decide
 clear ar E u;go_cut [14] (fun v wc=>Hid (ownB wc w2.heap.size v [0,0,0,1,0,0,0,1,8,0,0,0,0])/\Hid (Below w2.heap.size z wc))
 case first =>
  go_region_held3 (fun w'=>w'.cell? ⟨bk,2,none⟩=some (.int .i64 1)/\w'.cell? ⟨bk,3,none⟩=some (.int .i64 8))
   (first|(with_reducible exact⟨s2,s3⟩)|(with_reducible exact⟨aQ,aD⟩)|(with_reducible exact⟨ak,ah⟩)|(with_reducible exact⟨bl,aV⟩)|(with_reducible exact⟨zcY ak _,zcY ah _⟩)|go_keep)
   (first
   |(refine ze7 rfl (.tmp 38) (.tmp 46) rfl w2.heap.size v6 [0,0,0,1,0,0,0,1] rfl (ownB.alloc (ownB.later aW.o bq.o) _) _ 5 5 (some ⟨w7.heap.size,0,none⟩) [8,0,0,0,0] rfl (zgG w7 5 (0,0) [8,0,0,0,0]) ay bu ?_;intro v9 w9 bn bh O b1;have bx:Below w2.heap.size z w9:=((bj.alloc a2 _).trans O);have bl:=zbZ O q (zcY ak _);have aV:=zbZ O q (zcY ah _);clear bh O b1)
   |(refine ze7 rfl (.tmp 36) (.tmp 37) rfl w2.heap.size (.slice A3 4 c3) [0,0,0,1] rfl aa.o z.heap.size 4 c4 A4 [0,0,0,1] rfl ac.o aB a3 ?_;intro v6 w6 aL ba o b4;have aW:Hid (ownB w6 w2.heap.size v6 [0,0,0,1,0,0,0,1]):=aL;have aQ:=zbZ o q s2;have aD:=zbZ o q s3;have aS:Below w2.heap.size z w6:=⟨o.os,o.tape,o.output,o.size,o.block⟩;have aj:w2.heap.size<=w6.heap.size:=nlt a3 o.size;have W:bk<w6.heap.size:=Nat.lt_of_lt_of_le q aj;clear aL ba o b4)
   |(go_at_call 75;(with_reducible refine(znh w6).mono ?_);go_must (rintro e w7 ⟨rfl,s⟩;have bq:=yo s;have ak:=zbZ s W aQ;have ah:=zbZ s W aD;have bj:Below w2.heap.size z w7:=aS.trans (s.mono aj);have a2:w2.heap.size<=w7.heap.size:=nlt aj s.size;have bu:w2.heap.size<=(w7.alloc (.cells #[.int .u8 8,.int .u8 0,.int .u8 0,.int .u8 0,.int .u8 0] 5)).heap.size:=nlt a2 (zik _ _);clear s)))
  all_goals
   go_wp2_with fail;go_meet
   case rel=>exact⟨bn,bx⟩
 case rest =>
  obtain⟨HH,HX⟩:=hcut;clear s2 s3 aB ay aa ac;have kc:=zf6;obtain⟨ae,aA,H,Y,-,-⟩:=HH.o.form;have H:u14=.slice ae 13 aA:=H;subst H;have am:w2.heap.size<=wc.heap.size:=by have:=HX.o.size;omega
  have R:bk<=wc.heap.size:=by omega
  obtain⟨C1,a4,aw⟩:=zmb (zha ([73,72,68,82]++[0,0,0,1,0,0,0,1,8,0,0,0,0]));obtain⟨N,hN,bt⟩:=zmb (show n2<4294967296 by omega);obtain⟨C,hC,aR⟩:=zmb (zha ([73,68,65,84]++zeY bz S));obtain⟨C3,a8,a9⟩:=zmb (zha ([73,69,78,68]++[]));have HD:=yo (RdB.blw bb.o HX.o);have bm:=yo (bg.o.trans (HX.o.mono (by omega)));obtain⟨wm,r⟩:∃wm,wc.alloc (.cells #[.int .u8 137,.int .u8 80,.int .u8 78,.int .u8 71,.int .u8 13,.int .u8 10,.int .u8 26,.int .u8 10] 5 (8,9))=wm:=⟨_,rfl⟩;have ao:RowM wm wc.heap.size 8 8 [137,80,78,71,13,10,26,10]:=by rw[<-r];exact zpU wc [137,80,78,71,13,10,26,10] (8,9) (.inr (by decide))
  have T:RdB wm wc.heap.size ae 13 [0,0,0,1,0,0,0,1,8,0,0,0,0]:=by rw[<-r];exact Rd.alloc Y (nlr _) _
  have HM:=yo (show RdB wm w2.heap.size A2 n2 (zeY bz S) by rw[<-r];exact Rd.alloc HD.o am _);have bc:=yo (show Below bk w wm by rw[<-r];exact bm.o.alloc R _);have aZ:=yo (zjG wc.heap.size wc.heap.size 13 aA wc.heap.size 8 8 ae [137,80,78,71,13,10,26,10] [0,0,0,1,0,0,0,1,8,0,0,0,0] [73,72,68,82] [0,0,0,13] C1 ⟨#[73,72,68,82]⟩ wm rfl rfl ao (nlr _) T (nlr _) (by omega) (by omega) (by kernel_rfl) rfl a4 aw);generalize az:zis [137,80,78,71,13,10,26,10] [0,0,0,13] [73,72,68,82] [0,0,0,1,0,0,0,1,8,0,0,0,0] C1=D1 at *;have av:=yo (fun I g c (ho:RowM I g 33 c D1) (hg:wc.heap.size<=g) (hr:RdB I w2.heap.size A2 n2 (zeY bz S))=>zjG wc.heap.size w2.heap.size n2 c2 g 33 c A2 D1 (zeY bz S) [73,68,65,84] N C ⟨#[73,68,65,84]⟩ I rfl rfl ho hg hr am (by omega) (by omega) hN bt hC aR);generalize ax:zis D1 N [73,68,65,84] (zeY bz S) C=D2 at *;obtain⟨al,aJ⟩:∃k,33+4+(4+n2)+4=k:=⟨_,rfl⟩;rw[aJ] at av;have aG:=yo (fun P g c (ho:RowM P g al c D2) (hg:wc.heap.size<=g)=>zjG wc.heap.size wc.heap.size 0 0 g al c none D2 [] [73,69,78,68] [0,0,0,0] C3 ⟨#[73,69,78,68]⟩ P rfl rfl ho hg zir (nlr _) (by omega) (by omega) (by kernel_rfl) rfl a8 a9);obtain⟨b6,a1⟩:∃k,al+4+(4+0)+4=k:=⟨_,rfl⟩;rw[a1] at aG;have aT:=yo az;have a0:=yo ax;clear az ax hC a4 a8 hN ai Y ao T;go_wp2_with (first
   |(go_at_call 76;(with_reducible refine aZ.o.mono ?_);go_must (rintro e I ⟨bd,b3,rfl,Z,aC,G⟩;have a5:=yo (av.o I bd b3 Z aC (RdB.blw HM.o (G.mono am)));have aM:=yo (bc.o.trans (G.mono R));clear Z G))
   |(go_at_call 76;(with_reducible refine a5.o.mono ?_);go_must (rintro e P ⟨b5,bo,rfl,ab,an,X⟩;have ap:=yo (aG.o P b5 bo ab an);have aI:=yo (aM.o.trans (X.mono R));clear ab X))
   |(go_at_call 76;(with_reducible refine ap.o.mono ?_);go_must (rintro e b9 ⟨aY,bf,rfl,V,b7,U⟩;have aH:=yo V;have aO:=yo (aI.o.trans (U.mono R));clear V U)))
  go_ret2;refine⟨aY,b6,bf,zeY bz S,C1,N,C,C3,rfl,?_,aO.o⟩;have:=aH.o;rw[<-a0.o,<-aT.o] at this;exact this
end Go.Proofs.YtebbdifhiihfkaaGreatDoor

/- png: what the chapter's example fixes. -/
namespace Go.Proofs.YtebbdifhiihfkaaGreatDoor
set_option linter.all false
set_option maxRecDepth 100000
set_option maxHeartbeats 3200000
open Go.RowKit
theorem zuP(w:World):Calls Tryz.prog 73 #[.agg #[.int .i64 1,.int .i64 1,.int .i64 1,.int .i64 8]] w fun e w'=>e=.returned (.int .i64 1)/\Below w.heap.size w w':=by
 go_enter Tryz.func73,Tryz.ntmps73;go_wp2_with fail;go_ret;exact⟨rfl,(Below.refl w.heap.size w).alloc (nlr _) _⟩
theorem ztA:ziD 1 [] [7]=(0,[7],0):=by decide +kernel
theorem zuQ:Sh.row ⟨1,1,1,8⟩=1:=by decide
theorem zuR:Sh.mayR ⟨1,1,1,8⟩ 1=true:=by decide
theorem zmK(B c:Nat)(A:Option Addr)(w:World)(h:RdB w B A 1 [7])(T:B<=w.heap.size)(an:1<=c):
  Calls Tryz.prog 43 #[.agg #[.int .i64 1,.int .i64 1,.int .i64 1,.int .i64 8,.slice A 1 c]] w fun e w'=>∃v,e=.returned (.tuple #[v,.int .i64 0])/\ownB w' w.heap.size v [0,7]/\Below w.heap.size w w':=by
 obtain⟨b,o,rfl,hb,-⟩:=h.at_ (by omega);obtain⟨w1,g⟩:∃w1,w.alloc (.cells #[.int .i64 1,.int .i64 1,.int .i64 1,.int .i64 8,.slice (some ⟨b,o,none⟩) 1 c] 39)=w1:=⟨_,rfl⟩;obtain⟨bk,r⟩:∃b,w.heap.size=b:=⟨_,rfl⟩;have u:Hid (Arr w1 bk [.int .i64 1,.int .i64 1,.int .i64 1,.int .i64 8,.slice (some ⟨b,o,none⟩) 1 c]):=(show Arr _ _ _ by rw[<-g,<-r];exact Arr.new w [.int .i64 1,.int .i64 1,.int .i64 1,.int .i64 8,.slice (some ⟨b,o,none⟩) 1 c] _);have L:Hid (RdB w1 B (some ⟨b,o,none⟩) 1 [7]):=(show RdB _ _ _ _ _ by rw[<-g];exact Rd.alloc h T _);have O:Hid (Below bk w w1):=(show Below _ _ _ by rw[<-g,<-r];exact(Below.refl w.heap.size w).alloc (nlr _) _);have ar:w1.heap.size=bk+1:=by rw[<-g,wsa,r]
 have I:Hid (Calls Tryz.prog 71 #[.agg #[.int .i64 1,.int .i64 1,.int .i64 1,.int .i64 8]] w1 fun e w'=>e=.returned (.int .i64 1)/\Below w1.heap.size w1 w'):=(show Calls _ _ _ _ _ by have:=zhB ⟨1,1,1,8⟩ w1;rw[zuQ] at this;exact this);obtain⟨a0,a1,a2,a3⟩:=u.o.c4;clear h;rw[r] at T;go_enter Tryz.func43,Tryz.ntmps43;simp only[g,r];go_wp2_with (go_at_call 71;(with_reducible refine I.o.mono ?_);go_must (rintro e w2 ⟨rfl,s⟩;have X:=yo (u.o.later s);have Y:=yo (RdB.blw L.o (s.mono (by omega)));obtain⟨b0,b1,b2,b3,b4⟩:=X.o.c5;have ap:=s.size;have aa:=yo (O.o.trans (s.mono (by omega)));clear s a0 a1 a2 a3));have U:Hid (∀q A' R,RdB q B A' 1 [7]->B<=q.heap.size->Calls Tryz.prog 72 #[.int .i64 1,.slice none 0 0,.slice A' 1 R] q fun e w'=>∃v,e=.returned (.tuple #[.int .i64 0,v,.int .i64 0])/\ownB w' q.heap.size v [7]/\Below q.heap.size q w'):=(show ∀q A' R,_ from fun q A' R h T=>by
  have:=zr7 1 0 0 0 B 1 R none A' [] [7] q Rd.none_ h (Nat.zero_le _) T (by omega);rw[ztA] at this;exact this)
 clear g I u L O;have af:B<=w2.heap.size:=by omega
 have aq:bk+1<=w2.heap.size:=by omega
 go_loopw [18,5,6] (fun S vo vp wr=>(S=.int .i64 0/\vo=.slice none 0 0/\vp=.slice none 0 0/\wr=w2)\/(S=.int .i64 1/\Hid (ownB wr bk vo [0,7])/\Hid (Below bk w wr))) (fun S _ _ _=>1-(intOf S).toNat)
 case atStart=>exact .inl ⟨rfl,rfl,rfl,rfl⟩
 case round =>
  rcases hrel with⟨rfl,rfl,rfl,rfl⟩ | ⟨rfl,HO,HB⟩
  ·go_wp2_with (first
    |(go_at_call 73;(with_reducible refine(zuP _).mono ?_);go_must (rintro e q ⟨rfl,t⟩;have au:=t.size;have aj:=yo (RdB.blw Y.o (t.mono af));have N:=yo (U.o q _ c aj.o (by omega));have ae:=yo (aa.o.trans (t.mono (by omega)));clear t))
    |(go_at_call 72;(with_reducible refine N.o.mono ?_);go_must (rintro e P ⟨v4,rfl,C,z⟩;obtain⟨A4,c4,D,-,-,-⟩:=C.form;have D:v4=.slice A4 1 c4:=D;subst D;have ao:=z.size;have ac:=yo (ownB.alloc C (.cells #[.int .u8 0] 5));have W:=yo ((ae.o.trans (z.mono (by omega))).alloc (by omega) (.cells #[.int .u8 0] 5));have F:bk<=(P.alloc (.cells #[.int .u8 0] 5)).heap.size:=(by rw[wsa];omega);clear C z))
    |(at_builtin;(refine zat rfl (.tmp 49) (.tmp 50) rfl bk v5 [0] rfl am.o _ 1 c4 A4 [7] rfl ab.o (by decide) V ?_;intro v6 w6 J ai G ag;have Z:Hid (ownB w6 bk v6 [0,7]):=J;have ah:=yo (al.o.trans G);clear J ai G ag))
    |(at_builtin;(refine zat rfl (.tmp 45) (.tmp 48) rfl bk (.slice none 0 0) [] rfl (ownB.nil_ _ _) (P.heap.size+1) 1 1 (some ⟨P.heap.size,0,none⟩) [0] rfl (zfN P 0 0 rfl) (by decide) F ?_;intro v5 w5 M H E ak;have am:Hid (ownB w5 bk v5 [0]):=M;have V:=nlt F E.size;have ab:=yo (ownB.rd (World.ownsRow.kept ac.o H (by cases e:(Value.slice A4 1 c4).ownBlock with
      |none=>exact .inl rfl
      |some k=>exact .inr (by intro e2;cases e2))));have al:=yo (W.o.trans E);clear M H E ak)))
   go_roundw
   case rel=>exact .inr ⟨rfl,Z,ah⟩
   case measure=>simp[intOf]
  ·go_wp2_with fail
   go_ret2;exact⟨_,rfl,HO.o,HB.o⟩
theorem zpv(B c:Nat)(A:Option Addr)(w:World)(h:RdB w B A 1 [7])(hB:B<=w.heap.size)(F:1<=c):
  Calls Tryz.prog 16 #[.agg #[.int .i64 1,.int .i64 1,.int .i64 1,.int .i64 8,.slice A 1 c]] w fun e w'=>∃I L J D X N C Z,e=.returned (.tuple #[.slice (some ⟨I,0,none⟩) L J,.int .i64 0])/\RowM w' I L J (zjq D X N C Z)/\Below w.heap.size w w':=by
 obtain⟨w1,g⟩:∃w1,w.alloc (.cells #[.int .i64 1,.int .i64 1,.int .i64 1,.int .i64 8,.slice A 1 c] 39)=w1:=⟨_,rfl⟩;obtain⟨bk,o⟩:∃b,w.heap.size=b:=⟨_,rfl⟩;have t:Hid (Arr w1 bk [.int .i64 1,.int .i64 1,.int .i64 1,.int .i64 8,.slice A 1 c]):=(show Arr _ _ _ by rw[<-g,<-o];exact Arr.new w [.int .i64 1,.int .i64 1,.int .i64 1,.int .i64 8,.slice A 1 c] _);have T:Hid (RdB w1 B A 1 [7]):=(show RdB _ _ _ _ _ by rw[<-g];exact Rd.alloc h hB _);have Y:Hid (Below bk w w1):=(show Below _ _ _ by rw[<-g,<-o];exact(Below.refl w.heap.size w).alloc (nlr _) _);have ac:w1.heap.size=bk+1:=by rw[<-g,wsa,o]
 have V:Hid (Calls Tryz.prog 15 #[.agg #[.int .i64 1,.int .i64 1,.int .i64 1,.int .i64 8,.slice A 1 c]] w1 fun e w'=>e=.returned (.bool true)/\Below w1.heap.size w1 w'):=(show Calls _ _ _ _ _ by have:=ztO ⟨1,1,1,8⟩ A 1 c w1;rw[zuR] at this;exact this);obtain⟨a0,a1,a2,a3,a4⟩:=t.o.c5;clear h;rw[o] at hB;go_enter Tryz.func16,Tryz.ntmps16;simp only[g,o];go_wp2_with (first
  |(go_at_call 15;(with_reducible refine V.o.mono ?_);go_must (rintro e w2 ⟨rfl,q⟩;have z:=yo (t.o.later q);have ab:=q.size;have O:=yo (zmK B c A w2 (RdB.blw T.o (q.mono (by omega))) (by omega) F);obtain⟨b0,b1,b2,b3,b4⟩:=z.o.c5;have R:=yo (Y.o.trans (q.mono (by omega)));clear q a0 a1 a2 a3 a4))
  |(go_at_call 43;(with_reducible refine O.o.mono ?_);go_must (rintro e w3 ⟨v3,rfl,u,r⟩;obtain⟨A3,c3,s,G,aa,-⟩:=u.form;have s:v3=.slice A3 2 c3:=s;subst s;have U:=yo (z.o.later r);have ae:=r.size;have W:=yo (ztz w3.heap.size 2 c3 A3 [0,7] w3 G (nlr _) (by omega) aa);obtain⟨d0,d1,d2,d3⟩:=U.o.c4;have S:=yo (R.o.trans (r.mono (by omega)));clear u r G b0 b1 b2 b3 b4))
  |(go_at_call 44;(with_reducible refine W.o.mono ?_);go_must (rintro e w4 ⟨I,L,J,D,X,N,C,Z,rfl,E,H⟩;have P:=yo E;have M:=yo (S.o.trans (H.mono (by omega)));clear E H)))
 go_ret2;exact⟨I,L,J,D,X,N,C,Z,rfl,P.o,M.o⟩
theorem zpw(D o N C g:List UInt8):(zjq D o N C g).take 16=[137,80,78,71,13,10,26,10,0,0,0,13,73,72,68,82]:=rfl
theorem zrR(D o N C g:List UInt8):17<=(zjq D o N C g).length:=by
 unfold zjq zis;simp only[lla,List.length_cons,List.length_nil];omega
theorem zfM(w:World):Calls Tryz.prog 7 #[] w fun e w'=>e=.returned (.bool true)/\Below w.heap.size w w':=by
 have L:=zf6;have H:=yo (zpv (w.heap.size+1) 1 (some ⟨w.heap.size,0,none⟩) (w.alloc (.cells #[.int .u8 7] 5)) (zgG w 5 (0,0) [7]) (by simp) (nlr _));go_enter Tryz.func7,Tryz.ntmps7;go_wp2_with (go_at_call 16;(with_reducible refine H.o.mono ?_);go_must (rintro e w1 ⟨J,s,r,D,G,N,C,z,rfl,g,q⟩;have u:=zrR D G N C z;rw[g.len] at u;have F:s<=r:=(by obtain⟨_,_,_,_,_,h,_⟩:=g;exact h);have o:=RdB.pre g.rd (m:=16) (by omega);rw[zpw] at o;have k1:=zc2 (n:=16) (c:=r) o;have I:((16:Nat):Int)<(s:Int):=(by omega);have A:(16:Int)<(s:Int):=(by omega);have E:(16:Int)<=(r:Int):=(by omega);have B:16<=r:=(by omega);have t:=yo (((Below.refl w.heap.size w).alloc (nlr _) (.cells #[.int .u8 7] 5)).trans (q.mono (by simp)));clear q g u));go_ret;exact⟨rfl,t.o⟩
end Go.Proofs.YtebbdifhiihfkaaGreatDoor

/- PngReads: the walk. -/
namespace Go.Proofs.YtebbdifhiihfkaaGreatDoor
set_option linter.all false
set_option maxRecDepth 100000
set_option maxHeartbeats 12800000
open Go.RowKit
theorem zla(n c:Nat)(A:Option Addr)(bs:List UInt8)(w:World)(h:RdB w w.heap.size A n bs)(hc:n<=c):
  Calls Tryz.prog 3 #[.slice A n c] w fun e w'=>e=.returned (.bool true)/\Below w.heap.size w w':=by
 have bw:=yo h;have bf:=yo h.len;by_cases h6:6000<n
 ·have bB:(6000:Int)<(n:Int):=by omega
  clear h;go_enter Tryz.func3,Tryz.ntmps3;go_wp2_with (first
   |(go_at_call 7;(with_reducible refine(zfM _).mono ?_);go_must (rintro e w1 ⟨rfl,t⟩;(first|(have Y:=yo (J.o.trans (t.mono J.o.size)))|(have J:=yo t));clear t)))
  go_ret;exact⟨rfl,Y.o⟩
 have bB:¬(6000:Int)<(n:Int):=by omega
 obtain⟨s,out,E,aD⟩:=zvM bs;obtain⟨U,X,V,W⟩:=s;obtain⟨DE,a9⟩:∃b,decide (E=0)=b:=⟨_,rfl⟩;have bH:(E==0)=DE:=by rw[<-a9];rfl
 have al:=yo aD.dec;have O:=aD.unp;rw[a9] at O;have ar:=yo O;have aM:=zbL (bs:=bs);have aZ:Hid ((zab bs).2.length<=1000000):=(show _<=_ by have h1:=zbU (zab bs).2;have h2:=h.len;omega);obtain⟨E1,bu⟩:∃E1:Int,((zab bs).1:Int)=E1:=⟨_,rfl⟩;have I:=yo (fun(B' c':Nat) (A':Option Addr) (w1:World) (h:RdB w1 B' A' n bs) (hB:B'<=w1.heap.size) (hc:n<=c')=>zdZ B' n c' A' bs w1 h hB hc (by omega));have S:=yo (fun(B' c':Nat) (A':Option Addr) (w1:World) (h:RdB w1 B' A' n bs) (hB:B'<=w1.heap.size) (hc:n<=c')=>zdy B' n c' A' bs w1 h hB hc (by omega));unfold zaZ at I S;rw[bu] at I S;obtain⟨p,hp⟩:∃p,(zab bs).2=p:=⟨_,rfl⟩;rw[hp] at I S aZ;have bo:n<=1000000:=by omega
 unfold UnU at al;unfold UnB at ar;clear h aD O a9 aM bu hp;go_enter Tryz.func3,Tryz.ntmps3;go_upto_region 8 with(first
  |(go_at_call 7;(with_reducible refine(zfM _).mono ?_);go_must (rintro e w1 ⟨rfl,t⟩;have J:=yo t;have aH:=t.size;have G:=yo (RdB.blw bw.o t);have bm:=yo (zjY w.heap.size n c A bs w1 G.o (by omega));clear t))
  |(go_at_call 8;(with_reducible refine bm.o.mono ?_);go_must (rintro e w2 ⟨v2,rfl,bn,ac⟩;obtain⟨A2,c2,bc,C,a3,-⟩:=bn.form;rw[bf.o] at bc C a3;subst bc;have T:=yo C;have aj:=yo (RdB.blw G.o (ac.mono aH));have Y:=yo (J.o.trans (ac.mono aH));have bE:=ac.size;clear bn ac C))
  |(go_at_call 9;(with_reducible refine(I.o _ c2 A2 w2 T.o (nlr _) a3).mono ?_);go_must (rintro e w3 ⟨A3,n3,c3,l3,rfl,aF,av,bL,F⟩;have bj:=yo aF;have aU:=yo av;have bl:=yo aF.len;have ah:=yo (RdB.later T.o F);have N:=yo (RdB.blw aj.o (F.mono (by omega)));have bg:=yo (Y.o.trans (F.mono (by omega)));have b5:=F.size;clear aF av F))
  |(go_at_call 10;(with_reducible refine(S.o _ c A w3 N.o (by omega) hc).mono ?_);go_must (rintro e w4 ⟨A4,n4,c4,l4,rfl,az,ap,bK,z⟩;have aI:=yo az;have aC:=yo ap;have b4:=yo az.len;have am:=yo (RdQ.later bj.o z);have B:=yo (aU.o.later z);have an:=yo (RdB.later ah.o z);have ak:=yo (RdB.blw N.o (z.mono (by omega)));have a6:=yo (bg.o.trans (z.mono (by omega)));have bx:=z.size;clear az ap z)))
 clear bj aU ah N bg T aj Y G J I S bm;obtain rfl:n3=n4:=by have h1:=bl.o;have h2:=b4.o;have h3:=B.o.1;have h4:=aC.o.1;omega
 have aE:Hid (p.length=n3):=(show _=_ by have h1:=bl.o;have h3:=B.o.1;omega);have bJ:n3<=1000000:=by have h1:=aE.o;have h2:=aZ.o;omega
 have aX:w.heap.size<=w4.heap.size:=a6.o.size;clear aH bE b5 bx;go_wp2_with fail;go_loopw [8] (fun vi wr=>∃i:Nat,i<=n3/\vi=.int .i64 (i:Int)/\Hid (Below w4.heap.size w4 wr)) (fun vi _=>n3-(intOf vi).toNat)
 case atStart=>exact⟨0,Nat.zero_le _,rfl,Below.refl _ _⟩
 case round =>
  obtain⟨i,hi,rfl,u⟩:=hrel;have bM:=u.o.size;by_cases hlt:i<n3
  ·have aN:(i:Int)<(n3:Int):=by omega
   have bI:IntKind.i64.wrap ((i:Int)+1)=(i:Int)+1:=by rw[show(i:Int)+1=((i+1:Nat):Int) by omega];exact zaa _ (by omega)
   obtain⟨ba,oa,xa,rfl,-,br,a1,a2⟩:=(RdQ.later am.o u.o).one hlt;obtain⟨bb,ob,xb,rfl,-,aR,b1,b2⟩:=(RdQ.later aI.o u.o).one hlt;obtain⟨k1,d1,A1,c1,aP,aY,-,bk⟩:=(B.o.later u.o).one (i:=i) (by have:=aE.o;omega);obtain⟨k2,d2,aW,aL,aV,aK,-,C⟩:=(aC.o.later u.o).one (i:=i) (by have:=aE.o;omega);have b3:k2=k1/\d2=d1:=by
    have h9:=aV.symm.trans aP;injection h9 with h9;injection h9 with h9 bz;exact⟨h9,bz⟩
   obtain⟨rfl,rfl⟩:=b3;have bG:xa=(k2,A1,d2.length,c1):=(by have:=br.o.symm.trans aY;injection this);have b7:xb=(k2,aW,d2.length,aL):=(by have:=aR.o.symm.trans aK;injection this);subst bG b7;dsimp only at a1 a2 b1 b2;have a4:=fun(q:Nat)=>zfm wr.heap.size d2.length c1 wr.heap.size d2.length aL A1 aW d2 d2 (wr.drewN q) bk C
   rw[beq_self_eq_true d2] at a4;have b0:=yo (fun(m:Nat)=>Calls.quiet_of_same (n:=m) (w:=wr) ((a4 m).mono fun _ _ h=>⟨h.1,h.2.symm⟩));clear a4;generalize d2.length=dn at *;clear br aR aP aV aY aK bk C;go_upto_region 13 with fail;go_quiet ((go_at_call 11;exact b0.o _));go_wp2_with fail;go_roundw
   case rel=>exact⟨i+1,by omega,by go_num,(show Below _ _ _ from zag u.o _)⟩
   case measure=>simp[intOf];omega
  ·obtain rfl:i=n3:=by omega
   have aN:¬(i:Int)<(i:Int):=(by omega);have H:=yo (RdB.later an.o u.o);have ax:=yo (RdB.blw ak.o (u.o.mono aX));have af:=yo (a6.o.trans (u.o.mono aX));clear am B aI aC an ak a6;have bt:=yo (al.o _ n c2 A2 wr H.o (nlr _) a3 bo);go_upto_region 16 with(go_at_call 12;(with_reducible refine bt.o.mono ?_);go_must (rintro e w6 ⟨v6,rfl,aG,ag⟩;obtain⟨A6,c6,rfl,-,-,-⟩:=aG.form;have aO:=yo aG;have au:=yo (RdB.later H.o ag);have ay:=yo (RdB.blw ax.o (ag.mono af.o.size));have ae:=yo (af.o.trans (ag.mono af.o.size));clear ag aG));obtain⟨w7,Z⟩:∃w7,w6.alloc (.cells #[.int .i64 U,.int .i64 X,.int .i64 V,.int .i64 W,.slice A6 out.length c6] 39)=w7:=⟨_,rfl⟩;obtain⟨g7,a8⟩:∃g,w6.heap.size=g:=⟨_,rfl⟩;have o:Below w6.heap.size w6 w7:=(by rw[<-Z];exact(Below.refl _ _).alloc (nlr _) _);have bq:Hid (Arr w7 g7 [.int .i64 U,.int .i64 X,.int .i64 V,.int .i64 W,.slice A6 out.length c6]):=(show Arr _ _ _ by rw[<-Z,<-a8];exact Arr.new w6 [.int .i64 U,.int .i64 X,.int .i64 V,.int .i64 W,.slice A6 out.length c6] _);have aJ:=yo (aO.o.rd.later o);have aw:=yo (RdB.later au.o o);have P:=yo (RdB.blw ay.o (o.mono ae.o.size));have L:=yo (ae.o.trans (o.mono ae.o.size));(try simp only[Z,a8]);clear o Z a8 aO au ay ae H ax af;have bi:=yo (ar.o _ n c A w7 P.o L.o.size hc bo);go_upto_region 17 with(go_at_call 13;(with_reducible refine bi.o.mono ?_);go_must (rintro e w8 ⟨v8,rfl,aB,D⟩;obtain⟨A8,c8,rfl,-,-,-⟩:=aB.form;have bv:=yo aB;have aT:=yo (bq.o.later D);have ai:=yo (RdB.later aJ.o D);have aq:=yo (RdB.later aw.o D);have ao:=yo (RdB.blw P.o (D.mono L.o.size));have ab:=yo (L.o.trans (D.mono L.o.size));clear D aB));obtain⟨w9,aa⟩:∃w9,w8.alloc (.cells #[.int .i64 U,.int .i64 X,.int .i64 V,.int .i64 W,.slice A8 out.length c8] 39)=w9:=⟨_,rfl⟩;obtain⟨g9,a7⟩:∃g,w8.heap.size=g:=⟨_,rfl⟩;have o:Below w8.heap.size w8 w9:=(by rw[<-aa];exact(Below.refl _ _).alloc (nlr _) _);have b8:Hid (Arr w9 g9 [.int .i64 U,.int .i64 X,.int .i64 V,.int .i64 W,.slice A8 out.length c8]):=(show Arr _ _ _ by rw[<-aa,<-a7];exact Arr.new w8 [.int .i64 U,.int .i64 X,.int .i64 V,.int .i64 W,.slice A8 out.length c8] _);have bF:=yo (aT.o.later o);have b9:=yo (RdB.later ai.o o);have bA:=yo (bv.o.rd.later o);have bd:=yo (RdB.later aq.o o);have bh:=yo (RdB.blw ao.o (o.mono ab.o.size));have aA:=yo (ab.o.trans (o.mono ab.o.size));(try simp only[aa,a7]);clear o aa a7 aJ aw P L bv aT ai aq ao ab bq;go_wp2_with (first
    |(go_at_call 7;(with_reducible refine(zfM _).mono ?_);go_must (rintro e wa ⟨rfl,t⟩;have R:=yo (bF.o.later t);have M:=yo (b8.o.later t);have b6:=yo (RdB.later b9.o t);have bD:=yo (RdB.later bA.o t);have bp:=yo (RdB.later bd.o t);have aS:=yo (RdB.blw bh.o (t.mono aA.o.size));have a0:=yo (aA.o.trans (t.mono aA.o.size));have y0:=R.o.cell (k:=0) rfl;have z0:=M.o.cell (k:=0) rfl;have y1:=R.o.cell (k:=1) rfl;have z1:=M.o.cell (k:=1) rfl;have y2:=R.o.cell (k:=2) rfl;have z2:=M.o.cell (k:=2) rfl;have y3:=R.o.cell (k:=3) rfl;have z3:=M.o.cell (k:=3) rfl;have y4:=R.o.cell (k:=4) rfl;have z4:=M.o.cell (k:=4) rfl; have a5:=yo (zpS ⟨U,X,V,W⟩ ⟨U,X,V,W⟩ wa.heap.size out.length c6 wa.heap.size out.length c8 A6 A8 out out wa b6.o bD.o (nlr _) (nlr _));rw[decide_eq_true (rfl:(⟨U,X,V,W⟩:Sh)=⟨U,X,V,W⟩),beq_self_eq_true out] at a5;dsimp only[Sh.r,Bool.and_self] at a5;clear t))
    |(go_at_call 14;(with_reducible refine a5.o.mono ?_);go_must (rintro e wb ⟨rfl,t⟩;have bC:=yo (a0.o.trans (t.mono a0.o.size));have aQ:=yo (zfm wb.heap.size n c2 w.heap.size n c A2 A bs bs wb (RdB.later bp.o t) (RdB.blw aS.o (t.mono a0.o.size)));rw[beq_self_eq_true bs] at aQ;clear t))
    |(go_at_call 11;(with_reducible refine aQ.o.mono ?_);go_must (rintro e wd ⟨rfl,rfl⟩)))
   go_ret;exact⟨by first|rfl|simp,bC.o⟩
end Go.Proofs.YtebbdifhiihfkaaGreatDoor

