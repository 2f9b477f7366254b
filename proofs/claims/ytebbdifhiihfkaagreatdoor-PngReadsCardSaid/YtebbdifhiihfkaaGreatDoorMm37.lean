/- XBuf XQd -/
import Derived.Test.YtebbdifhiihfkaaGreatDoorMm01
import Derived.Test.YtebbdifhiihfkaaGreatDoorMm08
import Derived.Test.YtebbdifhiihfkaaGreatDoorMm33
import Derived.Test.YtebbdifhiihfkaaGreatDoorMm34
import Derived.Test.YtebbdifhiihfkaaGreatDoorMm36
import Derived.Shelf.Bytes.WriteAny
import Derived.Shelf.Bytes.Bytes
import Derived.Lib.BufferOld
import Derived.Lib.BufferKept
namespace Go.Proofs.YtebbdifhiihfkaaGreatDoor
set_option linter.all false
open Go.RowKit Go.Shelf
def zms:Go.Shelf.Ren:=⟨fun|180=>28 |251=>55 |252=>56 |181=>81 |184=>82 |290=>83 |324=>99 |n=>n,fun|130=>92 |37=>22 |3=>3 |75=>70 |0=>0 |93=>68 |91=>66 |131=>93 |4=>4 |20=>20 |5=>5 |80=>247 |9=>9 |n=>n,fun|14=>0|n=>n⟩
theorem ztf:Go.Proofs.LaysM.n180 Tryz.prog zms:={
 mixed:=by kernel_rfl
 f180:=Tryz.func28.trans (congrArg some (by kernel_rfl))
 f181:=Tryz.func81.trans (congrArg some (by kernel_rfl))
 f184:=Tryz.func82.trans (congrArg some (by kernel_rfl))
 f251:=Tryz.func55.trans (congrArg some (by kernel_rfl))
 f252:=Tryz.func56.trans (congrArg some (by kernel_rfl))
 f290:=Tryz.func83.trans (congrArg some (by kernel_rfl))
 f324:=Tryz.func99.trans (congrArg some (by kernel_rfl))
 t0:=Tryz.underlying0
 a0:=Tryz.isAgg0
 z0:=Tryz.sizeOf0
 v0:=Tryz.zeroValue0
 t3:=Tryz.underlying3
 a3:=Tryz.isAgg3
 z3:=Tryz.sizeOf3
 v3:=Tryz.zeroValue3
 t4:=Tryz.underlying4
 a4:=Tryz.isAgg4
 z4:=Tryz.sizeOf4
 v4:=Tryz.zeroValue4
 t20:=Tryz.underlying20
 a20:=Tryz.isAgg20
 z20:=Tryz.sizeOf20
 v20:=Tryz.zeroValue20
 t37:=Tryz.underlying22
 a37:=Tryz.isAgg22
 z37:=Tryz.sizeOf22
 v37:=Tryz.zeroValue22
 t75:=Tryz.underlying70
 a75:=Tryz.isAgg70
 z75:=Tryz.sizeOf70
 v75:=Tryz.zeroValue70
 t91:=Tryz.underlying66
 a91:=Tryz.isAgg66
 z91:=Tryz.sizeOf66
 v91:=Tryz.zeroValue66
 t93:=Tryz.underlying68
 a93:=Tryz.isAgg68
 z93:=Tryz.sizeOf68
 v93:=Tryz.zeroValue68
 t130:=Tryz.underlying92
 a130:=Tryz.isAgg92
 z130:=Tryz.sizeOf92
 v130:=Tryz.zeroValue92
 t131:=Tryz.underlying93
 a131:=Tryz.isAgg93
 z131:=Tryz.sizeOf93
 v131:=Tryz.zeroValue93
 g14:=by kernel_rfl
 t5:=Tryz.underlying5
 a5:=Tryz.isAgg5
 z5:=Tryz.sizeOf5
 v5:=Tryz.zeroValue5
 t9:=Tryz.underlying9
 a9:=Tryz.isAgg9
 z9:=Tryz.sizeOf9
 v9:=Tryz.zeroValue9
 t80:=Tryz.underlying247
 a80:=Tryz.isAgg247
 z80:=Tryz.sizeOf247
 v80:=Tryz.zeroValue247
 i0:=by kernel_rfl
 i3:=by kernel_rfl
 i4:=by kernel_rfl
 i5:=by kernel_rfl
 i9:=by kernel_rfl
 i20:=by kernel_rfl
 i37:=by kernel_rfl
 i75:=by kernel_rfl
 i80:=by kernel_rfl
 i91:=by kernel_rfl
 i93:=by kernel_rfl
 i130:=by kernel_rfl
 i131:=by kernel_rfl
 m14:=by kernel_rfl }
def zmt:Go.Shelf.Ren:=⟨fun|183=>32 |n=>n,fun|130=>92 |37=>22 |0=>0 |93=>68 |3=>3 |5=>5 |91=>66 |n=>n,fun|n=>n⟩
theorem ztg:Go.Proofs.LaysM.n183 Tryz.prog zmt:={
 mixed:=by kernel_rfl
 f183:=Tryz.func32.trans (congrArg some (by kernel_rfl))
 t0:=Tryz.underlying0
 a0:=Tryz.isAgg0
 z0:=Tryz.sizeOf0
 v0:=Tryz.zeroValue0
 t3:=Tryz.underlying3
 a3:=Tryz.isAgg3
 z3:=Tryz.sizeOf3
 v3:=Tryz.zeroValue3
 t37:=Tryz.underlying22
 a37:=Tryz.isAgg22
 z37:=Tryz.sizeOf22
 v37:=Tryz.zeroValue22
 t93:=Tryz.underlying68
 a93:=Tryz.isAgg68
 z93:=Tryz.sizeOf68
 v93:=Tryz.zeroValue68
 t130:=Tryz.underlying92
 a130:=Tryz.isAgg92
 z130:=Tryz.sizeOf92
 v130:=Tryz.zeroValue92
 t5:=Tryz.underlying5
 a5:=Tryz.isAgg5
 z5:=Tryz.sizeOf5
 v5:=Tryz.zeroValue5
 t91:=Tryz.underlying66
 a91:=Tryz.isAgg66
 z91:=Tryz.sizeOf66
 v91:=Tryz.zeroValue66
 i0:=by kernel_rfl
 i3:=by kernel_rfl
 i5:=by kernel_rfl
 i37:=by kernel_rfl
 i91:=by kernel_rfl
 i93:=by kernel_rfl
 i130:=by kernel_rfl }
theorem zmu(B b:Nat)(bs cs:List Value)(a:Addr)(n c:Nat)(w:World)(h:Lib.IsBuffer 68 5 B b bs w)(q:B<=w.heap.size)(h1:∀v∈bs,v.oneCell'=true)
  (u:cs.length=n) (s:a.block≠b) (o:∀j v,cs[j]?=some v->w.cell? (a.add j)=some v) (r:∀v∈cs,v.oneCell'=true) (g:bs.length+n<=140737488355328) :
  Calls Tryz.prog 28 #[.pointer (some ⟨b,0,none⟩),.slice (some a) n c] w fun e w'=>e=.returned (.tuple #[.int .i64 n,.nilIface])/\Lib.IsBuffer 68 5 B b (bs++cs) w'/\Below B w w':=by
 refine(Any.Buffer_Write_any ztf B b bs cs a n c w h q h1 u s o r g).mono ?_;rintro e w' ⟨h1,h2,t,-⟩;exact⟨h1,h2,t⟩
theorem zmv(B b:Nat)(bs:List Value)(w:World)(h:Lib.IsBuffer 68 5 B b bs w):
  Calls Tryz.prog 32 #[.pointer (some ⟨b,0,none⟩)] w fun e w'=>∃v,e=.returned v/\w'.ownsRow B 5 1 v bs.length bs/\∃n,w'=w.drewN n:=Any.Buffer_Bytes ztg B b bs w h
end Go.Proofs.YtebbdifhiihfkaaGreatDoor

/- png: a picture read, in general. -/
namespace Go.Proofs.YtebbdifhiihfkaaGreatDoor
set_option linter.all false
set_option maxRecDepth 100000
set_option maxHeartbeats 6400000
open Go.RowKit
theorem ze6:∀ {l:List CK}{x:CK},x∈l->x.2.length<=zbo l
 |y :: l,x,h=>by
  rw[zbo];rcases List.mem_cons.1 h with rfl|h
  ·omega
  ·have:=ze6 h
   omega
/-- What a picture is, of the bytes that come out: u what they are put together to. -/
def zfL(u:List UInt8->Sh×List UInt8×Int)(N:Nat)(R:List UInt8×Int):Sh×List UInt8×Int :=
 if R.2≠0 then(⟨0,0,0,0⟩,[],R.2) else if R.1.length<N then(⟨0,0,0,0⟩,[],2) else u R.1
theorem zk7(B n c:Nat)(A:Option Addr)(bs:List UInt8)(w:World)(h:RdB w B A n bs)(O:B<=w.heap.size)(hc:n<=c)(Z:n<=1000000)(R:(zab bs).1≠0):
  Calls Tryz.prog 12 #[.slice A n c] w fun e w'=>UnU ⟨0,0,0,0⟩ [] ((zab bs).1:Int) w.heap.size w e w':=by
 have W:=h.len;have D:=zbL (bs:=bs);have C:=zbO (bs:=bs);have E:∀x∈(zab bs).2,x.2.length<=1000000:=fun x hx=>by have:=ze6 hx;omega
 have J:(zab bs).2.length<=1000000:=by have:=zbU (zab bs).2;omega
 obtain⟨w1,o⟩:∃w1,w.alloc (.cells #[.int .i64 0,.int .i64 0,.int .i64 0,.int .i64 0,.slice none 0 0] 39)=w1:=⟨_,rfl⟩;obtain⟨bx,q⟩:∃b,w.heap.size=b:=⟨_,rfl⟩;have H:Hid (Arr w1 bx [.int .i64 0,.int .i64 0,.int .i64 0,.int .i64 0,.slice none 0 0]):=(show Arr _ _ _ by rw[<-o,<-q];exact Arr.new w [.int .i64 0,.int .i64 0,.int .i64 0,.int .i64 0,.slice none 0 0] _);have L:Hid (RdB w1 B A n bs):=(show RdB _ _ _ _ _ by rw[<-o];exact Rd.alloc h O _);have M:Hid (Below bx w w1):=(show Below _ _ _ by rw[<-o,<-q];exact(Below.refl w.heap.size w).alloc (nlr _) _);have V:bx+1<=w1.heap.size:=by rw[<-o,wsa,q];exact nlr _
 have t:=zdZ B n c A bs w1 L.o (by omega) hc Z;unfold zaZ at t;obtain⟨F,s⟩:∃F:Int,((zab bs).1:Int)=F:=⟨_,rfl⟩;obtain⟨p,hp⟩:∃p,(zab bs).2=p:=⟨_,rfl⟩;rw[s,hp] at t;rw[hp] at D C E J;rw[q] at O ⊢;have Y:(F != 0)=true:=by rw[<-s,bne_iff_ne];omega
 rw[s];have G:=yo t;clear t R s hp h C E;go_enter Tryz.func12,Tryz.ntmps12;go_wp2_with (go_at_call 9;(with_reducible refine G.o.mono ?_);go_must (rintro e w2 ⟨A2,N,c2,l,rfl,u,g,X,r⟩;have T:=yo u;have S:=yo g;have z:=yo (H.o.later r);have I:=yo (M.o.trans (r.mono (by omega)));have U:=r.size;have P:Hid (l.length=N):=(show _=_ from u.len);have aa:Hid (N<=1000000):=(show _<=_ by have h1:=u.len;have h2:=g.1;omega);obtain⟨x0,x1,x2,x3,x4⟩:=z.o.c5;obtain⟨f0,f1,f2,f3,f4⟩:=z.o.q5;clear u g r));refine bodyPost_ret (v:=.tuple #[.agg #[.int .i64 0,.int .i64 0,.int .i64 0,.int .i64 0,.slice none 0 0],.int .i64 F]) ?_ rfl ?_
 ·unfold results
  go_simp
 ·exact⟨_,rfl,ownB.nil_ _ _,((((I.o.setCell (p:=⟨bx,0,none⟩) (nlr _) _).setCell (p:=⟨bx,1,none⟩) (nlr _) _).setCell (p:=⟨bx,2,none⟩) (nlr _) _).setCell (p:=⟨bx,3,none⟩) (nlr _) _).setCell (p:=⟨bx,4,none⟩) (nlr _) _⟩
theorem zjT(B n c:Nat)(A:Option Addr)(bs:List UInt8)(w:World)(h:RdB w B A n bs)(hB:B<=w.heap.size)(hc:n<=c)(hn:n<=1000000)(hE:(zab bs).1=0)(U:¬zaV (zab bs).2):
  Calls Tryz.prog 12 #[.slice A n c] w fun e w'=>UnU ⟨0,0,0,0⟩ [] 4 w.heap.size w e w':=by
 have af:=h.len;have F:=zbL (bs:=bs);have D:=zbO (bs:=bs);have E:∀x∈(zab bs).2,x.2.length<=1000000:=fun x hx=>by have:=ze6 hx;omega
 have T:(zab bs).2.length<=1000000:=by have:=zbU (zab bs).2;omega
 obtain⟨w1,q⟩:∃w1,w.alloc (.cells #[.int .i64 0,.int .i64 0,.int .i64 0,.int .i64 0,.slice none 0 0] 39)=w1:=⟨_,rfl⟩;obtain⟨bx,r⟩:∃b,w.heap.size=b:=⟨_,rfl⟩;have M:Hid (Arr w1 bx [.int .i64 0,.int .i64 0,.int .i64 0,.int .i64 0,.slice none 0 0]):=(show Arr _ _ _ by rw[<-q,<-r];exact Arr.new w [.int .i64 0,.int .i64 0,.int .i64 0,.int .i64 0,.slice none 0 0] _);have W:Hid (RdB w1 B A n bs):=(show RdB _ _ _ _ _ by rw[<-q];exact Rd.alloc h hB _);have V:Hid (Below bx w w1):=(show Below _ _ _ by rw[<-q,<-r];exact(Below.refl w.heap.size w).alloc (nlr _) _);have ae:bx+1<=w1.heap.size:=by rw[<-q,wsa,r];exact nlr _
 have t:=zdZ B n c A bs w1 W.o (by omega) hc hn;unfold zaZ at t;obtain⟨P,J⟩:∃P:Int,((zab bs).1:Int)=P:=⟨_,rfl⟩;obtain⟨p,hp⟩:∃p,(zab bs).2=p:=⟨_,rfl⟩;rw[J,hp] at t;rw[hp] at F D E T;rw[r] at hB ⊢;rw[hp] at U;obtain rfl:P=0:=by omega
 have L:=yo t;have O:=yo D;have Y:=yo E;have HS:=yo U;clear t hE J hp h D E U;go_enter Tryz.func12,Tryz.ntmps12;go_wp2_with (first
  |(go_at_call 9;(with_reducible refine L.o.mono ?_);go_must (rintro e w2 ⟨A2,N,c2,l,rfl,u,o,X,s⟩;have I:=yo u;have H:=yo o;have C:=yo (M.o.later s);have R:=yo (V.o.trans (s.mono (by omega)));have ac:=s.size;have aa:Hid (l.length=N):=(show _=_ from u.len);have Z:Hid (N<=1000000):=(show _<=_ by have h1:=u.len;have h2:=o.1;omega);obtain⟨x0,x1,x2,x3,x4⟩:=C.o.c5;obtain⟨f0,f1,f2,f3,f4⟩:=C.o.q5;clear u o s))
  |(go_at_call 26;(with_reducible refine(zhk w2.heap.size N c2 A2 l p w2 I.o H.o (nlr _) X Z.o O.o Y.o).mono ?_);go_must (rintro e w3 ⟨b3,rfl,z,g⟩;obtain rfl:b3=false:=(by cases b3 with|false=>rfl|true=>exact absurd (z.1 rfl) HS.o);have ag:=yo (RdQ.later I.o g);have ab:=yo (H.o.later g);have G:=yo (C.o.later g);have S:=yo (R.o.trans (g.mono (by omega)));have ah:=g.size;obtain⟨x0,x1,x2,x3,x4⟩:=G.o.c5;obtain⟨f0,f1,f2,f3,f4⟩:=G.o.q5; clear z g)))
 refine bodyPost_ret (v:=.tuple #[.agg #[.int .i64 0,.int .i64 0,.int .i64 0,.int .i64 0,.slice none 0 0],.int .i64 4]) ?_ rfl ?_
 ·unfold results
  go_simp
 ·exact⟨_,rfl,ownB.nil_ _ _,((((S.o.setCell (p:=⟨bx,0,none⟩) (nlr _) _).setCell (p:=⟨bx,1,none⟩) (nlr _) _).setCell (p:=⟨bx,2,none⟩) (nlr _) _).setCell (p:=⟨bx,3,none⟩) (nlr _) _).setCell (p:=⟨bx,4,none⟩) (nlr _) _⟩
theorem zm8(B n c:Nat)(A:Option Addr)(bs:List UInt8)(w:World)(h:RdB w B A n bs)(hB:B<=w.heap.size)(hc:n<=c)(hn:n<=1000000)(hE:(zab bs).1=0)(hS:zaV (zab bs).2)(hH:zc1 (zap (zab bs).2)≠0):
  Calls Tryz.prog 12 #[.slice A n c] w fun e w'=>UnU ⟨0,0,0,0⟩ [] (zc1 (zap (zab bs).2)) w.heap.size w e w':=by
 have aE:=h.len;have V:=zbL (bs:=bs);have N:=zbO (bs:=bs);have L:∀x∈(zab bs).2,x.2.length<=1000000:=fun x hx=>by have:=ze6 hx;omega
 have ax:(zab bs).2.length<=1000000:=by have:=zbU (zab bs).2;omega
 obtain⟨w1,G⟩:∃w1,w.alloc (.cells #[.int .i64 0,.int .i64 0,.int .i64 0,.int .i64 0,.slice none 0 0] 39)=w1:=⟨_,rfl⟩;obtain⟨bx,u⟩:∃b,w.heap.size=b:=⟨_,rfl⟩;have ak:Hid (Arr w1 bx [.int .i64 0,.int .i64 0,.int .i64 0,.int .i64 0,.slice none 0 0]):=(show Arr _ _ _ by rw[<-G,<-u];exact Arr.new w [.int .i64 0,.int .i64 0,.int .i64 0,.int .i64 0,.slice none 0 0] _);have a3:Hid (RdB w1 B A n bs):=(show RdB _ _ _ _ _ by rw[<-G];exact Rd.alloc h hB _);have au:Hid (Below bx w w1):=(show Below _ _ _ by rw[<-G,<-u];exact(Below.refl w.heap.size w).alloc (nlr _) _);have aG:bx+1<=w1.heap.size:=by rw[<-G,wsa,u];exact nlr _
 have H:=zdZ B n c A bs w1 a3.o (by omega) hc hn;unfold zaZ at H;obtain⟨E1,ai⟩:∃E1:Int,((zab bs).1:Int)=E1:=⟨_,rfl⟩;obtain⟨p,hp⟩:∃p,(zab bs).2=p:=⟨_,rfl⟩;rw[ai,hp] at H;rw[hp] at V N L ax;rw[u] at hB ⊢;rw[hp] at hS hH ⊢;obtain rfl:E1=0:=by omega
 have HS:=yo hS;obtain⟨F,T,P,-,-⟩:=hS;obtain⟨hd,t⟩:∃hd,zap p=hd:=⟨_,rfl⟩;have Z:p[0]?=some (zaX,hd):=by
  rw[lge F];have h1:p.getD 0 ([],[])=p[0]:=by rw[lgd,lge F];rfl
  have h2:zap p=p[0].2:=by unfold zap;rw[h1]
  rw[h1] at T;rw[<-t,h2,<-T]
 rw[t] at P;have a5:=yo Z;have X:=yo P;rw[t] at hH ⊢;obtain⟨E,M⟩:∃E,zc1 hd=E:=⟨_,rfl⟩;rw[M] at hH ⊢;have aB:(E != 0)=true:=by rw[bne_iff_ne];exact hH
 have ao:=yo M;have Y:=yo F;have a0:=yo H;have aw:=yo N;have a6:=yo L;clear H hE ai hp h N L t F T P Z M hH;go_enter Tryz.func12,Tryz.ntmps12;go_wp2_with (first
  |(go_at_call 9;(with_reducible refine a0.o.mono ?_);go_must (rintro e w2 ⟨A2,n2,c2,l,rfl,D,r,am,C⟩;have af:=yo D;have ae:=yo r;have R:=yo (ak.o.later C);have al:=yo (au.o.trans (C.mono (by omega)));have aF:=C.size;have a1:Hid (l.length=n2):=(show _=_ from D.len);have ar:Hid (n2<=1000000):=(show _<=_ by have h1:=D.len;have h2:=r.1;omega);obtain⟨x0,x1,x2,x3,x4⟩:=R.o.c5;obtain⟨f0,f1,f2,f3,f4⟩:=R.o.q5;clear D r C))
  |(go_at_call 26;(with_reducible refine(zhk w2.heap.size n2 c2 A2 l p w2 af.o ae.o (nlr _) am ar.o aw.o a6.o).mono ?_);go_must (rintro e w3 ⟨b3,rfl,I,g⟩;obtain rfl:b3=true:=I.2 HS.o;have a4:=yo (RdQ.later af.o g);have W:=yo (ae.o.later g);have J:=yo (R.o.later g);have ap:=yo (al.o.trans (g.mono (by omega)));have aC:=g.size;obtain⟨x0,x1,x2,x3,x4⟩:=J.o.c5;obtain⟨f0,f1,f2,f3,f4⟩:=J.o.q5;obtain⟨kz,dz,Az,cz,aa,ab,ay,U⟩:=W.o.one (i:=0) Y.o;have O:=aa.symm.trans a5.o;injection O with O;injection O with ah ac;subst ah ac;have s:=X.o;have av:Hid (l[0]?=some (zaX,Az,13,cz)):=(show _=_ by rw[ab,s]);have q:RdB w3 w3.heap.size Az 13 dz:=(by rw[<-s];exact U);have aD:=yo q;have aj:0<n2:=(by have h1:=a1.o;have h2:=W.o.1;have h3:=Y.o;omega);obtain⟨bl,ol,xl,rfl,aA,a2,e1,e2⟩:=a4.o.one (k:=0) aj;have az:xl=(zaX,Az,13,cz):=(by have:=a2.o.symm.trans av.o;injection this);subst az;simp only[Nat.zero_mul,Nat.add_zero] at e1 e2;have a8:(0:Int)<(n2:Int):=(by omega);have o:=yo (zjc w3.heap.size cz Az dz w3 q (nlr _) (by omega));clear aa ab ay U s q e1;unfold zeA ShP at o;rw[ao.o] at o;clear I g))
  |(go_at_call 27;(with_reducible refine o.o.mono ?_);go_must (rintro e w4 ⟨la,rfl,aq,z⟩;have S:=yo (J.o.later z);have an:=yo (ap.o.trans (z.mono (by omega)));have a9:=z.size;have ag:=S.o.lt;have a7:=Nat.ne_of_lt ag;obtain⟨x0,x1,x2,x3,x4⟩:=S.o.c5;obtain⟨f0,f1,f2,f3,f4⟩:=S.o.q5; clear z aq)))
 refine bodyPost_ret (v:=.tuple #[.agg #[.int .i64 0,.int .i64 0,.int .i64 0,.int .i64 0,.slice none 0 0],.int .i64 E]) ?_ rfl ?_
 ·unfold results
  go_simp
 ·exact⟨_,rfl,ownB.nil_ _ _,(Below.alloc (((((an.o.setCell (p:=⟨bx,0,none⟩) (nlr _) _).setCell (p:=⟨bx,1,none⟩) (nlr _) _).setCell (p:=⟨bx,2,none⟩) (nlr _) _).setCell (p:=⟨bx,3,none⟩) (nlr _) _).setCell (p:=⟨bx,4,none⟩) (nlr _) _) (by simp;omega) _)⟩
theorem zkN(W H C D N X:Nat)(LA:Bool)(L:List Sh)(NN off:Nat->Nat)(U:List UInt8->Sh×List UInt8×Int)(sF:Sh)(out:List UInt8)(EF:Int)(B n c:Nat)(A:Option Addr)(bs:List UInt8)(w:World)(h:RdB w B A n bs)(hB:B<=w.heap.size)(hc:n<=c)(hn:n<=1000000)(hE:(zab bs).1=0)(hS:zaV (zab bs).2)(hH:zc1 (zap (zab bs).2)=0)(hL:zfK (zap (zab bs).2)=LA)
  (a5:hdW (zap (zab bs).2)=W) (ax:hdH (zap (zab bs).2)=H) (a0:hdC (zap (zab bs).2)=C) (a2:hdD (zap (zab bs).2)=D) (dp:1<=X) (dl:X<=7) (dx:N<=40000)
  (aH:∀w,Calls Tryz.prog 29 #[.agg #[.int .i64 (W:Int),.int .i64 (H:Int),.int .i64 (C:Int),.int .i64 (D:Int)],.bool LA] w fun e w'=>∃g cl,e=.returned (.slice (some ⟨g,0,none⟩) X cl)/\RdV w' w'.heap.size (some ⟨g,0,none⟩) X L/\Below w.heap.size w w')
  (aI:∀k s,L[k]?=some s->∀w,Calls Tryz.prog 30 #[.agg #[.int .i64 s.w,.int .i64 s.h,.int .i64 s.c,.int .i64 s.d]] w fun e w'=>e=.returned (.int .i64 (NN k:Int))/\Below w.heap.size w w')
  (cr:off 0=0) (bS:∀k,off (k+1)=off k+NN k) (ck:off X=N) (bZ:∀k,k<=X->off k<=N)
  (aG:∀w A c g cl u,RdB w w.heap.size A u.length u->RdV w w.heap.size (some ⟨g,0,none⟩) X L->u.length<=c->N<=u.length->u.length<=1000000->Calls Tryz.prog 33 #[.agg #[.int .i64 (W:Int),.int .i64 (H:Int),.int .i64 (C:Int),.int .i64 (D:Int)],.slice (some ⟨g,0,none⟩) X cl,.slice A u.length c] w fun e w'=>UnU (U u).1 (U u).2.1 (U u).2.2 w.heap.size w e w')
  (hR:zfL U N (zcB (za4 (zab bs).2) (N:Int))=(sF,out,EF)) :
  Calls Tryz.prog 12 #[.slice A n c] w fun e w'=>UnU sF out EF w.heap.size w e w':=by
 have aZ:=h.len;have aL:=zbL (bs:=bs);have bi:=zbO (bs:=bs);have aU:∀x∈(zab bs).2,x.2.length<=1000000:=fun x hx=>by have:=ze6 hx;omega
 have bH:(zab bs).2.length<=1000000:=by have:=zbU (zab bs).2;omega
 obtain⟨w1,ai⟩:∃w1,w.alloc (.cells #[.int .i64 0,.int .i64 0,.int .i64 0,.int .i64 0,.slice none 0 0] 39)=w1:=⟨_,rfl⟩;obtain⟨bx,ay⟩:∃b,w.heap.size=b:=⟨_,rfl⟩;have bR:Hid (Arr w1 bx [.int .i64 0,.int .i64 0,.int .i64 0,.int .i64 0,.slice none 0 0]):=(show Arr _ _ _ by rw[<-ai,<-ay];exact Arr.new w [.int .i64 0,.int .i64 0,.int .i64 0,.int .i64 0,.slice none 0 0] _);have cq:Hid (RdB w1 B A n bs):=(show RdB _ _ _ _ _ by rw[<-ai];exact Rd.alloc h hB _);have co:Hid (Below bx w w1):=(show Below _ _ _ by rw[<-ai,<-ay];exact(Below.refl w.heap.size w).alloc (nlr _) _);have dt:bx+1<=w1.heap.size:=by rw[<-ai,wsa,ay];exact nlr _
 have a8:=zdZ B n c A bs w1 cq.o (by omega) hc hn;unfold zaZ at a8;obtain⟨E1,b7⟩:∃E1:Int,((zab bs).1:Int)=E1:=⟨_,rfl⟩;obtain⟨p,hp⟩:∃p,(zab bs).2=p:=⟨_,rfl⟩;rw[b7,hp] at a8;rw[hp] at aL bi aU bH;rw[ay] at hB ⊢;rw[hp] at hS hH hL a5 ax a0 a2 hR;obtain rfl:E1=0:=by omega
 have HS:=yo hS;obtain⟨aF,aS,bf,-,-⟩:=hS;obtain⟨hd,az⟩:∃hd,zap p=hd:=⟨_,rfl⟩;have bU:p[0]?=some (zaX,hd):=by
  rw[lge aF];have h1:p.getD 0 ([],[])=p[0]:=by rw[lgd,lge aF];rfl
  have h2:zap p=p[0].2:=by unfold zap;rw[h1]
  rw[h1] at aS;rw[<-az,h2,<-aS]
 rw[az] at bf;have cU:=yo bU;have bC:=yo bf;rw[az] at hH hL a5 ax a0 a2;have c6:=yo hH;have cB:=yo hL;have dg:=yo a5;have cy:=yo ax;have dc:=yo a0;have cu:=yo a2;have ci:=yo aF;have cd:=yo a8;have cX:=yo bi;have cE:=yo aU;have cp:Hid (zbo p<=1000000):=(show _<=_ by omega);have dv:Hid (p.length<=1000000):=(show _<=_ from bH);have ar:=yo hR;have bM:=yo aH;have bJ:=yo aI;have bK:=yo aG;have cv:=yo cr;have cP:=yo bS;have cI:=yo ck;have cN:=yo bZ;clear a8 hE b7 hp h bi aU az aF aS bf bU hH hL a5 ax a0 a2 hR aH aI aG cr bS ck bZ aL;go_enter Tryz.func12,Tryz.ntmps12;go_upto_region 9 with(first
  |(go_at_call 9;(with_reducible refine cd.o.mono ?_);go_must (rintro e w2 ⟨A2,n2,c2,l,rfl,a1,al,cw,aB⟩;have aY:=yo a1;have aR:=yo al;have a3:=yo (bR.o.later aB);have bA:=yo (co.o.trans (aB.mono (by omega)));have d8:=aB.size;have bn:Hid (l.length=n2):=(show _=_ from a1.len);have de:Hid (n2<=1000000):=(show _<=_ by have h1:=a1.len;have h2:=al.1;omega);obtain⟨x0,x1,x2,x3,x4⟩:=a3.o.c5;obtain⟨f0,f1,f2,f3,f4⟩:=a3.o.q5;clear a1 al aB))
  |(go_at_call 26;(with_reducible refine(zhk w2.heap.size n2 c2 A2 l p w2 aY.o aR.o (nlr _) cw de.o cX.o cE.o).mono ?_);go_must (rintro e w3 ⟨b3,rfl,aJ,ae⟩;obtain rfl:b3=true:=aJ.2 HS.o;have bh:=yo (RdQ.later aY.o ae);have a9:=yo (aR.o.later ae);have av:=yo (a3.o.later ae);have bu:=yo (bA.o.trans (ae.mono (by omega)));have d5:=ae.size;obtain⟨x0,x1,x2,x3,x4⟩:=av.o.c5;obtain⟨f0,f1,f2,f3,f4⟩:=av.o.q5;obtain⟨kz,dz,Az,cz,cm,bW,cS,bp⟩:=a9.o.one (i:=0) ci.o;have bk:=cm.symm.trans cU.o;injection bk with bk;injection bk with cs b0;subst cs b0;have ap:=bC.o;have b1:Hid (l[0]?=some (zaX,Az,13,cz)):=(show _=_ by rw[bW,ap]);have ag:RdB w3 w3.heap.size Az 13 dz:=(by rw[<-ap];exact bp);have cQ:=yo ag;have ch:0<n2:=(by have h1:=bn.o;have h2:=a9.o.1;have Z:=ci.o;omega);obtain⟨bl,ol,xl,rfl,d3,b2,e1,e2⟩:=bh.o.one (k:=0) ch;have ah:xl=(zaX,Az,13,cz):=(by have:=b2.o.symm.trans b1.o;injection this);subst ah;simp only[Nat.zero_mul,Nat.add_zero] at e1 e2;have dq:(0:Int)<(n2:Int):=(by omega);have V:=yo (zjc w3.heap.size cz Az dz w3 ag (nlr _) (by omega));clear cm bW cS bp ap ag e1;unfold zeA ShP at V;rw[c6.o,dg.o,cy.o,dc.o,cu.o] at V;clear aJ ae))
  |(go_at_call 27;(with_reducible refine V.o.mono ?_);go_must (rintro e w4 ⟨la,rfl,bF,aa⟩;have a4:=yo (av.o.later aa);have dd:=yo (bu.o.trans (aa.mono (by omega)));have du:=aa.size;have ca:=a4.o.lt;have dk:=Nat.ne_of_lt ca;obtain⟨x0,x1,x2,x3,x4⟩:=a4.o.c5;obtain⟨f0,f1,f2,f3,f4⟩:=a4.o.q5;obtain rfl:la=LA:=(bF (by first|rfl|trivial)).trans cB.o;have cj:=yo (RdQ.later bh.o aa);have aC:=yo (a9.o.later aa);clear aa bF)))
 clear ai cd bR cq co a3 aY aR bA av bh a9 bu V b2 b1 cQ;obtain⟨sW,sH,sC,sD⟩:=sF;obtain⟨E,ac⟩:∃b,w4.heap.size=b:=⟨_,rfl⟩;obtain⟨wb,ak⟩:∃w,(w4.alloc (.cells #[.int .i64 (W:Int),.int .i64 (H:Int),.int .i64 (C:Int),.int .i64 (D:Int)] 37)).alloc (.cells #[.slice none 0 0,.int .i64 0,.int .i8 0] 68)=w:=⟨_,rfl⟩;have cH:Hid (Arr wb E [.int .i64 (W:Int),.int .i64 (H:Int),.int .i64 (C:Int),.int .i64 (D:Int)]):=(show Arr _ _ _ by rw[<-ak,<-ac];exact(Arr.new w4 [.int .i64 (W:Int),.int .i64 (H:Int),.int .i64 (C:Int),.int .i64 (D:Int)] _).alloc _);have br:Hid (Lib.IsBuffer 68 5 (E+1) (E+1) (cb (za4 (p.take 0))) wb):=(show Lib.IsBuffer _ _ _ _ _ _ by
  have:=Lib.fresh_isBuffer 68 5 (w4.alloc (.cells #[.int .i64 (W:Int),.int .i64 (H:Int),.int .i64 (C:Int),.int .i64 (D:Int)] 37));rw[wsa,ac,ak] at this;exact this)
 have dh:Hid (Below w4.heap.size w4 wb):=(show Below _ _ _ by rw[<-ak];exact((Below.refl w4.heap.size w4).alloc (nlr _) _).alloc (by rw[wsa];omega) _);have ds:E+2<=wb.heap.size:=by rw[<-ak,wsa,wsa,ac];exact nlr _
 have dn:bl<w4.heap.size:=by omega
 have bm:=yo ac;clear x0 x1 x2 x3 x4 f0 f1 f2 f3 f4 e2;go_wp2_with fail;simp only[ac];clear ak ac;go_loopw [46] (fun vi wr=>∃i:Nat,i<=n2/\vi=.int .i64 (i:Int)/\Hid (Lib.IsBuffer 68 5 (E+1) (E+1) (cb (za4 (p.take i))) wr)/\Hid (Below (E+1) wb wr)) (fun vi _=>n2-(intOf vi).toNat)
 case atStart=>exact⟨0,Nat.zero_le _,rfl,br.o,Below.refl _ _⟩
 case round =>
  clear br;obtain⟨i,hi,rfl,HI,aD⟩:=hrel;have d7:=aD.o.size;have I:Hid (Below w4.heap.size w4 wr):=(show Below _ _ _ from dh.o.trans (aD.o.mono (by have:=bm.o;omega)));have dm:=I.o.size;by_cases hlt:i<n2
  ·have b8:(i:Int)<(n2:Int):=by omega
   have HR:Hid (RdQ wr w4.heap.size (some ⟨bl,ol,none⟩) n2 l):=(show RdQ _ _ _ _ _ from cj.o.blw I.o);obtain⟨b',o',x,T,-,HX,e1,e2⟩:=HR.o.one hlt;injection T with T;injection T with q1 q2;subst q1 q2;have c0:i<p.length:=(by have h1:=bn.o;have h2:=aC.o.1;omega);obtain⟨⟨xk,xd⟩,ba⟩:∃x,p[i]?=some x:=⟨_,lge c0⟩;obtain⟨xA,xc,bT,dr,bt,gx,rfl,d6,-⟩:=aC.o.2 i xk xd ba;have hx:x=(xk,some ⟨gx,0,none⟩,xd.length,xc):=(by have:=HX.o.symm.trans bT;injection this);subst hx;have bb:=yo (zj0 ba);have bj:(za4 (p.take (i+1))).length<=1000000:=by
    have h1:=zfa (p.take (i+1));have h2:=ze9 (p.take (i+1)) (p.drop (i+1));rw[List.take_append_drop] at h2;have:=cp.o;omega
   have ah:(za4 (p.take i)).length+xd.length<=1000000\/¬xk=zaU:=by
    by_cases e:xk=zaU
    ·left
     have Z:=bb.o;rw[if_pos e] at Z;have h4:(za4 (p.take (i+1))).length=(za4 (p.take i)).length+xd.length:=(by rw[Z,lla]);omega
    ·exact .inr e
   have dj:=yo bt;have dw:IntKind.i64.wrap ((i:Int)+1)=(i:Int)+1:=by rw[show(i:Int)+1=((i+1:Nat):Int) by omega];exact zaa _ (by omega)
   dsimp only at e1 e2;clear HX bT ba bt HR;obtain⟨wq,a7⟩:∃wq,wr.alloc (.cells #[.string ⟨xk.toArray⟩,.slice (some ⟨gx,0,none⟩) xd.length xc] 33)=wq:=⟨_,rfl⟩;have aO:Hid (Below wr.heap.size wr wq):=(show Below _ _ _ by rw[<-a7];exact(Below.refl wr.heap.size wr).alloc (nlr _) _);have b4:Hid (Lib.IsBuffer 68 5 (E+1) (E+1) (cb (za4 (p.take i))) wq):=(show Lib.IsBuffer _ _ _ _ _ _ by rw[<-a7];exact HI.o.alloc _);have bI:Hid (Below (E+1) wb wq):=(show Below _ _ _ from aD.o.trans (aO.o.mono (by omega)));have cL:E+1<=wq.heap.size:=(by have:=aO.o.size;omega);have q0:wq.cell? ⟨wr.heap.size,0,none⟩=some (.string ⟨xk.toArray⟩):=(by rw[<-a7];exact(Arr.new wr [.string ⟨xk.toArray⟩,.slice (some ⟨gx,0,none⟩) xd.length xc] 33).cell (k:=0) rfl);have q1:wq.cell? ⟨wr.heap.size,1,none⟩=some (.slice (some ⟨gx,0,none⟩) xd.length xc):=(by rw[<-a7];exact(Arr.new wr [.string ⟨xk.toArray⟩,.slice (some ⟨gx,0,none⟩) xd.length xc] 33).cell (k:=1) rfl);by_cases hk:xk=zaU
   ·have z:=bb.o
    rw[if_pos hk] at z;have cV:xk=[73,68,65,84]:=hk;subst cV;have db:(za4 (p.take i)).length+xd.length<=1000000:=ah.elim id (fun h=>absurd hk h);have bN:=RdB.blw dj.o (I.o.trans (aO.o.mono (by have:=bm.o;omega)));have df:=yo (zmu (E+1) (E+1) (cb (za4 (p.take i))) (cb xd) ⟨gx,0,none⟩ xd.length xc wq b4.o cL (zgF _) (zby _) (by show gx≠E+1;have:=bm.o;omega) (fun j v hj=>by
     have dy:j<xd.length:=(by have h1:=(List.getElem?_eq_some_iff.1 hj).1;rwa[zby] at h1);obtain⟨b9,o9,e9,-,G⟩:=bN.2 (by omega);injection e9 with e9;injection e9 with c8 c3;subst c8 c3;rw[zaS];exact G j v hj) (zgF _) (by rw[zby];omega))
    have bc:Hid (cb (za4 (p.take (i+1)))=cb (za4 (p.take i))++cb xd):=(show _=_ by rw[z,zfk]);clear bN z hk ah db;go_wp2_with (go_at_call 28;(with_reducible refine df.o.mono ?_);go_must (rintro e w7 ⟨rfl,aM,bD⟩;rw[<-bc.o] at aM;have bo:=yo aM;have bz:=yo (bI.o.trans bD);clear aM bD));go_roundw
    case rel =>
     first
      |exact⟨i+1,by omega,by go_num,bo.o,bz.o⟩
      |((repeat apply Exists.intro);exact⟨⟨i+1,by omega,by go_num,bo.o,bz.o⟩,rfl⟩)
    case measure=>simp[intOf];omega
   ·have d1:(xk==[73,68,65,84])=false:=by rw[beq_eq_false_iff_ne];exact hk
    have z:=bb.o;rw[if_neg hk,List.append_nil] at z;have bc:=yo z;clear z hk ah;go_wp2_with fail;go_roundw
    case rel=>exact⟨i+1,by omega,by go_num,(show Lib.IsBuffer _ _ _ _ _ _ by rw[bc.o];exact b4.o),bI.o⟩
    case measure=>simp[intOf];omega
  ·obtain rfl:i=n2:=by omega
   have b8:¬(i:Int)<(i:Int):=(by omega);have cn:p.take i=p:=List.take_of_length_le (by have h1:=bn.o;have h2:=aC.o.1;omega);have cW:Hid (Lib.IsBuffer 68 5 (E+1) (E+1) (cb (za4 p)) wr):=(show Lib.IsBuffer _ _ _ _ _ _ by have:=HI.o;rwa[cn] at this);have bj:(za4 p).length<=1000000:=(by have h1:=zfa p;have:=cp.o;omega);have bw:=yo (cH.o.blw aD.o (Nat.lt_succ_self E));obtain⟨s0,s1,s2,s3⟩:=bw.o.c4;have cA:=yo (bM.o wr);have cF:=bJ;have cO:=yo (dd.o.trans (I.o.mono (by omega)));have cR:=yo (a4.o.later I.o);clear HI cn aC cj;go_wp2_with (go_at_call 29;(with_reducible refine cA.o.mono ?_);go_must (rintro e w8 ⟨g9,di,rfl,ce,ab⟩;have bY:=yo ce;have ct:=yo (cW.o.old ab);have cT:=yo (bw.o.later ab);have cJ:=yo (cR.o.later ab);have cM:=yo (cO.o.trans (ab.mono (by omega)));have d4:=ab.size;clear ce ab));obtain⟨wo,rfl⟩:∃wo:World,wo=wr:=⟨_,rfl⟩;go_loopw [62,12] (fun vi vn wr=>∃k:Nat,k<=X/\vi=.int .i64 (k:Int)/\vn=.int .i64 ((off k:Nat):Int)/\Hid (Below w8.heap.size w8 wr)) (fun vi _ _=>X-(intOf vi).toNat)
   case atStart=>exact⟨0,Nat.zero_le _,rfl,by rw[cv.o];rfl,Below.refl _ _⟩
   case round =>
    obtain⟨k,hk,rfl,rfl,O⟩:=hrel;have cZ:=O.o.size;by_cases hk1:k<X
    ·have Y:Hid (RdV wr w8.heap.size (some ⟨g9,0,none⟩) X L):=(show RdV _ _ _ _ _ from bY.o.blw O.o)
     obtain⟨b',o',x,T,-,HX,e0,e1,e2,e3⟩:=Y.o.one hk1;injection T with T;injection T with q1 q2;subst q1 q2;obtain⟨pW,pH,pC,pD⟩:=x;have aK:=yo (cF.o k _ HX.o);have aA:=cP.o k;have c7:=cN.o (k+1) hk1;obtain⟨bB,ao⟩:∃n,off (k+1)=n:=⟨_,rfl⟩;rw[ao] at aA c7;have cc:=yo ao;clear ao;obtain⟨nk,bV⟩:∃n,NN k=n:=⟨_,rfl⟩;rw[bV] at aA aK;obtain⟨ok,aP⟩:∃n,off k=n:=⟨_,rfl⟩;rw[aP] at aA;simp only[aP];have bq:(k:Int)<(X:Int):=(by omega);have d9:IntKind.i64.wrap ((ok:Int)+(nk:Int))=(bB:Int):=by rw[show(ok:Int)+(nk:Int)=(bB:Int) by omega];exact zaa _ (by omega)
     have d0:IntKind.i64.wrap ((k:Int)+1)=(k:Int)+1:=by rw[show(k:Int)+1=((k+1:Nat):Int) by omega];exact zaa _ (by omega)
     simp only[Nat.zero_add] at e0 e1 e2 e3;(try dsimp only at e0 e1 e2 e3);clear HX Y bV aP aA;go_wp2_with (go_at_call 30;(with_reducible refine(aK.o _).mono ?_);go_must (rintro e wz ⟨rfl,bX⟩;have cC:=yo (O.o.trans ((((Below.refl wr.heap.size wr).alloc (nlr _) (.cells #[.int .i64 pW,.int .i64 pH,.int .i64 pC,.int .i64 pD] 37)).trans (bX.mono (by rw[wsa];omega))).mono cZ));clear bX));go_roundw
     case rel=>exact⟨k+1,hk1,by go_num,by rw[cc.o],cC.o⟩
     case measure=>simp[intOf];omega
    ·obtain rfl:k=X:=by omega
     have d2:((off k:Nat):Int)=(N:Int):=(by rw[cI.o]);have bq:¬(k:Int)<(k:Int):=(by omega);obtain⟨data,af⟩:∃d,za4 p=d:=⟨_,rfl⟩;rw[af] at ct bj;have da:=yo (ct.o.old O.o);have aV:=yo (zmv (E+1) (E+1) (cb data) wr da.o);have bd:=yo (cT.o.later O.o);have aQ:=yo (cJ.o.later O.o);have aj:=yo (cM.o.trans (O.o.mono (by omega)));have Y:Hid (RdV wr wr.heap.size (some ⟨g9,0,none⟩) k L):=(show RdV _ _ _ _ _ from RdV.later bY.o O.o);rw[af] at ar;obtain⟨⟨u,RE⟩,r⟩:∃R,zcB data (N:Int)=R:=⟨_,rfl⟩;rw[r] at ar;have aE:=yo (fun A9 c9 (w9:World) (h:RdB w9 w9.heap.size A9 data.length data) (G:data.length<=c9)=>zrA w9.heap.size data.length c9 A9 data (N:Int) w9 h (nlr _) G bj);rw[r] at aE;have bP:RE=0->u.length<=1000000:=fun h=>by
      have h1:(zax data (N:Int)).2.2=0:=by
       unfold zcB at r;split at r
       ·assumption
       ·injection r with _ r;exact r.trans h
      have h2:=(zgw h1).2.1;unfold zcB at r;rw[if_pos h1] at r;split at r
      ·injection r with Z _;rw[<-Z];exact Nat.zero_le _
      ·injection r with Z _;rw[<-Z];omega
     have cK:=yo bP;clear r bP;by_cases hre:RE=0
     ·have bO:=yo hre
      have bG:(RE != 0)=false:=(by rw[hre];rfl);have b5:=cK.o hre;by_cases aZ:u.length<N
      ·have bv:(u.length:Int)<(N:Int):=by omega
       have aW:Hid (sW=0/\sH=0/\sC=0/\sD=0/\out=[]/\EF=2):=(show _/\_ by
        have h1:=ar.o;unfold zfL at h1;rw[if_neg (show ¬((u,RE):List UInt8×Int).2≠0 from fun h=>h bO.o),if_pos (show((u,RE):List UInt8×Int).1.length<N from aZ)] at h1;injection h1 with h1 h2;injection h1 with h4 h5 h6 h7;injection h2 with h2 Z;exact⟨h4.symm,h5.symm,h6.symm,h7.symm,h2.symm,Z.symm⟩)
       clear hre;go_wp2_with (first
        |(go_at_call 32;(with_reducible refine aV.o.mono ?_);go_must (rintro e wd ⟨v9,rfl,J,q9,rfl⟩;have t:ownB (wr.drewN q9) (E+1) v9 data:=(by unfold ownB;rwa[zby] at J);obtain⟨A9,c9,rfl,P,G,-⟩:=t.form;have an:=yo (aE.o A9 c9 (wr.drewN q9) P G);clear J t P))
        |(go_at_call 31;(with_reducible refine an.o.mono ?_);go_must (rintro e wf ⟨vf,rfl,S,q⟩;obtain⟨Af,cf,rfl,M,aT,-⟩:=S.form;have o:Below wr.heap.size wr wf:=⟨q.os,q.tape,q.output,q.size,q.block⟩;have aX:=yo M;have F:=yo (aQ.o.later o);have au:=yo (bd.o.later o);have aN:=yo (RdV.later Y.o o);have aq:=yo (aj.o.trans (o.mono (by omega)));have bE:=o.size;obtain⟨x0,x1,x2,x3,x4⟩:=F.o.c5;obtain⟨f0,f1,f2,f3,f4⟩:=F.o.q5;obtain⟨s0,s1,s2,s3⟩:=au.o.c4;clear S q o M)))
       refine bodyPost_ret (v:=.tuple #[.agg #[.int .i64 0,.int .i64 0,.int .i64 0,.int .i64 0,.slice none 0 0],.int .i64 2]) ?_ rfl ?_
       ·unfold results
        go_simp
       ·obtain⟨rfl,rfl,rfl,rfl,rfl,rfl⟩:=aW.o
        exact⟨_,rfl,ownB.nil_ _ _,((((aq.o.setCell (p:=⟨bx,0,none⟩) (nlr _) _).setCell (p:=⟨bx,1,none⟩) (nlr _) _).setCell (p:=⟨bx,2,none⟩) (nlr _) _).setCell (p:=⟨bx,3,none⟩) (nlr _) _).setCell (p:=⟨bx,4,none⟩) (nlr _) _⟩
      ·have bv:¬(u.length:Int)<(N:Int):=by omega
       have cY:Hid (U u=(⟨sW,sH,sC,sD⟩,out,EF)):=(show _=_ by
        have h1:=ar.o;unfold zfL at h1;rw[if_neg (show ¬((u,RE):List UInt8×Int).2≠0 from fun h=>h bO.o),if_neg (show ¬((u,RE):List UInt8×Int).1.length<N from aZ)] at h1;exact h1)
       have a6:=yo (fun(wx:World) (Ax:Option Addr) (cx:Nat) (h1:RdB wx wx.heap.size Ax u.length u) (h2:RdV wx wx.heap.size (some ⟨g9,0,none⟩) k L) (Z:u.length<=cx)=>bK.o wx Ax cx g9 di u h1 h2 Z (by omega) b5);rw[cY.o] at a6;dsimp only at a6;unfold UnU at a6;clear hre;go_wp2_with (first
        |(go_at_call 32;(with_reducible refine aV.o.mono ?_);go_must (rintro e wd ⟨v9,rfl,J,q9,rfl⟩;have t:ownB (wr.drewN q9) (E+1) v9 data:=(by unfold ownB;rwa[zby] at J);obtain⟨A9,c9,rfl,P,G,-⟩:=t.form;have an:=yo (aE.o A9 c9 (wr.drewN q9) P G);clear J t P))
        |(go_at_call 31;(with_reducible refine an.o.mono ?_);go_must (rintro e wf ⟨vf,rfl,S,q⟩;obtain⟨Af,cf,rfl,M,aT,-⟩:=S.form;have o:Below wr.heap.size wr wf:=⟨q.os,q.tape,q.output,q.size,q.block⟩;have aX:=yo M;have F:=yo (aQ.o.later o);have au:=yo (bd.o.later o);have aN:=yo (RdV.later Y.o o);have aq:=yo (aj.o.trans (o.mono (by omega)));have bE:=o.size;obtain⟨x0,x1,x2,x3,x4⟩:=F.o.c5;obtain⟨f0,f1,f2,f3,f4⟩:=F.o.q5;obtain⟨s0,s1,s2,s3⟩:=au.o.c4;clear S q o M))
        |(go_at_call 33;(with_reducible refine(a6.o wf Af cf aX.o aN.o aT).mono ?_);go_must (rintro e wg ⟨vg,rfl,aw,bg⟩;obtain⟨Ag,cg,rfl,-,-,-⟩:=aw.form;have cD:=yo aw;have bL:=yo (F.o.later bg);have cG:=yo (aq.o.trans (bg.mono (by omega)));have bQ:=zbu aw (show bx<wf.heap.size by omega);have am:=yo bQ;obtain⟨x0,x1,x2,x3,x4⟩:=bL.o.c5;obtain⟨f0,f1,f2,f3,f4⟩:=bL.o.q5;clear aw bg bQ)))
       refine bodyPost_ret (v:=.tuple #[.agg #[.int .i64 sW,.int .i64 sH,.int .i64 sC,.int .i64 sD,.slice Ag out.length cg],.int .i64 EF]) ?_ rfl ?_
       ·unfold results
        go_simp
       ·exact⟨_,rfl,(((((cD.o.far am.o 0 _).far am.o 1 _).far am.o 2 _).far am.o 3 _).far am.o 4 _).mono (by omega),((((cG.o.setCell (p:=⟨bx,0,none⟩) (nlr _) _).setCell (p:=⟨bx,1,none⟩) (nlr _) _).setCell (p:=⟨bx,2,none⟩) (nlr _) _).setCell (p:=⟨bx,3,none⟩) (nlr _) _).setCell (p:=⟨bx,4,none⟩) (nlr _) _⟩
     ·have bG:(RE != 0)=true:=by rw[bne_iff_ne];exact hre
      have aW:Hid (sW=0/\sH=0/\sC=0/\sD=0/\out=[]/\EF=RE):=(show _/\_ by
       have h1:=ar.o;unfold zfL at h1;rw[if_pos (show((u,RE):List UInt8×Int).2≠0 from hre)] at h1;injection h1 with h1 h2;injection h1 with h4 h5 h6 h7;injection h2 with h2 Z;exact⟨h4.symm,h5.symm,h6.symm,h7.symm,h2.symm,Z.symm⟩)
      clear hre;go_wp2_with (first
       |(go_at_call 32;(with_reducible refine aV.o.mono ?_);go_must (rintro e wd ⟨v9,rfl,J,q9,rfl⟩;have t:ownB (wr.drewN q9) (E+1) v9 data:=(by unfold ownB;rwa[zby] at J);obtain⟨A9,c9,rfl,P,G,-⟩:=t.form;have an:=yo (aE.o A9 c9 (wr.drewN q9) P G);clear J t P))
       |(go_at_call 31;(with_reducible refine an.o.mono ?_);go_must (rintro e wf ⟨vf,rfl,S,q⟩;obtain⟨Af,cf,rfl,M,aT,-⟩:=S.form;have o:Below wr.heap.size wr wf:=⟨q.os,q.tape,q.output,q.size,q.block⟩;have aX:=yo M;have F:=yo (aQ.o.later o);have au:=yo (bd.o.later o);have aN:=yo (RdV.later Y.o o);have aq:=yo (aj.o.trans (o.mono (by omega)));have bE:=o.size;obtain⟨x0,x1,x2,x3,x4⟩:=F.o.c5;obtain⟨f0,f1,f2,f3,f4⟩:=F.o.q5;obtain⟨s0,s1,s2,s3⟩:=au.o.c4;clear S q o M)))
      refine bodyPost_ret (v:=.tuple #[.agg #[.int .i64 0,.int .i64 0,.int .i64 0,.int .i64 0,.slice none 0 0],.int .i64 RE]) ?_ rfl ?_
      ·unfold results
       go_simp
      ·obtain⟨rfl,rfl,rfl,rfl,rfl,rfl⟩:=aW.o
       exact⟨_,rfl,ownB.nil_ _ _,((((aq.o.setCell (p:=⟨bx,0,none⟩) (nlr _) _).setCell (p:=⟨bx,1,none⟩) (nlr _) _).setCell (p:=⟨bx,2,none⟩) (nlr _) _).setCell (p:=⟨bx,3,none⟩) (nlr _) _).setCell (p:=⟨bx,4,none⟩) (nlr _) _⟩
end Go.Proofs.YtebbdifhiihfkaaGreatDoor

