/- XPc7 XPc8 -/
import Derived.Test.YtebbdifhiihfkaaGreatDoorMm07
import Derived.StillTailTactics
namespace Go.Proofs.YtebbdifhiihfkaaGreatDoor
set_option linter.all false
set_option maxRecDepth 100000
open Go.RowKit
theorem zez(k:List UInt8)(w:World):Calls Tryz.prog 53 #[.string ⟨k.toArray⟩] w fun e w'=>e=.returned (.bool (zcc k))/\w=w':=by
 go_enter Tryz.func53,Tryz.ntmps53;go_wp2_with fail
 all_goals go_ret
 all_goals refine⟨?_,rfl⟩
 all_goals unfold zcc zaX zbB zaU zcl
 all_goals first
  |rfl
  |(simp[*];done)
theorem CR.kinds{w:World}{T:Option Nat}{l:List CQ}{p:List CK}(h:CR w T l p):l.map (fun x=>x.1)=p.map (fun x=>x.1):=by
 apply List.ext_getElem?;intro i;rw[List.getElem?_map,List.getElem?_map];by_cases hi:i<p.length
 ·obtain⟨k,d,A,c,h1,h2,-⟩:=h.one hi
  rw[h1,h2];rfl
 ·have:=h.1
  rw[List.getElem?_eq_none (by omega),List.getElem?_eq_none (by omega)];rfl
def zep(x:CQ):Bool:=x.1==zbB ||x.1==zaU
def isQ(x:CQ):Bool:=x.1==zaU
def zhI(l:List CQ):Bool:=match l.getLast? with|some x=>isQ x|none=>true
theorem zhi(f:List UInt8->Bool):∀ {l:List CQ}{p:List CK},l.map (fun x=>x.1)=p.map (fun x=>x.1)->l.any (fun x=>f x.1)=p.any (fun x=>f x.1)
 | [],[],_=>rfl
 | [],y :: p,h=>by cases h
 |x :: l,[],h=>by cases h
 |x :: l,y :: p,h=>by
  rw[List.map_cons,List.map_cons] at h;injection h with h1 h2;rw[List.any_cons,List.any_cons,zhi f h2,h1]
theorem zo5{l:List CQ}{p:List CK}(h:l.map (fun x=>x.1)=p.map (fun x=>x.1)):zhI l=zeO p:=by
 have e:(l.map (fun x=>x.1)).getLast?=(p.map (fun x=>x.1)).getLast?:=by rw[h]
 rw[List.getLast?_map,List.getLast?_map] at e;unfold zhI zeO;cases h1:l.getLast? with
 |none =>
  rw[h1] at e;cases h2:p.getLast? with
  |none=>rfl
  |some y=>rw[h2] at e;cases e
 |some x =>
  rw[h1] at e;cases h2:p.getLast? with
  |none=>rw[h2] at e;cases e
  |some y =>
   rw[h2] at e;have e:x.1=y.1:=(by injection e);show isQ x=isD y;unfold isQ isD;rw[e]
theorem zfi{α:Type}(f:α->Bool){l:List α}{k:Nat}{x:α}(h:l[k]?=some x):(l.take (k+1)).any f=((l.take k).any f ||f x):=by
 rw[List.take_add_one,h,List.any_append];simp
theorem zrp{α:Type}(f:α->Bool){l:List α}{k:Nat}{x:α}(h:l[k]?=some x)(hx:f x=true):l.any f=true:=by
 rw[List.any_eq_true];exact⟨x,List.mem_of_getElem? h,hx⟩
theorem zm6(B n c q c2:Nat)(A A2:Option Addr)(l:List CQ)(k:List UInt8)(g:UInt8)(w:World)(h:RdQ w B A n l)(hB:B<=w.heap.size)(hn:n<=1000000)(am:q<=1000000):
  Calls Tryz.prog 51 #[.slice A n c,.agg #[.string ⟨k.toArray⟩,.slice A2 q c2],.int .u8 (g.toNat:Int)] w fun e w'=>e=.returned (.bool (!l.any zep && decide (0<q/\q % 3=0/\q<=768/\g≠0/\g≠4)))/\Below w.heap.size w w':=by
 have hl:=h.len;obtain⟨V,hV⟩:∃V,(!l.any zep && decide (0<q/\q % 3=0/\q<=768/\g≠0/\g≠4))=V:=⟨_,rfl⟩;have E:=yo hV;rw[hV];clear hV;obtain⟨w1,t⟩:∃w1,w.alloc (.cells #[.string ⟨k.toArray⟩,.slice A2 q c2] 33)=w1:=⟨_,rfl⟩;obtain⟨bk,u⟩:∃b,w.heap.size=b:=⟨_,rfl⟩;have W:Hid (Arr w1 bk [.string ⟨k.toArray⟩,.slice A2 q c2]):=(show Arr _ _ _ by rw[<-t,<-u];exact Arr.new w [.string ⟨k.toArray⟩,.slice A2 q c2] _);have O:Hid (RdQ w1 B A n l):=(show RdQ _ _ _ _ _ by rw[<-t];exact RdQ.alloc h hB _);have R:Hid (Below bk w w1):=(show Below _ _ _ by rw[<-t,<-u];exact(Below.refl w.heap.size w).alloc (nlr _) _);have an:bk+1<=w1.heap.size:=by rw[<-t,wsa,u];exact nlr _
 rw[u] at hB;have ai:=yo hl;clear h hl;go_enter Tryz.func51,Tryz.ntmps51;simp only[t,u];go_wp2_with fail;clear t;go_loopw [11] (fun vi wr=>∃i:Nat,i<=n/\vi=.int .i64 (i:Int)/\Hid ((l.take i).any zep=false)/\Hid (Below (bk+1) w1 wr)) (fun vi _=>n-(intOf vi).toNat)
 case atStart=>exact⟨0,Nat.zero_le _,rfl,rfl,Below.refl _ _⟩
 case round =>
  obtain⟨i,hi,rfl,HN,F⟩:=hrel;have hz:=F.o.size;by_cases hlt:i<n
  ·have J:(i:Int)<(n:Int):=by omega
   have X:Hid (RdQ wr B A n l):=(show RdQ _ _ _ _ _ from O.o.blw (F.o.mono (by omega)));obtain⟨b,o,x,rfl,hb,T,e1,S⟩:=X.o.one hlt;have U:=yo (zfi zep T.o);obtain⟨C,xA,xn,xc⟩:=x;dsimp only at e1 S;have ao:IntKind.i64.wrap ((i:Int)+1)=(i:Int)+1:=by rw[show(i:Int)+1=((i+1:Nat):Int) by omega];exact zaa _ (by omega)
   cases hst:zep (C,xA,xn,xc) with
   |true =>
    have z:Hid (V=false):=(show _=_ from E.o.symm.trans (by rw[zrp zep T.o hst];rfl));clear T X;have P:C=zbB\/(¬C=zbB/\C=zaU):=by
     unfold zep at hst;simp only[Bool.or_eq_true,beq_iff_eq] at hst;rcases hst with e|e
     ·exact .inl e
     ·by_cases S:C=zbB
      ·exact .inl S
      ·exact .inr ⟨S,e⟩
    clear hst;have ae:bk<=wr.heap.size:=(by omega);have s:=yo ((R.o.trans (F.o.mono (Nat.le_succ bk))).alloc ae (.cells #[.string ⟨C.toArray⟩,.slice xA xn xc] 33));unfold zbB zaU at P;rcases P with rfl | ⟨h1,rfl⟩
    ·go_wp2_with fail
     go_ret;rw[z.o];exact⟨rfl,s.o⟩
    ·go_wp2_with fail
     go_ret;rw[z.o];exact⟨rfl,s.o⟩
   |false =>
    rw[hst,HN.o] at U;have ab:Hid ((l.take (i+1)).any zep=false):=(show _=_ from U.o);have h1:(C==[80,76,84,69])=false:=(Bool.or_eq_false_iff.1 hst).1;have h2:(C==[73,68,65,84])=false:=(Bool.or_eq_false_iff.1 hst).2;clear T U X hst;go_wp2_with fail;go_roundw
    case rel=>exact⟨i+1,by omega,by go_num,ab,F.o.alloc (by omega) _⟩
    case measure=>simp[intOf];omega
  ·obtain rfl:i=n:=by omega
   have J:¬(i:Int)<(i:Int):=(by omega);have D:=HN.o;rw[List.take_of_length_le (Nat.le_of_eq ai.o)] at D;have z:=yo D;clear D;have HA:=yo (W.o.blw F.o (Nat.lt_succ_self bk));have a0:=HA.o.cell (k:=0) rfl;have a1:=HA.o.cell (k:=1) rfl;have s:=yo (R.o.trans (F.o.mono (Nat.le_succ bk)));obtain⟨r,hr⟩:∃r,q % 3=r:=⟨_,rfl⟩;have ak:(q:Int).tmod 3=(r:Int):=(by rw[<-hr];rfl);have aj:(q:Int) % 3=(r:Int):=(by omega);have al:IntKind.i64.wrap (r:Int)=(r:Int):=zaa _ (by omega);have I:=yo hr;have aa:Hid (g.toNat=0->g=0):=(show _->_ from fun e=>UInt8.toNat.inj e);have Y:Hid (g.toNat=4->g=4):=(show _->_ from fun e=>UInt8.toNat.inj e);clear HN O hr;by_cases t1:0<q
   ·have ah:(0:Int)<(q:Int):=by omega
    by_cases t2:r=0
    ·have ag:((r:Int)==0)=true:=by rw[t2];rfl
     by_cases t3:q<=768
     ·have af:(q:Int)<=768:=by omega
      by_cases t4:g.toNat=0
      ·have Z:((g.toNat:Int) != 0)=false:=by rw[t4];rfl
       go_wp2_with fail;go_ret;obtain rfl:V=false:=E.o.symm.trans (by rw[z.o];exact decide_eq_false (fun⟨M,H,N,G,L⟩=>G (aa.o t4)));exact⟨rfl,s.o⟩
      ·have Z:((g.toNat:Int) != 0)=true:=by rw[bne_iff_ne];omega
       by_cases t5:g.toNat=4
       ·have ac:((g.toNat:Int) != 4)=false:=by rw[t5];rfl
        go_wp2_with fail;go_ret;obtain rfl:V=false:=E.o.symm.trans (by rw[z.o];exact decide_eq_false (fun⟨M,H,N,G,L⟩=>L (Y.o t5)));exact⟨rfl,s.o⟩
       ·have ac:((g.toNat:Int) != 4)=true:=by rw[bne_iff_ne];omega
        go_wp2_with fail;go_ret;obtain rfl:V=true:=E.o.symm.trans (by rw[z.o];exact decide_eq_true ⟨t1,by have:=I.o;omega,t3,fun e=>t4 (by rw[e];rfl),fun e=>t5 (by rw[e];rfl)⟩);exact⟨rfl,s.o⟩
     ·have af:¬(q:Int)<=768:=by omega
      go_wp2_with fail;go_ret;obtain rfl:V=false:=E.o.symm.trans (by rw[z.o];exact decide_eq_false (fun⟨M,H,N,G,L⟩=>t3 N));exact⟨rfl,s.o⟩
    ·have ag:((r:Int)==0)=false:=by rw[beq_eq_false_iff_ne];omega
     go_wp2_with fail;go_ret;obtain rfl:V=false:=E.o.symm.trans (by rw[z.o];exact decide_eq_false (fun⟨M,H,N,G,L⟩=>t2 (I.o.symm.trans H)));exact⟨rfl,s.o⟩
   ·have ah:¬(0:Int)<(q:Int):=by omega
    go_wp2_with fail;go_ret;obtain rfl:V=false:=E.o.symm.trans (by rw[z.o];exact decide_eq_false (fun⟨M,H,N,G,L⟩=>t1 M));exact⟨rfl,s.o⟩
theorem zmm(B n c:Nat)(A:Option Addr)(l:List CQ)(w:World)(h:RdQ w B A n l)(hB:B<=w.heap.size)(hn:n<=1000000):
  Calls Tryz.prog 52 #[.slice A n c] w fun e w'=>e=.returned (.bool (!l.any isQ ||zhI l))/\Below w.heap.size w w':=by
 have O:=h.len;obtain⟨V,I⟩:∃V,(!l.any isQ ||zhI l)=V:=⟨_,rfl⟩;have S:=yo I;rw[I];clear I;have G:=yo h;have u:=yo O;clear h O;go_enter Tryz.func52,Tryz.ntmps52;go_wp2_with fail;go_loopw [7] (fun N wr=>∃i:Nat,i<=n/\N=.int .i64 (i:Int)/\Hid ((l.take i).any isQ=false)/\Hid (Below w.heap.size w wr)) (fun N _=>n-(intOf N).toNat)
 case atStart=>exact⟨0,Nat.zero_le _,rfl,rfl,Below.refl _ _⟩
 case round =>
  obtain⟨i,hi,rfl,W,t⟩:=hrel;have hz:=t.o.size;by_cases hlt:i<n
  ·have r:(i:Int)<(n:Int):=by omega
   have C:Hid (RdQ wr B A n l):=(show RdQ _ _ _ _ _ from G.o.blw (t.o.mono hB));obtain⟨b,o,x,rfl,hb,E,e1,Z⟩:=C.o.one hlt;obtain⟨b',o',y,g,-,F,T,P⟩:=C.o.one (k:=n-1) (by omega);injection g with g;injection g with q1 q2;subst q1 q2;have z:=yo (zfi isQ E.o);obtain⟨L,X,R,U⟩:=x;obtain⟨M,yA,Y,yc⟩:=y;dsimp only at e1 Z T P;have ae:IntKind.i64.wrap ((i:Int)+1)=(i:Int)+1:=by rw[show(i:Int)+1=((i+1:Nat):Int) by omega];exact zaa _ (by omega)
   have ac:IntKind.i64.wrap ((n:Int)-1)=((n-1:Nat):Int):=by rw[show(n:Int)-1=((n-1:Nat):Int) by omega];exact zaa _ (by omega)
   have af:n-1<n:=(by omega);have ab:((n-1:Nat):Int)<(n:Int):=(by omega);have aa:b<wr.heap.size:=(by omega);cases hst:isQ (L,X,R,U) with
   |true =>
    have s:l.getLast?=some (M,yA,Y,yc):=(by rw[List.getLast?_eq_getElem?,u.o];exact F.o);have D:Hid (V=(M==[73,68,65,84])):=(show _=_ by
     rw[<-S.o,zrp isQ E.o hst];unfold zhI;rw[s];rfl)
    have H:L=[73,68,65,84]:=(by unfold isQ at hst;exact eq_of_beq hst);clear E C hst F s z;generalize n-1=m at *;subst H;have q:=yo (t.o.alloc hz (.cells #[.string ⟨#[73,68,65,84]⟩,.slice X R U] 33));by_cases hy:M=[73,68,65,84]
    ·subst hy
     go_wp2_with fail;go_ret;rw[D.o];exact⟨rfl,q.o⟩
    ·go_wp2_with fail
     go_ret;rw[D.o];exact⟨by first|rfl|simp[hy],q.o⟩
   |false =>
    rw[hst,W.o] at z;have J:Hid ((l.take (i+1)).any isQ=false):=(show _=_ from z.o);have h2:(L==[73,68,65,84])=false:=hst;clear E z C hst F T P;go_wp2_with fail;go_roundw
    case rel=>exact⟨i+1,by omega,by go_num,J,t.o.alloc hz _⟩
    case measure=>simp[intOf];omega
  ·obtain rfl:i=n:=by omega
   have r:¬(i:Int)<(i:Int):=(by omega);have D:Hid (V=true):=(show _=_ by
    have:=W.o;rw[List.take_of_length_le (Nat.le_of_eq u.o)] at this;rw[<-S.o,this];rfl)
   go_wp2_with fail;go_ret;rw[D.o];exact⟨rfl,t.o⟩
end Go.Proofs.YtebbdifhiihfkaaGreatDoor

/- png: do chunks stand as they may? -/
namespace Go.Proofs.YtebbdifhiihfkaaGreatDoor
set_option linter.all false
set_option maxRecDepth 100000
set_option maxHeartbeats 12800000
open Go.RowKit
theorem zhj(p:List CK)(g:UInt8)(i:Nat)(d:List UInt8):zaP p g i (zaX,d)=(decide (0<i) ||decide (i+1=p.length)):=by
 have h1:(zaX==zaX)=true:=rfl;have h2:(zaX==zbB)=false:=rfl;have o:(zaX==zaU)=false:=rfl;have h4:(zaX==zcl)=false:=rfl;have q:zcc zaX=true:=rfl;unfold zaP;simp only[h1,h2,o,h4,q];cases decide (0<i)<;>cases decide (i+1=p.length)<;>rfl
theorem zi9(p:List CK)(g:UInt8)(i:Nat)(d:List UInt8):zaP p g i (zbB,d)=(!zll (p.take i) d g ||decide (i+1=p.length)):=by
 have h1:(zbB==zaX)=false:=rfl;have h2:(zbB==zbB)=true:=rfl;have o:(zbB==zaU)=false:=rfl;have h4:(zbB==zcl)=false:=rfl;have q:zcc zbB=true:=rfl;unfold zaP;simp only[h1,h2,o,h4,q];cases zll (p.take i) d g<;>cases decide (i+1=p.length)<;>rfl
theorem zja(p:List CK)(g:UInt8)(i:Nat)(d:List UInt8):zaP p g i (zaU,d)=(!zlm (p.take i) ||decide (i+1=p.length)):=by
 have h1:(zaU==zaX)=false:=rfl;have h2:(zaU==zbB)=false:=rfl;have o:(zaU==zaU)=true:=rfl;have h4:(zaU==zcl)=false:=rfl;have q:zcc zaU=true:=rfl;unfold zaP;simp only[h1,h2,o,h4,q];cases zlm (p.take i)<;>cases decide (i+1=p.length)<;>rfl
theorem zjb(p:List CK)(g:UInt8)(i:Nat)(d:List UInt8):zaP p g i (zcl,d)=(!decide (i+1=p.length) ||decide (0<d.length)):=by
 have h1:(zcl==zaX)=false:=rfl;have h2:(zcl==zbB)=false:=rfl;have o:(zcl==zaU)=false:=rfl;have h4:(zcl==zcl)=true:=rfl;have q:zcc zcl=true:=rfl;unfold zaP;simp only[h1,h2,o,h4,q];cases decide (i+1=p.length)<;>cases decide (0<d.length)<;>rfl
theorem zrq(p:List CK)(g:UInt8)(i:Nat)(k d:List UInt8)(h1:(k==zaX)=false)(h2:(k==zbB)=false)(o:(k==zaU)=false)(h4:(k==zcl)=false):zaP p g i (k,d)=(decide (i+1=p.length) ||decide ((k.getD 0 0).toNat<=90)):=by
 have q:zcc k=false:=by unfold zcc;rw[h1,h2,o,h4];rfl
 unfold zaP;simp only[h1,h2,o,h4,q];cases decide (i+1=p.length)<;>cases decide (0<d.length)<;>cases decide ((k.getD 0 0).toNat<=90)<;>rfl
theorem zn4(p:List CK)(d:List UInt8)(g:UInt8):zll p d g=(!p.any zlb && decide (0<d.length/\d.length % 3=0/\d.length<=768/\g≠0/\g≠4)):=rfl
theorem zrr(k:List UInt8)(h:0<k.length)(w:World):(Instr.index 9 (.string ⟨k.toArray⟩) (.int .i64 0)).run Tryz.prog w=.ok (.int .u8 ((k.getD 0 0).toNat:Int)) w:=by
 rw[run_index_string w 9 ⟨k.toArray⟩ .i64 0 Tryz.underlying9];have hs:(⟨k.toArray⟩:ByteArray).size=k.length:=by show k.toArray.size=_;simp
 rw[dif_pos ⟨by omega,by rw[hs];omega⟩]
 match k,h with
 |x :: k,_=>rfl
def zch(p:List CK)(w:World)(e:Ending)(w':World):Prop:=∃b,e=.returned (.bool b)/\(b=true↔zaV p)/\Below w.heap.size w w'
theorem zhk(B n c:Nat)(A:Option Addr)(l:List CQ)(p:List CK)(w:World)(h:RdQ w B A n l)(hp:CR w none l p)(hB:B<=w.heap.size)(hc:n<=c)(hn:n<=1000000)(hg:∀x∈p,zhy x)(ag:∀x∈p,x.2.length<=1000000):
  Calls Tryz.prog 26 #[.slice A n c] w fun e w'=>zch p w e w':=by
 have hl:=h.len;have ak:l.length=p.length:=hp.1;rcases Nat.eq_zero_or_pos n with rfl|hn0
 ·have af:Hid (¬zaV p):=(show ¬_ from fun hs=>by have:=hs.1;omega)
  clear h hp hl ak;go_enter Tryz.func26,Tryz.ntmps26;go_wp2_with fail;go_ret;unfold zch;exact⟨_,rfl,⟨fun h=>(by cases h),fun h=>absurd h af.o⟩,Below.refl _ _⟩
 ·obtain⟨b,o,x0,rfl,hb,ai,e1,e2⟩:=h.one (k:=0) hn0
  obtain⟨k0,d0,A0,c0,ah,ae,aM,ab⟩:=hp.one (i:=0) (by omega);have aQ:x0=(k0,A0,d0.length,c0):=by have:=ai.o.symm.trans ae;injection this
  subst aQ;simp only[Nat.zero_mul,Nat.add_zero] at e1 e2;have aW:((n:Int)==0)=false:=by rw[beq_eq_false_iff_ne];omega
  have R:p.getD 0 ([],[])=(k0,d0):=by rw[lgd,ah];rfl
  have X:zap p=d0:=by unfold zap;rw[R]
  have aX:(0:Int)<(n:Int):=by omega
  by_cases W:k0=zaX
  ·have a6:k0=[73,72,68,82]:=W
   subst a6;by_cases hd0:d0.length=13
   ·have aF:((d0.length:Int) != 13)=false:=by rw[hd0];rfl
    have ba:=yo hd0;rw[hd0] at ab e2;have aI:=yo ab;have aN:Hid (l[0]?=some ([73,72,68,82],A0,13,c0)):=(show _=_ by rw[ae,hd0]);have a5:=yo h;have a9:=yo hp;have HG:=yo hg;have aV:=yo ag;have N:Hid (zaV p↔((∀i x,p[i]?=some x->zaP p (d0.getD 9 0) i x=false)/\p.any isD=true)):=(show _↔_ by
     have aK:zcq p=d0.getD 9 0:=(by unfold zcq;rw[X]);unfold zaV;rw[R,X,aK];exact⟨fun h=>⟨h.2.2.2.1,h.2.2.2.2⟩,fun h=>⟨by omega,rfl,hd0,h.1,h.2⟩⟩)
    have M:Hid (p.length=n):=(show _=_ by omega);clear ai ah ae aM ab hp hg ag X R W hd0 hl ak h;obtain⟨b0,o0,r,rfl,aT,a1,e9⟩:=aI.o.byte (k:=9) (by omega);have a0:Hid (d0.getD 9 0=r):=(show _=_ by rw[lgd,a1.o];rfl);rw[a0.o] at N;have aS:=yo e9;clear a1;go_enter Tryz.func26,Tryz.ntmps26;go_wp2_with fail;clear e1 e2 e9;go_loopw [27,3] (fun vi vd wr=>∃(i:Nat) (Z:Bool),i<=n/\vi=.int .i64 (i:Int)/\vd=.bool Z/\Hid ((p.take i).any isD=Z)/\Hid (∀j x,j<i->p[j]?=some x->zaP p r j x=false)/\Hid (Below w.heap.size w wr)) (fun vi _ _=>n-(intOf vi).toNat)
    case atStart=>exact⟨0,false,Nat.zero_le _,rfl,rfl,rfl,(fun j x hj=>absurd hj (Nat.not_lt_zero _)),Below.refl _ _⟩
    case round =>
     obtain⟨i,Z,hi,rfl,rfl,C,u,HB⟩:=hrel;have hz:=HB.o.size;by_cases hlt:i<n
     ·have az:(i:Int)<(n:Int):=by omega
      have HR:Hid (RdQ wr B (some ⟨b,o,none⟩) n l):=(show RdQ _ _ _ _ _ from a5.o.blw (HB.o.mono hB));obtain⟨b',o',x,av,-,HX,e1,e2⟩:=HR.o.one hlt;injection av with av;injection av with q1 q2;subst q1 q2;obtain⟨H,z,xA,xc,aa,a2,-,-⟩:=a9.o.one (i:=i) (by have:=M.o;omega);have hx:x=(H,xA,z.length,xc):=(by have:=HX.o.symm.trans a2;injection this);subst hx;have aB:=HG.o _ (List.mem_of_getElem? aa);have aJ:z.length<=1000000:=aV.o _ (List.mem_of_getElem? aa);have I:=yo aa;have aG:Hid (RdQ wr B (some ⟨b,o,none⟩) i (l.take i)):=(show RdQ _ _ _ _ _ by have:=RdQ.cut HR.o (k:=0) (m:=i) (by omega) (A':=some ⟨b,o,none⟩) (fun _=>by simp[Addr.add]);simpa using this);have ax:Hid ((l.take i).map (fun x=>x.1)=(p.take i).map (fun x=>x.1)):=(show _=_ from(a9.o.take i).kinds);have D:=yo (zfi isD aa);have bf:H.length=4:=aB.1;clear HX aa a2 aB HR;dsimp only at e1 e2;have bb:IntKind.i64.wrap ((i:Int)+1)=(i:Int)+1:=by rw[show(i:Int)+1=((i+1:Nat):Int) by omega];exact zaa _ (by omega)
      obtain⟨m,hm⟩:∃m,n-1=m:=⟨_,rfl⟩;have bh:IntKind.i64.wrap ((n:Int)-1)=(m:Int):=by rw[show(n:Int)-1=(m:Int) by omega];exact zaa _ (by omega)
      have P:=yo hm;clear hm;obtain⟨O,aq⟩:∃O,wr.alloc (.cells #[.string ⟨H.toArray⟩,.slice xA z.length xc] 33)=O:=⟨_,rfl⟩;obtain⟨bq,aH⟩:∃bq,wr.heap.size=bq:=⟨_,rfl⟩;have V:Hid (Arr O bq [.string ⟨H.toArray⟩,.slice xA z.length xc]):=(show Arr _ _ _ by rw[<-aq,<-aH];exact Arr.new wr [.string ⟨H.toArray⟩,.slice xA z.length xc] _);have ar:Hid (Below wr.heap.size wr O):=(show Below _ _ _ by rw[<-aq];exact(Below.refl wr.heap.size wr).alloc (nlr _) _);have aZ:bq+1=O.heap.size:=(by rw[<-aq,wsa,aH]);have t:Hid (Below w.heap.size w O):=(show Below _ _ _ from HB.o.trans (ar.o.mono hz));have q0:=V.o.cell (k:=0) rfl;have q1:=V.o.cell (k:=1) rfl;have a4:Hid (RdQ O B (some ⟨b,o,none⟩) i (l.take i)):=(show RdQ _ _ _ _ _ from aG.o.blw (ar.o.mono (by omega)));have a8:B<=O.heap.size:=(by omega);clear aG ar;by_cases hkH:H=zaX
      ·have e:H=[73,72,68,82]:=hkH
       subst e;clear hkH;have J:=yo (zez [73,72,68,82]);rw[show zcc [73,72,68,82]=true from rfl] at J;by_cases hi0:0<i
       ·have a3:(0:Int)<(i:Int):=by omega
        have s:Hid (zaP p r i ([73,72,68,82],z)=true):=(show _=_ by exact(zhj p r i z).trans (by rw[decide_eq_true hi0];rfl));clear C u D;go_wp2_with fail;go_ret;unfold zch;refine⟨false,rfl,⟨fun h=>(by cases h),fun h=>?_⟩,(by first|exact t.o|exact zag t.o _)⟩;have h2:=(N.o.1 h).1 i _ I.o;rw[s.o] at h2;cases h2
       ·have a3:¬(0:Int)<(i:Int):=by omega
        by_cases hL:n=i+1
        ·have S:=yo (show i+1=p.length by have h1:=P.o;have h2:=M.o;omega)
         have E:((i:Int)==(m:Int))=true:=(by rw[beq_iff_eq];have:=P.o;omega);clear hL;have s:Hid (zaP p r i ([73,72,68,82],z)=true):=(show _=_ by exact(zhj p r i z).trans (by rw[decide_eq_true S.o,Bool.or_true]));clear C u D;go_upto_region 9 with fail;go_quiet (fail);go_wp2_with fail;go_ret;unfold zch;refine⟨false,rfl,⟨fun h=>(by cases h),fun h=>?_⟩,(by first|exact t.o|exact zag t.o _)⟩;have h2:=(N.o.1 h).1 i _ I.o;rw[s.o] at h2;cases h2
        ·have S:=yo (show ¬i+1=p.length by have h1:=P.o;have h2:=M.o;omega)
         have E:((i:Int)==(m:Int))=false:=(by rw[beq_eq_false_iff_ne];have:=P.o;omega);have s:Hid (zaP p r i ([73,72,68,82],z)=false):=(show _=_ by exact(zhj p r i z).trans (by rw[decide_eq_false S.o,decide_eq_false hi0];rfl));have L:Hid (∀j x,j<i+1->p[j]?=some x->zaP p r j x=false):=(show ∀j x,_ from fun j x hj hx=>by
          by_cases e:j=i
          ·subst e
           have U:=I.o.symm.trans hx;injection U with U;rw[<-U];exact s.o
          ·exact u.o j x (by omega) hx)
         have T:Hid ((p.take (i+1)).any isD=Z):=(show _=_ by rw[D.o,C.o];exact Bool.or_false _);clear u s C D;cases Z <;>
          ·go_upto_region 9 with fail
           go_quiet (fail);go_wp2_with (go_at_call 53;(with_reducible refine(J.o _).mono ?_);go_must (rintro e w8 ⟨rfl,rfl⟩));go_roundw
           case rel=>exact⟨i+1,_,by omega,by go_num,rfl,T.o,L.o,(show Below _ _ _ by first|exact t.o|exact zag t.o _)⟩
           case measure=>simp[intOf];omega
      ·by_cases hkP:H=zbB
       ·have e:H=[80,76,84,69]:=hkP
        subst e;clear hkP hkH;have J:=yo (zez [80,76,84,69]);rw[show zcc [80,76,84,69]=true from rfl] at J;have aj:=yo (zm6 B i c z.length xc (some ⟨b,o,none⟩) xA (l.take i) [80,76,84,69] r O.drew a4.o a8 (by omega) aJ);obtain⟨pv,au⟩:∃pv,zll (p.take i) z r=pv:=⟨_,rfl⟩;have ao:(!(l.take i).any zep && decide (0<z.length/\z.length % 3=0/\z.length<=768/\r≠0/\r≠4))=pv:=by
         rw[<-au,zn4];have:=zhi (fun k=>k==zbB ||k==zaU) ax.o;rw[show(l.take i).any zep=(p.take i).any zlb from this]
        rw[ao] at aj;have ay:=yo au;have an:Hid (RdQ O B (some ⟨b,o,none⟩) n l):=(show RdQ _ _ _ _ _ from a5.o.blw (t.o.mono hB));obtain⟨b2,o2,x2,ac,-,aE,g1,g2⟩:=an.o.one (k:=0) hn0;injection ac with ac;injection ac with q3 q4;subst q3 q4;have aL:x2=([73,72,68,82],some ⟨b0,o0,none⟩,13,c0):=(by have:=aE.o.symm.trans aN.o;injection this);subst aL;simp only[Nat.zero_mul,Nat.add_zero] at g2;have g9:=zan t.o aT aS.o;have aO:(i:Int)<=(c:Int):=(by omega);have aA:i<=c:=(by omega);have aY:(9:Int)<13:=(by omega);clear au ao aE an g1;cases pv with
        |false =>
         have s:Hid (zaP p r i ([80,76,84,69],z)=true):=(show _=_ by exact(zi9 p r i z).trans (by rw[ay.o];rfl));clear C u D;go_upto_region 9 with fail
         go_still_tail 14,(by kernel_rfl)
         go_wp2_with (go_at_call 51;(with_reducible refine aj.o.mono ?_);go_must (rintro e w7 ⟨rfl,g⟩;replace g:Below O.heap.size O w7:=⟨g.os,g.tape,g.output,g.size,g.block⟩;have G:=yo (V.o.later g);have r0:=G.o.cell (k:=0) rfl;have r1:=G.o.cell (k:=1) rfl;have F:=yo (t.o.trans (g.mono (by have:=t.o.size;exact this)));clear g));go_ret;unfold zch;refine⟨false,rfl,⟨fun h=>(by cases h),fun h=>?_⟩,(by first|exact F.o|exact zag F.o _)⟩;have h2:=(N.o.1 h).1 i _ I.o;rw[s.o] at h2;cases h2
        |true =>
         by_cases hL:n=i+1
         ·have S:=yo (show i+1=p.length by have h1:=P.o;have h2:=M.o;omega)
          have E:((i:Int)==(m:Int))=true:=(by rw[beq_iff_eq];have:=P.o;omega);clear hL;have s:Hid (zaP p r i ([80,76,84,69],z)=true):=(show _=_ by exact(zi9 p r i z).trans (by rw[decide_eq_true S.o,Bool.or_true]));clear C u D;go_upto_region 9 with fail
          go_still_tail 14,(by kernel_rfl)
          go_wp2_with (go_at_call 51;(with_reducible refine aj.o.mono ?_);go_must (rintro e w7 ⟨rfl,g⟩;replace g:Below O.heap.size O w7:=⟨g.os,g.tape,g.output,g.size,g.block⟩;have G:=yo (V.o.later g);have r0:=G.o.cell (k:=0) rfl;have r1:=G.o.cell (k:=1) rfl;have F:=yo (t.o.trans (g.mono (by have:=t.o.size;exact this)));clear g));go_ret;unfold zch;refine⟨false,rfl,⟨fun h=>(by cases h),fun h=>?_⟩,(by first|exact F.o|exact zag F.o _)⟩;have h2:=(N.o.1 h).1 i _ I.o;rw[s.o] at h2;cases h2
         ·have S:=yo (show ¬i+1=p.length by have h1:=P.o;have h2:=M.o;omega)
          have E:((i:Int)==(m:Int))=false:=(by rw[beq_eq_false_iff_ne];have:=P.o;omega);have s:Hid (zaP p r i ([80,76,84,69],z)=false):=(show _=_ by exact(zi9 p r i z).trans (by rw[decide_eq_false S.o,ay.o];rfl));have L:Hid (∀j x,j<i+1->p[j]?=some x->zaP p r j x=false):=(show ∀j x,_ from fun j x hj hx=>by
           by_cases e:j=i
           ·subst e
            have U:=I.o.symm.trans hx;injection U with U;rw[<-U];exact s.o
           ·exact u.o j x (by omega) hx)
          have T:Hid ((p.take (i+1)).any isD=Z):=(show _=_ by rw[D.o,C.o];exact Bool.or_false _);clear u s C D;cases Z <;>
           ·go_upto_region 9 with fail
            go_still_tail 14,(by kernel_rfl)
            go_wp2_with (first
             |(go_at_call 51;(with_reducible refine aj.o.mono ?_);go_must (rintro e w7 ⟨rfl,g⟩;replace g:Below O.heap.size O w7:=⟨g.os,g.tape,g.output,g.size,g.block⟩;have G:=yo (V.o.later g);have r0:=G.o.cell (k:=0) rfl;have r1:=G.o.cell (k:=1) rfl;have F:=yo (t.o.trans (g.mono (by have:=t.o.size;exact this)));clear g))
             |(go_at_call 53;(with_reducible refine(J.o _).mono ?_);go_must (rintro e w8 ⟨rfl,rfl⟩)))
            go_roundw
            case rel=>exact⟨i+1,_,by omega,by go_num,rfl,T.o,L.o,(show Below _ _ _ by first|exact F.o|exact zag F.o _)⟩
            case measure=>simp[intOf];omega
       ·by_cases hkD:H=zaU
        ·have e:H=[73,68,65,84]:=hkD
         subst e;clear hkD hkP hkH;have J:=yo (zez [73,68,65,84]);rw[show zcc [73,68,65,84]=true from rfl] at J;have al:=yo (fun q=>zmm B i c (some ⟨b,o,none⟩) (l.take i) (O.drewN q) a4.o a8 (by omega));obtain⟨tv,ap⟩:∃tv,zlm (p.take i)=tv:=⟨_,rfl⟩;have am:(!(l.take i).any isQ ||zhI (l.take i))=tv:=by
          rw[<-ap,zo5 ax.o];have:=zhi (fun k=>k==zaU) ax.o;rw[show(l.take i).any isQ=(p.take i).any isD from this];rfl
         rw[am] at al;have aD:=yo ap;have aO:(i:Int)<=(c:Int):=(by omega);have aA:i<=c:=(by omega);clear ap am;cases tv with
         |false =>
          have s:Hid (zaP p r i ([73,68,65,84],z)=true):=(show _=_ by exact(zja p r i z).trans (by rw[aD.o];rfl));clear C u D;go_upto_region 9 with fail;go_quiet (fail);go_wp2_with (go_at_call 52;(with_reducible refine(al.o _).mono ?_);go_must (rintro e w7 ⟨rfl,g⟩;replace g:Below O.heap.size O w7:=⟨g.os,g.tape,g.output,g.size,g.block⟩;have G:=yo (V.o.later g);have r0:=G.o.cell (k:=0) rfl;have r1:=G.o.cell (k:=1) rfl;have F:=yo (t.o.trans (g.mono (by have:=t.o.size;exact this)));clear g));go_ret;unfold zch;refine⟨false,rfl,⟨fun h=>(by cases h),fun h=>?_⟩,(by first|exact F.o|exact zag F.o _)⟩;have h2:=(N.o.1 h).1 i _ I.o;rw[s.o] at h2;cases h2
         |true =>
          by_cases hL:n=i+1
          ·have S:=yo (show i+1=p.length by have h1:=P.o;have h2:=M.o;omega)
           have E:((i:Int)==(m:Int))=true:=(by rw[beq_iff_eq];have:=P.o;omega);clear hL;have s:Hid (zaP p r i ([73,68,65,84],z)=true):=(show _=_ by exact(zja p r i z).trans (by rw[decide_eq_true S.o,Bool.or_true]));clear C u D;go_upto_region 9 with fail;go_quiet (fail);go_wp2_with (go_at_call 52;(with_reducible refine(al.o _).mono ?_);go_must (rintro e w7 ⟨rfl,g⟩;replace g:Below O.heap.size O w7:=⟨g.os,g.tape,g.output,g.size,g.block⟩;have G:=yo (V.o.later g);have r0:=G.o.cell (k:=0) rfl;have r1:=G.o.cell (k:=1) rfl;have F:=yo (t.o.trans (g.mono (by have:=t.o.size;exact this)));clear g));go_ret;unfold zch;refine⟨false,rfl,⟨fun h=>(by cases h),fun h=>?_⟩,(by first|exact F.o|exact zag F.o _)⟩;have h2:=(N.o.1 h).1 i _ I.o;rw[s.o] at h2;cases h2
          ·have S:=yo (show ¬i+1=p.length by have h1:=P.o;have h2:=M.o;omega)
           have E:((i:Int)==(m:Int))=false:=(by rw[beq_eq_false_iff_ne];have:=P.o;omega);have s:Hid (zaP p r i ([73,68,65,84],z)=false):=(show _=_ by exact(zja p r i z).trans (by rw[decide_eq_false S.o,aD.o];rfl));have L:Hid (∀j x,j<i+1->p[j]?=some x->zaP p r j x=false):=(show ∀j x,_ from fun j x hj hx=>by
            by_cases e:j=i
            ·subst e
             have U:=I.o.symm.trans hx;injection U with U;rw[<-U];exact s.o
            ·exact u.o j x (by omega) hx)
           have T:Hid ((p.take (i+1)).any isD=true):=(show _=_ by rw[D.o,C.o];exact Bool.or_true _);clear u s C D;cases Z <;>
            ·go_upto_region 9 with fail
             go_quiet (fail);go_wp2_with (first
              |(go_at_call 52;(with_reducible refine(al.o _).mono ?_);go_must (rintro e w7 ⟨rfl,g⟩;replace g:Below O.heap.size O w7:=⟨g.os,g.tape,g.output,g.size,g.block⟩;have G:=yo (V.o.later g);have r0:=G.o.cell (k:=0) rfl;have r1:=G.o.cell (k:=1) rfl;have F:=yo (t.o.trans (g.mono (by have:=t.o.size;exact this)));clear g))
              |(go_at_call 53;(with_reducible refine(J.o _).mono ?_);go_must (rintro e w8 ⟨rfl,rfl⟩)))
             go_roundw
             case rel=>exact⟨i+1,_,by omega,by go_num,rfl,T.o,L.o,(show Below _ _ _ by first|exact F.o|exact zag F.o _)⟩
             case measure=>simp[intOf];omega
        ·by_cases hkE:H=zcl
         ·have e:H=[73,69,78,68]:=hkE
          subst e;clear hkE hkD hkP hkH;have J:=yo (zez [73,69,78,68]);rw[show zcc [73,69,78,68]=true from rfl] at J;by_cases hL:n=i+1
          ·have S:=yo (show i+1=p.length by have h1:=P.o;have h2:=M.o;omega)
           have E:((i:Int)==(m:Int))=true:=(by rw[beq_iff_eq];have:=P.o;omega);clear hL;by_cases hd:0<z.length
           ·have aR:(0:Int)<(z.length:Int):=by omega
            have s:Hid (zaP p r i ([73,69,78,68],z)=true):=(show _=_ by exact(zjb p r i z).trans (by rw[decide_eq_true hd,Bool.or_true]));clear C u D;go_upto_region 9 with fail;go_quiet (fail);go_wp2_with fail;go_ret;unfold zch;refine⟨false,rfl,⟨fun h=>(by cases h),fun h=>?_⟩,(by first|exact t.o|exact zag t.o _)⟩;have h2:=(N.o.1 h).1 i _ I.o;rw[s.o] at h2;cases h2
           ·have aR:¬(0:Int)<(z.length:Int):=by omega
            have s:Hid (zaP p r i ([73,69,78,68],z)=false):=(show _=_ by exact(zjb p r i z).trans (by rw[decide_eq_true S.o,decide_eq_false hd];rfl));have L:Hid (∀j x,j<i+1->p[j]?=some x->zaP p r j x=false):=(show ∀j x,_ from fun j x hj hx=>by
             by_cases e:j=i
             ·subst e
              have U:=I.o.symm.trans hx;injection U with U;rw[<-U];exact s.o
             ·exact u.o j x (by omega) hx)
            have T:Hid ((p.take (i+1)).any isD=Z):=(show _=_ by rw[D.o,C.o];exact Bool.or_false _);clear u s C D;cases Z <;>
             ·go_upto_region 9 with fail
              go_quiet (fail);go_wp2_with (go_at_call 53;(with_reducible refine(J.o _).mono ?_);go_must (rintro e w8 ⟨rfl,rfl⟩));go_roundw
              case rel=>exact⟨i+1,_,by omega,by go_num,rfl,T.o,L.o,(show Below _ _ _ by first|exact t.o|exact zag t.o _)⟩
              case measure=>simp[intOf];omega
          ·have S:=yo (show ¬i+1=p.length by have h1:=P.o;have h2:=M.o;omega)
           have E:((i:Int)==(m:Int))=false:=(by rw[beq_eq_false_iff_ne];have:=P.o;omega);have s:Hid (zaP p r i ([73,69,78,68],z)=true):=(show _=_ by exact(zjb p r i z).trans (by rw[decide_eq_false S.o];rfl));clear C u D;go_upto_region 9 with fail;go_quiet (fail);go_wp2_with fail;go_ret;unfold zch;refine⟨false,rfl,⟨fun h=>(by cases h),fun h=>?_⟩,(by first|exact t.o|exact zag t.o _)⟩;have h2:=(N.o.1 h).1 i _ I.o;rw[s.o] at h2;cases h2
         ·have k1:(H==[73,72,68,82])=false:=by rw[beq_eq_false_iff_ne];exact hkH
          have k2:(H==[80,76,84,69])=false:=(by rw[beq_eq_false_iff_ne];exact hkP);have k3:(H==[73,68,65,84])=false:=(by rw[beq_eq_false_iff_ne];exact hkD);have k4:(H==[73,69,78,68])=false:=(by rw[beq_eq_false_iff_ne];exact hkE);clear hkE hkD hkP hkH;have J:=yo (zez H);rw[show zcc H=false by unfold zcc zaX zbB zaU zcl;rw[k1,k2,k3,k4];rfl] at J;have Y:=zrq p r i H z k1 k2 k3 k4;have bc:0<(⟨H.toArray⟩:ByteArray).size:=(by show 0<H.toArray.size;rw[List.size_toArray];omega);have a7:H.getD 0 0=(⟨H.toArray⟩:ByteArray)[0]:=(by rw[lgd,lge (by omega)];show H[0]=H.toArray[0];rw[List.getElem_toArray]);rw[a7] at Y;replace Y:=yo Y;clear a7;have bd:Hid ((false ||isD (H,z))=false):=(show _=_ from k3);have aP:Hid (isD (H,z)=false):=(show _=_ from k3);by_cases hL:n=i+1
          ·have S:=yo (show i+1=p.length by have h1:=P.o;have h2:=M.o;omega)
           have E:((i:Int)==(m:Int))=true:=(by rw[beq_iff_eq];have:=P.o;omega);clear hL;have s:Hid (zaP p r i (H,z)=true):=(show _=_ by exact Y.o.trans (by rw[decide_eq_true S.o];rfl));clear C u D;go_upto_region 9 with fail;go_quiet (fail);go_wp2_with fail;go_ret;unfold zch;refine⟨false,rfl,⟨fun h=>(by cases h),fun h=>?_⟩,(by first|exact t.o|exact zag t.o _)⟩;have h2:=(N.o.1 h).1 i _ I.o;rw[s.o] at h2;cases h2
          ·have S:=yo (show ¬i+1=p.length by have h1:=P.o;have h2:=M.o;omega)
           have E:((i:Int)==(m:Int))=false:=(by rw[beq_eq_false_iff_ne];have:=P.o;omega);by_cases hch:((⟨H.toArray⟩:ByteArray)[0]).toNat<=90
           ·have aC:(((⟨H.toArray⟩:ByteArray)[0]).toNat:Int)<=90:=by omega
            have s:Hid (zaP p r i (H,z)=true):=(show _=_ by exact Y.o.trans (by rw[decide_eq_true hch,Bool.or_true]));clear C u D;go_upto_region 9 with fail;go_quiet (fail);go_wp2_with (go_at_call 53;(with_reducible refine(J.o _).mono ?_);go_must (rintro e w8 ⟨rfl,rfl⟩));go_ret;unfold zch;refine⟨false,rfl,⟨fun h=>(by cases h),fun h=>?_⟩,(by first|exact t.o|exact zag t.o _)⟩;have h2:=(N.o.1 h).1 i _ I.o;rw[s.o] at h2;cases h2
           ·have aC:¬(((⟨H.toArray⟩:ByteArray)[0]).toNat:Int)<=90:=by omega
            have s:Hid (zaP p r i (H,z)=false):=(show _=_ by exact Y.o.trans (by rw[decide_eq_false S.o,decide_eq_false hch];rfl));have L:Hid (∀j x,j<i+1->p[j]?=some x->zaP p r j x=false):=(show ∀j x,_ from fun j x hj hx=>by
             by_cases e:j=i
             ·subst e
              have U:=I.o.symm.trans hx;injection U with U;rw[<-U];exact s.o
             ·exact u.o j x (by omega) hx)
            have T:Hid ((p.take (i+1)).any isD=Z):=(show _=_ by rw[D.o,C.o];rw[aP.o];exact Bool.or_false _);clear u s C D;cases Z <;>
             ·go_upto_region 9 with fail
              go_quiet (fail);go_wp2_with (go_at_call 53;(with_reducible refine(J.o _).mono ?_);go_must (rintro e w8 ⟨rfl,rfl⟩));go_roundw
              case rel=>exact⟨i+1,_,by omega,by go_num,rfl,T.o,L.o,(show Below _ _ _ by first|exact t.o|exact zag t.o _)⟩
              case measure=>simp[intOf];omega
     ·obtain rfl:i=n:=by omega
      have az:¬(i:Int)<(i:Int):=(by omega);have aw:=C.o;rw[List.take_of_length_le (Nat.le_of_eq M.o)] at aw;have aU:=yo aw;clear aw;go_wp2_with fail;go_ret;unfold zch;refine⟨Z,rfl,?_,HB.o⟩;rw[N.o,aU.o];exact⟨fun e=>⟨fun j x hx=>u.o j x (by have h1:=(List.getElem?_eq_some_iff.1 hx).1;have h2:=M.o;omega) hx,e⟩,fun e=>e.2⟩
   ·have aF:((d0.length:Int) != 13)=true:=by rw[bne_iff_ne];omega
    have af:Hid (¬zaV p):=(show ¬_ from fun hs=>hd0 (by have:=hs.2.2.1;rw[X] at this;exact this));clear h hp hl ak hg ag ah ae ai ab R X W;go_enter Tryz.func26,Tryz.ntmps26;go_wp2_with fail;go_ret;unfold zch;exact⟨_,rfl,⟨fun h=>(by cases h),fun h=>absurd h af.o⟩,Below.refl _ _⟩
  ·have bg:(k0 != [73,72,68,82])=true:=by rw[bne_iff_ne];exact W
   have bi:(k0==[73,72,68,82])=false:=(by rw[beq_eq_false_iff_ne];exact W);have af:Hid (¬zaV p):=(show ¬_ from fun hs=>W (by have:=hs.2.1;rw[R] at this;exact this));clear h hp hl ak hg ag ah ae ai ab R X W;go_enter Tryz.func26,Tryz.ntmps26;go_wp2_with fail;go_ret;unfold zch;exact⟨_,rfl,⟨fun h=>(by cases h),fun h=>absurd h af.o⟩,Below.refl _ _⟩
end Go.Proofs.YtebbdifhiihfkaaGreatDoor

