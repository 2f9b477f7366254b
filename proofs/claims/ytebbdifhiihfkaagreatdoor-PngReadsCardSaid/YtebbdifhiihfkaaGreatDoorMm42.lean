/- XQj XQk -/
import Derived.Test.YtebbdifhiihfkaaGreatDoorMm41
import Derived.Test.YtebbdifhiihfkaaGreatDoorMm08
import Derived.Test.YtebbdifhiihfkaaGreatDoorMm37
import Derived.Deep.CutBlock
namespace Go.Proofs.YtebbdifhiihfkaaGreatDoor
set_option linter.all false
set_option maxRecDepth 100000
set_option maxHeartbeats 12800000
open Go.RowKit
def zfj(x:CK):Bool:=x.1==zbB
theorem ztp(l:List CK):l.any zlb=(l.any zfj ||l.any isD):=by
 induction l with
 |nil=>rfl
 |cons x l ih =>
  rw[List.any_cons,List.any_cons,List.any_cons,ih];show((x.1==zbB) ||(x.1==zaU) ||_)=((x.1==zbB) ||_ ||((x.1==zaU) ||_));cases x.1==zbB<;>cases x.1==zaU<;>cases l.any zfj<;>rfl
theorem zpj(l:List CK)(x:CK):zeO (l++[x])=isD x:=by
 unfold zeO;rw[List.getLast?_append];rfl
/-- What the document has counted before chunk i. -/
structure OI(p:List CK)(i a la pl:Nat):Prop where
 nb:∀j x,j<i->p[j]?=some x->zaP p (zcq p) j x=false
 ia:0<a↔(p.take i).any isD=true
 il:0<a->(la+1=i↔zeO (p.take i)=true)
 lt:0<a->la<i
 ip:0<pl↔(p.take i).any zfj=true
theorem OI.step{p:List CK}{i a z pl:Nat}{x:CK}(h:OI p i a z pl)(hx:p[i]?=some x)(A:zaP p (zcq p) i x=false):
  (isD x=true->OI p (i+1) (a+1) i pl)/\(isD x=false->zfj x=true->OI p (i+1) a z (pl+1))/\(isD x=false->zfj x=false->OI p (i+1) a z pl):=by
 have nb:∀j y,j<i+1->p[j]?=some y->zaP p (zcq p) j y=false:=fun j y B hy=>by
  by_cases e:j=i
  ·subst e
   have s:=hx.symm.trans hy;injection s with s;rw[<-s];exact A
  ·exact h.nb j y (by omega) hy
 have u:=zfi isD hx;have hp:=zfi zfj hx;have t:p.take (i+1)=p.take i++[x]:=by rw[List.take_add_one,hx];rfl
 have q:zeO (p.take (i+1))=isD x:=by rw[t,zpj]
 refine⟨fun e=>⟨nb,?_,fun _=>?_,fun _=>Nat.lt_succ_self i,?_⟩,fun e r=>⟨nb,?_,fun g=>?_,fun g=>Nat.lt_succ_of_lt (h.lt g),?_⟩,fun e r=>⟨nb,?_,fun g=>?_,fun g=>Nat.lt_succ_of_lt (h.lt g),?_⟩⟩
 ·rw[u,e,Bool.or_true];exact⟨fun _=>rfl,fun _=>Nat.succ_pos _⟩
 ·rw[q,e];exact⟨fun _=>rfl,fun _=>rfl⟩
 ·have:zfj x=false:=by
   unfold isD at e;unfold zfj;rw[beq_iff_eq.1 e];rfl
  rw[hp,this,Bool.or_false];exact h.ip
 ·rw[u,e,Bool.or_false];exact h.ia
 ·rw[q,e]
  have:=h.lt g;exact⟨fun o=>by omega,fun o=>by cases o⟩
 ·rw[hp,r,Bool.or_true];exact⟨fun _=>rfl,fun _=>Nat.succ_pos _⟩
 ·rw[u,e,Bool.or_false];exact h.ia
 ·rw[q,e]
  have:=h.lt g;exact⟨fun o=>by omega,fun o=>by cases o⟩
 ·rw[hp,r,Bool.or_false];exact h.ip
theorem OI.start{p:List CK}(r:1<p.length)(h0:(p.getD 0 ([],[])).1=zaX):OI p 1 0 0 0:=by
 obtain⟨x,hx⟩:∃x,p[0]?=some x:=⟨_,lge (by omega)⟩;have g:x.1=zaX:=by rw[lgd,hx] at h0;exact h0
 obtain⟨k,d⟩:=x;obtain rfl:k=zaX:=g;have o:zaP p (zcq p) 0 (zaX,d)=false:=by
  rw[zhj,decide_eq_false (by omega),decide_eq_false (by omega)];rfl
 have h1:OI p 0 0 0 0:=⟨fun j y q=>absurd q (Nat.not_lt_zero _),by simp,fun h=>absurd h (Nat.lt_irrefl 0),fun h=>absurd h (Nat.lt_irrefl 0),by simp⟩;exact(h1.step hx o).2.2 rfl rfl
theorem zh1{p:List CK}(h:zaV p):2<p.length/\(p.getD (p.length-1) ([],[])).1=zcl:=by
 obtain⟨h1,h2,-,h4,t⟩:=h;obtain⟨x,hx⟩:∃x,p[p.length-1]?=some x:=⟨_,lge (by omega)⟩;have r:=h4 _ _ hx;have he:x.1=zcl:=by
  unfold zaP at r;simp only[Bool.or_eq_false_iff] at r;have q:=r.1.1.2;rw[show decide (p.length-1+1=p.length)=true from decide_eq_true (by omega)] at q;exact beq_iff_eq.1 (by cases h7:x.1==zcl with|true=>rfl|false=>rw[h7] at q;cases q)
 refine⟨?_,by rw[lgd,hx];exact he⟩;refine Decidable.byContradiction fun A=>?_
 obtain⟨y,hy,z⟩:=List.any_eq_true.1 t;obtain⟨j,s,e⟩:=List.getElem_of_mem hy;have g:y.1=zaU:=beq_iff_eq.1 z;have u:j=0\/j=p.length-1:=by omega
 rcases u with rfl|rfl
 ·rw[lgd,lge s,e] at h2
  have o:y.1=zaX:=h2;rw[g] at o;cases o
 ·rw[lge s,e] at hx
  injection hx with hx;rw[<-hx,g] at he;cases he
def OrPost(p:List CK)(w:World)(e:Ending)(w':World):Prop:=∃v b,e=.returned (.tuple #[v,.bool b])/\(b=true↔zaV p)/\(b=true->ownB w' w.heap.size v (za4 p))/\Below w.heap.size w w'
theorem OrPost.bad{p:List CK}{w w':World}{e:Ending}(he:e=.returned (.tuple #[.slice none 0 0,.bool false]))(g:¬zaV p)(o:Below w.heap.size w w'):OrPost p w e w' :=
 ⟨_,false,he,⟨fun h=>(by cases h),fun h=>absurd h g⟩,fun h=>(by cases h),o⟩
theorem zgy(B n c:Nat)(A:Option Addr)(l:List CQ)(p:List CK)(w:World)(h:RdQ w B A n l)(hp:CR w none l p)(hB:B<=w.heap.size)(hc:n<=c)(hn:n<=1000000)(hg:∀x∈p,zhy x)(ar:zbo p<=1000000):
  Calls Tryz.prog 34 #[.slice A n c] w fun e w'=>OrPost p w e w':=by
 have hl:=h.len;have ak:l.length=p.length:=hp.1;by_cases hn3:n<3
 ·have aJ:(n:Int)<3:=by omega
  have u:Hid (¬zaV p):=(show ¬_ from fun hs=>by have:=(zh1 hs).1;omega);clear h hp hl ak;go_enter Tryz.func34,Tryz.ntmps34;go_upto_region 1 with fail;go_wp2_with fail;go_ret2;exact OrPost.bad rfl u.o (by first|exact Below.refl _ _|exact zag (Below.refl _ _) _)
 have aJ:¬(n:Int)<3:=by omega
 obtain⟨b,o,x0,rfl,hb,ai,e1,e2⟩:=h.one (k:=0) (by omega);obtain⟨k0,d0,A0,c0,X,ah,am,V⟩:=hp.one (i:=0) (by omega);have bh:x0=(k0,A0,d0.length,c0):=by have:=ai.o.symm.trans ah;injection this
 subst bh;simp only[Nat.zero_mul,Nat.add_zero] at e1 e2;(try dsimp only at e1 e2);have C:p.getD 0 ([],[])=(k0,d0):=by rw[lgd,X];rfl
 have S:zap p=d0:=by unfold zap;rw[C]
 have bw:(0:Int)<(n:Int):=by omega
 by_cases R:k0=zaX
 case neg =>
  have b1:(k0==[73,72,68,82])=false:=bef R;have u:Hid (¬zaV p):=(show ¬_ from fun hs=>by have h2:=hs.2.1;rw[C] at h2;exact R h2);clear ai X ah am V hp C S R hl ak h;go_enter Tryz.func34,Tryz.ntmps34;go_upto_region 1 with fail;go_wp2_with fail;go_ret2;exact OrPost.bad rfl u.o (by first|exact Below.refl _ _|exact zag (Below.refl _ _) _)
 have aQ:k0=[73,72,68,82]:=R;subst aQ;by_cases hd0:d0.length=13
 case neg =>
  have au:((d0.length:Int) != 13)=true:=by rw[bne_iff_ne];omega
  have u:Hid (¬zaV p):=(show ¬_ from fun hs=>by have h2:=hs.2.2.1;rw[S] at h2;exact hd0 h2);clear ai X ah am V hp C S R hd0 hl ak h;go_enter Tryz.func34,Tryz.ntmps34;go_upto_region 1 with fail;go_wp2_with fail;go_ret2;exact OrPost.bad rfl u.o (by first|exact Below.refl _ _|exact zag (Below.refl _ _) _)
 have au:((d0.length:Int) != 13)=false:=by rw[hd0];rfl
 have b7:=yo hd0;rw[hd0] at V e2 au;have aZ:=yo V;obtain⟨m,hm⟩:∃m,n-1=m:=⟨_,rfl⟩;have bF:IntKind.i64.wrap ((n:Int)-1)=(m:Int):=by rw[show(n:Int)-1=(m:Int) by omega];exact zaa _ (by omega)
 have aX:m<n:=by omega
 have bz:(m:Int)<(n:Int):=by omega
 have bG:(0:Int)<=(m:Int):=by omega
 obtain⟨b',o',xe,U,-,ay,f1,f2⟩:=h.one (k:=m) aX;injection U with U;injection U with q1 q2;subst q1 q2;obtain⟨ke,de,Ae,ce,ao,aw,-,-⟩:=hp.one (i:=m) (by omega);have bi:xe=(ke,Ae,de.length,ce):=by have:=ay.o.symm.trans aw;injection this
 subst bi;dsimp only at f1 f2;by_cases al:ke=zcl
 case neg =>
  have b2:(ke==[73,69,78,68])=false:=bef al;have u:Hid (¬zaV p):=(show ¬_ from fun hs=>by
   have h2:=(zh1 hs).2;rw[lgd,show p.length-1=m by omega,ao] at h2;exact al h2)
  clear ai X ah am V hp C S R hd0 hl ak h ao aw ay al hm;go_enter Tryz.func34,Tryz.ntmps34;go_upto_region 1 with fail;go_wp2_with fail;go_ret2;exact OrPost.bad rfl u.o (by first|exact Below.refl _ _|exact zag (Below.refl _ _) _)
 have aK:ke=[73,69,78,68]:=al;subst aK;have bf:=yo ao;have bk:=yo h;have bq:=yo hp;have HG:=yo hg;have aU:=yo ar;have HM:=yo hm;have aF:zcq p=d0.getD 9 0:=by unfold zcq;rw[S]
 have W:Hid (p.length=n):=(show _=_ by omega);have aR:=yo (OI.start (p:=p) (by omega) (by rw[C];rfl));have a4:Hid (zaV p↔((∀i x,p[i]?=some x->zaP p (zcq p) i x=false)/\p.any isD=true)):=(show _↔_ by
  unfold zaV;rw[C,S];exact⟨fun h=>⟨h.2.2.2.1,h.2.2.2.2⟩,fun h=>⟨by omega,rfl,hd0,h.1,h.2⟩⟩)
 have aB:Hid (za4 (p.take 1)=[]):=(show _=_ by
  rw[List.take_add_one,X,List.take_zero];rfl)
 obtain⟨b0,o0,t,rfl,bC,aH,e9⟩:=aZ.o.byte (k:=9) (by omega);have af:Hid (zcq p=t):=(show _=_ by rw[aF,lgd,aH.o];rfl);have bD:(9:Int)<13:=by decide
 have bs:Hid (t.toNat=0->t=0):=(show _->_ from fun e=>UInt8.toNat.inj e);have bl:Hid (t.toNat=4->t=4):=(show _->_ from fun e=>UInt8.toNat.inj e);clear ai X ah am V hp hg ar S C R hd0 hl ak h ao aw ay al hm aH aF;go_enter Tryz.func34,Tryz.ntmps34;go_upto_region 1 with fail;go_wp2_with fail;have aA:Hid (Below w.heap.size w w):=(show Below _ _ _ by first|exact Below.refl _ _|exact zag (Below.refl _ _) _);clear e1 e2 e9 f1 f2;go_loopw [9,4,5,6,7] (fun vi vo va vl vp wr=>∃(i a la pl:Nat),1<=i/\i<=n/\vi=.int .i64 (i:Int)/\va=.int .i64 (a:Int)/\vl=.int .i64 (la:Int)/\vp=.int .i64 (pl:Int)/\Hid (OI p i a la pl)/\Hid (a<=i)/\Hid (pl<=i)/\Hid (ownB wr w.heap.size vo (za4 (p.take i)))/\Hid (Below w.heap.size w wr)) (fun vi _ _ _ _ _=>n-(intOf vi).toNat)
 case atStart=>exact⟨1,0,0,0,by omega,by omega,rfl,rfl,rfl,rfl,aR,Nat.zero_le _,Nat.zero_le _,(show ownB _ _ _ _ by rw[aB.o];exact ownB.nil_ _ _),aA.o⟩
 case round =>
  clear aR aB aA;obtain⟨i,a,la,pl,b9,hi,rfl,rfl,rfl,rfl,F,Y,J,Z,G⟩:=hrel;have hz:=G.o.size;obtain⟨Ao,co,rfl,bu,aG,-⟩:=Z.o.form;obtain⟨DL,an⟩:∃L,(za4 (p.take i)).length=L:=⟨_,rfl⟩;rw[an] at Z aG;simp only[an];have b6:=yo an;clear an bu;by_cases hlt:i<n
  ·have aC:(i:Int)<(n:Int):=by omega
   have HR:Hid (RdQ wr B (some ⟨b,o,none⟩) n l):=(show RdQ _ _ _ _ _ from bk.o.blw (G.o.mono hB));obtain⟨b',o',x,U,-,HX,e1,e2⟩:=HR.o.one hlt;injection U with U;injection U with q1 q2;subst q1 q2;obtain⟨H,I,xA,xc,O,aL,bb,aI⟩:=(bq.o.later G.o).one (i:=i) (by have:=W.o;omega);have hx:x=(H,xA,I.length,xc):=(by have:=HX.o.symm.trans aL;injection this);subst hx;have aT:=HG.o _ (List.mem_of_getElem? O);have ba:I.length<=1000000:=(by have h1:=ze6 (List.mem_of_getElem? O);have h2:=aU.o;have h3:I.length<=zbo p:=h1;omega);have b4:=yo O;have a6:=yo aI;have E:=yo (fun hb=>F.o.step O hb);have a5:=yo (zj0 O);have bx:(za4 (p.take (i+1))).length<=1000000:=by
    have h1:=zfa (p.take (i+1));have h2:=ze9 (p.take (i+1)) (p.drop (i+1));rw[List.take_append_drop] at h2;have:=aU.o;omega
   have bB:H.length=4:=aT.1;have aE:Hid (i+1=p.length->H=zcl):=(show _->_ from fun e=>by
    have h1:=bf.o;rw[show m=i by have:=HM.o;have:=W.o;omega,O] at h1;injection h1 with h1;injection h1)
   have u:Hid (zaP p (zcq p) i (H,I)=true->¬zaV p):=(show _->¬_ from fun hb hs=>by
    have h2:=(a4.o.1 hs).1 i _ O;rw[hb] at h2;cases h2)
   dsimp only at e1 e2;have b8:IntKind.i64.wrap ((i:Int)+1)=(i:Int)+1:=by rw[show(i:Int)+1=((i+1:Nat):Int) by omega];exact zaa _ (by omega)
   obtain⟨j,hj⟩:∃j,i-1=j:=⟨_,rfl⟩;have bE:IntKind.i64.wrap ((i:Int)-1)=(j:Int):=by rw[show(i:Int)-1=(j:Int) by omega];exact zaa _ (by omega)
   have HJ:Hid (i=j+1):=(show _=_ by omega);have bH:IntKind.i64.wrap ((a:Int)+1)=(a:Int)+1:=by have:=Y.o;rw[show(a:Int)+1=((a+1:Nat):Int) by omega];exact zaa _ (by omega)
   have b5:IntKind.i64.wrap ((pl:Int)+1)=(pl:Int)+1:=by have:=J.o;rw[show(pl:Int)+1=((pl+1:Nat):Int) by omega];exact zaa _ (by omega)
   obtain⟨D,a8⟩:∃k,I.length=k:=⟨_,rfl⟩;rw[a8] at e2 a6 ba bb;have ac:=yo a8;clear HX O aL aT HR aI hj a8;by_cases hkH:H=zaX
   ·have e:H=[73,72,68,82]:=hkH
    subst e;clear hkH;have q:=yo (u.o ((zhj p _ i I).trans (by rw[decide_eq_true (show 0<i by omega)];rfl)));go_wp2_with fail;go_ret2;exact OrPost.bad rfl q.o G.o
   have k1:(H==[73,72,68,82])=false:=bef hkH;by_cases hkD:H=zaU
   ·have e:H=[73,68,65,84]:=hkD
    subst e;clear hkD;have ap:Hid (¬i+1=p.length):=(show ¬_ from fun e=>by have:=aE.o e;cases this);have g:=zja p (zcq p) i I;rw[decide_eq_false ap.o,Bool.or_false] at g;unfold zlm at g;by_cases ha:0<a
    ·have a7:(0:Int)<(a:Int):=by omega
     rw[F.o.ia.1 ha] at g;by_cases hla:la=j
     ·have aS:((la:Int) != (j:Int))=false:=by rw[hla];exact bne_self_eq_false _
      rw[(F.o.il ha).1 (by have:=HJ.o;omega)] at g;have M:=yo g;have s:=a5.o;rw[if_pos (show(([73,68,65,84],I):CK).1=zaU from rfl)] at s;have P:(za4 (p.take i)).length+D<=1000000:=by
       have h1:=congrArg List.length s;rw[lla] at h1;dsimp only at h1;have h2:I.length=D:=ac.o;omega
      have ab:=yo s;have N:=yo ((E.o M.o).1 rfl);have ax:=yo P;clear g s P;go_wp2_with (at_builtin;(refine zat rfl (.tmp 84) (.tmp 89) rfl w.heap.size (.slice Ao DL co) (za4 (p.take i)) rfl Z.o _ D xc xA I rfl a6.o (nlt ax.o (by decide)) hz ?_;intro v7 w7 aa az ag ae;have av:=yo aa;have a1:=yo (G.o.trans ag);clear aa az ag ae));go_roundw
      case rel=>exact⟨i+1,a+1,i,pl,by omega,by omega,by go_num,by go_num,rfl,rfl,N,(show a+1<=i+1 by have:=Y.o;omega),(show pl<=i+1 by have:=J.o;omega),(show ownB _ _ _ _ by rw[ab.o];exact av.o),a1⟩
      case measure=>simp[intOf];omega
     ·have aS:((la:Int) != (j:Int))=true:=by rw[bne_iff_ne];omega
      have a9:zeO (p.take i)=false:=by
       cases h9:zeO (p.take i) with
       |false=>rfl
       |true=>exact absurd ((F.o.il ha).2 h9) (by have:=HJ.o;omega)
      rw[a9] at g;have q:=yo (u.o g);clear g a9;go_wp2_with fail;go_ret2;exact OrPost.bad rfl q.o G.o
    ·have a7:¬(0:Int)<(a:Int):=by omega
     have aN:(p.take i).any isD=false:=by
      cases h9:(p.take i).any isD with
      |false=>rfl
      |true=>exact absurd (F.o.ia.2 h9) ha
     rw[aN] at g;have M:=yo g;clear aN;have s:=a5.o;rw[if_pos (show(([73,68,65,84],I):CK).1=zaU from rfl)] at s;have P:(za4 (p.take i)).length+D<=1000000:=by
      have h1:=congrArg List.length s;rw[lla] at h1;dsimp only at h1;have h2:I.length=D:=ac.o;omega
     have ab:=yo s;have N:=yo ((E.o M.o).1 rfl);have ax:=yo P;clear g s P;go_wp2_with (at_builtin;(refine zat rfl (.tmp 84) (.tmp 89) rfl w.heap.size (.slice Ao DL co) (za4 (p.take i)) rfl Z.o _ D xc xA I rfl a6.o (nlt ax.o (by decide)) hz ?_;intro v7 w7 aa az ag ae;have av:=yo aa;have a1:=yo (G.o.trans ag);clear aa az ag ae));go_roundw
     case rel=>exact⟨i+1,a+1,i,pl,by omega,by omega,by go_num,by go_num,rfl,rfl,N,(show a+1<=i+1 by have:=Y.o;omega),(show pl<=i+1 by have:=J.o;omega),(show ownB _ _ _ _ by rw[ab.o];exact av.o),a1⟩
     case measure=>simp[intOf];omega
   have k2:(H==[73,68,65,84])=false:=bef hkD;have a3:Hid (isD (H,I)=false):=(show _=_ from bef hkD);have a2:=a5.o;rw[if_neg (show ¬(H,I).1=zaU from hkD),List.append_nil] at a2;have s:=yo a2;have aj:Hid (ownB wr w.heap.size (.slice Ao DL co) (za4 (p.take (i+1)))):=(show ownB _ _ _ _ by rw[s.o];exact Z.o);clear a2;by_cases hkE:H=zcl
   ·have e:H=[73,69,78,68]:=hkE
    subst e;clear hkE;have g:=zjb p (zcq p) i I;by_cases hL:i+1=p.length
    ·have bj:¬(i:Int)<(m:Int):=by have:=HM.o;have:=W.o;omega
     by_cases h0:0<D
     ·have bc:(0:Int)<(D:Int):=by omega
      have q:=yo (u.o (g.trans (by rw[ac.o,decide_eq_true h0,Bool.or_true])));clear g hL;go_wp2_with fail;go_ret2;exact OrPost.bad rfl q.o G.o
     ·have bc:¬(0:Int)<(D:Int):=by omega
      have M:=yo (g.trans (by rw[ac.o,decide_eq_false h0,decide_eq_true hL];try rfl));clear g hL;have N:=yo ((E.o M.o).2.2 a3.o (by first|exact aV.o|rfl));go_wp2_with fail;go_roundw
      case rel=>exact⟨i+1,a,la,pl,by omega,by omega,by go_num,rfl,rfl,rfl,N,(show a<=i+1 by have:=Y.o;omega),(show pl<=i+1 by have:=J.o;omega),aj,G⟩
      case measure=>simp[intOf];omega
    ·have bj:(i:Int)<(m:Int):=by have:=HM.o;have:=W.o;omega
     have q:=yo (u.o (g.trans (by rw[decide_eq_false hL];try rfl)));clear g hL;go_wp2_with fail;go_ret2;exact OrPost.bad rfl q.o G.o
   have k3:(H==[73,69,78,68])=false:=bef hkE;have ap:Hid (¬i+1=p.length):=(show ¬_ from fun e=>hkE (aE.o e));by_cases hkP:H=zbB
   ·have e:H=[80,76,84,69]:=hkP
    subst e;clear hkH hkD hkE hkP;have g:=zi9 p (zcq p) i I;rw[decide_eq_false ap.o,Bool.or_false,zn4,ztp,ac.o,af.o] at g;obtain⟨r,hr⟩:∃r,D % 3=r:=⟨_,rfl⟩;have b3:(D:Int).tmod 3=(r:Int):=(by rw[<-hr];rfl);have bv:(D:Int) % 3=(r:Int):=(by omega);have bA:IntKind.i64.wrap (r:Int)=(r:Int):=zaa _ (by omega);have aM:=yo hr;clear hr;have aD:¬(1:Int)<(pl:Int)+1\/(1:Int)<(pl:Int)+1:=(by omega);have T:Hid (0<a\/0<pl\/¬(0<D/\D % 3=0/\D<=768/\t≠0/\t≠4)->¬zaV p):=(show _->¬_ from fun h9=>u.o (by
     rw[af.o];refine g.trans ?_;rcases h9 with h9|h9|h9
     ·rw[F.o.ia.1 h9,Bool.or_true];rfl
     ·rw[F.o.ip.1 h9];rfl
     ·rw[decide_eq_false h9,Bool.and_false];rfl))
    have bd:Hid (¬0<a->¬0<pl->(0<D/\D % 3=0/\D<=768/\t≠0/\t≠4)->zaP p (zcq p) i ([80,76,84,69],I)=false):=(show _->_ from fun h7 h8 h9=>by
     rw[af.o];refine g.trans ?_;have e1:(p.take i).any isD=false:=by
      cases e:(p.take i).any isD with
      |false=>rfl
      |true=>exact absurd (F.o.ia.2 e) h7
     have e2:(p.take i).any zfj=false:=by
      cases e:(p.take i).any zfj with
      |false=>rfl
      |true=>exact absurd (F.o.ip.2 e) h8
     rw[e1,e2,decide_eq_true h9];rfl)
    clear g aD;by_cases t1:0<a
    ·have a0:(0:Int)<(a:Int):=by omega
     have q:=yo (T.o (.inl t1));go_wp2_with fail;go_ret2;exact OrPost.bad rfl q.o G.o
    have a0:¬(0:Int)<(a:Int):=(by omega);by_cases t2:0<pl
    ·have bp:(1:Int)<(pl:Int)+1:=by omega
     have q:=yo (T.o (.inr (.inl t2)));go_wp2_with fail;go_ret2;exact OrPost.bad rfl q.o G.o
    have bp:¬(1:Int)<(pl:Int)+1:=(by omega);by_cases t3:D=0
    ·have bt:((D:Int)==0)=true:=by rw[t3];rfl
     have q:=yo (T.o (.inr (.inr (fun h9=>by have:=h9.1;omega))));clear t3;go_wp2_with fail;go_ret2;exact OrPost.bad rfl q.o G.o
    have bt:((D:Int)==0)=false:=(by rw[beq_eq_false_iff_ne];omega);by_cases t4:r=0
    case neg =>
     have bm:((r:Int) != 0)=true:=(by rw[bne_iff_ne];omega);have q:=yo (T.o (.inr (.inr (fun h9=>by have:=h9.2.1;have:=aM.o;omega))));go_wp2_with fail;go_ret2;exact OrPost.bad rfl q.o G.o
    have bm:((r:Int) != 0)=false:=(by rw[t4];rfl);by_cases t5:768<D
    ·have bn:(768:Int)<(D:Int):=by omega
     have q:=yo (T.o (.inr (.inr (fun h9=>by have:=h9.2.2.1;omega))));clear t4;go_wp2_with fail;go_ret2;exact OrPost.bad rfl q.o G.o
    have bn:¬(768:Int)<(D:Int):=(by omega);by_cases t6:t.toNat=0
    ·have bg:((t.toNat:Int)==0)=true:=by rw[t6];rfl
     have q:=yo (T.o (.inr (.inr (fun h9=>h9.2.2.2.1 (bs.o t6)))));clear t4 t6;go_wp2_with fail;go_ret2;exact OrPost.bad rfl q.o G.o
    have bg:((t.toNat:Int)==0)=false:=(by rw[beq_eq_false_iff_ne];omega);by_cases t7:t.toNat=4
    ·have bo:((t.toNat:Int)==4)=true:=by rw[t7];rfl
     have q:=yo (T.o (.inr (.inr (fun h9=>h9.2.2.2.2 (bl.o t7)))));clear t4 t7;go_wp2_with fail;go_ret2;exact OrPost.bad rfl q.o G.o
    have bo:((t.toNat:Int)==4)=false:=(by rw[beq_eq_false_iff_ne];omega);have M:=yo (bd.o t1 t2 ⟨by omega,by have:=aM.o;omega,by omega,fun e=>t6 (by rw[e];rfl),fun e=>t7 (by rw[e];rfl)⟩);clear t4;have N:=yo ((E.o M.o).2.1 a3.o rfl);go_wp2_with fail;go_roundw
    case rel=>exact⟨i+1,a,la,pl+1,by omega,by omega,by go_num,rfl,rfl,by go_num,N,(show a<=i+1 by have:=Y.o;omega),(show pl+1<=i+1 by have:=J.o;omega),aj,G⟩
    case measure=>simp[intOf];omega
   have k4:(H==[80,76,84,69])=false:=bef hkP;have aV:Hid (zfj (H,I)=false):=(show _=_ from bef hkP);have aY:=zrr H (by omega) wr;have g:=zrq p (zcq p) i H I k1 k4 k2 k3;rw[decide_eq_false ap.o,Bool.false_or] at g;obtain⟨z,aP⟩:∃z,(H.getD 0 0).toNat=z:=⟨_,rfl⟩;rw[aP] at aY g;clear aP hkH hkD hkE hkP;by_cases t1:z<=90
   ·have a0:(z:Int)<=90:=by omega
    have q:=yo (u.o (g.trans (decide_eq_true t1)));clear g;go_wp2_with fail;go_ret2;exact OrPost.bad rfl q.o G.o
   ·have a0:¬(z:Int)<=90:=by omega
    have M:=yo (g.trans (decide_eq_false t1));clear g;have N:=yo ((E.o M.o).2.2 a3.o (by first|exact aV.o|rfl));go_wp2_with fail;go_roundw
    case rel=>exact⟨i+1,a,la,pl,by omega,by omega,by go_num,rfl,rfl,rfl,N,(show a<=i+1 by have:=Y.o;omega),(show pl<=i+1 by have:=J.o;omega),aj,G⟩
    case measure=>simp[intOf];omega
  ·obtain rfl:i=n:=by omega
   have aC:¬(i:Int)<(i:Int):=(by omega);have aW:Hid (p.take i=p):=(show _=_ from List.take_of_length_le (Nat.le_of_eq W.o));have aq:=F.o.ia;rw[aW.o] at aq;have aO:Hid (0<a↔zaV p):=(show _↔_ from⟨fun h=>a4.o.2 ⟨fun j x hx=>F.o.nb j x (by have h1:=(List.getElem?_eq_some_iff.1 hx).1;have:=W.o;omega) hx,aq.1 h⟩,fun h=>aq.2 (a4.o.1 h).2⟩);have br:Hid (ownB wr w.heap.size (.slice Ao DL co) (za4 p)):=(show ownB _ _ _ _ by have:=Z.o;rwa[aW.o] at this);clear aq;by_cases ha:0<a
   ·have a7:(0:Int)<(a:Int):=by omega
    go_wp2_with fail;go_ret2;exact⟨_,true,rfl,⟨fun _=>aO.o.1 ha,fun _=>rfl⟩,fun _=>br.o,G.o⟩
   ·have a7:¬(0:Int)<(a:Int):=by omega
    go_wp2_with fail;go_ret2;exact⟨_,false,rfl,⟨fun h=>(by cases h),fun h=>absurd (aO.o.2 h) ha⟩,fun h=>(by cases h),G.o⟩
end Go.Proofs.YtebbdifhiihfkaaGreatDoor

/- png: the document's look at a head. -/
namespace Go.Proofs.YtebbdifhiihfkaaGreatDoor
set_option linter.all false
set_option maxRecDepth 100000
set_option maxHeartbeats 6400000
open Go.RowKit
theorem zrD(c:UInt8):(c.toNat=0/\chV c=1)\/(c.toNat=4/\chV c=2)\/(c.toNat=2/\chV c=3)\/(c.toNat=6/\chV c=4)\/(c.toNat≠0/\c.toNat≠4/\c.toNat≠2/\c.toNat≠6/\chV c=0):=by
 have key:∀d:UInt8,c=d↔c.toNat=d.toNat:=fun d=>⟨fun e=>by rw[e],fun e=>UInt8.toNat.inj e⟩
 unfold chV;by_cases h0:c=0
 ·rw[if_pos h0];exact .inl ⟨by rw[h0];rfl,rfl⟩
 by_cases h4:c=4
 ·rw[if_neg h0,if_pos h4];exact .inr (.inl ⟨by rw[h4];rfl,rfl⟩)
 by_cases h2:c=2
 ·rw[if_neg h0,if_neg h4,if_pos h2];exact .inr (.inr (.inl ⟨by rw[h2];rfl,rfl⟩))
 by_cases h6:c=6
 ·rw[if_neg h0,if_neg h4,if_neg h2,if_pos h6];exact .inr (.inr (.inr (.inl ⟨by rw[h6];rfl,rfl⟩)))
 ·rw[if_neg h0,if_neg h4,if_neg h2,if_neg h6]
  exact .inr (.inr (.inr (.inr ⟨fun e=>h0 ((key 0).2 e),fun e=>h4 ((key 4).2 e),fun e=>h2 ((key 2).2 e),fun e=>h6 ((key 6).2 e),rfl⟩)))
theorem zh2(B c:Nat)(A:Option Addr)(q:List UInt8)(w:World)(h:RdB w B A 13 q)(hB:B<=w.heap.size)(hc:13<=c):
  Calls Tryz.prog 35 #[.slice A 13 c] w fun e w'=>zeA q w e w':=by
 have hl:=h.len;have eW:nxL q 0=hdW q:=rfl;have eH:nxL q 4=hdH q:=rfl;have aD:hdW q<4294967296:=zdg _;have aB:hdH q<4294967296:=zdg _;have aj:=yo (fun w1 (h:RdB w1 B A 13 q)=>zdd B 13 c A q 0 4 w1 h (by omega));have ac:=yo (fun w1 (h:RdB w1 B A 13 q)=>zdd B 13 c A q 4 4 w1 h (by omega));rw[show rdR beV q 0 4=((hdW q:Int),0) from zdu (k:=0) (by omega)] at aj;rw[show rdR beV q 4 4=((hdH q:Int),0) from zdu (k:=4) (by omega)] at ac;obtain⟨b,o,rfl,hb,z⟩:=h.at_ (by decide);have x8:=z 8 (by omega);have x9:=z 9 (by omega);have af:=z 10 (by omega);have ab:=z 11 (by omega);have ai:=z 12 (by omega);rw[show q[8]=q.getD 8 0 by rw[lgd,lge (by omega)];rfl] at x8;rw[show q[9]=q.getD 9 0 by rw[lgd,lge (by omega)];rfl] at x9;rw[show q[10]=q.getD 10 0 by rw[lgd,lge (by omega)];rfl] at af;rw[show q[11]=q.getD 11 0 by rw[lgd,lge (by omega)];rfl] at ab;rw[show q[12]=q.getD 12 0 by rw[lgd,lge (by omega)];rfl] at ai;have a5:(q.getD 8 0).toNat<256:=(q.getD 8 0).toNat_lt;have aF:hdC q<=4:=zmn _;have ae:=zrD (q.getD 9 0);rw[show chV (q.getD 9 0)=hdC q from rfl] at ae;rw[show(q.getD 8 0).toNat=hdD q from rfl] at x8 a5;have u:Hid (zdE q↔((q.getD 10 0).toNat≠0\/(q.getD 11 0).toNat≠0\/1<(q.getD 12 0).toNat\/hdC q=0\/(hdD q≠8/\hdD q≠16)\/hdW q=0\/hdH q=0)):=(show _↔_ by
  have key:∀x:UInt8,x≠0↔x.toNat≠0:=fun x=>⟨fun h e=>h (UInt8.toNat.inj e),fun h e=>h (by rw[e];rfl)⟩
  unfold zdE;rw[key,key])
 have av:Hid (zfK q=((q.getD 12 0).toNat==1)):=(show _=_ by
  unfold zfK;rw[Bool.eq_iff_iff,beq_iff_eq,beq_iff_eq];exact⟨fun e=>by rw[e];rfl,fun e=>UInt8.toNat.inj e⟩)
 have aa:=yo (fun w=>zgM ⟨(hdW q:Int),(hdH q:Int),(hdC q:Int),(hdD q:Int)⟩ w);dsimp only[Sh.v] at aa;unfold zeA;obtain⟨E,hE⟩:∃E,zc1 q=E:=⟨_,rfl⟩;obtain⟨L,hL⟩:∃L,zfK q=L:=⟨_,rfl⟩;have N:Hid ((if zdE q then(4:Int) else if(zjL q).may=true then 0 else 10)=E):=hE;rw[show zjL q=⟨(hdW q:Int),(hdH q:Int),(hdC q:Int),(hdD q:Int)⟩ from rfl] at N;rw[hE,hL];have HL:Hid (((q.getD 12 0).toNat==1)=L):=(show _=_ from av.o.symm.trans hL);have aw:=yo h;clear hE hL av h z hl eW eH;generalize hdW q=W at *;generalize hdH q=H at *;generalize hdC q=C at *;generalize hdD q=D at *;generalize (q.getD 9 0).toNat=c9 at *;generalize (q.getD 10 0).toNat=y10 at *;generalize (q.getD 11 0).toNat=y11 at *;generalize (q.getD 12 0).toNat=y12 at *;have aE:IntKind.i64.wrap (D:Int)=(D:Int):=zaa _ (by omega);obtain⟨w1,R⟩:∃w1,w.alloc (.cells #[.int .i64 0,.int .i64 0,.int .i64 0,.int .i64 0] 37)=w1:=⟨_,rfl⟩;obtain⟨bk,U⟩:∃b,w.heap.size=b:=⟨_,rfl⟩;have ar:Hid (Arr w1 bk [.int .i64 0,.int .i64 0,.int .i64 0,.int .i64 0]):=(show Arr _ _ _ by rw[<-R,<-U];exact Arr.new w [.int .i64 0,.int .i64 0,.int .i64 0,.int .i64 0] _);have T:Hid (RdB w1 B (some ⟨b,o,none⟩) 13 q):=(show RdB _ _ _ _ _ by rw[<-R];exact Rd.alloc aw.o hB _);have O:Hid (Below bk w w1):=(show Below _ _ _ by rw[<-R,<-U];exact(Below.refl w.heap.size w).alloc (nlr _) _);have aG:bk+1<=w1.heap.size:=by rw[<-R,wsa,U];exact nlr _
 have ao:=yo (aj.o w1 T.o);have ay:=yo (ac.o w1 T.o);have v8:=zan O.o (show b<bk by omega) x8;have v9:=zan O.o (show b<bk by omega) x9;have ap:=zan O.o (show b<bk by omega) af;have a0:=zan O.o (show b<bk by omega) ab;have ax:=zan O.o (show b<bk by omega) ai;have aA:((y12:Int)==1)=L:=by
  rw[<-HL.o,Bool.eq_iff_iff,beq_iff_eq,beq_iff_eq];omega
 clear aj ac x8 x9 af ab ai;rw[U] at hB;have M:b<w1.heap.size:=by omega
 go_enter Tryz.func35,Tryz.ntmps35;(try simp only[R,U]);go_upto_block 0 with(first
  |(go_at_call 23;(with_reducible refine ao.o.mono ?_);go_must (rintro e w2 ⟨rfl,rfl⟩))
  |(go_at_call 23;(with_reducible refine ay.o.mono ?_);go_must (rintro e w2 ⟨rfl,rfl⟩)))
 clear R ao ay;go_cut [9] (fun v wx=>v=.int .i64 (C:Int)/\wx=w1)
 case first =>
  rcases ae with⟨rfl,rfl⟩ | ⟨rfl,rfl⟩ | ⟨rfl,rfl⟩ | ⟨rfl,rfl⟩ | ⟨t0,t4,t2,t6,rfl⟩
  ·go_wp2_with fail
   go_meet
   case rel=>exact⟨rfl,rfl⟩
  ·go_wp2_with fail
   go_meet
   case rel=>exact⟨rfl,rfl⟩
  ·go_wp2_with fail
   go_meet
   case rel=>exact⟨rfl,rfl⟩
  ·go_wp2_with fail
   go_meet
   case rel=>exact⟨rfl,rfl⟩
  ·have u0:((c9:Int)==0)=false:=by rw[beq_eq_false_iff_ne];omega
   have u4:((c9:Int)==4)=false:=(by rw[beq_eq_false_iff_ne];omega);have u2:((c9:Int)==2)=false:=(by rw[beq_eq_false_iff_ne];omega);have u6:((c9:Int)==6)=false:=(by rw[beq_eq_false_iff_ne];omega);clear t0 t4 t2 t6;go_wp2_with fail;go_meet
   case rel=>exact⟨rfl,rfl⟩
 case rest =>
 obtain⟨rfl,rfl⟩:=hcut;obtain⟨w2,P⟩:∃w2,wc.alloc (.cells #[.int .i64 (W:Int),.int .i64 (H:Int),.int .i64 (C:Int),.int .i64 (D:Int)] 37)=w2:=⟨_,rfl⟩;obtain⟨g,hg⟩:∃g,wc.heap.size=g:=⟨_,rfl⟩;have ah:Hid (Arr w2 g [.int .i64 (W:Int),.int .i64 (H:Int),.int .i64 (C:Int),.int .i64 (D:Int)]):=(show Arr _ _ _ by rw[<-P,<-hg];exact Arr.new wc [.int .i64 (W:Int),.int .i64 (H:Int),.int .i64 (C:Int),.int .i64 (D:Int)] _);have Y:Hid (Arr w2 bk [.int .i64 0,.int .i64 0,.int .i64 0,.int .i64 0]):=(show Arr _ _ _ by rw[<-P];exact ar.o.alloc _);have G:Hid (Below bk w w2):=(show Below _ _ _ by rw[<-P];exact O.o.alloc (by omega) _);have S:Below wc.heap.size wc w2:=by rw[<-P];exact(Below.refl _ _).alloc (nlr _) _
 have u8:=zan S M v8;have u10:=zan S M ap;have u11:=zan S M a0;have u12:=zan S M ax;obtain⟨s0,s1,s2,s3⟩:=ah.o.c4;obtain⟨b0,b1,b2,b3⟩:=Y.o.c4;obtain⟨z0,z1,z2,z3⟩:=Y.o.q4;have a9:¬g=bk:=by omega
 have a7:¬bk=g:=by omega
 have Z:b<w2.heap.size:=Nat.lt_of_lt_of_le M S.size;have az:bk<=w2.heap.size:=by have:=G.o.size;omega
 clear S ap a0 ax O ar T aw ae;go_upto_region 14 with fail;(try simp only[P,hg]);clear P hg v8 v9;by_cases tC:C=0
 ·have a6:((C:Int)==0)=true:=by rw[tC];rfl
  have s:E=4:=by rw[<-N.o,if_pos (u.o.2 (by omega))]
  have t:=yo s;clear N u s tC;go_wp2_with fail;refine bodyPost_ret (v:=.tuple #[.agg #[.int .i64 (W:Int),.int .i64 (H:Int),.int .i64 (C:Int),.int .i64 (D:Int)],.bool false,.int .i64 4]) ?_ rfl ?_
  ·unfold results
   go_simp
  ·unfold ShP
   rw[t.o];exact⟨false,rfl,fun h=>absurd h (by decide),(((G.o.setCell (p:=⟨bk,0,none⟩) (nlr _) _).setCell (p:=⟨bk,1,none⟩) (nlr _) _).setCell (p:=⟨bk,2,none⟩) (nlr _) _).setCell (p:=⟨bk,3,none⟩) (nlr _) _⟩
 have a6:((C:Int)==0)=false:=by rw[beq_eq_false_iff_ne];omega
 by_cases t10:0<y10
 ·have an:(0:Int)<(y10:Int):=by omega
  have s:E=4:=by rw[<-N.o,if_pos (u.o.2 (by omega))]
  have t:=yo s;clear N u s t10;go_wp2_with fail;refine bodyPost_ret (v:=.tuple #[.agg #[.int .i64 (W:Int),.int .i64 (H:Int),.int .i64 (C:Int),.int .i64 (D:Int)],.bool false,.int .i64 4]) ?_ rfl ?_
  ·unfold results
   go_simp
  ·unfold ShP
   rw[t.o];exact⟨false,rfl,fun h=>absurd h (by decide),(((G.o.setCell (p:=⟨bk,0,none⟩) (nlr _) _).setCell (p:=⟨bk,1,none⟩) (nlr _) _).setCell (p:=⟨bk,2,none⟩) (nlr _) _).setCell (p:=⟨bk,3,none⟩) (nlr _) _⟩
 have an:¬(0:Int)<(y10:Int):=by omega
 by_cases t11:0<y11
 ·have al:(0:Int)<(y11:Int):=by omega
  have s:E=4:=by rw[<-N.o,if_pos (u.o.2 (by omega))]
  have t:=yo s;clear N u s t11;go_wp2_with fail;refine bodyPost_ret (v:=.tuple #[.agg #[.int .i64 (W:Int),.int .i64 (H:Int),.int .i64 (C:Int),.int .i64 (D:Int)],.bool false,.int .i64 4]) ?_ rfl ?_
  ·unfold results
   go_simp
  ·unfold ShP
   rw[t.o];exact⟨false,rfl,fun h=>absurd h (by decide),(((G.o.setCell (p:=⟨bk,0,none⟩) (nlr _) _).setCell (p:=⟨bk,1,none⟩) (nlr _) _).setCell (p:=⟨bk,2,none⟩) (nlr _) _).setCell (p:=⟨bk,3,none⟩) (nlr _) _⟩
 have al:¬(0:Int)<(y11:Int):=by omega
 by_cases t12:1<y12
 ·have au:(1:Int)<(y12:Int):=by omega
  have s:E=4:=by rw[<-N.o,if_pos (u.o.2 (by omega))]
  have t:=yo s;clear N u s t12;go_wp2_with fail;refine bodyPost_ret (v:=.tuple #[.agg #[.int .i64 (W:Int),.int .i64 (H:Int),.int .i64 (C:Int),.int .i64 (D:Int)],.bool false,.int .i64 4]) ?_ rfl ?_
  ·unfold results
   go_simp
  ·unfold ShP
   rw[t.o];exact⟨false,rfl,fun h=>absurd h (by decide),(((G.o.setCell (p:=⟨bk,0,none⟩) (nlr _) _).setCell (p:=⟨bk,1,none⟩) (nlr _) _).setCell (p:=⟨bk,2,none⟩) (nlr _) _).setCell (p:=⟨bk,3,none⟩) (nlr _) _⟩
 have au:¬(1:Int)<(y12:Int):=by omega
 by_cases t8:D=8\/D=16
 case neg =>
  have aC:((D:Int) != 8)=true:=by rw[bne_iff_ne];omega
  have a8:((D:Int) != 16)=true:=by rw[bne_iff_ne];omega
  have s:E=4:=by rw[<-N.o,if_pos (u.o.2 (by omega))]
  have t:=yo s;clear N u s t8;go_wp2_with fail;refine bodyPost_ret (v:=.tuple #[.agg #[.int .i64 (W:Int),.int .i64 (H:Int),.int .i64 (C:Int),.int .i64 (D:Int)],.bool false,.int .i64 4]) ?_ rfl ?_
  ·unfold results
   go_simp
  ·unfold ShP
   rw[t.o];exact⟨false,rfl,fun h=>absurd h (by decide),(((G.o.setCell (p:=⟨bk,0,none⟩) (nlr _) _).setCell (p:=⟨bk,1,none⟩) (nlr _) _).setCell (p:=⟨bk,2,none⟩) (nlr _) _).setCell (p:=⟨bk,3,none⟩) (nlr _) _⟩
 have X:(((D:Int) != 8)=false)\/(((D:Int) != 8)=true/\((D:Int) != 16)=false):=by
  rcases t8 with e|e
  ·exact .inl (by rw[e];rfl)
  ·exact .inr ⟨by rw[e];rfl,by rw[e];rfl⟩
 go_cut [79] (fun v wx=>v=.bool (decide (W=0\/H=0))/\wx=w2)
 case first =>
  by_cases tW:W=0
  ·have a2:((W:Int)==0)=true:=by rw[tW];rfl
   have J:Hid (decide (W=0\/H=0)=true):=decide_eq_true (.inl tW);clear tW;rcases X with d8 | ⟨d8,d16⟩
   ·go_wp2_with fail
    go_meet
    case rel=>exact⟨by rw[J.o],rfl⟩
   ·go_wp2_with fail
    go_meet
    case rel=>exact⟨by rw[J.o],rfl⟩
  ·have a2:((W:Int)==0)=false:=by rw[beq_eq_false_iff_ne];omega
   by_cases tH:H=0
   ·have a4:((H:Int)==0)=true:=by rw[tH];rfl
    have J:Hid (decide (W=0\/H=0)=true):=decide_eq_true (.inr tH);clear tH;rcases X with d8 | ⟨d8,d16⟩
    ·go_wp2_with fail
     go_meet
     case rel=>exact⟨by rw[J.o],rfl⟩
    ·go_wp2_with fail
     go_meet
     case rel=>exact⟨by rw[J.o],rfl⟩
   ·have a4:((H:Int)==0)=false:=by rw[beq_eq_false_iff_ne];omega
    have J:Hid (decide (W=0\/H=0)=false):=decide_eq_false (by omega);rcases X with d8 | ⟨d8,d16⟩
    ·go_wp2_with fail
     go_meet
     case rel=>exact⟨by rw[J.o],rfl⟩
    ·go_wp2_with fail
     go_meet
     case rel=>exact⟨by rw[J.o],rfl⟩
 case rest =>
 obtain⟨rfl,rfl⟩:=hcut;by_cases tWH:W=0\/H=0
 ·have V:decide (W=0\/H=0)=true:=decide_eq_true tWH
  rw[V];have s:E=4:=by rw[<-N.o,if_pos (u.o.2 (by omega))]
  have t:=yo s;clear N u s tWH V;go_wp2_with fail;refine bodyPost_ret (v:=.tuple #[.agg #[.int .i64 (W:Int),.int .i64 (H:Int),.int .i64 (C:Int),.int .i64 (D:Int)],.bool false,.int .i64 4]) ?_ rfl ?_
  ·unfold results
   go_simp
  ·unfold ShP
   rw[t.o];exact⟨false,rfl,fun h=>absurd h (by decide),(((G.o.setCell (p:=⟨bk,0,none⟩) (nlr _) _).setCell (p:=⟨bk,1,none⟩) (nlr _) _).setCell (p:=⟨bk,2,none⟩) (nlr _) _).setCell (p:=⟨bk,3,none⟩) (nlr _) _⟩
 have V:decide (W=0\/H=0)=false:=decide_eq_false tWH;rw[V];have am:¬zdE q:=fun a3=>by have:=u.o.1 a3;omega
 rw[if_neg am] at N;obtain⟨my,aq⟩:∃m,Sh.may ⟨(W:Int),(H:Int),(C:Int),(D:Int)⟩=m:=⟨_,rfl⟩;rw[aq] at N aa;clear aq am u tWH V t8 tC X t10 t11 t12;cases my with
 |false =>
  have t:Hid (E=10):=(show _=_ from N.o.symm);go_wp2_with (go_at_call 61;(with_reducible refine(aa.o _).mono ?_);go_must (rintro e w5 ⟨rfl,F⟩;have I:=yo (ah.o.later F);have r:=yo (Y.o.later F);have ag:=yo (G.o.trans (F.mono az));have ak:=zan F Z u12;have r0:=I.o.cell (k:=0) rfl;have q0:=r.o.cell (k:=0) rfl;have x0:=r.o.frozen 0;have r1:=I.o.cell (k:=1) rfl;have q1:=r.o.cell (k:=1) rfl;have x1:=r.o.frozen 1;have r2:=I.o.cell (k:=2) rfl;have q2:=r.o.cell (k:=2) rfl;have x2:=r.o.frozen 2;have r3:=I.o.cell (k:=3) rfl;have q3:=r.o.cell (k:=3) rfl;have x3:=r.o.frozen 3;have a1:b<w5.heap.size:=Nat.lt_of_lt_of_le Z F.size;clear s0 s1 s2 s3 b0 b1 b2 b3 z0 z1 z2 z3 F));refine bodyPost_ret (v:=.tuple #[.agg #[.int .i64 (W:Int),.int .i64 (H:Int),.int .i64 (C:Int),.int .i64 (D:Int)],.bool false,.int .i64 10]) ?_ rfl ?_
  ·unfold results
   go_simp
  ·unfold ShP
   rw[t.o];exact⟨false,rfl,fun h=>absurd h (by decide),(((ag.o.setCell (p:=⟨bk,0,none⟩) (nlr _) _).setCell (p:=⟨bk,1,none⟩) (nlr _) _).setCell (p:=⟨bk,2,none⟩) (nlr _) _).setCell (p:=⟨bk,3,none⟩) (nlr _) _⟩
 |true =>
  have t:Hid (E=0):=(show _=_ from N.o.symm);go_upto_region 18 with(go_at_call 61;(with_reducible refine(aa.o _).mono ?_);go_must (rintro e w5 ⟨rfl,F⟩;have I:=yo (ah.o.later F);have r:=yo (Y.o.later F);have ag:=yo (G.o.trans (F.mono az));have ak:=zan F Z u12;have r0:=I.o.cell (k:=0) rfl;have q0:=r.o.cell (k:=0) rfl;have x0:=r.o.frozen 0;have r1:=I.o.cell (k:=1) rfl;have q1:=r.o.cell (k:=1) rfl;have x1:=r.o.frozen 1;have r2:=I.o.cell (k:=2) rfl;have q2:=r.o.cell (k:=2) rfl;have x2:=r.o.frozen 2;have r3:=I.o.cell (k:=3) rfl;have q3:=r.o.cell (k:=3) rfl;have x3:=r.o.frozen 3;have a1:b<w5.heap.size:=Nat.lt_of_lt_of_le Z F.size;clear s0 s1 s2 s3 b0 b1 b2 b3 z0 z1 z2 z3 F))
  go_region_law (fail)
  all_goals
   go_wp2_with fail;refine bodyPost_ret (v:=.tuple #[.agg #[.int .i64 (W:Int),.int .i64 (H:Int),.int .i64 (C:Int),.int .i64 (D:Int)],.bool L,.int .i64 0]) ?_ rfl ?_
   ·unfold results
    go_simp
   ·unfold ShP
    rw[t.o];exact⟨L,rfl,fun _=>rfl,Below.drew ((((ag.o.setCell (p:=⟨bk,0,none⟩) (nlr _) _).setCell (p:=⟨bk,1,none⟩) (nlr _) _).setCell (p:=⟨bk,2,none⟩) (nlr _) _).setCell (p:=⟨bk,3,none⟩) (nlr _) _)⟩
end Go.Proofs.YtebbdifhiihfkaaGreatDoor

