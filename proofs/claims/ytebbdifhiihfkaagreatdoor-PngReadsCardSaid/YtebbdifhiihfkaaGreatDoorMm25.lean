/- XRd5 XRd7 XRdQ XRd8 XRd6 -/
import Derived.Test.YtebbdifhiihfkaaGreatDoorMm24
import Derived.Test.YtebbdifhiihfkaaGreatDoorMm09
import Derived.Test.YtebbdifhiihfkaaGreatDoorMm14
import Derived.Test.YtebbdifhiihfkaaGreatDoorMm20
namespace Go.Proofs.YtebbdifhiihfkaaGreatDoor
set_option linter.all false
set_option maxRecDepth 100000
set_option maxHeartbeats 3200000
open Go.RowKit
/-- A decoder, or none, as a pointer. -/
def DV(w:World)(r g:Nat)(vo:Value)(dv:Value)(dl:Option (List Int)):Prop:=(dv=.pointer none/\dl=none)\/∃gd ds,dv=.pointer (some ⟨gd,0,none⟩)/\dl=some ds/\DK w r g vo gd ds/\OkL ds
theorem DV.fr{w w':World}{r g:Nat}{vo o q:Value}{dl:Option (List Int)}(h:DV w r g vo q dl)(B:RFr w w' r g vo o):DV w' r g o q dl:=by
 rcases h with h | ⟨u,z,h1,h2,t,h4⟩
 ·exact .inl h
 ·exact .inr ⟨u,z,h1,h2,t.fr B,h4⟩
section
variable (r g n c : Nat) (A : Option Addr) (bs : List UInt8) (most : Int) (vo : Value) (s : RS) (w : World)
theorem zq6(q:Nat)(dv:Value)(dl:Option (List Int))(h:FS w r g A n c bs most vo s)(hd:DV w r g vo dv dl)(hm:most<=1000000)(hq:257<=q)(aJ:q<=300)(ho:(s.o.length:Int)<=most):
  Calls Tryz.prog 159 #[.pointer (some ⟨r,0,none⟩),.int .i64 (q:Int),dv] w fun e w'=>e=.returned (.tuple #[])/\∃vo',FS w' r g A n c bs most vo' (za3 bs most s q dl)/\RFr w w' r g vo vo':=by
 have H:=yo h;by_cases h286:286<=q
 ·have aB:(286:Int)<=(q:Int):=by omega
  have S:=yo (za8 r g n c A bs most vo s w 4 h);have M:Hid (za3 bs most s q dl=s.fail 4):=(show _=_ from if_pos h286);rw[M.o];clear h hd M;go_enter Tryz.func159,Tryz.ntmps159;go_wp2_with (go_at_call 105;(with_reducible refine S.o.mono ?_);go_must (rintro e w4 ⟨rfl,ax,am⟩;have aE:=yo ax;have a6:=yo am;clear ax am));(try simp only[Exit.inBlock,Exit.then])
  first|(refine bodyPost_ret (results_none rfl _ _ _) rfl ?_)|(refine bodyPost_end (results_none rfl _ _ _) rfl ?_)
  exact⟨rfl,vo,aE.o,a6.o⟩
 ·have aB:¬(286:Int)<=(q:Int):=by omega
  obtain⟨k,hk⟩:∃k,q-257=k:=⟨_,rfl⟩;have af:k<=28:=by omega
  obtain⟨q1,a9⟩:∃q1,q-256=q1:=⟨_,rfl⟩;have aQ:(q:Int)-256=(q1:Int):=by omega
  have aL:(q1:Int)-1=(k:Int):=by omega
  have V:=yo (fun w=>zgN k af w);have aF:=zfb af;have M:Hid (za3 bs most s q dl=if(zac bs s (lenOf k).2).2.e=0 then cpB bs most (zac bs s (lenOf k).2).2 ((lenOf k).1+(zac bs s (lenOf k).2).1) dl else(zac bs s (lenOf k).2).2):=(show _=_ by rw[<-hk];exact if_neg h286);have O:=yo (zbf r g n c A bs most vo s w (lenOf k).2 ((lenOf k).2:Int) rfl h (by omega));have ar:=zbx bs s (m:=(lenOf k).2) (by omega);have aK:(zac bs s (lenOf k).2).1<32:=Nat.lt_of_lt_of_le ar (Nat.pow_le_pow_right (n:=2) (by decide) aF.2);have Y:=zaI bs s (lenOf k).2;clear h ar hk a9;generalize (zac bs s (lenOf k).2).1=v1 at *;generalize (zac bs s (lenOf k).2).2=s1 at *;generalize (lenOf k).1=a1 at *;generalize (lenOf k).2=m1 at *;generalize za3 bs most s q dl=R at *;have a0:(a1:Int)+(v1:Int)=((a1+v1:Nat):Int):=by omega
  obtain⟨N,hN⟩:∃N,a1+v1=N:=⟨_,rfl⟩;rw[hN] at a0 M;have aM:N<=300:=by omega
  by_cases he1:s1.e=0
  ·rw[if_pos he1] at M
   have d1:(s1.e==0)=true:=(by rw[he1];rfl);have a4:(s1.e != 0)=false:=(by rw[he1];rfl);rcases hd with⟨rfl,rfl⟩ | ⟨gd,L,rfl,rfl,an,aq⟩
   ·have S:=yo (fun w' (h:FS w' r g A n c bs most vo s1)=>za8 r g n c A bs most vo s1 w' 1 h)
    have z:Hid (R=s1.fail 1):=(show _=_ from M.o);rw[z.o];clear M z;go_enter Tryz.func159,Tryz.ntmps159;go_wp2_with (first
     |(go_at_call 170;(with_reducible refine(V.o _).mono ?_);go_must (rintro e I ⟨rfl,rfl⟩))
     |(go_at_call 101;(with_reducible refine O.o.mono ?_);go_must (rintro e I ⟨rfl,o,t⟩;have ac:=(FR.arr o).cell (k:=3) rfl;have ak:=yo (S.o I o);have C:=yo t;clear o t))
     |(go_at_call 105;(with_reducible refine ak.o.mono ?_);go_must (rintro e w6 ⟨rfl,u,B⟩;have aA:=yo u;have J:=yo (C.o.trans B);clear u B)))
    (try simp only[Exit.inBlock,Exit.then])
    first|(refine bodyPost_ret (results_none rfl _ _ _) rfl ?_)|(refine bodyPost_end (results_none rfl _ _ _) rfl ?_)
    exact⟨rfl,vo,aA.o,J.o⟩
   ·have ab:=yo aq
    have ag:=yo an;have ae:=yo (fun w' (h:FS w' r g A n c bs most vo s1) (hd:DK w' r g vo gd L)=>zhe r g n c A bs most vo s1 w' gd L h hd ab.o.1 ab.o.2.1 ab.o.2.2);have z:Hid (R=if(zad bs L s1).2.e=0/\30<=(zad bs L s1).1 then(zad bs L s1).2.fail 4 else za1 most (zac bs (zad bs L s1).2 (zae (zad bs L s1).1.toNat).2).2 N ((zae (zad bs L s1).1.toNat).1+(zac bs (zad bs L s1).2 (zae (zad bs L s1).1.toNat).2).1)):=(show _=_ from M.o);obtain⟨p,ap,a5,av⟩:=zfz bs L s1;have aG:p<=300:=(by have:=ab.o.2.2;omega);have P:=zbQ bs L s1;rw[ap] at ae z;have a7:((p:Int)).toNat=p:=rfl;rw[a7] at z;generalize (zad bs L s1).2=s2 at *;clear M aq an ap a5;by_cases hbad:s2.e=0/\(30:Int)<=(p:Int)
    ·rw[if_pos hbad] at z
     have d2:(s2.e==0)=true:=(by rw[hbad.1];rfl);have d3:=hbad.2;have S:=yo (fun w' (h:FS w' r g A n c bs most vo s2)=>za8 r g n c A bs most vo s2 w' 4 h);rw[z.o];clear z;go_enter Tryz.func159,Tryz.ntmps159;go_wp2_with (first
      |(go_at_call 170;(with_reducible refine(V.o _).mono ?_);go_must (rintro e I ⟨rfl,rfl⟩))
      |(go_at_call 101;(with_reducible refine O.o.mono ?_);go_must (rintro e I ⟨rfl,o,t⟩;have ac:=(FR.arr o).cell (k:=3) rfl;have G:=yo (ae.o I o (ag.o.fr t));have C:=yo t;clear o t))
      |(go_at_call 158;(with_reducible refine G.o.mono ?_);go_must (rintro e w6 ⟨rfl,u,B⟩;have a3:=(FR.arr u).cell (k:=3) rfl;have au:=yo (S.o w6 u);have J:=yo (C.o.trans B);clear u B))
      |(go_at_call 105;(with_reducible refine au.o.mono ?_);go_must (rintro e w7 ⟨rfl,E,F⟩;have a8:=yo E;have Z:=yo (J.o.trans F);clear E F)))
     (try simp only[Exit.inBlock,Exit.then])
     first|(refine bodyPost_ret (results_none rfl _ _ _) rfl ?_)|(refine bodyPost_end (results_none rfl _ _ _) rfl ?_)
     exact⟨rfl,vo,a8.o,Z.o⟩
    ·rw[if_neg hbad] at z
     have T:p<=29:=by
      by_cases h0:s2.e=0
      ·have:¬(30:Int)<=(p:Int):=fun h=>hbad ⟨h0,h⟩
       omega
      ·have:=av h0
       omega
     have aH:¬(30:Int)<=(p:Int):=(by omega);clear av;have aC:=zet T;have aI:1<=(zae p).1:=by
      rcases zlq T with e|e|e|e|e|e|e|e|e|e|e|e|e|e|e|e|e|e|e|e|e|e|e|e|e|e|e|e|e|e<;>(rw[e];decide)
     have ay:=yo (fun w=>zfQ p T w);have az:=yo (fun w' (h:FS w' r g A n c bs most vo s2)=>zbf r g n c A bs most vo s2 w' (zae p).2 ((zae p).2:Int) rfl h (by omega));have ao:=zbx bs s2 (m:=(zae p).2) (by omega);have aN:(zac bs s2 (zae p).2).1<8192:=Nat.lt_of_lt_of_le ao (Nat.pow_le_pow_right (n:=2) (by decide) aC.2);have U:=zaI bs s2 (zae p).2;clear ao;generalize (zac bs s2 (zae p).2).1=v2 at *;generalize (zac bs s2 (zae p).2).2=s3 at *;generalize (zae p).1=a2 at *;generalize (zae p).2=m2 at *;obtain⟨D,hD⟩:∃D,a2+v2=D:=⟨_,rfl⟩;have aO:(a2:Int)+(v2:Int)=(D:Int):=(by omega);rw[hD] at z;have al:s3.o.length<=2000000:=(by rw[U,P,Y];omega);have aw:=yo (fun w' (h:FS w' r g A n c bs most vo s3)=>zm4 r g n c A bs most vo s3 w' N D h hm (by omega) (by omega) (by omega) al);have aP:=yo hD;rw[z.o];clear z hD al Y P U;by_cases he2:s2.e=0
     ·have d2:(s2.e==0)=true:=by rw[he2];rfl
      go_enter Tryz.func159,Tryz.ntmps159;go_wp2_with (first
       |(go_at_call 170;(with_reducible refine(V.o _).mono ?_);go_must (rintro e I ⟨rfl,rfl⟩))
       |(go_at_call 171;(with_reducible refine(ay.o _).mono ?_);go_must (rintro e I ⟨rfl,rfl⟩))
       |(go_at_call 101;(with_reducible refine O.o.mono ?_);go_must (rintro e I ⟨rfl,o,t⟩;have ac:=(FR.arr o).cell (k:=3) rfl;have G:=yo (ae.o I o (ag.o.fr t));have C:=yo t;clear o t))
       |(go_at_call 158;(with_reducible refine G.o.mono ?_);go_must (rintro e w6 ⟨rfl,u,B⟩;have a3:=(FR.arr u).cell (k:=3) rfl;have ai:=yo (az.o w6 u);have J:=yo (C.o.trans B);clear u B))
       |(go_at_call 101;(with_reducible refine ai.o.mono ?_);go_must (rintro e w7 ⟨rfl,E,F⟩;have X:=yo (aw.o w7 E);have Z:=yo (J.o.trans F);clear E F))
       |(go_at_call 180;(with_reducible refine X.o.mono ?_);go_must (rintro e w8 ⟨rfl,v8,W,aa⟩;have aj:=yo W;have ah:=yo (Z.o.trans aa);clear W aa)))
      (try simp only[Exit.inBlock,Exit.then])
      first|(refine bodyPost_ret (results_none rfl _ _ _) rfl ?_)|(refine bodyPost_end (results_none rfl _ _ _) rfl ?_)
      exact⟨rfl,v8,aj.o,ah.o⟩
     ·have d2:(s2.e==0)=false:=bef he2
      go_enter Tryz.func159,Tryz.ntmps159;go_wp2_with (first
       |(go_at_call 170;(with_reducible refine(V.o _).mono ?_);go_must (rintro e I ⟨rfl,rfl⟩))
       |(go_at_call 171;(with_reducible refine(ay.o _).mono ?_);go_must (rintro e I ⟨rfl,rfl⟩))
       |(go_at_call 101;(with_reducible refine O.o.mono ?_);go_must (rintro e I ⟨rfl,o,t⟩;have ac:=(FR.arr o).cell (k:=3) rfl;have G:=yo (ae.o I o (ag.o.fr t));have C:=yo t;clear o t))
       |(go_at_call 158;(with_reducible refine G.o.mono ?_);go_must (rintro e w6 ⟨rfl,u,B⟩;have a3:=(FR.arr u).cell (k:=3) rfl;have ai:=yo (az.o w6 u);have J:=yo (C.o.trans B);clear u B))
       |(go_at_call 101;(with_reducible refine ai.o.mono ?_);go_must (rintro e w7 ⟨rfl,E,F⟩;have X:=yo (aw.o w7 E);have Z:=yo (J.o.trans F);clear E F))
       |(go_at_call 180;(with_reducible refine X.o.mono ?_);go_must (rintro e w8 ⟨rfl,v8,W,aa⟩;have aj:=yo W;have ah:=yo (Z.o.trans aa);clear W aa)))
      (try simp only[Exit.inBlock,Exit.then])
      first|(refine bodyPost_ret (results_none rfl _ _ _) rfl ?_)|(refine bodyPost_end (results_none rfl _ _ _) rfl ?_)
      exact⟨rfl,v8,aj.o,ah.o⟩
  ·rw[if_neg he1] at M
   have d1:(s1.e==0)=false:=bef he1;have a4:(s1.e != 0)=true:=(by rw[bne_iff_ne];exact he1);rw[M.o];clear M hd;go_enter Tryz.func159,Tryz.ntmps159;go_wp2_with (first
    |(go_at_call 170;(with_reducible refine(V.o _).mono ?_);go_must (rintro e I ⟨rfl,rfl⟩))
    |(go_at_call 101;(with_reducible refine O.o.mono ?_);go_must (rintro e I ⟨rfl,o,t⟩;have ac:=(FR.arr o).cell (k:=3) rfl;have aD:=yo o;have C:=yo t;clear o t)))
   (try simp only[Exit.inBlock,Exit.then])
   first|(refine bodyPost_ret (results_none rfl _ _ _) rfl ?_)|(refine bodyPost_end (results_none rfl _ _ _) rfl ?_)
   exact⟨rfl,vo,aD.o,C.o⟩
end
end Go.Proofs.YtebbdifhiihfkaaGreatDoor

/- flate: the reader of blocks, whatever comes: a decoder made. -/
namespace Go.Proofs.YtebbdifhiihfkaaGreatDoor
set_option linter.all false
set_option maxRecDepth 100000
set_option maxHeartbeats 3200000
open Go.RowKit
def zaB(ls:List Int):Nat:=ls.countP fun x=>decide (0<x)
def zbg(ls:List Int):Nat:=ls.countP fun x=>decide (x=1)
theorem zfB(l:List Int)(x:Int):zaB (l++[x])=zaB l+if 0<x then 1 else 0:=by unfold zaB;simp[List.countP_append,List.countP_cons]
theorem zkB(l:List Int)(x:Int):zbg (l++[x])=zbg l+if x=1 then 1 else 0:=by unfold zbg;simp[List.countP_append,List.countP_cons]
/-- Are lengths no decoder's, not all of a code being used? -/
def zcN(ls:List Int)(alone:Bool):Prop:=krV ls<32768/\¬(alone=true/\zaB ls=1/\zbg ls=1)
instance (ls:List Int) (alone:Bool):Decidable (zcN ls alone):=by unfold zcN;infer_instance
def zaY(ls:List Int)(alone:Bool)(s:RS):RS:=if s.e=0 then(if nwE ls=0 then(if zcN ls alone then s.fail 4 else s) else s.fail 4) else s
def zbJ(ls:List Int)(s:RS):Option (List Int):=if s.e=0/\nwE ls=0 then some ls else none
theorem zhf{ls:List Int}(h:nwE ls=0):OkL ls:=by
 unfold nwE at h;split at h
 ·rename_i h2
  exact zif h2
 ·rename_i h2
  exact absurd h h2
theorem FR.later{w w':World}{r g:Nat}{A:Option Addr}{n c P:Nat}{bs:List UInt8}{vo:Value}{out:List UInt8}{most e:Int}(h:FR w r g A n c P bs vo out most e)(o:Below w.heap.size w w'):FR w' r g A n c P bs vo out most e :=
 ⟨h.arr.later o,h.rd.later o,h.rb.blw (o.mono (Nat.le_of_lt h.rd.lt)),ownB.later h.own o,h.gr,h.fit,h.big⟩
section
variable (r g n c : Nat) (A : Option Addr) (bs : List UInt8) (most : Int) (vo : Value) (s : RS) (w : World)
theorem zda(B N cl:Nat)(Al:Option Addr)(ls:List Int)(q:Bool)(h:FS w r g A n c bs most vo s)(hr:RdI w B Al N ls)(hB:B<=w.heap.size)(hn:N<=1000):
  Calls Tryz.prog 130 #[.pointer (some ⟨r,0,none⟩),.slice Al N cl,.bool q] w fun e w'=>∃dv,e=.returned dv/\FS w' r g A n c bs most vo (zaY ls q s)/\RFr w w' r g vo vo/\DV w' r g vo dv (zbJ ls s):=by
 have H:=yo h;have c3:=(FR.arr h).cell (k:=3) rfl;by_cases he:s.e=0
 ·have d1:(s.e==0)=true:=by rw[he];rfl
  have ai:(s.e != 0)=false:=by rw[he];rfl
  have af:=(FR.arr h).lt;have an:=(FR.rd h).lt;have am:Hid (∀k,vo.ownBlock=some k->k<w.heap.size):=(show ∀k,_ from fun k hk=>(olt (FR.own h) k hk).2);have HN:=yo (zul B N cl Al ls w hr hB (by omega));have HL:=yo hr.len;have al:=yo hr;have Z:Hid (∀w1,Below w.heap.size w w1->FS w1 r g A n c bs most vo s):=(show ∀w1,_ from fun w1 hb=>FR.later h hb);have Y:=yo (fun w' (h:FS w' r g A n c bs most vo s)=>za8 r g n c A bs most vo s w' 4 h);unfold zs6 at HN;by_cases hE:nwE ls=0
  ·have hD:zbJ ls s=some ls:=if_pos ⟨he,hE⟩
   have X:zaY ls q s=if zcN ls q then s.fail 4 else s:=(by unfold zaY;rw[if_pos he,if_pos hE]);have T:=yo (zhf hE);rw[hD,X];rw[hE] at HN;have ah:=yo (fun w1 (h:RdI w1 B Al N ls)=>zke B N cl Al ls w1 h (by omega));have ap:zcN ls q=(krV ls<32768/\¬(q=true/\zaB ls=1/\zbg ls=1)):=rfl;generalize krE ls=KE at *;clear h hr hD X;go_enter Tryz.func130,Tryz.ntmps130;go_wp2_with (first
    |(go_at_call 160;(with_reducible refine HN.o.mono ?_);go_must (rintro e w1 ⟨v1,rfl,R,-,D⟩;obtain⟨gd,rfl,ae⟩:=R rfl;have ao:=D.size;have M:=yo (Z.o w1 D);have J:=yo (RFr.ofB D r g vo);have U:=yo (DK.new (vo:=vo) ae af an am.o);have W:=yo (RdI.blw al.o (D.mono hB));have ab:=yo (ah.o w1 W.o);clear R D ae))
    |(go_at_call 161;(with_reducible refine ab.o.mono ?_);go_must (rintro e w2 ⟨rfl,rfl⟩)))
   go_loopw [36,11,12] (fun vk vp vq wr=>∃k:Nat,k<=N/\vk=.int .i64 k/\vp=.int .i64 (zaB (ls.take k):Int)/\vq=.int .i64 (zbg (ls.take k):Int)/\wr=w1) (fun vk _ _ _=>N-(intOf vk).toNat)
   case atStart=>exact⟨0,Nat.zero_le _,rfl,rfl,rfl,rfl⟩
   case round =>
    obtain⟨k,hk,rfl,rfl,rfl,rfl⟩:=hrel;by_cases hlt:k<N
    ·have aa:(k:Int)<(N:Int):=by omega
     obtain⟨b,o,x,rfl,hb,HX,e1⟩:=W.o.one hlt;have V:Hid (zaB (ls.take (k+1))=zaB (ls.take k)+if 0<x then 1 else 0):=(show _=_ by rw[zdn HX.o,zfB]);have L:Hid (zbg (ls.take (k+1))=zbg (ls.take k)+if x=1 then 1 else 0):=(show _=_ by rw[zdn HX.o,zkB]);have ak:zaB (ls.take k)<=1000:=nlt List.countP_le_length (by rw[llt];omega);have aj:zbg (ls.take k)<=1000:=nlt List.countP_le_length (by rw[llt];omega);generalize zaB (ls.take k)=cp at *;generalize zbg (ls.take k)=co at *;by_cases hx0:0<x
     ·rw[if_pos hx0] at V
      by_cases G:x=1
      ·rw[if_pos G] at L
       have t1:(x==1)=true:=(by rw[G];rfl);go_wp2_with fail;go_roundw
       case rel=>exact⟨k+1,by omega,by go_num,by(rw[V.o])<;>(first|done|rfl|go_num),by(rw[L.o])<;>(first|done|rfl|go_num),trivial⟩
       case measure=>simp[intOf];omega
      ·rw[if_neg G] at L
       have t1:(x==1)=false:=bef G;go_wp2_with fail;go_roundw
       case rel=>exact⟨k+1,by omega,by go_num,by(rw[V.o])<;>(first|done|rfl|go_num),by(rw[L.o])<;>(first|done|rfl|go_num),trivial⟩
       case measure=>simp[intOf];omega
     ·rw[if_neg hx0] at V
      have G:¬x=1:=(by omega);rw[if_neg G] at L;have t1:(x==1)=false:=bef G;go_wp2_with fail;go_roundw
      case rel=>exact⟨k+1,by omega,by go_num,by(rw[V.o])<;>(first|done|rfl|go_num),by(rw[L.o])<;>(first|done|rfl|go_num),trivial⟩
      case measure=>simp[intOf];omega
    ·obtain rfl:k=N:=by omega
     have aa:¬(k:Int)<(k:Int):=(by omega);have ac:ls.take k=ls:=List.take_of_length_le (by rw[HL.o];exact nlr _);rw[ac];have F:=yo (Y.o wr M.o);have ak:zaB ls<=1000:=nlt List.countP_le_length (by rw[HL.o];omega);have aj:zbg ls<=1000:=nlt List.countP_le_length (by rw[HL.o];omega);clear ac Z Y;by_cases hk1:krV ls<32768
     ·cases q with
      |false =>
       have u:zcN ls false:=⟨hk1,fun h=>by cases h.1⟩;generalize krV ls=K at *;generalize zaB ls=P at *;generalize zbg ls=O at *;go_wp2_with (go_at_call 105;(with_reducible refine F.o.mono ?_);go_must (rintro e w4 ⟨rfl,z,t⟩;have C:=yo z;have I:=yo (J.o.trans t);have S:=yo (U.o.fr t);clear z t));go_ret;exact⟨_,rfl,by first|exact C.o|(rw[if_pos u];exact C.o),I.o,.inr ⟨gd,ls,rfl,rfl,S.o,T.o⟩⟩
      |true =>
       by_cases hp1:zaB ls=1
       ·by_cases ho1:zbg ls=1
        ·have u:¬zcN ls true:=fun h=>h.2 ⟨rfl,hp1,ho1⟩
         have t1:((zaB ls:Int)==1)=true:=(by rw[hp1];rfl);have t2:((zbg ls:Int)==1)=true:=(by rw[ho1];rfl);generalize krV ls=K at *;generalize zaB ls=P at *;generalize zbg ls=O at *;go_wp2_with fail;go_ret;exact⟨_,rfl,by first|exact M.o|(rw[if_neg u];exact M.o),J.o,.inr ⟨gd,ls,rfl,rfl,U.o,T.o⟩⟩
        ·have u:zcN ls true:=⟨hk1,fun h=>ho1 h.2.2⟩
         have t1:((zaB ls:Int)==1)=true:=(by rw[hp1];rfl);have t2:((zbg ls:Int)==1)=false:=bef (by omega);generalize krV ls=K at *;generalize zaB ls=P at *;generalize zbg ls=O at *;go_wp2_with (go_at_call 105;(with_reducible refine F.o.mono ?_);go_must (rintro e w4 ⟨rfl,z,t⟩;have C:=yo z;have I:=yo (J.o.trans t);have S:=yo (U.o.fr t);clear z t));go_ret;exact⟨_,rfl,by first|exact C.o|(rw[if_pos u];exact C.o),I.o,.inr ⟨gd,ls,rfl,rfl,S.o,T.o⟩⟩
       ·have u:zcN ls true:=⟨hk1,fun h=>hp1 h.2.1⟩
        have t1:((zaB ls:Int)==1)=false:=bef (by omega);generalize krV ls=K at *;generalize zaB ls=P at *;generalize zbg ls=O at *;go_wp2_with (go_at_call 105;(with_reducible refine F.o.mono ?_);go_must (rintro e w4 ⟨rfl,z,t⟩;have C:=yo z;have I:=yo (J.o.trans t);have S:=yo (U.o.fr t);clear z t));go_ret;exact⟨_,rfl,by first|exact C.o|(rw[if_pos u];exact C.o),I.o,.inr ⟨gd,ls,rfl,rfl,S.o,T.o⟩⟩
     ·have u:¬zcN ls q:=fun h=>hk1 h.1
      generalize krV ls=K at *;generalize zaB ls=P at *;generalize zbg ls=O at *;go_wp2_with fail;go_ret;exact⟨_,rfl,by first|exact M.o|(rw[if_neg u];exact M.o),J.o,.inr ⟨gd,ls,rfl,rfl,U.o,T.o⟩⟩
  ·have hD:zbJ ls s=none:=if_neg (fun h=>hE h.2)
   have X:zaY ls q s=s.fail 4:=(by unfold zaY;rw[if_pos he,if_neg hE]);rw[hD,X];have dE:(nwE ls != 0)=true:=(by rw[bne_iff_ne];exact hE);have aq:(nwE ls==0)=false:=bef hE;generalize nwE ls=E at *;clear h hr hD X;go_enter Tryz.func130,Tryz.ntmps130;go_wp2_with (first
    |(go_at_call 160;(with_reducible refine HN.o.mono ?_);go_must (rintro e w1 ⟨v1,rfl,-,R,D⟩;have ag:=R hE;subst ag;have J:=yo (RFr.ofB D r g vo);have F:=yo (Y.o w1 (Z.o w1 D));clear R D))
    |(go_at_call 105;(with_reducible refine F.o.mono ?_);go_must (rintro e w4 ⟨rfl,z,t⟩;have C:=yo z;have I:=yo (J.o.trans t);clear z t)))
   go_ret;exact⟨_,rfl,C.o,I.o,.inl ⟨rfl,rfl⟩⟩
 ·have d1:(s.e==0)=false:=bef he
  have ai:(s.e != 0)=true:=by rw[bne_iff_ne];exact he
  have hD:zbJ ls s=none:=if_neg (fun h=>he h.1);have X:zaY ls q s=s:=if_neg he;rw[hD,X];clear h hr;go_enter Tryz.func130,Tryz.ntmps130;go_wp2_with fail;go_ret;exact⟨_,rfl,H.o,RFr.refl _ _ _ _,.inl ⟨rfl,rfl⟩⟩
end
end Go.Proofs.YtebbdifhiihfkaaGreatDoor

/- flate: what a reader of blocks does with lists of lengths, plainly. -/
namespace Go.Proofs.YtebbdifhiihfkaaGreatDoor
set_option linter.all false
/-- A length laid behind others, so often. -/
def zeN(l:List Int)(n all:Nat)(s:RS):RS:=if s.e=0/\(all:Int)-(l.length:Int)<(n:Int) then s.fail 4 else s
def zaC(l:List Int)(x:Int)(n all:Nat)(s:RS):List Int×RS:=if(zeN l n all s).e=0 then(l++List.replicate n x,zeN l n all s) else(l,zeN l n all s)
/-- So many lengths. -/
def zar(bs:List UInt8)(ls:List Int)(all:Nat):Nat->List Int->RS->List Int×RS
 |0,l,s=>(l,s)
 |f+1,l,s =>
  if l.length<all/\s.e=0 then
   if(zad bs ls s).2.e=0 then
    if(zad bs ls s).1<16 then zar bs ls all f (l++[(zad bs ls s).1]) (zad bs ls s).2
    else if(zad bs ls s).1=16 then
     (if l.length=0 then(l,(zad bs ls s).2.fail 4)
     else zar bs ls all f (zaC l (l.getD (l.length-1) 0) (3+(zac bs (zad bs ls s).2 2).1) all (zac bs (zad bs ls s).2 2).2).1 (zaC l (l.getD (l.length-1) 0) (3+(zac bs (zad bs ls s).2 2).1) all (zac bs (zad bs ls s).2 2).2).2)
    else if(zad bs ls s).1=17 then zar bs ls all f (zaC l 0 (3+(zac bs (zad bs ls s).2 3).1) all (zac bs (zad bs ls s).2 3).2).1 (zaC l 0 (3+(zac bs (zad bs ls s).2 3).1) all (zac bs (zad bs ls s).2 3).2).2
    else zar bs ls all f (zaC l 0 (11+(zac bs (zad bs ls s).2 7).1) all (zac bs (zad bs ls s).2 7).2).1 (zaC l 0 (11+(zac bs (zad bs ls s).2 7).1) all (zac bs (zad bs ls s).2 7).2).2
   else(l,(zad bs ls s).2)
  else(l,s)
theorem zcz{bs:List UInt8}{ls:List Int}{all f:Nat}{l:List Int}{s:RS}(h:¬(l.length<all/\s.e=0)):zar bs ls all f l s=(l,s):=by
 cases f with
 |zero=>rfl
 |succ f=>exact if_neg h
theorem zgp(l:List Int)(x:Int)(n all:Nat)(s:RS)(h:l.length<=all):(zaC l x n all s).1.length<=all/\((zaC l x n all s).2.e=0->(zaC l x n all s).1.length=l.length+n):=by
 unfold zaC;split
 ·rename_i h0
  have q:¬(all:Int)-(l.length:Int)<(n:Int):=fun g=>by
   unfold zeN at h0;by_cases he:s.e=0
   ·rw[if_pos ⟨he,g⟩] at h0
    unfold RS.fail at h0;rw[if_pos he] at h0;exact absurd (show(4:Int)=0 from h0) (by decide)
   ·rw[if_neg (fun a=>he a.1)] at h0
    exact he h0
  have o:(l++List.replicate n x).length=l.length+n:=by simp
  exact⟨by show(l++List.replicate n x).length<=all;omega,fun _=>o⟩
 ·rename_i h0
  exact⟨h,fun h=>absurd h h0⟩
end Go.Proofs.YtebbdifhiihfkaaGreatDoor

/- flate: the reader of blocks, whatever comes: a length laid behind others. -/
namespace Go.Proofs.YtebbdifhiihfkaaGreatDoor
set_option linter.all false
set_option maxRecDepth 100000
set_option maxHeartbeats 3200000
open Go.RowKit
/-- A list of lengths grows beside a reader. -/
theorem RFr.side{w0 w w':World}{r g:Nat}{vo o:Value}{l:List Int}(h:RFr w0 w r g vo vo)(t:∀k,o.ownBlock=some k->w0.heap.size<=k)(hg:w.grownBy w' o.ownBlock):RFr w0 w' r g vo vo:=by
 have hs:=h.size;refine⟨hg.os.trans h.os,hg.tape.trans h.tape,hg.output.trans h.output,nlt hs hg.size,fun k q h1 h2 u=>?_,.inl rfl⟩;refine(hg.block k (by omega) (fun e=>?_)).trans (h.block k q h1 h2 u);have:=t k e.symm;omega
theorem RFr.allocd{w0 w:World}{r g:Nat}{vo:Value}(h:RFr w0 w r g vo vo)(o:Obj):RFr w0 (w.alloc o) r g vo vo:=by
 have hs:=h.size;refine⟨h.os,h.tape,h.output,by rw[wsa];omega,fun k q h1 h2 t=>(heap_alloc_old w o (by omega)).trans (h.block k q h1 h2 t),.inl rfl⟩
theorem FR.side{w w':World}{r g:Nat}{A:Option Addr}{n c P:Nat}{bs:List UInt8}{vo z:Value}{out:List UInt8}{most e:Int}{lo:Nat}(h:FR w r g A n c P bs vo out most e)(hr:r<lo)(hv:∀k,vo.ownBlock=some k->k<lo)(q:∀k,z.ownBlock=some k->lo<=k)(hg:w.grownBy w' z.ownBlock):FR w' r g A n c P bs vo out most e:=by
 have u:=h.gr;have key:∀k,k<w.heap.size->k<lo->w'.heap[k]?=w.heap[k]?:=fun k o C=>hg.block k o (fun e=>by have:=q k e.symm;omega)
 refine⟨?_,?_,h.rb.blw ((Below.refl g w).grown hg (Nat.le_of_lt h.rd.lt) (fun k o=>by have:=q k o;omega)),World.ownsRow.kept h.own hg ?_,u,h.fit,h.big⟩
 ·have hlt:=h.arr.lt
  obtain⟨t,ht⟩:=h.arr;exact⟨t,(key r hlt hr).trans ht⟩
 ·have hlt:=h.rd.lt
  obtain⟨t,ht⟩:=h.rd;exact⟨t,(key g hlt (by omega)).trans ht⟩
 ·cases e:vo.ownBlock with
  |none=>exact .inl rfl
  |some k=>exact .inr (fun B=>by have h1:=hv k e;have h2:=q k B.symm;omega)
theorem zdI(l:List Int)(x:Int)(i:Nat):l++List.replicate i x++[x]=l++List.replicate (i+1) x:=by
 rw[List.append_assoc,List.replicate_succ']
section
variable (r g n c : Nat) (A : Option Addr) (bs : List UInt8) (most : Int) (vo : Value) (s : RS) (w0 w : World)
theorem zfI(lv:Value)(l:List Int)(x:Int)(N all:Nat)(h:FS w r g A n c bs most vo s)(hf:RFr w0 w r g vo vo)(hl:ownI w w0.heap.size lv l)(hr:r<w0.heap.size)(hv:∀k,vo.ownBlock=some k->k<w0.heap.size)(hN:N<=1000)(al:all<=1000)(an:l.length<=1000):
  Calls Tryz.prog 162 #[.pointer (some ⟨r,0,none⟩),lv,.int .i64 x,.int .i64 (N:Int),.int .i64 (all:Int)] w fun e w'=>∃lv',e=.returned lv'/\FS w' r g A n c bs most vo (zaC l x N all s).2/\ownI w' w0.heap.size lv' (zaC l x N all s).1/\RFr w0 w' r g vo vo:=by
 obtain⟨Al,cl,rfl,-,-,-⟩:=hl.form;have H:=yo h;have ab:=yo hf;have q:=yo hl;have HV:=yo hv;have c3:=(FR.arr h).cell (k:=3) rfl;have af:=yo (za8 r g n c A bs most vo s w 4 h);obtain⟨u,t⟩:∃u,zeN l N all s=u:=⟨_,rfl⟩;have o:Hid (zaC l x N all s=if u.e=0 then(l++List.replicate N x,u) else(l,u)):=(show _=_ by unfold zaC;rw[t]);replace t:(if s.e=0/\(all:Int)-(l.length:Int)<(N:Int) then s.fail 4 else s)=u:=t;have D:Hid (l++List.replicate 0 x=l):=(show _=_ by simp);have ah:∀k w',RFr w0 w' r g vo vo->(Value.slice Al l.length cl).ownBlock=some k->w0.heap.size<=k:=fun k w' _ Z=>(olt hl k Z).1
 clear h hf hl hv ah;go_enter Tryz.func162,Tryz.ntmps162;by_cases he:s.e=0
 ·have d1:(s.e==0)=true:=by rw[he];rfl
  by_cases hlt:(all:Int)-(l.length:Int)<(N:Int)
  ·rw[if_pos ⟨he,hlt⟩] at t
   rw[t] at af;clear t;have am:=olt q.o;go_wp2_with (go_at_call 105;(with_reducible refine af.o.mono ?_);go_must (rintro e w4 ⟨rfl,ae,ac⟩;have ag:=yo ae;have ai:Hid (ownI w4 w0.heap.size (.slice Al l.length cl) l):=(show ownI _ _ _ _ from ownI.rfr q.o ac hr (by have:=(FR.gr H.o);omega) (fun k Z ak=>by have h1:=HV.o k Z;have h2:=(olt q.o k ak).1;omega));have aj:=yo (ab.o.trans ac);clear ae ac));go_loopw [11,1] (fun V vl wr=>∃i:Nat,i<=N/\V=.int .i64 i/\Hid (FS wr r g A n c bs most vo u)/\Hid (RFr w0 wr r g vo vo)/\Hid (ownI wr w0.heap.size vl (l++List.replicate i x))/\(¬u.e=0->i=0)) (fun V _ _=>N-(intOf V).toNat)
   case atStart=>exact⟨0,Nat.zero_le _,rfl,ag,aj,(show ownI _ _ _ _ by rw[D.o];exact ai.o),fun _=>rfl⟩
   case round =>
    obtain⟨i,hi,rfl,F,J,q,h0⟩:=hrel;have e3:=(FR.arr F.o).cell (k:=3) rfl;obtain⟨Aq,cq,rfl,-,-,-⟩:=q.o.form;have aa:(l++List.replicate i x).length<=2000:=(by rw[lla,List.length_replicate];omega);by_cases hlt:i<N
    ·have G:(i:Int)<(N:Int):=by omega
     by_cases he:u.e=0
     ·have d9:(u.e==0)=true:=by rw[he];rfl
      have R:=yo (zdI l x i);have E:Hid (∀k,(Value.slice Aq (l++List.replicate i x).length cq).ownBlock=some k->w0.heap.size<=k):=(show ∀k,_ from fun k Z=>(olt q.o k Z).1);generalize l++List.replicate i x=ll at *;have O:=yo (ownI.alloc q.o (.cells #[Value.int .i64 x] 3));have W:=yo (FR.later F.o ((Below.refl wr.heap.size wr).alloc (nlr _) (.cells #[Value.int .i64 x] 3)));have I:=yo (J.o.allocd (.cells #[Value.int .i64 x] 3));have L:ll.length+1<=1099511627776:=(by omega);have M:w0.heap.size<=(wr.alloc (.cells #[Value.int .i64 x] 3)).heap.size:=I.o.size;go_wp2_with (at_builtin;go_must (refine zay rfl (.tmp 39) (.tmp 41) rfl w0.heap.size _ ll rfl O.o (wr.heap.size+1) 1 1 (some ⟨wr.heap.size,0,none⟩) [x] rfl (zbv wr x) L M ?_;intro v5 w5 C z T U;rw[R.o] at C;have Y:=yo C;have X:=yo (FR.side W.o hr HV.o E.o z);have P:=yo (RFr.side (l:=ll) I.o E.o z);clear C z T U));go_roundw
      case rel=>exact⟨i+1,by omega,by go_num,X,P,Y,fun h=>absurd he h⟩
      case measure=>simp[intOf];omega
     ·have d9:(u.e==0)=false:=bef he
      have B:=h0 he;subst B;go_wp2_with fail;go_ret;exact⟨_,rfl,by rw[o.o,if_neg he];exact F.o,by rw[o.o,if_neg he];rw[D.o] at q;exact q.o,J.o⟩
    ·obtain rfl:i=N:=by omega
     have G:¬(i:Int)<(i:Int):=(by omega);by_cases he:u.e=0
     ·go_wp2_with fail
      go_ret;exact⟨_,rfl,by rw[o.o,if_pos he];exact F.o,by rw[o.o,if_pos he];have S:=q.o;first|exact S|(rw[show(l++List.replicate i x).length=l.length+i by simp] at S;exact S),J.o⟩
     ·have B:=h0 he
      subst B;go_wp2_with fail;go_ret;exact⟨_,rfl,by rw[o.o,if_neg he];exact F.o,by rw[o.o,if_neg he];rw[D.o] at q;exact q.o,J.o⟩
  ·rw[if_neg (fun h=>hlt h.2)] at t
   rw[t] at H;clear t;go_wp2_with fail;go_loopw [11,1] (fun V vl wr=>∃i:Nat,i<=N/\V=.int .i64 i/\Hid (FS wr r g A n c bs most vo u)/\Hid (RFr w0 wr r g vo vo)/\Hid (ownI wr w0.heap.size vl (l++List.replicate i x))/\(¬u.e=0->i=0)) (fun V _ _=>N-(intOf V).toNat)
   case atStart=>exact⟨0,Nat.zero_le _,rfl,H,ab,(show ownI _ _ _ _ by rw[D.o];exact q.o),fun _=>rfl⟩
   case round =>
    obtain⟨i,hi,rfl,F,J,q,h0⟩:=hrel;have e3:=(FR.arr F.o).cell (k:=3) rfl;obtain⟨Aq,cq,rfl,-,-,-⟩:=q.o.form;have aa:(l++List.replicate i x).length<=2000:=(by rw[lla,List.length_replicate];omega);by_cases hlt:i<N
    ·have G:(i:Int)<(N:Int):=by omega
     by_cases he:u.e=0
     ·have d9:(u.e==0)=true:=by rw[he];rfl
      have R:=yo (zdI l x i);have E:Hid (∀k,(Value.slice Aq (l++List.replicate i x).length cq).ownBlock=some k->w0.heap.size<=k):=(show ∀k,_ from fun k Z=>(olt q.o k Z).1);generalize l++List.replicate i x=ll at *;have O:=yo (ownI.alloc q.o (.cells #[Value.int .i64 x] 3));have W:=yo (FR.later F.o ((Below.refl wr.heap.size wr).alloc (nlr _) (.cells #[Value.int .i64 x] 3)));have I:=yo (J.o.allocd (.cells #[Value.int .i64 x] 3));have L:ll.length+1<=1099511627776:=(by omega);have M:w0.heap.size<=(wr.alloc (.cells #[Value.int .i64 x] 3)).heap.size:=I.o.size;go_wp2_with (at_builtin;go_must (refine zay rfl (.tmp 39) (.tmp 41) rfl w0.heap.size _ ll rfl O.o (wr.heap.size+1) 1 1 (some ⟨wr.heap.size,0,none⟩) [x] rfl (zbv wr x) L M ?_;intro v5 w5 C z T U;rw[R.o] at C;have Y:=yo C;have X:=yo (FR.side W.o hr HV.o E.o z);have P:=yo (RFr.side (l:=ll) I.o E.o z);clear C z T U));go_roundw
      case rel=>exact⟨i+1,by omega,by go_num,X,P,Y,fun h=>absurd he h⟩
      case measure=>simp[intOf];omega
     ·have d9:(u.e==0)=false:=bef he
      have B:=h0 he;subst B;go_wp2_with fail;go_ret;exact⟨_,rfl,by rw[o.o,if_neg he];exact F.o,by rw[o.o,if_neg he];rw[D.o] at q;exact q.o,J.o⟩
    ·obtain rfl:i=N:=by omega
     have G:¬(i:Int)<(i:Int):=(by omega);by_cases he:u.e=0
     ·go_wp2_with fail
      go_ret;exact⟨_,rfl,by rw[o.o,if_pos he];exact F.o,by rw[o.o,if_pos he];have S:=q.o;first|exact S|(rw[show(l++List.replicate i x).length=l.length+i by simp] at S;exact S),J.o⟩
     ·have B:=h0 he
      subst B;go_wp2_with fail;go_ret;exact⟨_,rfl,by rw[o.o,if_neg he];exact F.o,by rw[o.o,if_neg he];rw[D.o] at q;exact q.o,J.o⟩
 ·have d1:(s.e==0)=false:=bef he
  rw[if_neg (fun h=>he h.1)] at t;rw[t] at H;clear t;go_wp2_with fail;go_loopw [11,1] (fun V vl wr=>∃i:Nat,i<=N/\V=.int .i64 i/\Hid (FS wr r g A n c bs most vo u)/\Hid (RFr w0 wr r g vo vo)/\Hid (ownI wr w0.heap.size vl (l++List.replicate i x))/\(¬u.e=0->i=0)) (fun V _ _=>N-(intOf V).toNat)
  case atStart=>exact⟨0,Nat.zero_le _,rfl,H,ab,(show ownI _ _ _ _ by rw[D.o];exact q.o),fun _=>rfl⟩
  case round =>
   obtain⟨i,hi,rfl,F,J,q,h0⟩:=hrel;have e3:=(FR.arr F.o).cell (k:=3) rfl;obtain⟨Aq,cq,rfl,-,-,-⟩:=q.o.form;have aa:(l++List.replicate i x).length<=2000:=(by rw[lla,List.length_replicate];omega);by_cases hlt:i<N
   ·have G:(i:Int)<(N:Int):=by omega
    by_cases he:u.e=0
    ·have d9:(u.e==0)=true:=by rw[he];rfl
     have R:=yo (zdI l x i);have E:Hid (∀k,(Value.slice Aq (l++List.replicate i x).length cq).ownBlock=some k->w0.heap.size<=k):=(show ∀k,_ from fun k Z=>(olt q.o k Z).1);generalize l++List.replicate i x=ll at *;have O:=yo (ownI.alloc q.o (.cells #[Value.int .i64 x] 3));have W:=yo (FR.later F.o ((Below.refl wr.heap.size wr).alloc (nlr _) (.cells #[Value.int .i64 x] 3)));have I:=yo (J.o.allocd (.cells #[Value.int .i64 x] 3));have L:ll.length+1<=1099511627776:=(by omega);have M:w0.heap.size<=(wr.alloc (.cells #[Value.int .i64 x] 3)).heap.size:=I.o.size;go_wp2_with (at_builtin;go_must (refine zay rfl (.tmp 39) (.tmp 41) rfl w0.heap.size _ ll rfl O.o (wr.heap.size+1) 1 1 (some ⟨wr.heap.size,0,none⟩) [x] rfl (zbv wr x) L M ?_;intro v5 w5 C z T U;rw[R.o] at C;have Y:=yo C;have X:=yo (FR.side W.o hr HV.o E.o z);have P:=yo (RFr.side (l:=ll) I.o E.o z);clear C z T U));go_roundw
     case rel=>exact⟨i+1,by omega,by go_num,X,P,Y,fun h=>absurd he h⟩
     case measure=>simp[intOf];omega
    ·have d9:(u.e==0)=false:=bef he
     have B:=h0 he;subst B;go_wp2_with fail;go_ret;exact⟨_,rfl,by rw[o.o,if_neg he];exact F.o,by rw[o.o,if_neg he];rw[D.o] at q;exact q.o,J.o⟩
   ·obtain rfl:i=N:=by omega
    have G:¬(i:Int)<(i:Int):=(by omega);by_cases he:u.e=0
    ·go_wp2_with fail
     go_ret;exact⟨_,rfl,by rw[o.o,if_pos he];exact F.o,by rw[o.o,if_pos he];have S:=q.o;first|exact S|(rw[show(l++List.replicate i x).length=l.length+i by simp] at S;exact S),J.o⟩
    ·have B:=h0 he
     subst B;go_wp2_with fail;go_ret;exact⟨_,rfl,by rw[o.o,if_neg he];exact F.o,by rw[o.o,if_neg he];rw[D.o] at q;exact q.o,J.o⟩
end
end Go.Proofs.YtebbdifhiihfkaaGreatDoor

/- flate: the reader of blocks, whatever comes: tokens. -/
namespace Go.Proofs.YtebbdifhiihfkaaGreatDoor
set_option linter.all false
set_option maxRecDepth 100000
set_option maxHeartbeats 3200000
open Go.RowKit
section
variable (r g n c : Nat) (A : Option Addr) (bs : List UInt8) (most : Int) (vo : Value) (s : RS) (w : World)
theorem zhZ(gl:Nat)(B:List Int)(dv:Value)(dl:Option (List Int))(f:Nat)(h:FS w r g A n c bs most vo s)(hl:DK w r g vo gl B)(ag:OkL B)(hd:DV w r g vo dv dl)(hm:most<=1000000)(ho:(s.o.length:Int)<=most)(hf:8*n+1<=s.p+f):
  Calls Tryz.prog 129 #[.pointer (some ⟨r,0,none⟩),.pointer (some ⟨gl,0,none⟩),dv] w fun e w'=>e=.returned (.tuple #[])/\∃vo',FS w' r g A n c bs most vo' (zaG bs most B dl f s)/\RFr w w' r g vo vo':=by
 have H:=yo h;have al:=yo hl;have S:=yo ag;have aw:=yo hd;have aq:=yo (FR.rb h).len;have HO:=yo ho;have F:=yo hf;have ah:=yo (RFr.refl w r g vo);obtain⟨R,hR⟩:∃R,zaG bs most B dl f s=R:=⟨_,rfl⟩;rw[hR];have af:=yo hR;clear h hl ag hd ho hf hR;go_enter Tryz.func129,Tryz.ntmps129;go_wp2_with fail;go_loopw [6] (fun v6 wr=>∃(o:RS) (G:Value) (f:Nat),Hid (FS wr r g A n c bs most G o)/\Hid (RFr w wr r g vo G)/\Hid (8*n+1<=o.p+f)/\Hid (zaG bs most B dl f o=R)/\Hid ((o.o.length:Int)<=most)) (fun _ wr=>8*n+1-zhF wr g)
 case atStart=>exact⟨s,vo,f,H,ah,F,af,HO⟩
 case round =>
  clear H ah F af HO;obtain⟨o,G,f,HF,Z,F,HL,HO⟩:=hrel;have e3:=(FR.arr HF.o).cell (k:=3) rfl;have ay:o.p<=8*n:=FR.fit HF.o;have T:=zb0 (FR.rd HF.o);by_cases he:o.e=0
  ·have d1:(o.e==0)=true:=by rw[he];rfl
   obtain⟨f,rfl⟩:∃f',f=f'+1:=⟨f-1,by have:=F.o;omega⟩;have HN:=yo (zhe r g n c A bs most G o wr gl B HF.o (al.o.fr Z.o) S.o.1 S.o.2.1 S.o.2.2);have u:Hid (zaG bs most B dl (f+1) o=if(zad bs B o).2.e=0 then(if(zad bs B o).1=256 then(zad bs B o).2 else if(zad bs B o).1<256 then zaG bs most B dl f (zas most (zad bs B o).2 (UInt8.ofNat (zad bs B o).1.toNat)) else zaG bs most B dl f (za3 bs most (zad bs B o).2 (zad bs B o).1.toNat dl)) else(zad bs B o).2):=(show _=_ from if_pos he);rw[HL.o] at u;obtain⟨q,ab,am,ax⟩:=zfz bs B o;have an:q<=300:=(by have:=S.o.2.2;omega);have ac:=yo (fun h2=>zuj (bs:=bs) (ls:=B) he h2);have D:=zbQ bs B o;rw[ab] at HN u;have aa:((q:Int)).toNat=q:=rfl;rw[aa] at u;clear ab am ax aa;generalize (zad bs B o).2=t1 at *;by_cases ht:t1.e=0
   ·have d2:(t1.e==0)=true:=by rw[ht];rfl
    have av:(t1.e != 0)=false:=(by rw[ht];rfl);rw[if_pos ht] at u;have a0:=ac.o ht;clear ac;by_cases h256:q=256
    ·subst h256
     rw[if_pos (by rfl)] at u;go_wp2_with (go_at_call 158;(with_reducible refine HN.o.mono ?_);go_must (rintro e I ⟨rfl,t,z⟩;have Y:=(FR.arr t).cell (k:=3) rfl;have U:=yo t;have C:=yo (Z.o.trans z);clear t z));(try simp only[Exit.inBlock,Exit.then])
     first|(refine bodyPost_ret (results_none rfl _ _ _) rfl ?_)|(refine bodyPost_end (results_none rfl _ _ _) rfl ?_)
     exact⟨rfl,G,by rw[u.o];exact U.o,C.o⟩
    ·have O:¬(q:Int)=256:=by omega
     have au:((q:Int)==256)=false:=bef O;rw[if_neg O] at u;by_cases hlt:q<256
     ·have P:(q:Int)<256:=by omega
      rw[if_pos P] at u;obtain⟨x,hx⟩:∃x:UInt8,q=x.toNat:=⟨UInt8.ofNat q,by rw[UInt8.toNat_ofNat'];exact(Nat.mod_eq_of_lt (by omega)).symm⟩;subst hx;have ae:UInt8.ofNat x.toNat=x:=(by simp);rw[ae] at u;have x8:=x.toNat_lt;have ao:=yo (fun I (h:FS I r g A n c bs most G t1)=>zcV r g n c A bs most G t1 I x h hm);have L:Hid (8*n+1<=(zas most t1 x).p+f):=(show _<=_ by rw[zdH];have:=F.o;omega);have ak:(zas most t1 x).p=t1.p:=zdH _ _ _;have W:Hid (((zas most t1 x).o.length:Int)<=most):=(show _<=_ from zfA (by rw[D];exact HO.o));generalize zas most t1 x=t2 at *;clear ae D;go_wp2_with (first
       |(go_at_call 158;(with_reducible refine HN.o.mono ?_);go_must (rintro e I ⟨rfl,t,z⟩;have Y:=(FR.arr t).cell (k:=3) rfl;have aj:=yo (ao.o I t);have C:=yo (Z.o.trans z);clear t z))
       |(go_at_call 128;(with_reducible refine aj.o.mono ?_);go_must (rintro e w6 ⟨rfl,v6,M,N⟩;have J:=yo M;have X:=yo (C.o.trans N);clear M N)))
      have E:=zb0 (FR.rd J.o);go_roundw
      case rel=>exact⟨t2,v6,f,J,X,L,u.o.symm,W⟩
      case measure=>rw[E,T];omega
     ·have P:¬(q:Int)<256:=by omega
      rw[if_neg P] at u;have az:t1.p<=8*bs.length\/True:=.inr trivial;have ap:=yo (fun I (h:FS I r g A n c bs most G t1) (hd:DV I r g G dv dl)=>zq6 r g n c A bs most G t1 I q dv dl h hd hm (by omega) (by omega) (by rw[D];exact HO.o));have ar:=yo (fun(h:t1.p<=8*bs.length)=>zuk (most:=most) (q:=q) (dl:=dl) h);have W:Hid (((za3 bs most t1 q dl).o.length:Int)<=most):=(show _<=_ from zmc (by rw[D];exact HO.o));generalize za3 bs most t1 q dl=t2 at *;clear D;go_wp2_with (first
       |(go_at_call 158;(with_reducible refine HN.o.mono ?_);go_must (rintro e I ⟨rfl,t,z⟩;have Y:=(FR.arr t).cell (k:=3) rfl;have V:t1.p<=8*n:=FR.fit t;have C:=yo (Z.o.trans z);have ai:=yo (ap.o I t (aw.o.fr C.o));clear t z))
       |(go_at_call 159;(with_reducible refine ai.o.mono ?_);go_must (rintro e w6 ⟨rfl,v6,M,N⟩;have J:=yo M;have X:=yo (C.o.trans N);clear M N)))
      have E:=zb0 (FR.rd J.o);have ak:=ar.o (by rw[aq.o];exact V);have L:Hid (8*n+1<=t2.p+f):=(show _<=_ by have:=F.o;omega);go_roundw
      case rel=>exact⟨t2,v6,f,J,X,L,u.o.symm,W⟩
      case measure=>rw[E,T];omega
   ·have d2:(t1.e==0)=false:=bef ht
    have av:(t1.e != 0)=true:=(by rw[bne_iff_ne];exact ht);rw[if_neg ht] at u;go_wp2_with (go_at_call 158;(with_reducible refine HN.o.mono ?_);go_must (rintro e I ⟨rfl,t,z⟩;have Y:=(FR.arr t).cell (k:=3) rfl;have U:=yo t;have C:=yo (Z.o.trans z);clear t z));(try simp only[Exit.inBlock,Exit.then])
    first|(refine bodyPost_ret (results_none rfl _ _ _) rfl ?_)|(refine bodyPost_end (results_none rfl _ _ _) rfl ?_)
    exact⟨rfl,G,by rw[u.o];exact U.o,C.o⟩
  ·have d1:(o.e==0)=false:=bef he
   have HE:Hid (o=R):=(show _=_ by rw[<-HL.o,zhc he]);go_wp2_with fail;(try simp only[Exit.inBlock,Exit.then])
   first|(refine bodyPost_ret (results_none rfl _ _ _) rfl ?_)|(refine bodyPost_end (results_none rfl _ _ _) rfl ?_)
   exact⟨rfl,G,by rw[<-HE.o];exact HF.o,Z.o⟩
end
end Go.Proofs.YtebbdifhiihfkaaGreatDoor

