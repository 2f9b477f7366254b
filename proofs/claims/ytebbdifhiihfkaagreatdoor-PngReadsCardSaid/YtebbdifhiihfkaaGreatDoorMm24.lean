/- XRdP XRd1 XRd2 XRd3 XRd4 -/
import Derived.Test.YtebbdifhiihfkaaGreatDoorMm20
import Derived.Test.YtebbdifhiihfkaaGreatDoorMm01
import Derived.Test.YtebbdifhiihfkaaGreatDoorMm23
import Derived.StillTailTactics
namespace Go.Proofs.YtebbdifhiihfkaaGreatDoor
set_option linter.all false
/-- How far it has come, what came out, its error. -/
structure RS where
 p:Nat
 o:List UInt8
 e:Int
def RS.fail(s:RS)(e:Int):RS:=if s.e=0 then⟨s.p,s.o,e⟩ else s
def zac(bs:List UInt8)(s:RS)(m:Nat):Nat×RS:=if s.e=0 then(if s.p+m<=8*bs.length then(zaj bs s.p m,⟨s.p+m,s.o,0⟩) else(0,⟨s.p,s.o,2⟩)) else(0,s)
def zad(bs:List UInt8)(ls:List Int)(s:RS):Int×RS:=if s.e=0 then((nx ls bs 15 1 0 s.p).1,⟨(nx ls bs 15 1 0 s.p).2.2,s.o,(nx ls bs 15 1 0 s.p).2.1⟩) else(0,s)
def zas(most:Int)(s:RS)(x:UInt8):RS:=if most<=(s.o.length:Int) then s.fail 10 else⟨s.p,s.o++[x],s.e⟩
def za0(bs:List UInt8)(most:Int):Nat->RS->RS
 |0,s=>s
 |k+1,s=>if s.e=0 then(if(zac bs s 8).2.e=0 then za0 bs most k (zas most (zac bs s 8).2 (UInt8.ofNat (zac bs s 8).1)) else(zac bs s 8).2) else s
def zcH(most:Int)(zaf:Nat):Nat->RS->RS
 |0,s=>s
 |k+1,s=>if s.e=0 then zcH most zaf k (zas most s (s.o.getD (s.o.length-zaf) 0)) else s
def za1(most:Int)(s:RS)(len zaf:Nat):RS:=zcH most zaf len (if s.o.length<zaf then s.fail 1 else s)
/-- A stored block. -/
def pl0(s:RS):RS:=⟨8*((s.p+7) / 8),s.o,s.e⟩
def pl2(bs:List UInt8)(s:RS):RS:=(zac bs (zac bs (pl0 s) 16).2 16).2
def pl3(bs:List UInt8)(s:RS):RS:=if(pl2 bs s).e=0/\¬(zac bs (pl0 s) 16).1+(zac bs (zac bs (pl0 s) 16).2 16).1=65535 then(pl2 bs s).fail 4 else pl2 bs s
def zbl(bs:List UInt8)(most:Int)(s:RS):RS:=za0 bs most (zac bs (pl0 s) 16).1 (pl3 bs s)
theorem zcU{bs:List UInt8}{most:Int}{k:Nat}{s:RS}(h:¬s.e=0):za0 bs most k s=s:=by
 cases k with
 |zero=>rfl
 |succ k=>exact if_neg h
theorem zed{most:Int}{zaf k:Nat}{s:RS}(h:¬s.e=0):zcH most zaf k s=s:=by
 cases k with
 |zero=>rfl
 |succ k=>exact if_neg h
theorem zbx(bs:List UInt8)(s:RS){m:Nat}(g:m<=24):(zac bs s m).1<2 ^ m:=by
 unfold zac;split
 ·split
  ·exact zbw bs s.p m
  ·exact Nat.two_pow_pos m
 ·exact Nat.two_pow_pos m
theorem zhb(ls:List Int)(bs:List UInt8):∀f t v P,∃p:Nat,(nx ls bs f t v P).1=(p:Int)/\(p=0\/p<ls.length)/\(¬(nx ls bs f t v P).2.1=0->p=0)
 |0,t,v,P=>⟨0,rfl,.inl rfl,fun _=>rfl⟩
 |f+1,t,v,P=>by
  rw[nx];split
  ·exact⟨0,rfl,.inl rfl,fun _=>rfl⟩
  ·split
   ·rename_i p hp
    refine⟨p,rfl,.inr ?_,fun h=>absurd rfl h⟩;have:=List.mem_of_find?_eq_some hp;exact List.mem_range.1 this
   ·exact zhb ls bs f (t+1) (v*2+zaE bs P) (P+1)
theorem zfz(bs:List UInt8)(ls:List Int)(s:RS):∃p:Nat,(zad bs ls s).1=(p:Int)/\(p=0\/p<ls.length)/\(¬(zad bs ls s).2.e=0->p=0):=by
 unfold zad;split
 ·exact zhb ls bs 15 1 0 s.p
 ·exact⟨0,rfl,.inl rfl,fun _=>rfl⟩
/-- What stands behind a length: a distance, what came out copied. -/
def cpB(bs:List UInt8)(most:Int)(s:RS)(len:Nat):Option (List Int)->RS
 |none=>s.fail 1
 |some ds =>
  if(zad bs ds s).2.e=0/\30<=(zad bs ds s).1 then(zad bs ds s).2.fail 4
  else za1 most (zac bs (zad bs ds s).2 (zae (zad bs ds s).1.toNat).2).2 len ((zae (zad bs ds s).1.toNat).1+(zac bs (zad bs ds s).2 (zae (zad bs ds s).1.toNat).2).1)
/-- What stands behind a length's symbol. -/
def za3(bs:List UInt8)(most:Int)(s:RS)(q:Nat)(dl:Option (List Int)):RS :=
 if 286<=q then s.fail 4
 else if(zac bs s (lenOf (q-257)).2).2.e=0 then cpB bs most (zac bs s (lenOf (q-257)).2).2 ((lenOf (q-257)).1+(zac bs s (lenOf (q-257)).2).1) dl
 else(zac bs s (lenOf (q-257)).2).2
theorem zbq(s:RS)(e:Int):(s.fail e).o=s.o:=by unfold RS.fail;split<;>rfl
theorem zaI(bs:List UInt8)(s:RS)(m:Nat):(zac bs s m).2.o=s.o:=by
 unfold zac;split
 ·split<;>rfl
 ·rfl
theorem zbQ(bs:List UInt8)(ls:List Int)(s:RS):(zad bs ls s).2.o=s.o:=by
 unfold zad;split<;>rfl
theorem zfA{most:Int}{s:RS}{x:UInt8}(h:(s.o.length:Int)<=most):((zas most s x).o.length:Int)<=most:=by
 unfold zas;split
 ·rw[zbq];exact h
 ·rw[lla]
  show((s.o.length+1:Nat):Int)<=most;omega
theorem znV{most:Int}{zaf:Nat}:∀(k:Nat) {s:RS},(s.o.length:Int)<=most->((zcH most zaf k s).o.length:Int)<=most
 |0,s,h=>h
 |k+1,s,h=>by
  unfold zcH;split
  ·exact znV k (zfA h)
  ·exact h
theorem znW{bs:List UInt8}{most:Int}:∀(k:Nat) {s:RS},(s.o.length:Int)<=most->((za0 bs most k s).o.length:Int)<=most
 |0,s,h=>h
 |k+1,s,h=>by
  unfold za0;split
  ·split
   ·exact znW k (zfA (by rw[zaI];exact h))
   ·rw[zaI];exact h
  ·exact h
theorem zoY{most:Int}{s:RS}{len zaf:Nat}(h:(s.o.length:Int)<=most):((za1 most s len zaf).o.length:Int)<=most:=by
 unfold za1;refine znV len ?_;split
 ·rw[zbq];exact h
 ·exact h
theorem zvk{bs:List UInt8}{most:Int}{s:RS}{len:Nat}{dl:Option (List Int)}(h:(s.o.length:Int)<=most):((cpB bs most s len dl).o.length:Int)<=most:=by
 cases dl with
 |none =>
  show((s.fail 1).o.length:Int)<=most;rw[zbq];exact h
 |some ds =>
  rw[cpB];split
  ·rw[zbq,zbQ];exact h
  ·exact zoY (by rw[zaI,zbQ];exact h)
theorem zmc{bs:List UInt8}{most:Int}{s:RS}{q:Nat}{dl:Option (List Int)}(h:(s.o.length:Int)<=most):((za3 bs most s q dl).o.length:Int)<=most:=by
 unfold za3;split
 ·rw[zbq];exact h
 ·split
  ·exact zvk (by rw[zaI];exact h)
  ·rw[zaI];exact h
theorem zq4{bs:List UInt8}{most:Int}{s:RS}(h:(s.o.length:Int)<=most):((zbl bs most s).o.length:Int)<=most:=by
 have g:(pl2 bs s).o=s.o:=by unfold pl2;rw[zaI,zaI];rfl
 refine znW _ ?_;unfold pl3;split
 ·rw[zbq,g];exact h
 ·rw[g];exact h
/-- Tokens up to the end. -/
def zaG(bs:List UInt8)(most:Int)(ll:List Int)(dl:Option (List Int)):Nat->RS->RS
 |0,s=>s
 |f+1,s =>
  if s.e=0 then
   if(zad bs ll s).2.e=0 then
    if(zad bs ll s).1=256 then(zad bs ll s).2
    else if(zad bs ll s).1<256 then zaG bs most ll dl f (zas most (zad bs ll s).2 (UInt8.ofNat (zad bs ll s).1.toNat))
    else zaG bs most ll dl f (za3 bs most (zad bs ll s).2 (zad bs ll s).1.toNat dl)
   else(zad bs ll s).2
  else s
theorem zhc{bs:List UInt8}{most:Int}{g:List Int}{dl:Option (List Int)}{f:Nat}{s:RS}(h:¬s.e=0):zaG bs most g dl f s=s:=by
 cases f with
 |zero=>rfl
 |succ f=>exact if_neg h
/-- A code is good. -/
def OkL(ls:List Int):Prop:=zau ls=false/\krN ls<=32768/\ls.length<=300
theorem zaW(s:RS)(e:Int):(s.fail e).p=s.p:=by unfold RS.fail;split<;>rfl
theorem zcy(bs:List UInt8)(s:RS)(m:Nat):s.p<=(zac bs s m).2.p:=by
 unfold zac;split
 ·split
  ·exact Nat.le_add_right _ _
  ·exact nlr _
 ·exact nlr _
theorem zdH(most:Int)(s:RS)(x:UInt8):(zas most s x).p=s.p:=by
 unfold zas;split
 ·exact zaW s 10
 ·rfl
theorem zq5(most:Int)(zaf:Nat):∀(k:Nat) (s:RS),(zcH most zaf k s).p=s.p
 |0,s=>rfl
 |k+1,s=>by
  unfold zcH;split
  ·rw[zq5,zdH]
  ·rfl
theorem zhd(most:Int)(s:RS)(len zaf:Nat):(za1 most s len zaf).p=s.p:=by
 unfold za1;rw[zq5];split
 ·exact zaW s 1
 ·rfl
theorem zjH(ls:List Int)(bs:List UInt8):∀f t v P,(nx ls bs f t v P).2.1=0->P<(nx ls bs f t v P).2.2
 |0,t,v,P,h=>absurd (show(4:Int)=0 from h) (by decide)
 |f+1,t,v,P,h=>by
  rw[nx] at h ⊢;split at h
  ·exact absurd (show(2:Int)=0 from h) (by decide)
  ·rename_i h2
   rw[if_neg h2];split at h
   ·exact Nat.lt_succ_self P
   ·have:=zjH ls bs f (t+1) (v*2+zaE bs P) (P+1) h
    omega
theorem zuj{bs:List UInt8}{ls:List Int}{s:RS}(h:s.e=0)(h2:(zad bs ls s).2.e=0):s.p<(zad bs ls s).2.p:=by
 unfold zad at h2 ⊢;rw[if_pos h] at h2 ⊢;exact zjH ls bs 15 1 0 s.p h2
theorem zs5(bs:List UInt8)(ls:List Int)(s:RS)(hs:s.p<=8*bs.length):s.p<=(zad bs ls s).2.p:=by
 unfold zad;split
 ·have key:∀f t v P,P<=(nx ls bs f t v P).2.2:=fun f=>by
   induction f with
   |zero=>intro t v P;exact nlr _
   |succ f ih =>
    intro t v P;rw[nx];split
    ·exact nlr _
    ·split
     ·exact Nat.le_succ P
     ·have:=ih (t+1) (v*2+zaE bs P) (P+1)
      omega
  exact key 15 1 0 s.p
 ·exact nlr _
theorem zbe{bs:List UInt8}{s:RS}{m:Nat}(h:s.p<=8*bs.length):(zac bs s m).2.p<=8*bs.length:=by
 unfold zac;split
 ·split
  ·rename_i h2;exact h2
  ·exact h
 ·exact h
theorem zvB{bs:List UInt8}{most:Int}{s:RS}{len:Nat}{dl:Option (List Int)}(h:s.p<=8*bs.length):s.p<=(cpB bs most s len dl).p:=by
 cases dl with
 |none =>
  show s.p<=(s.fail 1).p;rw[zaW];exact nlr _
 |some ds =>
  rw[cpB];have h1:=zs5 bs ds s h;split
  ·rw[zaW];exact h1
  ·rw[zhd]
   exact nlt h1 (zcy bs _ _)
theorem zuk{bs:List UInt8}{most:Int}{s:RS}{q:Nat}{dl:Option (List Int)}(h:s.p<=8*bs.length):s.p<=(za3 bs most s q dl).p:=by
 have h1:=zcy bs s (lenOf (q-257)).2;unfold za3;split
 ·rw[zaW];exact nlr _
 ·split
  ·exact nlt h1 (zvB (zbe h))
  ·exact h1
end Go.Proofs.YtebbdifhiihfkaaGreatDoor

/- flate: the reader of blocks, whatever comes: errors, bits, codes, bytes given out. -/
namespace Go.Proofs.YtebbdifhiihfkaaGreatDoor
set_option linter.all false
set_option maxRecDepth 100000
set_option maxHeartbeats 1600000
open Go.RowKit
def FS(w:World)(r g:Nat)(A:Option Addr)(n c:Nat)(bs:List UInt8)(most:Int)(vo:Value)(s:RS):Prop:=FR w r g A n c s.p bs vo s.o most s.e
/-- A decoder that is newer than the reader, and beside its row. -/
structure DK(w:World)(r g:Nat)(vo:Value)(gd:Nat)(ls:List Int):Prop where
 dec:zjI w gd gd ls
 hr:r<gd
 hg:g<gd
 ne:vo.ownBlock≠some gd
 row:∃A c,Arr w gd (zbW ls 16 (.slice A (zaF ls 15).length c))/\ownI w (gd+1) (.slice A (zaF ls 15).length c) (zaF ls 15)/\Dis vo (.slice A (zaF ls 15).length c)
section
variable {w w' : World} {r g gd : Nat} {vo vo' : Value} {ls : List Int}
theorem ownI.rfr{v:Value}{l:List Int}{base:Nat}(h:ownI w base v l)(D:RFr w w' r g vo vo')(hr:r<base)(hg:g<base)(E:Dis vo v):ownI w' base v l:=by
 have C:∀k,v.ownBlock=some k->w'.heap[k]?=w.heap[k]?:=fun k z=>by
  have:=olt h k z;exact D.block k this.2 (by omega) (by omega) (fun e=>E k e z)
 refine⟨h.1,?_⟩;rcases h.2 with B | ⟨q,u,o,rfl,t,hq,rest⟩
 ·exact .inl B
 ·exact .inr ⟨q,u,o,rfl,t,(C q rfl).trans hq,rest⟩
theorem Dis.rfr2{v:Value}(h:∀k,v.ownBlock=some k->k<w.heap.size)(q:RFr w w' r g vo vo')(t:Dis vo v):Dis vo' v:=by
 intro k o hv;rcases q.own with e | ⟨j,u,e⟩
 ·exact t k (e.symm.trans o) hv
 ·rw[e] at o
  injection o with o;have:=h k hv;omega
theorem DK.fr(h:DK w r g vo gd ls)(o:RFr w w' r g vo vo'):DK w' r g vo' gd ls:=by
 obtain⟨A,c,h1,h2,u⟩:=h.row;have hlt:=h1.lt;have hr:=h.hr;have hg:=h.hg;have B:Arr w' gd (zbW ls 16 (.slice A (zaF ls 15).length c)):=by
  obtain⟨t,ht⟩:=h1;exact⟨t,(o.block gd hlt (by omega) (by omega) h.ne).trans ht⟩
 have z:=ownI.rfr h2 o (by omega) (by omega) u;have D:=Dis.rfr2 (fun k C=>(olt h2 k C).2) o u;refine⟨⟨A,c,B,z,nlr _⟩,hr,hg,fun e=>?_,A,c,B,z,D⟩;rcases o.own with q | ⟨j,E,q⟩
 ·exact h.ne (q.symm.trans e)
 ·rw[q] at e
  injection e with e;omega
theorem DK.new{lo:Nat}(h:zjI w lo gd ls)(hr:r<lo)(hg:g<lo)(hv:∀k,vo.ownBlock=some k->k<lo):DK w r g vo gd ls:=by
 obtain⟨A,c,h1,h2,t⟩:=h;refine⟨⟨A,c,h1,h2,nlr _⟩,by omega,by omega,fun e=>?_,A,c,h1,h2,fun k q o=>?_⟩
 ·have:=hv gd e
  omega
 ·have h4:=hv k q
  have u:=(olt h2 k o).1;omega
end
theorem FR.sete{w:World}{r g:Nat}{A:Option Addr}{n c P:Nat}{bs:List UInt8}{vo:Value}{out:List UInt8}{most e:Int}(h:FR w r g A n c P bs vo out most e)(E:Int):FR (w.setCell ⟨r,3,none⟩ (.int .i64 E)) r g A n c P bs vo out most E:=by
 have o:=h.gr;exact⟨h.arr.set 3 (.int .i64 E),h.rd.far (p:=⟨r,3,none⟩) (by show r≠g;omega) _,h.rb.blw ((Below.refl g w).setCell (p:=⟨r,3,none⟩) (by show g<=r;omega) _),ownB.far h.own (g:=r) (zbu h.own (Nat.lt_succ_self r)) 3 _,o,h.fit,h.big⟩
theorem zi2(ls:List Int)(bs:List UInt8):∀f t v P,P<=8*bs.length->(nx ls bs f t v P).2.2<=8*bs.length/\P<=(nx ls bs f t v P).2.2
 |0,t,v,P,h=>⟨h,nlr _⟩
 |f+1,t,v,P,h=>by
  rw[nx];split
  ·exact⟨h,nlr _⟩
  ·rename_i h2
   split
   ·exact⟨by show P+1<=_;omega,by show P<=P+1;omega⟩
   ·have:=zi2 ls bs f (t+1) (v*2+zaE bs P) (P+1) (by omega)
    exact⟨this.1,by omega⟩
section
variable (r g n c : Nat) (A : Option Addr) (bs : List UInt8) (most : Int) (vo : Value) (s : RS) (w : World)
theorem za8(E:Int)(h:FS w r g A n c bs most vo s):
  Calls Tryz.prog 105 #[.pointer (some ⟨r,0,none⟩),.int .i64 E] w fun e w'=>e=.returned (.tuple #[])/\FS w' r g A n c bs most vo (s.fail E)/\RFr w w' r g vo vo:=by
 obtain⟨P,out,o⟩:=s;have h:FR w r g A n c P bs vo out most o:=h;have H:=yo h;have c3:=h.arr.cell (k:=3) rfl;have z:=h.arr.frozen 3;by_cases he:o=0
 ·subst he
  have t:=yo (h.sete E);have q:=yo ((RFr.refl w r g vo).set1 3 (.int .i64 E));clear h;go_enter Tryz.func105,Tryz.ntmps105;go_wp2_with fail;(try simp only[Exit.inBlock,Exit.then])
  first|(refine bodyPost_ret (results_none rfl _ _ _) rfl ?_)|(refine bodyPost_end (results_none rfl _ _ _) rfl ?_)
  exact⟨rfl,t.o,q.o⟩
 ·have u:(o==0)=false:=bef he
  have hs:RS.fail ⟨P,out,o⟩ E=⟨P,out,o⟩:=if_neg he;rw[hs];clear h;go_enter Tryz.func105,Tryz.ntmps105;go_wp2_with fail;(try simp only[Exit.inBlock,Exit.then])
  first|(refine bodyPost_ret (results_none rfl _ _ _) rfl ?_)|(refine bodyPost_end (results_none rfl _ _ _) rfl ?_)
  exact⟨rfl,H.o,RFr.refl _ _ _ _⟩
theorem zbf(m:Nat)(M:Int)(L:M=(m:Int))(h:FS w r g A n c bs most vo s)(N:m<=24):
  Calls Tryz.prog 101 #[.pointer (some ⟨r,0,none⟩),.int .i64 M] w fun e w'=>e=.returned (.int .i64 ((zac bs s m).1:Int))/\FS w' r g A n c bs most vo (zac bs s m).2/\RFr w w' r g vo vo:=by
 obtain⟨P,out,u⟩:=s;have h:FR w r g A n c P bs vo out most u:=h;have B:=h.rb.len;by_cases he:u=0
 ·subst he
  by_cases hf:P+m<=8*n
  ·have t:zac bs ⟨P,out,0⟩ m=(zaj bs P m,⟨P+m,out,0⟩):=by
    show(if(0:Int)=0 then(if P+m<=8*bs.length then _ else _) else _)=_;rw[if_pos rfl,if_pos (by rw[B];exact hf)]
   rw[t];exact zuh r g n c P m A bs vo out most M L w h N hf
  ·have t:zac bs ⟨P,out,0⟩ m=(0,⟨P,out,2⟩):=by
    show(if(0:Int)=0 then(if P+m<=8*bs.length then _ else _) else _)=_;rw[if_pos rfl,if_neg (by rw[B];exact hf)]
   rw[t];subst L;have O:=yo (zkl g n c P m A w h.rd (by have:=h.big;omega) h.fit N (by omega));have H:=yo h;have J:=yo (fun w' (h:FS w' r g A n c bs most vo ⟨P,out,0⟩)=>za8 r g n c A bs most vo ⟨P,out,0⟩ w' 2 h);have T:=h.arr.cell (k:=0) rfl;have c3:=h.arr.cell (k:=3) rfl;clear h t;go_enter Tryz.func101,Tryz.ntmps101;go_wp2_with (first
    |(go_at_call 126;(with_reducible refine O.o.mono ?_);go_must (rintro e w1 ⟨rfl,o⟩;have q:=zd8 o g;have D:=yo (show FS w1 r g A n c bs most vo ⟨P,out,0⟩ from H.o.moved (H.o.rd.gbN o) q H.o.fit);have E:=yo (J.o w1 D.o);have G:=yo (RFr.ofG q r vo);clear o q))
    |(go_at_call 105;(with_reducible refine E.o.mono ?_);go_must (rintro e w2 ⟨rfl,z,C⟩;have I:=yo z;have F:=yo (G.o.trans C);clear z C)))
   go_ret;exact⟨rfl,I.o,F.o⟩
 ·have S:(u != 0)=true:=by rw[bne_iff_ne];exact he
  have R:(u==0)=false:=bef he;have t:zac bs ⟨P,out,u⟩ m=(0,⟨P,out,u⟩):=if_neg he;rw[t];have H:=yo h;have c3:=h.arr.cell (k:=3) rfl;clear h t;go_enter Tryz.func101,Tryz.ntmps101;go_wp2_with fail;go_ret;exact⟨rfl,H.o,RFr.refl _ _ _ _⟩
end
end Go.Proofs.YtebbdifhiihfkaaGreatDoor

/- flate: the reader of blocks, whatever comes: codes, bytes given out. -/
namespace Go.Proofs.YtebbdifhiihfkaaGreatDoor
set_option linter.all false
set_option maxRecDepth 100000
set_option maxHeartbeats 1600000
open Go.RowKit
section
variable (r g n c : Nat) (A : Option Addr) (bs : List UInt8) (most : Int) (vo : Value) (s : RS) (w : World)
theorem zhe(J:Nat)(ls:List Int)(h:FS w r g A n c bs most vo s)(L:DK w r g vo J ls)(F:zau ls=false)(O:krN ls<=32768)(R:ls.length<=300):
  Calls Tryz.prog 158 #[.pointer (some ⟨r,0,none⟩),.pointer (some ⟨J,0,none⟩)] w fun e w'=>e=.returned (.int .i64 (zad bs ls s).1)/\FS w' r g A n c bs most vo (zad bs ls s).2/\RFr w w' r g vo vo:=by
 obtain⟨P,out,B⟩:=s;have h:FR w r g A n c P bs vo out most B:=h;have D:=h.rb.len;have H:=yo h;have X:=h.arr.cell (k:=0) rfl;have c3:=h.arr.cell (k:=3) rfl;by_cases he:B=0
 ·subst he
  have S:=yo (zs7 g n c J g P A ls bs w J L.dec L.hg h.rd h.rb (nlr _) h.fit (by have:=h.big;omega) F O R);have G:zad bs ls ⟨P,out,0⟩=((nx ls bs 15 1 0 P).1,⟨(nx ls bs 15 1 0 P).2.2,out,(nx ls bs 15 1 0 P).2.1⟩):=if_pos rfl;have u:=(zi2 ls bs 15 1 0 P (by rw[D];exact h.fit)).1;rw[D] at u;rw[G];unfold zgj at S;generalize (nx ls bs 15 1 0 P).1=v at *;generalize (nx ls bs 15 1 0 P).2.2=Q at *;generalize (nx ls bs 15 1 0 P).2.1=E at *;clear h G L;by_cases hE:E=0
  ·subst hE
   go_enter Tryz.func158,Tryz.ntmps158;go_wp2_with (go_at_call 179;(with_reducible refine S.o.mono ?_);go_must (rintro e w1 ⟨rfl,q,o⟩;have t:=yo (H.o.moved q o u);have z:=yo (RFr.ofG o r vo);clear q o));go_ret;exact⟨rfl,t.o,z.o⟩
  ·have W:(E != 0)=true:=by rw[bne_iff_ne];exact hE
   have V:(E==0)=false:=bef hE;have U:=yo (fun w' (h:FS w' r g A n c bs most vo ⟨Q,out,0⟩)=>za8 r g n c A bs most vo ⟨Q,out,0⟩ w' E h);go_enter Tryz.func158,Tryz.ntmps158;go_wp2_with (first
    |(go_at_call 179;(with_reducible refine S.o.mono ?_);go_must (rintro e w1 ⟨rfl,q,o⟩;have t:=yo (show FS w1 r g A n c bs most vo ⟨Q,out,0⟩ from H.o.moved q o u);have M:=yo (U.o w1 t.o);have z:=yo (RFr.ofG o r vo);clear q o))
    |(go_at_call 105;(with_reducible refine M.o.mono ?_);go_must (rintro e w2 ⟨rfl,C,I⟩;have T:=yo C;have N:=yo (z.o.trans I);clear C I)))
   go_ret;exact⟨rfl,T.o,N.o⟩
 ·have W:(B != 0)=true:=by rw[bne_iff_ne];exact he
  have V:(B==0)=false:=bef he;have G:zad bs ls ⟨P,out,B⟩=(0,⟨P,out,B⟩):=if_neg he;rw[G];clear h G L;go_enter Tryz.func158,Tryz.ntmps158;go_wp2_with fail;go_ret;exact⟨rfl,H.o,RFr.refl _ _ _ _⟩
theorem zcV(x:UInt8)(h:FS w r g A n c bs most vo s)(hm:most<=1000000):
  Calls Tryz.prog 128 #[.pointer (some ⟨r,0,none⟩),.int .u8 (x.toNat:Int)] w fun e w'=>e=.returned (.tuple #[])/\∃vo',FS w' r g A n c bs most vo' (zas most s x)/\RFr w w' r g vo vo':=by
 obtain⟨P,out,z⟩:=s;have h:FR w r g A n c P bs vo out most z:=h;obtain⟨S,T,rfl,-,-,-⟩:=h.own.form;have H:=yo h;have G:=yo (fun q=>h.drewN q);have c1:=h.arr.cell (k:=1) rfl;have c2:=h.arr.cell (k:=2) rfl;have Y:=h.arr.lt;by_cases hlt:most<=(out.length:Int)
 ·have I:zas most ⟨P,out,z⟩ x=RS.fail ⟨P,out,z⟩ 10:=if_pos hlt
  have U:=yo (fun w' (h:FS w' r g A n c bs most (.slice S out.length T) ⟨P,out,z⟩)=>za8 r g n c A bs most (.slice S out.length T) ⟨P,out,z⟩ w' 10 h);rw[I];clear h I;go_enter Tryz.func128,Tryz.ntmps128;go_wp2_with fail;go_quiet (fail);have M:=yo (U.o _ (G.o nq));go_wp2_with (go_at_call 105;(with_reducible refine M.o.mono ?_);go_must (rintro e w2 ⟨rfl,E,J⟩;have u:=yo E;have N:=yo (RFr.drew0 J);clear E J));(try simp only[Exit.inBlock,Exit.then])
  first|(refine bodyPost_ret (results_none rfl _ _ _) rfl ?_)|(refine bodyPost_end (results_none rfl _ _ _) rfl ?_)
  exact⟨rfl,_,u.o,N.o⟩
 ·have I:zas most ⟨P,out,z⟩ x=⟨P,out++[x],z⟩:=if_neg hlt
  rw[I];have W:decide ((out.length:Int) ≥ most)=false:=decide_eq_false (by omega);have aa:Hid ((out++[x]).length=out.length+1):=(show _=_ by simp);clear h I;go_enter Tryz.func128,Tryz.ntmps128;go_wp2_with fail;go_quiet (fail);go_wp2_with (at_builtin;go_must (refine zat rfl (.tmp 20) (.tmp 22) rfl (r+1) _ out rfl (ownB.alloc (G.o nq).own _) ((w.drewN nq).heap.size+1) 1 1 (some ⟨(w.drewN nq).heap.size,0,none⟩) [x] rfl (zfN (w.drewN nq) (x.toNat:Int) x rfl) (by omega) (by rw[wsa];show r+1<=w.heap.size+1;omega) ?_;intro v1 V o D t F;obtain⟨A3,c3,rfl,R,-,-⟩:=o.form;clear R;have u:=yo (show RFr w V r g (.slice S out.length T) (.slice A3 (out++[x]).length c3) from RFr.drew0 (RFr.grown (r:=r) (g:=g) _ D F));rw[show(out++[x]).length=out.length+1 by simp] at o u ⊢;have B:=yo (((G.o nq).arr.alloc (.cells #[Value.int .u8 (x.toNat:Int)] 5)).blw t (Nat.lt_succ_self r));have L:=yo (((G.o nq).rd.alloc (.cells #[Value.int .u8 (x.toNat:Int)] 5)).blw t (by have:=H.o.gr;omega));have O:=yo (RdB.blw (Rd.alloc (G.o nq).rb (by show g<=w.heap.size;have:=H.o.gr;omega) (.cells #[Value.int .u8 (x.toNat:Int)] 5)) (t.mono (by have:=H.o.gr;omega)));have C:=yo o;have Z:=B.o.cell (k:=1) rfl;have X:=B.o.frozen 1;clear o t F D));(try simp only[Exit.inBlock,Exit.then])
  first|(refine bodyPost_ret (results_none rfl _ _ _) rfl ?_)|(refine bodyPost_end (results_none rfl _ _ _) rfl ?_)
  refine⟨rfl,_,⟨B.o.set 1 _,L.o.far (p:=⟨r,1,none⟩) (by show r≠g;have:=H.o.gr;omega) _,O.o.blw ((Below.refl g V).setCell (p:=⟨r,1,none⟩) (by show g<=r;have:=H.o.gr;omega) _),ownB.far C.o (g:=r) (zbu C.o (Nat.lt_succ_self r)) 1 _,H.o.gr,H.o.fit,H.o.big⟩,u.o.set1 1 _⟩
end
end Go.Proofs.YtebbdifhiihfkaaGreatDoor

/- flate: the reader of blocks, whatever comes: a stored block; what came out, copied. -/
namespace Go.Proofs.YtebbdifhiihfkaaGreatDoor
set_option linter.all false
set_option maxRecDepth 100000
set_option maxHeartbeats 3200000
open Go.RowKit
section
variable (r g n c : Nat) (A : Option Addr) (bs : List UInt8) (most : Int) (vo : Value) (s : RS) (w : World)
theorem zoZ(h:FS w r g A n c bs most vo s)(hm:most<=1000000):
  Calls Tryz.prog 102 #[.pointer (some ⟨r,0,none⟩)] w fun e w'=>e=.returned (.tuple #[])/\∃vo',FS w' r g A n c bs most vo' (zbl bs most s)/\RFr w w' r g vo vo':=by
 have H:=yo h;have aa:FR w r g A n c s.p bs vo s.o most s.e:=h;have c0:=aa.arr.cell (k:=0) rfl;have ac:=yo (zoU g n c s.p A w aa.rd (by have:=aa.fit;have:=aa.big;omega));have ai:Hid (∀w1,Arr w1 g (rdr A n c (8*((s.p+7) / 8)))->w.grownBy w1 (some g)->FS w1 r g A n c bs most vo (pl0 s)):=(show ∀w1,_ from fun w1 ha hg=>aa.moved ha hg (by show 8*((s.p+7) / 8)<=8*n;have:=aa.fit;omega));have ae:=yo (fun w1 (h:FS w1 r g A n c bs most vo (pl0 s))=>zbf r g n c A bs most vo (pl0 s) w1 16 16 rfl h (by omega));have ab:=yo (fun w1 (h:FS w1 r g A n c bs most vo (zac bs (pl0 s) 16).2)=>zbf r g n c A bs most vo (zac bs (pl0 s) 16).2 w1 16 16 rfl h (by omega));have l1:=zbx bs (pl0 s) (m:=16) (by omega);have l2:=zbx bs (zac bs (pl0 s) 16).2 (m:=16) (by omega);have ag:Hid (pl3 bs s=if(pl2 bs s).e=0/\¬(zac bs (pl0 s) 16).1+(zac bs (zac bs (pl0 s) 16).2 16).1=65535 then(pl2 bs s).fail 4 else pl2 bs s):=(show _=_ from rfl);have az:Hid (zbl bs most s=za0 bs most (zac bs (pl0 s) 16).1 (pl3 bs s)):=(show _=_ from rfl);have e2:(zac bs (zac bs (pl0 s) 16).2 16).2=pl2 bs s:=rfl;rw[e2] at ab;generalize pl2 bs s=s2 at *;generalize pl3 bs s=s3 at *;generalize (zac bs (zac bs (pl0 s) 16).2 16).1=M at *;generalize (zac bs (pl0 s) 16).2=s1 at *;generalize (zac bs (pl0 s) 16).1=N at *;generalize pl0 s=s0 at *;generalize zbl bs most s=R at *;clear h aa e2;have l1:N<65536:=l1;have l2:M<65536:=l2;have ah:=yo (fun w' (h:FS w' r g A n c bs most vo s2)=>za8 r g n c A bs most vo s2 w' 4 h);have HS:Hid (∀w2,FS w2 r g A n c bs most vo s2->w2.cell? ⟨r,3,none⟩=some (.int .i64 s2.e)):=(show ∀w2,_ from fun w2 h=>FR.arr h |>.cell (k:=3) rfl);have u:Hid (za0 bs most (N-0) s3=R):=(show _=_ by rw[az.o];rfl);go_enter Tryz.func102,Tryz.ntmps102;by_cases he2:s2.e=0
 ·have d2:(s2.e==0)=true:=by rw[he2];rfl
  by_cases hnm:N+M=65535
  ·have a0:(N:Int)+(M:Int)=65535:=by omega
   rw[if_neg (fun h=>h.2 hnm)] at ag;rw[ag.o] at u;go_wp2_with (first
   |(go_at_call 127;(with_reducible refine ac.o.mono ?_);go_must (rintro e w1 ⟨rfl,L,F⟩;have aj:=yo (ai.o w1 L F);have E:=yo (ae.o w1 aj.o);have ap:=yo (RFr.ofG F r vo);clear L F))
   |(go_at_call 101;(with_reducible refine E.o.mono ?_);go_must (rintro e w2 ⟨rfl,W,Y⟩;have D:=yo (ab.o w2 W);have am:=yo (ap.o.trans Y);clear W Y E))
   |(go_at_call 101;(with_reducible refine D.o.mono ?_);go_must (rintro e w3 ⟨rfl,C,V⟩;have ay:=HS.o w3 C;have af:=yo C;have Z:=yo (am.o.trans V);have an:=yo (ah.o w3 C);clear C V D)))
   go_loopw [4] (fun vi wr=>∃(i:Nat) (o:RS) (B:Value),i<=N/\vi=.int .i64 i/\Hid (FS wr r g A n c bs most B o)/\Hid (RFr w wr r g vo B)/\Hid (za0 bs most (N-i) o=R)) (fun vi _=>N-(intOf vi).toNat)
   case atStart=>exact⟨0,_,vo,Nat.zero_le _,rfl,af,Z,u⟩
   case round =>
    clear ac ai ae ab ah HS u af Z;obtain⟨i,o,B,hi,rfl,HF,HR,HL⟩:=hrel;have e3:=(FR.arr HF.o).cell (k:=3) rfl;by_cases hlt:i<N
    ·have T:(i:Int)<(N:Int):=by omega
     by_cases he:o.e=0
     ·have d1:(o.e==0)=true:=by rw[he];rfl
      have I:=yo (zbf r g n c A bs most B o wr 8 8 rfl HF.o (by omega));have hv:=zbx bs o (m:=8) (by omega);have q:Hid (za0 bs most (N-i) o=if(zac bs o 8).2.e=0 then za0 bs most (N-(i+1)) (zas most (zac bs o 8).2 (UInt8.ofNat (zac bs o 8).1)) else(zac bs o 8).2):=(show _=_ by rw[show N-i=(N-(i+1))+1 by omega];exact if_pos he);obtain⟨x,hx⟩:∃x:UInt8,(zac bs o 8).1=x.toNat:=⟨UInt8.ofNat (zac bs o 8).1,by rw[UInt8.toNat_ofNat'];exact(Nat.mod_eq_of_lt (by omega)).symm⟩;rw[hx] at I;have J:UInt8.ofNat (zac bs o 8).1=x:=(by rw[hx];simp);rw[J,HL.o] at q;have x8:=x.toNat_lt;clear hx J hv;generalize (zac bs o 8).2=t1 at *;by_cases ht:t1.e=0
      ·have d2:(t1.e==0)=true:=by rw[ht];rfl
       rw[if_pos ht] at q;have al:=yo (fun U (h:FS U r g A n c bs most B t1)=>zcV r g n c A bs most B t1 U x h hm);go_wp2_with (first
        |(go_at_call 101;(with_reducible refine I.o.mono ?_);go_must (rintro e U ⟨rfl,t,z⟩;have aq:=(FR.arr t).cell (k:=3) rfl;have X:=yo (al.o U t);have G:=yo (HR.o.trans z);clear t z))
        |(go_at_call 128;(with_reducible refine X.o.mono ?_);go_must (rintro e w6 ⟨rfl,v6,P,S⟩;have ak:=yo P;have ao:=yo (G.o.trans S);clear P S)))
       go_roundw
       case rel=>exact⟨i+1,_,v6,by omega,by go_num,ak,ao,q.o.symm⟩
       case measure=>simp[intOf];omega
      ·have d2:(t1.e==0)=false:=bef ht
       rw[if_neg ht] at q;have O:Hid (za0 bs most (N-(i+1)) t1=R):=(show _=_ by rw[zcU ht,q.o]);go_wp2_with (go_at_call 101;(with_reducible refine I.o.mono ?_);go_must (rintro e U ⟨rfl,t,z⟩;have aq:=(FR.arr t).cell (k:=3) rfl;have ar:=yo t;have G:=yo (HR.o.trans z);clear t z));go_roundw
       case rel=>exact⟨i+1,t1,B,by omega,by go_num,ar,G,O⟩
       case measure=>simp[intOf];omega
     ·have d1:(o.e==0)=false:=bef he
      have O:Hid (o=R):=(show _=_ by rw[<-HL.o,zcU he]);go_wp2_with fail;(try simp only[Exit.inBlock,Exit.then])
      first|(refine bodyPost_ret (results_none rfl _ _ _) rfl ?_)|(refine bodyPost_end (results_none rfl _ _ _) rfl ?_)
      exact⟨rfl,B,by rw[<-O.o];exact HF.o,HR.o⟩
    ·obtain rfl:i=N:=by omega
     have T:¬(i:Int)<(i:Int):=(by omega);have O:Hid (o=R):=(show _=_ by rw[<-HL.o,Nat.sub_self];rfl);go_wp2_with fail;(try simp only[Exit.inBlock,Exit.then])
     first|(refine bodyPost_ret (results_none rfl _ _ _) rfl ?_)|(refine bodyPost_end (results_none rfl _ _ _) rfl ?_)
     exact⟨rfl,B,by rw[<-O.o];exact HF.o,HR.o⟩
  ·have d3:((N:Int)+(M:Int) != 65535)=true:=by rw[bne_iff_ne];omega
   rw[if_pos ⟨he2,hnm⟩] at ag;rw[ag.o] at u;go_wp2_with (first
   |(go_at_call 127;(with_reducible refine ac.o.mono ?_);go_must (rintro e w1 ⟨rfl,L,F⟩;have aj:=yo (ai.o w1 L F);have E:=yo (ae.o w1 aj.o);have ap:=yo (RFr.ofG F r vo);clear L F))
   |(go_at_call 101;(with_reducible refine E.o.mono ?_);go_must (rintro e w2 ⟨rfl,W,Y⟩;have D:=yo (ab.o w2 W);have am:=yo (ap.o.trans Y);clear W Y E))
   |(go_at_call 101;(with_reducible refine D.o.mono ?_);go_must (rintro e w3 ⟨rfl,C,V⟩;have ay:=HS.o w3 C;have af:=yo C;have Z:=yo (am.o.trans V);have an:=yo (ah.o w3 C);clear C V D))
   |(go_at_call 105;(with_reducible refine an.o.mono ?_);go_must (rintro e w4 ⟨rfl,aw,av⟩;have au:=yo aw;have ax:=yo (Z.o.trans av);clear aw av)))
   go_loopw [4] (fun vi wr=>∃(i:Nat) (o:RS) (B:Value),i<=N/\vi=.int .i64 i/\Hid (FS wr r g A n c bs most B o)/\Hid (RFr w wr r g vo B)/\Hid (za0 bs most (N-i) o=R)) (fun vi _=>N-(intOf vi).toNat)
   case atStart=>exact⟨0,_,vo,Nat.zero_le _,rfl,au,ax,u⟩
   case round =>
    clear ac ai ae ab ah HS u au ax;obtain⟨i,o,B,hi,rfl,HF,HR,HL⟩:=hrel;have e3:=(FR.arr HF.o).cell (k:=3) rfl;by_cases hlt:i<N
    ·have T:(i:Int)<(N:Int):=by omega
     by_cases he:o.e=0
     ·have d1:(o.e==0)=true:=by rw[he];rfl
      have I:=yo (zbf r g n c A bs most B o wr 8 8 rfl HF.o (by omega));have hv:=zbx bs o (m:=8) (by omega);have q:Hid (za0 bs most (N-i) o=if(zac bs o 8).2.e=0 then za0 bs most (N-(i+1)) (zas most (zac bs o 8).2 (UInt8.ofNat (zac bs o 8).1)) else(zac bs o 8).2):=(show _=_ by rw[show N-i=(N-(i+1))+1 by omega];exact if_pos he);obtain⟨x,hx⟩:∃x:UInt8,(zac bs o 8).1=x.toNat:=⟨UInt8.ofNat (zac bs o 8).1,by rw[UInt8.toNat_ofNat'];exact(Nat.mod_eq_of_lt (by omega)).symm⟩;rw[hx] at I;have J:UInt8.ofNat (zac bs o 8).1=x:=(by rw[hx];simp);rw[J,HL.o] at q;have x8:=x.toNat_lt;clear hx J hv;generalize (zac bs o 8).2=t1 at *;by_cases ht:t1.e=0
      ·have d2:(t1.e==0)=true:=by rw[ht];rfl
       rw[if_pos ht] at q;have al:=yo (fun U (h:FS U r g A n c bs most B t1)=>zcV r g n c A bs most B t1 U x h hm);go_wp2_with (first
        |(go_at_call 101;(with_reducible refine I.o.mono ?_);go_must (rintro e U ⟨rfl,t,z⟩;have aq:=(FR.arr t).cell (k:=3) rfl;have X:=yo (al.o U t);have G:=yo (HR.o.trans z);clear t z))
        |(go_at_call 128;(with_reducible refine X.o.mono ?_);go_must (rintro e w6 ⟨rfl,v6,P,S⟩;have ak:=yo P;have ao:=yo (G.o.trans S);clear P S)))
       go_roundw
       case rel=>exact⟨i+1,_,v6,by omega,by go_num,ak,ao,q.o.symm⟩
       case measure=>simp[intOf];omega
      ·have d2:(t1.e==0)=false:=bef ht
       rw[if_neg ht] at q;have O:Hid (za0 bs most (N-(i+1)) t1=R):=(show _=_ by rw[zcU ht,q.o]);go_wp2_with (go_at_call 101;(with_reducible refine I.o.mono ?_);go_must (rintro e U ⟨rfl,t,z⟩;have aq:=(FR.arr t).cell (k:=3) rfl;have ar:=yo t;have G:=yo (HR.o.trans z);clear t z));go_roundw
       case rel=>exact⟨i+1,t1,B,by omega,by go_num,ar,G,O⟩
       case measure=>simp[intOf];omega
     ·have d1:(o.e==0)=false:=bef he
      have O:Hid (o=R):=(show _=_ by rw[<-HL.o,zcU he]);go_wp2_with fail;(try simp only[Exit.inBlock,Exit.then])
      first|(refine bodyPost_ret (results_none rfl _ _ _) rfl ?_)|(refine bodyPost_end (results_none rfl _ _ _) rfl ?_)
      exact⟨rfl,B,by rw[<-O.o];exact HF.o,HR.o⟩
    ·obtain rfl:i=N:=by omega
     have T:¬(i:Int)<(i:Int):=(by omega);have O:Hid (o=R):=(show _=_ by rw[<-HL.o,Nat.sub_self];rfl);go_wp2_with fail;(try simp only[Exit.inBlock,Exit.then])
     first|(refine bodyPost_ret (results_none rfl _ _ _) rfl ?_)|(refine bodyPost_end (results_none rfl _ _ _) rfl ?_)
     exact⟨rfl,B,by rw[<-O.o];exact HF.o,HR.o⟩
 ·have d2:(s2.e==0)=false:=bef he2
  rw[if_neg (fun h=>he2 h.1)] at ag;rw[ag.o] at u;go_wp2_with (first
   |(go_at_call 127;(with_reducible refine ac.o.mono ?_);go_must (rintro e w1 ⟨rfl,L,F⟩;have aj:=yo (ai.o w1 L F);have E:=yo (ae.o w1 aj.o);have ap:=yo (RFr.ofG F r vo);clear L F))
   |(go_at_call 101;(with_reducible refine E.o.mono ?_);go_must (rintro e w2 ⟨rfl,W,Y⟩;have D:=yo (ab.o w2 W);have am:=yo (ap.o.trans Y);clear W Y E))
   |(go_at_call 101;(with_reducible refine D.o.mono ?_);go_must (rintro e w3 ⟨rfl,C,V⟩;have ay:=HS.o w3 C;have af:=yo C;have Z:=yo (am.o.trans V);have an:=yo (ah.o w3 C);clear C V D)))
  go_loopw [4] (fun vi wr=>∃(i:Nat) (o:RS) (B:Value),i<=N/\vi=.int .i64 i/\Hid (FS wr r g A n c bs most B o)/\Hid (RFr w wr r g vo B)/\Hid (za0 bs most (N-i) o=R)) (fun vi _=>N-(intOf vi).toNat)
  case atStart=>exact⟨0,_,vo,Nat.zero_le _,rfl,af,Z,u⟩
  case round =>
   clear ac ai ae ab ah HS u af Z;obtain⟨i,o,B,hi,rfl,HF,HR,HL⟩:=hrel;have e3:=(FR.arr HF.o).cell (k:=3) rfl;by_cases hlt:i<N
   ·have T:(i:Int)<(N:Int):=by omega
    by_cases he:o.e=0
    ·have d1:(o.e==0)=true:=by rw[he];rfl
     have I:=yo (zbf r g n c A bs most B o wr 8 8 rfl HF.o (by omega));have hv:=zbx bs o (m:=8) (by omega);have q:Hid (za0 bs most (N-i) o=if(zac bs o 8).2.e=0 then za0 bs most (N-(i+1)) (zas most (zac bs o 8).2 (UInt8.ofNat (zac bs o 8).1)) else(zac bs o 8).2):=(show _=_ by rw[show N-i=(N-(i+1))+1 by omega];exact if_pos he);obtain⟨x,hx⟩:∃x:UInt8,(zac bs o 8).1=x.toNat:=⟨UInt8.ofNat (zac bs o 8).1,by rw[UInt8.toNat_ofNat'];exact(Nat.mod_eq_of_lt (by omega)).symm⟩;rw[hx] at I;have J:UInt8.ofNat (zac bs o 8).1=x:=(by rw[hx];simp);rw[J,HL.o] at q;have x8:=x.toNat_lt;clear hx J hv;generalize (zac bs o 8).2=t1 at *;by_cases ht:t1.e=0
     ·have d2:(t1.e==0)=true:=by rw[ht];rfl
      rw[if_pos ht] at q;have al:=yo (fun U (h:FS U r g A n c bs most B t1)=>zcV r g n c A bs most B t1 U x h hm);go_wp2_with (first
       |(go_at_call 101;(with_reducible refine I.o.mono ?_);go_must (rintro e U ⟨rfl,t,z⟩;have aq:=(FR.arr t).cell (k:=3) rfl;have X:=yo (al.o U t);have G:=yo (HR.o.trans z);clear t z))
       |(go_at_call 128;(with_reducible refine X.o.mono ?_);go_must (rintro e w6 ⟨rfl,v6,P,S⟩;have ak:=yo P;have ao:=yo (G.o.trans S);clear P S)))
      go_roundw
      case rel=>exact⟨i+1,_,v6,by omega,by go_num,ak,ao,q.o.symm⟩
      case measure=>simp[intOf];omega
     ·have d2:(t1.e==0)=false:=bef ht
      rw[if_neg ht] at q;have O:Hid (za0 bs most (N-(i+1)) t1=R):=(show _=_ by rw[zcU ht,q.o]);go_wp2_with (go_at_call 101;(with_reducible refine I.o.mono ?_);go_must (rintro e U ⟨rfl,t,z⟩;have aq:=(FR.arr t).cell (k:=3) rfl;have ar:=yo t;have G:=yo (HR.o.trans z);clear t z));go_roundw
      case rel=>exact⟨i+1,t1,B,by omega,by go_num,ar,G,O⟩
      case measure=>simp[intOf];omega
    ·have d1:(o.e==0)=false:=bef he
     have O:Hid (o=R):=(show _=_ by rw[<-HL.o,zcU he]);go_wp2_with fail;(try simp only[Exit.inBlock,Exit.then])
     first|(refine bodyPost_ret (results_none rfl _ _ _) rfl ?_)|(refine bodyPost_end (results_none rfl _ _ _) rfl ?_)
     exact⟨rfl,B,by rw[<-O.o];exact HF.o,HR.o⟩
   ·obtain rfl:i=N:=by omega
    have T:¬(i:Int)<(i:Int):=(by omega);have O:Hid (o=R):=(show _=_ by rw[<-HL.o,Nat.sub_self];rfl);go_wp2_with fail;(try simp only[Exit.inBlock,Exit.then])
    first|(refine bodyPost_ret (results_none rfl _ _ _) rfl ?_)|(refine bodyPost_end (results_none rfl _ _ _) rfl ?_)
    exact⟨rfl,B,by rw[<-O.o];exact HF.o,HR.o⟩
end
end Go.Proofs.YtebbdifhiihfkaaGreatDoor

/- flate: the reader of blocks, whatever comes: what came out, copied. -/
namespace Go.Proofs.YtebbdifhiihfkaaGreatDoor
set_option linter.all false
set_option maxRecDepth 100000
set_option maxHeartbeats 3200000
open Go.RowKit
section
variable (r g n c : Nat) (A : Option Addr) (bs : List UInt8) (most : Int) (vo : Value) (s : RS) (w : World)
theorem zm4(N zaf:Nat)(h:FS w r g A n c bs most vo s)(hm:most<=1000000)(hd:1<=zaf)(al:zaf<=1000000)(hN:N<=1000000)(ho:s.o.length<=2000000):
  Calls Tryz.prog 180 #[.pointer (some ⟨r,0,none⟩),.int .i64 (N:Int),.int .i64 (zaf:Int)] w fun e w'=>e=.returned (.tuple #[])/\∃vo',FS w' r g A n c bs most vo' (za1 most s N zaf)/\RFr w w' r g vo vo':=by
 have H:=yo h;have aa:FR w r g A n c s.p bs vo s.o most s.e:=h;obtain⟨Ap,cp,rfl,-,-,-⟩:=aa.own.form;have c1:=aa.arr.cell (k:=1) rfl;have c3:=aa.arr.cell (k:=3) rfl;have ab:=yo (za8 r g n c A bs most (.slice Ap s.o.length cp) s w 1 h);obtain⟨s1,G⟩:∃s1,(if s.o.length<zaf then s.fail 1 else s)=s1:=⟨_,rfl⟩;have t:Hid (s1.e=0->zaf<=s1.o.length):=(show _->_ from fun h0=>by
  rw[<-G] at h0 ⊢;split at h0
  ·rename_i hlt
   unfold RS.fail at h0;split at h0
   ·exact absurd (show(1:Int)=0 from h0) (by decide)
   ·rename_i he
    exact absurd h0 he
  ·rename_i hlt
   rw[if_neg hlt];omega)
 have F:Hid (zcH most zaf (N-0) s1=za1 most s N zaf):=(show _=_ by unfold za1;rw[G];rfl);have z:Hid (s1.o.length<=2000000):=(show _<=_ by
  rw[<-G];split
  ·unfold RS.fail;split<;>exact ho
  ·exact ho)
 generalize za1 most s N zaf=R at *;clear h aa;go_enter Tryz.func180,Tryz.ntmps180;by_cases he:s.e=0
 ·have d1:(s.e==0)=true:=by rw[he];rfl
  by_cases hlt:s.o.length<zaf
  ·have E:(s.o.length:Int)<(zaf:Int):=by omega
   rw[if_pos hlt] at G;subst G;go_wp2_with (go_at_call 105;(with_reducible refine ab.o.mono ?_);go_must (rintro e w4 ⟨rfl,ah,ag⟩;have ae:=yo ah;have ai:=yo ag;clear ah ag));go_loopw [6] (fun vi wr=>∃(i:Nat) (o:RS) (I:Value),i<=N/\vi=.int .i64 i/\Hid (FS wr r g A n c bs most I o)/\Hid (RFr w wr r g (.slice Ap s.o.length cp) I)/\Hid (zcH most zaf (N-i) o=R)/\Hid (o.e=0->zaf<=o.o.length)/\Hid (o.o.length<=2000000+i)) (fun vi _=>N-(intOf vi).toNat)
   case atStart=>exact⟨0,_,_,Nat.zero_le _,rfl,ae,ai,F,t,z⟩
   case round =>
    clear F t z ab ae ai;obtain⟨i,o,I,hi,rfl,B,F,Z,t,z⟩:=hrel;have e3:=(FR.arr B.o).cell (k:=3) rfl;by_cases hlt:i<N
    ·have E:(i:Int)<(N:Int):=by omega
     by_cases he:o.e=0
     ·have d1:(o.e==0)=true:=by rw[he];rfl
      have X:=t.o he;have M:=z.o;obtain⟨Aq,cq,rfl,-,-,-⟩:=(FR.own B.o).form;obtain⟨-,gq,rfl,-,aj⟩:=ownB.pos (FR.own B.o) (show 0<o.o.length by omega);have e1:=(FR.arr B.o).cell (k:=1) rfl;obtain⟨D,hD⟩:∃D,o.o.length-zaf=D:=⟨_,rfl⟩;have C:D<o.o.length:=(by omega);have ed:=ownB.cell (FR.own B.o) rfl C;have u:Hid (zcH most zaf (N-i) o=zcH most zaf (N-(i+1)) (zas most o o.o[D])):=(show _=_ by
       rw[show N-i=(N-(i+1))+1 by omega];have:o.o.getD (o.o.length-zaf) 0=o.o[D]:=by rw[hD,lgd,lge C];rfl
       rw[<-this];exact if_pos he)
      have P:=yo (zcV r g n c A bs most _ o wr.drew o.o[D] (show FS wr.drew r g A n c bs most _ o from FR.drewN B.o 1) hm);have U:Hid ((zas most o o.o[D]).e=0->zaf<=(zas most o o.o[D]).o.length):=(show _->_ from fun h0=>by
       unfold zas at h0 ⊢;split at h0
       ·unfold RS.fail at h0
        rw[if_pos he] at h0;exact absurd (show(10:Int)=0 from h0) (by decide)
       ·rename_i hh
        rw[if_neg hh,lla];omega)
      have W:Hid ((zas most o o.o[D]).o.length<=2000000+(i+1)):=(show _<=_ by
       unfold zas;split
       ·unfold RS.fail;split<;>exact Nat.le_succ_of_le M
       ·rw[lla];show _+1<=_;omega)
      rw[Z.o] at u;generalize zas most o o.o[D]=nxt at *;generalize o.o[D]=x at *;obtain⟨L,hL⟩:∃L,o.o.length=L:=⟨_,rfl⟩;rw[hL] at e1 C M X hD P F;have af:(L:Int)-(zaf:Int)=(D:Int):=(by omega);have w1:IntKind.i64.wrap (D:Int)=(D:Int):=zaa D (by omega);have x8:=x.toNat_lt;have ac:(D:Int)<(L:Int):=(by omega);clear hD hL t z;go_wp2_with fail
      go_still_tail 14,(by kernel_rfl)
      go_wp2_with (go_at_call 128;(with_reducible refine P.o.mono ?_);go_must (rintro e w6 ⟨rfl,v6,J,O⟩;have S:=yo J;have Y:=yo (F.o.trans (RFr.drew0 (q:=1) O));clear J O));go_roundw
      case rel=>exact⟨i+1,nxt,v6,by omega,by go_num,S,Y,u.o.symm,U,W⟩
      case measure=>simp[intOf];omega
     ·have d1:(o.e==0)=false:=bef he
      have T:Hid (o=R):=(show _=_ by rw[<-Z.o,zed he]);go_wp2_with fail;(try simp only[Exit.inBlock,Exit.then])
      first|(refine bodyPost_ret (results_none rfl _ _ _) rfl ?_)|(refine bodyPost_end (results_none rfl _ _ _) rfl ?_)
      exact⟨rfl,I,by rw[<-T.o];exact B.o,F.o⟩
    ·obtain rfl:i=N:=by omega
     have E:¬(i:Int)<(i:Int):=(by omega);have T:Hid (o=R):=(show _=_ by rw[<-Z.o,Nat.sub_self];rfl);go_wp2_with fail;(try simp only[Exit.inBlock,Exit.then])
     first|(refine bodyPost_ret (results_none rfl _ _ _) rfl ?_)|(refine bodyPost_end (results_none rfl _ _ _) rfl ?_)
     exact⟨rfl,I,by rw[<-T.o];exact B.o,F.o⟩
  ·have E:¬(s.o.length:Int)<(zaf:Int):=by omega
   rw[if_neg hlt] at G;subst G;have V:=yo (RFr.refl w r g (.slice Ap s.o.length cp));go_wp2_with fail;go_loopw [6] (fun vi wr=>∃(i:Nat) (o:RS) (I:Value),i<=N/\vi=.int .i64 i/\Hid (FS wr r g A n c bs most I o)/\Hid (RFr w wr r g (.slice Ap s.o.length cp) I)/\Hid (zcH most zaf (N-i) o=R)/\Hid (o.e=0->zaf<=o.o.length)/\Hid (o.o.length<=2000000+i)) (fun vi _=>N-(intOf vi).toNat)
   case atStart=>exact⟨0,_,_,Nat.zero_le _,rfl,H,V,F,t,z⟩
   case round =>
    clear F t z ab H V;obtain⟨i,o,I,hi,rfl,B,F,Z,t,z⟩:=hrel;have e3:=(FR.arr B.o).cell (k:=3) rfl;by_cases hlt:i<N
    ·have E:(i:Int)<(N:Int):=by omega
     by_cases he:o.e=0
     ·have d1:(o.e==0)=true:=by rw[he];rfl
      have X:=t.o he;have M:=z.o;obtain⟨Aq,cq,rfl,-,-,-⟩:=(FR.own B.o).form;obtain⟨-,gq,rfl,-,aj⟩:=ownB.pos (FR.own B.o) (show 0<o.o.length by omega);have e1:=(FR.arr B.o).cell (k:=1) rfl;obtain⟨D,hD⟩:∃D,o.o.length-zaf=D:=⟨_,rfl⟩;have C:D<o.o.length:=(by omega);have ed:=ownB.cell (FR.own B.o) rfl C;have u:Hid (zcH most zaf (N-i) o=zcH most zaf (N-(i+1)) (zas most o o.o[D])):=(show _=_ by
       rw[show N-i=(N-(i+1))+1 by omega];have:o.o.getD (o.o.length-zaf) 0=o.o[D]:=by rw[hD,lgd,lge C];rfl
       rw[<-this];exact if_pos he)
      have P:=yo (zcV r g n c A bs most _ o wr.drew o.o[D] (show FS wr.drew r g A n c bs most _ o from FR.drewN B.o 1) hm);have U:Hid ((zas most o o.o[D]).e=0->zaf<=(zas most o o.o[D]).o.length):=(show _->_ from fun h0=>by
       unfold zas at h0 ⊢;split at h0
       ·unfold RS.fail at h0
        rw[if_pos he] at h0;exact absurd (show(10:Int)=0 from h0) (by decide)
       ·rename_i hh
        rw[if_neg hh,lla];omega)
      have W:Hid ((zas most o o.o[D]).o.length<=2000000+(i+1)):=(show _<=_ by
       unfold zas;split
       ·unfold RS.fail;split<;>exact Nat.le_succ_of_le M
       ·rw[lla];show _+1<=_;omega)
      rw[Z.o] at u;generalize zas most o o.o[D]=nxt at *;generalize o.o[D]=x at *;obtain⟨L,hL⟩:∃L,o.o.length=L:=⟨_,rfl⟩;rw[hL] at e1 C M X hD P F;have af:(L:Int)-(zaf:Int)=(D:Int):=(by omega);have w1:IntKind.i64.wrap (D:Int)=(D:Int):=zaa D (by omega);have x8:=x.toNat_lt;have ac:(D:Int)<(L:Int):=(by omega);clear hD hL t z;go_wp2_with fail
      go_still_tail 14,(by kernel_rfl)
      go_wp2_with (go_at_call 128;(with_reducible refine P.o.mono ?_);go_must (rintro e w6 ⟨rfl,v6,J,O⟩;have S:=yo J;have Y:=yo (F.o.trans (RFr.drew0 (q:=1) O));clear J O));go_roundw
      case rel=>exact⟨i+1,nxt,v6,by omega,by go_num,S,Y,u.o.symm,U,W⟩
      case measure=>simp[intOf];omega
     ·have d1:(o.e==0)=false:=bef he
      have T:Hid (o=R):=(show _=_ by rw[<-Z.o,zed he]);go_wp2_with fail;(try simp only[Exit.inBlock,Exit.then])
      first|(refine bodyPost_ret (results_none rfl _ _ _) rfl ?_)|(refine bodyPost_end (results_none rfl _ _ _) rfl ?_)
      exact⟨rfl,I,by rw[<-T.o];exact B.o,F.o⟩
    ·obtain rfl:i=N:=by omega
     have E:¬(i:Int)<(i:Int):=(by omega);have T:Hid (o=R):=(show _=_ by rw[<-Z.o,Nat.sub_self];rfl);go_wp2_with fail;(try simp only[Exit.inBlock,Exit.then])
     first|(refine bodyPost_ret (results_none rfl _ _ _) rfl ?_)|(refine bodyPost_end (results_none rfl _ _ _) rfl ?_)
     exact⟨rfl,I,by rw[<-T.o];exact B.o,F.o⟩
 ·have d1:(s.e==0)=false:=bef he
  have ak:s1=s:=by
   rw[<-G];split
   ·exact if_neg he
   ·rfl
  subst ak;have V:=yo (RFr.refl w r g (.slice Ap s1.o.length cp));go_wp2_with fail;go_loopw [6] (fun vi wr=>∃(i:Nat) (o:RS) (I:Value),i<=N/\vi=.int .i64 i/\Hid (FS wr r g A n c bs most I o)/\Hid (RFr w wr r g (.slice Ap s1.o.length cp) I)/\Hid (zcH most zaf (N-i) o=R)/\Hid (o.e=0->zaf<=o.o.length)/\Hid (o.o.length<=2000000+i)) (fun vi _=>N-(intOf vi).toNat)
  case atStart=>exact⟨0,_,_,Nat.zero_le _,rfl,H,V,F,t,z⟩
  case round =>
   clear F t z ab H V;obtain⟨i,o,I,hi,rfl,B,F,Z,t,z⟩:=hrel;have e3:=(FR.arr B.o).cell (k:=3) rfl;by_cases hlt:i<N
   ·have E:(i:Int)<(N:Int):=by omega
    by_cases he:o.e=0
    ·have d1:(o.e==0)=true:=by rw[he];rfl
     have X:=t.o he;have M:=z.o;obtain⟨Aq,cq,rfl,-,-,-⟩:=(FR.own B.o).form;obtain⟨-,gq,rfl,-,aj⟩:=ownB.pos (FR.own B.o) (show 0<o.o.length by omega);have e1:=(FR.arr B.o).cell (k:=1) rfl;obtain⟨D,hD⟩:∃D,o.o.length-zaf=D:=⟨_,rfl⟩;have C:D<o.o.length:=(by omega);have ed:=ownB.cell (FR.own B.o) rfl C;have u:Hid (zcH most zaf (N-i) o=zcH most zaf (N-(i+1)) (zas most o o.o[D])):=(show _=_ by
      rw[show N-i=(N-(i+1))+1 by omega];have:o.o.getD (o.o.length-zaf) 0=o.o[D]:=by rw[hD,lgd,lge C];rfl
      rw[<-this];exact if_pos he)
     have P:=yo (zcV r g n c A bs most _ o wr.drew o.o[D] (show FS wr.drew r g A n c bs most _ o from FR.drewN B.o 1) hm);have U:Hid ((zas most o o.o[D]).e=0->zaf<=(zas most o o.o[D]).o.length):=(show _->_ from fun h0=>by
      unfold zas at h0 ⊢;split at h0
      ·unfold RS.fail at h0
       rw[if_pos he] at h0;exact absurd (show(10:Int)=0 from h0) (by decide)
      ·rename_i hh
       rw[if_neg hh,lla];omega)
     have W:Hid ((zas most o o.o[D]).o.length<=2000000+(i+1)):=(show _<=_ by
      unfold zas;split
      ·unfold RS.fail;split<;>exact Nat.le_succ_of_le M
      ·rw[lla];show _+1<=_;omega)
     rw[Z.o] at u;generalize zas most o o.o[D]=nxt at *;generalize o.o[D]=x at *;obtain⟨L,hL⟩:∃L,o.o.length=L:=⟨_,rfl⟩;rw[hL] at e1 C M X hD P F;have af:(L:Int)-(zaf:Int)=(D:Int):=(by omega);have w1:IntKind.i64.wrap (D:Int)=(D:Int):=zaa D (by omega);have x8:=x.toNat_lt;have ac:(D:Int)<(L:Int):=(by omega);clear hD hL t z;go_wp2_with fail
     go_still_tail 14,(by kernel_rfl)
     go_wp2_with (go_at_call 128;(with_reducible refine P.o.mono ?_);go_must (rintro e w6 ⟨rfl,v6,J,O⟩;have S:=yo J;have Y:=yo (F.o.trans (RFr.drew0 (q:=1) O));clear J O));go_roundw
     case rel=>exact⟨i+1,nxt,v6,by omega,by go_num,S,Y,u.o.symm,U,W⟩
     case measure=>simp[intOf];omega
    ·have d1:(o.e==0)=false:=bef he
     have T:Hid (o=R):=(show _=_ by rw[<-Z.o,zed he]);go_wp2_with fail;(try simp only[Exit.inBlock,Exit.then])
     first|(refine bodyPost_ret (results_none rfl _ _ _) rfl ?_)|(refine bodyPost_end (results_none rfl _ _ _) rfl ?_)
     exact⟨rfl,I,by rw[<-T.o];exact B.o,F.o⟩
   ·obtain rfl:i=N:=by omega
    have E:¬(i:Int)<(i:Int):=(by omega);have T:Hid (o=R):=(show _=_ by rw[<-Z.o,Nat.sub_self];rfl);go_wp2_with fail;(try simp only[Exit.inBlock,Exit.then])
    first|(refine bodyPost_ret (results_none rfl _ _ _) rfl ?_)|(refine bodyPost_end (results_none rfl _ _ _) rfl ?_)
    exact⟨rfl,I,by rw[<-T.o];exact B.o,F.o⟩
end
end Go.Proofs.YtebbdifhiihfkaaGreatDoor

