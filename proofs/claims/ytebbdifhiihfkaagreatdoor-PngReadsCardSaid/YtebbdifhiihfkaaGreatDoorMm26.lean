/- XRdR XRdS XRd9 XRd10 -/
import Derived.Test.YtebbdifhiihfkaaGreatDoorMm25
import Derived.Test.YtebbdifhiihfkaaGreatDoorMm19
import Derived.Deep.RegionHeld3
namespace Go.Proofs.YtebbdifhiihfkaaGreatDoor
set_option linter.all false
def hdN(bs:List UInt8)(s:RS):Nat:=257+(zac bs s 5).1
def hdA(bs:List UInt8)(s:RS):RS:=if 286<hdN bs s then(zac bs s 5).2.fail 4 else(zac bs s 5).2
def hdM(bs:List UInt8)(s:RS):Nat:=1+(zac bs (hdA bs s) 5).1
def hdB(bs:List UInt8)(s:RS):RS:=if 30<hdM bs s then(zac bs (hdA bs s) 5).2.fail 4 else(zac bs (hdA bs s) 5).2
def hdQ(bs:List UInt8)(s:RS):Nat:=4+(zac bs (hdB bs s) 4).1
def zcA(bs:List UInt8):List Nat->List Int->RS->List Int×RS
 | [],l,s=>(l,s)
 |k :: ks,l,s=>zcA bs ks (l.set k ((zac bs s 3).1:Int)) (zac bs s 3).2
def hdL(bs:List UInt8)(s:RS):List Int×RS:=zcA bs (ordL.take (hdQ bs s)) (List.replicate 19 0) (zac bs (hdB bs s) 4).2
/-- A list read by a decoder, or by none. -/
def zeZ(bs:List UInt8)(D:Option (List Int))(all:Nat)(s:RS):List Int×RS:=match D with
 |some ls=>zar bs ls all (all+1) [] s
 |none=>([],s)
def zaO(bs:List UInt8)(s:RS):List Int×RS:=zeZ bs (zbJ (hdL bs s).1 (hdL bs s).2) (hdN bs s+hdM bs s) (zaY (hdL bs s).1 false (hdL bs s).2)
def zcJ(ls:List Int):Bool:=zaB ls==0
def zcZ(all:List Int)(s:RS):RS:=if all.getD 256 0=0 then s.fail 4 else s
def zcn(all:List Int)(n:Nat)(s:RS):RS:=zaY (all.take n) false (zcZ all s)
def zi3(all:List Int)(n:Nat)(s:RS):Option (List Int):=if zcJ (all.drop n)=true then none else zbJ (all.drop n) (zcn all n s)
def zcg(all:List Int)(n:Nat)(s:RS):RS:=if zcJ (all.drop n)=true then zcn all n s else zaY (all.drop n) true (zcn all n s)
def zdX(bs:List UInt8)(most:Int)(all:List Int)(n f:Nat)(s:RS):RS :=
 if s.e=0 then(if(zcg all n s).e=0 then zaG bs most (all.take n) (zi3 all n s) f (zcg all n s) else zcg all n s) else s
/-- A block of its own codes. -/
def zc0(bs:List UInt8)(most:Int)(f:Nat)(s:RS):RS:=zdX bs most (zaO bs s).1 (hdN bs s) f (zaO bs s).2
/-- A block of the fixed codes. -/
def zhG(bs:List UInt8)(most:Int)(f:Nat)(s:RS):RS:=zaG bs most fixL (some fixD) f s
theorem zit(ls:List Int)(a:Bool)(s:RS):(zaY ls a s).o=s.o:=by
 unfold zaY;split
 ·split
  ·split
   ·exact zbq s 4
   ·rfl
  ·exact zbq s 4
 ·rfl
theorem zfV(ls:List Int)(a:Bool)(s:RS):(zaY ls a s).p=s.p:=by
 unfold zaY;split
 ·split
  ·split
   ·exact zaW s 4
   ·rfl
  ·exact zaW s 4
 ·rfl
theorem za9{s:RS}{e:Int}(he:¬e=0):¬(s.fail e).e=0:=by
 unfold RS.fail;split
 ·exact he
 ·assumption
theorem zkC{ls:List Int}{a:Bool}{s:RS}(h:zbJ ls s=none):¬(zaY ls a s).e=0:=by
 unfold zbJ at h;unfold zaY;split at h
 ·cases h
 ·rename_i h2
  split
  ·rename_i he
   rw[if_neg (fun g=>h2 ⟨he,g⟩)];exact za9 (by decide)
  ·assumption
theorem zdb{ls:List Int}{a:Bool}{s:RS}(h:(zaY ls a s).e=0):s.e=0/\zaY ls a s=s/\zbJ ls s=some ls:=by
 unfold zaY at h ⊢;unfold zbJ;by_cases he:s.e=0
 ·rw[if_pos he] at h ⊢
  by_cases hn:nwE ls=0
  ·rw[if_pos hn] at h ⊢
   by_cases hb:zcN ls a
   ·rw[if_pos hb] at h
    exact absurd h (za9 (by decide))
   ·rw[if_neg hb]
    exact⟨he,rfl,if_pos ⟨he,hn⟩⟩
  ·rw[if_neg hn] at h
   exact absurd h (za9 (by decide))
 ·rw[if_neg he] at h
  exact absurd h he
theorem zkD{all:List Int}{s:RS}(h:(zcZ all s).e=0):s.e=0/\zcZ all s=s:=by
 unfold zcZ at h ⊢;split at h
 ·exact absurd h (za9 (by decide))
 ·rename_i h2
  rw[if_neg h2];exact⟨h,rfl⟩
theorem zq7{all:List Int}{n:Nat}{s:RS}(h:(zcg all n s).e=0):zcg all n s=s/\zbJ (all.take n) (zcZ all s)=some (all.take n):=by
 have key:(zcn all n s).e=0/\zcg all n s=zcn all n s:=by
  unfold zcg at h ⊢;split at h
  ·rename_i h2;rw[if_pos h2];exact⟨h,rfl⟩
  ·rename_i h2;rw[if_neg h2];obtain⟨h1,g,-⟩:=zdb h;exact⟨h1,g⟩
 rw[key.2];obtain⟨h1,h2,g⟩:=zdb key.1;refine⟨?_,g⟩;unfold zcn;rw[h2];exact(zkD h1).2
theorem zq8(bs:List UInt8):∀(g:List Nat) (l:List Int) (s:RS),(zcA bs g l s).1.length=l.length
 | [],l,s=>rfl
 |k :: g,l,s=>by rw[zcA,zq8 bs g,List.length_set]
theorem zkE(bs:List UInt8):∀(g:List Nat) (l:List Int) (s:RS),(zcA bs g l s).2.o=s.o
 | [],l,s=>rfl
 |k :: g,l,s=>by rw[zcA,zkE bs g,zaI]
theorem ziu(l:List Int)(x:Int)(n all:Nat)(s:RS):(zaC l x n all s).2.o=s.o:=by
 have:(zeN l n all s).o=s.o:=by
  unfold zeN;split
  ·exact zbq s 4
  ·rfl
 unfold zaC;split<;>exact this
theorem zey(bs:List UInt8)(ls:List Int)(all:Nat):∀(f:Nat) (l:List Int) (s:RS),(zar bs ls all f l s).2.o=s.o
 |0,l,s=>rfl
 |f+1,l,s=>by
  rw[zar];split
  ·split
   ·split
    ·rw[zey bs ls all f,zbQ]
    ·split
     ·split
      ·show(RS.fail _ 4).o=_
       rw[zbq,zbQ]
      ·rw[zey bs ls all f,ziu,zaI,zbQ]
     ·split
      ·rw[zey bs ls all f,ziu,zaI,zbQ]
      ·rw[zey bs ls all f,ziu,zaI,zbQ]
   ·exact zbQ bs ls s
  ·rfl
theorem zq9(bs:List UInt8)(D:Option (List Int))(all:Nat)(s:RS):(zeZ bs D all s).2.o=s.o:=by
 cases D with
 |none=>rfl
 |some ls=>exact zey bs ls all _ _ s
theorem znX(bs:List UInt8)(s:RS):(hdA bs s).o=s.o:=by
 unfold hdA;split
 ·rw[zbq,zaI]
 ·rw[zaI]
theorem zum(bs:List UInt8)(s:RS):(hdB bs s).o=s.o:=by
 unfold hdB;split
 ·rw[zbq,zaI,znX]
 ·rw[zaI,znX]
theorem zkF(bs:List UInt8)(s:RS):(zaO bs s).2.o=s.o:=by
 unfold zaO hdL;rw[zq9,zit,zkE,zaI,zum]
/-- A list read without an error is whole. -/
theorem zgq(bs:List UInt8)(ls:List Int)(all:Nat):∀(f:Nat) (l:List Int) (s:RS),l.length<=all->all+1<=l.length+f->(zar bs ls all f l s).2.e=0->(zar bs ls all f l s).1.length=all
 |0,l,s,hl,hf,h=>by omega
 |f+1,l,s,hl,hf,h=>by
  rw[zar] at h ⊢;by_cases h1:l.length<all/\s.e=0
  ·rw[if_pos h1] at h ⊢
   by_cases h2:(zad bs ls s).2.e=0
   ·rw[if_pos h2] at h ⊢
    have o:∀(x:Int) (k:Nat) (t:RS),3<=k->(zar bs ls all f (zaC l x k all t).1 (zaC l x k all t).2).2.e=0->(zar bs ls all f (zaC l x k all t).1 (zaC l x k all t).2).1.length=all:=fun x k t r h=>by
     have h4:=zgp l x k all t hl;by_cases he:(zaC l x k all t).2.e=0
     ·exact zgq bs ls all f _ _ h4.1 (by rw[h4.2 he];omega) h
     ·rw[zcz (fun g=>he g.2)] at h
      exact absurd h he
    by_cases h3:(zad bs ls s).1<16
    ·rw[if_pos h3] at h ⊢
     exact zgq bs ls all f _ _ (by simp;omega) (by simp;omega) h
    ·rw[if_neg h3] at h ⊢
     by_cases h4:(zad bs ls s).1=16
     ·rw[if_pos h4] at h ⊢
      by_cases h5:l.length=0
      ·rw[if_pos h5] at h
       exact absurd h (za9 (by decide))
      ·rw[if_neg h5] at h ⊢
       exact o _ _ _ (by omega) h
     ·rw[if_neg h4] at h ⊢
      by_cases h5:(zad bs ls s).1=17
      ·rw[if_pos h5] at h ⊢
       exact o _ _ _ (by omega) h
      ·rw[if_neg h5] at h ⊢
       exact o _ _ _ (by omega) h
   ·rw[if_neg h2] at h
    exact absurd h h2
  ·rw[if_neg h1] at h ⊢
   have q:s.e=0:=h;show l.length=all;have:¬l.length<all:=fun g=>h1 ⟨g,q⟩
   omega
theorem zo0(bs:List UInt8)(s:RS)(h:(zaO bs s).2.e=0):(zaO bs s).1.length=hdN bs s+hdM bs s:=by
 unfold zaO at h ⊢;cases hD:zbJ (hdL bs s).1 (hdL bs s).2 with
 |none =>
  rw[hD] at h;exact absurd h (zkC hD)
 |some ls =>
  rw[hD] at h;exact zgq bs ls _ _ [] _ (Nat.zero_le _) (by simp) h
end Go.Proofs.YtebbdifhiihfkaaGreatDoor

/- flate: all blocks, plainly; how far a reader comes. -/
namespace Go.Proofs.YtebbdifhiihfkaaGreatDoor
set_option linter.all false
theorem zjJ(bs:List UInt8)(ls:List Int)(s:RS):s.p<=(zad bs ls s).2.p:=by
 unfold zad;split
 ·have key:∀f t v P,P<=(nx ls bs f t v P).2.2:=fun f=>by
   induction f with
   |zero=>intro t v P;exact nlr _
   |succ f ih =>
    intro t v P;rw[nx];split
    ·exact nlr _
    ·split
     ·exact Nat.le_succ P
     ·have:=ih (t+1) (v*2+zaE bs P) (P+1)
      omega
  exact key 15 1 0 s.p
 ·exact nlr _
theorem zun(bs:List UInt8)(most:Int)(s:RS)(q:Nat)(dl:Option (List Int)):s.p<=(za3 bs most s q dl).p:=by
 have h1:=zcy bs s (lenOf (q-257)).2;unfold za3;split
 ·rw[zaW];exact nlr _
 ·split
  ·refine nlt h1 ?_
   cases dl with
   |none =>
    show _<=(RS.fail _ 1).p;rw[zaW];exact nlr _
   |some ds =>
    rw[cpB];have h1:=zjJ bs ds (zac bs s (lenOf (q-257)).2).2;split
    ·rw[zaW];exact h1
    ·rw[zhd]
     exact nlt h1 (zcy bs _ _)
  ·exact h1
theorem zhH(bs:List UInt8)(most:Int)(g:List Int)(dl:Option (List Int)):∀(f:Nat) (s:RS),s.p<=(zaG bs most g dl f s).p
 |0,s=>nlr _
 |f+1,s=>by
  have h1:=zjJ bs g s;rw[zaG];split
  ·split
   ·split
    ·exact h1
    ·split
     ·refine nlt h1 (nlt ?_ (zhH bs most g dl f _))
      rw[zdH];exact nlr _
     ·exact nlt h1 (nlt (zun bs most _ _ dl) (zhH bs most g dl f _))
   ·exact h1
  ·exact nlr _
theorem zra(bs:List UInt8)(most:Int):∀(k:Nat) (s:RS),s.p<=(za0 bs most k s).p
 |0,s=>nlr _
 |k+1,s=>by
  have h1:=zcy bs s 8;rw[za0];split
  ·split
   ·refine nlt h1 (nlt ?_ (zra bs most k _))
    rw[zdH];exact nlr _
   ·exact h1
  ·exact nlr _
theorem zs8(bs:List UInt8)(most:Int)(s:RS):s.p<=(zbl bs most s).p:=by
 have h0:s.p<=(pl0 s).p:=by show s.p<=8*((s.p+7) / 8);omega
 have h1:(pl0 s).p<=(pl2 bs s).p:=nlt (zcy bs (pl0 s) 16) (zcy bs _ 16);have h2:(pl3 bs s).p=(pl2 bs s).p:=by
  unfold pl3;split
  ·exact zaW _ _
  ·rfl
 unfold zbl;refine nlt (nlt h0 h1) ?_;rw[<-h2];exact zra bs most _ _
theorem znY(bs:List UInt8):∀(g:List Nat) (l:List Int) (s:RS),s.p<=(zcA bs g l s).2.p
 | [],l,s=>nlr _
 |k :: g,l,s=>nlt (zcy bs s 3) (znY bs g _ _)
theorem zrb(l:List Int)(x:Int)(n all:Nat)(s:RS):(zaC l x n all s).2.p=s.p:=by
 have:(zeN l n all s).p=s.p:=by
  unfold zeN;split
  ·exact zaW s 4
  ·rfl
 unfold zaC;split<;>exact this
theorem zjK(bs:List UInt8)(ls:List Int)(all:Nat):∀(f:Nat) (l:List Int) (s:RS),s.p<=(zar bs ls all f l s).2.p
 |0,l,s=>nlr _
 |f+1,l,s=>by
  have h1:=zjJ bs ls s;have g:∀(x:Int) (k m:Nat),s.p<=(zar bs ls all f (zaC l x k all (zac bs (zad bs ls s).2 m).2).1 (zaC l x k all (zac bs (zad bs ls s).2 m).2).2).2.p:=fun x k m=>by
   refine nlt (nlt h1 ?_) (zjK bs ls all f _ _);rw[zrb];exact zcy bs _ m
  rw[zar];split
  ·split
   ·split
    ·exact nlt h1 (zjK bs ls all f _ _)
    ·split
     ·split
      ·show _<=(RS.fail _ 4).p
       rw[zaW];exact h1
      ·exact g _ _ _
     ·split
      ·exact g _ _ _
      ·exact g _ _ _
   ·exact h1
  ·exact nlr _
theorem zuo(bs:List UInt8)(s:RS):s.p<=(zaO bs s).2.p:=by
 have g:s.p<=(hdA bs s).p:=by
  unfold hdA;split
  ·rw[zaW];exact zcy bs s 5
  ·exact zcy bs s 5
 have q:(hdA bs s).p<=(hdB bs s).p:=by
  unfold hdB;split
  ·rw[zaW];exact zcy bs _ 5
  ·exact zcy bs _ 5
 have o:(hdB bs s).p<=(hdL bs s).2.p:=nlt (zcy bs _ 4) (znY bs _ _ _);refine nlt g (nlt q (nlt o ?_));unfold zaO;cases zbJ (hdL bs s).1 (hdL bs s).2 with
 |none =>
  show _<=(zaY _ _ _).p;rw[zfV];exact nlr _
 |some ls =>
  refine nlt ?_ (zjK bs ls _ _ [] _);rw[zfV];exact nlr _
theorem zi4(all:List Int)(n:Nat)(s:RS):(zcg all n s).p=s.p:=by
 have h1:(zcZ all s).p=s.p:=by
  unfold zcZ;split
  ·exact zaW s 4
  ·rfl
 have h2:(zcn all n s).p=s.p:=by unfold zcn;rw[zfV,h1]
 unfold zcg;split
 ·exact h2
 ·rw[zfV,h2]
theorem zup(bs:List UInt8)(most:Int)(f:Nat)(s:RS):s.p<=(zc0 bs most f s).p:=by
 refine nlt (zuo bs s) ?_;unfold zc0 zdX;split
 ·split
  ·refine nlt ?_ (zhH bs most _ _ f _)
   rw[zi4];exact nlr _
  ·rw[zi4]
   exact nlr _
 ·exact nlr _
theorem zgr{bs:List UInt8}{most:Int}{g:List Int}{dl:Option (List Int)}:∀(f:Nat) {s:RS},(s.o.length:Int)<=most->((zaG bs most g dl f s).o.length:Int)<=most
 |0,s,h=>h
 |f+1,s,h=>by
  have h1:(((zad bs g s).2.o.length:Nat):Int)<=most:=by rw[zbQ];exact h
  rw[zaG];split
  ·split
   ·split
    ·exact h1
    ·split
     ·exact zgr f (zfA h1)
     ·exact zgr f (zmc h1)
   ·exact h1
  ·exact h
theorem zs9{bs:List UInt8}{most:Int}{f:Nat}{s:RS}(h:(s.o.length:Int)<=most):((zc0 bs most f s).o.length:Int)<=most:=by
 have h1:(((zaO bs s).2.o.length:Nat):Int)<=most:=by rw[zkF];exact h
 have q:∀all t,(zcZ all t).o=t.o:=fun all t=>by
  unfold zcZ;split
  ·exact zbq t 4
  ·rfl
 have o:∀all n t,(zcn all n t).o=t.o:=fun all n t=>by unfold zcn;rw[zit,q]
 have g:∀all n t,(zcg all n t).o=t.o:=fun all n t=>by
  unfold zcg;split
  ·exact o _ _ _
  ·rw[zit,o]
 unfold zc0 zdX;split
 ·split
  ·exact zgr f (by rw[g];exact h1)
  ·rw[g];exact h1
 ·exact h1
/-- A block's first bits. -/
def zfJ(bs:List UInt8)(s:RS):Nat:=(zac bs s 1).1
def zgs(bs:List UInt8)(s:RS):Nat:=(zac bs (zac bs s 1).2 2).1
def zdJ(bs:List UInt8)(s:RS):RS:=(zac bs (zac bs s 1).2 2).2
def zdY(bs:List UInt8)(most:Int)(f k:Nat)(s:RS):RS:=if k=0 then zbl bs most s else if k=1 then zhG bs most f s else if k=2 then zc0 bs most f s else s.fail 4
def zbR(bs:List UInt8)(most:Int)(f:Nat)(s:RS):RS:=zdY bs most f (zgs bs s) (zdJ bs s)
/-- Blocks up to the last one. -/
def zb1(bs:List UInt8)(most:Int)(f:Nat):Nat->RS->RS
 |0,s=>s
 |k+1,s=>if s.e=0 then(if zfJ bs s=0 then zb1 bs most f k (zbR bs most f s) else zbR bs most f s) else s
def zbr(bs:List UInt8)(most:Int):RS:=zb1 bs most (8*bs.length+1) (8*bs.length+1) ⟨0,[],0⟩
def zak(bs:List UInt8)(most:Int):List UInt8×Nat×Int :=
 if most<0\/40000<most then([],0,1) else if(zbr bs most).e=0 then((zbr bs most).o,((zbr bs most).p+7) / 8,0) else([],0,(zbr bs most).e)
theorem ziv{bs:List UInt8}{most:Int}{f k:Nat}{s:RS}(h:¬s.e=0):zb1 bs most f k s=s:=by
 cases k with
 |zero=>rfl
 |succ k=>exact if_neg h
theorem zgt(bs:List UInt8)(s:RS):(zdJ bs s).o=s.o:=by unfold zdJ;rw[zaI,zaI]
theorem ziw{bs:List UInt8}{most:Int}{f k:Nat}{s:RS}(h:(s.o.length:Int)<=most):((zdY bs most f k s).o.length:Int)<=most:=by
 unfold zdY;split
 ·exact zq4 h
 ·split
  ·exact zgr f h
  ·split
   ·exact zs9 h
   ·rw[zbq];exact h
theorem zuq(bs:List UInt8)(most:Int)(f k:Nat)(s:RS):s.p<=(zdY bs most f k s).p:=by
 unfold zdY;split
 ·exact zs8 bs most s
 ·split
  ·exact zhH bs most _ _ f s
  ·split
   ·exact zup bs most f s
   ·rw[zaW];exact nlr _
/-- No error of getting bits goes away. -/
theorem zbK{bs:List UInt8}{s:RS}{m:Nat}(h:(zac bs s m).2.e=0):s.e=0/\(zac bs s m).2.p=s.p+m:=by
 unfold zac at h ⊢;by_cases he:s.e=0
 ·rw[if_pos he] at h ⊢
  by_cases h2:s.p+m<=8*bs.length
  ·rw[if_pos h2];exact⟨he,rfl⟩
  ·rw[if_neg h2] at h
   exact absurd h (show ¬(2:Int)=0 by decide)
 ·rw[if_neg he] at h
  exact absurd h he
theorem zur{bs:List UInt8}{s:RS}{m:Nat}(h:¬(zac bs s m).1=0):(zac bs s m).2.e=0:=by
 unfold zac at h ⊢;by_cases he:s.e=0
 ·rw[if_pos he] at h ⊢
  by_cases h2:s.p+m<=8*bs.length
  ·rw[if_pos h2]
  ·rw[if_neg h2] at h
   exact absurd rfl h
 ·rw[if_neg he] at h
  exact absurd rfl h
/-- An error does not go away. -/
theorem zfW{s:RS}{e:Int}(h:(s.fail e).e=0):s.e=0:=by
 unfold RS.fail at h;split at h
 ·assumption
 ·assumption
theorem zo1{bs:List UInt8}{most:Int}{s:RS}(h:¬s.e=0):¬(zbl bs most s).e=0:=by
 have h0:¬(pl0 s).e=0:=h;have h1:¬(pl2 bs s).e=0:=fun g=>h0 (zbK (zbK g).1).1
 have o:¬(pl3 bs s).e=0:=by
  unfold pl3;split
  ·exact fun g=>h1 (zfW g)
  ·exact h1
 unfold zbl;rw[zcU o];exact o
theorem zfX{ls:List Int}{a:Bool}{s:RS}(h:(zaY ls a s).e=0):s.e=0:=(zdb h).1
theorem zgu(bs:List UInt8):∀(g:List Nat) (l:List Int) (s:RS),(zcA bs g l s).2.e=0->s.e=0
 | [],l,s,h=>h
 |k :: g,l,s,h=>(zbK (zgu bs g _ _ h)).1
theorem zgv{bs:List UInt8}{D:Option (List Int)}{all:Nat}{s:RS}(h:(zeZ bs D all s).2.e=0):s.e=0:=by
 cases D with
 |none=>exact h
 |some ls =>
  by_cases he:s.e=0
  ·exact he
  ·have:zeZ bs (some ls) all s=([],s):=zcz (fun g=>he g.2)
   rw[this] at h;exact h
theorem zrc{bs:List UInt8}{most:Int}{f:Nat}{s:RS}(h:¬s.e=0):¬(zc0 bs most f s).e=0:=by
 have h1:¬(zaO bs s).2.e=0:=fun o=>by
  have h2:=zgu bs _ _ _ (zfX (zgv o));have g:=(zbK h2).1;have h4:(hdA bs s).e=0:=by
   unfold hdB at g;split at g
   ·exact(zbK (zfW g)).1
   ·exact(zbK g).1
  unfold hdA at h4;split at h4
  ·exact h (zbK (zfW h4)).1
  ·exact h (zbK h4).1
 unfold zc0 zdX;rw[if_neg h1];exact h1
theorem zkG{bs:List UInt8}{most:Int}{f k:Nat}{s:RS}(h:¬s.e=0):¬(zdY bs most f k s).e=0:=by
 unfold zdY;split
 ·exact zo1 h
 ·split
  ·unfold zhG;rw[zhc h];exact h
  ·split
   ·exact zrc h
   ·exact fun g=>h (zfW g)
/-- A block that is read whole takes bits. -/
theorem zfY{bs:List UInt8}{most:Int}{f:Nat}{s:RS}(h:(zbR bs most f s).e=0):s.p+3<=(zbR bs most f s).p:=by
 have h1:(zdJ bs s).e=0:=Decidable.byContradiction fun q=>zkG q h
 obtain⟨h2,o⟩:=zbK h1;obtain⟨h4,g⟩:=zbK h2;have t:=zuq bs most f (zgs bs s) (zdJ bs s);have r:(zdJ bs s).p=s.p+1+2:=by unfold zdJ;rw[o,g]
 unfold zbR;omega
theorem zta(s:RS):zaY fixL false s=s:=by
 by_cases he:s.e=0
 ·unfold zaY
  rw[if_pos he,if_pos (show nwE fixL=0 by decide +kernel),if_neg (show ¬zcN fixL false from fun h=>absurd h.1 (show ¬krV fixL<32768 by decide +kernel))]
 ·exact if_neg he
theorem ztb(s:RS):zaY fixD false s=s:=by
 by_cases he:s.e=0
 ·unfold zaY
  rw[if_pos he,if_pos (show nwE fixD=0 by decide +kernel),if_neg (show ¬zcN fixD false from fun h=>absurd h.1 (show ¬krV fixD<32768 by decide +kernel))]
 ·exact if_neg he
end Go.Proofs.YtebbdifhiihfkaaGreatDoor

/- flate: the reader of blocks, whatever comes: lists of lengths. -/
namespace Go.Proofs.YtebbdifhiihfkaaGreatDoor
set_option linter.all false
set_option maxRecDepth 100000
set_option maxHeartbeats 6400000
open Go.RowKit
def zld(w:World)(r:Nat):Int:=match w.cell? ⟨r,3,none⟩ with
 |some (.int _ e)=>e
 |_=>0
theorem zcW{w:World}{r:Nat}{e:Int}(h:w.cell? ⟨r,3,none⟩=some (.int .i64 e)):zld w r=e:=by unfold zld;rw[h]
def zvt(v:Value):Nat:=match v with
 | .slice _ n _=>n
 |_=>0
def zd1(all r:Nat)(v:Value)(w:World):Nat:=if zld w r=0 then all+1-zvt v else 0
section
variable (r g n c : Nat) (A : Option Addr) (bs : List UInt8) (most : Int) (vo : Value) (s : RS) (w : World)
theorem zry(q:Value)(all:Nat)(h:FS w r g A n c bs most vo s)(he:¬s.e=0):
  Calls Tryz.prog 132 #[.pointer (some ⟨r,0,none⟩),q,.int .i64 (all:Int)] w fun e w'=>e=.returned (.slice none 0 0)/\w=w':=by
 have c3:=(FR.arr h).cell (k:=3) rfl;have u:(s.e==0)=false:=bef he;clear h;go_enter Tryz.func132,Tryz.ntmps132;go_wp2_with fail;go_loopw [7] (fun t wr=>t=.slice none 0 0/\wr=w) (fun _ _=>0)
 case atStart=>exact⟨rfl,rfl⟩
 case round =>
  obtain⟨rfl,rfl⟩:=hrel;by_cases ha:0<all
  ·have o:(0:Int)<(all:Int):=by omega
   go_wp2_with fail;go_ret;exact⟨rfl,rfl⟩
  ·have o:¬(0:Int)<(all:Int):=by omega
   go_wp2_with fail;go_ret;exact⟨rfl,rfl⟩
theorem zrz(gd:Nat)(ls:List Int)(all f:Nat)(h:FS w r g A n c bs most vo s)(hd:DK w r g vo gd ls)(a9:OkL ls)(ao:all<=1000)(hf:all+1<=f):
  Calls Tryz.prog 132 #[.pointer (some ⟨r,0,none⟩),.pointer (some ⟨gd,0,none⟩),.int .i64 (all:Int)] w fun e w'=>∃lv,e=.returned lv/\FS w' r g A n c bs most vo (zar bs ls all f [] s).2/\ownI w' w.heap.size lv (zar bs ls all f [] s).1/\(zar bs ls all f [] s).1.length<=all/\RFr w w' r g vo vo:=by
 have H:=yo h;have aM:=yo hd;have aq:=yo a9;have G:=(FR.arr h).lt;have bl:=FR.gr h;have I:Hid (∀k,vo.ownBlock=some k->k<w.heap.size):=(show ∀k,_ from fun k S=>(olt (FR.own h) k S).2);have a4:=yo (RFr.refl w r g vo);have a8:=yo (ownI.nil_ w w.heap.size);obtain⟨R,hR⟩:∃R,zar bs ls all f [] s=R:=⟨_,rfl⟩;rw[hR];have a6:=yo hR;have ak:Hid (s.e=0->all+1<=([]:List Int).length+f):=(show _->_ from fun _=>by simp;omega);clear h hd a9 hf hR;go_enter Tryz.func132,Tryz.ntmps132;go_wp2_with fail;go_loopw [7] (fun v7 wr=>∃(l:List Int) (M:RS) (f:Nat),l.length<=all/\Hid (FS wr r g A n c bs most vo M)/\Hid (RFr w wr r g vo vo)/\Hid (ownI wr w.heap.size v7 l)/\Hid (zar bs ls all f l M=R)/\Hid (M.e=0->all+1<=l.length+f)) (fun v7 wr=>zd1 all r v7 wr)
 case atStart=>exact⟨[],s,f,Nat.zero_le _,H,a4,a8,a6,ak⟩
 case round =>
  clear H a4 a8 a6 ak;obtain⟨l,M,f,af,HF,HR,HL,HE,ak⟩:=hrel;have e3:=(FR.arr HF.o).cell (k:=3) rfl;have aF:=zcW e3;obtain⟨Al,cl,rfl,-,-,-⟩:=HL.o.form;by_cases hlt:l.length<all
  ·have a5:(l.length:Int)<(all:Int):=by omega
   by_cases he:M.e=0
   ·have d1:(M.e==0)=true:=by rw[he];rfl
    obtain⟨f,rfl⟩:∃f',f=f'+1:=⟨f-1,by have:=ak.o he;omega⟩;have bi:=ak.o he;have aj:Hid (zd1 all r (.slice Al l.length cl) wr=all+1-l.length):=(show _=_ by unfold zd1;rw[aF,if_pos he];rfl);have HN:=yo (zhe r g n c A bs most vo M wr gd ls HF.o (aM.o.fr HR.o) aq.o.1 aq.o.2.1 aq.o.2.2);have u:=yo (HE.o);rw[zar,if_pos ⟨hlt,he⟩] at u;obtain⟨q,aC,aN,aJ⟩:=zfz bs ls M;have aP:q<=300:=(by have:=aq.o.2.2;omega);rw[aC] at HN u;clear aC aN aJ HE ak;generalize (zad bs ls M).2=t1 at *;by_cases ht:t1.e=0
    ·have d2:(t1.e==0)=true:=by rw[ht];rfl
     have aW:(t1.e != 0)=false:=(by rw[ht];rfl);rw[if_pos ht] at u;by_cases h16:q<16
     ·have an:(q:Int)<16:=by omega
      rw[if_pos an] at u;have au:Hid ((l++[(q:Int)]).length=l.length+1):=(show _=_ by simp);have aT:l.length+1<=1099511627776:=(by omega);go_wp2_with (first
       |(go_at_call 158;(with_reducible refine HN.o.mono ?_);go_must (rintro e B ⟨rfl,o,t⟩;have ai:=(FR.arr o).cell (k:=3) rfl;have O:=yo (HR.o.trans t);have C:Hid (ownI B w.heap.size (.slice Al l.length cl) l):=(show ownI _ _ _ _ from ownI.rfr HL.o t G (by omega) (fun k S z=>by have h1:=I.o k S;have h2:=(olt HL.o k z).1;omega));have aU:=yo (ownI.alloc C.o (.cells #[Value.int .i64 (q:Int)] 3));have aR:=yo (FR.later o ((Below.refl B.heap.size B).alloc (nlr _) (.cells #[Value.int .i64 (q:Int)] 3)));have aG:=yo (O.o.allocd (.cells #[Value.int .i64 (q:Int)] 3));have aQ:w.heap.size<=(B.alloc (.cells #[Value.int .i64 (q:Int)] 3)).heap.size:=aG.o.size;have aA:Hid (∀k,(Value.slice Al l.length cl).ownBlock=some k->w.heap.size<=k):=(show ∀k,_ from fun k S=>(olt C.o k S).1);clear o t))
       |(at_builtin;go_must (refine zay rfl (.tmp 39) (.tmp 41) rfl w.heap.size _ l rfl aU.o (B.heap.size+1) 1 1 (some ⟨B.heap.size,0,none⟩) [(q:Int)] rfl (zbv B (q:Int)) aT aQ ?_;intro v6 J ar ax aY bb;obtain⟨A6,c6,rfl,-,-,-⟩:=ar.form;rw[au.o] at ar;have V:=yo ar;have ag:=yo (FR.side aR.o G I.o aA.o ax);have W:=yo (RFr.side (l:=l) aG.o aA.o ax);clear ar ax aY bb)))
      have a1:=(FR.arr ag.o).cell (k:=3) rfl;have ah:=zcW a1;have ag:Hid (FS J r g A n c bs most vo t1):=ag;have E:Hid (t1.e=0->all+1<=(l++[(q:Int)]).length+f):=(show _->_ from fun _=>by rw[au.o];omega);go_roundw
      case rel=>exact⟨l++[(q:Int)],t1,f,by rw[au.o];omega,ag,W,V,u,E⟩
      case measure =>
       rw[aj.o];unfold zd1;rw[ah,if_pos ht];show all+1-(l.length+1)<_;omega
     ·have an:¬(q:Int)<16:=by omega
      rw[if_neg an] at u;by_cases hq16:q=16
      ·subst hq16
       rw[if_pos (show((16:Nat):Int)=16 from rfl)] at u;by_cases hl0:l.length=0
       ·rw[if_pos hl0] at u
        have aE:(l.length:Int)=0:=(by omega);have a7:((l.length:Int)==0)=true:=(by rw[hl0];rfl);have aK:=yo (fun B (h:FS B r g A n c bs most vo t1)=>za8 r g n c A bs most vo t1 B 4 h);have a2:(t1.fail 4).e=4:=(by unfold RS.fail;rw[if_pos ht]);have az:Hid (zar bs ls all f l (t1.fail 4)=R):=(show _=_ by rw[<-u.o,zcz (fun h=>by rw[a2] at h;exact absurd h.2 (by decide))]);have E:Hid ((t1.fail 4).e=0->all+1<=l.length+f):=(show _->_ from fun h=>by rw[a2] at h;exact absurd h (by decide));clear hl0 aE;go_wp2_with (first
         |(go_at_call 158;(with_reducible refine HN.o.mono ?_);go_must (rintro e B ⟨rfl,o,t⟩;have ai:=(FR.arr o).cell (k:=3) rfl;have O:=yo (HR.o.trans t);have C:Hid (ownI B w.heap.size (.slice Al l.length cl) l):=(show ownI _ _ _ _ from ownI.rfr HL.o t G (by omega) (fun k S z=>by have h1:=I.o k S;have h2:=(olt HL.o k z).1;omega));have a3:=yo (aK.o B o);clear o t))
         |(go_at_call 105;(with_reducible refine a3.o.mono ?_);go_must (rintro e J ⟨rfl,P,F⟩;have ag:=yo P;have W:=yo (O.o.trans F);have V:Hid (ownI J w.heap.size (.slice Al l.length cl) l):=(show ownI _ _ _ _ from ownI.rfr C.o F G (by omega) (fun k S z=>by have h1:=I.o k S;have h2:=(olt C.o k z).1;omega));clear P F)))
        have a1:=(FR.arr ag.o).cell (k:=3) rfl;have ah:=zcW a1;go_roundw
        case rel=>exact⟨l,t1.fail 4,f,af,ag,W,V,az,E⟩
        case measure =>
         rw[aj.o];unfold zd1;rw[ah,a2,if_neg (by decide)];omega
       ·rw[if_neg hl0] at u
        have a7:((l.length:Int)==0)=false:=bef (by omega);have aH:l.length-1<l.length:=(by omega);have aO:l.getD (l.length-1) 0=l[l.length-1]:=(by rw[lgd,lge aH];rfl);rw[aO] at u;obtain⟨-,gq,rfl,bg,bd⟩:=ownI.pos HL.o (show 0<l.length by omega);have ay:Hid (∀w',ownI w' w.heap.size (.slice (some ⟨gq,0,none⟩) l.length cl) l->w'.cell? ⟨gq,l.length-1,none⟩=some (.int .i64 l[l.length-1])):=(show ∀w',_ from fun w' h=>ownI.cell h rfl aH);generalize l[l.length-1]=x at *;have HG:=yo (fun B (h:FS B r g A n c bs most vo t1)=>zbf r g n c A bs most vo t1 B 2 2 rfl h (by omega));have hv:=zbx bs t1 (m:=2) (by omega);generalize (zac bs t1 2).1=v at *;generalize (zac bs t1 2).2=t2 at *;have aB:v<200:=Nat.lt_of_lt_of_le hv (by decide);obtain⟨N,hN⟩:∃N,3+v=N:=⟨_,rfl⟩;have a0:(3:Int)+(v:Int)=(N:Int):=(by omega);have aD:3<=N:=(by omega);rw[hN] at u;have al:=yo (fun J lv (h:FS J r g A n c bs most vo t2) (hf:RFr w J r g vo vo) (hl:ownI J w.heap.size lv l)=>zfI r g n c A bs most vo t2 w J lv l x N all h hf hl G I.o (by omega) ao (by omega));have U:=zgp l x N all t2 af;generalize zaC l x N all t2=PP at *;clear hv hN;obtain⟨L,hL⟩:∃L,l.length=L:=⟨_,rfl⟩;obtain⟨D,hD⟩:∃D,l.length-1=D:=⟨_,rfl⟩;rw[hD] at ay;have ba:(l.length:Int)-1=(D:Int):=(by omega);have aZ:IntKind.i64.wrap (D:Int)=(D:Int):=zaa D (by omega);have bf:IntKind.i64.wrap ((l.length:Int)-1)=(D:Int):=(by rw[ba];exact aZ);have aV:IntKind.i64.wrap (N:Int)=(N:Int):=zaa N (by omega);have bc:IntKind.i64.wrap ((3:Int)+(v:Int))=(N:Int):=(by rw[a0];exact aV);have bj:D<l.length:=(by omega);clear hL hD;go_upto_region 11 with((go_at_call 158;(with_reducible refine HN.o.mono ?_);go_must (rintro e B ⟨rfl,o,t⟩;have ai:=(FR.arr o).cell (k:=3) rfl;have O:=yo (HR.o.trans t);have C:Hid (ownI B w.heap.size (.slice (some ⟨gq,0,none⟩) l.length cl) l):=(show ownI _ _ _ _ from ownI.rfr HL.o t G (by omega) (fun k S z=>by have h1:=I.o k S;have h2:=(olt HL.o k z).1;omega));have aI:=yo (HG.o B.drew (show FS B.drew r g A n c bs most vo t1 from FR.drewN o 1));have bh:=ay.o B C.o;clear o t)))
        go_region_with (first
         |(go_at_call 101;(with_reducible refine aI.o.mono ?_);go_must (rintro e J ⟨rfl,P,F⟩;have W:=yo ((show RFr w B.drew r g vo vo from RFr.drewN O.o 1).trans F);have V:Hid (ownI J w.heap.size (Value.slice (some ⟨gq,0,none⟩) l.length cl) l):=(show ownI _ _ _ _ from ownI.rfr C.o.drew F G (by have:=O.o.size;omega) (fun k S z=>by have h1:=I.o k S;have h2:=(olt C.o k z).1;omega));have bk:=ay.o J V.o;have ac:=yo (al.o J (Value.slice (some ⟨gq,0,none⟩) l.length cl) P W.o V.o);clear P F))
         |(go_at_call 162;(with_reducible refine ac.o.mono ?_);go_must (rintro e w7 ⟨v7,rfl,Y,ae,ab⟩;have aa:=yo Y;have X:=yo ae;have ap:=yo ab;clear Y ae ab)))
        all_goals
         go_simp;go_wp2_with fail;have am:=(FR.arr aa.o).cell (k:=3) rfl;have T:=zcW am;obtain⟨A7,c7,rfl,-,-,-⟩:=X.o.form;have E:Hid (PP.2.e=0->all+1<=PP.1.length+f):=(show _->_ from fun h0=>by rw[U.2 h0];omega);have Z:=yo U;clear U;go_roundw
         case rel=>exact⟨PP.1,PP.2,f,Z.o.1,aa,ap,X,u,E⟩
         case measure =>
          rw[aj.o];unfold zd1;rw[T];by_cases h0:PP.2.e=0
          ·rw[if_pos h0]
           have:=Z.o.2 h0;show all+1-PP.1.length<_;omega
          ·rw[if_neg h0]
           omega
      ·have aL:((q:Int)==16)=false:=bef (by omega)
       rw[if_neg (by omega:¬(q:Int)=16)] at u;by_cases hq17:q=17
       ·subst hq17
        rw[if_pos (show((17:Nat):Int)=17 from rfl)] at u;have HG:=yo (fun B (h:FS B r g A n c bs most vo t1)=>zbf r g n c A bs most vo t1 B 3 3 rfl h (by omega));have hv:=zbx bs t1 (m:=3) (by omega);generalize (zac bs t1 3).1=v at *;generalize (zac bs t1 3).2=t2 at *;have aB:v<200:=Nat.lt_of_lt_of_le hv (by decide);obtain⟨N,hN⟩:∃N,3+v=N:=⟨_,rfl⟩;have a0:(3:Int)+(v:Int)=(N:Int):=(by omega);have aD:3<=N:=(by omega);rw[hN] at u;have al:=yo (fun J lv (h:FS J r g A n c bs most vo t2) (hf:RFr w J r g vo vo) (hl:ownI J w.heap.size lv l)=>zfI r g n c A bs most vo t2 w J lv l 0 N all h hf hl G I.o (by omega) ao (by omega));have U:=zgp l 0 N all t2 af;generalize zaC l 0 N all t2=PP at *;clear hv hN;go_wp2_with (first
         |(go_at_call 158;(with_reducible refine HN.o.mono ?_);go_must (rintro e B ⟨rfl,o,t⟩;have ai:=(FR.arr o).cell (k:=3) rfl;have O:=yo (HR.o.trans t);have C:Hid (ownI B w.heap.size (.slice Al l.length cl) l):=(show ownI _ _ _ _ from ownI.rfr HL.o t G (by omega) (fun k S z=>by have h1:=I.o k S;have h2:=(olt HL.o k z).1;omega));have av:=yo (HG.o B o);clear o t))
         |(go_at_call 101;(with_reducible refine av.o.mono ?_);go_must (rintro e J ⟨rfl,P,F⟩;have W:=yo (O.o.trans F);have V:Hid (ownI J w.heap.size (.slice Al l.length cl) l):=(show ownI _ _ _ _ from ownI.rfr C.o F G (by omega) (fun k S z=>by have h1:=I.o k S;have h2:=(olt C.o k z).1;omega));have ac:=yo (al.o J (.slice Al l.length cl) P W.o V.o);clear P F))
         |(go_at_call 162;(with_reducible refine ac.o.mono ?_);go_must (rintro e w7 ⟨v7,rfl,Y,ae,ab⟩;have aa:=yo Y;have X:=yo ae;have ap:=yo ab;clear Y ae ab)))
        have am:=(FR.arr aa.o).cell (k:=3) rfl;have T:=zcW am;obtain⟨A7,c7,rfl,-,-,-⟩:=X.o.form;have E:Hid (PP.2.e=0->all+1<=PP.1.length+f):=(show _->_ from fun h0=>by rw[U.2 h0];omega);have Z:=yo U;clear U;go_roundw
        case rel=>exact⟨PP.1,PP.2,f,Z.o.1,aa,ap,X,u,E⟩
        case measure =>
         rw[aj.o];unfold zd1;rw[T];by_cases h0:PP.2.e=0
         ·rw[if_pos h0]
          have:=Z.o.2 h0;show all+1-PP.1.length<_;omega
         ·rw[if_neg h0]
          omega
       ·have aS:((q:Int)==17)=false:=bef (by omega)
        rw[if_neg (by omega:¬(q:Int)=17)] at u;have HG:=yo (fun B (h:FS B r g A n c bs most vo t1)=>zbf r g n c A bs most vo t1 B 7 7 rfl h (by omega));have hv:=zbx bs t1 (m:=7) (by omega);generalize (zac bs t1 7).1=v at *;generalize (zac bs t1 7).2=t2 at *;have aB:v<200:=Nat.lt_of_lt_of_le hv (by decide);obtain⟨N,hN⟩:∃N,11+v=N:=⟨_,rfl⟩;have a0:(11:Int)+(v:Int)=(N:Int):=(by omega);have aD:3<=N:=(by omega);rw[hN] at u;have al:=yo (fun J lv (h:FS J r g A n c bs most vo t2) (hf:RFr w J r g vo vo) (hl:ownI J w.heap.size lv l)=>zfI r g n c A bs most vo t2 w J lv l 0 N all h hf hl G I.o (by omega) ao (by omega));have U:=zgp l 0 N all t2 af;generalize zaC l 0 N all t2=PP at *;clear hv hN;go_wp2_with (first
         |(go_at_call 158;(with_reducible refine HN.o.mono ?_);go_must (rintro e B ⟨rfl,o,t⟩;have ai:=(FR.arr o).cell (k:=3) rfl;have O:=yo (HR.o.trans t);have C:Hid (ownI B w.heap.size (.slice Al l.length cl) l):=(show ownI _ _ _ _ from ownI.rfr HL.o t G (by omega) (fun k S z=>by have h1:=I.o k S;have h2:=(olt HL.o k z).1;omega));have av:=yo (HG.o B o);clear o t))
         |(go_at_call 101;(with_reducible refine av.o.mono ?_);go_must (rintro e J ⟨rfl,P,F⟩;have W:=yo (O.o.trans F);have V:Hid (ownI J w.heap.size (.slice Al l.length cl) l):=(show ownI _ _ _ _ from ownI.rfr C.o F G (by omega) (fun k S z=>by have h1:=I.o k S;have h2:=(olt C.o k z).1;omega));have ac:=yo (al.o J (.slice Al l.length cl) P W.o V.o);clear P F))
         |(go_at_call 162;(with_reducible refine ac.o.mono ?_);go_must (rintro e w7 ⟨v7,rfl,Y,ae,ab⟩;have aa:=yo Y;have X:=yo ae;have ap:=yo ab;clear Y ae ab)))
        have am:=(FR.arr aa.o).cell (k:=3) rfl;have T:=zcW am;obtain⟨A7,c7,rfl,-,-,-⟩:=X.o.form;have E:Hid (PP.2.e=0->all+1<=PP.1.length+f):=(show _->_ from fun h0=>by rw[U.2 h0];omega);have Z:=yo U;clear U;go_roundw
        case rel=>exact⟨PP.1,PP.2,f,Z.o.1,aa,ap,X,u,E⟩
        case measure =>
         rw[aj.o];unfold zd1;rw[T];by_cases h0:PP.2.e=0
         ·rw[if_pos h0]
          have:=Z.o.2 h0;show all+1-PP.1.length<_;omega
         ·rw[if_neg h0]
          omega
    ·have d2:(t1.e==0)=false:=bef ht
     have aW:(t1.e != 0)=true:=(by rw[bne_iff_ne];exact ht);rw[if_neg ht] at u;have az:Hid (zar bs ls all f l t1=R):=(show _=_ by rw[<-u.o,zcz (fun h=>ht h.2)]);have E:Hid (t1.e=0->all+1<=l.length+f):=(show _->_ from fun h=>absurd h ht);go_wp2_with (go_at_call 158;(with_reducible refine HN.o.mono ?_);go_must (rintro e B ⟨rfl,o,t⟩;have ai:=(FR.arr o).cell (k:=3) rfl;have O:=yo (HR.o.trans t);have C:Hid (ownI B w.heap.size (.slice Al l.length cl) l):=(show ownI _ _ _ _ from ownI.rfr HL.o t G (by omega) (fun k S z=>by have h1:=I.o k S;have h2:=(olt HL.o k z).1;omega));have aX:=yo o;clear o t));have aw:=zcW ai;go_roundw
     case rel=>exact⟨l,t1,f,af,aX,O,C,az,E⟩
     case measure =>
      rw[aj.o];unfold zd1;rw[aw,if_neg ht];omega
   ·have d1:(M.e==0)=false:=bef he
    have HS:Hid ((l,M)=R):=(show _=_ by rw[<-HE.o,zcz (fun h=>he h.2)]);go_wp2_with fail;go_ret;exact⟨_,rfl,by rw[<-HS.o];exact HF.o,by rw[<-HS.o];exact HL.o,by rw[<-HS.o];exact af,HR.o⟩
  ·have a5:¬(l.length:Int)<(all:Int):=by omega
   have HS:Hid ((l,M)=R):=(show _=_ by rw[<-HE.o,zcz (fun h=>hlt h.1)]);go_wp2_with fail;go_ret;exact⟨_,rfl,by rw[<-HS.o];exact HF.o,by rw[<-HS.o];exact HL.o,by rw[<-HS.o];exact af,HR.o⟩
end
end Go.Proofs.YtebbdifhiihfkaaGreatDoor

/- flate: the reader of blocks, whatever comes: are all lengths 0; lists by a decoder or none. -/
namespace Go.Proofs.YtebbdifhiihfkaaGreatDoor
set_option linter.all false
set_option maxRecDepth 100000
open Go.RowKit
theorem zth(B q H:Nat)(G:Option Addr)(ls:List Int)(w:World)(hr:RdI w B G q ls)(L:q<=1000):
  Calls Tryz.prog 133 #[.slice G q H] w fun e w'=>e=.returned (.bool (zcJ ls))/\w=w':=by
 have C:=yo hr;have I:=yo hr.len;clear hr;go_enter Tryz.func133,Tryz.ntmps133;go_wp2_with fail;go_loopw [7] (fun D wr=>∃k:Nat,k<=q/\D=.int .i64 k/\Hid (zaB (ls.take k)=0)/\wr=w) (fun D _=>q-(intOf D).toNat)
 case atStart=>exact⟨0,Nat.zero_le _,rfl,(show zaB (ls.take 0)=0 from rfl),rfl⟩
 case round =>
  obtain⟨k,J,rfl,z,rfl⟩:=hrel;by_cases hlt:k<q
  ·have t:(k:Int)<(q:Int):=by omega
   obtain⟨b,o,x,rfl,M,F,N⟩:=C.o.one hlt;by_cases hx0:0<x
   ·have u:Hid (zcJ ls=false):=(show _=_ by
     have h1:zaB (ls.take (k+1))=1:=(by rw[zdn F.o,zfB,z.o,if_pos hx0]);have h2:zaB ls=zaB (ls.take (k+1))+zaB (ls.drop (k+1)):=by
      unfold zaB;rw[<-List.countP_append,List.take_append_drop]
     unfold zcJ;rw[h2,h1];exact bef (by omega))
    go_wp2_with fail;go_ret;exact⟨by rw[u.o];rfl,rfl⟩
   ·have E:Hid (zaB (ls.take (k+1))=0):=(show _=_ by rw[zdn F.o,zfB,z.o,if_neg hx0])
    go_wp2_with fail;go_roundw
    case rel=>exact⟨k+1,by omega,by go_num,E,trivial⟩
    case measure=>simp[intOf];omega
  ·obtain rfl:k=q:=by omega
   have t:¬(k:Int)<(k:Int):=(by omega);have u:Hid (zcJ ls=true):=(show _=_ by
    have h1:=z.o;rw[List.take_of_length_le (by rw[I.o];exact nlr _)] at h1;unfold zcJ;rw[h1];rfl)
   go_wp2_with fail;go_ret;exact⟨by rw[u.o];rfl,rfl⟩
section
variable (r g n c : Nat) (A : Option Addr) (bs : List UInt8) (most : Int) (vo : Value) (s : RS) (w : World)
theorem zo9(t:Value)(D:Option (List Int))(all:Nat)(h:FS w r g A n c bs most vo s)(F:DV w r g vo t D)(C:D=none->¬s.e=0)(o:all<=1000):
  Calls Tryz.prog 132 #[.pointer (some ⟨r,0,none⟩),t,.int .i64 (all:Int)] w fun e w'=>∃q,e=.returned q/\FS w' r g A n c bs most vo (zeZ bs D all s).2/\ownI w' w.heap.size q (zeZ bs D all s).1/\RFr w w' r g vo vo:=by
 rcases F with⟨rfl,rfl⟩ | ⟨B,E,rfl,rfl,h1,h2⟩
 ·refine(zry r g n c A bs most vo s w (.pointer none) all h (C rfl)).mono ?_
  rintro e w' ⟨rfl,rfl⟩;exact⟨_,rfl,h,ownI.nil_ _ _,RFr.refl _ _ _ _⟩
 ·refine(zrz r g n c A bs most vo s w B E all (all+1) h h1 h2 o (nlr _)).mono ?_
  rintro e w' ⟨q,rfl,z,h4,-,u⟩;exact⟨q,rfl,z,h4,u⟩
end
end Go.Proofs.YtebbdifhiihfkaaGreatDoor

