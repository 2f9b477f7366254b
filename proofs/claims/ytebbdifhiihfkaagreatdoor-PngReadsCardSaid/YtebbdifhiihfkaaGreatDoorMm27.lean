/- XRb1 XRb2 XRb3 XRb4 XRb5 XRx XZb XUnp -/
import Derived.Test.YtebbdifhiihfkaaGreatDoorMm26
import Derived.Test.YtebbdifhiihfkaaGreatDoorMm21
import Derived.Test.YtebbdifhiihfkaaGreatDoorMm22
import Derived.Test.YtebbdifhiihfkaaGreatDoorMm24
namespace Go.Proofs.YtebbdifhiihfkaaGreatDoor
set_option linter.all false
/-- Bits stand in bytes from place p on. -/
def zvO(bs:List UInt8)(p:Nat)(X:List Nat):Prop:=p+X.length<=8*bs.length/\∀j,j<X.length->zaE bs (p+j)=X.getD j 0
end Go.Proofs.YtebbdifhiihfkaaGreatDoor

/- flate: what is written is read back, plainly: a stored block, a block of the fixed codes. -/
namespace Go.Proofs.YtebbdifhiihfkaaGreatDoor
set_option linter.all false
end Go.Proofs.YtebbdifhiihfkaaGreatDoor

/- flate: lists of lengths written are read back, plainly. -/
namespace Go.Proofs.YtebbdifhiihfkaaGreatDoor
set_option linter.all false
end Go.Proofs.YtebbdifhiihfkaaGreatDoor

/- flate: what is written is read back, plainly: a block of its own codes; all that Deflate gives. -/
namespace Go.Proofs.YtebbdifhiihfkaaGreatDoor
set_option linter.all false
end Go.Proofs.YtebbdifhiihfkaaGreatDoor

/- flate: what is written is read back, plainly: all that Deflate gives. -/
namespace Go.Proofs.YtebbdifhiihfkaaGreatDoor
set_option linter.all false
end Go.Proofs.YtebbdifhiihfkaaGreatDoor

/- flate: more bytes behind, more room: the same comes out, plainly. -/
namespace Go.Proofs.YtebbdifhiihfkaaGreatDoor
set_option linter.all false
section
variable {bs more : List UInt8} {most most' : Int}
/-- How far a reader comes: within the bytes. -/
theorem ze0{s:RS}{ls:List Int}(h:s.p<=8*bs.length):(zad bs ls s).2.p<=8*bs.length:=by
 unfold zad;split
 ·exact(zi2 ls bs 15 1 0 s.p h).1
 ·exact h
theorem zrd{s:RS}{q:Nat}{dl:Option (List Int)}(h:s.p<=8*bs.length):(za3 bs most s q dl).p<=8*bs.length:=by
 have h1:(zac bs s (lenOf (q-257)).2).2.p<=8*bs.length:=zbe h;unfold za3;split
 ·rw[zaW];exact h
 ·split
  ·cases dl with
   |none =>
    show(RS.fail _ 1).p<=_;rw[zaW];exact h1
   |some ds =>
    rw[cpB];split
    ·rw[zaW];exact ze0 h1
    ·rw[zhd];exact zbe (ze0 h1)
  ·exact h1
theorem zfC{g:List Int}{dl:Option (List Int)}:∀(f:Nat) {s:RS},s.p<=8*bs.length->(zaG bs most g dl f s).p<=8*bs.length
 |0,s,h=>h
 |f+1,s,h=>by
  have h1:(zad bs g s).2.p<=8*bs.length:=ze0 h;rw[zaG];split
  ·split
   ·split
    ·exact h1
    ·split
     ·exact zfC f (by rw[zdH];exact h1)
     ·exact zfC f (zrd h1)
   ·exact h1
  ·exact h
theorem zmd:∀(k:Nat) {s:RS},s.p<=8*bs.length->(za0 bs most k s).p<=8*bs.length
 |0,s,h=>h
 |k+1,s,h=>by
  rw[za0];split
  ·split
   ·exact zmd k (by rw[zdH];exact zbe h)
   ·exact zbe h
  ·exact h
theorem zo2{s:RS}(h:s.p<=8*bs.length):(zbl bs most s).p<=8*bs.length:=by
 have h0:(pl0 s).p<=8*bs.length:=by show 8*((s.p+7) / 8)<=_;omega
 have h1:(pl2 bs s).p<=8*bs.length:=zbe (zbe h0);have h2:(pl3 bs s).p=(pl2 bs s).p:=by
  unfold pl3;split
  ·exact zaW _ _
  ·rfl
 exact zmd _ (by rw[h2];exact h1)
theorem zkH:∀(g:List Nat) (l:List Int) {s:RS},s.p<=8*bs.length->(zcA bs g l s).2.p<=8*bs.length
 | [],l,s,h=>h
 |k :: g,l,s,h=>zkH g _ (zbe h)
theorem zhg{ls:List Int}{all:Nat}:∀(f:Nat) (l:List Int) {s:RS},s.p<=8*bs.length->(zar bs ls all f l s).2.p<=8*bs.length
 |0,l,s,h=>h
 |f+1,l,s,h=>by
  have h1:(zad bs ls s).2.p<=8*bs.length:=ze0 h;have g:∀(x:Int) (k m:Nat),(zar bs ls all f (zaC l x k all (zac bs (zad bs ls s).2 m).2).1 (zaC l x k all (zac bs (zad bs ls s).2 m).2).2).2.p<=8*bs.length:=fun x k m=>zhg f _ (by rw[zrb];exact zbe h1)
  rw[zar];split
  ·split
   ·split
    ·exact zhg f _ h1
    ·split
     ·split
      ·show(RS.fail _ 4).p<=_
       rw[zaW];exact h1
      ·exact g _ _ _
     ·split
      ·exact g _ _ _
      ·exact g _ _ _
   ·exact h1
  ·exact h
theorem zre{s:RS}(h:s.p<=8*bs.length):(zaO bs s).2.p<=8*bs.length:=by
 have g:(hdA bs s).p<=8*bs.length:=by
  unfold hdA;split
  ·rw[zaW];exact zbe h
  ·exact zbe h
 have q:(hdB bs s).p<=8*bs.length:=by
  unfold hdB;split
  ·rw[zaW];exact zbe g
  ·exact zbe g
 have o:(hdL bs s).2.p<=8*bs.length:=zkH _ _ (zbe q);unfold zaO;cases zbJ (hdL bs s).1 (hdL bs s).2 with
 |none =>
  show(zaY _ _ _).p<=_;rw[zfV];exact o
 |some ls=>exact zhg _ [] (by rw[zfV];exact o)
theorem zrf{f:Nat}{s:RS}(h:s.p<=8*bs.length):(zc0 bs most f s).p<=8*bs.length:=by
 have h1:=zre h;unfold zc0 zdX;split
 ·split
  ·exact zfC f (by rw[zi4];exact h1)
  ·rw[zi4];exact h1
 ·exact h1
theorem zrg{f k:Nat}{s:RS}(h:s.p<=8*bs.length):(zdY bs most f k s).p<=8*bs.length:=by
 unfold zdY;split
 ·exact zo2 h
 ·split
  ·exact zfC f h
  ·split
   ·exact zrf h
   ·rw[zaW];exact h
theorem zme{f:Nat}{s:RS}(h:s.p<=8*bs.length):(zbR bs most f s).p<=8*bs.length:=zrg (zbe (zbe h))
theorem zmf{f:Nat}:∀(k:Nat) {s:RS},s.p<=8*bs.length->(zb1 bs most f k s).p<=8*bs.length
 |0,s,h=>h
 |k+1,s,h=>by
  rw[zb1];split
  ·split
   ·exact zmf k (zme h)
   ·exact zme h
  ·exact h
theorem ztc:(zbr bs most).p<=8*bs.length:=zmf _ (Nat.zero_le _)
/-- What is read lies within. -/
theorem znZ{f:Nat}:∀(k:Nat) (s:RS),(s.o.length:Int)<=most->((zb1 bs most f k s).o.length:Int)<=most
 |0,s,h=>h
 |k+1,s,h=>by
  have g:((zbR bs most f s).o.length:Int)<=most:=ziw (by rw[zgt];exact h);rw[zb1];split
  ·split
   ·exact znZ k _ g
   ·exact g
  ·exact h
theorem zus(h0:0<=most):((zbr bs most).o.length:Int)<=most:=znZ _ _ (by show(((0:Nat)):Int)<=most;exact h0)
end
end Go.Proofs.YtebbdifhiihfkaaGreatDoor

/- flate: what Inflate says of what Deflate gives, plainly. -/
namespace Go.Proofs.YtebbdifhiihfkaaGreatDoor
set_option linter.all false
theorem ztd{bs:List UInt8}{most:Int}(h1:0<=most)(h2:most<=40000)(h:(zbr bs most).e=0):zak bs most=((zbr bs most).o,((zbr bs most).p+7) / 8,0):=by
 unfold zak;rw[if_neg (by omega),if_pos h]
theorem ze1{bs:List UInt8}{most:Int}(h:(zak bs most).2.2=0):0<=most/\most<=40000/\(zbr bs most).e=0:=by
 unfold zak at h;split at h
 ·exact absurd (show(1:Int)=0 from h) (by decide)
 ·split at h
  ·rename_i h1 h2
   exact⟨by omega,by omega,h2⟩
  ·rename_i h2
   exact absurd h h2
/-- What is read lies within, and a block at least is read. -/
theorem zhh{bs:List UInt8}{most:Int}(h:(zak bs most).2.2=0):1<=(zak bs most).2.1/\(zak bs most).2.1<=bs.length/\(((zak bs most).1.length:Nat):Int)<=most:=by
 obtain⟨h1,h2,o⟩:=ze1 h;rw[ztd h1 h2 o];have u:(zbr bs most).p<=8*bs.length:=ztc;refine⟨?_,?_,zus h1⟩
 ·show 1<=((zbr bs most).p+7) / 8
  have key:∀k f (s:RS),s.e=0->(zb1 bs most f (k+1) s).e=0->s.p+3<=(zb1 bs most f (k+1) s).p:=fun k f=>by
   induction k with
   |zero =>
    intro s he g;rw[zb1,if_pos he] at g ⊢;split at g
    ·rename_i h0
     rw[if_pos h0];exact zfY g
    ·rename_i h0
     rw[if_neg h0];exact zfY g
   |succ k ih =>
    intro s he g;rw[zb1,if_pos he] at g ⊢;split at g
    ·rename_i h0
     rw[if_pos h0];have r:(zbR bs most f s).e=0:=Decidable.byContradiction fun q=>by
      rw[ziv q] at g;exact q g
     have:=ih _ r g;have:=zfY r;omega
    ·rename_i h0
     rw[if_neg h0];exact zfY g
  have:=key (8*bs.length) (8*bs.length+1) ⟨0,[],0⟩ rfl o;have t:0+3<=(zbr bs most).p:=this;omega
 ·show((zbr bs most).p+7) / 8<=bs.length
  omega
end Go.Proofs.YtebbdifhiihfkaaGreatDoor

/- zlib: a frame read, plainly. -/
namespace Go.Proofs.YtebbdifhiihfkaaGreatDoor
set_option linter.all false
/-- May two bytes not begin a frame? -/
def zdo(n:Nat):Prop:=¬n / 256 % 16=8\/7<n / 4096\/¬n % 31=0\/¬n / 32 % 2=0
instance (n:Nat):Decidable (zdo n):=by unfold zdo;infer_instance
def hdV(bs:List UInt8):Nat:=beV (bs.take 2)
def zdc(bs:List UInt8)(u:Nat):Nat:=beV ((bs.drop (2+u)).take 4)
def zax(bs:List UInt8)(most:Int):List UInt8×Nat×Int :=
 if bs.length<2 then([],0,2) else if zdo (hdV bs) then([],0,4) else
 if(zak (bs.drop 2) most).2.2=0 then
  (if bs.length<2+(zak (bs.drop 2) most).2.1+4 then([],0,2) else if zdc bs (zak (bs.drop 2) most).2.1=zbm (zak (bs.drop 2) most).1 then((zak (bs.drop 2) most).1,2+(zak (bs.drop 2) most).2.1+4,0) else([],0,5))
 else([],0,(zak (bs.drop 2) most).2.2)
def zcB(bs:List UInt8)(most:Int):List UInt8×Int :=
 if(zax bs most).2.2=0 then(if(zax bs most).2.1<bs.length then([],3) else((zax bs most).1,0)) else([],(zax bs most).2.2)
theorem zut{bs:List UInt8}(h:2<=bs.length):hdV bs<65536:=by
 have:=zgH bs 2 h;exact this
theorem zn0{bs:List UInt8}{u:Nat}(h:2+u+4<=bs.length):zdc bs u<4294967296:=by
 have:=zgH (bs.drop (2+u)) 4 (by rw[lld];omega);exact this
theorem zuu{bs:List UInt8}{most:Int}(h2:2<=bs.length)(h:zdo (hdV bs)):¬(zax bs most).2.2=0:=by
 unfold zax;rw[if_neg (by omega),if_pos h];exact(show ¬(4:Int)=0 by decide)
end Go.Proofs.YtebbdifhiihfkaaGreatDoor

