/- XFl1 XFl2 -/
import Derived.Test.YtebbdifhiihfkaaGreatDoorMm01
import Derived.Test.YtebbdifhiihfkaaGreatDoorMm02
namespace Go.Proofs.YtebbdifhiihfkaaGreatDoor
set_option linter.all false
set_option maxRecDepth 100000
set_option maxHeartbeats 3200000
open Go.RowKit
theorem zu1{k:Nat}(h:k<144):za6 k=8:=if_pos h
theorem zu2{k:Nat}(h:¬k<144)(h2:k<256):za6 k=9:=by unfold za6;rw[if_neg h,if_pos h2]
theorem zu3{k:Nat}(h:¬k<144)(h2:¬k<256)(g:k<280):za6 k=7:=by unfold za6;rw[if_neg h,if_neg h2,if_pos g]
theorem zu4{k:Nat}(h:¬k<144)(h2:¬k<256)(g:¬k<280):za6 k=8:=by unfold za6;rw[if_neg h,if_neg h2,if_neg g]
theorem zpX(k:Nat)(x:Int):List.replicate (k+1) x=List.replicate k x++[x]:=by rw[List.replicate_succ']
theorem zj7(w:World):Calls Tryz.prog 118 #[] w fun e w'=>∃g c g' c',e=.returned (.tuple #[.slice (some ⟨g,0,none⟩) 288 c,.slice (some ⟨g',0,none⟩) 32 c'])/\w.heap.size<=g/\w.heap.size<=g'/\RdI w' w'.heap.size (some ⟨g,0,none⟩) 288 fixL/\RdI w' w'.heap.size (some ⟨g',0,none⟩) 32 fixD/\Below w.heap.size w w':=by
 have I:=yo (ownI.nil_ w w.heap.size);have H:=yo (Below.refl w.heap.size w);go_enter Tryz.func118,Tryz.ntmps118;go_wp2_with fail;go_loopw [5,2] (fun F P wr=>∃k:Nat,k<=288/\F=.int .i64 k/\Hid (ownI wr w.heap.size P ((List.range k).map za6))/\Hid (Below w.heap.size w wr)) (fun F _ _=>288-(intOf F).toNat)
 case atStart=>exact⟨0,Nat.zero_le _,rfl,(show ownI _ _ _ _ from I.o),H⟩
 case round =>
  clear I H;obtain⟨k,U,rfl,D,B⟩:=hrel;obtain⟨X,nv,rfl,-⟩:=D.o.form;by_cases hlt:k<288
  ·have hi:(k:Int)<288:=by omega
   have s:=yo (zpV k);have E:((List.range k).map za6).length<=300:=(by simp;omega);by_cases h1:k<144
   ·have M:(k:Int)<144:=by omega
    rw[zu1 h1] at s;generalize (List.range k).map za6=l at *;go_wp2_with (at_builtin;go_must (refine zay rfl (.tmp 14) (.tmp 15) rfl w.heap.size _ _ rfl (ownI.alloc D.o _) _ 1 1 _ [(8:Int)] rfl (zbv _ _) (by omega) (by have:=B.o.size;simp;omega) ?_;intro J L o u r q;have t:=yo ((B.o.alloc B.o.size (.cells #[Value.int .i64 8] 3)).trans r);rw[<-s.o] at o;have z:=yo o;clear o u r q));go_roundw
    case rel=>exact⟨k+1,by omega,by go_num,z,t⟩
    case measure=>simp[intOf];omega
   ·have M:¬(k:Int)<144:=by omega
    by_cases h2:k<256
    ·have T:(k:Int)<256:=by omega
     rw[zu2 h1 h2] at s;generalize (List.range k).map za6=l at *;go_wp2_with (at_builtin;go_must (refine zay rfl (.tmp 20) (.tmp 21) rfl w.heap.size _ _ rfl (ownI.alloc D.o _) _ 1 1 _ [(9:Int)] rfl (zbv _ _) (by omega) (by have:=B.o.size;simp;omega) ?_;intro J L o u r q;have t:=yo ((B.o.alloc B.o.size (.cells #[Value.int .i64 9] 3)).trans r);rw[<-s.o] at o;have z:=yo o;clear o u r q));go_roundw
     case rel=>exact⟨k+1,by omega,by go_num,z,t⟩
     case measure=>simp[intOf];omega
    ·have T:¬(k:Int)<256:=by omega
     by_cases h3:k<280
     ·have O:(k:Int)<280:=by omega
      rw[zu3 h1 h2 h3] at s;generalize (List.range k).map za6=l at *;go_wp2_with (at_builtin;go_must (refine zay rfl (.tmp 26) (.tmp 27) rfl w.heap.size _ _ rfl (ownI.alloc D.o _) _ 1 1 _ [(7:Int)] rfl (zbv _ _) (by omega) (by have:=B.o.size;simp;omega) ?_;intro J L o u r q;have t:=yo ((B.o.alloc B.o.size (.cells #[Value.int .i64 7] 3)).trans r);rw[<-s.o] at o;have z:=yo o;clear o u r q));go_roundw
      case rel=>exact⟨k+1,by omega,by go_num,z,t⟩
      case measure=>simp[intOf];omega
     ·have O:¬(k:Int)<280:=by omega
      rw[zu4 h1 h2 h3] at s;generalize (List.range k).map za6=l at *;go_wp2_with (at_builtin;go_must (refine zay rfl (.tmp 8) (.tmp 9) rfl w.heap.size _ _ rfl (ownI.alloc D.o _) _ 1 1 _ [(8:Int)] rfl (zbv _ _) (by omega) (by have:=B.o.size;simp;omega) ?_;intro J L o u r q;have t:=yo ((B.o.alloc B.o.size (.cells #[Value.int .i64 8] 3)).trans r);rw[<-s.o] at o;have z:=yo o;clear o u r q));go_roundw
      case rel=>exact⟨k+1,by omega,by go_num,z,t⟩
      case measure=>simp[intOf];omega
  ·obtain rfl:k=288:=by omega
   obtain⟨C,rfl⟩:∃C:World,C=wr:=⟨_,rfl⟩;obtain⟨V,rfl,R⟩:∃g,X=some ⟨g,0,none⟩/\w.heap.size<=g:=by obtain⟨_,g,e,hg,_⟩:=D.o.pos (by simp);exact⟨g,e,hg⟩
   have S:=yo (show RdI C C.heap.size (some ⟨V,0,none⟩) 288 fixL from D.o.rd);have G:=yo (ownI.nil_ C C.heap.size);have A:=yo (Below.refl C.heap.size C);have E:((List.range 288).map za6).length=288:=(by simp);rw[E,show((288:Nat):Int)=288 from rfl];clear D;go_wp2_with fail;go_loopw [30,3] (fun F P wr=>∃k:Nat,k<=32/\F=.int .i64 k/\Hid (ownI wr C.heap.size P (List.replicate k (5:Int)))/\Hid (Below C.heap.size C wr)) (fun F _ _=>32-(intOf F).toNat)
   case atStart=>exact⟨0,Nat.zero_le _,rfl,(show ownI _ _ _ _ from G.o),A⟩
   case round =>
    clear G A;obtain⟨k,U,rfl,D,A⟩:=hrel;obtain⟨W,Z,rfl,-⟩:=D.o.form;by_cases hlt:k<32
    ·have hi:(k:Int)<32:=by omega
     have s:=yo (zpX k 5);have E:(List.replicate k (5:Int)).length<=300:=(by simp;omega);generalize List.replicate k (5:Int)=l at *;go_wp2_with (at_builtin;go_must (refine zay rfl (.tmp 32) (.tmp 33) rfl C.heap.size _ _ rfl (ownI.alloc D.o _) _ 1 1 _ [(5:Int)] rfl (zbv _ _) (by omega) (by have:=A.o.size;simp;omega) ?_;intro J L o u r q;have t:=yo ((A.o.alloc A.o.size (.cells #[Value.int .i64 5] 3)).trans r);rw[<-s.o] at o;have z:=yo o;clear o u r q));go_roundw
     case rel=>exact⟨k+1,by omega,by go_num,z,t⟩
     case measure=>simp[intOf];omega
    ·obtain rfl:k=32:=by omega
     rw[List.length_replicate];go_wp2_with fail;go_ret2;obtain⟨Y,rfl,N⟩:∃g,W=some ⟨g,0,none⟩/\C.heap.size<=g:=by obtain⟨_,g,e,hg,_⟩:=D.o.pos (by simp);exact⟨g,e,hg⟩
     exact⟨_,_,_,_,rfl,R,nlt B.o.size N,S.o.later A.o,(show RdI _ _ _ 32 fixD by have:=D.o.rd;rwa[List.length_replicate] at this),B.o.trans (A.o.mono B.o.size)⟩
theorem zlq{k:Nat}(h:k<=29):k=0\/k=1\/k=2\/k=3\/k=4\/k=5\/k=6\/k=7\/k=8\/k=9\/k=10\/k=11\/k=12\/k=13\/k=14\/k=15\/k=16\/k=17\/k=18\/k=19\/k=20\/k=21\/k=22\/k=23\/k=24\/k=25\/k=26\/k=27\/k=28\/k=29:=by omega
theorem zvJ{k:Nat}(h:k<=27):k=0\/k=1\/k=2\/k=3\/k=4\/k=5\/k=6\/k=7\/k=8\/k=9\/k=10\/k=11\/k=12\/k=13\/k=14\/k=15\/k=16\/k=17\/k=18\/k=19\/k=20\/k=21\/k=22\/k=23\/k=24\/k=25\/k=26\/k=27:=by omega
theorem zoq(k:Nat)(g:k<=27)(w:World):Calls Tryz.prog 183 #[.int .i64 (k:Int),.int .i64 4,.int .i64 3] w fun e w'=>e=.returned (.tuple #[.int .i64 ((lenOf k).1:Int),.int .i64 ((lenOf k).2:Int)])/\w=w':=by
 rcases zvJ g with rfl|rfl|rfl|rfl|rfl|rfl|rfl|rfl|rfl|rfl|rfl|rfl|rfl|rfl|rfl|rfl|rfl|rfl|rfl|rfl|rfl|rfl|rfl|rfl|rfl|rfl|rfl|rfl
 all_goals
  go_enter Tryz.func183,Tryz.ntmps183;go_wp2_with fail;go_ret2;exact⟨rfl,rfl⟩
theorem zor(k:Nat)(g:k<=29)(w:World):Calls Tryz.prog 183 #[.int .i64 (k:Int),.int .i64 2,.int .i64 1] w fun e w'=>e=.returned (.tuple #[.int .i64 ((zae k).1:Int),.int .i64 ((zae k).2:Int)])/\w=w':=by
 rcases zlq g with rfl|rfl|rfl|rfl|rfl|rfl|rfl|rfl|rfl|rfl|rfl|rfl|rfl|rfl|rfl|rfl|rfl|rfl|rfl|rfl|rfl|rfl|rfl|rfl|rfl|rfl|rfl|rfl|rfl|rfl
 all_goals
  go_enter Tryz.func183,Tryz.ntmps183;go_wp2_with fail;go_ret2;exact⟨rfl,rfl⟩
theorem zgN(k:Nat)(g:k<=28)(w:World):Calls Tryz.prog 170 #[.int .i64 (k:Int)] w fun e w'=>e=.returned (.tuple #[.int .i64 ((lenOf k).1:Int),.int .i64 ((lenOf k).2:Int)])/\w=w':=by
 by_cases h:k=28
 ·subst h
  go_enter Tryz.func170,Tryz.ntmps170;go_wp2_with fail;go_ret2;exact⟨rfl,rfl⟩
 ·have d:((k:Int)==28)=false:=bef (by omega)
  have o:=yo (zoq k (by omega) w);generalize lenOf k=r at *;clear h g;go_enter Tryz.func170,Tryz.ntmps170;go_wp2_with (go_at_call 183;(with_reducible refine o.o.mono ?_);go_must (rintro e w1 ⟨rfl,rfl⟩));go_ret2;exact⟨rfl,rfl⟩
theorem zfQ(k:Nat)(g:k<=29)(w:World):Calls Tryz.prog 171 #[.int .i64 (k:Int)] w fun e w'=>e=.returned (.tuple #[.int .i64 ((zae k).1:Int),.int .i64 ((zae k).2:Int)])/\w=w':=by
 have o:=yo (zor k (by omega) w);generalize zae k=r at *;clear g;go_enter Tryz.func171,Tryz.ntmps171;go_wp2_with (go_at_call 183;(with_reducible refine o.o.mono ?_);go_must (rintro e w1 ⟨rfl,rfl⟩));go_ret2;exact⟨rfl,rfl⟩
end Go.Proofs.YtebbdifhiihfkaaGreatDoor

/- flate: symbols of lengths and of distances. -/
namespace Go.Proofs.YtebbdifhiihfkaaGreatDoor
set_option linter.all false
set_option maxHeartbeats 3200000
open Go.RowKit
/-- What Symbol answers. -/
def zge(x:Int):Int×Int×Int:=if x<3\/258<x then(-1,0,0) else(257+(za5 x.toNat:Int),((lenOf (za5 x.toNat)).2:Int),x-((lenOf (za5 x.toNat)).1:Int))
def zgf(x:Int):Int×Int×Int:=if x<1\/32768<x then(-1,0,0) else((zaK x.toNat:Int),((zae (zaK x.toNat)).2:Int),x-((zae (zaK x.toNat)).1:Int))
theorem zfb{k:Nat}(h:k<=28):(lenOf k).1<=258/\(lenOf k).2<=5:=by
 rcases zu0 h with rfl|rfl|rfl|rfl|rfl|rfl|rfl|rfl|rfl|rfl|rfl|rfl|rfl|rfl|rfl|rfl|rfl|rfl|rfl|rfl|rfl|rfl|rfl|rfl|rfl|rfl|rfl|rfl|rfl<;>decide
theorem zet{k:Nat}(h:k<=29):(zae k).1<=24577/\(zae k).2<=13:=by
 rcases zlq h with rfl|rfl|rfl|rfl|rfl|rfl|rfl|rfl|rfl|rfl|rfl|rfl|rfl|rfl|rfl|rfl|rfl|rfl|rfl|rfl|rfl|rfl|rfl|rfl|rfl|rfl|rfl|rfl|rfl|rfl<;>decide
theorem zos(x:Int)(w:World):Calls Tryz.prog 150 #[.int .i64 x] w fun e w'=>e=.returned (.tuple #[.int .i64 (zge x).1,.int .i64 (zge x).2.1,.int .i64 (zge x).2.2])/\w=w':=by
 by_cases h1:x<3
 ·have g:Hid (zge x=(-1,0,0)):=(show _=_ from if_pos (.inl h1))
  go_enter Tryz.func150,Tryz.ntmps150;go_wp2_with fail;go_ret3;exact⟨by rw[g.o];rfl,rfl⟩
 ·by_cases h2:258<x
  ·have g:Hid (zge x=(-1,0,0)):=(show _=_ from if_pos (.inr h2))
   go_enter Tryz.func150,Tryz.ntmps150;go_wp2_with fail;go_ret3;exact⟨by rw[g.o];rfl,rfl⟩
  ·obtain⟨y,rfl⟩:=Int.eq_ofNat_of_zero_le (show 0<=x by omega)
   have g:Hid (zge (y:Int)=(257+(za5 y:Int),((lenOf (za5 y)).2:Int),(y:Int)-((lenOf (za5 y)).1:Int))):=(show _=_ by unfold zge;rw[if_neg (by omega)];rfl);have C:=yo (zcO (x:=y) (by omega));go_enter Tryz.func150,Tryz.ntmps150;go_wp2_with fail;go_loopw [5] (fun u wr=>∃k:Nat,k<=28/\u=.int .i64 k/\Hid (∀j,k<j->j<=28->y<(lenOf j).1)/\wr=w) (fun u _=>(intOf u).toNat)
   case atStart=>exact⟨28,nlr _,rfl,(show ∀j,_ from fun j a b=>by omega),rfl⟩
   case round =>
    obtain⟨k,o,rfl,A,rfl⟩:=hrel;have z:=yo (zgN k o wr);have D:=zfb o;by_cases hf:(lenOf k).1<=y
    ·have B:Hid (k=za5 y):=(show _=_ from zj6 zr9 ⟨o,hf,A.o⟩ C.o)
     have t:((lenOf k).1:Int)<=(y:Int):=(by omega);rw[<-B.o] at g;generalize lenOf k=r at *;go_wp2_with (go_at_call 170;(with_reducible refine z.o.mono ?_);go_must (rintro e w1 ⟨rfl,rfl⟩));go_ret3;exact⟨by rw[g.o];rfl,rfl⟩
    ·have t:¬((lenOf k).1:Int)<=(y:Int):=by omega
     have h0:0<k:=by
      rcases Nat.eq_zero_or_pos k with e|e
      ·subst e;exact absurd (show(lenOf 0).1<=y from by have:(lenOf 0).1=3:=rfl;omega) hf
      ·exact e
     have q:(k:Int)-1=((k-1:Nat):Int):=(by omega);have s:Hid (∀j,k-1<j->j<=28->y<(lenOf j).1):=(show ∀j,_ from fun j a b=>by
      by_cases e:j=k
      ·subst e;omega
      ·exact A.o j (by omega) b)
     generalize lenOf k=r at *;go_wp2_with (go_at_call 170;(with_reducible refine z.o.mono ?_);go_must (rintro e w1 ⟨rfl,rfl⟩));go_roundw
     case rel=>exact⟨k-1,by omega,by rw[<-q],s,trivial⟩
     case measure=>simp[intOf];omega
theorem zlr(x:Int)(w:World):Calls Tryz.prog 151 #[.int .i64 x] w fun e w'=>e=.returned (.tuple #[.int .i64 (zgf x).1,.int .i64 (zgf x).2.1,.int .i64 (zgf x).2.2])/\w=w':=by
 by_cases h1:x<1
 ·have g:Hid (zgf x=(-1,0,0)):=(show _=_ from if_pos (.inl h1))
  go_enter Tryz.func151,Tryz.ntmps151;go_wp2_with fail;go_ret3;exact⟨by rw[g.o];rfl,rfl⟩
 ·by_cases h2:32768<x
  ·have g:Hid (zgf x=(-1,0,0)):=(show _=_ from if_pos (.inr h2))
   go_enter Tryz.func151,Tryz.ntmps151;go_wp2_with fail;go_ret3;exact⟨by rw[g.o];rfl,rfl⟩
  ·obtain⟨y,rfl⟩:=Int.eq_ofNat_of_zero_le (show 0<=x by omega)
   have g:Hid (zgf (y:Int)=((zaK y:Int),((zae (zaK y)).2:Int),(y:Int)-((zae (zaK y)).1:Int))):=(show _=_ by unfold zgf;rw[if_neg (by omega)];rfl);have C:=yo (zcr (x:=y) (by omega));go_enter Tryz.func151,Tryz.ntmps151;go_wp2_with fail;go_loopw [5] (fun u wr=>∃k:Nat,k<=29/\u=.int .i64 k/\Hid (∀j,k<j->j<=29->y<(zae j).1)/\wr=w) (fun u _=>(intOf u).toNat)
   case atStart=>exact⟨29,nlr _,rfl,(show ∀j,_ from fun j a b=>by omega),rfl⟩
   case round =>
    obtain⟨k,o,rfl,A,rfl⟩:=hrel;have z:=yo (zfQ k o wr);have D:=zet o;by_cases hf:(zae k).1<=y
    ·have B:Hid (k=zaK y):=(show _=_ from zj6 zpW ⟨o,hf,A.o⟩ C.o)
     have t:((zae k).1:Int)<=(y:Int):=(by omega);rw[<-B.o] at g;generalize zae k=r at *;go_wp2_with (go_at_call 171;(with_reducible refine z.o.mono ?_);go_must (rintro e w1 ⟨rfl,rfl⟩));go_ret3;exact⟨by rw[g.o];rfl,rfl⟩
    ·have t:¬((zae k).1:Int)<=(y:Int):=by omega
     have h0:0<k:=by
      rcases Nat.eq_zero_or_pos k with e|e
      ·subst e;exact absurd (show(zae 0).1<=y from by have:(zae 0).1=1:=rfl;omega) hf
      ·exact e
     have q:(k:Int)-1=((k-1:Nat):Int):=(by omega);have s:Hid (∀j,k-1<j->j<=29->y<(zae j).1):=(show ∀j,_ from fun j a b=>by
      by_cases e:j=k
      ·subst e;omega
      ·exact A.o j (by omega) b)
     generalize zae k=r at *;go_wp2_with (go_at_call 171;(with_reducible refine z.o.mono ?_);go_must (rintro e w1 ⟨rfl,rfl⟩));go_roundw
     case rel=>exact⟨k-1,by omega,by rw[<-q],s,trivial⟩
     case measure=>simp[intOf];omega
end Go.Proofs.YtebbdifhiihfkaaGreatDoor

