/- XIq7 -/
import Derived.Test.YtebbdifhiihfkaaGreatDoorMm43
import Derived.Test.YtebbdifhiihfkaaGreatDoorMm14
namespace Go.Proofs.YtebbdifhiihfkaaGreatDoor
set_option linter.all false
set_option maxRecDepth 100000
set_option maxHeartbeats 3200000
open Go.RowKit
theorem zuI(bs:List UInt8)(ls:List Int)(P:Nat)(out:List UInt8):zad bs ls ⟨P,out,0⟩=((nx ls bs 15 1 0 P).1,⟨(nx ls bs 15 1 0 P).2.2,out,(nx ls bs 15 1 0 P).2.1⟩):=by
 unfold zad;rw[if_pos rfl]
theorem zn9(ls:List Int):zbg ls<=zaB ls:=by
 unfold zbg zaB;refine List.countP_mono_left fun x _ h=>?_
 have:x=1:=by simpa using h
 rw[this];rfl
def zeC(ls:List Int)(w:World)(e:Ending)(w':World):Prop:=∃ok,e=.returned (.bool ok)/\(ok=true↔zgA ls)/\w=w'
theorem zne(B n c:Nat)(A:Option Addr)(ls:List Int)(w:World)(h:RdI w B A n ls)(Y:n<=1000):
  Calls Tryz.prog 115 #[.slice A n c] w fun e w'=>zeC ls w e w':=by
 have J:=yo h;have T:=yo h.len;have F:=yo (zdT B n c A ls w h (by omega));have u:Hid (zgA ls↔(krV ls=32768\/zaB ls=0\/(zaB ls=1/\zbg ls=1))):=(show _↔_ from Iff.rfl);have I:=yo (zn9 ls);generalize krE ls=KE at *;generalize krV ls=K at *;clear h;go_enter Tryz.func115,Tryz.ntmps115;go_wp2_with (go_at_call 114;(with_reducible refine F.o.mono ?_);go_must (rintro e w1 ⟨rfl,rfl⟩));go_loopw [7,5,6] (fun H U N wr=>∃(k:Nat) (one:Bool),k<=n/\H=.int .i64 k/\U=.int .i64 (zaB (ls.take k):Int)/\N=.bool one/\Hid (one=decide (zbg (ls.take k)=zaB (ls.take k)))/\wr=w) (fun H _ _ _=>n-(intOf H).toNat)
 case atStart=>exact⟨0,true,Nat.zero_le _,rfl,rfl,rfl,(show _=_ from rfl),rfl⟩
 case round =>
  obtain⟨k,one,W,rfl,rfl,rfl,q,rfl⟩:=hrel;by_cases hlt:k<n
  ·have C:(k:Int)<(n:Int):=by omega
   obtain⟨b,o,x,rfl,X,M,Z⟩:=J.o.one hlt;have g:Hid (zaB (ls.take (k+1))=zaB (ls.take k)+if 0<x then 1 else 0):=(show _=_ by rw[zdn M.o,zfB]);have t:Hid (zbg (ls.take (k+1))=zbg (ls.take k)+if x=1 then 1 else 0):=(show _=_ by rw[zdn M.o,zkB]);have S:zaB (ls.take k)<=1000:=nlt List.countP_le_length (by rw[llt];omega);have z:zbg (ls.take k)<=zaB (ls.take k):=zn9 _;generalize zaB (ls.take k)=cp at *;generalize zbg (ls.take k)=co at *;by_cases hx0:0<x
   ·rw[if_pos hx0] at g
    by_cases s:x=1
    ·rw[if_pos s] at t
     have E:(x==1)=true:=(by rw[s];rfl);have r:Hid (one=decide (zbg (ls.take (k+1))=zaB (ls.take (k+1)))):=(show _=_ by
      rw[g.o,t.o,q.o];by_cases e:co=cp
      ·rw[decide_eq_true e,decide_eq_true (by omega)]
      ·rw[decide_eq_false e,decide_eq_false (by omega)])
     clear z q;cases one with
     |false =>
      go_wp2_with fail;go_roundw
      case rel=>exact⟨k+1,false,by omega,by go_num,by(rw[g.o])<;>(first|done|rfl|go_num),rfl,r,trivial⟩
      case measure=>simp[intOf];omega
     |true =>
      go_wp2_with fail;go_roundw
      case rel=>exact⟨k+1,true,by omega,by go_num,by(rw[g.o])<;>(first|done|rfl|go_num),rfl,r,trivial⟩
      case measure=>simp[intOf];omega
    ·rw[if_neg s] at t
     have E:(x==1)=false:=bef s;have r:Hid (false=decide (zbg (ls.take (k+1))=zaB (ls.take (k+1)))):=(show _=_ by
      rw[g.o,t.o,decide_eq_false (by omega)])
     clear z q;cases one with
     |false =>
      go_wp2_with fail;go_roundw
      case rel=>exact⟨k+1,false,by omega,by go_num,by(rw[g.o])<;>(first|done|rfl|go_num),rfl,r,trivial⟩
      case measure=>simp[intOf];omega
     |true =>
      go_wp2_with fail;go_roundw
      case rel=>exact⟨k+1,false,by omega,by go_num,by(rw[g.o])<;>(first|done|rfl|go_num),rfl,r,trivial⟩
      case measure=>simp[intOf];omega
   ·rw[if_neg hx0] at g
    have s:¬x=1:=(by omega);rw[if_neg s] at t;have r:Hid (one=decide (zbg (ls.take (k+1))=zaB (ls.take (k+1)))):=(show _=_ by
     rw[g.o,t.o,q.o,Nat.add_zero,Nat.add_zero])
    clear z q;go_wp2_with fail;go_roundw
    case rel=>exact⟨k+1,one,by omega,by go_num,by(rw[g.o])<;>(first|done|rfl|go_num),rfl,r,trivial⟩
    case measure=>simp[intOf];omega
  ·obtain rfl:k=n:=by omega
   have C:¬(k:Int)<(k:Int):=(by omega);have D:ls.take k=ls:=List.take_of_length_le (by rw[T.o];exact nlr _);rw[D] at q ⊢;clear D;generalize zaB ls=P at *;generalize zbg ls=O at *;have G:=I.o;by_cases hK:K=32768
   ·have E:(K==32768)=true:=by rw[hK];rfl
    go_wp2_with fail;go_ret;unfold zeC;exact⟨true,rfl,by rw[u.o];exact⟨fun _=>.inl hK,fun _=>rfl⟩,rfl⟩
   ·have E:(K==32768)=false:=bef hK
    by_cases hP0:P=0
    ·have R:((P:Int)==0)=true:=by rw[hP0];rfl
     clear G;go_wp2_with fail;go_ret;unfold zeC;exact⟨true,rfl,by rw[u.o];exact⟨fun _=>.inr (.inl hP0),fun _=>rfl⟩,rfl⟩
    ·have R:((P:Int)==0)=false:=bef (by omega)
     by_cases hP1:P=1
     ·have V:((P:Int)==1)=true:=by rw[hP1];rfl
      have L:Hid (one=true↔O=1):=(show _↔_ by rw[q.o,decide_eq_true_iff];omega);clear G q;cases one with
      |false =>
       go_wp2_with fail;go_ret;unfold zeC;exact⟨false,rfl,by rw[u.o];exact⟨fun h=>Bool.noConfusion h,fun h=>by rcases h with h|h|h;(· exact absurd h hK);(· exact absurd h hP0);(· exact L.o.2 h.2)⟩,rfl⟩
      |true =>
       go_wp2_with fail;go_ret;unfold zeC;exact⟨true,rfl,by rw[u.o];exact⟨fun h=>.inr (.inr ⟨hP1,L.o.1 (by first|rfl|trivial)⟩),fun _=>rfl⟩,rfl⟩
     ·have V:((P:Int)==1)=false:=bef (by omega)
      clear G;go_wp2_with fail;go_ret;unfold zeC;exact⟨false,rfl,by rw[u.o];exact⟨fun h=>Bool.noConfusion h,fun h=>by rcases h with h|h|h;(· exact absurd h hK);(· exact absurd h hP0);(· exact absurd h.1 hP1)⟩,rfl⟩
end Go.Proofs.YtebbdifhiihfkaaGreatDoor

