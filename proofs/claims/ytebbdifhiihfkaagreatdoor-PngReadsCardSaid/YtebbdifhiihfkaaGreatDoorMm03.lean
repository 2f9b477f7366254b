/- XRef XPc1 XPc2 -/
import Derived.Test.YtebbdifhiihfkaaGreatDoorMm01
import Derived.Lib.LazyBuf
namespace Go.Proofs.YtebbdifhiihfkaaGreatDoor
set_option linter.all false
open Go.RowKit
/-- CopyBytes. -/
theorem zjY(B n c:Nat)(A:Option Addr)(bs:List UInt8)(w:World)(h:RdB w B A n bs)(g:n<=140737488355328):
  Calls Tryz.prog 8 #[.slice A n c] w fun e w'=>∃v,e=.returned v/\ownB w' w.heap.size v bs/\Below w.heap.size w w':=by
 go_enter Tryz.func8,Tryz.ntmps8;go_wp2_with (at_builtin;go_loud (refine zat rfl (.tmp 3) (.tmp 4) rfl w.heap.size _ [] rfl (zd3 w [] (by simp)) w.heap.size n c A bs rfl (Rd.alloc (Rd.here h) (nlr _) _) (by simp;omega) (by simp) ?_);intro v1 w1 hown hg hb hat);go_ret;exact⟨_,rfl,by simpa using hown,((Below.refl _ _).alloc (nlr _) _).trans hb⟩
/-- Bytes: are two lists of bytes alike? -/
theorem zfm(B n c r o g:Nat)(A A':Option Addr)(xs q:List UInt8)(w:World)(h:RdB w B A n xs)(s:RdB w r A' o q):
  Calls Tryz.prog 11 #[.slice A n c,.slice A' o g] w fun e w'=>e=.returned (.bool (xs==q))/\w=w':=by
 have k1:=zc2 h (c:=c);have t:=zc2 s (c:=g);go_enter Tryz.func11,Tryz.ntmps11;go_wp2_with fail;go_ret;exact⟨rfl,rfl⟩
end Go.Proofs.YtebbdifhiihfkaaGreatDoor

/- png: letters, a clone of bytes, a beginning. -/
namespace Go.Proofs.YtebbdifhiihfkaaGreatDoor
set_option linter.all false
set_option maxRecDepth 100000
open Go.RowKit
/-- Is it a letter? -/
def zbp(c:UInt8):Bool:=(decide (97<=c.toNat) && decide (c.toNat<=122)) ||(decide (65<=c.toNat) && decide (c.toNat<=90))
theorem zog(c:UInt8)(w:World):Calls Tryz.prog 79 #[.int .u8 (c.toNat:Int)] w fun e w'=>e=.returned (.bool (zbp c))/\w=w':=by
 unfold zbp;obtain⟨x,hx⟩:∃x,c.toNat=x:=⟨_,rfl⟩;rw[hx];clear hx;by_cases h1:97<=x
 ·have q:(97:Int)<=(x:Int):=by omega
  by_cases h2:x<=122
  ·have r:(x:Int)<=122:=by omega
   go_enter Tryz.func79,Tryz.ntmps79;go_wp2_with fail;go_ret;exact⟨by simp[h1,h2],rfl⟩
  ·have r:¬(x:Int)<=122:=by omega
   have o:(65:Int)<=(x:Int):=(by omega);have g:¬(x:Int)<=90:=(by omega);go_enter Tryz.func79,Tryz.ntmps79;go_wp2_with fail;go_ret;exact⟨by simp[h1,h2];omega,rfl⟩
 ·have q:¬(97:Int)<=(x:Int):=by omega
  by_cases h3:65<=x
  ·have o:(65:Int)<=(x:Int):=by omega
   by_cases h4:x<=90
   ·have g:(x:Int)<=90:=by omega
    go_enter Tryz.func79,Tryz.ntmps79;go_wp2_with fail;go_ret;exact⟨by simp[h1,h3,h4],rfl⟩
   ·have g:¬(x:Int)<=90:=by omega
    go_enter Tryz.func79,Tryz.ntmps79;go_wp2_with fail;go_ret;exact⟨by simp[h1,h3,h4],rfl⟩
  ·have o:¬(65:Int)<=(x:Int):=by omega
   go_enter Tryz.func79,Tryz.ntmps79;go_wp2_with fail;go_ret;exact⟨by simp[h1,h3],rfl⟩
theorem zpA(B n c:Nat)(A:Option Addr)(bs:List UInt8)(w:World)(h:RdB w B A n bs)(r:B<=w.heap.size)(s:n<=140737488355328):
  Calls Tryz.prog 49 #[.slice A n c] w fun e w'=>∃v,e=.returned v/\ownB w' w.heap.size v bs/\Below w.heap.size w w':=by
 have q:=h.len;cases A with
 |none =>
  have g:bs=[]:=by
   rcases Nat.eq_zero_or_pos n with h0|h0
   ·exact List.eq_nil_of_length_eq_zero (by omega)
   ·obtain⟨b,o,e,-⟩:=h.2 h0
    cases e
  subst g;have hq:=fun w=>Go.run_eql_slice_nil (P:=Tryz.prog) w 22 5 none n c Tryz.underlying22
  go_enter Tryz.func49,Tryz.ntmps49;go_wp2_with fail;go_ret;exact⟨_,rfl,ownB.nil_ _ _,Below.refl _ _⟩
 |some a =>
  have hq:=fun w=>Go.run_eql_slice_nil (P:=Tryz.prog) w 22 5 (some a) n c Tryz.underlying22
  go_enter Tryz.func49,Tryz.ntmps49;go_wp2_with (at_builtin;go_loud (refine zat rfl (.tmp 5) (.tmp 6) rfl w.heap.size _ [] rfl (zd3 w [] (by simp)) w.heap.size n c (some a) bs rfl (Rd.alloc (Rd.here h) (nlr _) _) (by simp;omega) (by simp) ?_);intro v1 w1 hown hg g hat);go_ret;exact⟨_,rfl,by simpa using hown,((Below.refl _ _).alloc (nlr _) _).trans g⟩
theorem zoh(B n c:Nat)(a:Addr)(bs:List UInt8)(w:World)(h:RdB w B (some a) n bs)(z:B<=w.heap.size)(u:n<=140737488355328):
  Calls Tryz.prog 49 #[.slice (some a) n c] w fun e w'=>∃v,e=.returned v/\ownB w' w.heap.size v bs/\Below w.heap.size w w'/\v.ownBlock≠none:=by
 have t:=h.len;have hq:=fun w=>Go.run_eql_slice_nil (P:=Tryz.prog) w 22 5 (some a) n c Tryz.underlying22
 go_enter Tryz.func49,Tryz.ntmps49;go_wp2_with (at_builtin;go_loud (refine zat rfl (.tmp 5) (.tmp 6) rfl w.heap.size _ [] rfl (zd3 w [] (by simp)) w.heap.size n c (some a) bs rfl (Rd.alloc (Rd.here h) (nlr _) _) (by simp;omega) (by simp) ?_);intro r w1 o hg s g;have q:Hid (r.ownBlock=some w.heap.size\/r.ownBlock=some (w.alloc (.cells #[] 5)).heap.size):=(show _\/_ from g);clear g);go_ret;refine⟨_,rfl,by simpa using o,((Below.refl _ _).alloc (nlr _) _).trans s,fun e=>?_⟩;have e:r.ownBlock=none:=e;rcases q.o with h1|h1
 ·rw[e] at h1;cases h1
 ·rw[e] at h1;cases h1
theorem zpB(B n c r o g:Nat)(A A':Option Addr)(xs q:List UInt8)(w:World)(h:RdB w B A n xs)(s:RdB w r A' o q):
  Calls Tryz.prog 47 #[.slice A n c,.slice A' o g] w fun e w'=>e=.returned (.bool (xs==q))/\w=w':=by
 have k1:=zc2 h (c:=c);have t:=zc2 s (c:=g);go_enter Tryz.func47,Tryz.ntmps47;go_wp2_with fail;go_ret;exact⟨rfl,rfl⟩
end Go.Proofs.YtebbdifhiihfkaaGreatDoor

/- png: a kind's letters; how a file begins. -/
namespace Go.Proofs.YtebbdifhiihfkaaGreatDoor
set_option linter.all false
set_option maxRecDepth 100000
open Go.RowKit
theorem zhM(S:ByteArray)(w:World)(E:S.size<=140737488355328):Calls Tryz.prog 48 #[.string S] w fun e w'=>e=.returned (.bool (S.data.toList.all zbp))/\w=w':=by
 obtain⟨V,A⟩:∃V,S.data.toList.all zbp=V:=⟨_,rfl⟩;have C:=yo A;rw[A];clear A;go_enter Tryz.func48,Tryz.ntmps48;go_wp2_with fail;go_loopw [6] (fun u wr=>∃k:Nat,k<=S.size/\u=.int .i64 (k:Int)/\Hid ((S.data.toList.take k).all zbp=true)/\Hid (w=wr)) (fun u _=>S.size-(intOf u).toNat)
 case atStart=>exact⟨0,Nat.zero_le _,rfl,rfl,rfl⟩
 case round =>
  obtain⟨k,G,rfl,B,z⟩:=hrel;have s:S.data.toList.length=S.size:=by rw[Array.length_toList];rfl
  have F:IntKind.i64.wrap ((k:Int)+1)=(k:Int)+1:=by rw[show(k:Int)+1=((k+1:Nat):Int) by omega];exact zaa _ (by omega)
  by_cases hlt:k<S.size
  ·have t:(k:Int)<(S.size:Int):=by omega
   have q:S.data.toList[k]?=some S[k]:=(by rw[lge (by omega),Array.getElem_toList];rfl);have o:S.data.toList.take (k+1)=S.data.toList.take k++[S[k]]:=(by rw[List.take_add_one,q];rfl);have g:=yo (fun w=>zog S[k] w);cases hb:zbp S[k] with
   |true =>
    rw[hb] at g;have r:Hid ((S.data.toList.take (k+1)).all zbp=true):=(show _=_ by rw[o,List.all_append,B.o];simp[hb]);clear q o hb s;go_wp2_with (go_at_call 79;(with_reducible refine(g.o _).mono ?_);go_must (rintro e w2 ⟨rfl,rfl⟩));go_roundw
    case rel=>exact⟨k+1,by omega,by go_num,r,z⟩
    case measure=>simp[intOf];omega
   |false =>
    rw[hb] at g;have D:Hid (S.data.toList.all zbp=false):=(show _=_ by
     rw[<-List.take_append_drop (k+1) S.data.toList,o,List.all_append,List.all_append];simp[hb])
    clear q o hb s;go_wp2_with (go_at_call 79;(with_reducible refine(g.o _).mono ?_);go_must (rintro e w2 ⟨rfl,rfl⟩));go_ret;obtain rfl:V=false:=C.o.symm.trans D.o;exact⟨rfl,z.o⟩
  ·have t:¬(k:Int)<(S.size:Int):=by omega
   obtain rfl:k=S.size:=by omega
   have r:Hid (S.data.toList.all zbp=true):=(show _=_ by have:=B.o;rwa[List.take_of_length_le (by omega)] at this);clear s;go_wp2_with fail;go_ret;obtain rfl:V=true:=C.o.symm.trans r.o;exact⟨rfl,z.o⟩
end Go.Proofs.YtebbdifhiihfkaaGreatDoor

