/- XNum2 XNum3 -/
import Derived.Test.YtebbdifhiihfkaaGreatDoorMm01
set_option linter.all false
set_option maxHeartbeats 400000
namespace Go.Proofs.YtebbdifhiihfkaaGreatDoor
open Go.RowKit
/-- Adler's two sums after the bytes, from (s, t). -/
def adF:Nat×Nat->UInt8->Nat×Nat:=fun p x=>((p.1+x.toNat) % 65521,(p.2+(p.1+x.toNat) % 65521) % 65521)
def adP(bs:List UInt8):Nat×Nat:=bs.foldl adF (1,0)
def zbm(bs:List UInt8):Nat:=(adP bs).2*65536+(adP bs).1
theorem zgI(bs:List UInt8):(adP bs).1<65521/\(adP bs).2<65521:=by
 unfold adP;rcases List.eq_nil_or_concat bs with rfl | ⟨l,x,rfl⟩
 ·simp
 ·simp[adF,List.foldl_append,Nat.mod_lt]
theorem zli(bs:List UInt8)(k:Nat)(h:k<bs.length):adP (bs.take (k+1))=adF (adP (bs.take k)) bs[k]:=by
 unfold adP;rw[List.take_succ_eq_append_getElem h,List.foldl_append];rfl
theorem zgJ(B n c:Nat)(A:Option Addr)(bs:List UInt8)(w:World)(h:RdB w B A n bs)(z:n<=140737488355328):
  Calls Tryz.prog 86 #[.slice A n c] w fun e w'=>e=.returned (.int .u32 (zbm bs))/\w=w':=by
 obtain rfl:=h.len;go_enter Tryz.func86,Tryz.ntmps86;go_wp2
 go_loop [3,4,9] (fun s t i=>∃k:Nat,k<=bs.length/\i=.int .i64 k/\s=.int .u32 (adP (bs.take k)).1/\t=.int .u32 (adP (bs.take k)).2) (fun _ _ i=>bs.length-(intOf i).toNat)
 case atStart=>exact⟨0,Nat.zero_le _,rfl,rfl,rfl⟩
 case round =>
  obtain⟨k,u,rfl,rfl,rfl⟩:=hrel;by_cases hlt:k<bs.length
  ·obtain⟨b,o,rfl,_,g⟩:=h.at_ (by omega)
   have r:=g k (by omega);clear g;have hp:=zgI (bs.take k);have hx:=bs[k].toNat_lt;have q:=yo (zli bs k (by omega));go_wp2
   go_round
   case rel=>exact⟨k+1,by omega,by go_num,by rw[q.o];simp[adF],by rw[q.o];simp[adF]⟩
   case measure=>simp[intOf];omega
  ·have hp:=zgI bs
   have:k=bs.length:=by omega
   subst this;go_wp2;go_ret;refine⟨?_,rfl⟩;show Ending.returned (.int .u32 (bits .or .u32 (((adP bs).2:Int)*65536) ((adP bs).1:Int)))=_;have e:bits .or .u32 (((adP bs).2:Int)*65536) ((adP bs).1:Int)=(zbm bs:Int):=by
    have:=u32_or_nat ((adP bs).2*65536) (adP bs).1 (by omega) (by omega);rw[nat_join 16 _ _ (by omega) (by omega)] at this;rw[zbm,<-this];simp
   rw[e]
def zdf(s:Nat):Nat:=if s % 2=1 then(s / 2) ^^^ 3988292384 else s / 2
def zcQ(s:Nat):Nat->Nat|0=>s|k+1=>zdf (zcQ s k)
def zc3(bs:List UInt8):Nat:=bs.foldl (fun s x=>zcQ (s ^^^ x.toNat) 8) 4294967295
def crc(bs:List UInt8):Nat:=4294967295 ^^^ zc3 bs
theorem zol{s:Nat}(h:s<4294967296):zdf s<4294967296:=by
 unfold zdf;split
 ·exact Nat.xor_lt_two_pow (n:=32) (by omega) (by omega)
 ·omega
theorem zh5{s:Nat}(h:s<4294967296)(k:Nat):zcQ s k<4294967296:=by
 induction k with
 |zero=>exact h
 |succ k ih=>exact zol ih
theorem zrX(bs:List UInt8):∀s,s<4294967296->bs.foldl (fun s x=>zcQ (s ^^^ x.toNat) 8) s<4294967296:=by
 induction bs with
 |nil=>exact fun s h=>h
 |cons x l ih=>exact fun s h=>ih _ (zh5 (Nat.xor_lt_two_pow (n:=32) (by omega) (by have:=x.toNat_lt;omega)) 8)
theorem zfO(bs:List UInt8):zc3 bs<4294967296:=zrX bs _ (by omega)
theorem znj(s x:Nat)(h:s<4294967296)(hx:x<256):s ^^^ x<4294967296:=Nat.xor_lt_two_pow (n:=32) (by omega) (by omega)
theorem znk(y:Nat)(h:y<4294967296)(h1:(bits .and .u32 (y:Int) 1==1)=true):bits .xor .u32 ((y:Int) / 2) 3988292384=(zdf y:Int):=by
 have e:=u32_and_nat y 1 h (by omega);rw[nat_mask1] at e;have g:bits .and .u32 (y:Int) 1=((y % 2:Nat):Int):=e;rw[g] at h1;have h2:y % 2=1:=by simp at h1;omega
 rw[zdf,if_pos h2];have:=u32_xor_nat (y / 2) 3988292384 (by omega) (by omega);rw[<-this];simp
theorem zpH(y:Nat)(h:y<4294967296)(h1:(bits .and .u32 (y:Int) 1==1)=false):(y:Int) / 2=(zdf y:Int):=by
 have e:=u32_and_nat y 1 h (by omega);rw[nat_mask1] at e;have o:bits .and .u32 (y:Int) 1=((y % 2:Nat):Int):=e;rw[o] at h1;have h2:¬y % 2=1:=by intro g;rw[g] at h1;simp at h1
 rw[zdf,if_neg h2];simp
theorem znl(y:Nat)(h:y<4294967296):bits .xor .u32 IntKind.u32.max (y:Int)=((4294967295 ^^^ y:Nat):Int):=by
 have:=u32_xor_nat 4294967295 y (by omega) h;rw[<-this];rfl
theorem zjZ(bs:List UInt8)(k:Nat)(h:k<bs.length):zc3 (bs.take (k+1))=zcQ (zc3 (bs.take k) ^^^ bs[k].toNat) 8:=by
 unfold zc3;rw[List.take_succ_eq_append_getElem h,List.foldl_append];rfl
theorem zjr(B n c:Nat)(A:Option Addr)(bs:List UInt8)(w:World)(h:RdB w B A n bs)(E:n<=140737488355328):
  Calls Tryz.prog 50 #[.slice A n c] w fun e w'=>e=.returned (.int .u32 (crc bs))/\w=w':=by
 obtain rfl:=h.len;go_enter Tryz.func50,Tryz.ntmps50;go_wp2
 go_loop [3,9] (fun s i=>∃k:Nat,k<=bs.length/\i=.int .i64 k/\s=.int .u32 (zc3 (bs.take k))) (fun _ i=>bs.length-(intOf i).toNat)
 case atStart=>exact⟨0,Nat.zero_le _,rfl,rfl⟩
 case round =>
  obtain⟨k,F,rfl,rfl⟩:=hrel;by_cases hlt:k<bs.length
  ·obtain⟨b,o,rfl,_,t⟩:=h.at_ (by omega)
   have C:=t k (by omega);clear t;have hp:=zfO (bs.take k);have hx:=bs[k].toNat_lt;have D:=yo (zjZ bs k (by omega));have q:=znj _ _ hp hx;have u:=u32_xor_nat _ _ hp (by omega:bs[k].toNat<4294967296);go_wp2
   go_loop [3,17] (fun s i=>∃m:Nat,m<=8/\i=.int .i64 m/\s=.int .u32 (zcQ (zc3 (bs.take k) ^^^ bs[k].toNat) m)) (fun _ i=>8-(intOf i).toNat)
   case atStart=>exact⟨0,Nat.zero_le _,rfl,by simp[zcQ]⟩
   case round =>
    obtain⟨m,z,rfl,rfl⟩:=hrel;have hy:=zh5 q m;have g:zcQ (zc3 (bs.take k) ^^^ bs[k].toNat) (m+1)=zdf (zcQ (zc3 (bs.take k) ^^^ bs[k].toNat) m):=rfl;by_cases E:m<8
    ·generalize zcQ (zc3 (bs.take k) ^^^ bs[k].toNat) m=y at *
     have r:=yo g;clear g;go_wp2
     ·have h1:(bits BinOp.and IntKind.u32 (y:Int) 1==1)=true:=by assumption
      go_round
      case rel=>exact⟨m+1,by omega,by go_num,by rw[r.o,znk y hy h1]⟩
      case measure=>simp[intOf];omega
     ·have h1:(bits BinOp.and IntKind.u32 (y:Int) 1==1)=false:=by assumption
      go_round
      case rel=>exact⟨m+1,by omega,by go_num,by rw[r.o,zpH y hy h1]⟩
      case measure=>simp[intOf];omega
    ·have:m=8:=by omega
     subst this;go_wp2
     go_round
     case rel=>exact⟨k+1,by omega,by go_num,by rw[D.o]⟩
     case measure=>simp[intOf];omega
  ·have:k=bs.length:=by omega
   subst this;go_wp2;go_ret;refine⟨?_,rfl⟩;show Ending.returned (.int .u32 (bits .xor .u32 IntKind.u32.max (zc3 bs:Int)))=_;rw[znl _ (zfO _)];rfl
end Go.Proofs.YtebbdifhiihfkaaGreatDoor

set_option linter.all false
set_option maxHeartbeats 400000
namespace Go.Proofs.YtebbdifhiihfkaaGreatDoor
open Go.RowKit
theorem zpi(B n c:Nat)(A:Option Addr)(bs:List UInt8)(w:World)(h:RdB w B A n bs)(z:n<=140737488355328):
  Calls Tryz.prog 91 #[.slice A n c] w fun e w'=>e=.returned (.int .u32 (zbm bs))/\w=w':=by
 obtain rfl:=h.len;go_enter Tryz.func91,Tryz.ntmps91;go_wp2
 go_loop [3,4,5] (fun s t i=>∃k:Nat,k<=bs.length/\i=.int .i64 k/\s=.int .u32 (adP (bs.take k)).1/\t=.int .u32 (adP (bs.take k)).2) (fun _ _ i=>bs.length-(intOf i).toNat)
 case atStart=>exact⟨0,Nat.zero_le _,rfl,rfl,rfl⟩
 case round =>
  obtain⟨k,u,rfl,rfl,rfl⟩:=hrel;by_cases hlt:k<bs.length
  ·obtain⟨b,o,rfl,_,g⟩:=h.at_ (by omega)
   have r:=g k (by omega);clear g;have hp:=zgI (bs.take k);have hx:=bs[k].toNat_lt;have q:=yo (zli bs k (by omega));go_wp2
   go_round
   case rel=>exact⟨k+1,by omega,by go_num,by rw[q.o];simp[adF],by rw[q.o];simp[adF]⟩
   case measure=>simp[intOf];omega
  ·have hp:=zgI bs
   have:k=bs.length:=by omega
   subst this;go_wp2;go_ret;refine⟨?_,rfl⟩;show Ending.returned (.int .u32 (bits .or .u32 (((adP bs).2:Int)*65536) ((adP bs).1:Int)))=_;have e:bits .or .u32 (((adP bs).2:Int)*65536) ((adP bs).1:Int)=(zbm bs:Int):=by
    have:=u32_or_nat ((adP bs).2*65536) (adP bs).1 (by omega) (by omega);rw[nat_join 16 _ _ (by omega) (by omega)] at this;rw[zbm,<-this];simp
   rw[e]
theorem zto(B n c:Nat)(A:Option Addr)(bs:List UInt8)(w:World)(h:RdB w B A n bs)(E:n<=140737488355328):
  Calls Tryz.prog 25 #[.slice A n c] w fun e w'=>e=.returned (.int .u32 (crc bs))/\w=w':=by
 obtain rfl:=h.len;go_enter Tryz.func25,Tryz.ntmps25;go_wp2
 go_loop [3,4] (fun s i=>∃k:Nat,k<=bs.length/\i=.int .i64 k/\s=.int .u32 (zc3 (bs.take k))) (fun _ i=>bs.length-(intOf i).toNat)
 case atStart=>exact⟨0,Nat.zero_le _,rfl,rfl⟩
 case round =>
  obtain⟨k,F,rfl,rfl⟩:=hrel;by_cases hlt:k<bs.length
  ·obtain⟨b,o,rfl,_,t⟩:=h.at_ (by omega)
   have C:=t k (by omega);clear t;have hp:=zfO (bs.take k);have hx:=bs[k].toNat_lt;have D:=yo (zjZ bs k (by omega));have q:=znj _ _ hp hx;have u:=u32_xor_nat _ _ hp (by omega:bs[k].toNat<4294967296);go_wp2
   go_loop [3,5] (fun s i=>∃m:Nat,m<=8/\i=.int .i64 m/\s=.int .u32 (zcQ (zc3 (bs.take k) ^^^ bs[k].toNat) m)) (fun _ i=>8-(intOf i).toNat)
   case atStart=>exact⟨0,Nat.zero_le _,rfl,by simp[zcQ]⟩
   case round =>
    obtain⟨m,z,rfl,rfl⟩:=hrel;have hy:=zh5 q m;have g:zcQ (zc3 (bs.take k) ^^^ bs[k].toNat) (m+1)=zdf (zcQ (zc3 (bs.take k) ^^^ bs[k].toNat) m):=rfl;by_cases E:m<8
    ·generalize zcQ (zc3 (bs.take k) ^^^ bs[k].toNat) m=y at *
     have r:=yo g;clear g;go_wp2
     ·have h1:(bits BinOp.and IntKind.u32 (y:Int) 1==1)=true:=by assumption
      go_round
      case rel=>exact⟨m+1,by omega,by go_num,by rw[r.o,znk y hy h1]⟩
      case measure=>simp[intOf];omega
     ·have h1:(bits BinOp.and IntKind.u32 (y:Int) 1==1)=false:=by assumption
      go_round
      case rel=>exact⟨m+1,by omega,by go_num,by rw[r.o,zpH y hy h1]⟩
      case measure=>simp[intOf];omega
    ·have:m=8:=by omega
     subst this;go_wp2
     go_round
     case rel=>exact⟨k+1,by omega,by go_num,by rw[D.o]⟩
     case measure=>simp[intOf];omega
  ·have:k=bs.length:=by omega
   subst this;go_wp2;go_ret;refine⟨?_,rfl⟩;show Ending.returned (.int .u32 (bits .xor .u32 IntKind.u32.max (zc3 bs:Int)))=_;rw[znl _ (zfO _)];rfl
end Go.Proofs.YtebbdifhiihfkaaGreatDoor

