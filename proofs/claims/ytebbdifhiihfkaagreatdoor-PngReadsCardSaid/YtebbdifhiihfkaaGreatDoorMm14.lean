/- XKraft XCodeP XCode1 XRowC XRowD XCode2 XCode5P -/
import Derived.Test.YtebbdifhiihfkaaGreatDoorMm02
import Derived.Test.YtebbdifhiihfkaaGreatDoorMm03
import Derived.Test.YtebbdifhiihfkaaGreatDoorMm01
namespace Go.Proofs.YtebbdifhiihfkaaGreatDoor
set_option linter.all false
set_option maxRecDepth 100000
set_option maxHeartbeats 1600000
open Go.RowKit
def krN(ls:List Int):Nat:=(ls.map fun x=>if 0<x then 2 ^ (15-x.toNat) else 0).sum
def zau(ls:List Int):Bool:=ls.any fun x=>decide (x<0) ||decide (15<x)
def krE(ls:List Int):Int:=if 300<ls.length\/zau ls=true then 1 else 0
def krV(ls:List Int):Int:=if 300<ls.length\/zau ls=true then 0 else krN ls
theorem zlz{ls:List Int}{k:Nat}{x:Int}(h:ls[k]?=some x):krN (ls.take (k+1))=krN (ls.take k)+if 0<x then 2 ^ (15-x.toNat) else 0:=by
 obtain⟨g,rfl⟩:=List.getElem?_eq_some_iff.1 h;rw[List.take_succ_eq_append_getElem g];unfold krN;rw[List.map_append,List.sum_append];simp
theorem zkd{ls:List Int}{k:Nat}{x:Int}(h:ls[k]?=some x):zau (ls.take (k+1))=(zau (ls.take k) ||(decide (x<0) ||decide (15<x))):=by
 obtain⟨g,rfl⟩:=List.getElem?_eq_some_iff.1 h;rw[List.take_succ_eq_append_getElem g];unfold zau;rw[List.any_append];simp
theorem znA{ls:List Int}{k:Nat}{x:Int}(h:ls[k]?=some x)(g:x<0\/15<x):zau ls=true:=by
 unfold zau;rw[List.any_eq_true];exact⟨x,List.mem_of_getElem? h,by simpa using g⟩
theorem zqj(ls:List Int):krN ls<=ls.length*32768:=by
 unfold krN
 induction ls with
 |nil=>simp
 |cons x r ih =>
  simp only[List.map_cons,List.sum_cons,List.length_cons];have:(if 0<x then 2 ^ (15-x.toNat) else 0)<=32768:=by
   split
   ·exact nlt (Nat.pow_le_pow_right (by decide) (Nat.sub_le 15 _)) (by decide)
   ·omega
  omega
theorem ztD(t:Nat)(h1:1<=t)(h2:t<=15):(32768:Int) / 2 ^ t=((2 ^ (15-t):Nat):Int)/\2 ^ (15-t)<=32768:=by
 have:∀t,t<=15->(32768:Int) / 2 ^ t=((2 ^ (15-t):Nat):Int)/\2 ^ (15-t)<=32768:=by decide
 exact this t h2
theorem znB(q t:Nat)(hq:q<=300*32768)(h:2 ^ (15-t)<=32768):wrap64 ((q:Int)+2 ^ (15-t))=((q+2 ^ (15-t):Nat):Int):=by
 rw[show((2:Int) ^ (15-t))=((2 ^ (15-t):Nat):Int) by push_cast;rfl];generalize 2 ^ (15-t)=u at *;rw[zb6 _ (by omega) (by omega)];omega
theorem zsr(q t:Nat)(hq:q<=300*32768)(h:2 ^ (15-t)<=32768):wrap64 ((q:Int)+wrap64 (2 ^ (15-t)))=((q+2 ^ (15-t):Nat):Int):=by
 have e:wrap64 ((2:Int) ^ (15-t))=2 ^ (15-t):=by
  rw[show((2:Int) ^ (15-t))=((2 ^ (15-t):Nat):Int) by push_cast;rfl];generalize 2 ^ (15-t)=u at *;exact zb6 _ (by omega) (by omega)
 rw[e];exact znB q t hq h
theorem zke(B n c:Nat)(A:Option Addr)(ls:List Int)(w:World)(h:RdI w B A n ls)(P:n<=1099511627776):
  Calls Tryz.prog 161 #[.slice A n c] w fun e w'=>e=.returned (.tuple #[.int .i64 (krV ls),.int .i64 (krE ls)])/\w=w':=by
 have z:=h.len;by_cases hgood:n<=300
 ·have H:=yo h
  have I:=yo z;clear h z;go_enter Tryz.func161,Tryz.ntmps161;go_wp2
  go_loop [12,4] (fun i p=>∃k:Nat,k<=n/\i=.int .i64 k/\p=.int .i64 (krN (ls.take k):Nat)/\Hid (zau (ls.take k)=false)) (fun i _=>n-(intOf i).toNat)
  case atStart=>exact⟨0,Nat.zero_le _,rfl,rfl,rfl⟩
  case round =>
   obtain⟨k,O,rfl,rfl,G⟩:=hrel;have pl:krN (ls.take k)<=300*32768:=nlt (zqj _) (Nat.mul_le_mul_right _ (by simp;omega));by_cases hlt:k<n
   ·obtain⟨b,o,x,rfl,E,C,R⟩:=H.o.one hlt
    have F:=yo (zlz C.o);have J:=yo (zkd C.o);by_cases hbad:x<0\/15<x
    ·have g:Hid (krV ls=0/\krE ls=1):=(show _/\_ by have:=znA C.o hbad;unfold krV krE;rw[if_pos (.inr this),if_pos (.inr this)];exact⟨rfl,rfl⟩)
     rcases hbad with hx|hx
     ·go_wp2
      go_ret2;exact⟨zaA (by rw[g.o.1];rfl) (by rw[g.o.2];rfl),rfl⟩
     ·have N:¬x<0:=by omega
      go_wp2;go_ret2;exact⟨zaA (by rw[g.o.1];rfl) (by rw[g.o.2];rfl),rfl⟩
    ·have D:0<=x:=by omega
     have L:x<=15:=(by omega);have s:Hid (zau (ls.take (k+1))=false):=(show _=_ by rw[J.o,G.o,decide_eq_false (show ¬x<0 by omega),decide_eq_false (show ¬15<x by omega)];rfl);clear hbad;by_cases hp:0<x
     ·obtain⟨t,rfl⟩:=Int.eq_ofNat_of_zero_le D
      have r:Hid (krN (ls.take (k+1))=krN (ls.take k)+2 ^ (15-t)):=(show _=_ by rw[F.o,if_pos hp];simp);obtain⟨hs,u⟩:=ztD t (by omega) (by omega);generalize krN (ls.take k)=q at *;have M:=yo (znB q t (by omega) u);clear u;go_wp2
      go_round
      case rel=>exact⟨k+1,by omega,by go_num,by rw[r.o,M.o],s⟩
      case measure=>simp[intOf];omega
     ·have r:Hid (krN (ls.take (k+1))=krN (ls.take k)):=(show _=_ by rw[F.o,if_neg hp];rfl)
      generalize krN (ls.take k)=q at *;go_wp2
      go_round
      case rel=>exact⟨k+1,by omega,by go_num,by rw[r.o],s⟩
      case measure=>simp[intOf];omega
   ·obtain rfl:k=n:=by omega
    have g:Hid (krV ls=krN (ls.take k)/\krE ls=0):=(show _/\_ by
     have e:ls.take k=ls:=List.take_of_length_le (by rw[I.o];exact nlr _);have E:=G.o;rw[e] at E ⊢;have:¬(300<ls.length\/zau ls=true):=by
      rw[E,I.o];rintro(h|h)
      ·omega
      ·cases h
     unfold krV krE;rw[if_neg this,if_neg this];exact⟨rfl,rfl⟩)
    generalize krN (ls.take k)=q at *;go_wp2;go_ret2;exact⟨zaA (by rw[g.o.1];rfl) (by rw[g.o.2];rfl),rfl⟩
 ·have g:Hid (krV ls=0/\krE ls=1):=(show _/\_ by unfold krV krE;rw[if_pos (.inl (by omega)),if_pos (.inl (by omega))];exact⟨rfl,rfl⟩)
  clear h z;go_enter Tryz.func161,Tryz.ntmps161;go_wp2;go_ret2;exact⟨zaA (by rw[g.o.1];rfl) (by rw[g.o.2];rfl),rfl⟩
theorem zdT(B n c:Nat)(A:Option Addr)(ls:List Int)(w:World)(h:RdI w B A n ls)(P:n<=1099511627776):
  Calls Tryz.prog 114 #[.slice A n c] w fun e w'=>e=.returned (.tuple #[.int .i64 (krV ls),.int .i64 (krE ls)])/\w=w':=by
 have z:=h.len;by_cases hgood:n<=300
 ·have H:=yo h
  have I:=yo z;clear h z;go_enter Tryz.func114,Tryz.ntmps114;go_wp2
  go_loop [5,4] (fun i p=>∃k:Nat,k<=n/\i=.int .i64 k/\p=.int .i64 (krN (ls.take k):Nat)/\Hid (zau (ls.take k)=false)) (fun i _=>n-(intOf i).toNat)
  case atStart=>exact⟨0,Nat.zero_le _,rfl,rfl,rfl⟩
  case round =>
   obtain⟨k,O,rfl,rfl,G⟩:=hrel;have pl:krN (ls.take k)<=300*32768:=nlt (zqj _) (Nat.mul_le_mul_right _ (by simp;omega));by_cases hlt:k<n
   ·obtain⟨b,o,x,rfl,E,C,R⟩:=H.o.one hlt
    have F:=yo (zlz C.o);have J:=yo (zkd C.o);by_cases hbad:x<0\/15<x
    ·have g:Hid (krV ls=0/\krE ls=1):=(show _/\_ by have:=znA C.o hbad;unfold krV krE;rw[if_pos (.inr this),if_pos (.inr this)];exact⟨rfl,rfl⟩)
     rcases hbad with hx|hx
     ·go_wp2
      go_ret2;exact⟨zaA (by rw[g.o.1];rfl) (by rw[g.o.2];rfl),rfl⟩
     ·have N:¬x<0:=by omega
      go_wp2;go_ret2;exact⟨zaA (by rw[g.o.1];rfl) (by rw[g.o.2];rfl),rfl⟩
    ·have D:0<=x:=by omega
     have L:x<=15:=(by omega);have s:Hid (zau (ls.take (k+1))=false):=(show _=_ by rw[J.o,G.o,decide_eq_false (show ¬x<0 by omega),decide_eq_false (show ¬15<x by omega)];rfl);clear hbad;by_cases hp:0<x
     ·obtain⟨t,rfl⟩:=Int.eq_ofNat_of_zero_le D
      have r:Hid (krN (ls.take (k+1))=krN (ls.take k)+2 ^ (15-t)):=(show _=_ by rw[F.o,if_pos hp];simp);obtain⟨hs,u⟩:=ztD t (by omega) (by omega);generalize krN (ls.take k)=q at *;have M:=yo (zsr q t (by omega) u);clear u;go_wp2
      go_round
      case rel=>exact⟨k+1,by omega,by go_num,by rw[r.o,M.o],s⟩
      case measure=>simp[intOf];omega
     ·have r:Hid (krN (ls.take (k+1))=krN (ls.take k)):=(show _=_ by rw[F.o,if_neg hp];rfl)
      generalize krN (ls.take k)=q at *;go_wp2
      go_round
      case rel=>exact⟨k+1,by omega,by go_num,by rw[r.o],s⟩
      case measure=>simp[intOf];omega
   ·obtain rfl:k=n:=by omega
    have g:Hid (krV ls=krN (ls.take k)/\krE ls=0):=(show _/\_ by
     have e:ls.take k=ls:=List.take_of_length_le (by rw[I.o];exact nlr _);have E:=G.o;rw[e] at E ⊢;have:¬(300<ls.length\/zau ls=true):=by
      rw[E,I.o];rintro(h|h)
      ·omega
      ·cases h
     unfold krV krE;rw[if_neg this,if_neg this];exact⟨rfl,rfl⟩)
    generalize krN (ls.take k)=q at *;go_wp2;go_ret2;exact⟨zaA (by rw[g.o.1];rfl) (by rw[g.o.2];rfl),rfl⟩
 ·have g:Hid (krV ls=0/\krE ls=1):=(show _/\_ by unfold krV krE;rw[if_pos (.inl (by omega)),if_pos (.inl (by omega))];exact⟨rfl,rfl⟩)
  clear h z;go_enter Tryz.func114,Tryz.ntmps114;go_wp2;go_ret2;exact⟨zaA (by rw[g.o.1];rfl) (by rw[g.o.2];rfl),rfl⟩
end Go.Proofs.YtebbdifhiihfkaaGreatDoor

/- huff: the first codes of lengths, plainly. -/
namespace Go.Proofs.YtebbdifhiihfkaaGreatDoor
set_option linter.all false
set_option maxRecDepth 100000
/-- How many lengths are n. -/
def cnt(ls:List Int)(n:Nat):Nat:=ls.count (n:Int)
def cz(ls:List Int):Nat->Nat
 |0=>0
 |n+1=>cnt ls (n+1)
/-- The first code of a length. -/
def fst(ls:List Int):Nat->Nat
 |0=>0
 |n+1=>2*(fst ls n+cz ls n)
/-- How much of all codes lengths up to n take. -/
def zds(ls:List Int):Nat->Nat
 |0=>0
 |n+1=>zds ls n+cnt ls (n+1)*2 ^ (15-(n+1))
theorem zqk(x:Int)(r:List Int)(n:Nat):zds (x :: r) n=zds r n+if 1<=x/\x<=n then 2 ^ (15-x.toNat) else 0:=by
 induction n with
 |zero =>
  rw[if_neg (by omega)];rfl
 |succ n ih =>
  rw[zds,zds,ih];clear ih;unfold cnt;rw[List.count_cons];generalize zds r n=a;generalize r.count ((n+1:Nat):Int)=c;by_cases h:x=((n+1:Nat):Int)
  ·subst h
   rw[if_neg (show ¬(1<=((n+1:Nat):Int)/\((n+1:Nat):Int)<=n) by omega),if_pos (show 1<=((n+1:Nat):Int)/\((n+1:Nat):Int)<=((n+1:Nat):Int) by omega),if_pos (by simp),Nat.add_mul,Int.toNat_natCast];omega
  ·have g:(x==((n+1:Nat):Int))=false:=bef h
   rw[g,if_neg (show ¬(false=true) by decide),Nat.add_zero];by_cases h1:1<=x/\x<=n
   ·rw[if_pos h1,if_pos (show 1<=x/\x<=((n+1:Nat):Int) by omega)]
    omega
   ·rw[if_neg h1,if_neg (show ¬(1<=x/\x<=((n+1:Nat):Int)) by omega)]
    omega
theorem zss(ls:List Int)(h:zau ls=false):zds ls 15=krN ls:=by
 induction ls with
 |nil=>rfl
 |cons x r ih =>
  unfold zau at h ih;rw[List.any_cons,Bool.or_eq_false_iff] at h;simp only[Bool.or_eq_false_iff,decide_eq_false_iff_not] at h;rw[zqk,ih h.2];unfold krN;rw[List.map_cons,List.sum_cons];by_cases hx:0<x
  ·rw[if_pos (show 1<=x/\x<=((15:Nat):Int) by omega),if_pos hx];exact Nat.add_comm _ _
  ·rw[if_neg (show ¬(1<=x/\x<=((15:Nat):Int)) by omega),if_neg hx];exact Nat.add_comm _ _
theorem zql(ls:List Int){m n:Nat}(h:m<=n):zds ls m<=zds ls n:=by
 induction h with
 |refl=>exact nlr _
 |step _ ih=>rw[zds];omega
theorem zst(ls:List Int):∀n,n<=14->fst ls (n+1)*2 ^ (14-n)=zds ls n:=by
 intro n
 induction n with
 |zero=>intro _;simp[fst,cz,zds]
 |succ n ih =>
  intro o;rw[zds,<-ih (by omega),fst,cz];have e:14-n=(14-(n+1))+1:=by omega
  have g:15-(n+1)=14-n:=by omega
  rw[g,e,Nat.pow_succ];generalize 2 ^ (14-(n+1))=u;generalize fst ls (n+1)=f;generalize cnt ls (n+1)=c;rw[Nat.mul_comm u 2,<-Nat.mul_assoc,<-Nat.mul_assoc,<-Nat.add_mul]
  congr 1
  omega
theorem ztZ(ls:List Int)(n:Nat)(g:n<=15):(fst ls n+cz ls n)*2 ^ (15-n)=zds ls n:=by
 cases n with
 |zero=>simp[fst,cz,zds]
 |succ n =>
  have:=zst ls n (by omega);rw[zds,<-this,cz,Nat.add_mul,show 15-(n+1)=14-n by omega]
theorem zqm(ls:List Int)(h:zau ls=false)(o:krN ls<=32768)(n:Nat)(g:n<=15):(fst ls n+cz ls n)*2 ^ (15-n)<=32768:=by
 rw[ztZ ls n g];exact nlt (zql ls g) (by rw[zss ls h];exact o)
theorem znC(ls:List Int)(h:zau ls=false)(g:krN ls<=32768)(n:Nat)(o:n<=15):fst ls n+cz ls n<=2 ^ n:=by
 have h1:=zqm ls h g n o;have h2:(32768:Nat)=2 ^ n*2 ^ (15-n):=by rw[<-Nat.pow_add,show n+(15-n)=15 by omega]
 rw[h2] at h1;exact Nat.le_of_mul_le_mul_right h1 (Nat.two_pow_pos _)
theorem zev(ls:List Int)(h:zau ls=false)(o:krN ls<=32768)(n:Nat)(g:n<=15):fst ls n+cz ls n<=32768 :=
 nlt (znC ls h o n g) (Nat.pow_le_pow_right (by decide) g)
/-- The codes of lengths: the i-th one. -/
def zaL(ls:List Int)(i:Nat):Nat×Int:=if 0<ls.getD i 0 then(fst ls (ls.getD i 0).toNat+cnt (ls.take i) (ls.getD i 0).toNat,ls.getD i 0) else(0,0)
def za7(ls:List Int):List (Nat×Int):=(List.range ls.length).map (zaL ls)
end Go.Proofs.YtebbdifhiihfkaaGreatDoor

/- huff: begins. -/
namespace Go.Proofs.YtebbdifhiihfkaaGreatDoor
set_option linter.all false
set_option maxRecDepth 100000
set_option maxHeartbeats 3200000
open Go.RowKit
def cU(l:List Nat):List Value:=l.map fun(x:Nat)=>Value.int .u32 (x:Int)
def zbV(ls:List Int):List Int:=(List.range 16).map fun n=>(cnt ls n:Int)
def zaQ(ls:List Int):List Int:=(zbV ls).set 0 0
def zav(ls:List Int)(j:Nat):List Nat:=(List.range 16).map fun n=>if n<j then fst ls n else 0
theorem zqn{ls:List Int}{k t:Nat}(h:ls[k]?=some (t:Int))(ht:t<16):zbV (ls.take (k+1))=(zbV (ls.take k)).set t ((cnt (ls.take k) t:Int)+1):=by
 obtain⟨g,hx⟩:=List.getElem?_eq_some_iff.1 h;rw[List.take_succ_eq_append_getElem g,hx];unfold zbV cnt;apply List.ext_getElem?;intro j;rw[List.getElem?_set];by_cases hj:j<16
 ·rw[List.getElem?_map,List.getElem?_map,List.getElem?_range hj]
  by_cases e:t=j
  ·subst e
   rw[if_pos rfl,if_pos (by simp;omega)];simp[List.count_append]
  ·rw[if_neg e]
   have:¬(t:Int)=(j:Int):=by omega
   simp[List.count_append,List.count_cons,this]
 ·rw[List.getElem?_eq_none (by simp;omega)]
  by_cases e:t=j
  ·omega
  ·rw[if_neg e,List.getElem?_eq_none (by simp;omega)]
theorem zlA(ls:List Int){t:Nat}(ht:t<16):(cI (zbV ls))[t]?=some (.int .i64 (cnt ls t:Int)):=by
 simp[cI,zbV,ht]
theorem zlB(ls:List Int){t:Nat}(ht:t<16):(cI (zaQ ls))[t]?=some (.int .i64 (cz ls t:Int)):=by
 unfold zaQ zbV cI;rw[List.getElem?_map,List.getElem?_set];cases t with
 |zero=>simp[cz]
 |succ n =>
  rw[if_neg (by omega),List.getElem?_map,List.getElem?_range ht];rfl
theorem zkf(ls:List Int)(j:Nat){t:Nat}(ht:t<16):(cU (zav ls j))[t]?=some (.int .u32 ((if t<j then fst ls t else 0:Nat):Int)):=by
 simp[cU,zav,ht]
theorem zoC(ls:List Int){j:Nat}(g:j<16):cU (zav ls (j+1))=(cU (zav ls j)).set j (.int .u32 (fst ls j:Int)):=by
 unfold cU zav;apply List.ext_getElem?;intro i;rw[List.getElem?_set];by_cases hi:i<16
 ·rw[List.getElem?_map,List.getElem?_map,List.getElem?_map,List.getElem?_map,List.getElem?_range hi]
  by_cases e:j=i
  ·subst e
   rw[if_pos rfl,if_pos (by simp;omega)];simp
  ·rw[if_neg e]
   by_cases e2:i<j
   ·simp[e2,show i<j+1 by omega]
   ·simp[e2,show ¬i<j+1 by omega]
 ·rw[List.getElem?_eq_none (by simp;omega)]
  by_cases e:j=i
  ·omega
  ·rw[if_neg e,List.getElem?_eq_none (by simp;omega)]
theorem zqo(l:List Int)(t:Nat)(x:Int):(cI l).set t (.int .i64 x)=cI (l.set t x):=by simp[cI,List.map_set]
theorem zlC(ls:List Int)(t:Nat):cnt ls t<=ls.length:=List.count_le_length
theorem Arr.new1(w:World)(o:Obj)(cs:List Value)(t:TypeId):Arr ((w.alloc o).alloc (.cells cs.toArray t)) (w.heap.size+1) cs:=by
 have:=Arr.new (w.alloc o) cs t;rw[wsa] at this;exact this
theorem Arr.new2(w:World)(o g:Obj)(cs:List Value)(t:TypeId):Arr (((w.alloc o).alloc g).alloc (.cells cs.toArray t)) (w.heap.size+1+1) cs:=by
 have:=Arr.new1 (w.alloc o) g cs t;rw[wsa] at this;exact this
theorem zgY(l:List Nat):∀v∈cU l,v.oneCell'=true:=by
 intro u g;simp only[cU,List.mem_map] at g;obtain⟨b,_,rfl⟩:=g;rfl
theorem Tryz.size_u16:(Tryz.prog.info? 219).map (·.size)=some 16:=by kernel_rfl
theorem Tryz.size_i16:(Tryz.prog.info? 220).map (·.size)=some 16:=by kernel_rfl
theorem zcK{ls:List Int}(h:zau ls=false){k:Nat}{x:Int}(hx:ls[k]?=some x):0<=x/\x<=15:=by
 unfold zau at h;rw[List.any_eq_false] at h;have:=h x (List.mem_of_getElem? hx);simp only[Bool.or_eq_true,decide_eq_true_eq] at this;omega
theorem ziK(B n c:Nat)(A:Option Addr)(ls:List Int)(w:World)(h:RdI w B A n ls)(S:B<=w.heap.size)(hn:n<=300)(T:zau ls=false)(P:krN ls<=32768):
  Calls Tryz.prog 168 #[.slice A n c] w fun e w'=>e=.returned (.tuple #[.agg (cU (zav ls 16)).toArray,.agg (cI (zaQ ls)).toArray])/\Below w.heap.size w w':=by
 have H:=yo h;have HL:=yo h.len;have L:=yo T;have HK:=yo P;clear h T P;go_enter Tryz.func168,Tryz.ntmps168;go_wp2;have r:=yo (((Arr.new w (cU (List.replicate 16 0)) 219).alloc (.cells (cI (List.replicate 16 0)).toArray 220)).alloc (.cells (cI (List.replicate 16 0)).toArray 220));have s:=yo ((Arr.new1 w (.cells (cU (List.replicate 16 0)).toArray 219) (cI (List.replicate 16 0)) 220).alloc (.cells (cI (List.replicate 16 0)).toArray 220));have u:=yo (Arr.new2 w (.cells (cU (List.replicate 16 0)).toArray 219) (.cells (cI (List.replicate 16 0)).toArray 220) (cI (List.replicate 16 0)) 220);have N:=yo ((((Below.refl w.heap.size w).alloc (nlr _) (.cells (cU (List.replicate 16 0)).toArray 219)).alloc (by simp) (.cells (cI (List.replicate 16 0)).toArray 220)).alloc (by simp;omega) (.cells (cI (List.replicate 16 0)).toArray 220));go_loopw [12] (fun i wr=>∃k:Nat,k<=n/\i=.int .i64 k/\Hid (Arr wr w.heap.size (cU (List.replicate 16 0)))/\Hid (Arr wr (w.heap.size+1) (cI (List.replicate 16 0)))/\Hid (Arr wr (w.heap.size+1+1) (cI (zbV (ls.take k))))/\wr.heap.size=w.heap.size+1+1+1/\Hid (Below w.heap.size w wr))
  (fun i _=>n-(intOf i).toNat)
 case atStart=>exact⟨0,Nat.zero_le _,rfl,r,s,u,by simp,N⟩
 case round =>
  clear r s u N;obtain⟨k,P,rfl,r,s,u,O,F⟩:=hrel;by_cases hlt:k<n
  ·obtain⟨b,o,x,rfl,T,W,e1⟩:=(H.o.blw (F.o.mono S)).one hlt
   obtain⟨x0,x1⟩:=zcK L.o W.o;obtain⟨t,rfl⟩:=Int.eq_ofNat_of_zero_le x0;have ht:t<16:=(by omega);have c4:=u.o.cell (zlA (ls.take k) ht);have Y:=u.o.frozen t;have hc:cnt (ls.take k) t<=300:=nlt (zlC _ _) (by simp;omega);have R:=yo (zqn W.o ht);have Z:=yo (u.o.set t (.int .i64 ((cnt (ls.take k) t:Int)+1)));generalize cnt (ls.take k) t=q at *;have E:=yo (F.o.setCell (p:=⟨w.heap.size+1+1,t,none⟩) (by show w.heap.size<=w.heap.size+1+1;omega) (.int .i64 ((q:Int)+1)));have C:=yo (r.o.far (p:=⟨w.heap.size+1+1,t,none⟩) (by show w.heap.size+1+1≠w.heap.size;omega) (.int .i64 ((q:Int)+1)));have D:=yo (s.o.far (p:=⟨w.heap.size+1+1,t,none⟩) (by show w.heap.size+1+1≠w.heap.size+1;omega) (.int .i64 ((q:Int)+1)));have X:(t:Int)<16:=(by omega);go_wp2;go_roundw
   case rel=>exact⟨k+1,by omega,by go_num,C,D,(show Arr _ _ _ by rw[R.o,<-zqo];exact Z.o),by simp;exact O,E⟩
   case measure=>simp[intOf];omega
  ·obtain rfl:k=n:=by omega
   have HE:Hid (ls.take k=ls):=(show _=_ from List.take_of_length_le (by rw[HL.o];exact nlr _));have I:=yo (u.o.set 0 (.int .i64 0));have c4:=u.o.cell (zlA (ls.take k) (t:=0) (by omega));have Y:=u.o.frozen 0;have J:=yo (show Arr ((wr.setCell ⟨w.heap.size+1+1,0,none⟩ (.int .i64 0)).alloc (.cells (cU (List.replicate 16 0)).toArray 219)) (w.heap.size+1+1) (cI (zaQ ls)) from by
    have:=I.o.alloc (.cells (cU (List.replicate 16 0)).toArray 219);rw[HE.o,zqo] at this;exact this)
   have G:=yo (show Arr ((wr.setCell ⟨w.heap.size+1+1,0,none⟩ (.int .i64 0)).alloc (.cells (cU (List.replicate 16 0)).toArray 219)) (w.heap.size+1+1+1) (cU (zav ls 1)) from by
    have:=Arr.new (wr.setCell ⟨w.heap.size+1+1,0,none⟩ (.int .i64 0)) (cU (List.replicate 16 0)) 219;rw[show(wr.setCell ⟨w.heap.size+1+1,0,none⟩ (.int .i64 0)).heap.size=w.heap.size+1+1+1 by simp;exact O] at this;have e:cU (zav ls 1)=cU (List.replicate 16 0):=rfl;rw[e];exact this)
   have C:=yo ((r.o.far (p:=⟨w.heap.size+1+1,0,none⟩) (by show w.heap.size+1+1≠w.heap.size;omega) (.int .i64 0)).alloc (.cells (cU (List.replicate 16 0)).toArray 219));have D:=yo ((s.o.far (p:=⟨w.heap.size+1+1,0,none⟩) (by show w.heap.size+1+1≠w.heap.size+1;omega) (.int .i64 0)).alloc (.cells (cU (List.replicate 16 0)).toArray 219));have E:=yo ((F.o.setCell (p:=⟨w.heap.size+1+1,0,none⟩) (by show w.heap.size<=w.heap.size+1+1;omega) (.int .i64 0)).alloc (by simp;omega) (.cells (cU (List.replicate 16 0)).toArray 219));clear r s u F I;go_wp2;go_loopw [9,8] (fun V vc wr=>∃q:Nat,q<=15/\V=.int .i64 ((q:Int)+1)/\vc=.int .u32 (fst ls q:Nat)/\Hid (Arr wr w.heap.size (cU (List.replicate 16 0)))/\Hid (Arr wr (w.heap.size+1) (cI (List.replicate 16 0)))/\Hid (Arr wr (w.heap.size+1+1) (cI (zaQ ls)))/\Hid (Arr wr (w.heap.size+1+1+1) (cU (zav ls (q+1))))/\Hid (Below w.heap.size w wr))
    (fun V _ _=>17-(intOf V).toNat)
   case atStart=>exact⟨0,by omega,rfl,rfl,C,D,J,G,E⟩
   case round =>
    clear C D J G E;obtain⟨q,hq,rfl,rfl,r,s,I,M,F⟩:=hrel;by_cases hlt:q<15
    ·have c5:=I.o.cell (zlB ls (t:=q) (by omega))
     have c7:=M.o.cell (zkf ls (q+1) (t:=q+1) (by omega));rw[if_neg (by omega)] at c7;have f7:=M.o.frozen (q+1);have aa:=zev ls L.o HK.o q (by omega);have U:Hid (fst ls (q+1)=2*(fst ls q+cz ls q)):=(show _=_ from rfl);have G:=yo (show Arr (wr.setCell ⟨w.heap.size+1+1+1,q+1,none⟩ (.int .u32 (((fst ls q:Int)+(cz ls q:Int))*2))) (w.heap.size+1+1+1) (cU (zav ls (q+1+1))) from by
      rw[zoC ls (j:=q+1) (by omega)];have e:((fst ls (q+1):Nat):Int)=((fst ls q:Int)+(cz ls q:Int))*2:=(by rw[fst];omega);rw[e];exact M.o.set (q+1) _)
     generalize fst ls q=f at *;generalize cz ls q=z at *;have g1:((q:Int)+1).toNat=q+1:=(by omega);have C:=yo (fun v=>r.o.far (p:=⟨w.heap.size+1+1+1,q+1,none⟩) (by show w.heap.size+1+1+1≠w.heap.size;omega) v);have D:=yo (fun v=>s.o.far (p:=⟨w.heap.size+1+1+1,q+1,none⟩) (by show w.heap.size+1+1+1≠w.heap.size+1;omega) v);have J:=yo (fun v=>I.o.far (p:=⟨w.heap.size+1+1+1,q+1,none⟩) (by show w.heap.size+1+1+1≠w.heap.size+1+1;omega) v);have E:=yo (fun v=>F.o.setCell (p:=⟨w.heap.size+1+1+1,q+1,none⟩) (by show w.heap.size<=w.heap.size+1+1+1;omega) v);clear r s I M F;go_wp2;go_roundw
     case rel=>exact⟨q+1,by omega,by go_num,by rw[U.o];first|go_num|(congr 1;omega),C.o _,D.o _,J.o _,G,E.o _⟩
     case measure=>simp[intOf];omega
    ·obtain rfl:q=15:=by omega
     clear hlt;go_wp2_with fail;refine wp_region_any (by kernel_rfl) ?_;change wpAny _ _ _ _ _ _ _ (World.drew _);refine wpAny_ready (rs:=[0,1]) (by kernel_rfl) (by simp) ?_;refine AllReady.cons rfl (fun K g=>?_) (AllReady.cons rfl (fun K g=>?_) AllReady.nil)
     ·refine zcX rfl 219 (.tmp 7) rfl (w.heap.size+1+1+1) (cU (zav ls 16)) rfl M.o _ Tryz.underlying219 rfl (Tryz.size_u16.trans (by simp[cU,zav])) ?_
      go_simp;refine g _ _ ?_;clear g K;refine wpAny_ready (rs:=[1,2]) (by kernel_rfl) (by simp) ?_;refine AllReady.cons rfl (fun K g=>?_) (AllReady.cons rfl (fun K g=>?_) AllReady.nil)
      ·refine zcX rfl 220 (.tmp 4) rfl (w.heap.size+1+1) (cI (zaQ ls)) rfl I.o _ Tryz.underlying220 rfl (Tryz.size_i16.trans (by simp[cI,zaQ,zbV])) ?_
       go_simp;refine g _ _ ?_;clear g K;refine wpAny_ready (rs:=[2]) (by kernel_rfl) (by simp) ?_;refine AllReady.cons rfl (fun K g=>?_) AllReady.nil
       ·refine zca rfl 219 (.tmp 2) (.tmp 38) rfl w.heap.size (cU (List.replicate 16 0)) (cU (zav ls 16)) rfl rfl r.o (Tryz.size_u16.trans (by simp[cU,zav])) (by simp[cU,zav]) (zgY _) ?_
        go_simp;refine g _ _ ?_;clear g K;refine wpAny_ready (rs:=[3]) (by kernel_rfl) (by simp) ?_;refine AllReady.cons rfl (fun K g=>?_) AllReady.nil
        ·refine zca rfl 220 (.tmp 3) (.tmp 39) rfl (w.heap.size+1) (cI (List.replicate 16 0)) (cI (zaQ ls)) rfl rfl (s.o.farRow (by omega) _) (Tryz.size_i16.trans (by simp[cI,zaQ,zbV])) (by simp[cI,zaQ,zbV]) (zfP _) ?_
         go_simp;refine g _ _ ?_;clear g K;refine wpAny_done (by kernel_rfl) ?_ _;go_wp2_with fail;exact bodyPost_ret (v:=.tuple #[.agg (cU (zav ls 16)).toArray,.agg (cI (zaQ ls)).toArray]) (zeD rfl _ _ w.heap.size (w.heap.size+1) (cU (zav ls 16)) (cI (zaQ ls)) _ _ rfl rfl ((r.o.drew.row _).farRow (by omega) _) ((s.o.drew.farRow (by omega) _).row _) Tryz.underlying219 rfl (Tryz.size_u16.trans (by simp[cU,zav])) Tryz.underlying220 rfl (Tryz.size_i16.trans (by simp[cI,zaQ,zbV]))) rfl ⟨rfl,zbi (zbi (zag F.o 1) (nlr _) _) (by omega) _⟩
      ·refine zca rfl 219 (.tmp 2) (.tmp 38) rfl w.heap.size (cU (List.replicate 16 0)) (cU (zav ls 16)) rfl rfl r.o (Tryz.size_u16.trans (by simp[cU,zav])) (by simp[cU,zav]) (zgY _) ?_
       go_simp;refine g _ _ ?_;clear g K;refine wpAny_ready (rs:=[1]) (by kernel_rfl) (by simp) ?_;refine AllReady.cons rfl (fun K g=>?_) AllReady.nil
       ·refine zcX rfl 220 (.tmp 4) rfl (w.heap.size+1+1) (cI (zaQ ls)) rfl (I.o.farRow (by omega) _) _ Tryz.underlying220 rfl (Tryz.size_i16.trans (by simp[cI,zaQ,zbV])) ?_
        go_simp;refine g _ _ ?_;clear g K;refine wpAny_ready (rs:=[3]) (by kernel_rfl) (by simp) ?_;refine AllReady.cons rfl (fun K g=>?_) AllReady.nil
        ·refine zca rfl 220 (.tmp 3) (.tmp 39) rfl (w.heap.size+1) (cI (List.replicate 16 0)) (cI (zaQ ls)) rfl rfl (s.o.farRow (by omega) _) (Tryz.size_i16.trans (by simp[cI,zaQ,zbV])) (by simp[cI,zaQ,zbV]) (zfP _) ?_
         go_simp;refine g _ _ ?_;clear g K;refine wpAny_done (by kernel_rfl) ?_ _;go_wp2_with fail;exact bodyPost_ret (v:=.tuple #[.agg (cU (zav ls 16)).toArray,.agg (cI (zaQ ls)).toArray]) (zeD rfl _ _ w.heap.size (w.heap.size+1) (cU (zav ls 16)) (cI (zaQ ls)) _ _ rfl rfl ((r.o.drew.row _).farRow (by omega) _) ((s.o.drew.farRow (by omega) _).row _) Tryz.underlying219 rfl (Tryz.size_u16.trans (by simp[cU,zav])) Tryz.underlying220 rfl (Tryz.size_i16.trans (by simp[cI,zaQ,zbV]))) rfl ⟨rfl,zbi (zbi (zag F.o 1) (nlr _) _) (by omega) _⟩
     ·refine zcX rfl 220 (.tmp 4) rfl (w.heap.size+1+1) (cI (zaQ ls)) rfl I.o _ Tryz.underlying220 rfl (Tryz.size_i16.trans (by simp[cI,zaQ,zbV])) ?_
      go_simp;refine g _ _ ?_;clear g K;refine wpAny_ready (rs:=[0]) (by kernel_rfl) (by simp) ?_;refine AllReady.cons rfl (fun K g=>?_) AllReady.nil
      ·refine zcX rfl 219 (.tmp 7) rfl (w.heap.size+1+1+1) (cU (zav ls 16)) rfl M.o _ Tryz.underlying219 rfl (Tryz.size_u16.trans (by simp[cU,zav])) ?_
       go_simp;refine g _ _ ?_;clear g K;refine wpAny_ready (rs:=[2]) (by kernel_rfl) (by simp) ?_;refine AllReady.cons rfl (fun K g=>?_) AllReady.nil
       ·refine zca rfl 219 (.tmp 2) (.tmp 38) rfl w.heap.size (cU (List.replicate 16 0)) (cU (zav ls 16)) rfl rfl r.o (Tryz.size_u16.trans (by simp[cU,zav])) (by simp[cU,zav]) (zgY _) ?_
        go_simp;refine g _ _ ?_;clear g K;refine wpAny_ready (rs:=[3]) (by kernel_rfl) (by simp) ?_;refine AllReady.cons rfl (fun K g=>?_) AllReady.nil
        ·refine zca rfl 220 (.tmp 3) (.tmp 39) rfl (w.heap.size+1) (cI (List.replicate 16 0)) (cI (zaQ ls)) rfl rfl (s.o.farRow (by omega) _) (Tryz.size_i16.trans (by simp[cI,zaQ,zbV])) (by simp[cI,zaQ,zbV]) (zfP _) ?_
         go_simp;refine g _ _ ?_;clear g K;refine wpAny_done (by kernel_rfl) ?_ _;go_wp2_with fail;exact bodyPost_ret (v:=.tuple #[.agg (cU (zav ls 16)).toArray,.agg (cI (zaQ ls)).toArray]) (zeD rfl _ _ w.heap.size (w.heap.size+1) (cU (zav ls 16)) (cI (zaQ ls)) _ _ rfl rfl ((r.o.drew.row _).farRow (by omega) _) ((s.o.drew.farRow (by omega) _).row _) Tryz.underlying219 rfl (Tryz.size_u16.trans (by simp[cU,zav])) Tryz.underlying220 rfl (Tryz.size_i16.trans (by simp[cI,zaQ,zbV]))) rfl ⟨rfl,zbi (zbi (zag F.o 1) (nlr _) _) (by omega) _⟩
end Go.Proofs.YtebbdifhiihfkaaGreatDoor

/- Rows of huff.Code: 2 cells an element. -/
namespace Go.Proofs.YtebbdifhiihfkaaGreatDoor
set_option linter.all false
open Go.RowKit
def eC(x:(Nat×Int)):List Value:=[Value.int .u32 (x.1:Int),Value.int .i64 x.2]
theorem ziL(x:(Nat×Int)):(eC x).length=2:=rfl
/-- The cells of a list. -/
def cC(l:List (Nat×Int)):List Value:=l.flatMap eC
theorem zgZ:∀l:List (Nat×Int),(cC l).length=l.length*2
 | []=>rfl
 |x :: l=>by
  have:=zgZ l;unfold cC at this ⊢;rw[List.flatMap_cons,lla,this,ziL,List.length_cons];omega
theorem zkg(a b:List (Nat×Int)):cC (a++b)=cC a++cC b:=by simp[cC]
theorem ziM:∀(l:List (Nat×Int)) (k j:Nat) (g:k<l.length),j<2->(cC l)[k*2+j]?=(eC l[k])[j]?
 |x :: l,0,j,_,hj=>by
  unfold cC;rw[List.flatMap_cons,List.getElem?_append_left (by rw[ziL];omega)];simp
 |x :: l,i+1,j,hi,hj=>by
  have:=ziM l i j (by simpa using hi) hj;unfold cC at this ⊢;rw[List.flatMap_cons,List.getElem?_append_right (by rw[ziL];omega),ziL,List.getElem_cons_succ,<-this]
  congr 1
  omega
theorem zu9(l:List (Nat×Int))(k:Nat)(x:(Nat×Int))(g:k<l.length):cC (l.set k x)=((cC l).set (k*2) (Value.int .u32 (x.1:Int))).set (k*2+1) (Value.int .i64 x.2):=by
 have t:l=l.take k++l[k] :: l.drop (k+1):=by rw[<-List.drop_eq_getElem_cons g,List.take_append_drop]
 have r:l.set k x=l.take k++x :: l.drop (k+1):=by rw[List.set_eq_take_append_cons_drop,if_pos g]
 rw[r];have o:(cC (l.take k)).length=k*2:=by rw[zgZ,llt,Nat.min_eq_left (by omega)]
 have s:cC l=cC (l.take k)++(eC l[k]++cC (l.drop (k+1))):=by
  conv=>lhs;rw[t]
  rw[zkg];simp only[cC,List.flatMap_cons]
 have q:cC (l.take k++x :: l.drop (k+1))=cC (l.take k)++(eC x++cC (l.drop (k+1))):=by
  rw[zkg];simp only[cC,List.flatMap_cons]
 rw[s,q];generalize cC (l.take k)=P at *;rw[<-o];simp[eC,List.set_append]
theorem Tryz.info_C:(Tryz.prog.info? 192).map (fun i=>(i.zero,i.size,i.bytes))=some (some (.agg #[.int .u32 0,.int .i64 0]),2,16):=by kernel_rfl
def ownC(w:World)(base:Nat)(v:Value)(l:List (Nat×Int)):Prop:=w.ownsRow base 192 2 v l.length (cC l)
theorem ownC.nil_(w:World)(base:Nat):ownC w base (.slice none 0 0) []:=World.ownsRow_nil _ _ _ _
theorem ownC.mono{w:World}{base base':Nat}{v:Value}{l:List (Nat×Int)}(h:ownC w base v l)(t:base'<=base):ownC w base' v l:=by
 refine⟨h.1,?_⟩;rcases h.2 with r | ⟨g,q,o,rfl,s,rest⟩
 ·exact .inl r
 ·exact .inr ⟨g,q,o,rfl,by omega,rest⟩
theorem ownC.far{w:World}{base g:Nat}{v:Value}{l:List (Nat×Int)}(h:ownC w base v l)(hg:v.ownBlock≠some g)(o:Nat)(u:Value):
  ownC (w.setCell ⟨g,o,none⟩ u) base v l:=by
 refine⟨h.1,?_⟩;rcases h.2 with t | ⟨g',s,q,rfl,z,r,rest⟩
 ·exact .inl t
 ·refine .inr ⟨g',s,q,rfl,z,?_,rest⟩
  rw[Below.heap_setCell _ _ _ _ (by intro e;apply hg;simp[Value.ownBlock];exact e)];exact r
theorem ownC.pos{w:World}{base n c:Nat}{A:Option Addr}{l:List (Nat×Int)}(h:ownC w base (.slice A n c) l)(t:0<n):n=l.length/\∃g,A=some ⟨g,0,none⟩/\base<=g/\g<w.heap.size:=by
 rcases h.2 with⟨o,_⟩ | ⟨g,r,q,o,s,hg,_⟩
 ·injection o with _ h2;omega
 ·injection o with h1 h2
  exact⟨h2,g,h1,s,(olt h g (by rw[h1];rfl)).2⟩
theorem ownC.cell{w:World}{base g n c:Nat}{l:List (Nat×Int)}(h:ownC w base (.slice (some ⟨g,0,none⟩) n c) l)(q:n=l.length){k:Nat}(o:k<l.length):
  w.cell? ⟨g,k*2,none⟩=some ((fun x:(Nat×Int)=>Value.int .u32 (x.1:Int)) l[k])/\w.cell? ⟨g,k*2+1,none⟩=some ((fun x:(Nat×Int)=>Value.int .i64 x.2) l[k]):=by
 subst q;refine⟨?_,?_⟩
 ·exact(World.ownsRow.cellAt h (k*2) (by have:=o;omega)).trans ((ziM l k 0 o (by omega)).trans rfl)
 ·exact(World.ownsRow.cellAt h (k*2+1) (by have:=o;omega)).trans ((ziM l k 1 o (by omega)).trans rfl)
theorem ownC.frozen{w:World}{base g n c:Nat}{l:List (Nat×Int)}(h:ownC w base (.slice (some ⟨g,0,none⟩) n c) l)(o:n=l.length)(k:Nat):
  w.frozen? ⟨g,k,none⟩=false:=by
 subst o;exact World.ownsRow.frozenAt h k
theorem ownC.store{w:World}{base g n c:Nat}{l:List (Nat×Int)}(h:ownC w base (.slice (some ⟨g,0,none⟩) n c) l)(q:n=l.length)(k:Nat)(x:(Nat×Int))(o:k<l.length):
  ownC ((w.setCell ⟨g,k*2,none⟩ (Value.int .u32 (x.1:Int))).setCell ⟨g,k*2+1,none⟩ (Value.int .i64 x.2)) base (.slice (some ⟨g,0,none⟩) n c) (l.set k x):=by
 subst q;have h0:w.ownsRow base 192 2 (.slice (some ⟨g,0,none⟩) l.length c) l.length (cC l):=h;have h1:=(World.ownsRow.stored h0 (k*2) (Value.int .u32 (x.1:Int))).1;have h2:=(World.ownsRow.stored h1 (k*2+1) (Value.int .i64 x.2)).1;unfold ownC;rw[List.length_set,zu9 l k x o];exact h2
/-- make of n zeros, in a new block. -/
theorem zlD{w:World}{ops:Array Oper}{rest:List Oper}{o:Oper}{a:Act}{Q:Exit->Act->World->Prop}
  (hg:o.guard=none) (l c:Operand) (g:o.op=Op.makeSlice 187 l c) (n:Nat) (L:Int) (A:a.eval l=.int .i64 L) (B:a.eval c=.int .i64 L)
  (t:L=(n:Int)) (G:n<=1099511627776)
  (z:∀w',ownC w' w.heap.size (.slice (some ⟨w.heap.size,0,none⟩) n n) (List.replicate n ((0,0):Nat×Int))->Below w.heap.size w w'->w.heap.size<w'.heap.size ->
   wpList Tryz.prog ops Q rest (a.put o.dst (.slice (some ⟨w.heap.size,0,none⟩) n n)) w') :
  wpList Tryz.prog ops Q (o :: rest) a w:=by
 obtain⟨C,hi,q,r,s⟩:=info_parts Tryz.info_C;refine wpList_make_full w hg l c 187 g w.heap.size 192 C _ 2 Tryz.underlying187 hi q r _ _ _ _ n A B t t (by rw[s];omega) (by unfold maxLen;omega) (nlr _) ?_;intro w' h1 h2;have u:ownC w' w.heap.size (.slice (some ⟨w.heap.size,0,none⟩) n n) (List.replicate n ((0,0):Nat×Int)):=by
  unfold ownC;have F:(madeCells (.agg #[.int .u32 0,.int .i64 0]:Value).cells (n*2)).toList=cC (List.replicate n ((0,0):Nat×Int)):=by
   apply List.ext_getElem?;intro j;by_cases hj:j<n*2
   ·have hq:j / 2<n:=by omega
    have D:j=j / 2*2+j % 2:=(by omega);have hg:=ziM (List.replicate n ((0,0):Nat×Int)) (j / 2) (j % 2) (by simpa using hq) (by omega);rw[<-D] at hg;rw[hg,List.getElem_replicate];have E:j % 2<2:=(by omega);rw[Array.getElem?_toList];rw[madeCells,Array.getElem?_map,Array.getElem?_range,if_pos hj];show some ((#[.int .u32 0,.int .i64 0]:Array Value)[j % 2]!)=_
    match j % 2,E with
    |0,_=>rfl
    |1,_=>rfl
   ·rw[List.getElem?_eq_none (by simp[madeCells];omega),List.getElem?_eq_none (by rw[zgZ];simp;omega)]
  rw[F] at h1;rw[List.length_replicate];exact h1
 exact z w' u ((Below.refl _ _).grown h2 (nlr _) (by simp)) (olt u _ rfl).2
end Go.Proofs.YtebbdifhiihfkaaGreatDoor

/- Rows of aquref5.Code: 2 cells an element. -/
namespace Go.Proofs.YtebbdifhiihfkaaGreatDoor
set_option linter.all false
open Go.RowKit
def eD(x:(Nat×Int)):List Value:=[Value.int .u32 (x.1:Int),Value.int .i64 x.2]
theorem ziN(x:(Nat×Int)):(eD x).length=2:=rfl
/-- The cells of a list. -/
def cD(l:List (Nat×Int)):List Value:=l.flatMap eD
theorem zft:∀l:List (Nat×Int),(cD l).length=l.length*2
 | []=>rfl
 |x :: l=>by
  have:=zft l;unfold cD at this ⊢;rw[List.flatMap_cons,lla,this,ziN,List.length_cons];omega
theorem zkh(a b:List (Nat×Int)):cD (a++b)=cD a++cD b:=by simp[cD]
theorem zfT:∀(l:List (Nat×Int)) (k j:Nat) (g:k<l.length),j<2->(cD l)[k*2+j]?=(eD l[k])[j]?
 |x :: l,0,j,_,hj=>by
  unfold cD;rw[List.flatMap_cons,List.getElem?_append_left (by rw[ziN];omega)];simp
 |x :: l,i+1,j,hi,hj=>by
  have:=zfT l i j (by simpa using hi) hj;unfold cD at this ⊢;rw[List.flatMap_cons,List.getElem?_append_right (by rw[ziN];omega),ziN,List.getElem_cons_succ,<-this]
  congr 1
  omega
theorem zva(l:List (Nat×Int))(k:Nat)(x:(Nat×Int))(g:k<l.length):cD (l.set k x)=((cD l).set (k*2) (Value.int .u32 (x.1:Int))).set (k*2+1) (Value.int .i64 x.2):=by
 have t:l=l.take k++l[k] :: l.drop (k+1):=by rw[<-List.drop_eq_getElem_cons g,List.take_append_drop]
 have r:l.set k x=l.take k++x :: l.drop (k+1):=by rw[List.set_eq_take_append_cons_drop,if_pos g]
 rw[r];have o:(cD (l.take k)).length=k*2:=by rw[zft,llt,Nat.min_eq_left (by omega)]
 have s:cD l=cD (l.take k)++(eD l[k]++cD (l.drop (k+1))):=by
  conv=>lhs;rw[t]
  rw[zkh];simp only[cD,List.flatMap_cons]
 have q:cD (l.take k++x :: l.drop (k+1))=cD (l.take k)++(eD x++cD (l.drop (k+1))):=by
  rw[zkh];simp only[cD,List.flatMap_cons]
 rw[s,q];generalize cD (l.take k)=P at *;rw[<-o];simp[eD,List.set_append]
theorem Tryz.info_D:(Tryz.prog.info? 214).map (fun i=>(i.zero,i.size,i.bytes))=some (some (.agg #[.int .u32 0,.int .i64 0]),2,16):=by kernel_rfl
def ownD(w:World)(base:Nat)(v:Value)(l:List (Nat×Int)):Prop:=w.ownsRow base 214 2 v l.length (cD l)
def RdD(w:World)(B:Nat)(A:Option Addr)(n:Nat)(l:List (Nat×Int)):Prop:=Rd w B 2 A n (cD l)
theorem RdD.len{w:World}{B n:Nat}{A:Option Addr}{l:List (Nat×Int)}(h:RdD w B A n l):l.length=n:=by
 have:=h.1;rw[zft] at this;omega
theorem RdD.one{w:World}{B n:Nat}{A:Option Addr}{l:List (Nat×Int)}(h:RdD w B A n l){k:Nat}(s:k<n):
  ∃b o x,A=some ⟨b,o,none⟩/\b<B/\Hid (l[k]?=some x)/\w.cell? ⟨b,o+k*2,none⟩=some (Value.int .u32 (x.1:Int))/\w.cell? ⟨b,o+k*2+1,none⟩=some (Value.int .i64 x.2):=by
 obtain⟨b,o,e,r,q⟩:=h.2 (by omega);have t:=h.len;have g:k<l.length:=by omega
 refine⟨b,o,l[k],e,r,lge g,?_,?_⟩
 ·exact q (k*2) _ ((zfT l k 0 g (by omega)).trans rfl)
 ·exact q (k*2+1) _ ((zfT l k 1 g (by omega)).trans rfl)
theorem RdD.here{w:World}{B n:Nat}{A:Option Addr}{l:List (Nat×Int)}(h:RdD w B A n l):RdD w w.heap.size A n l :=
 ⟨h.1,fun q=>by
  obtain⟨b,o,e,s,g⟩:=h.2 q;have r:=h.1;exact⟨b,o,e,block_lt_of_cell (a:=⟨b,o+0,none⟩) (g 0 (cD l)[0] (lge (by omega))),g⟩⟩
theorem ownD.nil_(w:World)(base:Nat):ownD w base (.slice none 0 0) []:=World.ownsRow_nil _ _ _ _
theorem ownD.alloc{w:World}{base:Nat}{v:Value}{l:List (Nat×Int)}(h:ownD w base v l)(o:Obj):ownD (w.alloc o) base v l:=World.ownsRow.alloc h o
theorem ownD.form{w:World}{base:Nat}{v:Value}{l:List (Nat×Int)}(h:ownD w base v l):
  ∃A c,v=.slice A l.length c/\RdD w w.heap.size A l.length l/\l.length<=c/\c<=maxLen:=by
 rcases h.2 with⟨rfl,h0⟩ | ⟨g,q,o,rfl,_,_,h1,h2,_⟩
 ·have:l=[]:=List.eq_nil_of_length_eq_zero h0
  subst this;exact⟨none,0,rfl,Rd.none_,by simp,by simp⟩
 ·exact⟨_,_,rfl,Rd.of_own h,h1,h2⟩
theorem ownD.cell{w:World}{base g n c:Nat}{l:List (Nat×Int)}(h:ownD w base (.slice (some ⟨g,0,none⟩) n c) l)(q:n=l.length){k:Nat}(o:k<l.length):
  w.cell? ⟨g,k*2,none⟩=some ((fun x:(Nat×Int)=>Value.int .u32 (x.1:Int)) l[k])/\w.cell? ⟨g,k*2+1,none⟩=some ((fun x:(Nat×Int)=>Value.int .i64 x.2) l[k]):=by
 subst q;refine⟨?_,?_⟩
 ·exact(World.ownsRow.cellAt h (k*2) (by have:=o;omega)).trans ((zfT l k 0 o (by omega)).trans rfl)
 ·exact(World.ownsRow.cellAt h (k*2+1) (by have:=o;omega)).trans ((zfT l k 1 o (by omega)).trans rfl)
theorem ownD.frozen{w:World}{base g n c:Nat}{l:List (Nat×Int)}(h:ownD w base (.slice (some ⟨g,0,none⟩) n c) l)(o:n=l.length)(k:Nat):
  w.frozen? ⟨g,k,none⟩=false:=by
 subst o;exact World.ownsRow.frozenAt h k
theorem ownD.store{w:World}{base g n c:Nat}{l:List (Nat×Int)}(h:ownD w base (.slice (some ⟨g,0,none⟩) n c) l)(q:n=l.length)(k:Nat)(x:(Nat×Int))(o:k<l.length):
  ownD ((w.setCell ⟨g,k*2,none⟩ (Value.int .u32 (x.1:Int))).setCell ⟨g,k*2+1,none⟩ (Value.int .i64 x.2)) base (.slice (some ⟨g,0,none⟩) n c) (l.set k x):=by
 subst q;have h0:w.ownsRow base 214 2 (.slice (some ⟨g,0,none⟩) l.length c) l.length (cD l):=h;have h1:=(World.ownsRow.stored h0 (k*2) (Value.int .u32 (x.1:Int))).1;have h2:=(World.ownsRow.stored h1 (k*2+1) (Value.int .i64 x.2)).1;unfold ownD;rw[List.length_set,zva l k x o];exact h2
theorem ownD.rd{w:World}{base n c:Nat}{A:Option Addr}{l:List (Nat×Int)}(h:ownD w base (.slice A n c) l):RdD w w.heap.size A n l:=by
 obtain⟨s,c4,q,g,_,_⟩:=h.form;injection q with r o t;rw[r,o];exact g
/-- make of n zeros, in a new block. -/
theorem zlE{w:World}{ops:Array Oper}{rest:List Oper}{o:Oper}{a:Act}{Q:Exit->Act->World->Prop}
  (hg:o.guard=none) (l c:Operand) (g:o.op=Op.makeSlice 211 l c) (n:Nat) (L:Int) (A:a.eval l=.int .i64 L) (B:a.eval c=.int .i64 L)
  (t:L=(n:Int)) (G:n<=1099511627776)
  (z:∀w',ownD w' w.heap.size (.slice (some ⟨w.heap.size,0,none⟩) n n) (List.replicate n ((0,0):Nat×Int))->Below w.heap.size w w'->w.heap.size<w'.heap.size ->
   wpList Tryz.prog ops Q rest (a.put o.dst (.slice (some ⟨w.heap.size,0,none⟩) n n)) w') :
  wpList Tryz.prog ops Q (o :: rest) a w:=by
 obtain⟨C,hi,q,r,s⟩:=info_parts Tryz.info_D;refine wpList_make_full w hg l c 211 g w.heap.size 214 C _ 2 Tryz.underlying211 hi q r _ _ _ _ n A B t t (by rw[s];omega) (by unfold maxLen;omega) (nlr _) ?_;intro w' h1 h2;have u:ownD w' w.heap.size (.slice (some ⟨w.heap.size,0,none⟩) n n) (List.replicate n ((0,0):Nat×Int)):=by
  unfold ownD;have F:(madeCells (.agg #[.int .u32 0,.int .i64 0]:Value).cells (n*2)).toList=cD (List.replicate n ((0,0):Nat×Int)):=by
   apply List.ext_getElem?;intro j;by_cases hj:j<n*2
   ·have hq:j / 2<n:=by omega
    have D:j=j / 2*2+j % 2:=(by omega);have hg:=zfT (List.replicate n ((0,0):Nat×Int)) (j / 2) (j % 2) (by simpa using hq) (by omega);rw[<-D] at hg;rw[hg,List.getElem_replicate];have E:j % 2<2:=(by omega);rw[Array.getElem?_toList];rw[madeCells,Array.getElem?_map,Array.getElem?_range,if_pos hj];show some ((#[.int .u32 0,.int .i64 0]:Array Value)[j % 2]!)=_
    match j % 2,E with
    |0,_=>rfl
    |1,_=>rfl
   ·rw[List.getElem?_eq_none (by simp[madeCells];omega),List.getElem?_eq_none (by rw[zft];simp;omega)]
  rw[F] at h1;rw[List.length_replicate];exact h1
 exact z w' u ((Below.refl _ _).grown h2 (nlr _) (by simp)) (olt u _ rfl).2
end Go.Proofs.YtebbdifhiihfkaaGreatDoor

/- huff: Codes. -/
namespace Go.Proofs.YtebbdifhiihfkaaGreatDoor
set_option linter.all false
set_option maxRecDepth 100000
set_option maxHeartbeats 3200000
open Go.RowKit
def cdE(ls:List Int):Int:=if krE ls=0 then(if 32768<krN ls then 4 else 0) else 1
def cdL(ls:List Int):List (Nat×Int):=if cdE ls=0 then za7 ls else[]
theorem zki(ls:List Int):krE ls=0\/krE ls=1:=by unfold krE;split<;>simp
theorem zia{ls:List Int}(h:krE ls=0):ls.length<=300/\zau ls=false/\krV ls=krN ls:=by
 unfold krE at h;split at h
 ·cases h
 ·rename_i g
  rw[not_or] at g;refine⟨by omega,by simpa using g.2,?_⟩;unfold krV;rw[if_neg (by rw[not_or];exact g)]
/-- The codes of the first k places. -/
def zbG(ls:List Int)(k:Nat):List (Nat×Int):=(List.range ls.length).map fun i=>if i<k then zaL ls i else(0,0)
theorem zlF(ls:List Int):zbG ls 0=List.replicate ls.length (0,0):=by
 unfold zbG;apply List.ext_getElem?;intro i;by_cases h:i<ls.length
 ·simp[h]
 ·simp[h]
theorem zhT(ls:List Int):zbG ls ls.length=za7 ls:=by
 unfold zbG za7;apply List.map_congr_left;intro i hi;rw[List.mem_range] at hi;rw[if_pos hi]
theorem zb8(ls:List Int)(k:Nat):(zbG ls k).length=ls.length:=by simp[zbG]
theorem zg0(ls:List Int){k:Nat}(g:k<ls.length):zbG ls (k+1)=(zbG ls k).set k (zaL ls k):=by
 unfold zbG;apply List.ext_getElem?;intro i;rw[List.getElem?_set];by_cases hi:i<ls.length
 ·rw[List.getElem?_map,List.getElem?_map,List.getElem?_range hi]
  by_cases e:k=i
  ·subst e
   rw[if_pos rfl,if_pos (by simp;omega)];simp
  ·rw[if_neg e]
   by_cases e2:i<k
   ·simp[e2,show i<k+1 by omega]
   ·simp[e2,show ¬i<k+1 by omega]
 ·rw[List.getElem?_eq_none (by simp;omega)]
  by_cases e:k=i
  ·omega
  ·rw[if_neg e,List.getElem?_eq_none (by simp;omega)]
theorem zlG(ls:List Int){k:Nat}(g:k<ls.length)(h:zaL ls k=(0,0)):zbG ls (k+1)=zbG ls k:=by
 rw[zg0 ls g,h];apply List.ext_getElem?;intro i;rw[List.getElem?_set];by_cases e:k=i
 ·subst e
  rw[if_pos rfl,if_pos (by rw[zb8];exact g)];simp[zbG,g]
 ·rw[if_neg e]
/-- The next code of each length, behind k places. -/
def zeH(ls:List Int)(k:Nat):List Nat:=(List.range 16).map fun n=>fst ls n+(if n=0 then 0 else cnt (ls.take k) n)
theorem zqp(ls:List Int):zeH ls 0=zav ls 16:=by
 unfold zeH zav;apply List.map_congr_left;intro n g;rw[List.mem_range] at g;rw[if_pos g];simp[cnt]
theorem zsu(ls:List Int)(k:Nat){t:Nat}(ht:t<16)(h0:0<t):(cU (zeH ls k))[t]?=some (.int .u32 ((fst ls t+cnt (ls.take k) t:Nat):Int)):=by
 simp[cU,zeH,ht,show ¬t=0 by omega]
theorem zqq{ls:List Int}{k t:Nat}(h:ls[k]?=some (t:Int))(ht:t<16)(h0:0<t):cU (zeH ls (k+1))=(cU (zeH ls k)).set t (.int .u32 ((fst ls t+cnt (ls.take k) t+1:Nat):Int)):=by
 obtain⟨g,hx⟩:=List.getElem?_eq_some_iff.1 h;unfold cU zeH;rw[List.take_succ_eq_append_getElem g,hx];apply List.ext_getElem?;intro j;rw[List.getElem?_set];by_cases hj:j<16
 ·rw[List.getElem?_map,List.getElem?_map,List.getElem?_map,List.getElem?_map,List.getElem?_range hj]
  by_cases e:t=j
  ·subst e
   rw[if_pos rfl,if_pos (by simp;omega)];simp[cnt,List.count_append,show ¬t=0 by omega];omega
  ·rw[if_neg e]
   have:¬(t:Int)=(j:Int):=by omega
   simp[cnt,List.count_append,List.count_cons,this]
 ·rw[List.getElem?_eq_none (by simp;omega)]
  by_cases e:t=j
  ·omega
  ·rw[if_neg e,List.getElem?_eq_none (by simp;omega)]
theorem zqr{ls:List Int}{k:Nat}{x:Int}(h:ls[k]?=some x)(h0:¬0<x):zeH ls (k+1)=zeH ls k:=by
 obtain⟨g,hx⟩:=List.getElem?_eq_some_iff.1 h;unfold zeH;rw[List.take_succ_eq_append_getElem g,hx];apply List.map_congr_left;intro n o;by_cases e:n=0
 ·rw[if_pos e,if_pos e]
 ·rw[if_neg e,if_neg e]
  have:¬x=(n:Int):=by omega
  simp[cnt,List.count_append,List.count_cons,this]
theorem zdk{ls:List Int}{k t:Nat}(h:ls[k]?=some (t:Int))(h0:0<t):zaL ls k=(fst ls t+cnt (ls.take k) t,(t:Int)):=by
 unfold zaL;rw[lgd,h];simp;omega
theorem zen{ls:List Int}{k:Nat}{x:Int}(h:ls[k]?=some x)(h0:¬0<x):zaL ls k=(0,0):=by
 unfold zaL;rw[lgd,h];exact if_neg h0
theorem zfc(ls:List Int)(k t:Nat):cnt (ls.take k) t<=cnt ls t:=by
 unfold cnt;exact List.Sublist.count_le _ (List.take_sublist _ _)
theorem zkj(B n c:Nat)(A:Option Addr)(ls:List Int)(w:World)(h:RdI w B A n ls)(S:B<=w.heap.size)(hn:n<=1099511627776):
  Calls Tryz.prog 148 #[.slice A n c] w fun e w'=>∃A' n' c',e=.returned (.tuple #[.slice A' n' c',.int .i64 (cdE ls)])/\n'=(cdL ls).length/\ownC w' w.heap.size (.slice A' n' c') (cdL ls)/\Below w.heap.size w w':=by
 have L:=yo (zke B n c A ls w h hn);have W:=h.len;rcases zki ls with he|he
 ·obtain⟨g1,X,g3⟩:=zia he
  rw[he,g3] at L;by_cases z:32768<krN ls
  ·have r:Hid (cdE ls=4/\cdL ls=[]):=(show _/\_ by
    have:cdE ls=4:=by unfold cdE;rw[if_pos he,if_pos z]
    refine⟨this,?_⟩;unfold cdL;rw[if_neg (by rw[this];decide)])
   generalize krN ls=K at *;clear h W he g1 X g3;go_enter Tryz.func148,Tryz.ntmps148;go_wp2_with (go_at_call 161;(with_reducible refine L.o.mono ?_);go_must (rintro e w1 ⟨rfl,rfl⟩));go_ret2;exact⟨none,0,0,zaA rfl (by rw[r.o.1];rfl),by rw[r.o.2];rfl,by rw[r.o.2];exact ownC.nil_ _ _,Below.refl _ _⟩
  ·have r:Hid (cdE ls=0/\cdL ls=za7 ls):=(show _/\_ by
    have:cdE ls=0:=by unfold cdE;rw[if_pos he,if_neg z]
    refine⟨this,?_⟩;unfold cdL;rw[if_pos this])
   have ai:=yo (ziK B n c A ls w h S (by omega) X (by omega));have H:=yo h;have J:=yo W;have al:n<=300:=(by omega);have E:=yo X;have ae:=yo (show krN ls<=32768 by omega);have ah:Hid (krN ls=krN ls):=(show _=_ from rfl);generalize krN ls=K at L z;have Y:decide ((32768:Int)<(K:Int))=false:=decide_eq_false (by omega);clear h W he g1 X g3 ah;go_enter Tryz.func148,Tryz.ntmps148;go_wp2_with (first
    |(go_at_call 161;(with_reducible refine L.o.mono ?_);go_must (rintro e w1 ⟨rfl,rfl⟩))
    |(go_at_call 168;(with_reducible refine ai.o.mono ?_);go_must (rintro e w2 ⟨rfl,u⟩;have N:=yo ((Arr.new w2 (cU (List.replicate 16 0)) 219).alloc (.cells (cI (List.replicate 16 0)).toArray 220));have Z:=yo (Arr.new1 w2 (.cells (cU (List.replicate 16 0)).toArray 219) (cI (List.replicate 16 0)) 220);have af:=yo ((u.alloc u.size (.cells (cU (List.replicate 16 0)).toArray 219)).alloc (by have:=u.size;simp;omega) (.cells (cI (List.replicate 16 0)).toArray 220));have P:=u.size;clear u))
    |(refine zfn rfl 219 (.tmp 6) (.tmp 26) rfl w2.heap.size (cU (List.replicate 16 0)) (cU (zav ls 16)) rfl rfl N.o (Tryz.size_u16.trans (by simp[cU,zav])) (by simp[cU,zav]) (zgY _) ?_)
    |(refine zfn rfl 220 (.tmp 7) (.tmp 27) rfl (w2.heap.size+1) (cI (List.replicate 16 0)) (cI (zaQ ls)) rfl rfl (Z.o.farRow (by omega) _) (Tryz.size_i16.trans (by simp[cI,zaQ,zbV])) (by simp[cI,zaQ,zbV]) (zfP _) ?_)
    |(at_make;refine zlD rfl _ _ rfl n _ rfl rfl rfl (by omega) ?_;intro w3 q I M;have F:=yo (((N.o.row (cU (zav ls 16))).farRow (g':=w2.heap.size+1) (by omega) (cI (zaQ ls)).toArray).later I);have HW:=zbi (zbi af.o P (cU (zav ls 16)).toArray) (g:=w2.heap.size+1) (by omega) (cI (zaQ ls)).toArray;have R:=yo (HW.trans (I.mono HW.size));simp only[setRow_size,wsa] at q M ⊢;have D:=yo q;clear q I HW))
   go_loopw [33] (fun vi wr=>∃k:Nat,k<=n/\vi=.int .i64 k/\Hid (Arr wr w2.heap.size (cU (zeH ls k)))/\Hid (ownC wr (w2.heap.size+1+1) (.slice (some ⟨w2.heap.size+1+1,0,none⟩) n n) (zbG ls k))/\Hid (Below w.heap.size w wr))
    (fun vi _=>n-(intOf vi).toNat)
   case atStart=>exact⟨0,Nat.zero_le _,rfl,(show Arr _ _ _ by rw[zqp];exact F.o),(show ownC _ _ _ _ by rw[zlF,J.o];exact D.o),R⟩
   case round =>
    clear F D R;obtain⟨k,hk,rfl,F,D,V⟩:=hrel;by_cases hlt:k<n
    ·obtain⟨b,o,x,rfl,hb,T,e1⟩:=(H.o.blw (V.o.mono S)).one hlt
     obtain⟨x0,x1⟩:=zcK E.o T.o;obtain⟨t,rfl⟩:=Int.eq_ofNat_of_zero_le x0;have s:k<ls.length:=(by rw[J.o];exact hlt);by_cases h0:0<t
     ·have ht:t<16:=by omega
      have c5:=F.o.cell (zsu ls k ht h0);have f5:=F.o.frozen t;have O:=zdk T.o h0;have ac:=zev ls E.o ae.o t (by omega);have ag:=zfc ls k t;have aj:cz ls t=cnt ls t:=by
       cases t with
       |zero=>omega
       |succ t=>rfl
      have C:=yo (zg0 ls s);rw[O] at C;have G:=yo (zqq T.o ht h0);have am:fst ls t+cnt (ls.take k) t<=32768:=(by omega);obtain⟨o0,o1⟩:=D.o.cell (by rw[zb8,J.o]) (k:=k) (by rw[zb8];exact s);have of:=D.o.frozen (by rw[zb8,J.o]);have an:=of (k*2);have ao:=of (k*2+1);generalize fst ls t+cnt (ls.take k) t=v at *;generalize (zbG ls k)[k]'(by rw[zb8];exact s)=oc at *;clear O ac ag aj of;have aa:=yo (show Arr (((wr.setCell ⟨w2.heap.size+1+1,k*2,none⟩ (.int .u32 (v:Int))).setCell ⟨w2.heap.size+1+1,k*2+1,none⟩ (.int .i64 (t:Int))).setCell ⟨w2.heap.size,t,none⟩ (.int .u32 ((v:Int)+1))) w2.heap.size (cU (zeH ls (k+1))) from by
       rw[G.o,show((v+1:Nat):Int)=(v:Int)+1 by omega];exact((F.o.far (p:=⟨w2.heap.size+1+1,k*2,none⟩) (by show w2.heap.size+1+1≠w2.heap.size;omega) _).far (p:=⟨w2.heap.size+1+1,k*2+1,none⟩) (by show w2.heap.size+1+1≠w2.heap.size;omega) _).set t _)
      have ab:=yo (show ownC (((wr.setCell ⟨w2.heap.size+1+1,k*2,none⟩ (.int .u32 (v:Int))).setCell ⟨w2.heap.size+1+1,k*2+1,none⟩ (.int .i64 (t:Int))).setCell ⟨w2.heap.size,t,none⟩ (.int .u32 ((v:Int)+1))) (w2.heap.size+1+1) (.slice (some ⟨w2.heap.size+1+1,0,none⟩) n n) (zbG ls (k+1)) from by
       rw[C.o];exact(D.o.store (by rw[zb8,J.o]) k (v,(t:Int)) (by rw[zb8];exact s)).far (by intro e;injection e with e;have e2:w2.heap.size+1+1=w2.heap.size:=e;omega) _ _)
      have ak:=yo (((V.o.setCell (p:=⟨w2.heap.size+1+1,k*2,none⟩) (by show w.heap.size<=w2.heap.size+1+1;omega) (.int .u32 (v:Int))).setCell (p:=⟨w2.heap.size+1+1,k*2+1,none⟩) (by show w.heap.size<=w2.heap.size+1+1;omega) (.int .i64 (t:Int))).setCell (p:=⟨w2.heap.size,t,none⟩) (by show w.heap.size<=w2.heap.size;omega) (.int .u32 ((v:Int)+1)));clear F D V;go_wp2;go_roundw
      case rel=>exact⟨k+1,by omega,by go_num,aa,ab,ak⟩
      case measure=>simp[intOf];omega
     ·have U:¬(0:Int)<(t:Int):=by omega
      have C:=yo (zlG ls s (zen T.o U));have G:=yo (zqr T.o U);go_wp2;go_roundw
      case rel=>exact⟨k+1,by omega,by go_num,(show Arr _ _ _ by rw[G.o];exact F.o),(show ownC _ _ _ _ by rw[C.o];exact D.o),V⟩
      case measure=>simp[intOf];omega
    ·obtain rfl:k=n:=by omega
     go_wp2;go_ret2;refine⟨some ⟨w2.heap.size+1+1,0,none⟩,k,k,zaA rfl (by rw[r.o.1];rfl),?_,?_,V.o⟩
     ·rw[r.o.2,<-zhT,zb8,J.o]
     ·rw[r.o.2,<-zhT,J.o]
      exact D.o.mono (by omega)
 ·have r:Hid (cdE ls=1/\cdL ls=[]):=(show _/\_ by
   have:cdE ls=1:=by unfold cdE;rw[if_neg (by rw[he];decide)]
   refine⟨this,?_⟩;unfold cdL;rw[if_neg (by rw[this];decide)])
  rw[he] at L;generalize krV ls=K at L;clear h W he;go_enter Tryz.func148,Tryz.ntmps148;go_wp2_with (go_at_call 161;(with_reducible refine L.o.mono ?_);go_must (rintro e w1 ⟨rfl,rfl⟩));go_ret2;exact⟨none,0,0,zaA rfl (by rw[r.o.1];rfl),by rw[r.o.2];rfl,by rw[r.o.2];exact ownC.nil_ _ _,Below.refl _ _⟩
end Go.Proofs.YtebbdifhiihfkaaGreatDoor

/- huff: the document's codes, plainly: length by length. -/
namespace Go.Proofs.YtebbdifhiihfkaaGreatDoor
set_option linter.all false
/-- The codes of all lengths below l, and of length l at the first k places. -/
def zcL(ls:List Int)(l k:Nat):List (Nat×Int):=(List.range ls.length).map fun i=>if ls.getD i 0<(l:Int)\/(ls.getD i 0=(l:Int)/\i<k) then zaL ls i else(0,0)
theorem zd6(ls:List Int)(l k:Nat):(zcL ls l k).length=ls.length:=by simp[zcL]
theorem zoD(ls:List Int):zcL ls 1 0=List.replicate ls.length (0,0):=by
 unfold zcL;apply List.ext_getElem?;intro i;by_cases h:i<ls.length
 ·rw[List.getElem?_map,List.getElem?_range h,List.getElem?_replicate,if_pos h]
  simp only[Option.map_some]
  congr 1
  split
  ·rename_i g
   unfold zaL;rw[if_neg (by omega)]
  ·rfl
 ·rw[List.getElem?_eq_none (by simp;omega),List.getElem?_eq_none (by simp;omega)]
theorem zqs(ls:List Int)(l:Nat):zcL ls l ls.length=zcL ls (l+1) 0:=by
 unfold zcL;apply List.map_congr_left;intro i hi;rw[List.mem_range] at hi;generalize ls.getD i 0=x;by_cases h:x<(l:Int)\/(x=(l:Int)/\i<ls.length)
 ·rw[if_pos h,if_pos (by left;omega)]
 ·rw[if_neg h,if_neg (by omega)]
theorem zsv(ls:List Int)(g:zau ls=false):zcL ls 16 0=za7 ls:=by
 unfold zcL za7;apply List.map_congr_left;intro i hi;rw[List.mem_range] at hi;have h:ls[i]?=some (ls.getD i 0):=by rw[lgd,lge hi];rfl
 have:=zcK g h;rw[if_pos (by left;omega)]
theorem zqt{ls:List Int}{l k:Nat}{x:Int}(h:ls[k]?=some x)(hx:¬x=(l:Int)):zcL ls l (k+1)=zcL ls l k:=by
 unfold zcL;apply List.map_congr_left;intro i hi;have e:k=i->ls.getD i 0=x:=by rintro rfl;rw[lgd,h];rfl
 by_cases hik:k=i
 ·have:=e hik
  rw[this];by_cases h1:x<(l:Int)
  ·rw[if_pos (.inl h1),if_pos (.inl h1)]
  ·rw[if_neg (by omega),if_neg (by omega)]
 ·generalize ls.getD i 0=y
  by_cases h1:y<(l:Int)\/(y=(l:Int)/\i<k)
  ·rw[if_pos h1,if_pos (by omega)]
  ·rw[if_neg h1,if_neg (by omega)]
theorem zsw{ls:List Int}{l k:Nat}(h:ls[k]?=some (l:Int))(h0:0<l):zcL ls l (k+1)=(zcL ls l k).set k (fst ls l+cnt (ls.take k) l,(l:Int)):=by
 rw[<-zdk h h0];obtain⟨g,hx⟩:=List.getElem?_eq_some_iff.1 h;have e:ls.getD k 0=l:=by rw[lgd,h];rfl
 unfold zcL;apply List.ext_getElem?;intro i;rw[List.getElem?_set];by_cases hi:i<ls.length
 ·rw[List.getElem?_map,List.getElem?_map,List.getElem?_range hi]
  by_cases ek:k=i
  ·subst ek
   rw[if_pos rfl,if_pos (by simp;omega)];simp only[Option.map_some];rw[if_pos (by right;exact⟨e,by omega⟩)]
  ·rw[if_neg ek]
   simp only[Option.map_some]
   congr 1
   generalize ls.getD i 0=y;by_cases h1:y<(l:Int)\/(y=(l:Int)/\i<k)
   ·rw[if_pos h1,if_pos (by omega)]
   ·rw[if_neg h1,if_neg (by omega)]
 ·rw[List.getElem?_eq_none (by simp;omega)]
  by_cases ek:k=i
  ·omega
  ·rw[if_neg ek,List.getElem?_eq_none (by simp;omega)]
theorem zeI{ls:List Int}{k:Nat}{x:Int}(h:ls[k]?=some x)(l:Nat):cnt (ls.take (k+1)) l=cnt (ls.take k) l+if x=(l:Int) then 1 else 0:=by
 obtain⟨g,hx⟩:=List.getElem?_eq_some_iff.1 h;rw[List.take_succ_eq_append_getElem g,hx];unfold cnt;rw[List.count_append,List.count_singleton];by_cases e:x=(l:Int)
 ·rw[if_pos (by simp[e]),if_pos e]
 ·rw[if_neg (by simp[e]),if_neg e]
theorem zg1(ls:List Int){l:Nat}(h:0<l):cz ls l=cnt ls l:=by
 cases l with
 |zero=>omega
 |succ l=>rfl
end Go.Proofs.YtebbdifhiihfkaaGreatDoor

