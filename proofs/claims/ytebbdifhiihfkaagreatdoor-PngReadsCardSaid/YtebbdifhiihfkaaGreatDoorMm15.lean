/- XBitP XDecP XGet XCode5 XNew XNext -/
import Derived.Test.YtebbdifhiihfkaaGreatDoorMm01
import Derived.Test.YtebbdifhiihfkaaGreatDoorMm14
import Derived.Test.YtebbdifhiihfkaaGreatDoorMm02
import Derived.Laws.BitsAllLaws
import Derived.Laws.CopyRow
namespace Go.Proofs.YtebbdifhiihfkaaGreatDoor
set_option linter.all false
/-- The p-th bit of bytes, the least of a byte first. -/
def zaE(bs:List UInt8)(p:Nat):Nat:=(bs.getD (p / 8) 0).toNat / 2 ^ (p % 8) % 2
theorem zib(bs:List UInt8)(p:Nat):zaE bs p<2:=Nat.mod_lt _ (by decide)
/-- k bits as a number, the first the least. -/
def zaj(bs:List UInt8)(P:Nat):Nat->Nat
 |0=>0
 |k+1=>zaj bs P k+zaE bs (P+k)*2 ^ k
theorem zbw(bs:List UInt8)(P k:Nat):zaj bs P k<2 ^ k:=by
 induction k with
 |zero=>exact Nat.one_pos
 |succ k ih =>
  have:=zib bs (P+k);rw[zaj,Nat.pow_succ];have h2:zaE bs (P+k)*2 ^ k<=1*2 ^ k:=Nat.mul_le_mul_right _ (by omega);omega
theorem zqu{x k b:Nat}(hx:x<2 ^ k):x |||(b*2 ^ k)=x+b*2 ^ k:=by
 have:=Nat.two_pow_add_eq_or_of_lt hx b;rw[Nat.mul_comm,Nat.or_comm,<-this,Nat.add_comm]
theorem zlH(bs:List UInt8)(P:Nat):zaj bs P 1=zaE bs P:=by simp[zaj]
theorem zt0(x:UInt8)(t:Nat):bits .and .u8 ((x.toNat:Int) / 2 ^ t) 1=((x.toNat / 2 ^ t % 2:Nat):Int):=by
 have e:((x.toNat:Int) / 2 ^ t)=((x.toNat / 2 ^ t:Nat):Int):=by rw[show((2:Int) ^ t)=((2 ^ t:Nat):Int) by push_cast;rfl,<-Int.natCast_ediv]
 have g:x.toNat / 2 ^ t<256:=Nat.lt_of_le_of_lt (Nat.div_le_self _ _) x.toNat_lt;rw[e,show(1:Int)=((1:Nat):Int) from rfl,u8_and_nat _ _ g (by decide),Nat.and_one_is_mod]
theorem zlI(V k t:Nat)(x:UInt8)(s:k<24)(q:V<2 ^ k):
  bits .or .u32 (V:Int) (bits .and .u8 ((x.toNat:Int) / 2 ^ t) 1 % 4294967296*2 ^ k % 4294967296)=((V+x.toNat / 2 ^ t % 2*2 ^ k:Nat):Int):=by
 rw[zt0];have z:x.toNat / 2 ^ t % 2<2:=Nat.mod_lt _ (by decide);generalize x.toNat / 2 ^ t % 2=b at *;have hp:2 ^ k<=2 ^ 23:=Nat.pow_le_pow_right (by decide) (by omega);have o:0<2 ^ k:=Nat.two_pow_pos k;have A:b*2 ^ k<=1*2 ^ k:=Nat.mul_le_mul_right _ (by omega);have e:((b:Int) % 4294967296*2 ^ k % 4294967296)=((b*2 ^ k:Nat):Int):=by
  have r:(b:Int) % 4294967296=b:=Int.emod_eq_of_lt (by omega) (by omega);have g:(b:Int)*2 ^ k=((b*2 ^ k:Nat):Int):=by push_cast;rfl
  rw[r,g];generalize b*2 ^ k=u at *;exact Int.emod_eq_of_lt (by omega) (by omega)
 rw[e,u32_or_nat _ _ (by omega) (by omega),zqu q]
end Go.Proofs.YtebbdifhiihfkaaGreatDoor

/- Decoders, plainly. -/
namespace Go.Proofs.YtebbdifhiihfkaaGreatDoor
set_option linter.all false
open Go.RowKit
/-- The places of length t among the first k. -/
def plc(ls:List Int)(t:Nat):Nat->List Int
 |0=>[]
 |k+1=>if ls[k]?=some (t:Int) then plc ls t k++[(k:Int)] else plc ls t k
theorem ze4(ls:List Int)(t k:Nat):(plc ls t k).length=cnt (ls.take k) t:=by
 induction k with
 |zero=>simp[plc,cnt]
 |succ k ih =>
  rw[plc];cases h:ls[k]? with
  |none =>
   have:ls.take (k+1)=ls.take k:=by
    rw[List.getElem?_eq_none_iff] at h;rw[List.take_of_length_le (by omega),List.take_of_length_le h]
   rw[this,if_neg (by simp)];exact ih
  |some x =>
   rw[zeI h t];by_cases e:x=(t:Int)
   ·rw[if_pos (by rw[e]),if_pos e,lla,ih];rfl
   ·rw[if_neg (by simp;exact e),if_neg e,ih];rfl
theorem zt1{ls:List Int}{t p:Nat}(h:ls[p]?=some (t:Int))(k:Nat)(hp:p<k):(plc ls t k)[cnt (ls.take p) t]?=some (p:Int):=by
 induction k with
 |zero=>omega
 |succ k ih =>
  rw[plc];by_cases e:p=k
  ·subst e
   rw[if_pos h,List.getElem?_append_right (by rw[ze4];exact nlr _),ze4,Nat.sub_self];rfl
  ·have:=ih (by omega)
   split
   ·rw[List.getElem?_append_left (List.getElem?_eq_some_iff.1 this).1]
    exact this
   ·exact this
theorem zqv{ls:List Int}{t i:Nat}{x:Int}(k:Nat)(h:(plc ls t k)[i]?=some x):∃p:Nat,x=p/\p<k/\ls[p]?=some (t:Int)/\cnt (ls.take p) t=i:=by
 induction k with
 |zero=>simp[plc] at h
 |succ k ih =>
  rw[plc] at h;by_cases e:ls[k]?=some (t:Int)
  ·rw[if_pos e] at h
   by_cases hi:i<(plc ls t k).length
   ·rw[List.getElem?_append_left hi] at h
    obtain⟨p,a,b,c⟩:=ih h;exact⟨p,a,by omega,c⟩
   ·rw[List.getElem?_append_right (by omega)] at h
    obtain⟨h1,h2⟩:=List.getElem?_eq_some_iff.1 h;have g:i-(plc ls t k).length=0:=(by simp at h1;omega);refine⟨k,?_,by omega,e,?_⟩
    ·rw[<-h2];simp
    ·rw[<-ze4];omega
  ·rw[if_neg e] at h
   obtain⟨p,a,b,c⟩:=ih h;exact⟨p,a,by omega,c⟩
/-- The places of the lengths 1 to l, by lengths. -/
def zaF(ls:List Int):Nat->List Int
 |0=>[]
 |l+1=>zaF ls l++plc ls (l+1) ls.length
theorem zlJ{ls:List Int}{t i:Nat}{x:Int}(h1:1<=t)(h:(plc ls t ls.length)[i]?=some x)(l:Nat)(g:t<=l):(zaF ls l)[(zaF ls (t-1)).length+i]?=some x:=by
 induction l with
 |zero=>omega
 |succ l ih =>
  rw[zaF];by_cases e:t=l+1
  ·subst e
   rw[Nat.add_sub_cancel,List.getElem?_append_right (by omega),Nat.add_sub_cancel_left];exact h
  ·have:=ih (by omega)
   rw[List.getElem?_append_left (List.getElem?_eq_some_iff.1 this).1];exact this
theorem zju(ls:List Int)(l:Nat):(zaF ls l).length<=l*ls.length:=by
 induction l with
 |zero=>simp[zaF]
 |succ l ih =>
  rw[zaF,lla,ze4,Nat.succ_mul];have:cnt (ls.take ls.length) (l+1)<=ls.length:=nlt (zfc ls ls.length (l+1)) (zlC ls _);omega
theorem zqw{ls:List Int}(q:zau ls=false)(h:(zaF ls 15).length=0){k:Nat}{x:Int}(hx:ls[k]?=some x):¬0<x:=by
 intro h0;obtain⟨o,r⟩:=zcK q hx;obtain⟨t,rfl⟩:=Int.eq_ofNat_of_zero_le o;obtain⟨g,_⟩:=List.getElem?_eq_some_iff.1 hx;have:=zlJ (by omega) (zt1 hx ls.length g) 15 (by omega);have:=(List.getElem?_eq_some_iff.1 this).1;omega
theorem zkk{ls:List Int}{k:Nat}{x:Int}(g:zau ls=false)(hx:ls[k]?=some x)(h0:0<x):¬(zaF ls 15).length=0:=fun h=>zqw g h hx h0
def frL(ls:List Int)(l:Nat):List Int:=(List.range 16).map fun n=>if 1<=n/\n<l then((zaF ls (n-1)).length:Int) else 0
theorem zt2(ls:List Int){l t:Nat}(h1:1<=t)(h2:t<l)(g:t<16):(cI (frL ls l))[t]?=some (.int .i64 ((zaF ls (t-1)).length:Int)):=by
 unfold cI frL;rw[List.getElem?_map,List.getElem?_map,List.getElem?_range g];simp only[Option.map_some];rw[if_pos ⟨h1,h2⟩]
theorem zsx(ls:List Int){l t:Nat}(h2:l<=t)(g:t<16):(cI (frL ls l))[t]?=some (.int .i64 0):=by
 unfold cI frL;rw[List.getElem?_map,List.getElem?_map,List.getElem?_range g];simp only[Option.map_some];rw[if_neg (by omega)]
theorem zt3(ls:List Int):frL ls 1=List.replicate 16 0:=by
 unfold frL;apply List.ext_getElem?;intro i;by_cases h:i<16
 ·rw[List.getElem?_map,List.getElem?_range h,List.getElem?_replicate,if_pos h]
  simp only[Option.map_some];rw[if_neg (by omega)]
 ·rw[List.getElem?_eq_none (by simp;omega),List.getElem?_eq_none (by simp;omega)]
theorem zt4(ls:List Int){l:Nat}(h1:1<=l)(h2:l<16):cI (frL ls (l+1))=(cI (frL ls l)).set l (.int .i64 ((zaF ls (l-1)).length:Int)):=by
 unfold cI frL;apply List.ext_getElem?;intro i;rw[List.getElem?_set];by_cases hi:i<16
 ·rw[List.getElem?_map,List.getElem?_map,List.getElem?_map,List.getElem?_map,List.getElem?_range hi]
  by_cases e:l=i
  ·subst e
   rw[if_pos rfl,if_pos (by simp;omega)];simp only[Option.map_some];rw[if_pos ⟨h1,by omega⟩]
  ·rw[if_neg e]
   simp only[Option.map_some];by_cases e2:1<=i/\i<l
   ·rw[if_pos e2,if_pos (by omega)]
   ·rw[if_neg e2,if_neg (by omega)]
 ·rw[List.getElem?_eq_none (by simp;omega)]
  by_cases e:l=i
  ·omega
  ·rw[if_neg e,List.getElem?_eq_none (by simp;omega)]
theorem ze5(ls:List Int)(l:Nat):(cI (frL ls l)).length=16:=by simp[cI,frL]
theorem zbA(ls:List Int)(l:Nat):(cU (zav ls l)).length=16:=by simp[cU,zav]
theorem zcS(ls:List Int):(cI (zaQ ls)).length=16:=by simp[cI,zaQ,zbV]
/-- A decoder's cells. -/
def zbW(ls:List Int)(l:Nat)(pv:Value):List Value:=cU (zav ls 16)++(cI (zaQ ls)++(cI (frL ls l)++[pv]))
def decZ:List Value:=cU (List.replicate 16 0)++(cI (List.replicate 16 0)++(cI (List.replicate 16 0)++[.slice none 0 0]))
theorem zvb(ls:List Int)(l:Nat)(pv:Value){t:Nat}(ht:t<16):(zbW ls l pv)[t]?=some (.int .u32 (fst ls t:Nat)):=by
 unfold zbW;rw[List.getElem?_append_left (by rw[zbA];exact ht),zkf ls 16 ht,if_pos ht]
theorem zvc(ls:List Int)(l:Nat)(pv:Value){t:Nat}(ht:t<16):(zbW ls l pv)[16+t]?=some (.int .i64 (cz ls t:Nat)):=by
 unfold zbW;rw[List.getElem?_append_right (by rw[zbA];omega),zbA,Nat.add_sub_cancel_left,List.getElem?_append_left (by rw[zcS];exact ht),zlB ls ht]
theorem znD(ls:List Int)(l:Nat)(pv:Value){t:Nat}(ht:t<16):(zbW ls l pv)[32+t]?=(cI (frL ls l))[t]?:=by
 unfold zbW;rw[List.getElem?_append_right (by rw[zbA];omega),zbA,List.getElem?_append_right (by rw[zcS];omega),zcS,show 32+t-16-16=t by omega,List.getElem?_append_left (by rw[ze5];exact ht)]
theorem zg2(ls:List Int)(l:Nat)(pv:Value):(zbW ls l pv)[48]?=some pv:=by
 unfold zbW;rw[List.getElem?_append_right (by rw[zbA];omega),zbA,List.getElem?_append_right (by rw[zcS];omega),zcS,List.getElem?_append_right (by rw[ze5];omega),ze5];rfl
theorem zsy{α:Type}(A B C:List α)(p x:α)(k a:Nat)(g:a=A.length+B.length)(o:k<C.length):(A++(B++(C++[p]))).set (a+k) x=A++(B++(C.set k x++[p])):=by
 subst g;rw[List.set_append_right _ _ (by omega),List.set_append_right _ _ (by omega),List.set_append_left _ _ (by omega)]
 congr 4
 omega
theorem zqx(ls:List Int)(pv:Value){l:Nat}(h1:1<=l)(h2:l<16):(zbW ls l pv).set (32+l) (.int .i64 ((zaF ls (l-1)).length:Int))=zbW ls (l+1) pv:=by
 unfold zbW;rw[zsy _ _ _ _ _ _ 32 (by rw[zbA,zcS]) (by rw[ze5];exact h2),zt4 ls h1 h2]
theorem zoE(ls:List Int)(l:Nat)(pv v:Value):(zbW ls l pv).set 48 v=zbW ls l v:=by
 unfold zbW;rw[List.set_append_right _ _ (by rw[zbA];omega),zbA,List.set_append_right _ _ (by rw[zcS];omega),zcS,List.set_append_right _ _ (by rw[ze5];omega),ze5];rfl
theorem zt5{α:Type}(A A' R:List α)(h:A.length=A'.length):(A++R).take 0++A'++(A++R).drop (0+A'.length)=A'++R:=by
 rw[Nat.zero_add,<-h,List.drop_left,List.take_zero,List.nil_append]
theorem zt6{α:Type}(A B g R:List α)(a:Nat)(o:a=A.length)(h:B.length=g.length):(A++(B++R)).take a++g++(A++(B++R)).drop (a+g.length)=A++(g++R):=by
 subst o;rw[<-h,List.take_left,<-List.append_assoc A B R,show A.length+B.length=(A++B).length by simp,List.drop_left,List.append_assoc]
/-- What New answers. -/
def nwE(ls:List Int):Int:=if cdE ls=0 then(if(zaF ls 15).length=0 then 4 else 0) else cdE ls
/-- The code v of length t is that of the place p. -/
def Hit(ls:List Int)(t v p:Nat):Prop:=ls[p]?=some (t:Int)/\fst ls t+cnt (ls.take p) t=v
theorem zjv{ls:List Int}{i k t:Nat}(h:ls[i]?=some (t:Int))(g:i<k):cnt (ls.take i) t<cnt (ls.take k) t:=by
 have e:=zeI h t;rw[if_pos rfl] at e;have h2:cnt (ls.take (i+1)) t<=cnt (ls.take k) t:=by
  unfold cnt;rw[show ls.take (i+1)=(ls.take k).take (i+1) by rw[List.take_take,Nat.min_eq_left (by omega)]];exact List.Sublist.count_le _ (List.take_sublist _ _)
 omega
theorem Hit.eq{ls:List Int}{t v p q:Nat}(h:Hit ls t v p)(g:Hit ls t v q):p=q:=by
 have h1:=h.2;have h2:=g.2;rcases Nat.lt_trichotomy p q with hlt|e|hlt
 ·have:=zjv h.1 hlt;omega
 ·exact e
 ·have:=zjv g.1 hlt;omega
/-- The place of a code. -/
def zfd(ls:List Int)(t v:Nat):Option Nat:=(List.range ls.length).find? fun p=>decide (ls[p]?=some (t:Int)) && decide (fst ls t+cnt (ls.take p) t=v)
theorem zlK{ls:List Int}{t v p:Nat}(h:Hit ls t v p):zfd ls t v=some p:=by
 cases e:zfd ls t v with
 |none =>
  unfold zfd at e;rw[List.find?_eq_none] at e;exact absurd (by simp[h.1,h.2]) (e p (by rw[List.mem_range];exact(List.getElem?_eq_some_iff.1 h.1).1))
 |some q =>
  have:=List.find?_some e;rw[Bool.and_eq_true,decide_eq_true_eq,decide_eq_true_eq] at this;rw[Hit.eq h ⟨this.1,this.2⟩]
theorem zic{ls:List Int}{t v:Nat}(h:∀p,¬Hit ls t v p):zfd ls t v=none:=by
 cases e:zfd ls t v with
 |none=>rfl
 |some q =>
  have:=List.find?_some e;rw[Bool.and_eq_true,decide_eq_true_eq,decide_eq_true_eq] at this;exact absurd ⟨this.1,this.2⟩ (h q)
theorem zg3{ls:List Int}{t v p:Nat}(h0:1<=t)(h:Hit ls t v p):fst ls t<=v/\v<fst ls t+cz ls t:=by
 have h1:=h.2;have h2:=zjv h.1 (List.getElem?_eq_some_iff.1 h.1).1;have g:=zg1 ls h0;rw[List.take_length] at h2;omega
theorem zvd{ls:List Int}{t v:Nat}(h0:1<=t)(h1:fst ls t<=v)(h2:v<fst ls t+cz ls t):∃p,Hit ls t v p/\(plc ls t ls.length)[v-fst ls t]?=some (p:Int)/\p<ls.length:=by
 have r:=zg1 ls h0;have o:=ze4 ls t ls.length;rw[List.take_length] at o;have hi:v-fst ls t<(plc ls t ls.length).length:=by omega
 have hx:=lge hi;obtain⟨p,e,hp,g,q⟩:=zqv ls.length hx;rw[e] at hx;exact⟨p,⟨g,by omega⟩,hx,hp⟩
/-- What Next answers, where it is then: t is the length, v the bits so far. -/
def nx(ls:List Int)(bs:List UInt8):Nat->Nat->Nat->Nat->Int×Int×Nat
 |0,_,_,P=>(0,4,P)
 |f+1,t,v,P=>if 8*bs.length<=P then(0,2,P) else
  match zfd ls t (v*2+zaE bs P) with
  |some p=>((p:Int),0,P+1)
  |none=>nx ls bs f (t+1) (v*2+zaE bs P) (P+1)
theorem zlL{ls:List Int}{bs:List UInt8}{f t v P:Nat}(h:8*bs.length<=P):nx ls bs (f+1) t v P=(0,2,P):=by rw[nx,if_pos h]
theorem zqy{ls:List Int}{bs:List UInt8}{f t v P p:Nat}(h:¬8*bs.length<=P)(g:zfd ls t (v*2+zaE bs P)=some p):nx ls bs (f+1) t v P=((p:Int),0,P+1):=by
 rw[nx,if_neg h,g]
theorem zoF{ls:List Int}{bs:List UInt8}{f t v P:Nat}(h:¬8*bs.length<=P)(g:zfd ls t (v*2+zaE bs P)=none):nx ls bs (f+1) t v P=nx ls bs f (t+1) (v*2+zaE bs P) (P+1):=by
 rw[nx,if_neg h,g]
theorem znE(v b:Nat)(hv:v<65536)(g:b<2):bits .or .u32 ((v:Int)*2) (b:Int)=((v*2+b:Nat):Int):=by
 have:=u32_or_nat b (v*2) (by omega) (by omega);have h2:=zqu (x:=b) (k:=1) (b:=v) (by omega);rw[show(2:Nat) ^ 1=2 from rfl] at h2;rw[show((v:Int)*2)=((v*2:Nat):Int) by omega,u32_or_nat _ _ (by omega) (by omega),Nat.or_comm,h2]
 congr 1
 omega
end Go.Proofs.YtebbdifhiihfkaaGreatDoor

/- Readers of bits. -/
namespace Go.Proofs.YtebbdifhiihfkaaGreatDoor
set_option linter.all false
set_option maxRecDepth 100000
set_option maxHeartbeats 1600000
open Go.RowKit
/-- A reader's block: its bytes, how far it has come. -/
def rdr(A:Option Addr)(n c P:Nat):List Value:=[.slice A n c,.int .i64 (P:Int)]
theorem zlO(g n c P:Nat)(A:Option Addr)(w:World)(h:Arr w g (rdr A n c P))(r:n<=1099511627776)(s:P<=8*n):
  Calls Tryz.prog 157 #[.pointer (some ⟨g,0,none⟩)] w fun e w'=>e=.returned (.int .i64 (8*(n:Int)-(P:Int)))/\w.grownBy w' none:=by
 have o:=h.cell (k:=0) rfl;have c1:=h.cell (k:=1) rfl;clear h;have e:wrap64 (8*(n:Int))=8*(n:Int):=zb6 _ (by omega) (by omega);have q:wrap64 (8*(n:Int)-(P:Int))=8*(n:Int)-(P:Int):=zb6 _ (by omega) (by omega);go_enter Tryz.func157,Tryz.ntmps157;go_wp2_with fail;go_quiet (fail);go_wp2_with fail;go_ret;exact⟨rfl,⟨rfl,rfl,rfl,nlr _,fun _ _ _=>rfl⟩⟩
theorem zd7{B g:Nat}{w w':World}(h:w.grownBy w' (some g))(q:B<=w.heap.size)(hg:B<=g):Below B w w' :=
 ⟨h.os,h.tape,h.output,h.size,fun k o=>h.block k (by omega) (fun e=>by injection e;omega)⟩
theorem ziO{g o:Nat}{w w':World}(h:w.grownBy w' (some g))(v:Value):w.grownBy (w'.setCell ⟨g,o,none⟩ v) (some g) :=
 ⟨h.os,h.tape,h.output,by simp;exact h.size,fun k r q=>(Below.heap_setCell _ _ _ _ (fun e=>q (by rw[e]))).trans (h.block k r q)⟩
theorem zd8{w w':World}(h:w.grownBy w' none)(g:Nat):w.grownBy w' (some g) :=
 ⟨h.os,h.tape,h.output,h.size,fun k o _=>h.block k o (by simp)⟩
theorem zlP{w w':World}{r:Option Nat}(h:w.grownBy w' r)(q:Nat):w.grownBy (w'.drewN q) r:=⟨h.os,h.tape,h.output,h.size,h.block⟩
theorem zhD(w:World)(r:Option Nat):w.grownBy w r:=⟨rfl,rfl,rfl,nlr _,fun _ _ _=>rfl⟩
theorem zd9{w1 w2 o:World}{r:Option Nat}(h:w1.grownBy w2 r)(k:w2.grownBy o r):w1.grownBy o r :=
 ⟨k.os.trans h.os,k.tape.trans h.tape,k.output.trans h.output,nlt h.size k.size,fun i hi g=>(k.block i (Nat.lt_of_lt_of_le hi h.size) g).trans (h.block i hi g)⟩
theorem Arr.gbN{w w':World}{g:Nat}{cs:List Value}(h:Arr w g cs)(o:w.grownBy w' none):Arr w' g cs:=by
 have q:=h.lt;obtain⟨t,h⟩:=h;exact⟨t,(o.block g q (by simp)).trans h⟩
/-- A byte of a row that is read by bits. -/
theorem zlQ{bs:List UInt8}{P:Nat}{x:UInt8}(h:bs[P / 8]?=some x):zaE bs P=x.toNat / 2 ^ (P % 8) % 2:=by
 unfold zaE;rw[lgd,h];rfl
theorem znF(B g n c P m:Nat)(A:Option Addr)(bs:List UInt8)(w:World)(h:Arr w g (rdr A n c P))(hr:RdB w B A n bs)(hg:B<=g)(Y:n<=1099511627776)(R:P<=8*n)(hm:m<=24)(G:P+m<=8*n):
  Calls Tryz.prog 126 #[.pointer (some ⟨g,0,none⟩),.int .i64 (m:Int)] w fun e w'=>e=.returned (.tuple #[.int .u32 (zaj bs P m:Nat),.int .i64 0])/\Arr w' g (rdr A n c (P+m))/\w.grownBy w' (some g):=by
 have L:=yo (zlO g n c P A w h Y R);have H:=yo h;have O:=yo hr;have e3:decide ((m:Int) > 8*(n:Int)-(P:Int))=false:=decide_eq_false (by omega);clear h hr;go_enter Tryz.func126,Tryz.ntmps126;go_wp2_with (go_at_call 157;(with_reducible refine L.o.mono ?_);go_must (rintro e w1 ⟨rfl,z⟩;have s:=yo z;clear z));have r:=yo (H.o.gbN s.o);have X:=H.o.lt;have t:=yo (zd8 s.o g);clear s L;go_loopw [21,6] (fun F W wr=>∃k:Nat,k<=m/\F=.int .i64 k/\W=.int .u32 (zaj bs P k:Nat)/\Hid (Arr wr g (rdr A n c (P+k)))/\Hid (w.grownBy wr (some g)))
  (fun F _ _=>m-(intOf F).toNat)
 case atStart=>exact⟨0,Nat.zero_le _,rfl,rfl,r,t⟩
 case round =>
  clear r t;obtain⟨k,Z,rfl,rfl,r,t⟩:=hrel;by_cases hlt:k<m
  ·have hq:P+k<8*n:=by omega
   have I:Hid (zaj bs P (k+1)=zaj bs P k+zaE bs (P+k)*2 ^ k):=(show _=_ from rfl);have u:=yo (zbw bs P k);have S:Hid (P+(k+1)=P+k+1):=(show _=_ from by omega);generalize zaj bs P k=V at *;generalize P+k=Q at *;have T:Q / 8<n:=(by omega);obtain⟨b,o,x,rfl,hb,J,e1⟩:=(O.o.blw (zd7 t.o (by omega) hg)).byte T;have C:=yo (zlQ J.o);have c0:=r.o.cell (k:=0) rfl;have c1:=r.o.cell (k:=1) rfl;have f1:=r.o.frozen 1;have M:(Q:Int).tdiv 8=((Q / 8:Nat):Int):=rfl;have N:(Q:Int).tmod 8=((Q % 8:Nat):Int):=rfl;have ht:Q % 8<8:=Nat.mod_lt _ (by decide);have U:Hid (bits .or .u32 (V:Int) (bits .and .u8 ((x.toNat:Int) / 2 ^ (Q % 8)) 1 % 4294967296*2 ^ k % 4294967296)=((zaj bs P (k+1):Nat):Int)):=(show _=_ by rw[zlI V k (Q % 8) x (by omega) u.o,I.o,C.o]);have E:=yo (fun q=>(r.o.drewN q).set 1 (.int .i64 ((Q:Int)+1)));have D:=yo (fun q=>ziO (o:=1) (zlP t.o q) (.int .i64 ((Q:Int)+1)));clear r t u I C J;go_wp2_with fail;go_quiet (fail);go_wp2_with fail;go_roundw
   case rel=>exact⟨k+1,by omega,by go_num,by rw[<-U.o],(show Arr _ _ _ by rw[S.o];exact E.o _),D.o _⟩
   case measure=>simp[intOf];omega
  ·obtain rfl:k=m:=by omega
   go_wp2_with fail;go_ret2;exact⟨rfl,r.o,t.o⟩
theorem zkl(g n c P m:Nat)(A:Option Addr)(w:World)(h:Arr w g (rdr A n c P))(r:n<=1099511627776)(t:P<=8*n)(z:m<=24)(q:8*n<P+m):
  Calls Tryz.prog 126 #[.pointer (some ⟨g,0,none⟩),.int .i64 (m:Int)] w fun e w'=>e=.returned (.tuple #[.int .u32 0,.int .i64 2])/\w.grownBy w' none:=by
 have s:=yo (zlO g n c P A w h r t);have u:decide ((m:Int) > 8*(n:Int)-(P:Int))=true:=decide_eq_true (by omega);clear h;go_enter Tryz.func126,Tryz.ntmps126;go_wp2_with (go_at_call 157;(with_reducible refine s.o.mono ?_);go_must (rintro e w1 ⟨rfl,o⟩));go_ret2;exact⟨rfl,o⟩
theorem zkm(g n c P:Nat)(A:Option Addr)(w:World)(h:Arr w g (rdr A n c P))(r:n<=1099511627776)(s:P<=8*n):
  Calls Tryz.prog 164 #[.pointer (some ⟨g,0,none⟩)] w fun e w'=>e=.returned (.int .i64 (8*(n:Int)-(P:Int)))/\w.grownBy w' none:=by
 have o:=h.cell (k:=0) rfl;have c1:=h.cell (k:=1) rfl;clear h;have e:wrap64 (8*(n:Int))=8*(n:Int):=zb6 _ (by omega) (by omega);have q:wrap64 (8*(n:Int)-(P:Int))=8*(n:Int)-(P:Int):=zb6 _ (by omega) (by omega);go_enter Tryz.func164,Tryz.ntmps164;go_wp2_with fail;go_quiet (fail);go_wp2_with fail;go_ret;exact⟨rfl,⟨rfl,rfl,rfl,nlr _,fun _ _ _=>rfl⟩⟩
theorem zlR(B g n c P m:Nat)(A:Option Addr)(bs:List UInt8)(w:World)(h:Arr w g (rdr A n c P))(hr:RdB w B A n bs)(hg:B<=g)(Z:n<=1099511627776)(S:P<=8*n)(hm:m<=24)(I:P+m<=8*n):
  Calls Tryz.prog 136 #[.pointer (some ⟨g,0,none⟩),.int .i64 (m:Int)] w fun e w'=>e=.returned (.tuple #[.int .u32 (zaj bs P m:Nat),.int .i64 0])/\Arr w' g (rdr A n c (P+m))/\w.grownBy w' (some g):=by
 have M:=yo (zkm g n c P A w h Z S);have H:=yo h;have R:=yo hr;have e3:decide (8*(n:Int)-(P:Int)<(m:Int))=false:=decide_eq_false (by omega);clear h hr;go_enter Tryz.func136,Tryz.ntmps136;go_wp2_with (go_at_call 164;(with_reducible refine M.o.mono ?_);go_must (rintro e w1 ⟨rfl,u⟩;have s:=yo u;clear u));have q:=yo (H.o.gbN s.o);have Y:=H.o.lt;have r:=yo s.o;clear s M;go_loopw [7,6] (fun F X wr=>∃k:Nat,k<=m/\F=.int .i64 k/\X=.int .u32 (zaj bs P k:Nat)/\Hid (Arr wr g (rdr A n c P))/\Hid (w.grownBy wr none))
  (fun F _ _=>m-(intOf F).toNat)
 case atStart=>exact⟨0,Nat.zero_le _,rfl,rfl,q,r⟩
 case round =>
  clear q r;obtain⟨k,hk,rfl,rfl,q,r⟩:=hrel;by_cases hlt:k<m
  ·have hq:P+k<8*n:=by omega
   have J:Hid (zaj bs P (k+1)=zaj bs P k+zaE bs (P+k)*2 ^ k):=(show _=_ from rfl);have t:=yo (zbw bs P k);have W:(P:Int)+(k:Int)=((P+k:Nat):Int):=(by omega);have c0:=q.o.cell (k:=0) rfl;have c1:=q.o.cell (k:=1) rfl;generalize zaj bs P k=V at *;generalize P+k=Q at *;have T:Q / 8<n:=(by omega);obtain⟨b,o,x,rfl,hb,L,e1⟩:=(R.o.blw (zd7 (zd8 r.o g) (by omega) hg)).byte T;have D:=yo (zlQ L.o);have N:(Q:Int).tdiv 8=((Q / 8:Nat):Int):=rfl;have O:(Q:Int).tmod 8=((Q % 8:Nat):Int):=rfl;have ht:Q % 8<8:=Nat.mod_lt _ (by decide);have U:Hid (bits .or .u32 (V:Int) (bits .and .u8 ((x.toNat:Int) / 2 ^ (Q % 8)) 1 % 4294967296*2 ^ k % 4294967296)=((zaj bs P (k+1):Nat):Int)):=(show _=_ by rw[zlI V k (Q % 8) x (by omega) t.o,J.o,D.o]);have E:=yo q.o;have G:=yo r.o;clear q r t J D L;go_wp2_with fail;go_roundw
   case rel=>exact⟨k+1,by omega,by go_num,by rw[<-U.o],E.o,G.o⟩
   case measure=>simp[intOf];omega
  ·obtain rfl:k=m:=by omega
   have c1:=q.o.cell (k:=1) rfl;have f1:=q.o.frozen 1;have C:=yo (show Arr (wr.setCell ⟨g,1,none⟩ (.int .i64 ((P:Int)+(k:Int)))) g (rdr A n c (P+k)) from q.o.set 1 (.int .i64 ((P:Int)+(k:Int))));have z:=yo (ziO (o:=1) (zd8 r.o g) (.int .i64 ((P:Int)+(k:Int))));clear q r;go_wp2_with fail;go_ret2;exact⟨rfl,C.o,z.o⟩
theorem ziP(g n c P m:Nat)(A:Option Addr)(w:World)(h:Arr w g (rdr A n c P))(r:n<=1099511627776)(t:P<=8*n)(z:m<=24)(q:8*n<P+m):
  Calls Tryz.prog 136 #[.pointer (some ⟨g,0,none⟩),.int .i64 (m:Int)] w fun e w'=>e=.returned (.tuple #[.int .u32 0,.int .i64 2])/\w.grownBy w' none:=by
 have s:=yo (zkm g n c P A w h r t);have u:decide (8*(n:Int)-(P:Int)<(m:Int))=true:=decide_eq_true (by omega);clear h;go_enter Tryz.func136,Tryz.ntmps136;go_wp2_with (go_at_call 164;(with_reducible refine s.o.mono ?_);go_must (rintro e w1 ⟨rfl,o⟩));go_ret2;exact⟨rfl,o⟩
end Go.Proofs.YtebbdifhiihfkaaGreatDoor

/- The document's Codes. -/
namespace Go.Proofs.YtebbdifhiihfkaaGreatDoor
set_option linter.all false
set_option maxRecDepth 100000
set_option maxHeartbeats 3200000
open Go.RowKit
def pv(ls:List Int)(l:Nat):Nat:=fst ls (l-1)+cz ls (l-1)
theorem zve(ls:List Int){l:Nat}(h:0<l):fst ls l=pv ls l*2:=by
 cases l with
 |zero=>omega
 |succ l=>unfold pv;rw[fst];simp;omega
theorem zt7{ls:List Int}{n:Nat}(h:ls.length=n){l:Nat}(g:0<l):fst ls l+cnt (ls.take n) l=pv ls (l+1):=by
 unfold pv;rw[List.take_of_length_le (by omega),Nat.add_sub_cancel,zg1 ls g]
theorem zoG(B n c:Nat)(A:Option Addr)(ls:List Int)(w:World)(h:RdI w B A n ls)(Z:B<=w.heap.size)(hn:n<=1099511627776):
  Calls Tryz.prog 165 #[.slice A n c] w fun e w'=>∃A' n' c',e=.returned (.tuple #[.slice A' n' c',.int .i64 (cdE ls)])/\n'=(cdL ls).length/\ownD w' w.heap.size (.slice A' n' c') (cdL ls)/\Below w.heap.size w w':=by
 have J:=yo (zdT B n c A ls w h hn);have P:=h.len;rcases zki ls with he|he
 ·obtain⟨g1,U,g3⟩:=zia he
  rw[he,g3] at J;by_cases s:32768<krN ls
  ·have r:Hid (cdE ls=4/\cdL ls=[]):=(show _/\_ by
    have:cdE ls=4:=by unfold cdE;rw[if_pos he,if_pos s]
    refine⟨this,?_⟩;unfold cdL;rw[if_neg (by rw[this];decide)])
   generalize krN ls=K at *;clear h P he g1 U g3;go_enter Tryz.func165,Tryz.ntmps165;go_wp2_with (go_at_call 114;(with_reducible refine J.o.mono ?_);go_must (rintro e w1 ⟨rfl,rfl⟩));go_ret2;exact⟨none,0,0,zaA rfl (by rw[r.o.1];rfl),by rw[r.o.2];rfl,by rw[r.o.2];exact ownD.nil_ _ _,Below.refl _ _⟩
  ·have r:Hid (cdE ls=0/\cdL ls=za7 ls):=(show _/\_ by
    have:cdE ls=0:=by unfold cdE;rw[if_pos he,if_neg s]
    refine⟨this,?_⟩;unfold cdL;rw[if_pos this])
   have H:=yo h;have F:=yo P;have aj:n<=300:=(by omega);have D:=yo U;have X:=yo (show krN ls<=32768 by omega);generalize krN ls=K at J s;have S:decide ((32768:Int)<(K:Int))=false:=decide_eq_false (by omega);clear h P he g1 U g3;go_enter Tryz.func165,Tryz.ntmps165;go_wp2_with (first
    |(go_at_call 114;(with_reducible refine J.o.mono ?_);go_must (rintro e w1 ⟨rfl,rfl⟩))
    |(at_make;refine zlE rfl _ _ rfl n _ rfl rfl rfl (by omega) ?_;intro w3 E N ae;have q:=yo E;have O:=yo N;clear E N))
   go_loopw [8,7] (fun L vx wr=>∃l:Nat,1<=l/\l<=16/\L=.int .i64 l/\vx=.int .u32 (pv ls l:Nat)/\Hid (ownD wr w.heap.size (.slice (some ⟨w.heap.size,0,none⟩) n n) (zcL ls l 0))/\Hid (Below w.heap.size w wr))
    (fun L _ _=>17-(intOf L).toNat)
   case atStart=>exact⟨1,by omega,by omega,rfl,rfl,(show ownD _ _ _ _ by rw[zoD,F.o];exact q.o),O⟩
   case round =>
    clear q O;obtain⟨l,ag,ah,rfl,rfl,q,C⟩:=hrel;by_cases hlt:l<=15
    ·have af:(l:Int)<=15:=by omega
     have HF:=yo (zve ls (show 0<l by omega));have z:=zev ls D.o X.o l hlt;have ak:pv ls l<=32768:=(by have:=HF.o;omega);have M:=yo (zt7 F.o (show 0<l by omega));have R:=yo (zg1 ls (show 0<l by omega));have g:Hid (((pv ls l:Nat):Int)*2=((fst ls l+cnt (ls.take 0) l:Nat):Int)):=(show _=_ by rw[HF.o];simp[cnt]);have aa:=yo z;clear z;generalize pv ls l=v at *;go_wp2;go_loopw [9,7] (fun L vx wr=>∃k:Nat,k<=n/\L=.int .i64 k/\vx=.int .u32 ((fst ls l+cnt (ls.take k) l:Nat):Int)/\Hid (ownD wr w.heap.size (.slice (some ⟨w.heap.size,0,none⟩) n n) (zcL ls l k))/\Hid (Below w.heap.size w wr))
      (fun L _ _=>n-(intOf L).toNat)
     case atStart=>exact⟨0,by omega,rfl,by first|exact congrArg (Value.int .u32) g.o|(rw[<-g.o]),q,C⟩
     case round =>
      clear q C g;obtain⟨k,hk,rfl,rfl,q,C⟩:=hrel;by_cases hlt2:k<n
      ·obtain⟨b,o,x,rfl,hb,HX,e1⟩:=(H.o.blw (C.o.mono Z)).one hlt2
       have t:=yo (zeI HX.o l);have Y:=zfc ls k l;have z:=aa.o;have ab:=R.o;have ai:fst ls l+cnt (ls.take k) l<=32768:=(by omega);clear Y z ab;by_cases hxl:x=(l:Int)
       ·subst hxl
        have I:k<ls.length:=(by rw[F.o];exact hlt2);obtain⟨o0,o1⟩:=q.o.cell (by rw[zd6,F.o]) (k:=k) (by rw[zd6];exact I);have of:=q.o.frozen (by rw[zd6,F.o]);have al:=of (k*2);have am:=of (k*2+1);have g:=yo (zsw HX.o (show 0<l by omega));have G:Hid (fst ls l+cnt (ls.take (k+1)) l=fst ls l+cnt (ls.take k) l+1):=(show _=_ by rw[t.o,if_pos rfl];omega);generalize fst ls l+cnt (ls.take k) l=V at *;generalize (zcL ls l k)[k]'(by rw[zd6];exact I)=oc at *;clear of t;have W:=yo (show ownD ((wr.setCell ⟨w.heap.size,k*2,none⟩ (.int .u32 (V:Int))).setCell ⟨w.heap.size,k*2+1,none⟩ (.int .i64 (l:Int))) w.heap.size (.slice (some ⟨w.heap.size,0,none⟩) n n) (zcL ls l (k+1)) from by
         rw[g.o];exact q.o.store (by rw[zd6,F.o]) k (V,(l:Int)) (by rw[zd6];exact I))
        have ac:=yo ((C.o.setCell (p:=⟨w.heap.size,k*2,none⟩) (nlr _) (.int .u32 (V:Int))).setCell (p:=⟨w.heap.size,k*2+1,none⟩) (nlr _) (.int .i64 (l:Int)));have T:((l:Int)==(l:Int))=true:=(by simp);clear q C;go_wp2;go_roundw
        case rel=>exact⟨k+1,by omega,by go_num,by rw[G.o];go_num,W,ac⟩
        case measure=>simp[intOf];omega
       ·have g:=yo (zqt HX.o hxl)
        have G:Hid (fst ls l+cnt (ls.take (k+1)) l=fst ls l+cnt (ls.take k) l):=(show _=_ by rw[t.o,if_neg hxl,Nat.add_zero]);generalize fst ls l+cnt (ls.take k) l=V at *;have T:(x==(l:Int))=false:=bef hxl;clear t;go_wp2;go_roundw
        case rel=>exact⟨k+1,by omega,by go_num,by rw[G.o],(show ownD _ _ _ _ by rw[g.o];exact q.o),C⟩
        case measure=>simp[intOf];omega
      ·obtain rfl:k=n:=by omega
       have u:Hid (ownD wr w.heap.size (.slice (some ⟨w.heap.size,0,none⟩) k k) (zcL ls (l+1) 0)):=(show ownD _ _ _ _ by
        have:=q.o;have e:=zqs ls l;rw[F.o] at e;rwa[e] at this)
       rw[M.o];clear q M;go_wp2;go_roundw
       case rel=>exact⟨l+1,by omega,by omega,by go_num,rfl,u,C⟩
       case measure=>simp[intOf];omega
    ·obtain rfl:l=16:=by omega
     have u:=q.o;rw[zsv ls D.o] at u;generalize pv ls 16=v at *;go_wp2;go_ret2;refine⟨some ⟨w.heap.size,0,none⟩,n,n,zaA rfl (by rw[r.o.1];rfl),?_,?_,C.o⟩
     ·rw[r.o.2];simp[za7];exact F.o.symm
     ·rw[r.o.2]
      exact u
 ·have r:Hid (cdE ls=1/\cdL ls=[]):=(show _/\_ by
   have:cdE ls=1:=by unfold cdE;rw[if_neg (by rw[he];decide)]
   refine⟨this,?_⟩;unfold cdL;rw[if_neg (by rw[this];decide)])
  rw[he] at J;generalize krV ls=K at J;clear h P he;go_enter Tryz.func165,Tryz.ntmps165;go_wp2_with (go_at_call 114;(with_reducible refine J.o.mono ?_);go_must (rintro e w1 ⟨rfl,rfl⟩));go_ret2;exact⟨none,0,0,zaA rfl (by rw[r.o.1];rfl),by rw[r.o.2];rfl,by rw[r.o.2];exact ownD.nil_ _ _,Below.refl _ _⟩
end Go.Proofs.YtebbdifhiihfkaaGreatDoor

/- Decoders: made. -/
namespace Go.Proofs.YtebbdifhiihfkaaGreatDoor
set_option linter.all false
open Go.RowKit
/-- A part of a block stored whole. -/
theorem zfe{P:Program}{w:World}{ops:Array Oper}{rest:List Oper}{o:Oper}{a:Act}{Q:Exit->Act->World->Prop}(z:o.guard=none)(s:TypeId)(x y:Operand)(D:o.op=.store s x y)
  (g off:Nat) (cs q u:List Value) (hx:a.eval x=.pointer (some ⟨g,off,none⟩)) (hy:a.eval y=.agg q.toArray) (h:Arr w g cs) (hi:(P.info? s).map (·.size)=some q.length) (B:off+q.length<=cs.length) (h1:∀v∈q,v.oneCell'=true)
  (he:cs.take off++q++cs.drop (off+q.length)=u)
  (A:wpList P ops Q rest (a.put o.dst undef) (w.setRow g u.toArray)):wpList P ops Q (o :: rest) a w:=by
 refine wpList_plain z fun K C=>?_
 obtain⟨t,h⟩:=h;have:=run_storeCells_at P g off t q 0 cs.toArray w h (by simpa using B) h1;unfold Oper.wp execOp;cases hq:P.info? s with
 |none=>simp[hq] at hi
 |some i =>
  have hs:q.length=i.size:=by simp[hq] at hi;omega
  have r:(storeVar s ⟨g,off,none⟩ (.agg q.toArray)).run P w=.ok () (w.setRow g u.toArray):=by
   simp only[Nat.add_zero] at this;simp[storeVar,sizeOf,typeInfo,hq,Value.cells,hs,this];rw[<-he,hs];simp
  simp only[D,hx,hy,Instr.storeAt,Instr.sureAddr,Sem.run_bind,Sem.run_pure,Result.andThen_ok,r];exact C _ _ A
def zie(ls:List Int):List Value:=cU (zav ls 16)++(cI (List.replicate 16 0)++(cI (List.replicate 16 0)++[Value.slice none 0 0]))
theorem zsB(ls:List Int):(zie ls).length=49:=by unfold zie;simp[cU,cI,zav]
theorem zif{ls:List Int}(h:cdE ls=0):zau ls=false/\krN ls<=32768/\ls.length<=300:=by
 unfold cdE at h;split at h
 ·rename_i h0
  split at h
  ·cases h
  ·obtain⟨a,b,c⟩:=zia h0
   exact⟨b,by omega,a⟩
 ·cases h
end Go.Proofs.YtebbdifhiihfkaaGreatDoor

/- Decoders: a code read. -/
namespace Go.Proofs.YtebbdifhiihfkaaGreatDoor
set_option linter.all false
open Go.RowKit
theorem zsC{B g n c P:Nat}{A:Option Addr}{bs:List UInt8}{w:World}(h:Arr w g (rdr A n c P))(hr:RdB w B A n bs)(hg:B<=g)(q:n<=1099511627776)(o:P+1<=8*n):
  Calls Tryz.prog 126 #[.pointer (some ⟨g,0,none⟩),.int .i64 1] w fun e w'=>e=.returned (.tuple #[.int .u32 (zaE bs P:Nat),.int .i64 0])/\Arr w' g (rdr A n c (P+1))/\w.grownBy w' (some g):=by
 have:=znF B g n c P 1 A bs w h hr hg q (by omega) (by omega) o;rw[zlH] at this;exact this
theorem zoH{g n c P:Nat}{A:Option Addr}{w:World}(h:Arr w g (rdr A n c P))(q:n<=1099511627776)(r:P<=8*n)(o:8*n<P+1):
  Calls Tryz.prog 126 #[.pointer (some ⟨g,0,none⟩),.int .i64 1] w fun e w'=>e=.returned (.tuple #[.int .u32 0,.int .i64 2])/\w.grownBy w' none :=
 zkl g n c P 1 A w h q r (by omega) o
theorem zqz{B g n c P:Nat}{A:Option Addr}{bs:List UInt8}{w:World}(h:Arr w g (rdr A n c P))(hr:RdB w B A n bs)(hg:B<=g)(q:n<=1099511627776)(o:P+1<=8*n):
  Calls Tryz.prog 136 #[.pointer (some ⟨g,0,none⟩),.int .i64 1] w fun e w'=>e=.returned (.tuple #[.int .u32 (zaE bs P:Nat),.int .i64 0])/\Arr w' g (rdr A n c (P+1))/\w.grownBy w' (some g):=by
 have:=zlR B g n c P 1 A bs w h hr hg q (by omega) (by omega) o;rw[zlH] at this;exact this
theorem zmU{g n c P:Nat}{A:Option Addr}{w:World}(h:Arr w g (rdr A n c P))(q:n<=1099511627776)(r:P<=8*n)(o:8*n<P+1):
  Calls Tryz.prog 136 #[.pointer (some ⟨g,0,none⟩),.int .i64 1] w fun e w'=>e=.returned (.tuple #[.int .u32 0,.int .i64 2])/\w.grownBy w' none :=
 ziP g n c P 1 A w h q r (by omega) o
def zgj(ls:List Int)(bs:List UInt8)(A:Option Addr)(n c P gr:Nat)(w:World)(e:Ending)(w':World):Prop :=
 e=.returned (.tuple #[.int .i64 (nx ls bs 15 1 0 P).1,.int .i64 (nx ls bs 15 1 0 P).2.1])/\Arr w' gr (rdr A n c (nx ls bs 15 1 0 P).2.2)/\w.grownBy w' (some gr)
theorem zea{ls:List Int}{bs:List UInt8}{A:Option Addr}{n c P gr:Nat}{w w':World}{e:Ending}{R:Int×Int×Nat}(h:R=nx ls bs 15 1 0 P)
  (h1:e=.returned (.tuple #[.int .i64 R.1,.int .i64 R.2.1])) (h2:Arr w' gr (rdr A n c R.2.2)) (g:w.grownBy w' (some gr)):zgj ls bs A n c P gr w e w':=by
 subst h;exact⟨h1,h2,g⟩
theorem zlS{v t V b:Nat}(h:v<2 ^ (t-1))(h1:1<=t)(h2:t<=15)(g:b<2)(o:v*2+b=V):V<2 ^ t/\V<=32768/\v<65536:=by
 have e:2 ^ t=2 ^ (t-1)*2:=by rw[<-Nat.pow_succ];congr 1;omega
 have q:2 ^ (t-1)<=2 ^ 14:=Nat.pow_le_pow_right (by decide) (by omega);omega
end Go.Proofs.YtebbdifhiihfkaaGreatDoor

