/- XFilt1 XFilt2 XFilt3 XFilt4 XFilt5 -/
import Derived.Test.YtebbdifhiihfkaaGreatDoorMm03
import Derived.StillTailTactics
namespace Go.Proofs.YtebbdifhiihfkaaGreatDoor
set_option linter.all false
set_option maxRecDepth 100000
set_option maxHeartbeats 1600000
open Go.RowKit
theorem zbF{k:IntKind}{a b:Int}(h:a=b):Ending.returned (.int k a)=.returned (.int k b):=by rw[h]
def zaf(a b:Int):Int:=if a<=b then b-a else a-b
def zeP(a b c:Int):Int :=
 if zaf (a+b-c) a<=zaf (a+b-c) b/\zaf (a+b-c) a<=zaf (a+b-c) c then a else if zaf (a+b-c) b<=zaf (a+b-c) c then b else c
theorem zj1(a b c:Int):zeP a b c=a\/zeP a b c=b\/zeP a b c=c:=by unfold zeP;split<;>(try split)<;>simp
theorem zrZ(a b:Int)(w:World)(h1:-1000<=a/\a<=1000)(h2:-1000<=b/\b<=1000):
  Calls Tryz.prog 163 #[.int .i64 a,.int .i64 b] w fun e w'=>e=.returned (.int .i64 (zaf a b))/\w=w':=by
 obtain⟨h1,g⟩:=h1;obtain⟨h2,h4⟩:=h2;go_enter Tryz.func163,Tryz.ntmps163;go_wp2
 all_goals (go_ret;exact⟨zbF (by unfold zaf;split<;>omega),rfl⟩)
theorem zpL(a b c:Int)(w:World)(h1:0<=a/\a<=255)(h2:0<=b/\b<=255)(g:0<=c/\c<=255):
  Calls Tryz.prog 135 #[.int .i64 a,.int .i64 b,.int .i64 c] w fun e w'=>e=.returned (.int .i64 (zeP a b c))/\w=w':=by
 obtain⟨q,o⟩:=h1;obtain⟨r,b2⟩:=h2;obtain⟨c1,c2⟩:=g;go_enter Tryz.func135,Tryz.ntmps135;go_wp2_with (go_at_call 163;refine(zrZ _ _ _ (by omega) (by omega)).mono ?_;rintro e w' ⟨rfl,rfl⟩)
 all_goals (go_ret;exact⟨zbF (by unfold zeP;split<;>(try split)<;>(first|rfl|(exfalso;omega))),rfl⟩)
def zaz(kind bpp:Int)(n n':Nat):Int:=if kind<0\/4<kind\/bpp<1\/8<bpp then 1 else if n≠0/\n≠n' then 4 else 0
theorem zeQ(g o:Int)(n c q r:Nat)(A A':Option Addr)(w:World):
  Calls Tryz.prog 107 #[.int .i64 g,.int .i64 o,.slice A n c,.slice A' q r] w fun e w' =>
   e=.returned (.int .i64 (zaz g o n q))/\w=w':=by
 by_cases h1:n=0
 ·subst h1
  go_enter Tryz.func107,Tryz.ntmps107;go_wp2
  all_goals (go_ret;exact⟨zbF (by unfold zaz;split<;>(try split)<;>(first|rfl|(exfalso;omega))),rfl⟩)
 ·have s:((n:Int) != 0)=true:=by rw[bne_iff_ne];omega
  by_cases h2:n=q
  ·subst h2
   go_enter Tryz.func107,Tryz.ntmps107;go_wp2
   all_goals (go_ret;exact⟨zbF (by unfold zaz;split<;>(try split)<;>(first|rfl|(exfalso;omega))),rfl⟩)
  ·have t:((n:Int) != q)=true:=by rw[bne_iff_ne];omega
   go_enter Tryz.func107,Tryz.ntmps107;go_wp2
   all_goals (go_ret;exact⟨zbF (by unfold zaz;split<;>(try split)<;>(first|rfl|(exfalso;omega))),rfl⟩)
def gAt(l:List UInt8)(i:Int):Int:=if 0<=i then((l.getD i.toNat 0).toNat:Int) else 0
theorem zno(l:List UInt8){i:Int}(h:i<0):gAt l i=0:=if_neg (by omega)
theorem zln(l:List UInt8){i:Nat}{x:UInt8}(h:l[i]?=some x):gAt l i=x.toNat:=by
 unfold gAt;rw[if_pos (by omega),Int.toNat_natCast,List.getD,h];rfl
theorem zlo(l:List UInt8){i:Nat}(h:l.length<=i):gAt l i=0:=by
 unfold gAt;rw[if_pos (by omega),Int.toNat_natCast,List.getD,List.getElem?_eq_none h];rfl
theorem zco(l:List UInt8)(i:Int):0<=gAt l i/\gAt l i<=255:=by
 unfold gAt;split
 ·have:=(l.getD i.toNat 0).toNat_lt;omega
 ·omega
theorem zf8(B n c:Nat)(A:Option Addr)(bs:List UInt8)(i:Int)(w:World)(h:RdB w B A n bs):
  Calls Tryz.prog 134 #[.slice A n c,.int .i64 i] w fun e w'=>e=.returned (.int .i64 (gAt bs i))/\w=w':=by
 obtain rfl:=h.len;by_cases h1:i<0
 ·have g:decide (i<0)=true:=by simpa using h1
  rw[zno bs h1];go_enter Tryz.func134,Tryz.ntmps134;go_wp2;go_ret;exact⟨rfl,rfl⟩
 ·have g:decide (i<0)=false:=by simpa using h1
  obtain⟨i,rfl⟩:=Int.eq_ofNat_of_zero_le (by omega:0<=i);by_cases h2:i<bs.length
  ·have q:decide (bs.length<=i)=false:=by simp;omega
   obtain⟨b,o,x,rfl,_,hx,s⟩:=h.byte h2;have r:=x.toNat_lt;rw[zln bs hx.o];clear hx;go_enter Tryz.func134,Tryz.ntmps134;go_wp2;go_ret;exact⟨rfl,rfl⟩
  ·have q:decide (bs.length<=i)=true:=by simp;omega
   rw[zlo bs (by omega)];go_enter Tryz.func134,Tryz.ntmps134;go_wp2;go_ret;exact⟨rfl,rfl⟩
/-- What a kind makes of the three neighbours. -/
def gss(kind a b c:Int):Int:=if kind=1 then a else if kind=2 then b else if kind=3 then(a+b) / 2 else if kind=4 then zeP a b c else 0
theorem znp(g a b c:Int)(h1:0<=a/\a<=255)(h2:0<=b/\b<=255)(o:0<=c/\c<=255):0<=gss g a b c/\gss g a b c<=255:=by
 unfold gss;have:=zj1 a b c;split
 ·exact h1
 ·split
  ·exact h2
  ·split
   ·omega
   ·split
    ·rcases this with e|e|e<;>rw[e]<;>assumption
    ·omega
def gB(kind bpp i:Int)(prev row:List UInt8):UInt8:=UInt8.ofNat (gss kind (gAt row (i-bpp)) (gAt prev i) (gAt prev (i-bpp))).toNat
theorem zpM(o g i:Int)(prev row:List UInt8):((gB o g i prev row).toNat:Int)=gss o (gAt row (i-g)) (gAt prev i) (gAt prev (i-g)):=by
 have h:=znp o _ _ _ (zco row (i-g)) (zco prev i) (zco prev (i-g));unfold gB;rw[UInt8.toNat_ofNat'];omega
theorem zj2(o g i:Int)(B n c C q u:Nat)(A A':Option Addr)(prev row:List UInt8)(w:World)(hp:RdB w B A n prev)(hr:RdB w C A' q row)
  (h1:1<=g/\g<=8) (h2:0<=i/\i<=1000000) :
  Calls Tryz.prog 108 #[.int .i64 o,.int .i64 g,.int .i64 i,.slice A n c,.slice A' q u] w fun e w'=>e=.returned (.int .u8 (gB o g i prev row).toNat)/\w=w':=by
 have hg:=znp o _ _ _ (zco row (i-g)) (zco prev i) (zco prev (i-g));have t:=zco row (i-g);have h4:=zco prev i;have s:=zco prev (i-g);have r:=yo (zpM o g i prev row);have z:=yo (fun(w:World) (hp:RdB w B A n prev)=>zf8 B n c A prev (i-g) w hp);obtain⟨E,b2⟩:=h1;obtain⟨F,D⟩:=h2;go_enter Tryz.func108,Tryz.ntmps108;go_wp2_with (first
  |(go_at_call 134;(with_reducible refine(zf8 _ _ _ _ _ _ _ hr).mono ?_);rintro e w' ⟨rfl,rfl⟩)
  |(go_at_call 134;(with_reducible refine(zf8 _ _ _ _ _ _ _ hp).mono ?_);rintro e w' ⟨rfl,rfl⟩)
  |(go_at_call 135;refine(zpL _ _ _ _ t h4 s).mono ?_;rintro e w' ⟨rfl,rfl⟩))
 all_goals
  go_ret;refine⟨zbF ?_,rfl⟩;rw[r.o];clear r z hg;simp only[beq_iff_eq,beq_eq_false_iff_ne,ne_eq] at *;simp[gss, *]
 rcases zj1 (gAt row (i-g)) (gAt prev i) (gAt prev (i-g)) with e|e|e<;>rw[e]<;>omega
end Go.Proofs.YtebbdifhiihfkaaGreatDoor

/- filt: rows filtered and back. -/
namespace Go.Proofs.YtebbdifhiihfkaaGreatDoor
set_option linter.all false
set_option maxRecDepth 100000
set_option maxHeartbeats 1600000
open Go.RowKit
def doB(kind bpp:Int)(prev row:List UInt8):List UInt8:=(List.range row.length).map fun i=>row.getD i 0-gB kind bpp i prev row
theorem zjs(g o:Int)(prev row:List UInt8):(doB g o prev row).length=row.length:=by simp[doB]
theorem zuW(g o:Int)(prev row:List UInt8){k:Nat}{x:UInt8}(h:row[k]?=some x):(doB g o prev row)[k]?=some (x-gB g o k prev row):=by
 obtain⟨q,rfl⟩:=List.getElem?_eq_some_iff.1 h;simp[doB,q,List.getD]
theorem zvz(g q:Int)(B n c I C J:Nat)(A A':Option Addr)(prev row:List UInt8)(w:World)(hp:RdB w B A n prev)(hr:RdB w I A' C row)
  (G:B<=w.heap.size) (E:I<=w.heap.size) (V:C<=1000000) (h0:zaz g q n C=0) (h1:1<=q/\q<=8) :
  Calls Tryz.prog 95 #[.int .i64 g,.int .i64 q,.slice A n c,.slice A' C J] w fun e w' =>
   ∃v,e=.returned (.tuple #[v,.int .i64 0])/\ownB w' w.heap.size v (doB g q prev row)/\Below w.heap.size w w':=by
 obtain rfl:=hr.len;have P:=yo h0;clear h0;have z:=yo (zjs g q prev row);go_enter Tryz.func95,Tryz.ntmps95;go_wp2_with (first
  |(go_at_call 107;refine(zeQ _ _ _ _ _ _ _ _ _).mono ?_;rintro e w' ⟨rfl,rfl⟩;rw[P.o])
  |(at_make;refine zdQ rfl _ _ rfl row.length _ rfl rfl rfl (by omega) ?_))
 intro w1 u O R;go_wp2;go_loopw [27] (fun i wr=>∃k:Nat,k<=row.length/\i=.int .i64 k/\ownB wr w.heap.size (.slice (some ⟨w.heap.size,0,none⟩) row.length row.length) (zcb (doB g q prev row) k)/\Below w.heap.size w wr)
  (fun i _=>row.length-(intOf i).toNat)
 case atStart=>exact⟨0,Nat.zero_le _,rfl,by rw[zmL,z.o];exact u,O⟩
 case round =>
  obtain⟨k,M,rfl,r,s⟩:=hrel;have D:Hid (row.length=(zcb (doB g q prev row) k).length):=by show _=_;rw[zod _ _ (by rw[z.o];exact M),z.o]
  by_cases hlt:k<row.length
  ·have F:=hp.blw (s.mono G)
   have t:=hr.blw (s.mono E);obtain⟨b,o,x,rfl,L,hx,S⟩:=t.byte hlt;obtain⟨T,_,cd⟩:=r.byte D.o hlt;have U:=r.frozen D.o k;have N:Hid (ownB (wr.setCell ⟨w.heap.size,k,none⟩ (.int .u8 ((x-gB g q k prev row).toNat:Int))) w.heap.size (.slice (some ⟨w.heap.size,0,none⟩) row.length row.length) (zcb (doB g q prev row) (k+1))):=by
    rw[zof _ k _ (zuW g q prev row hx.o)];exact r.store D.o k _
   have H:=sub_u8 x (gB g q k prev row);clear hx;go_wp2_with (go_at_call 108;refine(zj2 _ _ _ _ _ _ _ _ _ _ _ prev row _ F t h1 (by omega)).mono ?_;rintro e w' ⟨rfl,rfl⟩);go_roundw
   case rel=>exact⟨k+1,by omega,by go_num,N.o,s.setCell (nlr _) _⟩
   case measure=>simp[intOf];omega
  ·have:k=row.length:=by omega
   subst this;rw[show zcb (doB g q prev row) row.length=doB g q prev row by have:=zoe (doB g q prev row);rwa[z.o] at this] at r;go_wp2;go_ret2;exact⟨_,rfl,r,s⟩
theorem zpN(g o:Int)(n c q s:Nat)(A A':Option Addr)(w:World)(E:Int)(h0:zaz g o n q=E)(t:(E != 0)=true):
  Calls Tryz.prog 95 #[.int .i64 g,.int .i64 o,.slice A n c,.slice A' q s] w fun e w'=>e=.returned (.tuple #[.slice none 0 0,.int .i64 E])/\w=w':=by
 have r:=yo h0;clear h0;go_enter Tryz.func95,Tryz.ntmps95;go_wp2_with (go_at_call 107;refine(zeQ _ _ _ _ _ _ _ _ _).mono ?_;rintro e w' ⟨rfl,rfl⟩;rw[r.o]);go_ret2;exact⟨rfl,rfl⟩
theorem zr0(g o:Int)(n c q s:Nat)(A A':Option Addr)(w:World)(E:Int)(h0:zaz g o n q=E)(t:(E != 0)=true):
  Calls Tryz.prog 87 #[.int .i64 g,.int .i64 o,.slice A n c,.slice A' q s] w fun e w'=>e=.returned (.tuple #[.slice none 0 0,.int .i64 E])/\w=w':=by
 have r:=yo h0;clear h0;go_enter Tryz.func87,Tryz.ntmps87;go_wp2_with (go_at_call 107;refine(zeQ _ _ _ _ _ _ _ _ _).mono ?_;rintro e w' ⟨rfl,rfl⟩;rw[r.o]);go_ret2;exact⟨rfl,rfl⟩
/-- The first k bytes of the row that was filtered. -/
def zer(kind bpp:Int)(prev row:List UInt8):Nat->List UInt8
 |0=>[]
 |k+1=>zer kind bpp prev row k++[row.getD k 0+gB kind bpp k prev (zer kind bpp prev row k)]
theorem zdR(g o:Int)(prev row:List UInt8)(k:Nat):(zer g o prev row k).length=k:=by
 induction k with
 |zero=>rfl
 |succ k ih=>simp[zer,ih]
def zdz(kind bpp:Int)(prev row:List UInt8):List UInt8:=zer kind bpp prev row row.length
theorem zr1(o g:Int)(prev l m:List UInt8)(k:Nat)(r:k=l.length)(q:1<=g):gB o g k prev (l++m)=gB o g k prev l:=by
 have e:gAt (l++m) ((k:Int)-g)=gAt l ((k:Int)-g):=by
  unfold gAt;by_cases h:0<=(k:Int)-g
  ·rw[if_pos h,if_pos h]
   simp only[List.getD];rw[List.getElem?_append_left (by omega)]
  ·rw[if_neg h,if_neg h]
 unfold gB;rw[e]
/-- What lies in out after k rounds. -/
def zbD(kind bpp:Int)(prev row:List UInt8)(k:Nat):List UInt8:=zer kind bpp prev row k++List.replicate (row.length-k) 0
theorem zj3(g o:Int)(prev row:List UInt8)(k:Nat)(h:k<=row.length):(zbD g o prev row k).length=row.length:=by
 simp[zbD,zdR];omega
theorem ziB(g o:Int)(prev row:List UInt8){k:Nat}{x:UInt8}(h:row[k]?=some x)(q:1<=o):
  zbD g o prev row (k+1)=(zbD g o prev row k).set k (x+gB g o k prev (zbD g o prev row k)):=by
 obtain⟨r,hx⟩:=List.getElem?_eq_some_iff.1 h;have e:gB g o k prev (zbD g o prev row k)=gB g o k prev (zer g o prev row k):=zr1 g o prev _ _ k (zdR g o prev row k).symm q;rw[e];unfold zbD;have h1:row.length-k=(row.length-(k+1))+1:=by omega
 rw[h1,List.replicate_succ,List.set_append_right _ _ (by rw[zdR];omega),zdR,Nat.sub_self,List.set_cons_zero];simp only[zer,List.append_assoc];rw[show row.getD k 0=x by simp[List.getD,h]];rfl
theorem ztL(g q:Int)(B n c H u I:Nat)(A A':Option Addr)(prev row:List UInt8)(w:World)(hp:RdB w B A n prev)(hr:RdB w H A' u row)
  (F:B<=w.heap.size) (D:H<=w.heap.size) (U:u<=1000000) (h0:zaz g q n u=0) (h1:1<=q/\q<=8) :
  Calls Tryz.prog 87 #[.int .i64 g,.int .i64 q,.slice A n c,.slice A' u I] w fun e w' =>
   ∃v,e=.returned (.tuple #[v,.int .i64 0])/\ownB w' w.heap.size v (zdz g q prev row)/\Below w.heap.size w w':=by
 obtain rfl:=hr.len;have O:=yo h0;clear h0;go_enter Tryz.func87,Tryz.ntmps87;go_wp2_with (first
  |(go_at_call 107;refine(zeQ _ _ _ _ _ _ _ _ _).mono ?_;rintro e w' ⟨rfl,rfl⟩;rw[O.o])
  |(at_make;refine zdQ rfl _ _ rfl row.length _ rfl rfl rfl (by omega) ?_))
 intro w1 t N P;go_wp2;go_loopw [27] (fun i wr=>∃k:Nat,k<=row.length/\i=.int .i64 k/\ownB wr w.heap.size (.slice (some ⟨w.heap.size,0,none⟩) row.length row.length) (zbD g q prev row k)/\Below w.heap.size w wr)
  (fun i _=>row.length-(intOf i).toNat)
 case atStart=>exact⟨0,Nat.zero_le _,rfl,t,N⟩
 case round =>
  obtain⟨k,L,rfl,r,s⟩:=hrel;have C:Hid (row.length=(zbD g q prev row k).length):=(zj3 g q prev row k L).symm;by_cases hlt:k<row.length
  ·have E:=hp.blw (s.mono F)
   have z:=hr.blw (s.mono D);have G:=r.rd;obtain⟨b,o,x,rfl,J,hx,R⟩:=z.byte hlt;obtain⟨S,_,cd⟩:=r.byte C.o hlt;have T:=r.frozen C.o k;have M:Hid (ownB (wr.setCell ⟨w.heap.size,k,none⟩ (.int .u8 (((x.toNat:Int)+((gB g q k prev (zbD g q prev row k)).toNat:Int)) % 256))) w.heap.size (.slice (some ⟨w.heap.size,0,none⟩) row.length row.length) (zbD g q prev row (k+1))):=by
    rw[ziB g q prev row hx.o h1.1,zpz];exact r.store C.o k _
   clear hx;go_wp2_with (go_at_call 108;refine(zj2 _ _ _ _ _ _ _ _ _ _ _ prev (zbD g q prev row k) _ E G h1 (by omega)).mono ?_;rintro e w' ⟨rfl,rfl⟩);go_roundw
   case rel=>exact⟨k+1,by omega,by go_num,M.o,s.setCell (nlr _) _⟩
   case measure=>simp[intOf];omega
  ·have:k=row.length:=by omega
   subst this;rw[show zbD g q prev row row.length=zdz g q prev row by simp[zbD,zdz]] at r;go_wp2;go_ret2;exact⟨_,rfl,r,s⟩
/-! Each call for every argument: the list and what is wrong. -/
def doR(kind bpp:Int)(prev row:List UInt8):List UInt8×Int:=if zaz kind bpp prev.length row.length=0 then(doB kind bpp prev row,0) else([],zaz kind bpp prev.length row.length)
def zdA(kind bpp:Int)(prev row:List UInt8):List UInt8×Int:=if zaz kind bpp prev.length row.length=0 then(zdz kind bpp prev row,0) else([],zaz kind bpp prev.length row.length)
theorem zfo{o g:Int}{n q:Nat}(h:zaz o g n q=0):1<=g/\g<=8:=by
 unfold zaz at h;split at h
 ·omega
 ·omega
theorem zuX(g o:Int)(B n c u q t:Nat)(A A':Option Addr)(prev row:List UInt8)(w:World)(hp:RdB w B A n prev)(hr:RdB w u A' q row)
  (r:B<=w.heap.size) (s:u<=w.heap.size) (z:q<=1000000) :
  Calls Tryz.prog 95 #[.int .i64 g,.int .i64 o,.slice A n c,.slice A' q t] w fun e w' =>
   ∃v,e=.returned (.tuple #[v,.int .i64 (doR g o prev row).2])/\ownB w' w.heap.size v (doR g o prev row).1/\Below w.heap.size w w':=by
 unfold doR;rw[hp.len,hr.len];by_cases h:zaz g o n q=0
 ·rw[if_pos h]
  exact zvz g o B n c u q t A A' prev row w hp hr r s z h (zfo h)
 ·rw[if_neg h]
  refine(zpN g o n c q t A A' w _ rfl (by rw[bne_iff_ne];exact h)).mono ?_;rintro e w' ⟨rfl,rfl⟩;exact⟨_,rfl,ownB.nil_ _ _,Below.refl _ _⟩
theorem zr2(g o:Int)(B n c u q t:Nat)(A A':Option Addr)(prev row:List UInt8)(w:World)(hp:RdB w B A n prev)(hr:RdB w u A' q row)
  (r:B<=w.heap.size) (s:u<=w.heap.size) (z:q<=1000000) :
  Calls Tryz.prog 87 #[.int .i64 g,.int .i64 o,.slice A n c,.slice A' q t] w fun e w' =>
   ∃v,e=.returned (.tuple #[v,.int .i64 (zdA g o prev row).2])/\ownB w' w.heap.size v (zdA g o prev row).1/\Below w.heap.size w w':=by
 unfold zdA;rw[hp.len,hr.len];by_cases h:zaz g o n q=0
 ·rw[if_pos h]
  exact ztL g o B n c u q t A A' prev row w hp hr r s z h (zfo h)
 ·rw[if_neg h]
  refine(zr0 g o n c q t A A' w _ rfl (by rw[bne_iff_ne];exact h)).mono ?_;rintro e w' ⟨rfl,rfl⟩;exact⟨_,rfl,ownB.nil_ _ _,Below.refl _ _⟩
/-! Weight. -/
def wB(x:UInt8):Nat:=min x.toNat (256-x.toNat)
def weight(l:List UInt8):Nat:=(l.map wB).sum
theorem zvA(x:UInt8):wB x<=128:=by unfold wB;omega
theorem zgK(l:List UInt8):weight l<=128*l.length:=by
 induction l with
 |nil=>simp[weight]
 |cons x l ih=>have:=zvA x;simp[weight] at *;omega
theorem zmO(l:List UInt8){k:Nat}{x:UInt8}(h:l[k]?=some x):weight (l.take (k+1))=weight (l.take k)+wB x:=by
 obtain⟨g,rfl⟩:=List.getElem?_eq_some_iff.1 h;rw[List.take_succ_eq_append_getElem g];simp only[weight,List.map_append,List.sum_append,List.map_cons,List.map_nil,List.sum_cons,List.sum_nil];omega
theorem ziC(B n c:Nat)(A:Option Addr)(bs:List UInt8)(w:World)(h:RdB w B A n bs)(C:n<=1000000):
  Calls Tryz.prog 96 #[.slice A n c] w fun e w'=>e=.returned (.int .i64 (weight bs))/\w=w':=by
 obtain rfl:=h.len;go_enter Tryz.func96,Tryz.ntmps96;go_wp2
 go_loop [3,8] (fun s i=>∃k:Nat,k<=bs.length/\i=.int .i64 k/\s=.int .i64 (weight (bs.take k))) (fun _ i=>bs.length-(intOf i).toNat)
 case atStart=>exact⟨0,Nat.zero_le _,rfl,rfl⟩
 case round =>
  obtain⟨k,q,rfl,rfl⟩:=hrel;by_cases hlt:k<bs.length
  ·obtain⟨b,o,x,rfl,_,hx,t⟩:=h.byte hlt
   have z:=x.toNat_lt;have u:=zgK (bs.take k);have r:(bs.take k).length<=1000000:=(by simp;omega);have g:=yo (zmO bs hx.o);clear hx;go_wp2
   all_goals
    go_round
    case rel=>exact⟨k+1,by omega,by go_num,by rw[g.o];unfold wB;congr 1;omega⟩
    case measure=>simp[intOf];omega
  ·have:k=bs.length:=by omega
   subst this;go_wp2;go_ret;exact⟨zbF (by simp),rfl⟩
end Go.Proofs.YtebbdifhiihfkaaGreatDoor

/- filt: the reference's row filters. -/
namespace Go.Proofs.YtebbdifhiihfkaaGreatDoor
set_option linter.all false
set_option maxRecDepth 100000
set_option maxHeartbeats 1600000
open Go.RowKit
theorem zr3(a:Int)(w:World)(h:-1000<=a/\a<=1000):
  Calls Tryz.prog 143 #[.int .i64 a] w fun e w'=>e=.returned (.int .i64 (if a<=0 then -a else a))/\w'=w:=by
 obtain⟨h1,h2⟩:=h;go_enter Tryz.func143,Tryz.ntmps143;go_wp2
 all_goals (go_ret;exact⟨zbF (by(try split)<;>(try split)<;>omega),rfl⟩)
theorem zr4(p a:Int):(if p-a<=0 then -(p-a) else p-a)=zaf p a:=by unfold zaf;split<;>split<;>omega
theorem zon(a b c:Int)(w:World)(h1:0<=a/\a<=255)(h2:0<=b/\b<=255)(g:0<=c/\c<=255):
  Calls Tryz.prog 116 #[.int .i64 a,.int .i64 b,.int .i64 c] w fun e w'=>e=.returned (.int .i64 (zeP a b c))/\w'=w:=by
 obtain⟨q,o⟩:=h1;obtain⟨r,b2⟩:=h2;obtain⟨c1,c2⟩:=g;go_enter Tryz.func116,Tryz.ntmps116;go_wp2_with (go_at_call 143;refine(zr3 _ _ (by omega)).mono ?_;rintro e w' ⟨rfl,rfl⟩;rw[zr4])
 all_goals (go_ret;exact⟨zbF (by unfold zeP;split<;>(try split)<;>(first|rfl|(exfalso;omega))),rfl⟩)
theorem zj4(g o:Int)(n c q r:Nat)(A A':Option Addr)(w:World):
  Calls Tryz.prog 92 #[.int .i64 g,.int .i64 o,.slice A n c,.slice A' q r] w fun e w' =>
   e=.returned (.int .i64 (zaz g o n q))/\w=w':=by
 by_cases h1:n=0
 ·subst h1
  go_enter Tryz.func92,Tryz.ntmps92;go_wp2
  all_goals (go_ret;exact⟨zbF (by unfold zaz;split<;>(try split)<;>(first|rfl|(exfalso;omega))),rfl⟩)
 ·have s:decide (0<n)=true:=by simp;omega
  by_cases h2:n=q
  ·subst h2
   go_enter Tryz.func92,Tryz.ntmps92;go_wp2
   all_goals (go_ret;exact⟨zbF (by unfold zaz;split<;>(try split)<;>(first|rfl|(exfalso;omega))),rfl⟩)
  ·have t:((n:Int) != q)=true:=by rw[bne_iff_ne];omega
   go_enter Tryz.func92,Tryz.ntmps92;go_wp2
   all_goals (go_ret;exact⟨zbF (by unfold zaz;split<;>(try split)<;>(first|rfl|(exfalso;omega))),rfl⟩)
theorem zgL(B n c:Nat)(A:Option Addr)(bs:List UInt8)(i k:Int)(w:World)(h:RdB w B A n bs)(hi:0<=i/\i<=1000000)(s:0<=k/\k<=8)(h0:n=0\/i<n):
  Calls Tryz.prog 94 #[.slice A n c,.int .i64 i,.int .i64 k] w fun e w'=>e=.returned (.int .i64 (gAt bs (i-k)))/\w'=w:=by
 obtain rfl:=h.len;obtain⟨F,D⟩:=hi;obtain⟨k1,G⟩:=s;by_cases h1:i-k<0
 ·have q:decide (i-k<0)=true:=by simpa using h1
  rw[zno bs h1];go_enter Tryz.func94,Tryz.ntmps94;go_wp2;go_ret;exact⟨rfl,rfl⟩
 ·have q:decide (i-k<0)=false:=by simpa using h1
  by_cases h2:bs.length=0
  ·obtain⟨j,g⟩:=Int.eq_ofNat_of_zero_le (by omega:0<=i-k)
   rw[g,zlo bs (by omega)];rw[g] at q;have u:((bs.length:Int)==0)=true:=(by rw[beq_iff_eq];omega);have t:i-k=(j:Int):=g;go_enter Tryz.func94,Tryz.ntmps94;go_wp2;go_ret;exact⟨rfl,rfl⟩
  ·obtain⟨j,g⟩:=Int.eq_ofNat_of_zero_le (by omega:0<=i-k)
   have u:((bs.length:Int)==0)=false:=(by rw[beq_eq_false_iff_ne];omega);have r:j<bs.length:=(by omega);obtain⟨b,o,x,rfl,_,hx,C⟩:=h.byte r;have E:=x.toNat_lt;rw[g,zln bs hx.o];obtain rfl:i=(j:Int)+k:=by omega
   have z:(j:Int)+k-k=j:=(by omega);rw[z] at q;clear hx g;go_enter Tryz.func94,Tryz.ntmps94;go_wp2;go_ret;exact⟨rfl,rfl⟩
theorem zoo(g a b c:Int)(w:World)(h1:0<=a/\a<=255)(h2:0<=b/\b<=255)(o:0<=c/\c<=255):
  Calls Tryz.prog 93 #[.int .i64 g,.int .i64 a,.int .i64 b,.int .i64 c] w fun e w'=>e=.returned (.int .i64 (gss g a b c))/\w'=w:=by
 have q:=h1;have s:=h2;have r:=o;obtain⟨t,z⟩:=h1;obtain⟨u,b2⟩:=h2;obtain⟨c1,c2⟩:=o;go_enter Tryz.func93,Tryz.ntmps93;go_wp2_with (go_at_call 116;refine(zon _ _ _ _ q s r).mono ?_;rintro e w' ⟨rfl,rfl⟩)
 all_goals
  go_ret;refine⟨zbF ?_,rfl⟩;simp only[beq_iff_eq,beq_eq_false_iff_ne,ne_eq] at *;simp[gss, *]
 all_goals omega
end Go.Proofs.YtebbdifhiihfkaaGreatDoor

/- filt: the reference's Do, Undo and Weight. -/
namespace Go.Proofs.YtebbdifhiihfkaaGreatDoor
set_option linter.all false
set_option maxRecDepth 100000
set_option maxHeartbeats 3200000
open Go.RowKit
theorem zr5(g q:Int)(B n c H C I:Nat)(A A':Option Addr)(prev row:List UInt8)(w:World)(hp:RdB w B A n prev)(hr:RdB w H A' C row)
  (G:B<=w.heap.size) (F:H<=w.heap.size) (U:C<=1000000) (h0:zaz g q n C=0) (h1:1<=q/\q<=8) (h2:n=0\/n=C) :
  Calls Tryz.prog 69 #[.int .i64 g,.int .i64 q,.slice A n c,.slice A' C I] w fun e w' =>
   ∃v,e=.returned (.tuple #[v,.int .i64 0])/\ownB w' w.heap.size v (zdz g q prev row)/\Below w.heap.size w w':=by
 obtain rfl:=hr.len;have O:=yo h0;clear h0;go_enter Tryz.func69,Tryz.ntmps69;go_wp2_with (first
  |(go_at_call 92;refine(zj4 _ _ _ _ _ _ _ _ _).mono ?_;rintro e w' ⟨rfl,rfl⟩;rw[O.o])
  |(at_make;refine zdQ rfl _ _ rfl row.length _ rfl rfl rfl (by omega) ?_))
 intro w1 u N P;go_wp2;go_loopw [12] (fun i wr=>∃k:Nat,k<=row.length/\i=.int .i64 k/\ownB wr w.heap.size (.slice (some ⟨w.heap.size,0,none⟩) row.length row.length) (zbD g q prev row k)/\Below w.heap.size w wr)
  (fun i _=>row.length-(intOf i).toNat)
 case atStart=>exact⟨0,Nat.zero_le _,rfl,u,N⟩
 case round =>
  obtain⟨k,L,rfl,r,t⟩:=hrel;have E:Hid (row.length=(zbD g q prev row k).length):=(zj3 g q prev row k L).symm;by_cases hlt:k<row.length
  ·have z:RdB wr.drew B A n prev:=(hp.blw (t.mono G)).drew
   have D:RdB wr.drew H A' row.length row:=(hr.blw (t.mono F)).drew;have c1:=zgL _ _ row.length _ (zbD g q prev row k) k q wr.drew r.drew.rd ⟨by omega,by omega⟩ ⟨by omega,by omega⟩ (.inr (by omega));have c2:=zgL _ _ c _ prev k 0 _ z ⟨by omega,by omega⟩ ⟨by omega,by omega⟩ (by omega);have c3:=zgL _ _ c _ prev k q _ z ⟨by omega,by omega⟩ ⟨by omega,by omega⟩ (by omega);rw[Int.sub_zero] at c2;have c4:=zoo g _ _ _ wr.drew (zco (zbD g q prev row k) (k-q)) (zco prev k) (zco prev (k-q));obtain⟨b,o,x,rfl,J,hx,R⟩:=D.byte hlt;obtain⟨S,_,cd⟩:=r.byte E.o hlt;have T:=r.frozen E.o k;have M:Hid (ownB (wr.setCell ⟨w.heap.size,k,none⟩ (.int .u8 (((x.toNat:Int)+gss g (gAt (zbD g q prev row k) (k-q)) (gAt prev k) (gAt prev (k-q))) % 256))).drew w.heap.size (.slice (some ⟨w.heap.size,0,none⟩) row.length row.length) (zbD g q prev row (k+1))):=by
    rw[ziB g q prev row hx.o h1.1,<-zpM,zpz];exact(r.store E.o k _).drew
   clear hx;go_wp2;refine wp_region_still_tail 22 (by kernel_rfl) (by kernel_rfl) ?_;simp only[List.take_succ_cons,List.take_zero,List.drop_succ_cons,List.drop_zero];change wpStill _ _ wr.drew _ _ _
   iterate 22 (first|still_step|(refine wpStill_step (fun K s=>?_);go_simp;with_reducible refine⟨_,c1,s _ ?_⟩;clear s K)|(refine wpStill_step (fun K s=>?_);go_simp;with_reducible refine⟨_,c2,s _ ?_⟩;clear s K)|(refine wpStill_step (fun K s=>?_);go_simp;with_reducible refine⟨_,c3,s _ ?_⟩;clear s K)|(refine wpStill_step (fun K s=>?_);go_simp;with_reducible refine⟨_,c4,s _ ?_⟩;clear s K))
   refine wpStill_nil ?_;go_wp2;go_roundw
   case rel=>exact⟨k+1,by omega,by go_num,M.o,(t.setCell (nlr _) _).drew⟩
   case measure=>simp[intOf];omega
  ·have:k=row.length:=by omega
   subst this;rw[show zbD g q prev row row.length=zdz g q prev row by simp[zbD,zdz]] at r;go_wp2;go_ret2;exact⟨_,rfl,r,t⟩
theorem zpO(g o:Int)(n c q s:Nat)(A A':Option Addr)(w:World)(E:Int)(h0:zaz g o n q=E)(t:(E != 0)=true):
  Calls Tryz.prog 69 #[.int .i64 g,.int .i64 o,.slice A n c,.slice A' q s] w fun e w'=>e=.returned (.tuple #[.slice none 0 0,.int .i64 E])/\w=w':=by
 have r:=yo h0;clear h0;go_enter Tryz.func69,Tryz.ntmps69;go_wp2_with (go_at_call 92;refine(zj4 _ _ _ _ _ _ _ _ _).mono ?_;rintro e w' ⟨rfl,rfl⟩;rw[r.o]);go_ret2;exact⟨rfl,rfl⟩
theorem zpP{g o:Int}{n q:Nat}(h:zaz g o n q=0):n=0\/n=q:=by
 unfold zaz at h;split at h
 ·omega
 ·split at h<;>omega
theorem zpQ(g o:Int)(B n c u q t:Nat)(A A':Option Addr)(prev row:List UInt8)(w:World)(hp:RdB w B A n prev)(hr:RdB w u A' q row)
  (r:B<=w.heap.size) (s:u<=w.heap.size) (z:q<=1000000) :
  Calls Tryz.prog 69 #[.int .i64 g,.int .i64 o,.slice A n c,.slice A' q t] w fun e w' =>
   ∃v,e=.returned (.tuple #[v,.int .i64 (zdA g o prev row).2])/\ownB w' w.heap.size v (zdA g o prev row).1/\Below w.heap.size w w':=by
 unfold zdA;rw[hp.len,hr.len];by_cases h:zaz g o n q=0
 ·rw[if_pos h]
  exact zr5 g o B n c u q t A A' prev row w hp hr r s z h (zfo h) (zpP h)
 ·rw[if_neg h]
  refine(zpO g o n c q t A A' w _ rfl (by rw[bne_iff_ne];exact h)).mono ?_;rintro e w' ⟨rfl,rfl⟩;exact⟨_,rfl,ownB.nil_ _ _,Below.refl _ _⟩
end Go.Proofs.YtebbdifhiihfkaaGreatDoor

/- filt: the best filter. -/
namespace Go.Proofs.YtebbdifhiihfkaaGreatDoor
set_option linter.all false
set_option maxRecDepth 100000
set_option maxHeartbeats 3200000
open Go.RowKit
/-- The first of the kinds below k whose list weighs the least. -/
def bk(f:Nat->List UInt8):Nat->Nat
 |0=>0
 |1=>0
 |k+2=>if weight (f (k+1))<weight (f (bk f (k+1))) then k+1 else bk f (k+1)
def bV(f:Nat->List UInt8)(k:Nat):List UInt8:=if k=0 then[] else f (bk f k)
theorem ztM(f:Nat->List UInt8)(k:Nat)(h:k≠0):bk f (k+1)=(if weight (f k)<weight (bV f k) then k else bk f k)/\bV f (k+1)=if weight (f k)<weight (bV f k) then f k else bV f k:=by
 cases k with
 |zero=>exact absurd rfl h
 |succ k =>
  have e:bk f (k+1+1)=if weight (f (k+1))<weight (f (bk f (k+1))) then k+1 else bk f (k+1):=rfl;have o:bV f (k+1)=f (bk f (k+1)):=if_neg (Nat.add_one_ne_zero _);have g:bV f (k+1+1)=f (bk f (k+1+1)):=if_neg (Nat.add_one_ne_zero _);rw[o,g,e];split<;>exact⟨rfl,rfl⟩
def dK(bpp:Int)(prev row:List UInt8)(k:Nat):List UInt8:=doB k bpp prev row
theorem zop(g:Int)(n o k:Nat)(q:k<=4):zaz k g n o=zaz 0 g n o:=by
 unfold zaz;have e:((k:Int)<0\/4<(k:Int)\/g<1\/8<g)↔((0:Int)<0\/(4:Int)<0\/g<1\/8<g):=by constructor<;>intro h<;>omega
 simp only[e]
theorem zuY(g:Int)(prev row:List UInt8)(k:Nat):(bV (dK g prev row) k).length<=row.length:=by
 unfold bV;split
 ·exact Nat.zero_le _
 ·show(doB _ _ _ _).length<=_;rw[zjs];exact nlr _
theorem ztN(g:Int)(B n c L s N:Nat)(A A':Option Addr)(prev row:List UInt8)(w:World)(hp:RdB w B A n prev)(hr:RdB w L A' s row)
  (u:B<=w.heap.size) (t:L<=w.heap.size) (M:s<=1000000) (h0:zaz 0 g n s=0) :
  Calls Tryz.prog 72 #[.int .i64 g,.slice A n c,.slice A' s N] w fun e w' =>
   ∃v,e=.returned (.tuple #[.int .i64 (bk (dK g prev row) 5),v,.int .i64 0])/\ownB w' w.heap.size v (bV (dK g prev row) 5)/\Below w.heap.size w w':=by
 have H:=hr.len;have z:=hp.len;have h1:=zfo h0;have G:=yo H;have R:=yo z;clear H z;have T:=yo (fun k (J:k<=4)=>(zop g n s k J).trans h0);clear h0;go_enter Tryz.func72,Tryz.ntmps72;go_wp2;go_loopw [9,10,11] (fun U V i wr=>∃k:Nat,k<=5/\i=.int .i64 k/\U=.int .i64 (bk (dK g prev row) k)/\ownB wr w.heap.size V (bV (dK g prev row) k)/\Below w.heap.size w wr)
  (fun _ _ i _=>5-(intOf i).toNat)
 case atStart=>exact⟨0,Nat.zero_le _,rfl,rfl,ownB.nil_ _ _,Below.refl _ _⟩
 case round =>
  obtain⟨k,J,rfl,rfl,o,q⟩:=hrel;by_cases hlt:k<5
  ·have S:=yo (show doR k g prev row=(dK g prev row k,0) by unfold doR;rw[R.o,G.o,if_pos (T.o k (by omega))];rfl)
   have C:=yo (show(dK g prev row k).length=s by rw[<-G.o];exact zjs _ _ _ _);have D:=yo (zuY g prev row k);obtain⟨Ab,nb,cb,rfl,_,lb,_⟩:=o.slice;have E:nb<=1000000:=(by have:=o.rd.len;have:=D.o;have:=G.o;omega);have O:=zgK (dK g prev row k);have P:=zgK (bV (dK g prev row) k);have I:=yo (ztM (dK g prev row) k);go_wp2_with (first
    |(go_at_call 95;go_must (refine(zuX k g _ _ _ _ _ _ _ _ prev row _ (hp.blw (q.mono u)) (hr.blw (q.mono t)) (nlt u q.size) (nlt t q.size) M).mono ?_;rintro e w1 ⟨X,rfl,hx,r⟩;rw[S.o] at hx ⊢;dsimp only at hx ⊢;replace hx:=hx.mono q.size;obtain⟨Y,nx,cx,rfl,_,lx,_⟩:=hx.slice;replace o:=o.later r;replace q:=zeg q r (nlr _);clear r;have F:nx<=1000000:=(by have Z:=hx.rd.len;have W:=C.o;omega)))
    |(go_at_call 96;(with_reducible refine(ziC _ _ _ _ (dK g prev row k) _ hx.rd F).mono ?_);rintro e w1 ⟨rfl,rfl⟩)
    |(go_at_call 96;(with_reducible refine(ziC _ _ _ _ (bV (dK g prev row) k) _ o.rd E).mono ?_);rintro e w1 ⟨rfl,rfl⟩))
   all_goals
    (try simp only[beq_iff_eq,beq_eq_false_iff_ne,ne_eq] at *);go_roundw
    case rel =>
     refine⟨k+1,by omega,by go_num,?_,?_,q⟩
     ·by_cases hk0:k=0
      ·subst hk0;first|rfl|omega
      ·rw[(I.o hk0).1]
       congr 1
       split<;>(first|rfl|omega)
     ·by_cases hk0:k=0
      ·subst hk0;first|exact hx|omega
      ·rw[(I.o hk0).2]
       split<;>(first|assumption|omega)
    case measure=>simp[intOf];omega
  ·have:k=5:=by omega
   subst this;go_wp2;go_ret3;exact⟨_,rfl,o,q⟩
theorem zr6(g:Int)(B n c q o z:Nat)(A A':Option Addr)(prev row:List UInt8)(w:World)(hp:RdB w B A n prev)(hr:RdB w q A' o row)
  (s:B<=w.heap.size) (t:q<=w.heap.size) (C:o<=1000000) (E:Int) (h0:zaz 0 g n o=E) (r:(E != 0)=true) :
  Calls Tryz.prog 72 #[.int .i64 g,.slice A n c,.slice A' o z] w fun e w'=>e=.returned (.tuple #[.int .i64 0,.slice none 0 0,.int .i64 E])/\w=w':=by
 have u:=yo h0;clear h0 hp hr;go_enter Tryz.func72,Tryz.ntmps72;go_wp2;refine wp_loop_rounds 1 ?_;rw[rounds_succ];go_wp2_with (go_at_call 95;go_must (refine(zpN 0 g _ _ _ _ _ _ _ E u.o r).mono ?_;rintro e w1 ⟨rfl,rfl⟩));go_ret3;exact⟨rfl,rfl⟩
def ziD(bpp:Int)(prev row:List UInt8):Int×List UInt8×Int :=
 if zaz 0 bpp prev.length row.length=0 then((bk (dK bpp prev row) 5:Nat),bV (dK bpp prev row) 5,0) else(0,[],zaz 0 bpp prev.length row.length)
theorem zr7(g:Int)(B n c s o t:Nat)(A A':Option Addr)(prev row:List UInt8)(w:World)(hp:RdB w B A n prev)(hr:RdB w s A' o row)
  (q:B<=w.heap.size) (r:s<=w.heap.size) (u:o<=1000000) :
  Calls Tryz.prog 72 #[.int .i64 g,.slice A n c,.slice A' o t] w fun e w' =>
   ∃v,e=.returned (.tuple #[.int .i64 (ziD g prev row).1,v,.int .i64 (ziD g prev row).2.2])/\ownB w' w.heap.size v (ziD g prev row).2.1/\Below w.heap.size w w':=by
 unfold ziD;rw[hp.len,hr.len];by_cases h:zaz 0 g n o=0
 ·rw[if_pos h]
  exact ztN g B n c s o t A A' prev row w hp hr q r u h
 ·rw[if_neg h]
  refine(zr6 g B n c s o t A A' prev row w hp hr q r u _ rfl (by rw[bne_iff_ne];exact h)).mono ?_;rintro e w' ⟨rfl,rfl⟩;exact⟨_,rfl,ownB.nil_ _ _,Below.refl _ _⟩
end Go.Proofs.YtebbdifhiihfkaaGreatDoor

