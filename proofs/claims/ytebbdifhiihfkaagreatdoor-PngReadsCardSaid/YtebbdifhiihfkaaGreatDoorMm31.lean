/- XPgP XPix3 XPix7 XBox XPg1 XPK XPg2 XPng4 XPkP XPg3 XPng5 XPg4 XCpy XQa -/
import Derived.Test.YtebbdifhiihfkaaGreatDoorMm28
import Derived.Test.YtebbdifhiihfkaaGreatDoorMm30
import Derived.Test.YtebbdifhiihfkaaGreatDoorMm02
import Derived.Test.YtebbdifhiihfkaaGreatDoorMm22
import Derived.Test.YtebbdifhiihfkaaGreatDoorMm29
import Derived.Test.YtebbdifhiihfkaaGreatDoorMm01
import Derived.Lib.LazyBuf
import Derived.Deep.RegionHeld3
import Derived.Deep.RegionLaw
namespace Go.Proofs.YtebbdifhiihfkaaGreatDoor
set_option linter.all false
end Go.Proofs.YtebbdifhiihfkaaGreatDoor

/- pix: pictures compared, copied; bytes compared, copied. -/
namespace Go.Proofs.YtebbdifhiihfkaaGreatDoor
set_option linter.all false
set_option maxHeartbeats 1600000
open Go.RowKit
theorem zpR(s t:Sh)(w:World):Calls Tryz.prog 40 #[s.v,t.v] w fun e w'=>e=.returned (.bool (decide (s=t)))/\Below w.heap.size w w':=by
 have r:=Below.refl w.heap.size w;obtain⟨W,H,C,D⟩:=s;obtain⟨q,g,u,o⟩:=t;show Calls _ _ #[.agg #[.int .i64 W,.int .i64 H,.int .i64 C,.int .i64 D],.agg #[.int .i64 q,.int .i64 g,.int .i64 u,.int .i64 o]] w _;go_enter Tryz.func40,Tryz.ntmps40;go_wp2
 all_goals
  go_ret;refine⟨zfp ?_,(r.alloc (nlr _) _).alloc (by simp) _⟩;rw[Bool.eq_iff_iff];simp[Sh.mk.injEq, *]
  try omega
theorem zpS(s t:Sh)(B n c I q J:Nat)(A A':Option Addr)(xs E:List UInt8)(w:World)(h:RdB w B A n xs)(S:RdB w I A' q E)(u:B<=w.heap.size)(z:I<=w.heap.size):
  Calls Tryz.prog 14 #[s.r A n c,t.r A' q J] w fun e w'=>e=.returned (.bool (decide (s=t) && (xs==E)))/\Below w.heap.size w w':=by
 have o:=Below.refl w.heap.size w;have R:=yo (fun w=>zpR s t w);obtain⟨W,H,C,D⟩:=s;obtain⟨M,N,G,F⟩:=t;show Calls _ _ #[.agg #[.int .i64 W,.int .i64 H,.int .i64 C,.int .i64 D,.slice A n c],.agg #[.int .i64 M,.int .i64 N,.int .i64 G,.int .i64 F,.slice A' q J]] w _;generalize L:decide ((⟨W,H,C,D⟩:Sh)=⟨M,N,G,F⟩)=d;have O:=yo L;clear L;go_enter Tryz.func14,Tryz.ntmps14;go_wp2_with (first
  |(go_at_call 40;go_must (refine(R.o _).mono ?_;rintro e w1 ⟨rfl,g⟩;rw[O.o];have T:=(zlp (by simp) (bxd g)).2.2.2.2;have P:=(zlp (by simp) g).2.2.2.2;rw[wsa] at P;replace o:=bxd (bxd g);clear g))
  |(go_at_call 11;go_must (refine(zfm _ _ _ _ _ _ _ _ xs E _ (h.blw (o.mono u)) (S.blw (o.mono z))).mono ?_;rintro e w2 ⟨rfl,rfl⟩)))
 all_goals
  go_ret;refine⟨zfp ?_,o⟩;simp[*]
end Go.Proofs.YtebbdifhiihfkaaGreatDoor

/- pix: a picture copied. -/
namespace Go.Proofs.YtebbdifhiihfkaaGreatDoor
set_option linter.all false
open Go.RowKit
end Go.Proofs.YtebbdifhiihfkaaGreatDoor

/- Boxed structs: one fact a box. -/
namespace Go.Proofs.YtebbdifhiihfkaaGreatDoor
set_option linter.all false
open Go.RowKit
/-- The cells of a boxed picture, of a boxed shape. -/
def r5(a b c d e:Value):Nat->Option Value
 |0=>some a
 |1=>some b
 |2=>some c
 |3=>some d
 |4=>some e
 |_=>none
def s4(a b c d:Value):Nat->Option Value
 |0=>some a
 |1=>some b
 |2=>some c
 |3=>some d
 |_=>none
@[go_sem] theorem r5_0 (a b c d e:Value):r5 a b c d e 0=some a:=rfl
@[go_sem] theorem r5_1 (a b c d e:Value):r5 a b c d e 1=some b:=rfl
@[go_sem] theorem r5_2 (a b c d e:Value):r5 a b c d e 2=some c:=rfl
@[go_sem] theorem r5_3 (a b c d e:Value):r5 a b c d e 3=some d:=rfl
@[go_sem] theorem r5_4 (a b c d e:Value):r5 a b c d e 4=some e:=rfl
@[go_sem] theorem s4_0 (a b c d:Value):s4 a b c d 0=some a:=rfl
@[go_sem] theorem s4_1 (a b c d:Value):s4 a b c d 1=some b:=rfl
@[go_sem] theorem s4_2 (a b c d:Value):s4 a b c d 2=some c:=rfl
@[go_sem] theorem s4_3 (a b c d:Value):s4 a b c d 3=some d:=rfl
theorem zvI(w:World)(a b c d e:Value)(t:TypeId)(fr:Nat×Nat):∀i,(w.alloc (.cells #[a,b,c,d,e] t fr)).cell? ⟨w.heap.size,i,none⟩=r5 a b c d e i:=by
 intro i;rw[cell_of_row (w.alloc (.cells #[a,b,c,d,e] t fr)) w.heap.size i #[a,b,c,d,e] t fr (heap_alloc_new w _)]
 match i with
 |0=>rfl
 |1=>rfl
 |2=>rfl
 |3=>rfl
 |4=>rfl
 |j+5=>simp[r5]
theorem zuZ{w w1:World}{a b c d e:Value}{t:TypeId}{fr:Nat×Nat}(h:Below (w.alloc (.cells #[a,b,c,d,e] t fr)).heap.size (w.alloc (.cells #[a,b,c,d,e] t fr)) w1):
  ∀i,w1.cell? ⟨w.heap.size,i,none⟩=r5 a b c d e i:=fun i=>by
 rw[h.cell (p:=⟨w.heap.size,i,none⟩) (by simp),zvI]
end Go.Proofs.YtebbdifhiihfkaaGreatDoor

/- png: bytes of a pixel, colour types, rows filtered. -/
namespace Go.Proofs.YtebbdifhiihfkaaGreatDoor
set_option linter.all false
set_option maxRecDepth 100000
open Go.RowKit
theorem znr(W H:Int)(C D K:Nat)(s:C<=4)(t:D<=16)(g:C*D=8*K)(w:World):Calls Tryz.prog 73 #[.agg #[.int .i64 W,.int .i64 H,.int .i64 (C:Int),.int .i64 (D:Int)]] w fun e w'=>e=.returned (.int .i64 (K:Int))/\Below w.heap.size w w':=by
 have B:K<=8:=by
  have:C*D<=4*16:=Nat.mul_le_mul s t;omega
 have z:(C:Int)*(D:Int)=((8*K:Nat):Int):=by rw[<-g];push_cast;rfl
 have q:IntKind.i64.wrap ((8*K:Nat):Int)=((8*K:Nat):Int):=zaa _ (by omega);have u:(((8*K:Nat):Int)).tdiv 8=(K:Int):=by
  show(((8*K / 8:Nat)):Int)=_;rw[Nat.mul_div_cancel_left _ (by decide)]
 have r:(((8*K:Nat):Int)) / 8=(K:Int):=by omega
 obtain⟨Q,o⟩:∃Q,8*K=Q:=⟨_,rfl⟩;rw[o] at z q u r;have A:IntKind.i64.wrap (K:Int)=(K:Int):=zaa K (by omega);clear g o;go_enter Tryz.func73,Tryz.ntmps73;go_wp2_with fail;go_ret;exact⟨rfl,(Below.refl w.heap.size w).alloc (nlr _) _⟩
end Go.Proofs.YtebbdifhiihfkaaGreatDoor

/- zlib: what a pack is. -/
namespace Go.Proofs.YtebbdifhiihfkaaGreatDoor
set_option linter.all false
open Go.RowKit
end Go.Proofs.YtebbdifhiihfkaaGreatDoor

/- png: a file of rows. -/
namespace Go.Proofs.YtebbdifhiihfkaaGreatDoor
set_option linter.all false
open Go.RowKit
end Go.Proofs.YtebbdifhiihfkaaGreatDoor

/- png: the passes. -/
namespace Go.Proofs.YtebbdifhiihfkaaGreatDoor
set_option linter.all false
set_option maxRecDepth 100000
open Go.RowKit
theorem zaM{g:Func}{t u v x:Tmp}(h:g.results=#[.tmp t,.tmp u,.tmp v,.tmp x])(tmps:Array Value)(P:Program)(w:World):
  (results g tmps).run P w=.ok (.tuple #[tmps.getD t undef,tmps.getD u undef,tmps.getD v undef,tmps.getD x undef]) w:=by
 simp[results,h]
/-- Where a pass begins, how far its pixels stand apart. -/
def gT(k:Nat):(Nat×Nat)×Nat×Nat:=match k with
 |1=>((0,0),8,8)
 |2=>((4,0),8,8)
 |3=>((0,4),4,8)
 |4=>((2,0),4,4)
 |5=>((0,2),2,4)
 |6=>((1,0),2,2)
 |_=>((0,1),1,2)
theorem zvl(w:World):Calls Tryz.prog 88 #[.int .i64 1] w fun e w'=>e=.returned (.tuple #[.int .i64 0,.int .i64 0,.int .i64 8,.int .i64 8])/\Below w.heap.size w w':=by
 have g:∀w,(Instr.index 133 (.agg #[.int .i64 0,.int .i64 0,.int .i64 8,.int .i64 8,.int .i64 4,.int .i64 0,.int .i64 8,.int .i64 8,.int .i64 0,.int .i64 4,.int .i64 4,.int .i64 8,.int .i64 2,.int .i64 0,.int .i64 4,.int .i64 4,.int .i64 0,.int .i64 2,.int .i64 2,.int .i64 4,.int .i64 1,.int .i64 0,.int .i64 2,.int .i64 2,.int .i64 0,.int .i64 1,.int .i64 1,.int .i64 2]) (.int .i64 0)).run Tryz.prog w=.ok (.agg #[.int .i64 0,.int .i64 0,.int .i64 8,.int .i64 8]) w:=fun w=>by kernel_rfl
 go_enter Tryz.func88,Tryz.ntmps88;go_wp2_with fail;go_quiet (fail);go_wp2_with fail;(try simp only[Exit.inBlock,Exit.then]);refine bodyPost_ret (zaM rfl _ _ _) rfl ⟨rfl,zag ((Below.refl w.heap.size w).alloc (nlr _) _) _⟩
theorem zvm(w:World):Calls Tryz.prog 88 #[.int .i64 2] w fun e w'=>e=.returned (.tuple #[.int .i64 4,.int .i64 0,.int .i64 8,.int .i64 8])/\Below w.heap.size w w':=by
 have g:∀w,(Instr.index 133 (.agg #[.int .i64 0,.int .i64 0,.int .i64 8,.int .i64 8,.int .i64 4,.int .i64 0,.int .i64 8,.int .i64 8,.int .i64 0,.int .i64 4,.int .i64 4,.int .i64 8,.int .i64 2,.int .i64 0,.int .i64 4,.int .i64 4,.int .i64 0,.int .i64 2,.int .i64 2,.int .i64 4,.int .i64 1,.int .i64 0,.int .i64 2,.int .i64 2,.int .i64 0,.int .i64 1,.int .i64 1,.int .i64 2]) (.int .i64 1)).run Tryz.prog w=.ok (.agg #[.int .i64 4,.int .i64 0,.int .i64 8,.int .i64 8]) w:=fun w=>by kernel_rfl
 go_enter Tryz.func88,Tryz.ntmps88;go_wp2_with fail;go_quiet (fail);go_wp2_with fail;(try simp only[Exit.inBlock,Exit.then]);refine bodyPost_ret (zaM rfl _ _ _) rfl ⟨rfl,zag ((Below.refl w.heap.size w).alloc (nlr _) _) _⟩
theorem zvn(w:World):Calls Tryz.prog 88 #[.int .i64 3] w fun e w'=>e=.returned (.tuple #[.int .i64 0,.int .i64 4,.int .i64 4,.int .i64 8])/\Below w.heap.size w w':=by
 have g:∀w,(Instr.index 133 (.agg #[.int .i64 0,.int .i64 0,.int .i64 8,.int .i64 8,.int .i64 4,.int .i64 0,.int .i64 8,.int .i64 8,.int .i64 0,.int .i64 4,.int .i64 4,.int .i64 8,.int .i64 2,.int .i64 0,.int .i64 4,.int .i64 4,.int .i64 0,.int .i64 2,.int .i64 2,.int .i64 4,.int .i64 1,.int .i64 0,.int .i64 2,.int .i64 2,.int .i64 0,.int .i64 1,.int .i64 1,.int .i64 2]) (.int .i64 2)).run Tryz.prog w=.ok (.agg #[.int .i64 0,.int .i64 4,.int .i64 4,.int .i64 8]) w:=fun w=>by kernel_rfl
 go_enter Tryz.func88,Tryz.ntmps88;go_wp2_with fail;go_quiet (fail);go_wp2_with fail;(try simp only[Exit.inBlock,Exit.then]);refine bodyPost_ret (zaM rfl _ _ _) rfl ⟨rfl,zag ((Below.refl w.heap.size w).alloc (nlr _) _) _⟩
theorem zvo(w:World):Calls Tryz.prog 88 #[.int .i64 4] w fun e w'=>e=.returned (.tuple #[.int .i64 2,.int .i64 0,.int .i64 4,.int .i64 4])/\Below w.heap.size w w':=by
 have g:∀w,(Instr.index 133 (.agg #[.int .i64 0,.int .i64 0,.int .i64 8,.int .i64 8,.int .i64 4,.int .i64 0,.int .i64 8,.int .i64 8,.int .i64 0,.int .i64 4,.int .i64 4,.int .i64 8,.int .i64 2,.int .i64 0,.int .i64 4,.int .i64 4,.int .i64 0,.int .i64 2,.int .i64 2,.int .i64 4,.int .i64 1,.int .i64 0,.int .i64 2,.int .i64 2,.int .i64 0,.int .i64 1,.int .i64 1,.int .i64 2]) (.int .i64 3)).run Tryz.prog w=.ok (.agg #[.int .i64 2,.int .i64 0,.int .i64 4,.int .i64 4]) w:=fun w=>by kernel_rfl
 go_enter Tryz.func88,Tryz.ntmps88;go_wp2_with fail;go_quiet (fail);go_wp2_with fail;(try simp only[Exit.inBlock,Exit.then]);refine bodyPost_ret (zaM rfl _ _ _) rfl ⟨rfl,zag ((Below.refl w.heap.size w).alloc (nlr _) _) _⟩
theorem zvp(w:World):Calls Tryz.prog 88 #[.int .i64 5] w fun e w'=>e=.returned (.tuple #[.int .i64 0,.int .i64 2,.int .i64 2,.int .i64 4])/\Below w.heap.size w w':=by
 have g:∀w,(Instr.index 133 (.agg #[.int .i64 0,.int .i64 0,.int .i64 8,.int .i64 8,.int .i64 4,.int .i64 0,.int .i64 8,.int .i64 8,.int .i64 0,.int .i64 4,.int .i64 4,.int .i64 8,.int .i64 2,.int .i64 0,.int .i64 4,.int .i64 4,.int .i64 0,.int .i64 2,.int .i64 2,.int .i64 4,.int .i64 1,.int .i64 0,.int .i64 2,.int .i64 2,.int .i64 0,.int .i64 1,.int .i64 1,.int .i64 2]) (.int .i64 4)).run Tryz.prog w=.ok (.agg #[.int .i64 0,.int .i64 2,.int .i64 2,.int .i64 4]) w:=fun w=>by kernel_rfl
 go_enter Tryz.func88,Tryz.ntmps88;go_wp2_with fail;go_quiet (fail);go_wp2_with fail;(try simp only[Exit.inBlock,Exit.then]);refine bodyPost_ret (zaM rfl _ _ _) rfl ⟨rfl,zag ((Below.refl w.heap.size w).alloc (nlr _) _) _⟩
theorem zvq(w:World):Calls Tryz.prog 88 #[.int .i64 6] w fun e w'=>e=.returned (.tuple #[.int .i64 1,.int .i64 0,.int .i64 2,.int .i64 2])/\Below w.heap.size w w':=by
 have g:∀w,(Instr.index 133 (.agg #[.int .i64 0,.int .i64 0,.int .i64 8,.int .i64 8,.int .i64 4,.int .i64 0,.int .i64 8,.int .i64 8,.int .i64 0,.int .i64 4,.int .i64 4,.int .i64 8,.int .i64 2,.int .i64 0,.int .i64 4,.int .i64 4,.int .i64 0,.int .i64 2,.int .i64 2,.int .i64 4,.int .i64 1,.int .i64 0,.int .i64 2,.int .i64 2,.int .i64 0,.int .i64 1,.int .i64 1,.int .i64 2]) (.int .i64 5)).run Tryz.prog w=.ok (.agg #[.int .i64 1,.int .i64 0,.int .i64 2,.int .i64 2]) w:=fun w=>by kernel_rfl
 go_enter Tryz.func88,Tryz.ntmps88;go_wp2_with fail;go_quiet (fail);go_wp2_with fail;(try simp only[Exit.inBlock,Exit.then]);refine bodyPost_ret (zaM rfl _ _ _) rfl ⟨rfl,zag ((Below.refl w.heap.size w).alloc (nlr _) _) _⟩
theorem zvr(w:World):Calls Tryz.prog 88 #[.int .i64 7] w fun e w'=>e=.returned (.tuple #[.int .i64 0,.int .i64 1,.int .i64 1,.int .i64 2])/\Below w.heap.size w w':=by
 have g:∀w,(Instr.index 133 (.agg #[.int .i64 0,.int .i64 0,.int .i64 8,.int .i64 8,.int .i64 4,.int .i64 0,.int .i64 8,.int .i64 8,.int .i64 0,.int .i64 4,.int .i64 4,.int .i64 8,.int .i64 2,.int .i64 0,.int .i64 4,.int .i64 4,.int .i64 0,.int .i64 2,.int .i64 2,.int .i64 4,.int .i64 1,.int .i64 0,.int .i64 2,.int .i64 2,.int .i64 0,.int .i64 1,.int .i64 1,.int .i64 2]) (.int .i64 6)).run Tryz.prog w=.ok (.agg #[.int .i64 0,.int .i64 1,.int .i64 1,.int .i64 2]) w:=fun w=>by kernel_rfl
 go_enter Tryz.func88,Tryz.ntmps88;go_wp2_with fail;go_quiet (fail);go_wp2_with fail;(try simp only[Exit.inBlock,Exit.then]);refine bodyPost_ret (zaM rfl _ _ _) rfl ⟨rfl,zag ((Below.refl w.heap.size w).alloc (nlr _) _) _⟩
theorem zmg(k:Nat)(h1:1<=k)(g:k<=7)(w:World):Calls Tryz.prog 88 #[.int .i64 (k:Int)] w fun e w'=>e=.returned (.tuple #[.int .i64 ((gT k).1.1:Int),.int .i64 ((gT k).1.2:Int),.int .i64 ((gT k).2.1:Int),.int .i64 ((gT k).2.2:Int)])/\Below w.heap.size w w':=by
 rcases(show k=1\/k=2\/k=3\/k=4\/k=5\/k=6\/k=7 by omega) with rfl|rfl|rfl|rfl|rfl|rfl|rfl
 ·exact zvl w
 ·exact zvm w
 ·exact zvn w
 ·exact zvo w
 ·exact zvp w
 ·exact zvq w
 ·exact zvr w
theorem zdp(k:Nat):(gT k).1.1<=4/\(gT k).1.2<=4/\(gT k).1.1<=(gT k).2.1/\(gT k).1.2<=(gT k).2.2/\1<=(gT k).2.1/\(gT k).2.1<=8/\1<=(gT k).2.2/\(gT k).2.2<=8:=by
 unfold gT;split<;>decide
/-- How many pixels of n stand in a pass. -/
def cw(n x d:Nat):Nat:=(n-x+d-1) / d
def zai(W H k:Nat):Nat:=if W<=(gT k).1.1\/H<=(gT k).1.2 then 0 else cw W (gT k).1.1 (gT k).2.1
def zao(W H k:Nat):Nat:=if W<=(gT k).1.1\/H<=(gT k).1.2 then 0 else cw H (gT k).1.2 (gT k).2.2
theorem zn1{n x d:Nat}(h:n<=x)(g:1<=d):cw n x d=0:=by
 unfold cw;rw[Nat.sub_eq_zero_of_le h];exact Nat.div_eq_of_lt (by omega)
theorem zrh{n x d:Nat}(h:x<n)(g:1<=d):1<=cw n x d:=by
 unfold cw;exact(Nat.le_div_iff_mul_le (by omega)).2 (by omega)
theorem zdK(W H k:Nat):zai W H k*zao W H k=cw W (gT k).1.1 (gT k).2.1*cw H (gT k).1.2 (gT k).2.2:=by
 obtain⟨_,_,_,_,o,_,g,_⟩:=zdp k;unfold zai zao;split
 ·rename_i h
  rcases h with h|h
  ·simp[zn1 h o]
  ·simp[zn1 h g]
 ·rfl
theorem zee(W H k:Nat)(q:W<=256)(s:H<=256):zai W H k<=256/\zao W H k<=256/\(zai W H k=0↔zao W H k=0):=by
 obtain⟨_,_,_,_,o,_,g,_⟩:=zdp k;unfold zai zao;split
 ·exact⟨by omega,by omega,Iff.rfl⟩
 ·rename_i h
  have h1:=zrh (n:=W) (x:=(gT k).1.1) (d:=(gT k).2.1) (by omega) o;have h2:=zrh (n:=H) (x:=(gT k).1.2) (d:=(gT k).2.2) (by omega) g;have r:cw W (gT k).1.1 (gT k).2.1<=W:=by
   unfold cw;refine(Nat.div_le_iff_le_mul_add_pred (by omega)).2 ?_;have:=Nat.le_mul_of_pos_left W o;omega
  have h4:cw H (gT k).1.2 (gT k).2.2<=H:=by
   unfold cw;refine(Nat.div_le_iff_le_mul_add_pred (by omega)).2 ?_;have:=Nat.le_mul_of_pos_left H g;omega
  exact⟨by omega,by omega,by omega⟩
/-- The pixels of the first passes. -/
def ze2(W H:Nat):Nat->Nat
 |0=>0
 |k+1=>ze2 W H k+zai W H (k+1)*zao W H (k+1)
theorem zri(W H:Nat):ze2 W H 7=W*H:=by
 show 0+zai W H 1*zao W H 1+zai W H 2*zao W H 2+zai W H 3*zao W H 3+zai W H 4*zao W H 4+zai W H 5*zao W H 5+zai W H 6*zao W H 6+zai W H 7*zao W H 7=_;rw[zdK,zdK,zdK,zdK,zdK,zdK,zdK];show 0+cw W 0 8*cw H 0 8+cw W 4 8*cw H 0 8+cw W 0 4*cw H 4 8+cw W 2 4*cw H 0 4+cw W 0 2*cw H 2 4+cw W 1 2*cw H 0 2+cw W 0 1*cw H 1 2=_;have e:∀n:Nat,cw n 0 8+cw n 4 8=cw n 0 4/\cw n 0 4+cw n 2 4=cw n 0 2/\cw n 0 2+cw n 1 2=n/\cw n 0 1=n:=fun n=>by
  unfold cw;omega
 obtain⟨w1,w2,q,o⟩:=e W;obtain⟨h1,h2,g,_⟩:=e H;rw[Nat.zero_add,<-Nat.add_mul,w1,<-Nat.mul_add,h1,<-Nat.add_mul,w2,<-Nat.mul_add,h2,<-Nat.add_mul,q,o,<-Nat.mul_add,g]
end Go.Proofs.YtebbdifhiihfkaaGreatDoor

/- png: the pixels of a pass, plainly. -/
namespace Go.Proofs.YtebbdifhiihfkaaGreatDoor
set_option linter.all false
theorem zvC{W H K x y m:Nat}(hx:x<W)(hy:y<H)(g:m=H*(W*K)):(y*W+x)*K+K<=m:=by
 rw[g,<-Nat.mul_assoc];have h1:y*W+x+1<=H*W:=by
  have:(y+1)*W<=H*W:=Nat.mul_le_mul_right W hy;rw[Nat.succ_mul] at this;omega
 have h2:=Nat.mul_le_mul_right K h1;rw[Nat.succ_mul] at h2;exact h2
theorem ztF{n x d i:Nat}(g:1<=d)(h:i<cw n x d):x+i*d<n:=by
 unfold cw at h;have h1:(i+1)*d<=n-x+d-1:=by
  have:=(Nat.le_div_iff_mul_le (show 0<d by omega)).1 (show i+1<=_ from h);exact this
 rw[Nat.succ_mul] at h1;omega
theorem zn2{W H k:Nat}:(∀i,i<zai W H k->(gT k).1.1+i*(gT k).2.1<W)/\(∀j,j<zao W H k->(gT k).1.2+j*(gT k).2.2<H):=by
 obtain⟨_,_,_,_,o,_,g,_⟩:=zdp k;unfold zai zao;split
 ·exact⟨fun i h=>absurd h (by omega),fun i h=>absurd h (by omega)⟩
 ·exact⟨fun i h=>ztF o h,fun i h=>ztF g h⟩
end Go.Proofs.YtebbdifhiihfkaaGreatDoor

/- png: the pixels of a pass taken. -/
namespace Go.Proofs.YtebbdifhiihfkaaGreatDoor
set_option linter.all false
open Go.RowKit
theorem zi5{a b c:Nat}(h:a*b=c):(a:Int)*(b:Int)=(c:Int):=by rw[<-h];push_cast;rfl
end Go.Proofs.YtebbdifhiihfkaaGreatDoor

/- png: how wide and high a pass is. -/
namespace Go.Proofs.YtebbdifhiihfkaaGreatDoor
set_option linter.all false
set_option maxRecDepth 100000
set_option maxHeartbeats 3200000
open Go.RowKit
theorem zvL(s:Sh)(k:Int)(w:World)(h:s.may=false\/(s.may=true/\(k<1\/7<k))):
  Calls Tryz.prog 84 #[.agg #[.int .i64 s.w,.int .i64 s.h,.int .i64 s.c,.int .i64 s.d],.int .i64 k] w fun e w'=>e=.returned (.tuple #[.int .i64 0,.int .i64 0])/\Below w.heap.size w w':=by
 have r:=yo (zgc s (w.alloc (.cells #[.int .i64 s.w,.int .i64 s.h,.int .i64 s.c,.int .i64 s.d] 37)));have r:Hid (Calls Tryz.prog 41 #[.agg #[.int .i64 s.w,.int .i64 s.h,.int .i64 s.c,.int .i64 s.d]] (w.alloc (.cells #[.int .i64 s.w,.int .i64 s.h,.int .i64 s.c,.int .i64 s.d] 37)) fun e w'=>e=.returned (.bool s.may)/\Below (w.alloc (.cells #[.int .i64 s.w,.int .i64 s.h,.int .i64 s.c,.int .i64 s.d] 37)).heap.size (w.alloc (.cells #[.int .i64 s.w,.int .i64 s.h,.int .i64 s.c,.int .i64 s.d] 37)) w'):=r;have q:=yo ((Below.refl w.heap.size w).alloc (nlr _) (.cells #[.int .i64 s.w,.int .i64 s.h,.int .i64 s.c,.int .i64 s.d] 37));have hz:w.heap.size<=(w.alloc (.cells #[.int .i64 s.w,.int .i64 s.h,.int .i64 s.c,.int .i64 s.d] 37)).heap.size:=by simp
 generalize s.may=mm at *;rcases h with rfl | ⟨rfl,h|h⟩
 ·go_enter Tryz.func84,Tryz.ntmps84
  go_wp2_with (go_at_call 41;(with_reducible refine r.o.mono ?_);go_must (rintro e w2 ⟨rfl,g⟩;have o:=yo (q.o.trans (g.mono hz));clear g));go_ret2;exact⟨rfl,o.o⟩
 ·go_enter Tryz.func84,Tryz.ntmps84
  go_wp2_with (go_at_call 41;(with_reducible refine r.o.mono ?_);go_must (rintro e w2 ⟨rfl,g⟩;have o:=yo (q.o.trans (g.mono hz));clear g));go_ret2;exact⟨rfl,o.o⟩
 ·have h1:¬k<1:=by omega
  go_enter Tryz.func84,Tryz.ntmps84;go_wp2_with (go_at_call 41;(with_reducible refine r.o.mono ?_);go_must (rintro e w2 ⟨rfl,g⟩;have o:=yo (q.o.trans (g.mono hz));clear g));go_ret2;exact⟨rfl,o.o⟩
theorem zuv(W H k:Nat)(c d:Int)(w:World)(V:Sh.may ⟨W,H,c,d⟩=true)(hW:1<=W/\W<=256)(hH:1<=H/\H<=256)(h1:1<=k)(h7:k<=7):
  Calls Tryz.prog 84 #[.agg #[.int .i64 (W:Int),.int .i64 (H:Int),.int .i64 c,.int .i64 d],.int .i64 (k:Int)] w fun e w'=>e=.returned (.tuple #[.int .i64 (zai W H k:Int),.int .i64 (zao W H k:Int)])/\Below w.heap.size w w':=by
 obtain⟨w1,u⟩:∃w1,w.alloc (.cells #[.int .i64 (W:Int),.int .i64 (H:Int),.int .i64 c,.int .i64 d] 37)=w1:=⟨_,rfl⟩;obtain⟨bk,B⟩:∃b,w.heap.size=b:=⟨_,rfl⟩;have E:Hid (Arr w1 bk [.int .i64 (W:Int),.int .i64 (H:Int),.int .i64 c,.int .i64 d]):=(show Arr _ _ _ by rw[<-u,<-B];exact Arr.new w [.int .i64 (W:Int),.int .i64 (H:Int),.int .i64 c,.int .i64 d] _);have G:Hid (Below bk w w1):=(show Below _ _ _ by rw[<-u,<-B];exact(Below.refl w.heap.size w).alloc (nlr _) _);have ae:w1.heap.size=bk+1:=by rw[<-u,wsa,B]
 have M:Hid (Calls Tryz.prog 41 #[.agg #[.int .i64 (W:Int),.int .i64 (H:Int),.int .i64 c,.int .i64 d]] w1 fun e w'=>e=.returned (.bool true)/\Below w1.heap.size w1 w'):=(show Calls _ _ _ _ _ by have:=zgc ⟨W,H,c,d⟩ w1;rw[V] at this;exact this);have HG:=yo (fun w=>zmg k h1 h7 w);obtain⟨g1,g2,g3,g4,g5,g6,g7,g8⟩:=zdp k;have s:zai W H k=if W<=(gT k).1.1\/H<=(gT k).1.2 then 0 else cw W (gT k).1.1 (gT k).2.1:=rfl;have t:zao W H k=if W<=(gT k).1.1\/H<=(gT k).1.2 then 0 else cw H (gT k).1.2 (gT k).2.2:=rfl;generalize (gT k).1.1=X at *;generalize (gT k).1.2=Y at *;generalize (gT k).2.1=DX at *;generalize (gT k).2.2=DY at *;generalize zai W H k=PW at *;generalize zao W H k=PH at *;obtain⟨a,R⟩:∃a,W+DX-1-X=a:=⟨_,rfl⟩;obtain⟨b,T⟩:∃b,H+DY-1-Y=b:=⟨_,rfl⟩;obtain⟨q,hq⟩:∃q,a / DX=q:=⟨_,rfl⟩;obtain⟨r,hr⟩:∃r,b / DY=r:=⟨_,rfl⟩;obtain⟨U,ak⟩:∃P:Int,(W:Int)-(X:Int)=P:=⟨_,rfl⟩;obtain⟨P2,ah⟩:∃P:Int,U+(DX:Int)=P:=⟨_,rfl⟩;obtain⟨O,Z⟩:∃P:Int,(H:Int)-(Y:Int)=P:=⟨_,rfl⟩;obtain⟨S,aj⟩:∃P:Int,O+(DY:Int)=P:=⟨_,rfl⟩;have ab:P2-1=(a:Int):=by omega
 have ag:S-1=(b:Int):=by omega
 have g:∀x:Int,-100000<=x->x<=100000->IntKind.i64.wrap x=x:=fun x h1 h2=>by rw[IntKind.wrap_i64];omega
 have v1:=g U (by omega) (by omega);have v2:=g P2 (by omega) (by omega);have v3:=g (a:Int) (by omega) (by omega);have v4:=g O (by omega) (by omega);have v5:=g S (by omega) (by omega);have v6:=g (b:Int) (by omega) (by omega);have af:q<=a:=by rw[<-hq];exact Nat.div_le_self _ _
 have aa:r<=b:=by rw[<-hr];exact Nat.div_le_self _ _
 have v7:=g (q:Int) (by omega) (by omega);have v8:=g (r:Int) (by omega) (by omega);have q1:(a:Int).tdiv (DX:Int)=(q:Int):=by rw[<-hq];rfl
 have q2:(a:Int) / (DX:Int)=(q:Int):=by rw[<-hq];rfl
 have r1:(b:Int).tdiv (DY:Int)=(r:Int):=by rw[<-hr];rfl
 have r2:(b:Int) / (DY:Int)=(r:Int):=by rw[<-hr];rfl
 have z1:¬(DX:Int)=0:=by omega
 have z2:¬(DY:Int)=0:=by omega
 have z3:((DX:Int)==0)=false:=bef z1;have z4:((DY:Int)==0)=false:=bef z2;have k1:¬(k:Int)<1:=by omega
 have k7:¬(7:Int)<(k:Int):=by omega
 have z:¬W<=X->cw W X DX=q:=fun h=>by unfold cw;rw[<-hq,<-R];congr 1;omega
 have D:¬H<=Y->cw H Y DY=r:=fun h=>by unfold cw;rw[<-hr,<-T];congr 1;omega
 clear R T hq hr g V;obtain⟨a0,a1,a2,a3⟩:=E.o.c4;go_enter Tryz.func84,Tryz.ntmps84;simp only[u,B];go_wp2_with (first
  |(go_at_call 41;(with_reducible refine M.o.mono ?_);go_must (rintro e w2 ⟨rfl,C⟩;have I:=yo (E.o.later C);have ac:=C.size;have J:=yo (G.o.trans (C.mono (by omega)));clear C a0 a1 a2 a3))
  |(go_at_call 88;(with_reducible refine(HG.o _).mono ?_);go_must (rintro e w3 ⟨rfl,A⟩;have F:=yo (I.o.later A);have c0:=F.o.cell (k:=0) rfl;have c1:=F.o.cell (k:=1) rfl;have ai:=A.size;have o:=yo (J.o.trans (A.mono (by omega)));clear A)))
 by_cases hx:W<=X
 ·have L:(W:Int)<=(X:Int):=by omega
  rw[if_pos (.inl hx)] at s t;clear z D;go_quiet (fail);go_wp2_with fail;go_ret2
  first|exact⟨rfl,zag o.o _⟩|exact⟨by rw[s,t];rfl,zag o.o _⟩
 ·have L:¬(W:Int)<=(X:Int):=by omega
  by_cases hy:H<=Y
  ·have N:(H:Int)<=(Y:Int):=by omega
   rw[if_pos (.inr hy)] at s t;clear z D;go_quiet (fail);go_wp2_with fail;go_ret2
   first|exact⟨rfl,zag o.o _⟩|exact⟨by rw[s,t];rfl,zag o.o _⟩
  ·have N:¬(H:Int)<=(Y:Int):=by omega
   rw[if_neg (by omega),z hx] at s;rw[if_neg (by omega),D hy] at t;clear z D;go_quiet (fail);go_wp2_with fail;go_ret2
   first|exact⟨rfl,zag o.o _⟩|exact⟨by rw[s,t];rfl,zag o.o _⟩
end Go.Proofs.YtebbdifhiihfkaaGreatDoor

/- png: shapes of passes; a picture written, laced too. -/
namespace Go.Proofs.YtebbdifhiihfkaaGreatDoor
set_option linter.all false
set_option maxRecDepth 100000
set_option maxHeartbeats 6400000
open Go.RowKit
/-- A shape's numbers, and the bytes of its pixels. -/
structure PS(W H C D K:Nat):Prop where
 w1:1<=W
 w2:W<=256
 h1:1<=H
 h2:H<=256
 c1:1<=C
 c2:C<=4
 d:D=8\/D=16
 k:C*D=8*K
 k1:1<=K
 k8:K<=8
section
variable {W H C D K : Nat}
theorem PS.d16(h:PS W H C D K):D<=16:=by rcases h.d with e|e<;>omega
theorem PS.nums(h:PS W H C D K):Sh.nums ⟨W,H,C,D⟩=true:=by
 rw[Sh.nums_iff];have:=h.w1;have:=h.w2;have:=h.h1;have:=h.h2;have:=h.c1;have:=h.c2;have:=h.d;refine⟨⟨?_,?_⟩,⟨?_,?_⟩,⟨?_,?_⟩,?_⟩
 ·show(1:Int)<=(W:Int);omega
 ·show(W:Int)<=256;omega
 ·show(1:Int)<=(H:Int);omega
 ·show(H:Int)<=256;omega
 ·show(1:Int)<=(C:Int);omega
 ·show(C:Int)<=4;omega
 ·show(D:Int)=8\/(D:Int)=16;omega
theorem PS.size(h:PS W H C D K):Sh.size ⟨W,H,C,D⟩=((H*(W*K):Nat):Int)/\Sh.row ⟨W,H,C,D⟩=((W*K:Nat):Int):=by
 have hs:=h.nums;have hr:Sh.row ⟨W,H,C,D⟩=((W*K:Nat):Int):=by
  unfold Sh.row;rw[if_pos hs];show(W:Int)*(C:Int)*(D:Int) / 8=_;have:(W:Int)*(C:Int)*(D:Int)=8*((W*K:Nat):Int):=by
   have e:W*C*D=8*(W*K):=(by rw[Nat.mul_assoc,h.k];ac_rfl);rw[show(8:Int)*((W*K:Nat):Int)=((8*(W*K):Nat):Int) by push_cast;rfl,<-e]
   push_cast
   rfl
  omega
 refine⟨?_,hr⟩;unfold Sh.size;rw[hr,if_pos hs];show((W*K:Nat):Int)*(H:Int)=_
 push_cast
 rw[Int.mul_comm]
theorem PS.pass{g o:Nat}(h:PS W H C D K)(h1:1<=g)(h2:g<=256)(q:1<=o)(h4:o<=256):PS g o C D K:=⟨h1,h2,q,h4,h.c1,h.c2,h.d,h.k,h.k1,h.k8⟩
theorem PS.of_may{s:Sh}(h:s.may=true):∃W H C D K:Nat,s=⟨W,H,C,D⟩/\PS W H C D K/\H*(W*K)<=16384:=by
 unfold Sh.may at h;rw[Bool.and_eq_true] at h;obtain⟨F,hz⟩:=h;obtain⟨⟨o,A⟩,⟨q,z⟩,⟨r,u⟩,t⟩:=(Sh.nums_iff s).1 F;obtain⟨W,H,C,D⟩:=s;obtain⟨W,rfl⟩:=Int.eq_ofNat_of_zero_le (show 0<=W by have:1<=W:=o;omega);obtain⟨H,rfl⟩:=Int.eq_ofNat_of_zero_le (show 0<=H by have:1<=H:=q;omega);obtain⟨C,rfl⟩:=Int.eq_ofNat_of_zero_le (show 0<=C by have:1<=C:=r;omega);obtain⟨D,rfl⟩:=Int.eq_ofNat_of_zero_le (show 0<=D by have:D=8\/D=16:=t;omega);have o:1<=(W:Int):=o;have A:(W:Int)<=256:=A;have q:1<=(H:Int):=q;have z:(H:Int)<=256:=z;have r:1<=(C:Int):=r;have u:(C:Int)<=4:=u;have t:(D:Int)=8\/(D:Int)=16:=t;have B:D=8\/D=16:=by omega
 have key:∃K,C*D=8*K/\1<=K/\K<=8:=by
  rcases B with rfl|rfl
  ·exact⟨C,by omega,by omega,by omega⟩
  ·exact⟨2*C,by omega,by omega,by omega⟩
 obtain⟨K,k1,G,E⟩:=key;have hp:PS W H C D K:=⟨by omega,by omega,by omega,by omega,by omega,by omega,B,k1,G,E⟩;refine⟨W,H,C,D,K,rfl,hp,?_⟩;have g:Sh.size ⟨W,H,C,D⟩<=16384:=by simpa using hz
 rw[hp.size.1] at g;omega
theorem PS.may(h:PS W H C D K)(g:H*(W*K)<=16384):Sh.may ⟨W,H,C,D⟩=true:=by
 unfold Sh.may;rw[h.nums,h.size.1];simp;have:((H*(W*K):Nat):Int)<=16384:=by omega
 push_cast at this
 exact this
end
theorem zo3(W H:Nat):∀k,k<=7->ze2 W H k<=W*H:=fun k g=>by
 rw[<-zri W H];have key:∀a b,a<=b->ze2 W H a<=ze2 W H b:=fun a b o=>by
  induction b with
  |zero =>
   obtain rfl:a=0:=by omega
   exact nlr _
  |succ b ih =>
   by_cases e:a=b+1
   ·rw[e];exact nlr _
   ·exact nlt (ih (by omega)) (Nat.le_add_right _ _)
 exact key k 7 g
theorem zrj(W H C D K k:Nat)(G:Bool)(w:World)(hs:PS W H C D K)(hz:H*(W*K)<=16384)(h1:1<=k)(L:k<=7)(t:decide (0<zai W H k)=G):
  Calls Tryz.prog 57 #[.agg #[.int .i64 (W:Int),.int .i64 (H:Int),.int .i64 (C:Int),.int .i64 (D:Int)],.int .i64 (k:Int)] w fun e w'=>e=.returned (.tuple #[.agg #[.int .i64 (zai W H k:Int),.int .i64 (zao W H k:Int),.int .i64 (C:Int),.int .i64 (D:Int)],.bool G])/\Below w.heap.size w w':=by
 have E:=yo t;clear t;have A:=yo (fun w=>zuv W H k (C:Int) (D:Int) w (hs.may hz) ⟨hs.w1,hs.w2⟩ ⟨hs.h1,hs.h2⟩ h1 L);generalize zai W H k=pw at *;generalize zao W H k=ph at *;obtain⟨g,q⟩:∃b,w.heap.size=b:=⟨_,rfl⟩;obtain⟨w1,o⟩:∃w1,(w.alloc (.cells #[.int .i64 (W:Int),.int .i64 (H:Int),.int .i64 (C:Int),.int .i64 (D:Int)] 37)).alloc (.cells #[.int .i64 0,.int .i64 0,.int .i64 0,.int .i64 0] 37)=w1:=⟨_,rfl⟩;have B:(w.alloc (.cells #[.int .i64 (W:Int),.int .i64 (H:Int),.int .i64 (C:Int),.int .i64 (D:Int)] 37)).heap.size=g+1:=by rw[wsa,q]
 have u:Hid (Arr w1 g [.int .i64 (W:Int),.int .i64 (H:Int),.int .i64 (C:Int),.int .i64 (D:Int)]):=(show Arr _ _ _ by rw[<-o,<-q];exact(Arr.new w [.int .i64 (W:Int),.int .i64 (H:Int),.int .i64 (C:Int),.int .i64 (D:Int)] _).alloc _);have I:Hid (Arr w1 (g+1) [.int .i64 0,.int .i64 0,.int .i64 0,.int .i64 0]):=(show Arr _ _ _ by rw[<-o,<-B];exact Arr.new _ [.int .i64 0,.int .i64 0,.int .i64 0,.int .i64 0] _);have J:Hid (Below g w w1):=(show Below _ _ _ by rw[<-o,<-q];exact((Below.refl w.heap.size w).alloc (nlr _) _).alloc (by simp) _);have X:w1.heap.size=g+2:=by rw[<-o,wsa,B]
 obtain⟨O,M,N,P⟩:=u.o.c4;clear hs hz h1 L;go_enter Tryz.func57,Tryz.ntmps57;simp only[o,q,B];go_wp2_with (go_at_call 84;(with_reducible refine(A.o _).mono ?_);go_must (rintro e w2 ⟨rfl,r⟩;have s:=yo (u.o.later r);have z:=yo (I.o.later r);have F:=yo (J.o.trans (r.mono (by omega)));obtain⟨c0,c1,c2,c3⟩:=s.o.c4;have U:=s.o.frozen 0;have Y:=s.o.frozen 1;obtain⟨t0,R,T,t3⟩:=z.o.c4;obtain⟨V,Z,S,g3⟩:=z.o.q4;clear r O M N P));refine bodyPost_ret (v:=.tuple #[.agg #[.int .i64 (pw:Int),.int .i64 (ph:Int),.int .i64 (C:Int),.int .i64 (D:Int)],.bool G]) ?_ rfl ?_
 ·unfold results
  go_simp;exact E.o
 ·refine⟨rfl,?_⟩
  exact(((((F.o.setCell (p:=⟨g,0,none⟩) (nlr _) _).setCell (p:=⟨g,1,none⟩) (nlr _) _).setCell (p:=⟨g+1,0,none⟩) (Nat.le_succ _) _).setCell (p:=⟨g+1,1,none⟩) (Nat.le_succ _) _).setCell (p:=⟨g+1,2,none⟩) (Nat.le_succ _) _).setCell (p:=⟨g+1,3,none⟩) (Nat.le_succ _) _
end Go.Proofs.YtebbdifhiihfkaaGreatDoor

/- copy of bytes into a row of the call's own, as a step of a region that draws its order. -/
namespace Go.Proofs.YtebbdifhiihfkaaGreatDoor
set_option linter.all false
open Go.RowKit
theorem zo7(bs:List UInt8)(p:Nat)(l:List UInt8):cb (splice bs p l)=splice (cb bs) p (cb l):=by
 simp[cb,splice,List.map_take,List.map_drop]
theorem zdx{bs:List UInt8}{p:Nat}{l:List UInt8}(h:p+l.length<=bs.length):(splice bs p l).length=bs.length:=length_splice _ _ _ h
theorem zjh(w:World)(g:Nat)(cs:Array Value):w.grownBy (w.setRow g cs) (some g) :=
 ⟨rfl,rfl,rfl,by simp[World.setRow],fun k _ o=>setRow_other w g k cs (fun e=>o (by rw[e]))⟩
theorem zeq(w:World)(row:Option Nat):w.grownBy w row:=⟨rfl,rfl,rfl,nlr _,fun _ _ _=>rfl⟩
theorem zk6{w w':World}{row:Option Nat}(h:w.drew.grownBy w' row):w.grownBy w' row:=⟨h.os,h.tape,h.output,h.size,h.block⟩
theorem zhm{w w':World}(h:Below w.heap.size w w')(row:Option Nat):w.grownBy w' row:=⟨h.os,h.tape,h.output,h.size,fun i hi _=>h.block i hi⟩
theorem zd0{w w' o:World}{row:Option Nat}(h:w.grownBy w' row)(k:w'.grownBy o row):w.grownBy o row:=⟨k.os.trans h.os,k.tape.trans h.tape,k.output.trans h.output,nlt h.size k.size,fun i hi g=>(k.block i (Nat.lt_of_lt_of_le hi h.size) g).trans (h.block i hi g)⟩
/-- copy(d, s) into a row of the call's own, as a step of a region that draws its order. -/
theorem zji{ops:Array Oper}{o:Oper}{a:Act}{w:World}{K:Act->World->Prop}{Q:Exit->Act->World->Prop}{E:Prop}(G:o.guard=none)(d s:Operand)
  (S:o.op=.call { callee:=.builtin .copy,args:=#[d,s],argTypes:=#[22,22] })
  (base g n c:Nat) (bs:List UInt8) (C:ownB w base (.slice (some ⟨g,0,none⟩) n c) bs) (hn:n=bs.length) (p dl M:Nat) (T:a.eval d=.slice (some ⟨g,p,none⟩) dl M)
  (B m I:Nat) (A:Option Addr) (q:List UInt8) (hs:a.eval s=.slice A m I) (hr:RdB w B A m q) (F:m<=dl) (N:p+m<=n)
  (h:∀w',ownB w' base (.slice (some ⟨g,0,none⟩) n c) (splice bs p q)->w.grownBy w' (some g)->K (a.put o.dst (.int .i64 (m:Int))) w') :
  if Region.wanted o (yielded ops a.tmps)=true then Oper.wp Tryz.prog o a w K Q else E:=by
 have hw:Region.wanted o (yielded ops a.tmps)=true:=by simp[Region.wanted,G]
 rw[if_pos hw];have hm:=hr.len;subst hn;rcases C.2 with⟨hv,h0⟩ | ⟨g',W,t,hv,L,z,h1,h2,O,h4⟩
 ·cases hv
 ·injection hv with D e2 X
  injection D with D;injection D with D;subst D X;rw[Nat.mul_one] at O h4;have Z:t.toList.length=t.size:=by simp
  have r:(cb q).length=m:=by rw[zby,hm]
  have H:(cb q).length=Nat.min m dl:=by rw[r];exact(Nat.min_eq_left F).symm
  have fin:∀w',w'.heap[g]?=some (.cells (splice t.toList p (cb q)).toArray 5 (0,0))->w.grownBy w' (some g)->ownB w' base (.slice (some ⟨g,0,none⟩) bs.length c) (splice bs p q):=by
   intro w' J _;refine⟨by rw[zby,zdx (by omega)];omega,.inr ⟨g,c,(splice t.toList p (cb q)).toArray,?_,L,J,by rw[zdx (by omega)];exact h1,h2,?_,?_⟩⟩
   ·rw[zdx (by omega)]
   ·rw[List.size_toArray,length_splice _ _ _ (by rw[r];omega)]
    simpa using O
   ·rw[Nat.mul_one,zdx (by omega),zo7,<-h4]
    unfold splice;rw[List.take_append,llt,r,Nat.min_eq_left (by omega),List.take_append,r,List.take_take,List.take_take,List.drop_take];rw[List.take_of_length_le (l:=cb q) (by rw[r];omega)];rw[Nat.min_eq_right (by omega),Nat.min_eq_left (by omega)]
    congr 3
    omega
  have R:w.heap[g]?=some (.cells t.toList.toArray 5 (0,0)):=by simpa using z
  by_cases h0:m=0
  ·have Y:cb q=[]:=List.eq_nil_of_length_eq_zero (by rw[r,h0])
   have u:=run_copy_none (P:=Tryz.prog) w 22 22 o.type 5 (some ⟨g,p,none⟩) A dl M m I Tryz.underlying22 (by kernel_rfl) (by simp[h0]);unfold Oper.wp;simp[execOp,S,resolve,invoke,builtin,T,hs,u,Result.andThen];have:=h w (fin w (by rw[Y];simpa [splice] using z) (zeq _ _)) (zeq _ _);rw[h0] at this;exact this
  ·obtain⟨b,U,e,_,hc⟩:=hr.2 (by omega)
   subst e;have u:=run_copy_row (P:=Tryz.prog) w 22 22 o.type 5 g p dl M ⟨b,U,none⟩ m I t 5 (cb q) Tryz.underlying22 (by kernel_rfl) z H (fun j v V=>by rw[zaS];exact hc j v V) (by rw[r];omega) (zgF _);unfold Oper.wp;simp[execOp,S,resolve,invoke,builtin,T,hs,u,Result.andThen];have h9:(w.setRow g (splice t.toList p (cb q)).toArray).heap[g]?=some (.cells (splice t.toList p (cb q)).toArray 5 (0,0)):=setRow_heap w g _ _ _ _ z;have:=h _ (fin _ h9 (zjh _ _ _)) (zjh _ _ _);have e:(Value.int .i64 (m:Int))=goInt (cb q).length:=(by rw[r];rfl);rw[e] at this;exact this
end Go.Proofs.YtebbdifhiihfkaaGreatDoor

/- png: the pixels of a pass laid where they belong, plainly. -/
namespace Go.Proofs.YtebbdifhiihfkaaGreatDoor
set_option linter.all false
open Go.RowKit
def spA(W K x y dx dy pw m:Nat):Nat:=((y+m / pw*dy)*W+x+m % pw*dx)*K
def spF(W K x y dx dy pw:Nat)(src px:List UInt8):Nat->List UInt8
 |0=>px
 |m+1=>splice (spF W K x y dx dy pw src px m) (spA W K x y dx dy pw m) ((src.drop (m*K)).take K)
theorem zmp{W H K x y o q g t m:Nat}(hx:∀i,i<g->x+i*o<W)(hy:∀j,j<t->y+j*q<H)(s:m<g*t):spA W K x y o q g m+K<=H*(W*K):=by
 have hp:0<g:=by
  rcases Nat.eq_zero_or_pos g with h|h
  ·rw[h,Nat.zero_mul] at s;omega
  ·exact h
 have h1:=hx (m % g) (Nat.mod_lt _ hp);have h2:=hy (m / g) (Nat.div_lt_of_lt_mul s);unfold spA;generalize m % g*o=a at *;generalize y+m / g*q=b at *;have u:b*W+x+a+1<=(b+1)*W:=by rw[Nat.succ_mul];omega
 have h4:(b+1)*W<=H*W:=Nat.mul_le_mul_right _ h2;have r:=Nat.mul_le_mul_right K (nlt u h4);rw[Nat.succ_mul,Nat.mul_assoc] at r;exact r
theorem zjS{W H K x y s t o q:Nat}{g r:List UInt8}(hx:∀i,i<o->x+i*s<W)(hy:∀j,j<q->y+j*t<H)(hp:r.length=H*(W*K))(hs:g.length=o*q*K):∀m,m<=o*q->(spF W K x y s t o g r m).length=H*(W*K)
 |0,_=>hp
 |m+1,hm=>by
  have h1:=zjS hx hy hp hs m (by omega);have h2:=zmp (K:=K) hx hy hm;have u:(m+1)*K<=g.length:=by rw[hs];exact Nat.mul_le_mul_right _ hm
  rw[Nat.succ_mul] at u;rw[spF,zdx,h1];rw[h1,llt,lld,Nat.min_eq_left (by omega)];exact h2
/-- A picture put together of parts: u what each part reads as, sp how it is laid. -/
def zdL(u:Nat->Sh×List UInt8×Int)(sp:Nat->List UInt8->List UInt8->List UInt8)(z:List UInt8):Nat->Option (List UInt8)
 |0=>some z
 |k+1=>match zdL u sp z k with
  |none=>none
  |some px=>if(u k).2.2=0 then some (sp k (u k).2.1 px) else none
theorem zkK{u:Nat->Sh×List UInt8×Int}{sp:Nat->List UInt8->List UInt8->List UInt8}{z:List UInt8}{k:Nat}(h:zdL u sp z k=none):∀n,k<=n->zdL u sp z n=none:=fun n g=>by
 induction n with
 |zero =>
  obtain rfl:k=0:=by omega
  exact h
 |succ n ih =>
  by_cases e:k=n+1
  ·rw[<-e];exact h
  ·rw[zdL,ih (by omega)]
theorem zkL{u:Nat->Sh×List UInt8×Int}{sp:Nat->List UInt8->List UInt8->List UInt8}{z g:List UInt8}{k:Nat}(h:zdL u sp z k=some g)(he:(u k).2.2=0):zdL u sp z (k+1)=some (sp k (u k).2.1 g):=by
 rw[zdL,h];show(if _ then _ else _)=_;rw[if_pos he]
theorem zkM{u:Nat->Sh×List UInt8×Int}{sp:Nat->List UInt8->List UInt8->List UInt8}{z g:List UInt8}{k:Nat}(h:zdL u sp z k=some g)(he:¬(u k).2.2=0):zdL u sp z (k+1)=none:=by
 rw[zdL,h];show(if _ then _ else _)=_;rw[if_neg he]
end Go.Proofs.YtebbdifhiihfkaaGreatDoor

