/- XPix1 XPix2 XRowV -/
import Derived.Test.YtebbdifhiihfkaaGreatDoorMm03
import Derived.Deep.RegionHeld3
namespace Go.Proofs.YtebbdifhiihfkaaGreatDoor
set_option linter.all false
set_option maxHeartbeats 1600000
open Go.RowKit
theorem zfp{a b:Bool}(h:a=b):Ending.returned (.bool a)=.returned (.bool b):=by rw[h]
theorem zf9{k:IntKind}{a b:Int}(h:a=b):Ending.returned (.int k a)=.returned (.int k b):=by rw[h]
/-- A shape. -/
structure Sh where
 w:Int
 h:Int
 c:Int
 d:Int
deriving DecidableEq
def Sh.v(s:Sh):Value:=.agg #[.int .i64 s.w,.int .i64 s.h,.int .i64 s.c,.int .i64 s.d]
/-- May a shape's numbers be? -/
def Sh.nums(s:Sh):Bool:=decide (1<=s.w) && decide (s.w<=256) && (decide (1<=s.h) && decide (s.h<=256)) && (decide (1<=s.c) && decide (s.c<=4)) && (decide (s.d=8) ||decide (s.d=16))
theorem Sh.nums_iff(s:Sh):s.nums=true↔(1<=s.w/\s.w<=256)/\(1<=s.h/\s.h<=256)/\(1<=s.c/\s.c<=4)/\(s.d=8\/s.d=16):=by
 simp[Sh.nums,and_assoc]
def Sh.row(s:Sh):Int:=if s.nums then s.w*s.c*s.d / 8 else 0
def Sh.size(s:Sh):Int:=s.row*(if s.nums then s.h else 0)
def Sh.may(s:Sh):Bool:=s.nums && decide (s.size<=16384)
/-- Products that stay small. -/
theorem Sh.bounds(s:Sh)(h:s.nums=true):(1<=s.w*s.c/\s.w*s.c<=1024)/\(8<=s.w*s.c*s.d/\s.w*s.c*s.d<=16384)/\(1<=s.row/\s.row<=2048)/\(1<=s.row*s.h/\s.row*s.h<=524288):=by
 have q:=(Sh.nums_iff s).1 h;obtain⟨⟨w1,w2⟩,⟨h1,h2⟩,⟨c1,c2⟩,t⟩:=q;have z:1*1<=s.w*s.c:=Int.mul_le_mul w1 c1 (by omega) (by omega);have B:s.w*s.c<=256*4:=Int.mul_le_mul w2 c2 (by omega) (by omega);have b:8<=s.w*s.c*s.d/\s.w*s.c*s.d<=16384:=by rcases t with e|e<;>rw[e]<;>omega
 have r:s.row=s.w*s.c*s.d / 8:=if_pos h;have g:1<=s.row:=by omega
 have o:s.row<=2048:=by omega
 have u:1*1<=s.row*s.h:=Int.mul_le_mul g h1 (by omega) (by omega);have A:s.row*s.h<=2048*256:=Int.mul_le_mul o h2 (by omega) (by omega);exact⟨⟨by omega,by omega⟩,b,⟨g,o⟩,by omega,by omega⟩
theorem ztC(x:Int)(h0:-4611686018427387904<=x)(h1:x<=4611686018427387904):IntKind.i64.wrap x=x:=by
 simp[IntKind.wrap,IntKind.bits,IntKind.signed];omega
theorem zes{w w1:World}{a b c d:Value}{t:TypeId}{fr:Nat×Nat}{B:Nat}(g:w.heap.size<B)(h:Below B (w.alloc (.cells #[a,b,c,d] t fr)) w1):
  w1.cell? ⟨w.heap.size,0,none⟩=some a/\w1.cell? ⟨w.heap.size,1,none⟩=some b/\w1.cell? ⟨w.heap.size,2,none⟩=some c/\w1.cell? ⟨w.heap.size,3,none⟩=some d:=by
 refine⟨zan h g ?_,zan h g ?_,zan h g ?_,zan h g ?_⟩<;>(rw[cell_of_row (w.alloc (.cells #[a,b,c,d] t fr)) w.heap.size _ #[a,b,c,d] t fr (heap_alloc_new w _)];rfl)
theorem zhA{w w1:World}{a b c d:Value}{t:TypeId}{fr:Nat×Nat}{B:Nat}(g:w.heap.size<B)(h:Below B (w.alloc (.cells #[a,b,c,d] t fr)).drew w1):
  w1.cell? ⟨w.heap.size,0,none⟩=some a/\w1.cell? ⟨w.heap.size,1,none⟩=some b/\w1.cell? ⟨w.heap.size,2,none⟩=some c/\w1.cell? ⟨w.heap.size,3,none⟩=some d :=
 zes (w:=w.drew) g h
theorem zjt{w w1:World}{o:Obj}(h:Below (w.alloc o).drew.heap.size (w.alloc o).drew w1):Below w.heap.size w w1:=zeg ((Below.refl w.heap.size w).alloc (nlr _) _).drew h (nlr _)
theorem bxd{w w1:World}{o:Obj}(h:Below (w.alloc o).heap.size (w.alloc o) w1):Below w.heap.size w w1:=zeg ((Below.refl w.heap.size w).alloc (nlr _) _) h (nlr _)
theorem zdv(s:Sh)(w:World):Calls Tryz.prog 70 #[s.v] w fun e w'=>e=.returned (.bool s.nums)/\Below w.heap.size w w':=by
 have g:=Below.refl w.heap.size w;obtain⟨W,H,C,D⟩:=s;show Calls _ _ #[.agg #[.int .i64 W,.int .i64 H,.int .i64 C,.int .i64 D]] w _;go_enter Tryz.func70,Tryz.ntmps70;go_wp2
 all_goals
  go_ret;refine⟨zfp ?_,g.alloc (nlr _) _⟩;rw[Bool.eq_iff_iff,Sh.nums_iff];simp;omega
theorem zga(s:Sh)(w:World):Calls Tryz.prog 89 #[s.v] w fun e w'=>e=.returned (.bool s.nums)/\Below w.heap.size w w':=by
 have g:=Below.refl w.heap.size w;obtain⟨W,H,C,D⟩:=s;show Calls _ _ #[.agg #[.int .i64 W,.int .i64 H,.int .i64 C,.int .i64 D]] w _;go_enter Tryz.func89,Tryz.ntmps89;go_wp2
 all_goals
  go_ret;refine⟨zfp ?_,g.alloc (nlr _) _⟩;rw[Bool.eq_iff_iff,Sh.nums_iff];simp;omega
theorem zhB(s:Sh)(w:World):Calls Tryz.prog 71 #[s.v] w fun e w'=>e=.returned (.int .i64 s.row)/\Below w.heap.size w w':=by
 have q:=Below.refl w.heap.size w;cases hn:s.nums with
 |true =>
  have u:=Sh.bounds s hn;have o:=yo (show s.row=s.w*s.c*s.d / 8 from if_pos hn);have t:=yo hn;have r:=yo (fun w=>zdv s w);rw[o.o];rw[o.o] at u;obtain⟨⟨B,b2⟩,⟨A,z⟩,-,-⟩:=u;clear hn o;obtain⟨W,H,C,D⟩:=s;dsimp only at B b2 A z ⊢;show Calls _ _ #[.agg #[.int .i64 W,.int .i64 H,.int .i64 C,.int .i64 D]] w _;go_enter Tryz.func71,Tryz.ntmps71;go_wp2_with (go_at_call 70;refine(r.o _).mono ?_;rintro e w1 ⟨rfl,g⟩;rw[t.o];obtain⟨E,c1,c2,c3⟩:=zes (by simp) g;replace q:=bxd g;clear g);go_ret;exact⟨zf9 (by first|rfl|omega),q⟩
 |false =>
  have o:=yo (show s.row=0 by unfold Sh.row;rw[hn];rfl);have t:=yo hn;have r:=yo (fun w=>zdv s w);rw[o.o];clear hn o;obtain⟨W,H,C,D⟩:=s;show Calls _ _ #[.agg #[.int .i64 W,.int .i64 H,.int .i64 C,.int .i64 D]] w _;go_enter Tryz.func71,Tryz.ntmps71;go_wp2_with (go_at_call 70;refine(r.o _).mono ?_;rintro e w1 ⟨rfl,g⟩;rw[t.o];replace q:=bxd g;clear g);go_ret;exact⟨rfl,q⟩
theorem zgb(s:Sh)(w:World):Calls Tryz.prog 68 #[s.v] w fun e w'=>e=.returned (.int .i64 s.row)/\Below w.heap.size w w':=by
 have q:=Below.refl w.heap.size w;cases hn:s.nums with
 |true =>
  have u:=Sh.bounds s hn;have o:=yo (show s.row=s.w*s.c*s.d / 8 from if_pos hn);have t:=yo hn;have r:=yo (fun w=>zga s w);rw[o.o];rw[o.o] at u;obtain⟨⟨B,b2⟩,⟨A,z⟩,-,-⟩:=u;clear hn o;obtain⟨W,H,C,D⟩:=s;dsimp only at B b2 A z ⊢;show Calls _ _ #[.agg #[.int .i64 W,.int .i64 H,.int .i64 C,.int .i64 D]] w _;go_enter Tryz.func68,Tryz.ntmps68;go_wp2_with (go_at_call 89;refine(r.o _).mono ?_;rintro e w1 ⟨rfl,g⟩;rw[t.o];obtain⟨E,c1,c2,c3⟩:=zes (by simp) g;replace q:=bxd g;clear g);go_ret;exact⟨zf9 (by first|rfl|omega),q⟩
 |false =>
  have o:=yo (show s.row=0 by unfold Sh.row;rw[hn];rfl);have t:=yo hn;have r:=yo (fun w=>zga s w);rw[o.o];clear hn o;obtain⟨W,H,C,D⟩:=s;show Calls _ _ #[.agg #[.int .i64 W,.int .i64 H,.int .i64 C,.int .i64 D]] w _;go_enter Tryz.func68,Tryz.ntmps68;go_wp2_with (go_at_call 89;refine(r.o _).mono ?_;rintro e w1 ⟨rfl,g⟩;rw[t.o];replace q:=bxd g;clear g);go_ret;exact⟨rfl,q⟩
theorem Sh.size_ok{s:Sh}(h:s.nums=true):s.size=s.row*s.h:=by unfold Sh.size;rw[h];rfl
theorem Sh.size_no{s:Sh}(h:s.nums=false):s.size=0:=by unfold Sh.size;rw[h];simp
theorem zd4(s:Sh)(w:World):Calls Tryz.prog 42 #[s.v] w fun e w'=>e=.returned (.int .i64 s.size)/\Below w.heap.size w w':=by
 have t:=Below.refl w.heap.size w;cases hn:s.nums with
 |true =>
  have J:=Sh.bounds s hn;have z:=yo hn;have u:=yo (fun w=>zdv s w);have I:=yo (fun w=>zhB s w);rw[Sh.size_ok hn];obtain⟨-,-,⟨F,b2⟩,⟨B,A⟩⟩:=J;clear hn;obtain⟨L,q⟩:∃r,r=s.row:=⟨_,rfl⟩;rw[<-q] at F b2 B A ⊢;have G:=yo q;clear q;obtain⟨W,H,C,D⟩:=s;dsimp only at F b2 B A ⊢;show Calls _ _ #[.agg #[.int .i64 W,.int .i64 H,.int .i64 C,.int .i64 D]] w _;go_enter Tryz.func42,Tryz.ntmps42;go_wp2_with (go_at_call 70;refine(u.o _).mono ?_;rintro e w1 ⟨rfl,g⟩;rw[z.o];obtain⟨E,c1,c2,c3⟩:=zes (by simp) g;replace t:=bxd g;have hz:w.heap.size<w1.heap.size:=(by have:=g.size;simp at this;omega);clear g)
  go_region_with (first
   |(go_at_call 71;go_must (refine(I.o _).mono ?_;rintro e w2 ⟨rfl,o⟩;rw[<-G.o];replace E:=zan o hz E;replace c1:=zan o hz c1;replace c2:=zan o hz c2;replace c3:=zan o hz c3;replace t:=zeg t.drew o (nlr _);clear o)))
  all_goals
   go_wp2;go_ret;exact⟨zf9 (ztC _ (by omega) (by omega)),t⟩
 |false =>
  have z:=yo hn;have u:=yo (fun w=>zdv s w);rw[Sh.size_no hn];clear hn;obtain⟨W,H,C,D⟩:=s;show Calls _ _ #[.agg #[.int .i64 W,.int .i64 H,.int .i64 C,.int .i64 D]] w _;go_enter Tryz.func42,Tryz.ntmps42;go_wp2_with (go_at_call 70;refine(u.o _).mono ?_;rintro e w1 ⟨rfl,g⟩;rw[z.o];replace t:=bxd g;clear g);go_ret;exact⟨rfl,t⟩
end Go.Proofs.YtebbdifhiihfkaaGreatDoor

/- pix: pictures: which may be; here and in the reference. -/
namespace Go.Proofs.YtebbdifhiihfkaaGreatDoor
set_option linter.all false
set_option maxHeartbeats 800000
open Go.RowKit
theorem zj5(s:Sh)(w:World):Calls Tryz.prog 65 #[s.v] w fun e w'=>e=.returned (.int .i64 s.size)/\Below w.heap.size w w':=by
 have o:=Below.refl w.heap.size w;have A:=yo (fun w=>zgb s w);cases hn:s.nums with
 |true =>
  have L:=Sh.bounds s hn;have hq:=(Sh.nums_iff s).1 hn;rw[Sh.size_ok hn];obtain⟨-,-,⟨I,b2⟩,⟨E,B⟩⟩:=L;obtain⟨-,⟨M,N⟩,-,-⟩:=hq;clear hn;obtain⟨O,t⟩:∃r,r=s.row:=⟨_,rfl⟩;rw[<-t] at I b2 E B ⊢;have z:=yo t;clear t;obtain⟨W,H,C,D⟩:=s;dsimp only at I b2 E B M N ⊢;show Calls _ _ #[.agg #[.int .i64 W,.int .i64 H,.int .i64 C,.int .i64 D]] w _;go_enter Tryz.func65,Tryz.ntmps65;go_wp2
  go_region_held3 (fun w'=>w'.cell? ⟨w.heap.size,0,none⟩=some (.int .i64 W)/\w'.cell? ⟨w.heap.size,1,none⟩=some (.int .i64 H)/\w'.cell? ⟨w.heap.size,2,none⟩=some (.int .i64 C)/\w'.cell? ⟨w.heap.size,3,none⟩=some (.int .i64 D))
   (first|go_keep|exact⟨u,c1,c2,c3⟩)
   (first
   |(go_at_call 68;go_must (refine(A.o _).mono ?_;rintro e w1 ⟨rfl,g⟩;rw[<-z.o];obtain⟨u,c1,c2,c3⟩:=zhA (by simp) g;replace o:=zjt g;clear g)))
  all_goals
   go_wp2;go_ret;exact⟨zf9 (ztC _ (by omega) (by omega)),o⟩
 |false =>
  have z:=yo (show s.row=0 by unfold Sh.row;rw[hn];rfl);rw[Sh.size_no hn];clear hn;obtain⟨W,H,C,D⟩:=s;show Calls _ _ #[.agg #[.int .i64 W,.int .i64 H,.int .i64 C,.int .i64 D]] w _;rcases(by omega:H<0\/(0<=H/\H<=256)\/(0<=H/\256<H)) with q | ⟨q,J⟩ | ⟨q,J⟩
  ·have F:decide (H<0)=true:=by simp;omega
   have G:¬(0<=H):=(by omega);go_enter Tryz.func65,Tryz.ntmps65;go_wp2
   go_region_held3 (fun w'=>w'.cell? ⟨w.heap.size,0,none⟩=some (.int .i64 W)/\w'.cell? ⟨w.heap.size,1,none⟩=some (.int .i64 H)/\w'.cell? ⟨w.heap.size,2,none⟩=some (.int .i64 C)/\w'.cell? ⟨w.heap.size,3,none⟩=some (.int .i64 D))
    (first|go_keep|exact⟨u,c1,c2,c3⟩)
    (first
    |(go_at_call 68;go_must (refine(A.o _).mono ?_;rintro e w1 ⟨rfl,g⟩;rw[z.o];obtain⟨u,c1,c2,c3⟩:=zhA (by simp) g;replace o:=zjt g;clear g)))
   all_goals
    go_wp2;go_ret;exact⟨rfl,o⟩
  ·have F:decide (H<0)=false:=by simp;omega
   have G:¬(256<H):=(by omega);go_enter Tryz.func65,Tryz.ntmps65;go_wp2
   go_region_held3 (fun w'=>w'.cell? ⟨w.heap.size,0,none⟩=some (.int .i64 W)/\w'.cell? ⟨w.heap.size,1,none⟩=some (.int .i64 H)/\w'.cell? ⟨w.heap.size,2,none⟩=some (.int .i64 C)/\w'.cell? ⟨w.heap.size,3,none⟩=some (.int .i64 D))
    (first|go_keep|exact⟨u,c1,c2,c3⟩)
    (first
    |(go_at_call 68;go_must (refine(A.o _).mono ?_;rintro e w1 ⟨rfl,g⟩;rw[z.o];obtain⟨u,c1,c2,c3⟩:=zhA (by simp) g;replace o:=zjt g;clear g)))
   all_goals
    go_wp2;go_ret;exact⟨rfl,o⟩
  ·have F:decide (H<0)=false:=by simp;omega
   have G:¬(H<=256):=(by omega);go_enter Tryz.func65,Tryz.ntmps65;go_wp2
   go_region_held3 (fun w'=>w'.cell? ⟨w.heap.size,0,none⟩=some (.int .i64 W)/\w'.cell? ⟨w.heap.size,1,none⟩=some (.int .i64 H)/\w'.cell? ⟨w.heap.size,2,none⟩=some (.int .i64 C)/\w'.cell? ⟨w.heap.size,3,none⟩=some (.int .i64 D))
    (first|go_keep|exact⟨u,c1,c2,c3⟩)
    (first
    |(go_at_call 68;go_must (refine(A.o _).mono ?_;rintro e w1 ⟨rfl,g⟩;rw[z.o];obtain⟨u,c1,c2,c3⟩:=zhA (by simp) g;replace o:=zjt g;clear g)))
   all_goals
    go_wp2;go_ret;exact⟨rfl,o⟩
theorem zgc(s:Sh)(w:World):Calls Tryz.prog 41 #[s.v] w fun e w'=>e=.returned (.bool s.may)/\Below w.heap.size w w':=by
 have q:=Below.refl w.heap.size w;have A:=yo (fun w=>zdv s w);have E:=yo (fun w=>zd4 s w);cases hn:s.nums with
 |true =>
  have u:=yo hn;obtain⟨F,hz⟩:∃r,r=s.size:=⟨_,rfl⟩;have B:=yo hz;have t:=yo (show s.may=decide (F<=16384) by unfold Sh.may;rw[hn,hz];rfl);rw[t.o];clear hn hz t;obtain⟨W,H,C,D⟩:=s;show Calls _ _ #[.agg #[.int .i64 W,.int .i64 H,.int .i64 C,.int .i64 D]] w _;go_enter Tryz.func41,Tryz.ntmps41;go_wp2_with (first
   |(go_at_call 70;go_must (refine(A.o _).mono ?_;rintro e w1 ⟨rfl,g⟩;rw[u.o];obtain⟨z,c1,c2,c3⟩:=zes (by simp) g;replace q:=bxd g;have hz:w.heap.size<w1.heap.size:=(by have:=g.size;simp at this;omega);clear g))
   |(go_at_call 42;go_must (refine(E.o _).mono ?_;rintro e w2 ⟨rfl,o⟩;rw[<-B.o];replace z:=zan o hz z;replace c1:=zan o hz c1;replace c2:=zan o hz c2;replace c3:=zan o hz c3;first|replace q:=zeg q o (nlr _)|replace q:=zeg q.drew o (nlr _);replace hz:=Nat.lt_of_lt_of_le hz o.size;clear o)))
  go_ret;exact⟨rfl,q⟩
 |false =>
  have u:=yo hn;have t:=yo (show s.may=false by unfold Sh.may;rw[hn];rfl);rw[t.o];clear hn t;obtain⟨W,H,C,D⟩:=s;show Calls _ _ #[.agg #[.int .i64 W,.int .i64 H,.int .i64 C,.int .i64 D]] w _;go_enter Tryz.func41,Tryz.ntmps41;go_wp2_with (go_at_call 70;go_must (refine(A.o _).mono ?_;rintro e w1 ⟨rfl,g⟩;rw[u.o];obtain⟨z,c1,c2,c3⟩:=zes (by simp) g;replace q:=bxd g;have hz:w.heap.size<w1.heap.size:=(by have:=g.size;simp at this;omega);clear g));go_ret;exact⟨rfl,q⟩
theorem zgM(s:Sh)(w:World):Calls Tryz.prog 61 #[s.v] w fun e w'=>e=.returned (.bool s.may)/\Below w.heap.size w w':=by
 have q:=Below.refl w.heap.size w;have A:=yo (fun w=>zga s w);have E:=yo (fun w=>zj5 s w);cases hn:s.nums with
 |true =>
  have u:=yo hn;obtain⟨F,hz⟩:∃r,r=s.size:=⟨_,rfl⟩;have B:=yo hz;have t:=yo (show s.may=decide (F<=16384) by unfold Sh.may;rw[hn,hz];rfl);rw[t.o];clear hn hz t;obtain⟨W,H,C,D⟩:=s;show Calls _ _ #[.agg #[.int .i64 W,.int .i64 H,.int .i64 C,.int .i64 D]] w _;go_enter Tryz.func61,Tryz.ntmps61;go_wp2_with (first
   |(go_at_call 89;go_must (refine(A.o _).mono ?_;rintro e w1 ⟨rfl,g⟩;rw[u.o];obtain⟨z,c1,c2,c3⟩:=zes (by simp) g;replace q:=bxd g;have hz:w.heap.size<w1.heap.size:=(by have:=g.size;simp at this;omega);clear g))
   |(go_at_call 65;go_must (refine(E.o _).mono ?_;rintro e w2 ⟨rfl,o⟩;rw[<-B.o];replace z:=zan o hz z;replace c1:=zan o hz c1;replace c2:=zan o hz c2;replace c3:=zan o hz c3;first|replace q:=zeg q o (nlr _)|replace q:=zeg q.drew o (nlr _);replace hz:=Nat.lt_of_lt_of_le hz o.size;clear o)))
  go_ret;exact⟨rfl,q⟩
 |false =>
  have u:=yo hn;have t:=yo (show s.may=false by unfold Sh.may;rw[hn];rfl);rw[t.o];clear hn t;obtain⟨W,H,C,D⟩:=s;show Calls _ _ #[.agg #[.int .i64 W,.int .i64 H,.int .i64 C,.int .i64 D]] w _;go_enter Tryz.func61,Tryz.ntmps61;go_wp2_with (go_at_call 89;go_must (refine(A.o _).mono ?_;rintro e w1 ⟨rfl,g⟩;rw[u.o];obtain⟨z,c1,c2,c3⟩:=zes (by simp) g;replace q:=bxd g;have hz:w.heap.size<w1.heap.size:=(by have:=g.size;simp at this;omega);clear g));go_ret;exact⟨rfl,q⟩
/-- A picture. -/
def Sh.r(s:Sh)(A:Option Addr)(n c:Nat):Value:=.agg #[.int .i64 s.w,.int .i64 s.h,.int .i64 s.c,.int .i64 s.d,.slice A n c]
def Sh.mayR(s:Sh)(n:Nat):Bool:=s.may && decide ((n:Int)=s.size)
theorem zlp{w w1:World}{a b c d f:Value}{t:TypeId}{fr:Nat×Nat}{B:Nat}(g:w.heap.size<B)(h:Below B (w.alloc (.cells #[a,b,c,d,f] t fr)) w1):
  w1.cell? ⟨w.heap.size,0,none⟩=some a/\w1.cell? ⟨w.heap.size,1,none⟩=some b/\w1.cell? ⟨w.heap.size,2,none⟩=some c/\w1.cell? ⟨w.heap.size,3,none⟩=some d/\w1.cell? ⟨w.heap.size,4,none⟩=some f:=by
 refine⟨zan h g ?_,zan h g ?_,zan h g ?_,zan h g ?_,zan h g ?_⟩<;>(rw[cell_of_row (w.alloc (.cells #[a,b,c,d,f] t fr)) w.heap.size _ #[a,b,c,d,f] t fr (heap_alloc_new w _)];rfl)
theorem znq{w w1:World}{a b c d f:Value}{t:TypeId}{fr:Nat×Nat}{B:Nat}(g:w.heap.size<B)(h:Below B (w.alloc (.cells #[a,b,c,d,f] t fr)).drew w1):
  w1.cell? ⟨w.heap.size,0,none⟩=some a/\w1.cell? ⟨w.heap.size,1,none⟩=some b/\w1.cell? ⟨w.heap.size,2,none⟩=some c/\w1.cell? ⟨w.heap.size,3,none⟩=some d/\w1.cell? ⟨w.heap.size,4,none⟩=some f :=
 zlp (w:=w.drew) g h
theorem ztO(s:Sh)(A:Option Addr)(n c:Nat)(w:World):Calls Tryz.prog 15 #[s.r A n c] w fun e w'=>e=.returned (.bool (s.mayR n))/\Below w.heap.size w w':=by
 have q:=Below.refl w.heap.size w;have B:=yo (fun w=>zgc s w);have F:=yo (fun w=>zd4 s w);cases hn:s.may with
 |true =>
  have z:=yo hn;obtain⟨G,hz⟩:∃r,r=s.size:=⟨_,rfl⟩;have E:=yo hz;have t:=yo (show s.mayR n=((n:Int)==G) by unfold Sh.mayR;rw[hn,hz];rfl);rw[t.o];clear hn hz t;obtain⟨W,H,C,D⟩:=s;show Calls _ _ #[.agg #[.int .i64 W,.int .i64 H,.int .i64 C,.int .i64 D,.slice A n c]] w _;go_enter Tryz.func15,Tryz.ntmps15;go_wp2
  go_region_held3 (fun w'=>w'.cell? ⟨w.heap.size,0,none⟩=some (.int .i64 W)/\w'.cell? ⟨w.heap.size,1,none⟩=some (.int .i64 H)/\w'.cell? ⟨w.heap.size,2,none⟩=some (.int .i64 C)/\w'.cell? ⟨w.heap.size,3,none⟩=some (.int .i64 D)/\w'.cell? ⟨w.heap.size,4,none⟩=some (.slice A n c))
   (first|go_keep|exact⟨u,c1,c2,c3,c4⟩)
   (first
   |(go_at_call 41;go_must (refine(B.o _).mono ?_;rintro e w1 ⟨rfl,o⟩;rw[z.o];obtain⟨u,c1,c2,c3,c4⟩:=znq (by simp) o;replace q:=zjt o;have hz:w.heap.size<w1.heap.size:=(by have:=o.size;simp at this;omega);clear o))
   |(go_at_call 42;go_must (refine(F.o _).mono ?_;rintro e w2 ⟨rfl,g⟩;rw[<-E.o];replace u:=zan g hz u;replace c1:=zan g hz c1;replace c2:=zan g hz c2;replace c3:=zan g hz c3;replace c4:=zan g hz c4;first|replace q:=zeg q g (nlr _)|replace q:=zeg q.drew g (nlr _);replace hz:=Nat.lt_of_lt_of_le hz g.size;clear g)))
  all_goals
   go_wp2;go_ret;exact⟨rfl,q⟩
 |false =>
  have z:=yo hn;have t:=yo (show s.mayR n=false by unfold Sh.mayR;rw[hn];rfl);rw[t.o];clear hn t;obtain⟨W,H,C,D⟩:=s;show Calls _ _ #[.agg #[.int .i64 W,.int .i64 H,.int .i64 C,.int .i64 D,.slice A n c]] w _;go_enter Tryz.func15,Tryz.ntmps15;go_wp2
  first
   |(go_region_with (first|(go_at_call 41;go_must (refine(B.o _).mono ?_;rintro e w1 ⟨rfl,o⟩;rw[z.o];obtain⟨u,c1,c2,c3,c4⟩:=znq (by simp) o;replace q:=zjt o;have hz:w.heap.size<w1.heap.size:=(by have:=o.size;simp at this;omega);clear o))))
   |fail
  all_goals
   go_wp2;go_ret;exact⟨rfl,q⟩
end Go.Proofs.YtebbdifhiihfkaaGreatDoor

/- Rows of api.Shape: 4 cells an element. -/
namespace Go.Proofs.YtebbdifhiihfkaaGreatDoor
set_option linter.all false
set_option maxRecDepth 100000
open Go.RowKit
def eV(x:Sh):List Value:=[Value.int .i64 x.w,Value.int .i64 x.h,Value.int .i64 x.c,Value.int .i64 x.d]
theorem zjd(x:Sh):(eV x).length=4:=rfl
/-- The cells of a list. -/
def cV(l:List Sh):List Value:=l.flatMap eV
theorem zfE:∀l:List Sh,(cV l).length=l.length*4
 | []=>rfl
 |x :: l=>by
  have:=zfE l;unfold cV at this ⊢;rw[List.flatMap_cons,lla,this,zjd,List.length_cons];omega
theorem zrt(a b:List Sh):cV (a++b)=cV a++cV b:=by simp[cV]
theorem zru(x:Sh):cV [x]=eV x:=by simp[cV]
theorem zhl:∀(l:List Sh) (k j:Nat) (g:k<l.length),j<4->(cV l)[k*4+j]?=(eV l[k])[j]?
 |x :: l,0,j,_,hj=>by
  unfold cV;rw[List.flatMap_cons,List.getElem?_append_left (by rw[zjd];omega)];simp
 |x :: l,i+1,j,hi,hj=>by
  have:=zhl l i j (by simpa using hi) hj;unfold cV at this ⊢;rw[List.flatMap_cons,List.getElem?_append_right (by rw[zjd];omega),zjd,List.getElem_cons_succ,<-this]
  congr 1
  omega
theorem zvs(l:List Sh):∀u∈cV l,u.oneCell'=true:=by
 intro u g;simp only[cV,List.mem_flatMap] at g;obtain⟨x,_,hx⟩:=g;simp only[eV,List.mem_cons,List.not_mem_nil,or_false] at hx;rcases hx with rfl|rfl|rfl|rfl<;>rfl
theorem Tryz.info_V:(Tryz.prog.info? 37).map (fun i=>(i.zero,i.size,i.bytes))=some (some (.agg #[.int .i64 0,.int .i64 0,.int .i64 0,.int .i64 0]),4,32):=by kernel_rfl
def ownV(w:World)(base:Nat)(v:Value)(l:List Sh):Prop:=w.ownsRow base 37 4 v l.length (cV l)
def RdV(w:World)(B:Nat)(A:Option Addr)(n:Nat)(l:List Sh):Prop:=Rd w B 4 A n (cV l)
theorem RdV.len{w:World}{B n:Nat}{A:Option Addr}{l:List Sh}(h:RdV w B A n l):l.length=n:=by
 have:=h.1;rw[zfE] at this;omega
theorem RdV.one{w:World}{B n:Nat}{A:Option Addr}{l:List Sh}(h:RdV w B A n l){k:Nat}(s:k<n):
  ∃b o x,A=some ⟨b,o,none⟩/\b<B/\Hid (l[k]?=some x)/\w.cell? ⟨b,o+k*4,none⟩=some (Value.int .i64 x.w)/\w.cell? ⟨b,o+k*4+1,none⟩=some (Value.int .i64 x.h)/\w.cell? ⟨b,o+k*4+2,none⟩=some (Value.int .i64 x.c)/\w.cell? ⟨b,o+k*4+3,none⟩=some (Value.int .i64 x.d):=by
 obtain⟨b,o,e,r,q⟩:=h.2 (by omega);have t:=h.len;have g:k<l.length:=by omega
 refine⟨b,o,l[k],e,r,lge g,?_,?_,?_,?_⟩
 ·exact q (k*4) _ ((zhl l k 0 g (by omega)).trans rfl)
 ·exact q (k*4+1) _ ((zhl l k 1 g (by omega)).trans rfl)
 ·exact q (k*4+2) _ ((zhl l k 2 g (by omega)).trans rfl)
 ·exact q (k*4+3) _ ((zhl l k 3 g (by omega)).trans rfl)
theorem RdV.blw{w w':World}{B n:Nat}{A:Option Addr}{l:List Sh}(h:RdV w B A n l)(g:Below B w w'):RdV w' B A n l:=Rd.below h g
theorem RdV.here{w:World}{B n:Nat}{A:Option Addr}{l:List Sh}(h:RdV w B A n l):RdV w w.heap.size A n l :=
 ⟨h.1,fun q=>by
  obtain⟨b,o,e,s,g⟩:=h.2 q;have r:=h.1;exact⟨b,o,e,block_lt_of_cell (a:=⟨b,o+0,none⟩) (g 0 (cV l)[0] (lge (by omega))),g⟩⟩
theorem RdV.later{w w':World}{n:Nat}{A:Option Addr}{l:List Sh}(h:RdV w w.heap.size A n l)(g:Below w.heap.size w w'):RdV w' w'.heap.size A n l:=RdV.here (RdV.blw h g)
theorem ownV.nil_(w:World)(base:Nat):ownV w base (.slice none 0 0) []:=World.ownsRow_nil _ _ _ _
theorem ownV.later{w w':World}{base:Nat}{v:Value}{l:List Sh}(h:ownV w base v l)(o:Below w.heap.size w w'):ownV w' base v l :=
 Below.ownsRow h o (fun g hg=>(olt h g hg).2)
theorem ownV.alloc{w:World}{base:Nat}{v:Value}{l:List Sh}(h:ownV w base v l)(o:Obj):ownV (w.alloc o) base v l:=World.ownsRow.alloc h o
theorem ownV.form{w:World}{base:Nat}{v:Value}{l:List Sh}(h:ownV w base v l):
  ∃A c,v=.slice A l.length c/\RdV w w.heap.size A l.length l/\l.length<=c/\c<=maxLen:=by
 rcases h.2 with⟨rfl,h0⟩ | ⟨g,q,o,rfl,_,_,h1,h2,_⟩
 ·have:l=[]:=List.eq_nil_of_length_eq_zero h0
  subst this;exact⟨none,0,rfl,Rd.none_,by simp,by simp⟩
 ·exact⟨_,_,rfl,Rd.of_own h,h1,h2⟩
theorem ownV.pos{w:World}{base n c:Nat}{A:Option Addr}{l:List Sh}(h:ownV w base (.slice A n c) l)(t:0<n):n=l.length/\∃g,A=some ⟨g,0,none⟩/\base<=g/\g<w.heap.size:=by
 rcases h.2 with⟨o,_⟩ | ⟨g,r,q,o,s,hg,_⟩
 ·injection o with _ h2;omega
 ·injection o with h1 h2
  exact⟨h2,g,h1,s,(olt h g (by rw[h1];rfl)).2⟩
/-- One element that lies in a block, whole. -/
theorem zjR(w:World)(x:Sh)(t:TypeId)(fr:Nat×Nat):RdV (w.alloc (.cells (eV x).toArray t fr)) (w.heap.size+1) (some ⟨w.heap.size,0,none⟩) 1 [x]:=by
 refine⟨by rw[zfE];rfl,fun _=>⟨_,_,rfl,by omega,fun j u g=>?_⟩⟩;rw[Nat.zero_add];have:=cell_of_row (w.alloc (.cells (eV x).toArray t fr)) w.heap.size j (eV x).toArray t fr (heap_alloc_new w _);rw[this];rw[zru] at g
 simpa using g
theorem zm7(w:World)(base:Nat)(H:TypeId)(v:Value)(l:List Sh)(r:ownV w base v l)(B m c:Nat)(A:Option Addr)(q:List Sh)(hr:RdV w B A m q)
  (T:l.length+m<=1099511627776) (t:base<=w.heap.size) :
  ∃v' w',(Builtin.append_ #[73,73] H #[v,.slice A m c]).run Tryz.prog w=.ok v' w'/\ownV w' base v' (l++q)/\w.grownBy w' v.ownBlock /\
   (v'.ownBlock=v.ownBlock\/v'.ownBlock=some w.heap.size)/\(v'=.slice none 0 0↔v=.slice none 0 0/\m=0):=by
 obtain⟨O,hi,E,F,D⟩:=info_parts Tryz.info_V;have J:=hr.len;subst J;unfold ownV;rw[lla,zrt];rcases A with _|ad
 ·have G:q=[]:=by
   rcases Nat.eq_zero_or_pos q.length with h0|h0
   ·exact List.eq_nil_of_length_eq_zero h0
   ·obtain⟨b,o,h,_⟩:=hr.2 h0
    cases h
  subst G;refine⟨v,w,?_,by simpa [cV,ownV] using r,World.grownBy.refl w _,.inl rfl,by simp⟩;rcases r.2 with⟨rfl,h0⟩ | ⟨g,N,R,rfl,_,_,C,_⟩
  ·simp[Builtin.append_,run_underlying Tryz.underlying73,sizeOf,typeInfo,hi,Builtin.lenOf,Builtin.firstCells]
  ·simp[Builtin.append_,run_underlying Tryz.underlying73,sizeOf,typeInfo,hi,Builtin.lenOf,Builtin.firstCells,C,storeCells]
 ·have s:∀j u,(cV q)[j]?=some u->w.cell? (ad.add j)=some u:=by
   intro j u I;rcases Nat.eq_zero_or_pos q.length with h0|h0
   ·have G:q=[]:=List.eq_nil_of_length_eq_zero h0
    subst G;simp[cV] at I
   ·obtain⟨b,o,h,_,S⟩:=hr.2 h0
    injection h with h;subst h;rw[zaS];exact S j u I
  obtain⟨v',w',z,h2,M,h4,L⟩:=run_append_own_at (P:=Tryz.prog) w base 73 H 37 O _ 4 32 Tryz.underlying73 hi E F D rfl (by omega) v l.length (cV l) r ad q.length c (cV q) (by rw[zfE]) s (zvs _) (by unfold maxLen;omega) (by omega) t;exact⟨v',w',z,h2,M,L,h4⟩
/-- append(v, x...): v the call's own, x whatever. -/
theorem zf1{w:World}{ops:Array Oper}{rest:List Oper}{o:Oper}{a:Act}{Q:Exit->Act->World->Prop}(u:o.guard=none)(s x:Operand)
  (E:o.op=.call { callee:=.builtin .append,args:=#[s,x],argTypes:=#[73,73] })
  (base:Nat) (v:Value) (l:List Sh) (hs:a.eval s=v) (r:ownV w base v l) (B m c:Nat) (A:Option Addr) (q:List Sh) (hx:a.eval x=.slice A m c) (hr:RdV w B A m q)
  (F:l.length+m<=1099511627776) (g:base<=w.heap.size)
  (h:∀v' w',ownV w' base v' (l++q)->w.grownBy w' v.ownBlock->Below base w w'->(v'.ownBlock=v.ownBlock\/v'.ownBlock=some w.heap.size)->wpList Tryz.prog ops Q rest (a.put o.dst v') w') :
  wpList Tryz.prog ops Q (o :: rest) a w:=by
 refine wpList_plain u fun K D=>?_
 obtain⟨v',w',t,h2,z,h4,_⟩:=zm7 w base o.type v l r B m c A q hr F g;unfold Oper.wp execOp;simp only[E,resolve,invoke,builtin,Sem.run_bind,Sem.run_pure,Result.andThen_ok,List.map_toArray,List.map_cons,List.map_nil,hs,hx,t];exact D _ _ (h v' w' h2 z ((Below.refl _ _).grown z g (fun k C=>(olt r k C).1)) h4)
end Go.Proofs.YtebbdifhiihfkaaGreatDoor

