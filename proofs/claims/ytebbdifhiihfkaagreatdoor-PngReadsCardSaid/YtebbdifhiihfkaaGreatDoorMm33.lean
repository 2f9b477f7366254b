/- XPc9 -/
import Derived.Test.YtebbdifhiihfkaaGreatDoorMm32
import Derived.Deep.RegionHeld3
import Derived.Laws.Externs
import Derived.Shelf.Bytes.SlIndexAt
namespace Go.Proofs.YtebbdifhiihfkaaGreatDoor
set_option linter.all false
set_option maxRecDepth 100000
set_option maxHeartbeats 6400000
open Go.RowKit
theorem zrs(c:UInt8):Lib.indexByte [0,4,2,6] c=(chV c:Int)-1:=by
 unfold chV;by_cases h0:c=0
 ·subst h0;rfl
 ·rw[if_neg h0]
  by_cases h4:c=4
  ·subst h4;rfl
  ·rw[if_neg h4]
   by_cases h2:c=2
   ·subst h2;rfl
   ·rw[if_neg h2]
    by_cases h6:c=6
    ·subst h6;rfl
    ·rw[if_neg h6]
     have r:((0:UInt8)==c)=false:=bef (fun e=>h0 e.symm);have o:((4:UInt8)==c)=false:=bef (fun e=>h4 e.symm);have g:((2:UInt8)==c)=false:=bef (fun e=>h2 e.symm);have q:((6:UInt8)==c)=false:=bef (fun e=>h6 e.symm);simp only[Lib.indexByte,r,o,g,q];rfl
theorem zjQ(B g:Nat)(c:UInt8)(w:World)(h:RdB w B (some ⟨g,0,none⟩) 4 [0,4,2,6]):Calls Tryz.prog 80 #[.slice (some ⟨g,0,none⟩) 4 4,.int .u8 (c.toNat:Int)] w fun e w'=>e=.returned (.int .i64 ((chV c:Int)-1))/\w=w':=by
 obtain⟨b,o,e,-,q⟩:=h.at_ (by decide);injection e with e;injection e with s r;subst s r;have hx:=Lib.run_indexByteAt (P:=Tryz.prog) w ⟨g,0,none⟩ 4 4 [0,4,2,6] rfl (fun i hi=>by
  have h1:=q i hi;rw[zaS,h1];rcases(show i=0\/i=1\/i=2\/i=3 by omega) with rfl|rfl|rfl|rfl<;>rfl) (c.toNat:Int)
 have hv:Lib.indexByte (Lib.bytesOf [0,4,2,6]) ((c.toNat:Int)).toNat.toUInt8=(chV c:Int)-1:=by
  have h1:((c.toNat:Int)).toNat.toUInt8=c:=by rw[Int.toNat_natCast];exact UInt8.ofNat_toNat
  rw[h1];exact zrs c
 rw[hv] at hx;clear q hv;go_enter Tryz.func80,Tryz.ntmps80;go_wp2;rw[run_callFunc_extern Tryz.func98 (by kernel_rfl) (by kernel_rfl) (by kernel_rfl) (e:=Extern.BytealgIndexByte.indexByte) (by kernel_rfl),hx];simp only[Result.andThen];rw[Oper.upon_value];go_wp2;go_ret;exact⟨rfl,rfl⟩
theorem zmn(c:UInt8):chV c<=4:=by
 unfold chV;split
 ·omega
 ·split
  ·omega
  ·split
   ·omega
   ·split<;>omega
theorem zmo(c:UInt8)(w:World):Calls Tryz.prog 54 #[.int .u8 (c.toNat:Int)] w fun e w'=>e=.returned (.int .i64 (chV c:Int))/\Below w.heap.size w w':=by
 have g:=yo (zjQ (w.heap.size+1) w.heap.size c (w.alloc (.cells #[.int .u8 0,.int .u8 4,.int .u8 2,.int .u8 6] 5)) (zgG w 5 (0,0) [0,4,2,6]));have r:=zmn c;generalize chV c=v at *;have s:IntKind.i64.wrap ((v:Int)-1+1)=(v:Int):=by rw[show(v:Int)-1+1=(v:Int) by omega];exact zaa _ (by omega)
 have q:(v:Int)-1+1=(v:Int):=by omega
 have o:IntKind.i64.wrap (v:Int)=(v:Int):=zaa _ (by omega);go_enter Tryz.func54,Tryz.ntmps54;go_wp2_with (go_at_call 80;(with_reducible refine g.o.mono ?_);go_must (rintro e w1 ⟨rfl,rfl⟩));go_ret;exact⟨rfl,(Below.refl w.heap.size w).alloc (nlr _) _⟩
def ShP(W H C D:Nat)(E:Int)(L:Bool)(b:Nat)(w:World)(e:Ending)(w':World):Prop :=
 ∃la,e=.returned (.tuple #[.agg #[.int .i64 (W:Int),.int .i64 (H:Int),.int .i64 (C:Int),.int .i64 (D:Int)],.bool la,.int .i64 E])/\(E=0->la=L)/\Below b w w'
def zeA(hd:List UInt8)(w:World)(e:Ending)(w':World):Prop:=ShP (hdW hd) (hdH hd) (hdC hd) (hdD hd) (zc1 hd) (zfK hd) w.heap.size w e w'
theorem zjc(B c:Nat)(A:Option Addr)(q:List UInt8)(w:World)(h:RdB w B A 13 q)(hB:B<=w.heap.size)(hc:13<=c):
  Calls Tryz.prog 27 #[.slice A 13 c] w fun e w'=>zeA q w e w':=by
 have hl:=h.len;have eW:nxL q 0=hdW q:=rfl;have eH:nxL q 4=hdH q:=rfl;have ba:hdW q<4294967296:=zdg _;have aX:hdH q<4294967296:=zdg _;have ar:=yo (fun w1 (h:RdB w1 B A 13 q)=>zb7 B 13 c A q 0 4 w1 h hc (by omega));have am:=yo (fun w1 (h:RdB w1 B A 13 q)=>zb7 B 13 c A q 4 4 w1 h hc (by omega));rw[show rdR beV q 0 4=((hdW q:Int),0) from zdu (k:=0) (by omega)] at ar;rw[show rdR beV q 4 4=((hdH q:Int),0) from zdu (k:=4) (by omega)] at am;obtain⟨b,o,rfl,hb,I⟩:=h.at_ (by decide);have x8:=I 8 (by omega);have x9:=I 9 (by omega);have ao:=I 10 (by omega);have ag:=I 11 (by omega);have aq:=I 12 (by omega);have g8:q[8]=q.getD 8 0:=by rw[lgd,lge (by omega)];rfl
 have g9:q[9]=q.getD 9 0:=by rw[lgd,lge (by omega)];rfl
 have ax:q[10]=q.getD 10 0:=by rw[lgd,lge (by omega)];rfl
 have aI:q[11]=q.getD 11 0:=by rw[lgd,lge (by omega)];rfl
 have aw:q[12]=q.getD 12 0:=by rw[lgd,lge (by omega)];rfl
 rw[g8] at x8;rw[g9] at x9;rw[ax] at ao;rw[aI] at ag;rw[aw] at aq;have ap:=yo (fun w=>zmo (q.getD 9 0) w);have aP:(q.getD 8 0).toNat<256:=(q.getD 8 0).toNat_lt;have bd:hdC q<=4:=zmn _;have eC:chV (q.getD 9 0)=hdC q:=rfl;have eD:(q.getD 8 0).toNat=hdD q:=rfl;rw[eC] at ap;rw[eD] at x8 aP;have u:Hid (zdE q↔((q.getD 10 0).toNat≠0\/(q.getD 11 0).toNat≠0\/1<(q.getD 12 0).toNat\/hdC q=0\/(hdD q≠8/\hdD q≠16)\/hdW q=0\/hdH q=0)):=(show _↔_ by
  have key:∀x:UInt8,x≠0↔x.toNat≠0:=fun x=>⟨fun h e=>h (UInt8.toNat.inj e),fun h e=>h (by rw[e];rfl)⟩
  unfold zdE;rw[key,key])
 have aB:Hid (zfK q=((q.getD 12 0).toNat==1)):=(show _=_ by
  unfold zfK;rw[Bool.eq_iff_iff,beq_iff_eq,beq_iff_eq];exact⟨fun e=>by rw[e];rfl,fun e=>UInt8.toNat.inj e⟩)
 have aE:Hid (zjL q=⟨(hdW q:Int),(hdH q:Int),(hdC q:Int),(hdD q:Int)⟩):=rfl;have T:=yo (fun w=>zgc ⟨(hdW q:Int),(hdH q:Int),(hdC q:Int),(hdD q:Int)⟩ w);dsimp only[Sh.v] at T;unfold zeA;obtain⟨E,hE⟩:∃E,zc1 q=E:=⟨_,rfl⟩;obtain⟨L,hL⟩:∃L,zfK q=L:=⟨_,rfl⟩;have N:Hid ((if zdE q then(4:Int) else if(zjL q).may=true then 0 else 10)=E):=hE;rw[aE.o] at N;rw[hE,hL];have HL:Hid (((q.getD 12 0).toNat==1)=L):=(show _=_ from aB.o.symm.trans hL);have aC:=yo h;clear hE hL aB aE h I g8 g9 ax aI aw hl eW eH eC eD;generalize hdW q=W at *;generalize hdH q=H at *;generalize hdC q=C at *;generalize hdD q=D at *;generalize q.getD 9 0=c9 at *;generalize (q.getD 10 0).toNat=y10 at *;generalize (q.getD 11 0).toNat=y11 at *;generalize (q.getD 12 0).toNat=y12 at *;have bb:IntKind.i64.wrap (D:Int)=(D:Int):=zaa _ (by omega);obtain⟨w1,X⟩:∃w1,w.alloc (.cells #[.int .i64 0,.int .i64 0,.int .i64 0,.int .i64 0] 37)=w1:=⟨_,rfl⟩;obtain⟨bk,ac⟩:∃b,w.heap.size=b:=⟨_,rfl⟩;have a8:Hid (Arr w1 bk [.int .i64 0,.int .i64 0,.int .i64 0,.int .i64 0]):=(show Arr _ _ _ by rw[<-X,<-ac];exact Arr.new w [.int .i64 0,.int .i64 0,.int .i64 0,.int .i64 0] _);have aa:Hid (RdB w1 B (some ⟨b,o,none⟩) 13 q):=(show RdB _ _ _ _ _ by rw[<-X];exact Rd.alloc aC.o hB _);have U:Hid (Below bk w w1):=(show Below _ _ _ by rw[<-X,<-ac];exact(Below.refl w.heap.size w).alloc (nlr _) _);have bh:bk+1<=w1.heap.size:=by rw[<-X,wsa,ac];exact nlr _
 have a4:=yo (ar.o w1 aa.o);have aG:=yo (am.o w1 aa.o);have v8:=zan U.o (show b<bk by omega) x8;have v9:=zan U.o (show b<bk by omega) x9;have a7:=zan U.o (show b<bk by omega) ao;have aH:=zan U.o (show b<bk by omega) ag;have aD:=zan U.o (show b<bk by omega) aq;clear ar am x8 x9 ao ag aq;rw[ac] at hB;have R:b<w1.heap.size:=by omega
 go_enter Tryz.func27,Tryz.ntmps27;simp only[X,ac];go_upto_region 3 with(first
  |(go_at_call 18;(with_reducible refine a4.o.mono ?_);go_must (rintro e w2 ⟨rfl,rfl⟩))
  |(go_at_call 18;(with_reducible refine aG.o.mono ?_);go_must (rintro e w2 ⟨rfl,rfl⟩)))
 clear X a4 aG;go_cut [9] (fun aK wx=>∃g,aK=.pointer (some ⟨g,0,none⟩)/\Arr wx g [.int .i64 (W:Int),.int .i64 (H:Int),.int .i64 (C:Int),.int .i64 (D:Int)]/\g≠bk/\Below w1.heap.size w1 wx)
 case first =>
  have aO:(w1.alloc (.cells #[.int .i64 0,.int .i64 0,.int .i64 0,.int .i64 0] 37)).cell? ⟨b,o+8,none⟩=some (.int .u8 (D:Int)):=(World.cell?_alloc_lt w1 (.cells #[.int .i64 0,.int .i64 0,.int .i64 0,.int .i64 0] 37) ⟨b,o+8,none⟩ R).trans v8;have aY:(w1.alloc (.cells #[.int .i64 0,.int .i64 0,.int .i64 0,.int .i64 0] 37)).heap.size=w1.heap.size+1:=wsa _ _;have aS:¬b=w1.heap.size:=by omega
  have aL:(w1.alloc (.cells #[.int .i64 0,.int .i64 0,.int .i64 0,.int .i64 0] 37)).cell? ⟨b,o+9,none⟩=some (.int .u8 (c9.toNat:Int)):=(World.cell?_alloc_lt w1 (.cells #[.int .i64 0,.int .i64 0,.int .i64 0,.int .i64 0] 37) ⟨b,o+9,none⟩ R).trans v9
  go_region_held3 (fun w'=>w'.cell? ⟨b,o+9,none⟩=some (.int .u8 (c9.toNat:Int))/\w'.cell? ⟨b,o+8,none⟩=some (.int .u8 (D:Int)))
   (first|go_keep|(with_reducible exact⟨a5,a9⟩)|(with_reducible exact⟨v9,v8⟩)|(with_reducible exact⟨zan af.o R v9,zan af.o R v8⟩))
   (first|(go_at_call 54;(with_reducible refine(ap.o _).mono ?_);go_must (rintro e Y ⟨rfl,M⟩;(first
   |(have z:Below w1.heap.size w1 Y:=⟨M.os,M.tape,M.output,M.size,M.block⟩;have ak:=yo z;have a9:=zan z R v8;have a5:=zan z R v9;have a6:=z.size;have aJ:b<Y.heap.size:=(by omega);have aN:¬b=Y.heap.size:=(by omega);have aF:Hid (Arr (Y.alloc (.cells #[.int .i64 (W:Int),.int .i64 (H:Int),.int .i64 (C:Int),.int .i64 (D:Int)] 37)) Y.heap.size [.int .i64 (W:Int),.int .i64 (H:Int),.int .i64 (C:Int),.int .i64 (D:Int)]):=(show Arr _ _ _ from Arr.new Y [.int .i64 (W:Int),.int .i64 (H:Int),.int .i64 (C:Int),.int .i64 (D:Int)] _);have af:=yo (ak.o.alloc a6 (.cells #[.int .i64 (W:Int),.int .i64 (H:Int),.int .i64 (C:Int),.int .i64 (D:Int)] 37));have ay:Y.heap.size≠bk:=(by omega);clear M z)
   |(have z:Below (w1.alloc (.cells #[.int .i64 0,.int .i64 0,.int .i64 0,.int .i64 0] 37)).heap.size (w1.alloc (.cells #[.int .i64 0,.int .i64 0,.int .i64 0,.int .i64 0] 37)) Y:=⟨M.os,M.tape,M.output,M.size,M.block⟩;have ak:=yo z;have a9:=zan z (by omega) aO;have a5:=zan z (by omega) aL;have an:=yo ((Arr.new w1 [.int .i64 0,.int .i64 0,.int .i64 0,.int .i64 0] 37).later z);obtain⟨aU,bg,bi,bj⟩:=an.o.c4;obtain⟨bf,aV,aZ,bc⟩:=an.o.q4;have a6:=z.size;have aJ:b<Y.heap.size:=(by omega);have aN:¬b=Y.heap.size:=(by omega);have aF:Hid (Arr ((((Y.setCell ⟨w1.heap.size,0,none⟩ (.int .i64 (W:Int))).setCell ⟨w1.heap.size,1,none⟩ (.int .i64 (H:Int))).setCell ⟨w1.heap.size,2,none⟩ (.int .i64 (C:Int))).setCell ⟨w1.heap.size,3,none⟩ (.int .i64 (D:Int))) w1.heap.size [.int .i64 (W:Int),.int .i64 (H:Int),.int .i64 (C:Int),.int .i64 (D:Int)]):=(show Arr _ _ _ from((((an.o.set 0 (.int .i64 (W:Int))).set 1 (.int .i64 (H:Int))).set 2 (.int .i64 (C:Int))).set 3 (.int .i64 (D:Int))));have af:Hid (Below w1.heap.size w1 ((((Y.setCell ⟨w1.heap.size,0,none⟩ (.int .i64 (W:Int))).setCell ⟨w1.heap.size,1,none⟩ (.int .i64 (H:Int))).setCell ⟨w1.heap.size,2,none⟩ (.int .i64 (C:Int))).setCell ⟨w1.heap.size,3,none⟩ (.int .i64 (D:Int)))):=(show Below _ _ _ from((((((Below.refl w1.heap.size w1).alloc (nlr _) (.cells #[.int .i64 0,.int .i64 0,.int .i64 0,.int .i64 0] 37)).trans (ak.o.mono (by omega))).setCell (p:=⟨w1.heap.size,0,none⟩) (nlr _) _).setCell (p:=⟨w1.heap.size,1,none⟩) (nlr _) _).setCell (p:=⟨w1.heap.size,2,none⟩) (nlr _) _).setCell (p:=⟨w1.heap.size,3,none⟩) (nlr _) _);have ay:w1.heap.size≠bk:=(by omega);clear M z)))))
  all_goals
   go_wp2_with fail;go_meet
   case rel =>
    exact⟨_,rfl,aF.o,ay,af.o⟩
 case rest =>
 obtain⟨g,rfl,HG,av,S⟩:=hcut;have ae:=yo HG;have P:=yo (a8.o.later S);have J:=yo (U.o.trans (S.mono (by omega)));have u10:=zan S (show b<w1.heap.size by omega) a7;have u11:=zan S (show b<w1.heap.size by omega) aH;have u12:=zan S (show b<w1.heap.size by omega) aD;obtain⟨s0,s1,s2,s3⟩:=ae.o.c4;obtain⟨b0,b1,b2,b3⟩:=P.o.c4;obtain⟨z0,z1,z2,z3⟩:=P.o.q4;have aT:¬g=bk:=av;have aR:¬bk=g:=fun e=>av e.symm
 have aW:((y12:Int)==1)=L:=by
  rw[<-HL.o,Bool.eq_iff_iff,beq_iff_eq,beq_iff_eq];omega
 have bl:w1.heap.size<=wc.heap.size:=S.size;clear HG S v8 v9 a7 aH aD U a8 aa aC ap;by_cases t10:¬y10=0
 ·have az:((y10:Int) != 0)=true:=by rw[bne_iff_ne];omega
  have r:E=4:=by rw[<-N.o,if_pos (u.o.2 (by omega))]
  have s:=yo r;clear N u r t10;go_wp2_with fail;refine bodyPost_ret (v:=.tuple #[.agg #[.int .i64 (W:Int),.int .i64 (H:Int),.int .i64 (C:Int),.int .i64 (D:Int)],.bool false,.int .i64 4]) ?_ rfl ?_
  ·unfold results
   go_simp
  ·unfold ShP
   rw[s.o];exact⟨false,rfl,fun h=>absurd h (by decide),(((J.o.setCell (p:=⟨bk,0,none⟩) (nlr _) _).setCell (p:=⟨bk,1,none⟩) (nlr _) _).setCell (p:=⟨bk,2,none⟩) (nlr _) _).setCell (p:=⟨bk,3,none⟩) (nlr _) _⟩
 ·have az:((y10:Int) != 0)=false:=by rw[bne_eq_false_iff_eq];omega
  by_cases t11:¬y11=0
  ·have au:((y11:Int) != 0)=true:=by rw[bne_iff_ne];omega
   have r:E=4:=(by rw[<-N.o,if_pos (u.o.2 (by omega))]);have s:=yo r;clear N u r t11;go_wp2_with fail;refine bodyPost_ret (v:=.tuple #[.agg #[.int .i64 (W:Int),.int .i64 (H:Int),.int .i64 (C:Int),.int .i64 (D:Int)],.bool false,.int .i64 4]) ?_ rfl ?_
   ·unfold results
    go_simp
   ·unfold ShP
    rw[s.o];exact⟨false,rfl,fun h=>absurd h (by decide),(((J.o.setCell (p:=⟨bk,0,none⟩) (nlr _) _).setCell (p:=⟨bk,1,none⟩) (nlr _) _).setCell (p:=⟨bk,2,none⟩) (nlr _) _).setCell (p:=⟨bk,3,none⟩) (nlr _) _⟩
  ·have au:((y11:Int) != 0)=false:=by rw[bne_eq_false_iff_eq];omega
   by_cases t12:1<y12
   ·have aA:(1:Int)<(y12:Int):=by omega
    have r:E=4:=(by rw[<-N.o,if_pos (u.o.2 (by omega))]);have s:=yo r;clear N u r t12;go_wp2_with fail;refine bodyPost_ret (v:=.tuple #[.agg #[.int .i64 (W:Int),.int .i64 (H:Int),.int .i64 (C:Int),.int .i64 (D:Int)],.bool false,.int .i64 4]) ?_ rfl ?_
    ·unfold results
     go_simp
    ·unfold ShP
     rw[s.o];exact⟨false,rfl,fun h=>absurd h (by decide),(((J.o.setCell (p:=⟨bk,0,none⟩) (nlr _) _).setCell (p:=⟨bk,1,none⟩) (nlr _) _).setCell (p:=⟨bk,2,none⟩) (nlr _) _).setCell (p:=⟨bk,3,none⟩) (nlr _) _⟩
   ·have aA:¬(1:Int)<(y12:Int):=by omega
    by_cases tC:C=0
    ·have aQ:((C:Int)==0)=true:=by rw[beq_iff_eq];omega
     have r:E=4:=(by rw[<-N.o,if_pos (u.o.2 (by omega))]);have s:=yo r;clear N u r tC;go_wp2_with fail;refine bodyPost_ret (v:=.tuple #[.agg #[.int .i64 (W:Int),.int .i64 (H:Int),.int .i64 (C:Int),.int .i64 (D:Int)],.bool false,.int .i64 4]) ?_ rfl ?_
     ·unfold results
      go_simp
     ·unfold ShP
      rw[s.o];exact⟨false,rfl,fun h=>absurd h (by decide),(((J.o.setCell (p:=⟨bk,0,none⟩) (nlr _) _).setCell (p:=⟨bk,1,none⟩) (nlr _) _).setCell (p:=⟨bk,2,none⟩) (nlr _) _).setCell (p:=⟨bk,3,none⟩) (nlr _) _⟩
    ·have aQ:((C:Int)==0)=false:=by rw[beq_eq_false_iff_ne];omega
     by_cases tD:¬D=8/\¬D=16
     ·have d8:((D:Int) != 8)=true:=by rw[bne_iff_ne];omega
      have d16:((D:Int) != 16)=true:=(by rw[bne_iff_ne];omega);have r:E=4:=(by rw[<-N.o,if_pos (u.o.2 (by omega))]);have s:=yo r;clear N u r tD;go_wp2_with fail;refine bodyPost_ret (v:=.tuple #[.agg #[.int .i64 (W:Int),.int .i64 (H:Int),.int .i64 (C:Int),.int .i64 (D:Int)],.bool false,.int .i64 4]) ?_ rfl ?_
      ·unfold results
       go_simp
      ·unfold ShP
       rw[s.o];exact⟨false,rfl,fun h=>absurd h (by decide),(((J.o.setCell (p:=⟨bk,0,none⟩) (nlr _) _).setCell (p:=⟨bk,1,none⟩) (nlr _) _).setCell (p:=⟨bk,2,none⟩) (nlr _) _).setCell (p:=⟨bk,3,none⟩) (nlr _) _⟩
     ·have aM:D=8\/D=16:=by omega
      clear tD;rcases aM with hDe|hDe
      ·have d8:((D:Int) != 8)=false:=by rw[bne_eq_false_iff_eq];omega
       have ai:=yo hDe;clear hDe;by_cases tW:W=0
       ·have aj:((W:Int)==0)=true:=by rw[beq_iff_eq];omega
        have r:E=4:=(by rw[<-N.o,if_pos (u.o.2 (by omega))]);have s:=yo r;clear N u r tW;go_wp2_with fail;refine bodyPost_ret (v:=.tuple #[.agg #[.int .i64 (W:Int),.int .i64 (H:Int),.int .i64 (C:Int),.int .i64 (D:Int)],.bool false,.int .i64 4]) ?_ rfl ?_
        ·unfold results
         go_simp
        ·unfold ShP
         rw[s.o];exact⟨false,rfl,fun h=>absurd h (by decide),(((J.o.setCell (p:=⟨bk,0,none⟩) (nlr _) _).setCell (p:=⟨bk,1,none⟩) (nlr _) _).setCell (p:=⟨bk,2,none⟩) (nlr _) _).setCell (p:=⟨bk,3,none⟩) (nlr _) _⟩
       ·have aj:((W:Int)==0)=false:=by rw[beq_eq_false_iff_ne];omega
        by_cases tH:H=0
        ·have al:((H:Int)==0)=true:=by rw[beq_iff_eq];omega
         have r:E=4:=(by rw[<-N.o,if_pos (u.o.2 (by omega))]);have s:=yo r;clear N u r tH;go_wp2_with fail;refine bodyPost_ret (v:=.tuple #[.agg #[.int .i64 (W:Int),.int .i64 (H:Int),.int .i64 (C:Int),.int .i64 (D:Int)],.bool false,.int .i64 4]) ?_ rfl ?_
         ·unfold results
          go_simp
         ·unfold ShP
          rw[s.o];exact⟨false,rfl,fun h=>absurd h (by decide),(((J.o.setCell (p:=⟨bk,0,none⟩) (nlr _) _).setCell (p:=⟨bk,1,none⟩) (nlr _) _).setCell (p:=⟨bk,2,none⟩) (nlr _) _).setCell (p:=⟨bk,3,none⟩) (nlr _) _⟩
        ·have al:((H:Int)==0)=false:=by rw[beq_eq_false_iff_ne];omega
         have ab:¬zdE q:=fun h=>by have h1:=u.o.1 h;have h2:=ai.o;omega
         have F:=N.o;rw[if_neg ab] at F;obtain⟨mv,Z⟩:∃mv,Sh.may ⟨(W:Int),(H:Int),(C:Int),((D:Nat):Int)⟩=mv:=⟨_,rfl⟩;rw[Z] at F T;clear Z ab N u;cases mv with
         |true =>
          rw[if_pos rfl] at F;have s:=yo F.symm;clear F;go_upto_region 8 with(first
           |(go_at_call 41;(with_reducible refine(T.o _).mono ?_);go_must (rintro e w5 ⟨rfl,t⟩;have O:=yo (ae.o.later t);have G:=yo (P.o.later t);have V:=yo (J.o.trans (t.mono (by omega)));obtain⟨r0,r1,r2,r3⟩:=O.o.c4;obtain⟨a0,a1,a2,a3⟩:=G.o.c4;obtain⟨f0,f1,f2,f3⟩:=G.o.q4;have ah:=zan t (show b<wc.heap.size by omega) u12;clear t)))
          go_region
          all_goals
           go_wp2_with fail;refine bodyPost_ret (v:=.tuple #[.agg #[.int .i64 (W:Int),.int .i64 (H:Int),.int .i64 (C:Int),.int .i64 (D:Int)],.bool L,.int .i64 0]) ?_ rfl ?_
           ·unfold results
            go_simp
           ·unfold ShP
            rw[s.o];exact⟨L,rfl,fun _=>rfl,Below.drew ((((V.o.setCell (p:=⟨bk,0,none⟩) (nlr _) _).setCell (p:=⟨bk,1,none⟩) (nlr _) _).setCell (p:=⟨bk,2,none⟩) (nlr _) _).setCell (p:=⟨bk,3,none⟩) (nlr _) _)⟩
         |false =>
          rw[if_neg (by decide)] at F;have s:=yo F.symm;clear F;go_wp2_with (first
           |(go_at_call 41;(with_reducible refine(T.o _).mono ?_);go_must (rintro e w5 ⟨rfl,t⟩;have O:=yo (ae.o.later t);have G:=yo (P.o.later t);have V:=yo (J.o.trans (t.mono (by omega)));obtain⟨r0,r1,r2,r3⟩:=O.o.c4;obtain⟨a0,a1,a2,a3⟩:=G.o.c4;obtain⟨f0,f1,f2,f3⟩:=G.o.q4;have ah:=zan t (show b<wc.heap.size by omega) u12;clear t)))
          refine bodyPost_ret (v:=.tuple #[.agg #[.int .i64 (W:Int),.int .i64 (H:Int),.int .i64 (C:Int),.int .i64 (D:Int)],.bool false,.int .i64 10]) ?_ rfl ?_
          ·unfold results
           go_simp
          ·unfold ShP
           rw[s.o];exact⟨false,rfl,fun h=>absurd h (by decide),(((V.o.setCell (p:=⟨bk,0,none⟩) (nlr _) _).setCell (p:=⟨bk,1,none⟩) (nlr _) _).setCell (p:=⟨bk,2,none⟩) (nlr _) _).setCell (p:=⟨bk,3,none⟩) (nlr _) _⟩
      ·have d8:((D:Int) != 8)=true:=by rw[bne_iff_ne];omega
       have d16:((D:Int) != 16)=false:=(by rw[bne_eq_false_iff_eq];omega);have ai:=yo hDe;clear hDe;by_cases tW:W=0
       ·have aj:((W:Int)==0)=true:=by rw[beq_iff_eq];omega
        have r:E=4:=(by rw[<-N.o,if_pos (u.o.2 (by omega))]);have s:=yo r;clear N u r tW;go_wp2_with fail;refine bodyPost_ret (v:=.tuple #[.agg #[.int .i64 (W:Int),.int .i64 (H:Int),.int .i64 (C:Int),.int .i64 (D:Int)],.bool false,.int .i64 4]) ?_ rfl ?_
        ·unfold results
         go_simp
        ·unfold ShP
         rw[s.o];exact⟨false,rfl,fun h=>absurd h (by decide),(((J.o.setCell (p:=⟨bk,0,none⟩) (nlr _) _).setCell (p:=⟨bk,1,none⟩) (nlr _) _).setCell (p:=⟨bk,2,none⟩) (nlr _) _).setCell (p:=⟨bk,3,none⟩) (nlr _) _⟩
       ·have aj:((W:Int)==0)=false:=by rw[beq_eq_false_iff_ne];omega
        by_cases tH:H=0
        ·have al:((H:Int)==0)=true:=by rw[beq_iff_eq];omega
         have r:E=4:=(by rw[<-N.o,if_pos (u.o.2 (by omega))]);have s:=yo r;clear N u r tH;go_wp2_with fail;refine bodyPost_ret (v:=.tuple #[.agg #[.int .i64 (W:Int),.int .i64 (H:Int),.int .i64 (C:Int),.int .i64 (D:Int)],.bool false,.int .i64 4]) ?_ rfl ?_
         ·unfold results
          go_simp
         ·unfold ShP
          rw[s.o];exact⟨false,rfl,fun h=>absurd h (by decide),(((J.o.setCell (p:=⟨bk,0,none⟩) (nlr _) _).setCell (p:=⟨bk,1,none⟩) (nlr _) _).setCell (p:=⟨bk,2,none⟩) (nlr _) _).setCell (p:=⟨bk,3,none⟩) (nlr _) _⟩
        ·have al:((H:Int)==0)=false:=by rw[beq_eq_false_iff_ne];omega
         have ab:¬zdE q:=fun h=>by have h1:=u.o.1 h;have h2:=ai.o;omega
         have F:=N.o;rw[if_neg ab] at F;obtain⟨mv,Z⟩:∃mv,Sh.may ⟨(W:Int),(H:Int),(C:Int),((D:Nat):Int)⟩=mv:=⟨_,rfl⟩;rw[Z] at F T;clear Z ab N u;cases mv with
         |true =>
          rw[if_pos rfl] at F;have s:=yo F.symm;clear F;go_upto_region 8 with(first
           |(go_at_call 41;(with_reducible refine(T.o _).mono ?_);go_must (rintro e w5 ⟨rfl,t⟩;have O:=yo (ae.o.later t);have G:=yo (P.o.later t);have V:=yo (J.o.trans (t.mono (by omega)));obtain⟨r0,r1,r2,r3⟩:=O.o.c4;obtain⟨a0,a1,a2,a3⟩:=G.o.c4;obtain⟨f0,f1,f2,f3⟩:=G.o.q4;have ah:=zan t (show b<wc.heap.size by omega) u12;clear t)))
          go_region
          all_goals
           go_wp2_with fail;refine bodyPost_ret (v:=.tuple #[.agg #[.int .i64 (W:Int),.int .i64 (H:Int),.int .i64 (C:Int),.int .i64 (D:Int)],.bool L,.int .i64 0]) ?_ rfl ?_
           ·unfold results
            go_simp
           ·unfold ShP
            rw[s.o];exact⟨L,rfl,fun _=>rfl,Below.drew ((((V.o.setCell (p:=⟨bk,0,none⟩) (nlr _) _).setCell (p:=⟨bk,1,none⟩) (nlr _) _).setCell (p:=⟨bk,2,none⟩) (nlr _) _).setCell (p:=⟨bk,3,none⟩) (nlr _) _)⟩
         |false =>
          rw[if_neg (by decide)] at F;have s:=yo F.symm;clear F;go_wp2_with (first
           |(go_at_call 41;(with_reducible refine(T.o _).mono ?_);go_must (rintro e w5 ⟨rfl,t⟩;have O:=yo (ae.o.later t);have G:=yo (P.o.later t);have V:=yo (J.o.trans (t.mono (by omega)));obtain⟨r0,r1,r2,r3⟩:=O.o.c4;obtain⟨a0,a1,a2,a3⟩:=G.o.c4;obtain⟨f0,f1,f2,f3⟩:=G.o.q4;have ah:=zan t (show b<wc.heap.size by omega) u12;clear t)))
          refine bodyPost_ret (v:=.tuple #[.agg #[.int .i64 (W:Int),.int .i64 (H:Int),.int .i64 (C:Int),.int .i64 (D:Int)],.bool false,.int .i64 10]) ?_ rfl ?_
          ·unfold results
           go_simp
          ·unfold ShP
           rw[s.o];exact⟨false,rfl,fun h=>absurd h (by decide),(((V.o.setCell (p:=⟨bk,0,none⟩) (nlr _) _).setCell (p:=⟨bk,1,none⟩) (nlr _) _).setCell (p:=⟨bk,2,none⟩) (nlr _) _).setCell (p:=⟨bk,3,none⟩) (nlr _) _⟩
end Go.Proofs.YtebbdifhiihfkaaGreatDoor

