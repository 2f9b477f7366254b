/- XIq9 XUnp5 -/
import Derived.Test.YtebbdifhiihfkaaGreatDoorMm44
import Derived.Test.YtebbdifhiihfkaaGreatDoorMm47
import Derived.Test.YtebbdifhiihfkaaGreatDoorMm36
import Derived.Test.YtebbdifhiihfkaaGreatDoorMm04
import Derived.Test.YtebbdifhiihfkaaGreatDoorMm05
import Derived.Test.YtebbdifhiihfkaaGreatDoorMm15
import Derived.BigQuiet
namespace Go.Proofs.YtebbdifhiihfkaaGreatDoor
set_option linter.all false
set_option maxRecDepth 100000
set_option maxHeartbeats 6400000
open Go.RowKit
theorem zuM{bs:List UInt8}{most:Int}(h1:0<=most)(h2:most<=40000)(h:(zbr bs most).e=0):zak bs most=((zbr bs most).o,((zbr bs most).p+7) / 8,0):=by
 unfold zak;rw[if_neg (by omega),if_pos h]
theorem zrN{bs:List UInt8}{most:Int}(h:(zak bs most).2.2=0):(zbr bs most).e=0:=by
 unfold zak at h;split at h
 ·exact absurd (show(1:Int)=0 from h) (by decide)
 ·split at h
  ·assumption
  ·rename_i h2
   exact absurd h h2
theorem zrO{bs:List UInt8}{most:Int}(h:¬(zak bs most).2.2=0):(zak bs most).1=[]:=by
 unfold zak at h ⊢;split
 ·rfl
 ·rename_i h1
  rw[if_neg h1] at h;split
  ·rename_i h2
   rw[if_pos h2] at h;exact absurd rfl h
  ·rfl
theorem zkX{bs:List UInt8}{most:Int}{F f:Nat}{s:RS}(he:s.e=0)(h:¬zfJ bs s=0):zb1 bs most F (f+1) s=zbR bs most F s:=by
 rw[zb1,if_pos he,if_neg h]
theorem zkY{bs:List UInt8}{most:Int}{F f:Nat}{s:RS}(he:s.e=0)(h:zfJ bs s=0):zb1 bs most F (f+1) s=zb1 bs most F f (zbR bs most F s):=by
 rw[zb1,if_pos he,if_pos h]
theorem zmH{bs:List UInt8}{most:Int}{F f:Nat}{s:RS}(he:s.e=0)(h:¬(zbR bs most F s).e=0):¬(zb1 bs most F (f+1) s).e=0:=by
 by_cases h0:zfJ bs s=0
 ·rw[zkY he h0,ziv h];exact h
 ·rw[zkX he h0];exact h
theorem zoa{bs:List UInt8}{P:Nat}{out:List UInt8}(h:P+3<=8*bs.length):zfJ bs ⟨P,out,0⟩=zaj bs P 1/\zgs bs ⟨P,out,0⟩=zaj bs (P+1) 2/\zdJ bs ⟨P,out,0⟩=⟨P+3,out,0⟩:=by
 have o:zac bs (⟨P,out,0⟩:RS) 1=(zaj bs P 1,⟨P+1,out,0⟩):=za2 rfl (by show P+1<=_;omega);have g:zac bs (⟨P+1,out,0⟩:RS) 2=(zaj bs (P+1) 2,⟨P+3,out,0⟩):=by rw[za2 rfl (by show P+1+2<=_;omega)]
 unfold zfJ zgs zdJ;rw[o];exact⟨rfl,by rw[g],by rw[g]⟩
theorem zrP{bs:List UInt8}{most:Int}{F P:Nat}{out:List UInt8}(h:¬P+3<=8*bs.length):¬(zbR bs most F ⟨P,out,0⟩).e=0:=by
 refine zkG ?_;unfold zdJ;intro h2;obtain⟨o,-⟩:=zbK h2;have g:P+1<=8*bs.length:=Classical.byContradiction fun e=>zbs (s:=⟨P,out,0⟩) e o
 have q:zac bs (⟨P,out,0⟩:RS) 1=(zaj bs P 1,⟨P+1,out,0⟩):=za2 rfl g;rw[q] at h2;exact zbs (s:=⟨P+1,out,0⟩) (m:=2) (by show ¬P+1+2<=_;omega) h2
theorem zuN{bs:List UInt8}{most:Int}{F P:Nat}{out:List UInt8}(h:P+3<=8*bs.length):zbR bs most F ⟨P,out,0⟩=zdY bs most F (zaj bs (P+1) 2) ⟨P+3,out,0⟩:=by
 obtain⟨-,h2,g⟩:=zoa (out:=out) h;unfold zbR;rw[h2,g]
theorem fixL_nw:nwE fixL=0/\nwE fixD=0:=by decide +kernel
/-- What the document's Inflate gives. -/
def If5(bs:List UInt8)(most:Int)(w:World)(e:Ending)(w':World):Prop:=∃v,e=.returned (.tuple #[v,.int .i64 ((zak bs most).2.1:Int),.bool (decide ((zak bs most).2.2=0))])/\ownB w' w.heap.size v (zak bs most).1/\Below w.heap.size w w'
theorem If5.bad{bs:List UInt8}{most:Int}{w w':World}{e:Ending}{v a b:Value}(h:¬(zak bs most).2.2=0)(he:e=.returned (.tuple #[v,a,b]))(hv:v=.slice none 0 0)(q:a=.int .i64 0)(g:b=.bool false)(o:Below w.heap.size w w'):If5 bs most w e w':=by
 subst hv q g;have h1:=zrO h;have h2:(zak bs most).2.1=0:=by
  unfold zak at h ⊢;split
  ·rfl
  ·rename_i h1
   rw[if_neg h1] at h;split
   ·rename_i h2
    rw[if_pos h2] at h;exact absurd rfl h
   ·rfl
 refine⟨.slice none 0 0,?_,?_,o⟩
 ·rw[he,h2,decide_eq_false h]
  rfl
 ·rw[h1];exact ownB.nil_ _ _
theorem zhs(B n c:Nat)(A:Option Addr)(bs:List UInt8)(most:Int)(w:World)(h:RdB w B A n bs)(hB:B<=w.heap.size)(hn:n<=1000000):
  Calls Tryz.prog 90 #[.slice A n c,.int .i64 most] w (If5 bs most w):=by
 by_cases hmost:most<0\/40000<most
 ·have HP:Hid (¬(zak bs most).2.2=0):=(show ¬_ from by
   have:zak bs most=([],0,1):=if_pos hmost;rw[this];exact show ¬(1:Int)=0 by decide)
  clear h;go_enter Tryz.func90,Tryz.ntmps90;rcases hmost with h1|h1
  ·have t1:decide (most<0)=true:=decide_eq_true h1
   go_wp2_with fail;go_ret3;exact If5.bad HP.o rfl rfl rfl rfl (Below.refl _ _)
  ·have t1:decide (most<0)=false:=decide_eq_false (by omega)
   have t2:decide (most > 40000)=true:=decide_eq_true h1;have t3:¬most<0:=(by omega);go_wp2_with fail;go_ret3;exact If5.bad HP.o rfl rfl rfl rfl (Below.refl _ _)
 ·have h0:0<=most:=by omega
  have hm:most<=40000:=by omega
  have aL:bs.length=n:=h.len;have ar:=yo aL;have aF:Hid ((zbr bs most).e=0->zak bs most=((zbr bs most).o,((zbr bs most).p+7) / 8,0)):=(show _->_ from fun h=>zuM h0 hm h);have Z:Hid (¬(zbr bs most).e=0->¬(zak bs most).2.2=0):=(show _->_ from fun h h2=>h (zrN h2));have HC:Hid (zb1 bs most (8*n+1) (8*n+1) ⟨0,[],0⟩=zbr bs most):=(show _=_ by rw[<-aL];rfl);generalize zbr bs most=S at *;have bj:=yo (zjY B n c A bs w h (by omega));have t1:decide (most<0)=false:=decide_eq_false (by omega);have t2:decide (most > 40000)=false:=decide_eq_false (by omega);have t3:¬most<0:=by omega
  have t4:¬40000<most:=by omega
  clear h hmost aL;go_enter Tryz.func90,Tryz.ntmps90;go_upto_region 4 with(go_at_call 8;(with_reducible refine bj.o.mono ?_);go_must (rintro e w1 ⟨v1,rfl,aZ,aM⟩;have bb:=aM.size;obtain⟨A1,c1,rfl,aX,-,-⟩:=aZ.form;have bo:=yo aX;have bh:=yo aM;clear aZ aX aM));have ap:=(show FI ((w1.alloc (.cells #[.slice A1 bs.length c1,.int .i64 0] 137)).alloc (.cells #[.pointer (some ⟨w1.heap.size,0,none⟩),.slice none 0 0,.int .i64 most] 139)) (w1.heap.size+1) w1.heap.size A1 bs.length c1 0 bs (.slice none 0 0) [] most from
   ⟨by have h9:=Arr.new (w1.alloc (.cells #[.slice A1 bs.length c1,.int .i64 0] 137)) [.pointer (some ⟨w1.heap.size,0,none⟩),.slice none 0 0,.int .i64 most] 139;rw[wsa] at h9;exact h9,(Arr.new w1 [.slice A1 bs.length c1,.int .i64 ((0:Nat):Int)] 137).alloc _,Rd.alloc (Rd.alloc bo.o (nlr _) _) (by rw[wsa];omega) _,ownB.nil_ _ _,Nat.lt_succ_self _,Nat.zero_le _,by rw[ar.o];exact hn⟩)
  have aB:=yo ((bh.o.alloc bb (.cells #[.slice A1 bs.length c1,.int .i64 0] 137)).alloc (by rw[wsa];omega) (.cells #[.pointer (some ⟨w1.heap.size,0,none⟩),.slice none 0 0,.int .i64 most] 139));replace ap:=yo ap;rw[ar.o] at ap aB;simp only[ar.o];have bf:w.heap.size<=w1.heap.size:=bb;generalize bl:w1.heap.size=g at *;obtain⟨r,hr⟩:∃r,g+1=r:=⟨_,rfl⟩;simp only[hr] at ap ⊢;have b2:g<r:=by omega
  have bw:=yo hr;clear hr bl;generalize (w1.alloc (.cells #[.slice A1 n c1,.int .i64 0] 137)).alloc (.cells #[.pointer (some ⟨g,0,none⟩),.slice none 0 0,.int .i64 most] 139)=w2 at *;go_loopw [8] (fun v8 wr=>∃(t f:Nat) (vq:Value) (q:List UInt8),Hid (FI wr r g A1 n c1 t bs vq q most)/\Hid (Below w.heap.size w wr)/\Hid (zb1 bs most (8*n+1) f ⟨t,q,0⟩=S)/\Hid ((q.length:Int)<=most)/\Hid (8*n+1<=t+f)) (fun _ wr=>8*n+1-zhF wr g)
  case atStart=>exact⟨0,8*n+1,_,[],ap,aB,HC,(show(((0:Nat):Int))<=most from h0),(show _<=_ from Nat.le_add_left _ _)⟩
  case round =>
   clear ap aB HC;obtain⟨t,f,vq,q,HF,HB,HC,HO,a8⟩:=hrel;have br:t<=8*n:=HF.o.fit;have a2:=zb0 HF.o.rd;obtain⟨f,rfl⟩:∃f',f=f'+1:=⟨f-1,by have:=a8.o;omega⟩;have ae:Hid (∀w5 v5,RFr wr w5 r g vq v5->Below w.heap.size w w5):=(show ∀w5 v5,_ from fun w5 v5 hr=>HB.o.trans (hr.below HB.o.size (by omega) bf (fun k hk=>by have:=(olt HF.o.own k hk).1;omega)));by_cases hf3:t+3<=8*n
   ·have L:=yo (zbb r g n c1 t 1 A1 bs vq q most 1 wr rfl HF.o (by omega) (by omega))
    have ab:=yo (fun w1 (h:FI w1 r g A1 n c1 (t+1) bs vq q most)=>zbb r g n c1 (t+1) 2 A1 bs vq q most 2 w1 rfl h (by omega) (by omega));have aV:=zbw bs t 1;have aU:=zbw bs (t+1) 2;have ag:=yo (zuN (bs:=bs) (most:=most) (F:=8*n+1) (P:=t) (out:=q) (by rw[ar.o];exact hf3));have aI:=(zoa (bs:=bs) (P:=t) (out:=q) (by rw[ar.o];exact hf3)).1;have ai:Hid (¬(zbR bs most (8*n+1) ⟨t,q,0⟩).e=0->¬S.e=0):=(show _->_ from fun h=>by rw[<-HC.o];exact zmH rfl h);have aE:Hid (zaj bs t 1=1->zbR bs most (8*n+1) ⟨t,q,0⟩=S):=(show _->_ from fun h=>by rw[<-HC.o,zkX rfl (by rw[aI];omega)]);have aG:Hid (zaj bs t 1=0->zb1 bs most (8*n+1) f (zbR bs most (8*n+1) ⟨t,q,0⟩)=S):=(show _->_ from fun h=>by rw[<-HC.o,zkY rfl (by rw[aI];exact h)]);have aN:Hid ((zbR bs most (8*n+1) ⟨t,q,0⟩).e=0->t+3<=(zbR bs most (8*n+1) ⟨t,q,0⟩).p):=(show _->_ from fun h=>zfY h);have aJ:Hid ((((zbR bs most (8*n+1) ⟨t,q,0⟩).o.length:Nat):Int)<=most):=(show _<=_ from ziw (by rw[zgt];exact HO.o));generalize zbR bs most (8*n+1) ⟨t,q,0⟩=R at *;generalize zaj bs t 1=last at *;generalize zaj bs (t+1) 2=kd at *;have bt:last<2:=aV;have b0:kd<4:=aU;clear aI aV aU HC;rcases(show kd=0\/kd=1\/kd=2\/kd=3 by omega) with rfl|rfl|rfl|rfl
    ·have HR:Hid (R=zbl bs most ⟨t+3,q,0⟩):=(show _=_ from ag.o)
     have HK:=yo (fun Y (h:FI Y r g A1 n c1 (t+3) bs vq q most)=>znc r g n c1 (t+3) A1 bs vq q most Y h HO.o (by omega));rw[<-HR.o] at HK;clear ag HR;go_upto_region 17 with(first
      |(go_at_call 109;(with_reducible refine L.o.mono ?_);go_must (rintro e w3 ⟨rfl,u,J⟩;have T:=yo J;have z:=yo (ab.o w3 u);clear u J L))
      |(go_at_call 109;(with_reducible refine z.o.mono ?_);go_must (rintro e Y ⟨rfl,G,H⟩;have O:=yo (T.o.trans H);have an:=yo G;have bn:=yo (HK.o Y G);clear G H z))
      |(go_at_call 110;(with_reducible refine bn.o.mono ?_);go_must (rintro e w5 hp;unfold zbc at hp;obtain⟨ok,D,v5,I,rfl,aj,am,ak⟩:=hp;have C:=yo aj;have W:=yo (ae.o w5 v5 (O.o.trans am));have X:=yo ak;clear aj am ak)))
     rcases X.o with⟨rfl,s⟩ | ⟨rfl,s⟩
     ·have al:=yo s
      have aW:t+3<=D:=(by have:=aN.o (by rw[s]);rw[s] at this;exact this);have a4:Hid ((I.length:Int)<=most):=(show _<=_ by have:=aJ.o;rw[s] at this;exact this);clear s X;rcases(show last=0\/last=1 by omega) with rfl|rfl
      ·have E:=yo (aG.o rfl)
       rw[al.o] at E;have U:=zb0 C.o.rd;have ah:Hid (8*n+1<=D+f):=(show _<=_ by have:=a8.o;omega);go_wp2_with fail;go_roundw
       case rel=>exact⟨D,f,v5,I,C,W,E,a4,ah⟩
       case measure=>rw[U,a2];omega
      ·have E:=yo (aE.o rfl)
       rw[al.o] at E;have V:=yo (aF.o (by rw[<-E.o]));rw[<-E.o] at V;obtain⟨Av,cv,rfl,-,-,-⟩:=C.o.own.form;have c0:=C.o.arr.cell (k:=0) rfl;have aR:=C.o.arr.cell (k:=1) rfl;have cg:=C.o.rd.cell (k:=1) rfl;have aQ:D<=8*n:=C.o.fit;have e1:IntKind.i64.wrap ((D:Int)+7)=(D:Int)+7:=(by have:=zaa (D+7) (by omega);simpa using this);have e2:((D:Int)+7).tdiv 8=(((D+7) / 8:Nat):Int):=by rw[show(D:Int)+7=((D+7:Nat):Int) by omega];rfl
       have e3:((D:Int)+7) / 8=(((D+7) / 8:Nat):Int):=(by omega);obtain⟨Q,hQ⟩:∃Q,(D+7) / 8=Q:=⟨_,rfl⟩;rw[hQ] at e2 e3;have e4:IntKind.i64.wrap (Q:Int)=(Q:Int):=zaa Q (by omega);have HQ:=yo hQ;clear hQ;go_wp2_with fail;go_quiet (fail);go_wp2_with fail;go_ret3;refine⟨.slice Av I.length cv,?_,?_,zag W.o _⟩
       ·rw[V.o]
        show _=Ending.returned (.tuple #[_,.int .i64 (((D+7) / 8:Nat):Int),.bool (decide ((0:Int)=0))]);rw[HQ.o];rfl
       ·rw[V.o]
        exact(C.o.drewN _).own.mono (by omega)
     ·have HE:=yo s
      clear s X;go_wp2_with fail;go_ret3;exact If5.bad (Z.o (ai.o HE.o)) rfl rfl rfl rfl (W.o)
    ·have HR:Hid (R=zaG bs most fixL (some fixD) (8*n+1) ⟨t+3,q,0⟩):=(show _=_ from ag.o)
     have HK:=yo (fun Y ga gb (h:FI Y r g A1 n c1 (t+3) bs vq q most) (hx:RdI Y Y.heap.size (some ⟨ga,0,none⟩) 288 fixL) (hy:RdI Y Y.heap.size (some ⟨gb,0,none⟩) 32 fixD)=>zjo r g n c1 (t+3) A1 bs vq q most Y Y.heap.size 288 32 288 32 (some ⟨ga,0,none⟩) (some ⟨gb,0,none⟩) fixL fixD (8*n+1) h hx hy (nlr _) (by omega) (by omega) fixL_nw.1 (by omega) HO.o (by omega));rw[if_pos fixL_nw.2,<-HR.o] at HK;clear ag HR;go_upto_region 17 with(first
      |(go_at_call 109;(with_reducible refine L.o.mono ?_);go_must (rintro e w3 ⟨rfl,u,J⟩;have T:=yo J;have z:=yo (ab.o w3 u);clear u J L))
      |(go_at_call 109;(with_reducible refine z.o.mono ?_);go_must (rintro e Y ⟨rfl,G,H⟩;have O:=yo (T.o.trans H);have an:=yo G; clear G H z))
      |(go_at_call 111;(with_reducible refine(znf Y).mono ?_);go_must (rintro e w6 ⟨ga,gb,rfl,bc,aY,aK⟩;have a3:=yo (O.o.trans (RFr.ofB aK r g vq));have bm:=yo (HK.o w6 ga gb (an.o.later aK) bc aY);clear bc aY aK))
      |(go_at_call 112;(with_reducible refine bm.o.mono ?_);go_must (rintro e w5 hp;unfold zbc at hp;obtain⟨ok,D,v5,I,rfl,aj,am,ak⟩:=hp;have C:=yo aj;have W:=yo (ae.o w5 v5 (a3.o.trans am));have X:=yo ak;clear aj am ak)))
     rcases X.o with⟨rfl,s⟩ | ⟨rfl,s⟩
     ·have al:=yo s
      have aW:t+3<=D:=(by have:=aN.o (by rw[s]);rw[s] at this;exact this);have a4:Hid ((I.length:Int)<=most):=(show _<=_ by have:=aJ.o;rw[s] at this;exact this);clear s X;rcases(show last=0\/last=1 by omega) with rfl|rfl
      ·have E:=yo (aG.o rfl)
       rw[al.o] at E;have U:=zb0 C.o.rd;have ah:Hid (8*n+1<=D+f):=(show _<=_ by have:=a8.o;omega);go_wp2_with fail;go_roundw
       case rel=>exact⟨D,f,v5,I,C,W,E,a4,ah⟩
       case measure=>rw[U,a2];omega
      ·have E:=yo (aE.o rfl)
       rw[al.o] at E;have V:=yo (aF.o (by rw[<-E.o]));rw[<-E.o] at V;obtain⟨Av,cv,rfl,-,-,-⟩:=C.o.own.form;have c0:=C.o.arr.cell (k:=0) rfl;have aR:=C.o.arr.cell (k:=1) rfl;have cg:=C.o.rd.cell (k:=1) rfl;have aQ:D<=8*n:=C.o.fit;have e1:IntKind.i64.wrap ((D:Int)+7)=(D:Int)+7:=(by have:=zaa (D+7) (by omega);simpa using this);have e2:((D:Int)+7).tdiv 8=(((D+7) / 8:Nat):Int):=by rw[show(D:Int)+7=((D+7:Nat):Int) by omega];rfl
       have e3:((D:Int)+7) / 8=(((D+7) / 8:Nat):Int):=(by omega);obtain⟨Q,hQ⟩:∃Q,(D+7) / 8=Q:=⟨_,rfl⟩;rw[hQ] at e2 e3;have e4:IntKind.i64.wrap (Q:Int)=(Q:Int):=zaa Q (by omega);have HQ:=yo hQ;clear hQ;go_wp2_with fail;go_quiet (fail);go_wp2_with fail;go_ret3;refine⟨.slice Av I.length cv,?_,?_,zag W.o _⟩
       ·rw[V.o]
        show _=Ending.returned (.tuple #[_,.int .i64 (((D+7) / 8:Nat):Int),.bool (decide ((0:Int)=0))]);rw[HQ.o];rfl
       ·rw[V.o]
        exact(C.o.drewN _).own.mono (by omega)
     ·have HE:=yo s
      clear s X;go_wp2_with fail;go_ret3;exact If5.bad (Z.o (ai.o HE.o)) rfl rfl rfl rfl (W.o)
    ·have HR:Hid (R=zc0 bs most (8*n+1) ⟨t+3,q,0⟩):=(show _=_ from ag.o)
     have au:Hid (R=zdX bs most (zaO bs ⟨t+3,q,0⟩).1 (hdN bs ⟨t+3,q,0⟩) (8*n+1) (zaO bs ⟨t+3,q,0⟩).2):=(show _=_ from HR.o);have aD:Hid (zau (zaO bs ⟨t+3,q,0⟩).1=false):=(show _=_ from zpo _ _);have HL:=yo (fun Y (h:FI Y r g A1 n c1 (t+3) bs vq q most)=>zpr r g n c1 (t+3) A1 bs vq q most Y h);generalize hdN bs ⟨t+3,q,0⟩=N at *;generalize hdM bs ⟨t+3,q,0⟩=M at *;generalize zaO bs ⟨t+3,q,0⟩=LS at *;clear ag HR;go_upto_region 8 with(first
      |(go_at_call 109;(with_reducible refine L.o.mono ?_);go_must (rintro e w3 ⟨rfl,u,J⟩;have T:=yo J;have z:=yo (ab.o w3 u);clear u J L))
      |(go_at_call 109;(with_reducible refine z.o.mono ?_);go_must (rintro e Y ⟨rfl,G,H⟩;have O:=yo (T.o.trans H);have an:=yo G;have ba:=yo (HL.o Y G);clear G H z))
      |(go_at_call 113;(with_reducible refine ba.o.mono ?_);go_must (rintro e w6 hp;unfold zbt at hp;obtain⟨vx,vy,bu,P6,rfl,aP,aT,a9⟩:=hp;have bi:=yo aP;have a3:=yo (O.o.trans aT);have a1:=yo a9;clear aP aT a9)))
     clear an O T HL ba ab;rcases a1.o with⟨rfl,rfl,rfl,s⟩ | ⟨rfl,aH,aO,b1,bx,bz,bv,gq,cx,cy,rfl,rfl,aq,a0⟩
     ·have HE:Hid (¬R.e=0):=(show ¬_ by
       rw[au.o];unfold zdX;rw[if_neg s];exact s)
      have az:=yo (ae.o w6 _ a3.o);have aa:=yo (zdT w6.heap.size 0 0 none [] w6 RdI.nil_ (by omega));generalize krV ([]:List Int)=KV at *;generalize krE ([]:List Int)=KE at *;clear s a1;go_upto_region 17 with(first
       |(go_at_call 114;(with_reducible refine aa.o.mono ?_);go_must (rintro e w9 ⟨rfl,rfl⟩)))
      go_wp2_with fail;go_ret3;exact If5.bad (Z.o (ai.o HE.o)) rfl rfl rfl rfl (az.o)
     ·obtain⟨all,s6⟩:=LS
      replace aH:s6=⟨P6,q,0⟩:=aH;subst aH;replace aO:all.length=N+M:=aO;replace aq:RdI w6 w6.heap.size (some ⟨gq,0,none⟩) N (all.take N):=aq;replace a0:RdI w6 w6.heap.size (some ⟨gq,N,none⟩) M (all.drop N):=a0;replace au:Hid (R=zdX bs most all N (8*n+1) ⟨P6,q,0⟩):=au;have az:=yo (ae.o w6 _ a3.o);have ax:Hid (zf4 all N->R=zaG bs most (all.take N) (if nwE (all.drop N)=0 then some (all.drop N) else none) (8*n+1) ⟨P6,q,0⟩):=(show _->_ from fun h=>by rw[au.o];exact zuH rfl aD.o (by omega) (by omega) h);have ao:Hid (¬zf4 all N->¬R.e=0):=(show _->_ from fun h=>by rw[au.o];exact ztw rfl aD.o (by omega) (by omega) h);have ac:Hid (zf4 all N↔(0<all.getD 256 0/\krV (all.take N)=32768/\zgA (all.drop N))):=(show _↔_ from Iff.rfl);have ay:256<all.length:=(by omega);have aS:all.getD 256 0=all[256]:=(by rw[lgd,lge ay];rfl);have bq:w6.cell? ⟨gq,256,none⟩=some (.int .i64 all[256]):=by
       obtain⟨b,o,x,he,hb,HX,e1⟩:=RdI.one aq (k:=256) (by omega);injection he with he;injection he with bg bk;subst bg bk;have hx:(all.take N)[256]?=some x:=HX.o;rw[List.getElem?_take] at hx;rw[if_pos (by omega),lge ay] at hx;injection hx with hx;rw[hx]
       simpa using e1
      rw[aS] at ac;generalize all[256]=x256 at *;have aa:=yo (zdT w6.heap.size N cx (some ⟨gq,0,none⟩) (all.take N) w6 aq (by omega));have aA:=yo (zne w6.heap.size M cy (some ⟨gq,N,none⟩) (all.drop N) w6 a0 (by omega));have a5:=yo (fun h=>zgB (ls:=all.take N) h);have av:=yo (fun(a6:nwE (all.take N)=0)=>zjo r g n c1 P6 A1 bs vq q most w6 w6.heap.size N M cx cy (some ⟨gq,0,none⟩) (some ⟨gq,N,none⟩) (all.take N) (all.drop N) (8*n+1) bi.o aq a0 (nlr _) (by omega) (by omega) a6 (by omega) HO.o (by omega));generalize krE (all.take N)=KE at *;generalize krV (all.take N)=KV at *;have bp:(256:Int)<(N:Int):=(by omega);have bd:256<N:=(by omega);clear aq a0 aO aS ay a1 au aD;by_cases hx0:0<x256
      ·by_cases hk:KV=32768
       ·have dK:(KV==32768)=true:=by rw[hk];rfl
        obtain⟨a6,-,-,-⟩:=a5.o hk;have aw:=yo (av.o a6);by_cases hml:zgA (all.drop N)
        ·have HR:=yo (ax.o (ac.o.2 ⟨hx0,hk,hml⟩))
         rw[<-HR.o] at aw;have aC:=yo hml;clear a5 av ax ao ac hml a6 HR;subst hk;go_upto_region 17 with(first
          |(go_at_call 114;(with_reducible refine aa.o.mono ?_);go_must (rintro e w9 ⟨rfl,rfl⟩))
          |(go_at_call 115;(with_reducible refine aA.o.mono ?_);go_must (rintro e w9 hp;unfold zeC at hp;obtain⟨a7,rfl,af,rfl⟩:=hp;obtain rfl:a7=true:=af.2 aC.o;clear af))
          |(go_at_call 112;(with_reducible refine aw.o.mono ?_);go_must (rintro e w5 hp;unfold zbc at hp;obtain⟨ok,D,v5,I,rfl,aj,am,ak⟩:=hp;have C:=yo aj;have W:=yo (ae.o w5 v5 (a3.o.trans am));have X:=yo ak;clear aj am ak)))
         rcases X.o with⟨rfl,s⟩ | ⟨rfl,s⟩
         ·have al:=yo s
          have aW:t+3<=D:=(by have:=aN.o (by rw[s]);rw[s] at this;exact this);have a4:Hid ((I.length:Int)<=most):=(show _<=_ by have:=aJ.o;rw[s] at this;exact this);clear s X;rcases(show last=0\/last=1 by omega) with rfl|rfl
          ·have E:=yo (aG.o rfl)
           rw[al.o] at E;have U:=zb0 C.o.rd;have ah:Hid (8*n+1<=D+f):=(show _<=_ by have:=a8.o;omega);go_wp2_with fail;go_roundw
           case rel=>exact⟨D,f,v5,I,C,W,E,a4,ah⟩
           case measure=>rw[U,a2];omega
          ·have E:=yo (aE.o rfl)
           rw[al.o] at E;have V:=yo (aF.o (by rw[<-E.o]));rw[<-E.o] at V;obtain⟨Av,cv,rfl,-,-,-⟩:=C.o.own.form;have c0:=C.o.arr.cell (k:=0) rfl;have aR:=C.o.arr.cell (k:=1) rfl;have cg:=C.o.rd.cell (k:=1) rfl;have aQ:D<=8*n:=C.o.fit;have e1:IntKind.i64.wrap ((D:Int)+7)=(D:Int)+7:=(by have:=zaa (D+7) (by omega);simpa using this);have e2:((D:Int)+7).tdiv 8=(((D+7) / 8:Nat):Int):=by rw[show(D:Int)+7=((D+7:Nat):Int) by omega];rfl
           have e3:((D:Int)+7) / 8=(((D+7) / 8:Nat):Int):=(by omega);obtain⟨Q,hQ⟩:∃Q,(D+7) / 8=Q:=⟨_,rfl⟩;rw[hQ] at e2 e3;have e4:IntKind.i64.wrap (Q:Int)=(Q:Int):=zaa Q (by omega);have HQ:=yo hQ;clear hQ;go_wp2_with fail;go_quiet (fail);go_wp2_with fail;go_ret3;refine⟨.slice Av I.length cv,?_,?_,zag W.o _⟩
           ·rw[V.o]
            show _=Ending.returned (.tuple #[_,.int .i64 (((D+7) / 8:Nat):Int),.bool (decide ((0:Int)=0))]);rw[HQ.o];rfl
           ·rw[V.o]
            exact(C.o.drewN _).own.mono (by omega)
         ·have HE:=yo s
          clear s X;go_wp2_with fail;go_ret3;exact If5.bad (Z.o (ai.o HE.o)) rfl rfl rfl rfl (W.o)
        ·have HE:=yo (ao.o (fun h=>hml (ac.o.1 h).2.2))
         have aC:=yo hml;clear a5 av ax ao ac hml a6 aw;subst hk;go_upto_region 17 with(first
          |(go_at_call 114;(with_reducible refine aa.o.mono ?_);go_must (rintro e w9 ⟨rfl,rfl⟩))
          |(go_at_call 115;(with_reducible refine aA.o.mono ?_);go_must (rintro e w9 hp;unfold zeC at hp;obtain⟨a7,rfl,af,rfl⟩:=hp;obtain rfl:a7=false:=(by cases a7 with|false=>rfl|true=>exact absurd (af.1 rfl) aC.o);clear af)))
         go_wp2_with fail;go_ret3;exact If5.bad (Z.o (ai.o HE.o)) rfl rfl rfl rfl (az.o)
       ·have dK:(KV==32768)=false:=bef hk
        have HE:=yo (ao.o (fun h=>hk (ac.o.1 h).2.1));clear a5 av ax ao ac;go_upto_region 17 with(first
         |(go_at_call 114;(with_reducible refine aa.o.mono ?_);go_must (rintro e w9 ⟨rfl,rfl⟩)))
        go_wp2_with fail;go_ret3;exact If5.bad (Z.o (ai.o HE.o)) rfl rfl rfl rfl (az.o)
      ·have HE:=yo (ao.o (fun h=>hx0 (ac.o.1 h).1))
       clear a5 av ax ao ac;go_upto_region 17 with(first
        |(go_at_call 114;(with_reducible refine aa.o.mono ?_);go_must (rintro e w9 ⟨rfl,rfl⟩)))
       go_wp2_with fail;go_ret3;exact If5.bad (Z.o (ai.o HE.o)) rfl rfl rfl rfl (az.o)
    ·have HE:Hid (¬R.e=0):=(show ¬_ by
      rw[ag.o];exact show ¬(RS.fail ⟨t+3,q,0⟩ 4).e=0 from za9 (by decide))
     clear ag;go_wp2_with (first
      |(go_at_call 109;(with_reducible refine L.o.mono ?_);go_must (rintro e w3 ⟨rfl,u,J⟩;have T:=yo J;have z:=yo (ab.o w3 u);clear u J L))
      |(go_at_call 109;(with_reducible refine z.o.mono ?_);go_must (rintro e Y ⟨rfl,G,H⟩;have O:=yo (T.o.trans H);have an:=yo G; clear G H z)))
     go_ret3;exact If5.bad (Z.o (ai.o HE.o)) rfl rfl rfl rfl (ae.o _ _ O.o)
   ·have HE:Hid (¬S.e=0):=(show ¬_ by rw[<-HC.o];exact zmH rfl (zrP (by rw[ar.o];exact hf3)))
    by_cases hf1:t+1<=8*n
    ·have L:=yo (zbb r g n c1 t 1 A1 bs vq q most 1 wr rfl HF.o (by omega) hf1)
     have ab:=yo (fun w1 (h:FI w1 r g A1 n c1 (t+1) bs vq q most)=>zba r g n c1 (t+1) 2 A1 bs vq q most 2 w1 rfl h (by omega) (by omega));generalize zaj bs t 1=last at *;go_wp2_with (first
      |(go_at_call 109;(with_reducible refine L.o.mono ?_);go_must (rintro e w3 ⟨rfl,u,J⟩;have T:=yo J;have z:=yo (ab.o w3 u);clear u J L))
      |(go_at_call 109;(with_reducible refine z.o.mono ?_);go_must (rintro e Y ⟨rfl,G,H⟩;have O:=yo (T.o.trans H);have an:=yo G; clear G H z)))
     go_ret3;exact If5.bad (Z.o HE.o) rfl rfl rfl rfl (ae.o _ _ O.o)
    ·have L:=yo (zba r g n c1 t 1 A1 bs vq q most 1 wr rfl HF.o (by omega) hf1)
     have ab:=yo (fun w1 (h:FI w1 r g A1 n c1 t bs vq q most)=>zba r g n c1 t 2 A1 bs vq q most 2 w1 rfl h (by omega) (by omega));go_wp2_with (first
      |(go_at_call 109;(with_reducible refine L.o.mono ?_);go_must (rintro e w3 ⟨rfl,u,J⟩;have T:=yo J;have z:=yo (ab.o w3 u);clear u J L))
      |(go_at_call 109;(with_reducible refine z.o.mono ?_);go_must (rintro e Y ⟨rfl,G,H⟩;have O:=yo (T.o.trans H);have an:=yo G; clear G H z)))
     go_ret3;exact If5.bad (Z.o HE.o) rfl rfl rfl rfl (ae.o _ _ O.o)
end Go.Proofs.YtebbdifhiihfkaaGreatDoor

/- zlib: the document's Unpack, whatever comes. -/
namespace Go.Proofs.YtebbdifhiihfkaaGreatDoor
set_option linter.all false
set_option maxRecDepth 100000
set_option maxHeartbeats 6400000
open Go.RowKit
theorem zuO{bs:List UInt8}{x y:UInt8}(hx:bs[0]?=some x)(hy:bs[1]?=some y):hdV bs=x.toNat*256+y.toNat:=by
 unfold hdV;obtain⟨h1,q⟩:=List.getElem?_eq_some_iff.1 hy;cases bs with
 |nil=>simp at h1
 |cons a r =>
  cases r with
  |nil=>simp at h1
  |cons b r =>
   have o:a=x:=(by simpa using hx);have g:b=y:=(by simpa using hy);rw[o,g];show beV [x,y]=_;unfold beV;simp
/-- What the document's Unpack gives. -/
def Up5(bs:List UInt8)(most:Int)(w:World)(e:Ending)(w':World):Prop:=∃v,e=.returned (.tuple #[v,.int .i64 ((zax bs most).2.1:Int),.bool (decide ((zax bs most).2.2=0))])/\ownB w' w.heap.size v (zax bs most).1/\Below w.heap.size w w'
theorem zty{bs:List UInt8}{most:Int}(h:¬(zax bs most).2.2=0):(zax bs most).1=[]/\(zax bs most).2.1=0:=by
 unfold zax at h ⊢;split
 ·exact⟨rfl,rfl⟩
 ·rename_i h1
  rw[if_neg h1] at h;split
  ·exact⟨rfl,rfl⟩
  ·rename_i h2
   rw[if_neg h2] at h;split
   ·rename_i g
    rw[if_pos g] at h;split
    ·exact⟨rfl,rfl⟩
    ·rename_i h4
     rw[if_neg h4] at h;split
     ·rename_i o
      rw[if_pos o] at h;exact absurd rfl h
     ·exact⟨rfl,rfl⟩
   ·exact⟨rfl,rfl⟩
theorem Up5.bad{bs:List UInt8}{most:Int}{w w':World}{e:Ending}{v a b:Value}(h:¬(zax bs most).2.2=0)(he:e=.returned (.tuple #[v,a,b]))(hv:v=.slice none 0 0)(q:a=.int .i64 0)(g:b=.bool false)(o:Below w.heap.size w w'):Up5 bs most w e w':=by
 subst hv q g;obtain⟨h1,h2⟩:=zty h;refine⟨.slice none 0 0,?_,?_,o⟩
 ·rw[he,h2,decide_eq_false h]
  rfl
 ·rw[h1];exact ownB.nil_ _ _
theorem zps{bs:List UInt8}{most:Int}(h:bs.length<2):¬(zax bs most).2.2=0:=by
 have:zax bs most=([],0,2):=if_pos h;rw[this];exact show ¬(2:Int)=0 by decide
theorem zrQ{bs:List UInt8}{most:Int}(h:¬bs.length<2)(h2:¬zdo (hdV bs)):zax bs most=if(zak (bs.drop 2) most).2.2=0 then(if bs.length<2+(zak (bs.drop 2) most).2.1+4 then([],0,2) else if zdc bs (zak (bs.drop 2) most).2.1=zbm (zak (bs.drop 2) most).1 then((zak (bs.drop 2) most).1,2+(zak (bs.drop 2) most).2.1+4,0) else([],0,5)) else([],0,(zak (bs.drop 2) most).2.2):=by
 unfold zax;rw[if_neg h,if_neg h2]
theorem zng(B n c:Nat)(A:Option Addr)(bs:List UInt8)(most:Int)(w:World)(h:RdB w B A n bs)(hB:B<=w.heap.size)(hc:n<=c)(hn:n<=1000000):
  Calls Tryz.prog 62 #[.slice A n c,.int .i64 most] w (Up5 bs most w):=by
 have hl:=h.len;have HR:=yo h;by_cases h2:bs.length<2
 ·have M:=yo (zps (most:=most) h2)
  have Z:(n:Int)<2:=by omega
  have d2:decide ((n:Int)<2)=true:=decide_eq_true Z;clear h;go_enter Tryz.func62,Tryz.ntmps62;go_wp2_with fail;go_quiet (fail);go_wp2_with fail;go_ret3;exact Up5.bad M.o rfl rfl rfl rfl (zag (Below.refl _ _) _)
 ·have Z:¬(n:Int)<2:=by omega
  obtain⟨b,o,x,rfl,-,HX,c0⟩:=h.byte (show 0<n by omega);obtain⟨b',o',y,he,-,HY,c1⟩:=h.byte (show 1<n by omega);rw[Nat.add_zero] at c0;injection he with he;injection he with al ak;subst al ak;have hv:=zuO HX.o HY.o;have hF:=fun hb=>zrQ (bs:=bs) (most:=most) h2 hb
  have T:zdo (hdV bs)->¬(zax bs most).2.2=0:=fun hb=>zuu (by omega) hb
  have ab:zdo (hdV bs)↔(¬hdV bs / 256 % 16=8\/7<hdV bs / 4096\/¬hdV bs % 31=0\/¬hdV bs / 32 % 2=0):=Iff.rfl;have x8:=x.toNat_lt;have y8:=y.toNat_lt;have aq:0<n:=by omega
  have ax:1<n:=by omega
  have aw:(0:Int)<(n:Int):=by omega
  have ay:(1:Int)<(n:Int):=by omega
  have q1:bits .and .u8 (x.toNat:Int) 15=((x.toNat % 16:Nat):Int):=by
   have:=u8_and_nat x.toNat 15 (by omega) (by decide);rw[show(15:Nat)=2 ^ 4-1 from rfl,Nat.and_two_pow_sub_one_eq_mod] at this;exact this
  have q2:(x.toNat:Int) / 16=((x.toNat / 16:Nat):Int):=by omega
  have q3:bits .or .i64 ((x.toNat:Int)*256) (y.toNat:Int)=((x.toNat*256+y.toNat:Nat):Int):=zoj _ _ (by omega) (by omega);have q6:(y.toNat:Int) / 32=((y.toNat / 32:Nat):Int):=by omega
  have q7:bits .and .u8 ((y.toNat / 32:Nat):Int) 1=((y.toNat / 32 % 2:Nat):Int):=by
   have:=u8_and_nat (y.toNat / 32) 1 (by omega) (by decide);rw[Nat.and_one_is_mod] at this;exact this
  obtain⟨X,hX⟩:∃X,x.toNat=X:=⟨_,rfl⟩;obtain⟨Y,hY⟩:∃Y,y.toNat=Y:=⟨_,rfl⟩;rw[hX] at hv c0 x8 q1 q2 q3;rw[hY] at hv c1 y8 q3 q6 q7;obtain⟨n1,V⟩:∃z,X % 16=z:=⟨_,rfl⟩;obtain⟨n2,J⟩:∃z,X / 16=z:=⟨_,rfl⟩;obtain⟨N,hN⟩:∃z,X*256+Y=z:=⟨_,rfl⟩;obtain⟨O,W⟩:∃z,N % 31=z:=⟨_,rfl⟩;obtain⟨n5,R⟩:∃z,Y / 32=z:=⟨_,rfl⟩;obtain⟨n6,af⟩:∃z,Y / 32 % 2=z:=⟨_,rfl⟩;have D:zdo (hdV bs)↔(¬n1=8\/7<n2\/¬O=0\/n6=1):=by
   have e1:(X*256+Y) / 256=X:=(by omega);have e2:(X*256+Y) / 4096=X / 16:=(by omega);have e4:(X*256+Y) / 32=X*8+Y / 32:=(by omega);rw[ab,hv,e1,e2,e4,hN,V,J,W];omega
  have q4:(N:Int).tmod 31=(O:Int):=by rw[<-W];rfl
  have a6:(N:Int) % 31=(O:Int):=by omega
  rw[V] at q1;rw[J] at q2;rw[hN] at q3;rw[af,R] at q7;rw[R] at q6;have w4:IntKind.i64.wrap (O:Int)=(O:Int):=zaa O (by omega);have w1:IntKind.i64.wrap ((X:Int)*256)=(X:Int)*256:=by rw[show(X:Int)*256=((X*256:Nat):Int) by omega];exact zaa _ (by omega)
  have ap:n6<2:=by omega
  have wX:IntKind.i64.wrap (X:Int)=(X:Int):=zaa X (by omega);have wY:IntKind.i64.wrap (Y:Int)=(Y:Int):=zaa Y (by omega);have d2:decide ((n:Int)<2)=false:=decide_eq_false Z;clear ab hv V J hN W R af hX hY HX HY h;by_cases hbad:zdo (hdV bs)
  ·have M:=yo (T hbad)
   have hb:=D.1 hbad;have key:(((n1:Int) != 8)=true)\/(((n1:Int) != 8)=false/\decide ((7:Int)<(n2:Int))=true)\/(((n1:Int) != 8)=false/\decide ((7:Int)<(n2:Int))=false/\((O:Int) != 0)=true)\/(((n1:Int) != 8)=false/\decide ((7:Int)<(n2:Int))=false/\((O:Int) != 0)=false/\((n6:Int)==1)=true):=by
    rw[bne_iff_ne,bne_iff_ne,bne_eq_false_iff_eq,bne_eq_false_iff_eq,beq_iff_eq,decide_eq_true_iff,decide_eq_false_iff_not];omega
   clear hb D hbad T hF;rcases key with k1 | ⟨k1,k2⟩ | ⟨k1,k2,k3⟩ | ⟨k1,k2,k3,k4⟩ <;>
    ·go_enter Tryz.func62,Tryz.ntmps62
     go_wp2_with fail;go_quiet (fail);go_wp2_with fail;go_ret3;exact Up5.bad M.o rfl rfl rfl rfl (zag (Below.refl _ _) _)
  ·have g:=hF hbad
   obtain⟨k1,k2,k3,k4⟩:((n1:Int) != 8)=false/\decide ((7:Int)<(n2:Int))=false/\((O:Int) != 0)=false/\((n6:Int)==1)=false:=by
    rw[bne_eq_false_iff_eq,bne_eq_false_iff_eq,beq_eq_false_iff_ne,decide_eq_false_iff_not];have:=mt D.2 hbad;omega
   clear D hbad T hF;have a1:(2:Int)<=(n:Int):=(by omega);have a3:(2:Int)<=(c:Int):=(by omega);have av:2<=c:=(by omega);have P:RdB w B (some ⟨b,o+2,none⟩) (n-2) (bs.drop 2):=by
    have h1:=RdB.cut HR.o (k:=2) (m:=n-2) (by omega) (A':=some ⟨b,o+2,none⟩) (fun _=>by simp[Addr.add]);rwa[List.take_of_length_le (by rw[lld];omega)] at h1
   have H:=fun nq=>zhs B (n-2) (c-2) (some ⟨b,o+2,none⟩) (bs.drop 2) most (w.drewN nq) (P.blw (zag (Below.refl B w) nq)) hB (by omega)
   have C:=fun(J:bs.drop 2=[]) nq=>zhs B 0 0 (some ⟨b,o,none⟩) (bs.drop 2) most (w.drewN nq) (by rw[J];exact zir) hB (by omega)
   unfold If5 at H C;replace H:=yo H;replace C:=yo C;have G:Hid ((zak (bs.drop 2) most).2.2=0->1<=(zak (bs.drop 2) most).2.1/\(zak (bs.drop 2) most).2.1+2<=n/\(zak (bs.drop 2) most).1.length<=40000):=(show _->_ from fun h=>by
    have h1:=zhh h;have h3:=ze1 h;rw[lld] at h1;omega)
   obtain⟨⟨xs,u,E⟩,hI⟩:∃I,zak (bs.drop 2) most=I:=⟨_,rfl⟩;rw[hI] at H C G g;replace G:Hid (E=0->1<=u/\u+2<=n/\xs.length<=40000):=G;replace g:zax bs most=if E=0 then(if bs.length<2+u+4 then([],0,2) else if zdc bs u=zbm xs then(xs,2+u+4,0) else([],0,5)) else([],0,E):=g;dsimp only at H C;clear hI P;by_cases hE:E=0
   ·rw[if_pos hE] at g
    rw[decide_eq_true hE] at H;obtain⟨ar,hu,ao⟩:=G.o hE;have ai:¬c=2:=(by omega);have ae:(n:Int)-2=((n-2:Nat):Int):=(by omega);have ac:(n:Int)-2-(u:Int)=((n-2-u:Nat):Int):=(by omega);have a4:IntKind.i64.wrap ((n:Int)-2)=(n:Int)-2:=(by rw[ae];exact zaa _ (by omega));have az:IntKind.i64.wrap ((n:Int)-2-(u:Int))=(n:Int)-2-(u:Int):=(by rw[ac];exact zaa _ (by omega));have hk:(2:Int)+(u:Int)=((2+u:Nat):Int):=(by omega);obtain⟨K,hK⟩:∃K,2+u=K:=⟨_,rfl⟩;rw[hK] at hk g;have a2:IntKind.i64.wrap (K:Int)=(K:Int):=zaa K (by omega);clear ae ac C G hE;by_cases h4:bs.length<K+4
    ·have am:(n:Int)-2-(u:Int)<4:=by omega
     have M:Hid (¬(zax bs most).2.2=0):=(show ¬_ by rw[g,if_pos h4];exact show ¬(2:Int)=0 by decide);clear g h4;go_enter Tryz.func62,Tryz.ntmps62;go_wp2_with fail;go_quiet (fail);go_wp2_with ((go_at_call 90;(with_reducible refine(H.o nq).mono ?_);go_must (rintro e w2 ⟨v2,rfl,q,r⟩;obtain⟨A2,c2,rfl,-,-,-⟩:=q.form;have t:=yo (Below.trans (zag (Below.refl w.heap.size w) nq) r); clear q r)));go_ret3;exact Up5.bad M.o rfl rfl rfl rfl (t.o)
    ·have am:¬(n:Int)-2-(u:Int)<4:=by omega
     rw[if_neg h4] at g;have ag:rdR beV bs (K:Int) 4=((zdc bs u:Int),0):=by
      unfold rdR zdc;rw[if_neg (by omega),if_neg (by omega),Int.toNat_natCast,hK];rfl
     have S:=yo (fun w1 (h:RdB w1 B (some ⟨b,o,none⟩) n bs)=>zdd B n c (some ⟨b,o,none⟩) bs (K:Int) 4 w1 h (by omega));rw[ag] at S;have hs:=zn0 (bs:=bs) (u:=u) (by omega);have ha:=zgo xs;have ah:=yo (fun A2 c2 w2 w1 (h:RdB w1 w2 A2 xs.length xs)=>zpi w2 xs.length c2 A2 xs w1 h (by omega));obtain⟨U,hU⟩:∃U,K+4=U:=⟨_,rfl⟩;rw[hU] at g;have a0:(u:Int)+6=(U:Int):=(by omega);have au:IntKind.i64.wrap (U:Int)=(U:Int):=zaa U (by omega);have a5:=yo ao;clear ag hU hK h4;generalize zdc bs u=s at *;generalize zbm xs=ad at *;by_cases hsum:s=ad
     ·have dS:((s:Int) != (ad:Int))=false:=by rw[hsum];exact bne_self_eq_false _
      rw[if_pos hsum] at g;have HF:=yo g;clear g hsum;go_enter Tryz.func62,Tryz.ntmps62;go_wp2_with fail;go_quiet (fail);go_wp2_with (first
       |(go_at_call 90;(with_reducible refine(H.o nq).mono ?_);go_must (rintro e w2 ⟨v2,rfl,q,r⟩;obtain⟨A2,c2,rfl,-,-,-⟩:=q.form;have t:=yo (Below.trans (zag (Below.refl w.heap.size w) nq) r);have aj:=yo q;have F:=yo (S.o w2 (HR.o.blw (t.o.mono hB)));have L:=yo (ah.o A2 c2 w2.heap.size w2 (ownB.rd q));clear q r))
       |(go_at_call 23;(with_reducible refine F.o.mono ?_);go_must (rintro e w3 ⟨rfl,rfl⟩))
       |(go_at_call 91;(with_reducible refine L.o.mono ?_);go_must (rintro e w4 ⟨rfl,rfl⟩)))
      go_ret3;refine⟨.slice A2 xs.length c2,?_,?_,t.o⟩
      ·rw[HF.o];rfl
      ·rw[HF.o];exact aj.o
     ·have dS:((s:Int) != (ad:Int))=true:=by rw[bne_iff_ne];omega
      rw[if_neg hsum] at g;have M:Hid (¬(zax bs most).2.2=0):=(show ¬_ by rw[g];exact show ¬(5:Int)=0 by decide);clear g hsum;go_enter Tryz.func62,Tryz.ntmps62;go_wp2_with fail;go_quiet (fail);go_wp2_with (first
       |(go_at_call 90;(with_reducible refine(H.o nq).mono ?_);go_must (rintro e w2 ⟨v2,rfl,q,r⟩;obtain⟨A2,c2,rfl,-,-,-⟩:=q.form;have t:=yo (Below.trans (zag (Below.refl w.heap.size w) nq) r);have aj:=yo q;have F:=yo (S.o w2 (HR.o.blw (t.o.mono hB)));have L:=yo (ah.o A2 c2 w2.heap.size w2 (ownB.rd q));clear q r))
       |(go_at_call 23;(with_reducible refine F.o.mono ?_);go_must (rintro e w3 ⟨rfl,rfl⟩))
       |(go_at_call 91;(with_reducible refine L.o.mono ?_);go_must (rintro e w4 ⟨rfl,rfl⟩)))
      go_ret3;exact Up5.bad M.o rfl rfl rfl rfl (t.o)
   ·rw[if_neg hE] at g
    have M:Hid (¬(zax bs most).2.2=0):=(show ¬_ by rw[g];exact hE);rw[decide_eq_false hE] at H C;clear g;by_cases ai:c=2
    ·have an:bs.drop 2=[]:=List.drop_eq_nil_of_le (by omega)
     have aa:=yo (C.o an);obtain rfl:n=2:=by omega
     subst ai;go_enter Tryz.func62,Tryz.ntmps62;go_wp2_with fail;go_quiet (fail);go_wp2_with ((go_at_call 90;(with_reducible refine(aa.o nq).mono ?_);go_must (rintro e w2 ⟨v2,rfl,q,r⟩;obtain⟨A2,c2,rfl,-,-,-⟩:=q.form;have t:=yo (Below.trans (zag (Below.refl w.heap.size w) nq) r); clear q r)));go_ret3;exact Up5.bad M.o rfl rfl rfl rfl (t.o)
    ·go_enter Tryz.func62,Tryz.ntmps62
     go_wp2_with fail;go_quiet (fail);go_wp2_with ((go_at_call 90;(with_reducible refine(H.o nq).mono ?_);go_must (rintro e w2 ⟨v2,rfl,q,r⟩;obtain⟨A2,c2,rfl,-,-,-⟩:=q.form;have t:=yo (Below.trans (zag (Below.refl w.heap.size w) nq) r); clear q r)));go_ret3;exact Up5.bad M.o rfl rfl rfl rfl (t.o)
theorem zpt(B n c:Nat)(A:Option Addr)(bs:List UInt8)(most:Int)(w:World)(h:RdB w B A n bs)(J:B<=w.heap.size)(H:n<=c)(G:n<=1000000):
  Calls Tryz.prog 36 #[.slice A n c,.int .i64 most] w fun e w'=>∃v,e=.returned (.tuple #[v,.bool (decide ((zcB bs most).2=0))])/\ownB w' w.heap.size v (zcB bs most).1/\Below w.heap.size w w':=by
 have L:=h.len;have s:=zng B n c A bs most w h J H G;unfold Up5 at s;replace s:=yo s;have t:zcB bs most=if(zax bs most).2.2=0 then(if(zax bs most).2.1<bs.length then([],3) else((zax bs most).1,0)) else([],(zax bs most).2.2):=rfl;have r:=zgw (bs:=bs) (most:=most);clear h;obtain⟨⟨xs,u,E⟩,D⟩:∃I,zax bs most=I:=⟨_,rfl⟩;rw[D] at s r t;clear D;replace r:E=0->u<=bs.length/\xs.length<=40000/\((xs.length:Nat):Int)<=most:=r;replace t:zcB bs most=if E=0 then(if u<bs.length then([],3) else(xs,0)) else([],E):=t;dsimp only at s;by_cases hE:E=0
 ·rw[if_pos hE] at t
  rw[decide_eq_true hE] at s;by_cases hu:u<bs.length
  ·rw[if_pos hu] at t
   rw[t];have C:(u:Int)<(n:Int):=(by omega);clear r;go_enter Tryz.func36,Tryz.ntmps36;go_wp2_with (go_at_call 62;(with_reducible refine s.o.mono ?_);go_must (rintro e w2 ⟨F,rfl,g,o⟩;obtain⟨A2,c2,rfl,-,-,-⟩:=g.form;have q:=yo o;clear g o));go_ret2;exact⟨.slice none 0 0,rfl,ownB.nil_ _ _,q.o⟩
  ·rw[if_neg hu] at t
   rw[t];have C:¬(u:Int)<(n:Int):=(by omega);clear r;go_enter Tryz.func36,Tryz.ntmps36;go_wp2_with (go_at_call 62;(with_reducible refine s.o.mono ?_);go_must (rintro e w2 ⟨F,rfl,g,o⟩;obtain⟨A2,c2,rfl,-,-,-⟩:=g.form;have z:=yo g;have q:=yo o;clear g o));go_ret2;exact⟨.slice A2 xs.length c2,rfl,z.o,q.o⟩
 ·rw[if_neg hE] at t
  rw[decide_eq_false hE] at s;rw[t];have dec:decide ((([]:List UInt8),E).2=0)=false:=decide_eq_false hE;rw[dec];go_enter Tryz.func36,Tryz.ntmps36;go_wp2_with (go_at_call 62;(with_reducible refine s.o.mono ?_);go_must (rintro e w2 ⟨F,rfl,g,o⟩;obtain⟨A2,c2,rfl,-,-,-⟩:=g.form;have q:=yo o;clear g o));go_ret2;exact⟨.slice none 0 0,rfl,ownB.nil_ _ _,q.o⟩
end Go.Proofs.YtebbdifhiihfkaaGreatDoor

