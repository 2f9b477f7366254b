/- XRfP XIq1 XIq2 XIq3 XIq4 XIq5 XIqP -/
import Derived.Test.YtebbdifhiihfkaaGreatDoorMm26
import Derived.Test.YtebbdifhiihfkaaGreatDoorMm20
import Derived.Test.YtebbdifhiihfkaaGreatDoorMm16
import Derived.Test.YtebbdifhiihfkaaGreatDoorMm24
import Derived.Deep.QuietTactic
namespace Go.Proofs.YtebbdifhiihfkaaGreatDoor
set_option linter.all false
/-- What came out, copied on. -/
def zcI(zaf:Nat):Nat->List UInt8->List UInt8
 |0,out=>out
 |k+1,out=>zcI zaf k (out++[out.getD (out.length-zaf) 0])
theorem zeB{most:Int}{s:RS}{x:UInt8}(h:(s.o.length:Int)<most):zas most s x=⟨s.p,s.o++[x],s.e⟩:=if_neg (by omega)
theorem zgz{most:Int}{s:RS}{x:UInt8}(h:most<=(s.o.length:Int)):¬(zas most s x).e=0:=by
 unfold zas;rw[if_pos h];exact za9 (by decide)
theorem zn6{most:Int}{zaf:Nat}:∀(k:Nat) {s:RS},s.e=0->(s.o.length:Int)+(k:Int)<=most->zcH most zaf k s=⟨s.p,zcI zaf k s.o,0⟩
 |0,s,he,h=>by
  obtain⟨p,out,e⟩:=s;have:e=0:=he;subst this;rfl
 |k+1,s,he,h=>by
  rw[zcH,if_pos he,zeB (by omega)];exact zn6 k he (by rw[lla];show((s.o.length+1:Nat):Int)+(k:Int)<=most;omega)
theorem zmD{most:Int}{zaf:Nat}:∀(k:Nat) {s:RS},(s.o.length:Int)<=most->most<(s.o.length:Int)+(k:Int)->¬(zcH most zaf k s).e=0
 |0,s,h1,h2=>by omega
 |k+1,s,h1,h2=>by
  rw[zcH];split
  ·rename_i he
   by_cases h3:(s.o.length:Int)<most
   ·rw[zeB h3]
    refine zmD k ?_ ?_
    ·rw[lla];show((s.o.length+1:Nat):Int)<=most;omega
    ·rw[lla];show most<((s.o.length+1:Nat):Int)+(k:Int);omega
   ·have h4:=zgz (x:=s.o.getD (s.o.length-zaf) 0) (show most<=(s.o.length:Int) by omega)
    rw[zed h4];exact h4
  ·rename_i he;exact he
theorem zrE{most:Int}{s:RS}{len zaf:Nat}(he:s.e=0)(h1:zaf<=s.o.length)(h2:(s.o.length:Int)+(len:Int)<=most):za1 most s len zaf=⟨s.p,zcI zaf len s.o,0⟩:=by
 unfold za1;rw[if_neg (by omega)];exact zn6 len he h2
theorem zjl{most:Int}{s:RS}{len zaf:Nat}(g:(s.o.length:Int)<=most)(h:¬(zaf<=s.o.length/\(s.o.length:Int)+(len:Int)<=most)):¬(za1 most s len zaf).e=0:=by
 unfold za1;by_cases h1:s.o.length<zaf
 ·rw[if_pos h1]
  have h4:¬(s.fail 1).e=0:=za9 (by decide);rw[zed h4];exact h4
 ·rw[if_neg h1]
  exact zmD len g (by omega)
theorem zmE(zaf:Nat):∀(k:Nat) (out:List UInt8),(zcI zaf k out).length=out.length+k
 |0,out=>rfl
 |k+1,out=>by rw[zcI,zmE zaf k,lla];show out.length+1+k=_;omega
theorem zkQ(zaf:Nat):∀(k:Nat) (out:List UInt8),zcI zaf (k+1) out=zcI zaf k out++[(zcI zaf k out).getD ((zcI zaf k out).length-zaf) 0]
 |0,out=>rfl
 |k+1,out=>by
  rw[zcI,zkQ zaf k];rfl
/-- Bits got, or not. -/
theorem za2{bs:List UInt8}{s:RS}{m:Nat}(he:s.e=0)(h:s.p+m<=8*bs.length):zac bs s m=(zaj bs s.p m,⟨s.p+m,s.o,0⟩):=by
 unfold zac;rw[if_pos he,if_pos h]
theorem zbs{bs:List UInt8}{s:RS}{m:Nat}(h:¬s.p+m<=8*bs.length):¬(zac bs s m).2.e=0:=by
 unfold zac;by_cases he:s.e=0
 ·rw[if_pos he,if_neg h];exact show ¬(2:Int)=0 by decide
 ·rw[if_neg he];exact he
theorem zmF{bs:List UInt8}{s:RS}{m:Nat}(h:¬s.e=0):¬(zac bs s m).2.e=0:=fun g=>h (zbK g).1
/-- Tokens, one step. -/
theorem ztq{bs:List UInt8}{most:Int}{g:List Int}{dl:Option (List Int)}{f:Nat}{s:RS}(he:s.e=0)(h1:(zad bs g s).2.e=0)(h2:(zad bs g s).1=256):zaG bs most g dl (f+1) s=(zad bs g s).2:=by rw[zaG,if_pos he,if_pos h1,if_pos h2]
theorem ztr{bs:List UInt8}{most:Int}{g:List Int}{dl:Option (List Int)}{f:Nat}{s:RS}(he:s.e=0)(h1:¬(zad bs g s).2.e=0):¬(zaG bs most g dl (f+1) s).e=0:=by rw[zaG,if_pos he,if_neg h1];exact h1
theorem zrF{bs:List UInt8}{most:Int}{g:List Int}{dl:Option (List Int)}{f:Nat}{s:RS}(he:s.e=0)(h1:(zad bs g s).2.e=0)(h2:(zad bs g s).1<256):zaG bs most g dl (f+1) s=zaG bs most g dl f (zas most (zad bs g s).2 (UInt8.ofNat (zad bs g s).1.toNat)):=by rw[zaG,if_pos he,if_pos h1,if_neg (by omega),if_pos h2]
theorem zkR{bs:List UInt8}{most:Int}{g:List Int}{dl:Option (List Int)}{f:Nat}{s:RS}(he:s.e=0)(h1:(zad bs g s).2.e=0)(h2:256<(zad bs g s).1):zaG bs most g dl (f+1) s=zaG bs most g dl f (za3 bs most (zad bs g s).2 (zad bs g s).1.toNat dl):=by rw[zaG,if_pos he,if_pos h1,if_neg (by omega),if_neg (by omega)]
theorem zde{bs:List UInt8}{most:Int}{g:List Int}{dl:Option (List Int)}{f:Nat}{s:RS}(he:¬s.e=0):¬(zaG bs most g dl f s).e=0:=by rw[zhc he];exact he
theorem zpk{bs:List UInt8}{most:Int}{s:RS}{q:Nat}{dl:Option (List Int)}(h:286<=q):¬(za3 bs most s q dl).e=0:=by
 unfold za3;rw[if_pos h];exact za9 (by decide)
theorem zrG{bs:List UInt8}{most:Int}{s:RS}{q:Nat}{dl:Option (List Int)}(h:¬(zac bs s (lenOf (q-257)).2).2.e=0):¬(za3 bs most s q dl).e=0:=by
 unfold za3;by_cases h2:286<=q
 ·rw[if_pos h2];exact za9 (by decide)
 ·rw[if_neg h2,if_neg h];exact h
theorem zpl{bs:List UInt8}{most:Int}{s:RS}{q:Nat}:¬(za3 bs most s q none).e=0:=by
 unfold za3;split
 ·exact za9 (by decide)
 ·split
  ·exact za9 (by decide)
  ·assumption
theorem zts{bs:List UInt8}{most:Int}{s:RS}{q:Nat}{g:List Int}(hq:q<286)(h:(zac bs s (lenOf (q-257)).2).2.e=0):za3 bs most s q (some g)=cpB bs most (zac bs s (lenOf (q-257)).2).2 ((lenOf (q-257)).1+(zac bs s (lenOf (q-257)).2).1) (some g):=by
 unfold za3;rw[if_neg (by omega),if_pos h]
theorem zjm{most:Int}{s:RS}{len zaf:Nat}(h:¬s.e=0):¬(za1 most s len zaf).e=0:=by
 unfold za1;have h4:¬(if s.o.length<zaf then s.fail 1 else s).e=0:=by
  split
  ·exact fun g=>h (zfW g)
  ·exact h
 rw[zed h4];exact h4
theorem zuE{bs:List UInt8}{most:Int}{s:RS}{len:Nat}{g:List Int}(h:¬((zad bs g s).2.e=0/\(zad bs g s).1<30)):¬(cpB bs most s len (some g)).e=0:=by
 rw[cpB];by_cases h1:(zad bs g s).2.e=0
 ·rw[if_pos ⟨h1,by have:¬(zad bs g s).1<30:=fun o=>h ⟨h1,o⟩;omega⟩]
  exact za9 (by decide)
 ·rw[if_neg (fun o=>h1 o.1)]
  exact zjm (zmF h1)
theorem zrH{bs:List UInt8}{most:Int}{s:RS}{len:Nat}{g:List Int}(h1:(zad bs g s).1<30):cpB bs most s len (some g)=za1 most (zac bs (zad bs g s).2 (zae (zad bs g s).1.toNat).2).2 len ((zae (zad bs g s).1.toNat).1+(zac bs (zad bs g s).2 (zae (zad bs g s).1.toNat).2).1):=by
 rw[cpB,if_neg (by omega)]
end Go.Proofs.YtebbdifhiihfkaaGreatDoor

/- flate: the document's reader of blocks: bits got, a byte given out. -/
namespace Go.Proofs.YtebbdifhiihfkaaGreatDoor
set_option linter.all false
set_option maxRecDepth 100000
set_option maxHeartbeats 1600000
open Go.RowKit
/-- The document's reader of blocks: how far it has come, what came out. -/
structure FI(w:World)(r g:Nat)(A:Option Addr)(n c P:Nat)(bs:List UInt8)(vo:Value)(out:List UInt8)(most:Int):Prop where
 arr:Arr w r [.pointer (some ⟨g,0,none⟩),vo,.int .i64 most]
 rd:Arr w g (rdr A n c P)
 rb:RdB w g A n bs
 own:ownB w (r+1) vo out
 gr:g<r
 fit:P<=8*n
 big:n<=1000000
section
variable {w w' : World} {r g : Nat} {A : Option Addr} {n c P P' : Nat} {bs : List UInt8} {vo : Value} {out : List UInt8} {most : Int}
theorem FI.drewN(h:FI w r g A n c P bs vo out most)(q:Nat):FI (w.drewN q) r g A n c P bs vo out most :=
 ⟨h.arr.drewN q,h.rd.drewN q,h.rb.blw ((zag (Below.refl g w) q)),h.own.drewN q,h.gr,h.fit,h.big⟩
theorem FI.moved(h:FI w r g A n c P bs vo out most)(s:Arr w' g (rdr A n c P'))(hg:w.grownBy w' (some g))(t:P'<=8*n):FI w' r g A n c P' bs vo out most:=by
 have o:=h.gr;refine⟨h.arr.gro hg (by omega),s,h.rb.blw (zd7 hg (Nat.le_of_lt h.rd.lt) (nlr _)),World.ownsRow.kept h.own hg ?_,o,t,h.big⟩;cases e:vo.ownBlock with
 |none=>exact .inl rfl
 |some k=>exact .inr (fun q=>by injection q with q;have:=(olt h.own k e).1;omega)
theorem FI.later(h:FI w r g A n c P bs vo out most)(o:Below w.heap.size w w'):FI w' r g A n c P bs vo out most :=
 ⟨h.arr.later o,h.rd.later o,h.rb.blw (o.mono (Nat.le_of_lt h.rd.lt)),ownB.later h.own o,h.gr,h.fit,h.big⟩
/-- A byte appended: what stands behind the store. -/
theorem FI.gave{s:World}{x:UInt8}{o:Obj}{z:Value}(h:FI w r g A n c P bs vo out most)(q:ownB s (r+1) z (out++[x]))(F:(w.alloc o).grownBy s vo.ownBlock)(t:Below (r+1) (w.alloc o) s)(C:z.ownBlock=vo.ownBlock\/z.ownBlock=some (w.alloc o).heap.size):
  FI (s.setCell ⟨r,1,none⟩ z) r g A n c P bs z (out++[x]) most/\RFr w (s.setCell ⟨r,1,none⟩ z) r g vo z/\s.cell? ⟨r,1,none⟩=some vo/\s.frozen? ⟨r,1,none⟩=false:=by
 have E:=h.gr;have D:=(RFr.grown (r:=r) (g:=g) o F C);have u:=(h.arr.alloc o).blw t (Nat.lt_succ_self r);have G:=(h.rd.alloc o).blw t (by omega);have B:=RdB.blw (Rd.alloc h.rb (by have:=h.rd.lt;omega) o) (t.mono (by omega));exact⟨⟨u.set 1 _,G.far (p:=⟨r,1,none⟩) (by show r≠g;omega) _,B.blw ((Below.refl g s).setCell (p:=⟨r,1,none⟩) (by show g<=r;omega) _),ownB.far q (g:=r) (zbu q (Nat.lt_succ_self r)) 1 _,E,h.fit,h.big⟩,D.set1 1 _,u.cell (k:=1) rfl,u.frozen 1⟩
end
section
variable (r g n c P m : Nat) (A : Option Addr) (bs : List UInt8) (vo : Value) (out : List UInt8) (most : Int) (M : Int) (w : World)
theorem zbb(B:M=(m:Int))(h:FI w r g A n c P bs vo out most)(z:m<=24)(o:P+m<=8*n):
  Calls Tryz.prog 109 #[.pointer (some ⟨r,0,none⟩),.int .i64 M] w fun e w'=>e=.returned (.tuple #[.int .i64 ((zaj bs P m:Nat):Int),.bool true])/\FI w' r g A n c (P+m) bs vo out most/\RFr w w' r g vo vo:=by
 subst B;have H:=yo h;have D:=yo (zlR g g n c P m A bs w h.rd h.rb (nlr _) (by have:=h.big;omega) h.fit z o);have E:=h.arr.cell (k:=0) rfl;have hv:=zbw bs P m;have C:zaj bs P m<16777216:=Nat.lt_of_lt_of_le hv (Nat.pow_le_pow_right (by decide) z);clear h hv;generalize zaj bs P m=v at *;go_enter Tryz.func109,Tryz.ntmps109;go_wp2_with (go_at_call 136;(with_reducible refine D.o.mono ?_);go_must (rintro e w1 ⟨rfl,q,t⟩;have u:=yo q;have s:=yo t;clear q t));go_ret2;exact⟨rfl,H.o.moved u.o s.o o,RFr.ofG s.o r vo⟩
theorem zba(u:M=(m:Int))(h:FI w r g A n c P bs vo out most)(B:m<=24)(t:¬P+m<=8*n):
  Calls Tryz.prog 109 #[.pointer (some ⟨r,0,none⟩),.int .i64 M] w fun e w'=>e=.returned (.tuple #[.int .i64 0,.bool false])/\FI w' r g A n c P bs vo out most/\RFr w w' r g vo vo:=by
 subst u;have H:=yo h;have z:=yo (ziP g n c P m A w h.rd (by have:=h.big;omega) h.fit B (by omega));have C:=h.arr.cell (k:=0) rfl;clear h;go_enter Tryz.func109,Tryz.ntmps109;go_wp2_with (go_at_call 136;(with_reducible refine z.o.mono ?_);go_must (rintro e w1 ⟨rfl,o⟩;have q:=yo (zd8 o g);have s:=yo (H.o.rd.gbN o);clear o));go_ret2;exact⟨rfl,H.o.moved s.o q.o H.o.fit,RFr.ofG q.o r vo⟩
end
end Go.Proofs.YtebbdifhiihfkaaGreatDoor

/- flate: the document's reader of blocks: a stored block. -/
namespace Go.Proofs.YtebbdifhiihfkaaGreatDoor
set_option linter.all false
set_option maxRecDepth 100000
set_option maxHeartbeats 3200000
open Go.RowKit
theorem zkS{bs:List UInt8}{most:Int}:∀(k:Nat) {s:RS},s.e=0->(s.o.length:Int)<=most->most<(s.o.length:Int)+(k:Int)->¬(za0 bs most k s).e=0
 |0,s,he,h1,h2=>by omega
 |k+1,s,he,h1,h2=>by
  rw[za0,if_pos he];by_cases hg:(zac bs s 8).2.e=0
  ·rw[if_pos hg]
   by_cases hm:most<=(s.o.length:Int)
   ·have o:¬(zas most (zac bs s 8).2 (UInt8.ofNat (zac bs s 8).1)).e=0:=zgz (by rw[zaI];exact hm)
    rw[zcU o];exact o
   ·rw[zeB (by rw[zaI];omega),zaI]
    refine zkS k hg ?_ ?_
    ·show((s.o++[_]).length:Int)<=most
     rw[lla];show((s.o.length+1:Nat):Int)<=most;omega
    ·show most<((s.o++[_]).length:Int)+_
     rw[lla];show most<((s.o.length+1:Nat):Int)+_;omega
  ·rw[if_neg hg];exact hg
theorem zuF{bs:List UInt8}{most:Int}{k P:Nat}{out:List UInt8}(q:P+8<=8*bs.length)(o:(out.length:Int)<most):za0 bs most (k+1) ⟨P,out,0⟩=za0 bs most k ⟨P+8,out++[UInt8.ofNat (zaj bs P 8)],0⟩:=by
 rw[za0,if_pos rfl,za2 rfl q,if_pos rfl,zeB o]
theorem zpm{bs:List UInt8}{most:Int}{k P:Nat}{out:List UInt8}(o:¬P+8<=8*bs.length):¬(za0 bs most (k+1) ⟨P,out,0⟩).e=0:=by
 have hg:¬(zac bs ⟨P,out,0⟩ 8).2.e=0:=zbs o;rw[za0,if_pos rfl,if_neg hg];exact hg
theorem ztt{bs:List UInt8}{most:Int}{P Q N:Nat}{out:List UInt8}(o:8*((P+7) / 8)=Q)(z:Q+32<=8*bs.length)(s:zaj bs Q 16=N)(hs:N+zaj bs (Q+16) 16=65535):zbl bs most ⟨P,out,0⟩=za0 bs most N ⟨Q+32,out,0⟩:=by
 have q:pl0 ⟨P,out,0⟩=⟨Q,out,0⟩:=by rw[<-o];rfl
 have u:zac bs (⟨Q,out,0⟩:RS) 16=(N,⟨Q+16,out,0⟩):=by rw[za2 rfl (by show Q+16<=_;omega),<-s]
 have t:zac bs (⟨Q+16,out,0⟩:RS) 16=(zaj bs (Q+16) 16,⟨Q+32,out,0⟩):=by rw[za2 rfl (by show Q+16+16<=_;omega)]
 unfold zbl pl3 pl2;rw[q,u];show za0 bs most N (if(zac bs (⟨Q+16,out,0⟩:RS) 16).2.e=0/\¬N+(zac bs (⟨Q+16,out,0⟩:RS) 16).1=65535 then _ else _)=_;rw[t,if_neg (fun h=>h.2 hs)]
theorem zrI{bs:List UInt8}{most:Int}{P Q:Nat}{out:List UInt8}(z:8*((P+7) / 8)=Q)(h:¬(Q+32<=8*bs.length/\zaj bs Q 16+zaj bs (Q+16) 16=65535)):¬(zbl bs most ⟨P,out,0⟩).e=0:=by
 have t:pl0 ⟨P,out,0⟩=⟨Q,out,0⟩:=by rw[<-z];rfl
 have key:¬(pl3 bs ⟨P,out,0⟩).e=0:=by
  unfold pl3;by_cases h2:(pl2 bs ⟨P,out,0⟩).e=0
  ·have o:(zac bs (zac bs (⟨Q,out,0⟩:RS) 16).2 16).2.e=0:=by
    unfold pl2 at h2;rw[t] at h2;exact h2
   have u:Q+16<=8*bs.length:=by
    apply Classical.byContradiction;intro q;exact zmF (zbs (s:=⟨Q,out,0⟩) q) o
   rw[za2 (s:=⟨Q,out,0⟩) rfl u] at o;have B:Q+16+16<=8*bs.length:=by
    apply Classical.byContradiction;intro q;exact zbs (s:=⟨Q+16,out,0⟩) q o
   have hs:¬zaj bs Q 16+zaj bs (Q+16) 16=65535:=fun e=>h ⟨by omega,e⟩
   rw[if_pos ⟨h2,by rw[t,za2 (s:=⟨Q,out,0⟩) rfl u];show ¬zaj bs Q 16+(zac bs (⟨Q+16,out,0⟩:RS) 16).1=65535;rw[za2 (s:=⟨Q+16,out,0⟩) rfl B];exact hs⟩];exact za9 (by decide)
  ·rw[if_neg (fun C=>h2 C.1)]
   exact h2
 unfold zbl;rw[zcU key];exact key
theorem zpn(g n c P:Nat)(A:Option Addr)(w:World)(h:Arr w g (rdr A n c P))(E:P<=8000000):
  Calls Tryz.prog 137 #[.pointer (some ⟨g,0,none⟩)] w fun e w'=>e=.returned (.tuple #[])/\Arr w' g (rdr A n c (8*((P+7) / 8)))/\w.grownBy w' (some g):=by
 have c1:=h.cell (k:=1) rfl;have B:=h.frozen 1;obtain⟨Q,q⟩:∃Q,(P+7) / 8=Q:=⟨_,rfl⟩;rw[q];have F:((P:Int)+7).tdiv 8=(Q:Int):=by rw[show(P:Int)+7=((P+7:Nat):Int) by omega,<-q];rfl
 have z:((P:Int)+7) / 8=(Q:Int):=by omega
 have C:(Q:Int)*8=((8*Q:Nat):Int):=by omega
 have u:=yo (h.set 1 (.int .i64 ((8*Q:Nat):Int)));have t:=yo (ziO (o:=1) (zhD w (some g)) (.int .i64 ((8*Q:Nat):Int)));have D:wrap64 ((Q:Int)*8)=(Q:Int)*8:=zb6 _ (by omega) (by omega);have s:8*Q<=8000008:=by omega
 clear h;go_enter Tryz.func137,Tryz.ntmps137;go_wp2_with fail;(try simp only[Exit.inBlock,Exit.then])
 first|(refine bodyPost_ret (results_none rfl _ _ _) rfl ?_)|(refine bodyPost_end (results_none rfl _ _ _) rfl ?_)
 exact⟨rfl,u.o,t.o⟩
section
variable (r g n c P : Nat) (A : Option Addr) (bs : List UInt8) (vo : Value) (out : List UInt8) (most : Int) (w : World)
/-- What a part of the document's reader leaves: true and the plain state, or false where the plain state is an error. -/
def zbc(R:RS)(e:Ending)(w':World):Prop:=∃ok P' vo' out',e=.returned (.bool ok)/\FI w' r g A n c P' bs vo' out' most/\RFr w w' r g vo vo'/\((ok=true/\R=⟨P',out',0⟩)\/(ok=false/\¬R.e=0))
theorem znc(h:FI w r g A n c P bs vo out most)(ho:(out.length:Int)<=most)(hm:most<=1000000):
  Calls Tryz.prog 110 #[.pointer (some ⟨r,0,none⟩)] w (zbc r g n c A bs vo most w (zbl bs most ⟨P,out,0⟩)):=by
 obtain⟨Q,hQ⟩:∃Q,8*((P+7) / 8)=Q:=⟨_,rfl⟩;have aa:=h.rb.len;have aA:=h.fit;have a8:=h.big;have az:Q<=8*n:=by omega
 have c0:=h.arr.cell (k:=0) rfl;obtain⟨Ap,cp,ax,-,-,-⟩:=h.own.form;subst ax;have O:=yo (zpn g n c P A w h.rd (by omega));rw[hQ] at O;have W:Hid (∀w1,Arr w1 g (rdr A n c Q)->w.grownBy w1 (some g)->FI w1 r g A n c Q bs (.slice Ap out.length cp) out most):=(show ∀w1,_ from fun w1 ha hg=>h.moved ha hg az);have q:=yo (fun hh=>zrI (bs:=bs) (most:=most) (out:=out) hQ hh);rw[aa] at q;clear h;by_cases f1:Q+16<=8*n
 ·have B:=yo (fun w1 (h:FI w1 r g A n c Q bs (.slice Ap out.length cp) out most)=>zbb r g n c Q 16 A bs _ out most 16 w1 rfl h (by omega) f1)
  by_cases f2:Q+32<=8*n
  ·have F:=yo (fun w1 (h:FI w1 r g A n c (Q+16) bs (.slice Ap out.length cp) out most)=>zbb r g n c (Q+16) 16 A bs _ out most 16 w1 rfl h (by omega) (by omega))
   have v1:=zbw bs Q 16;have v2:=zbw bs (Q+16) 16;have aq:=yo (fun N hN hs=>ztt (bs:=bs) (most:=most) (out:=out) (N:=N) hQ (by rw[aa];exact f2) hN hs);generalize zbl bs most ⟨P,out,0⟩=R at *;obtain⟨N,hN⟩:∃N,zaj bs Q 16=N:=⟨_,rfl⟩;obtain⟨M,hM⟩:∃M,zaj bs (Q+16) 16=M:=⟨_,rfl⟩;rw[hN] at B v1 q;rw[hM] at F v2 q;have af:Hid (N+M=65535->R=za0 bs most N ⟨Q+32,out,0⟩):=(show _->_ from fun hs=>aq.o N hN (by rw[hM];exact hs));clear aq hN hM hQ;obtain⟨L,hL⟩:∃L,out.length=L:=⟨_,rfl⟩;rw[hL] at ho;have HL:=yo hL;have aD:IntKind.i64.wrap (most-(L:Int))=most-(L:Int):=(by obtain⟨d,hd⟩:∃d:Nat,most-(L:Int)=(d:Int):=⟨(most-(L:Int)).toNat,by omega⟩;rw[hd];exact zaa d (by omega));have a7:IntKind.i64.wrap ((N:Int)+(M:Int))=(N:Int)+(M:Int):=by rw[show(N:Int)+(M:Int)=((N+M:Nat):Int) by omega];exact zaa _ (by omega)
   simp only[hL] at O W B F c0 ⊢;clear hL;go_enter Tryz.func110,Tryz.ntmps110;go_upto_region 4 with(first
    |(go_at_call 137;(with_reducible refine O.o.mono ?_);go_must (rintro e w1 ⟨rfl,D,u⟩;have t:=yo (B.o w1 (W.o w1 D u));have V:=yo (RFr.ofG u r (.slice Ap L cp));clear D u))
    |(go_at_call 109;(with_reducible refine t.o.mono ?_);go_must (rintro e w2 ⟨rfl,G,C⟩;have s:=yo (F.o w2 G);have U:=yo (V.o.trans C);clear G C t))
    |(go_at_call 109;(with_reducible refine s.o.mono ?_);go_must (rintro e w3 ⟨rfl,z,E⟩;have H:=yo z;have I:=yo (U.o.trans E);have ay:=z.arr.cell (k:=1) rfl;have a0:=z.arr.cell (k:=2) rfl;clear z E s)))
   by_cases hnm:N+M=65535
   ·have aB:(N:Int)+(M:Int)=65535:=by omega
    have al:=yo (af.o hnm);by_cases hov:(N:Int)<=most-(L:Int)
    ·have t1:¬most-(L:Int)<(N:Int):=by omega
     go_quiet (fail);have ag:Hid (FI (w3.drewN nq) r g A n c (Q+32) bs (.slice Ap L cp) out most):=(show FI _ _ _ _ _ _ _ _ _ _ _ from by have h9:=H.o.drewN nq;rw[Nat.add_assoc] at h9;exact h9);have ae:=yo (I.o.drewN nq);have a9:N<65536:=v1;clear O W B F af q ay a0 v1 v2 H I;go_wp2_with fail;go_loopw [7] (fun vi wr=>∃(i S:Nat) (vq:Value) (o:List UInt8),i<=N/\vi=.int .i64 i/\o.length=L+i/\Hid (FI wr r g A n c S bs vq o most)/\Hid (RFr w wr r g (.slice Ap L cp) vq)/\Hid (R=za0 bs most (N-i) ⟨S,o,0⟩)) (fun vi _=>N-(intOf vi).toNat)
     case atStart=>exact⟨0,_,_,out,Nat.zero_le _,rfl,HL.o,ag,ae,al⟩
     case round =>
      clear ag ae al V U;obtain⟨i,S,vq,o,hi,rfl,ab,HF,HR,HQ⟩:=hrel;have a1:=yo ab;obtain⟨l',T⟩:∃l',o.length=l':=⟨_,rfl⟩;rw[T] at ab;by_cases hlt:i<N
      ·have ap:(i:Int)<(N:Int):=by omega
       have an:Hid (R=za0 bs most (N-(i+1)+1) ⟨S,o,0⟩):=(show _=_ by rw[HQ.o,show N-(i+1)+1=N-i by omega]);by_cases hf:S+8<=8*n
       ·have HG:=yo (zbb r g n c S 8 A bs vq o most 8 wr rfl HF.o (by omega) hf)
        have hv:=zbw bs S 8;obtain⟨x,hx⟩:∃x:UInt8,zaj bs S 8=x.toNat:=⟨UInt8.ofNat (zaj bs S 8),by rw[UInt8.toNat_ofNat'];exact(Nat.mod_eq_of_lt (by omega)).symm⟩;have a3:Hid (R=za0 bs most (N-(i+1)) ⟨S+8,o++[x],0⟩):=(show _=_ by rw[an.o,zuF (by rw[aa];exact hf) (by rw[T];omega),hx];simp);rw[hx] at HG;have aG:=x.toNat_lt;have aH:(x.toNat:Int) % 256=(x.toNat:Int):=Int.emod_eq_of_lt (by omega) (by omega);obtain⟨Aq,cq,a5,-,-,-⟩:=HF.o.own.form;subst a5;rw[T] at HF HR HG;have aj:o.length+1<=140737488355328:=(by rw[T];omega);have av:Hid ((o++[x]).length=L+(i+1)):=(show _=_ by rw[lla,T,ab];show L+i+1=_;omega);clear hx hv HQ an T a1 ab;go_wp2_with (first
         |(go_at_call 109;(with_reducible refine HG.o.mono ?_);go_must (rintro e w5 ⟨rfl,J,Z⟩;have ac:=yo J;have am:=yo (HR.o.trans Z);have aC:=J.arr.cell (k:=1) rfl;have a6:r<w5.heap.size:=J.arr.lt;have au:r+1<=w5.heap.size+1:=(by omega);clear J Z))
         |(at_builtin;go_must (refine zat rfl (.tmp 67) (.tmp 70) rfl (r+1) (.slice Aq l' cq) o rfl (ownB.alloc ac.o.own _) (w5.heap.size+1) 1 1 (some ⟨w5.heap.size,0,none⟩) [x] rfl (zfN w5 (x.toNat:Int) x rfl) aj (by rw[wsa];exact au) ?_;intro v6 w6 X ao ah ar;obtain⟨A6,c6,rfl,-,-,-⟩:=X.form;obtain⟨ai,ak,aF,aE⟩:=ac.o.gave X ao ah ar;obtain⟨l6,aw⟩:∃l,(o++[x]).length=l:=⟨_,rfl⟩;rw[aw] at ai ak ⊢;clear aw;have a2:=yo ai;have a4:=yo (am.o.trans ak);clear ai ak X ao ah ar)))
        go_roundw
        case rel=>exact⟨i+1,S+8,_,o++[x],by omega,by go_num,av.o,a2,a4,a3⟩
        case measure=>simp[intOf];omega
       ·have HG:=yo (zba r g n c S 8 A bs vq o most 8 wr rfl HF.o (by omega) hf)
        have Y:Hid (¬R.e=0):=(show ¬_ by rw[an.o];exact zpm (by rw[aa];exact hf));go_wp2_with (go_at_call 109;(with_reducible refine HG.o.mono ?_);go_must (rintro e w5 ⟨rfl,J,Z⟩;have ac:=yo J;have am:=yo (HR.o.trans Z);clear J Z));go_ret;unfold zbc;exact⟨false,_,_,_,rfl,ac.o,am.o,.inr ⟨rfl,Y.o⟩⟩
      ·obtain rfl:i=N:=by omega
       have ap:¬(i:Int)<(i:Int):=(by omega);have Y:Hid (R=⟨S,o,0⟩):=(show _=_ by rw[HQ.o,Nat.sub_self];rfl);go_wp2_with fail;go_ret;unfold zbc;exact⟨true,_,_,_,rfl,HF.o,HR.o,.inl ⟨rfl,Y.o⟩⟩
    ·have t1:most-(L:Int)<(N:Int):=by omega
     have Y:Hid (¬R.e=0):=(show ¬_ by rw[al.o];exact zkS N rfl (by show((out.length:Nat):Int)<=most;rw[HL.o];exact ho) (by show most<((out.length:Nat):Int)+_;rw[HL.o];omega));go_quiet (fail);go_wp2_with fail;go_ret;unfold zbc;exact⟨false,_,_,_,rfl,H.o.drewN _,I.o.drewN _,.inr ⟨rfl,Y.o⟩⟩
   ·have d3:((N:Int)+(M:Int) != 65535)=true:=by rw[bne_iff_ne];omega
    have Y:=yo (q.o (fun hh=>hnm hh.2));go_quiet (fail);go_wp2_with fail;go_ret;unfold zbc;exact⟨false,_,_,_,rfl,H.o.drewN _,I.o.drewN _,.inr ⟨rfl,Y.o⟩⟩
  ·have F:=yo (fun w1 (h:FI w1 r g A n c (Q+16) bs (.slice Ap out.length cp) out most)=>zba r g n c (Q+16) 16 A bs _ out most 16 w1 rfl h (by omega) (by omega))
   have Y:=yo (q.o (fun hh=>f2 hh.1));generalize zbl bs most ⟨P,out,0⟩=R at *;generalize zaj bs Q 16=N at *;clear q;go_enter Tryz.func110,Tryz.ntmps110;go_upto_region 4 with(first
    |(go_at_call 137;(with_reducible refine O.o.mono ?_);go_must (rintro e w1 ⟨rfl,D,u⟩;have t:=yo (B.o w1 (W.o w1 D u));have V:=yo (RFr.ofG u r (.slice Ap out.length cp));clear D u))
    |(go_at_call 109;(with_reducible refine t.o.mono ?_);go_must (rintro e w2 ⟨rfl,G,C⟩;have s:=yo (F.o w2 G);have U:=yo (V.o.trans C);clear G C t))
    |(go_at_call 109;(with_reducible refine s.o.mono ?_);go_must (rintro e w3 ⟨rfl,z,E⟩;have H:=yo z;have I:=yo (U.o.trans E);clear z E s)))
   go_quiet (fail);go_wp2_with fail;go_ret;unfold zbc;exact⟨false,_,_,_,rfl,H.o.drewN _,I.o.drewN _,.inr ⟨rfl,Y.o⟩⟩
 ·have B:=yo (fun w1 (h:FI w1 r g A n c Q bs (.slice Ap out.length cp) out most)=>zba r g n c Q 16 A bs _ out most 16 w1 rfl h (by omega) f1)
  have F:=B;have Y:=yo (q.o (fun hh=>f1 (nlt (by omega) hh.1)));generalize zbl bs most ⟨P,out,0⟩=R at *;clear q;go_enter Tryz.func110,Tryz.ntmps110;go_upto_region 4 with(first
   |(go_at_call 137;(with_reducible refine O.o.mono ?_);go_must (rintro e w1 ⟨rfl,D,u⟩;have t:=yo (B.o w1 (W.o w1 D u));have V:=yo (RFr.ofG u r (.slice Ap out.length cp));clear D u))
   |(go_at_call 109;(with_reducible refine t.o.mono ?_);go_must (rintro e w2 ⟨rfl,G,C⟩;have s:=yo (F.o w2 G);have U:=yo (V.o.trans C);clear G C t))
   |(go_at_call 109;(with_reducible refine s.o.mono ?_);go_must (rintro e w3 ⟨rfl,z,E⟩;have H:=yo z;have I:=yo (U.o.trans E);clear z E s)))
  go_quiet (fail);go_wp2_with fail;go_ret;unfold zbc;exact⟨false,_,_,_,rfl,H.o.drewN _,I.o.drewN _,.inr ⟨rfl,Y.o⟩⟩
end
end Go.Proofs.YtebbdifhiihfkaaGreatDoor

/- flate: the document's decoders apart from the document's reader. -/
namespace Go.Proofs.YtebbdifhiihfkaaGreatDoor
set_option linter.all false
set_option maxRecDepth 100000
set_option maxHeartbeats 3200000
open Go.RowKit
/-- A decoder none of whose blocks lies below lo. -/
def zjn(w:World)(lo g:Nat)(ls:List Int):Prop:=∃A c,Arr w g [.slice A ls.length c]/\ownD w lo (.slice A ls.length c) (za7 ls)/\lo<=g
def zle(w:World)(ls:List Int)(e:Ending)(w':World):Prop :=
 ∃v,e=.returned (.tuple #[v,.int .i64 (nwE ls)])/\(nwE ls=0->∃g,v=.pointer (some ⟨g,0,none⟩)/\zjn w' w.heap.size g ls)/\(nwE ls≠0->v=.pointer none)/\Below w.heap.size w w'
theorem zho(B n c:Nat)(A:Option Addr)(ls:List Int)(w:World)(h:RdI w B A n ls)(T:B<=w.heap.size)(hn:n<=1099511627776):
  Calls Tryz.prog 138 #[.slice A n c] w fun e w'=>zle w ls e w':=by
 have O:=yo (zoG B n c A ls w h T hn);by_cases hE:cdE ls=0
 ·obtain⟨X,g2,g3⟩:=zif hE
  have W:cdL ls=za7 ls:=by unfold cdL;rw[if_pos hE]
  have M:=yo h.len;have aa:n<=300:=by have:=h.len;omega
  have z:=yo X;have H:Hid (nwE ls=if(zaF ls 15).length=0 then 4 else 0):=(show _=_ by unfold nwE;rw[if_pos hE]);rw[hE,W,zeS,h.len] at O;clear h hE X g2 g3 W;go_enter Tryz.func138,Tryz.ntmps138;go_wp2_with (go_at_call 165;(with_reducible refine O.o.mono ?_);go_must (rintro e w1 ⟨A1,s,c1,rfl,rfl,D,q⟩;have J:=yo q;have G:=q.size;have U:=yo (RdD.here D.rd);have S:=yo D;clear q D));go_loopw [6] (fun V wr=>∃k:Nat,k<=s/\V=.int .i64 k/\Hid (∀(i:Nat) (x:Int),i<k->ls[i]?=some x->¬0<x)/\Hid (wr=w1)) (fun V _=>s-(intOf V).toNat)
  case atStart=>exact⟨0,Nat.zero_le _,rfl,(show ∀(i:Nat) (x:Int),i<0->_ from fun i x hi=>absurd hi (by omega)),(show _=_ from rfl)⟩
  case round =>
   obtain⟨k,hk,rfl,L,HW⟩:=hrel;obtain rfl:wr=w1:=HW.o;by_cases hlt:k<s
   ·obtain⟨b,o,y,rfl,hb,N,Y,e2⟩:=U.o.one hlt
    have hy:=zko N.o;obtain⟨x,hx⟩:∃x,ls[k]?=some x:=⟨_,lge (by rw[M.o];exact hlt)⟩;by_cases h0:0<x
    ·obtain⟨Z,x1⟩:=zcK z.o hx
     obtain⟨t,rfl⟩:=Int.eq_ofNat_of_zero_le Z;rw[zdk hx (by omega)] at hy;subst hy;have u:Hid (nwE ls=0):=(show _=_ by rw[H.o,if_neg (zkk z.o hx h0)]);have F:=yo (Arr.new wr [Value.slice (some ⟨b,o,none⟩) s c1] 216);have I:=yo (ownD.alloc S.o (.cells #[Value.slice (some ⟨b,o,none⟩) s c1] 216));have P:=yo (J.o.alloc G (.cells #[Value.slice (some ⟨b,o,none⟩) s c1] 216));have d0:decide ((t:Int) > 0)=true:=decide_eq_true h0;have HD:Hid (zjn (wr.alloc (.cells #[Value.slice (some ⟨b,o,none⟩) s c1] 216)) w.heap.size wr.heap.size ls):=(show zjn _ _ _ _ by
      refine⟨some ⟨b,o,none⟩,c1,?_,?_,G⟩
      ·rw[M.o];exact F.o
      ·rw[M.o];exact I.o)
     clear N L F I hx Y;go_wp2_with fail;go_ret2;exact⟨_,zaA rfl (by rw[u.o];rfl),fun _=>⟨_,rfl,HD.o⟩,fun h=>absurd u.o h,P.o⟩
    ·rw[zen hx h0] at hy
     subst hy;have R:Hid (∀(i:Nat) (x:Int),i<k+1->ls[i]?=some x->¬0<x):=(show ∀(i:Nat) (x:Int),i<k+1->_ from fun i x' hi C=>by
      by_cases e:i=k
      ·subst e
       rw[hx] at C;injection C with e;rw[<-e];exact h0
      ·exact L.o i x' (by omega) C)
     clear N L hx Y;go_wp2_with fail;go_roundw
     case rel=>exact⟨k+1,by omega,by go_num,R,(by first|exact yo trivial|exact yo rfl)⟩
     case measure=>simp[intOf];omega
   ·obtain rfl:k=s:=by omega
    have u:Hid (nwE ls=4):=(show _=_ by
     have h0:∀(i:Nat) (x:Int),ls[i]?=some x->¬0<x:=fun i x hx=>L.o i x (by have:=(List.getElem?_eq_some_iff.1 hx).1;have:=M.o;omega) hx
     rw[H.o,if_pos (by rw[ziQ h0];rfl)])
    go_wp2_with fail;go_ret2;exact⟨_,zaA rfl (by rw[u.o];rfl),fun h=>absurd (u.o.symm.trans h) (by decide),fun _=>rfl,J.o⟩
 ·have u:Hid (nwE ls=cdE ls/\cdE ls≠0):=(show _/\_ by unfold nwE;rw[if_neg hE];exact⟨rfl,hE⟩)
  have de:(cdE ls != 0)=true:=by simp[bne];exact hE
  clear h hE;generalize cdE ls=E at *;go_enter Tryz.func138,Tryz.ntmps138;go_wp2_with (go_at_call 165;(with_reducible refine O.o.mono ?_);go_must (rintro e w1 ⟨A1,s,c1,rfl,-,-,q⟩));go_ret2;exact⟨_,zaA rfl (by rw[u.o.1];rfl),fun h=>absurd (u.o.1.symm.trans h) u.o.2,fun _=>rfl,q⟩
/-- A decoder newer than the reader, beside its row. -/
structure DK5(w:World)(r g:Nat)(vo:Value)(gd:Nat)(ls:List Int):Prop where
 hr:r<gd
 hg:g<gd
 ne:vo.ownBlock≠some gd
 row:∃A c lo,Arr w gd [.slice A ls.length c]/\ownD w lo (.slice A ls.length c) (za7 ls)/\r<lo/\g<lo/\Dis vo (.slice A ls.length c)
section
variable {w w' : World} {r g gd : Nat} {vo vo' : Value} {ls : List Int}
theorem ownD.rfr{v:Value}{l:List (Nat×Int)}{base:Nat}(h:ownD w base v l)(B:RFr w w' r g vo vo')(hr:r<base)(hg:g<base)(C:Dis vo v):ownD w' base v l:=by
 have A:∀k,v.ownBlock=some k->w'.heap[k]?=w.heap[k]?:=fun k u=>by
  have:=olt h k u;exact B.block k this.2 (by omega) (by omega) (fun e=>C k e u)
 refine⟨h.1,?_⟩;rcases h.2 with z | ⟨q,t,o,rfl,s,hq,rest⟩
 ·exact .inl z
 ·exact .inr ⟨q,t,o,rfl,s,(A q rfl).trans hq,rest⟩
theorem DK5.fr(h:DK5 w r g vo gd ls)(o:RFr w w' r g vo vo'):DK5 w' r g vo' gd ls:=by
 obtain⟨A,c,lo,h1,h2,h4,s,u⟩:=h.row;have hlt:=h1.lt;have hr:=h.hr;have hg:=h.hg;have C:Arr w' gd [.slice A ls.length c]:=by
  obtain⟨t,ht⟩:=h1;exact⟨t,(o.block gd hlt (by omega) (by omega) h.ne).trans ht⟩
 have B:=ownD.rfr h2 o h4 s u;have D:=Dis.rfr2 (fun k z=>(olt h2 k z).2) o u;refine⟨hr,hg,fun e=>?_,A,c,lo,C,B,h4,s,D⟩;rcases o.own with q | ⟨j,E,q⟩
 ·exact h.ne (q.symm.trans e)
 ·rw[q] at e
  injection e with e;omega
theorem DK5.new{lo:Nat}(h:zjn w lo gd ls)(hr:r<lo)(hg:g<lo)(hv:∀k,vo.ownBlock=some k->k<lo):DK5 w r g vo gd ls:=by
 obtain⟨A,c,h1,h2,s⟩:=h;refine⟨by omega,by omega,fun e=>?_,A,c,lo,h1,h2,hr,hg,fun k q o=>?_⟩
 ·have:=hv gd e
  omega
 ·have h4:=hv k q
  have t:=(olt h2 k o).1;omega
end
end Go.Proofs.YtebbdifhiihfkaaGreatDoor

/- flate: the document's decoders: the next symbol, the decoder being newer than the reader. -/
namespace Go.Proofs.YtebbdifhiihfkaaGreatDoor
set_option linter.all false
set_option maxRecDepth 100000
set_option maxHeartbeats 3200000
open Go.RowKit
theorem ownD.gro{w w':World}{lo g:Nat}{v:Value}{l:List (Nat×Int)}(h:ownD w lo v l)(hg:w.grownBy w' (some g))(hlt:g<lo):ownD w' lo v l:=by
 refine World.ownsRow.kept h hg ?_;cases e:v.ownBlock with
 |none=>exact .inl rfl
 |some k=>exact .inr (fun o=>by injection o with o;have:=(olt h k e).1;omega)
theorem zrJ(B n c gd gr P:Nat)(A:Option Addr)(ls:List Int)(bs:List UInt8)(w:World)(ap:gr<gd)(hd:∃A c lo,Arr w gd [.slice A ls.length c]/\ownD w lo (.slice A ls.length c) (za7 ls)/\gr<lo)(hr:Arr w gr (rdr A n c P))(hb:RdB w B A n bs)(hg:B<=gr)(hP:P<=8*n)(hn:n<=1099511627776)
  (s:zau ls=false) (R:krN ls<=32768) (ag:ls.length<=300) :
  Calls Tryz.prog 139 #[.pointer (some ⟨gd,0,none⟩),.pointer (some ⟨gr,0,none⟩)] w fun e w'=>zgj ls bs A n c P gr w e w':=by
 obtain⟨Ad,cd,lo,D,C,ai⟩:=hd;have r:=yo s;have af:=yo R;obtain⟨m,hm⟩:∃m,ls.length=m:=⟨_,rfl⟩;rw[hm] at D C ag;have M:=yo hm;have HD:=yo D;have an:=yo C;have HR:=yo hr;have ae:=yo hb;have au:=hr.lt;have aa:=yo hb.len;clear s R D C hr hb hm;go_enter Tryz.func139,Tryz.ntmps139;go_wp2_with fail;go_loopw [7,6] (fun vt vv wr=>∃t v Q:Nat,1<=t/\t<=16/\vt=.int .i64 t/\vv=.int .u32 v/\Hid (v<2 ^ (t-1))/\Hid (Q<=8*n)/\Hid (Arr wr gr (rdr A n c Q))/\Hid (w.grownBy wr (some gr))/\Hid (nx ls bs (16-t) t v Q=nx ls bs 15 1 0 P))
  (fun vt _ _=>17-(intOf vt).toNat)
 case atStart=>exact⟨1,0,P,by omega,by omega,rfl,rfl,(show 0<2 ^ (1-1) by decide),hP,HR,zhD _ _,(show _=_ from rfl)⟩
 case round =>
  clear HR;obtain⟨t,v,Q,T,ao,rfl,rfl,HV,HQ,HA,H,HN⟩:=hrel;have hQ:=HQ.o;by_cases hlt:t<=15
  ·have aq:(t:Int)<=15:=by omega
   have F:Hid (nx ls bs (15-t+1) t v Q=nx ls bs 15 1 0 P):=(show _=_ by
    have:=HN.o;rwa[show 16-t=15-t+1 by omega] at this)
   by_cases hfit:8*n<Q+1
   ·have HC:=yo (zmU HA.o hn hQ hfit)
    have Z:Hid ((0,2,Q)=nx ls bs 15 1 0 P):=(show _=_ by rw[<-F.o,zlL (by rw[aa.o];omega)]);go_wp2_with (go_at_call 136;(with_reducible refine HC.o.mono ?_);go_must (rintro e w5 ⟨rfl,S⟩));go_ret2;exact zea Z.o rfl (HA.o.gbN S) (zd9 H.o (zd8 S gr))
   ·have HC:=yo (zqz HA.o (ae.o.blw (zd7 H.o (by omega) hg)) hg hn (by omega))
    have O:=zib bs Q;obtain⟨V,hV⟩:∃V,v*2+zaE bs Q=V:=⟨_,rfl⟩;obtain⟨p1,p2,p3⟩:=zlS HV.o T hlt O hV;have aj:=yo p1;have al:=znE v (zaE bs Q) p3 O;rw[hV] at al;have z:=yo hV;have L:¬8*bs.length<=Q:=(by rw[aa.o];omega);have W:=yo L;clear p1 hV L;generalize ab:zaE bs Q=bq at *;have G:=yo ab;clear ab HN HV;go_wp2_with (go_at_call 136;(with_reducible refine HC.o.mono ?_);go_must (rintro e w5 ⟨rfl,Y,I⟩;have J:=yo Y;have q:=yo (zd9 H.o I);clear Y I));have ac:=yo (HD.o.gro q.o (by omega));have U:=yo (ownD.rd (ownD.gro an.o q.o ai));clear HA H HC;obtain⟨wo,rfl⟩:∃wo:World,wo=wr:=⟨_,rfl⟩;go_loopw [10] (fun vk wr=>∃k:Nat,k<=m/\vk=.int .i64 k/\Hid (∀p,p<k->¬Hit ls t V p)/\Hid (wr=w5)) (fun vk _=>m-(intOf vk).toNat)
    case atStart=>exact⟨0,Nat.zero_le _,rfl,(show ∀p,p<0->_ from fun p hp=>absurd hp (by omega)),(show _=_ from rfl)⟩
    case round =>
     obtain⟨k,hk,rfl,N,HW⟩:=hrel;obtain rfl:wr=w5:=HW.o;have c0:=ac.o.cell (k:=0) rfl;by_cases hlt2:k<m
     ·obtain⟨b,o,y,rfl,hb,HY,e1,e2⟩:=U.o.one hlt2
      have hy:=zko HY.o;obtain⟨x,hx⟩:∃x,ls[k]?=some x:=⟨_,lge (by rw[M.o];exact hlt2)⟩;obtain⟨x0,x1⟩:=zcK r.o hx;obtain⟨u,rfl⟩:=Int.eq_ofNat_of_zero_le x0;have g:¬Hit ls t V k->∀p,p<k+1->¬Hit ls t V p:=fun h p hp=>by
       by_cases e:p=k
       ·rw[e];exact h
       ·exact N.o p (by omega)
      by_cases hut:u=t
      ·subst hut
       rw[zdk hx (by omega)] at hy;have HX:=yo hx;have ar:fst ls u+cnt (ls.take k) u<=32768:=by
        have:=zev ls r.o af.o u hlt;have:=zfc ls k u;have:=zg1 ls T;omega
       have ak:((u:Int)==(u:Int))=true:=(by simp);by_cases hv:fst ls u+cnt (ls.take k) u=V
       ·have Z:Hid (((k:Int),0,Q+1)=nx ls bs 15 1 0 P):=(show _=_ by
         rw[<-F.o,zqy W.o (by rw[G.o,z.o];exact zlK ⟨hx,hv⟩)])
        rw[hv] at hy;subst hy;have ah:((V:Int)==(V:Int))=true:=(by simp);clear g N hx HX HY hv;go_wp2_with fail;go_ret2;exact zea Z.o rfl J.o q.o
       ·have E:=yo (g (fun h=>hv h.2))
        generalize fst ls u+cnt (ls.take k) u=V2 at *;subst hy;have ah:((V2:Int)==(V:Int))=false:=bef (by omega);clear g N hx HX HY hv;go_wp2_with fail;go_roundw
        case rel=>exact⟨k+1,by omega,by go_num,E,(by first|exact yo trivial|exact yo rfl)⟩
        case measure=>simp[intOf];omega
      ·have E:=yo (g (fun h=>hut (by have:=h.1;rw[hx] at this;injection this with e;omega)))
       have X:y.2=(u:Int):=by
        by_cases h0:0<u
        ·rw[hy,zdk hx h0]
        ·obtain rfl:u=0:=by omega
         rw[hy,zen hx (by omega)];rfl
       rw[X] at e2;have ak:((u:Int)==(t:Int))=false:=bef (by omega);clear g N hx HY hy X;go_wp2_with fail;go_roundw
       case rel=>exact⟨k+1,by omega,by go_num,E,(by first|exact yo trivial|exact yo rfl)⟩
       case measure=>simp[intOf];omega
     ·obtain rfl:k=m:=by omega
      have am:Hid (nx ls bs (16-(t+1)) (t+1) V (Q+1)=nx ls bs 15 1 0 P):=(show _=_ by
       have hh:zfd ls t (v*2+zaE bs Q)=none:=by
        rw[G.o,z.o];exact zic (fun p h=>N.o p (by have:=(List.getElem?_eq_some_iff.1 h.1).1;have:=M.o;omega) h)
       rw[<-F.o,zoF W.o hh,G.o,z.o,show 16-(t+1)=15-t by omega])
      go_wp2_with fail;go_roundw
      case rel=>exact⟨t+1,V,Q+1,by omega,by omega,by go_num,rfl,aj,(show Q+1<=8*n by omega),J,q,am⟩
      case measure=>simp[intOf];omega
  ·obtain rfl:t=16:=by omega
   have Z:Hid ((0,4,Q)=nx ls bs 15 1 0 P):=(show _=_ by rw[<-HN.o];rfl);go_wp2_with fail;go_ret2;exact zea Z.o rfl HA.o H.o
end Go.Proofs.YtebbdifhiihfkaaGreatDoor

/- flate: the document's reader of blocks: a symbol read; what lengths' and distances' symbols stand for. -/
namespace Go.Proofs.YtebbdifhiihfkaaGreatDoor
set_option linter.all false
set_option maxRecDepth 100000
set_option maxHeartbeats 6400000
open Go.RowKit
theorem zhp(r g q n c P:Nat)(A:Option Addr)(bs:List UInt8)(vo:Value)(out:List UInt8)(most:Int)(ls:List Int)(w:World)(h:FI w r g A n c P bs vo out most)(s:DK5 w r g vo q ls)(o:OkL ls):
  Calls Tryz.prog 139 #[.pointer (some ⟨q,0,none⟩),.pointer (some ⟨g,0,none⟩)] w fun e w'=>e=.returned (.tuple #[.int .i64 (nx ls bs 15 1 0 P).1,.int .i64 (nx ls bs 15 1 0 P).2.1])/\FI w' r g A n c (nx ls bs 15 1 0 P).2.2 bs vo out most/\RFr w w' r g vo vo:=by
 obtain⟨u,cd,lo,h1,h2,B,h4,-⟩:=s.row;refine(zrJ g n c q g P A ls bs w s.hg ⟨u,cd,lo,h1,h2,h4⟩ h.rd h.rb (nlr _) h.fit (by have:=h.big;omega) o.1 o.2.1 o.2.2).mono ?_;rintro e w' ⟨he,t,hg⟩;have z:=h.rb.len;have C:=h.fit;have:=(zi2 ls bs 15 1 0 P (by omega)).1;exact⟨he,h.moved t hg (by omega),RFr.ofG hg r vo⟩
theorem zn7{k:Nat}(h:k<=28):k=0\/k=1\/k=2\/k=3\/k=4\/k=5\/k=6\/k=7\/k=8\/k=9\/k=10\/k=11\/k=12\/k=13\/k=14\/k=15\/k=16\/k=17\/k=18\/k=19\/k=20\/k=21\/k=22\/k=23\/k=24\/k=25\/k=26\/k=27\/k=28:=by omega
theorem zk8(k:Nat)(X:Int)(g:X=257+(k:Int))(h:k<=28)(w:World):
  Calls Tryz.prog 140 #[.int .i64 X] w fun e w'=>e=.returned (.tuple #[.int .i64 ((lenOf k).1:Int),.int .i64 ((lenOf k).2:Int)])/\w=w':=by
 rcases zn7 h with rfl|rfl|rfl|rfl|rfl|rfl|rfl|rfl|rfl|rfl|rfl|rfl|rfl|rfl|rfl|rfl|rfl|rfl|rfl|rfl|rfl|rfl|rfl|rfl|rfl|rfl|rfl|rfl|rfl
 all_goals
  subst g;go_enter Tryz.func140,Tryz.ntmps140;go_wp2;go_ret2;exact⟨rfl,rfl⟩
theorem znd(k:Nat)(X:Int)(o:X=(k:Int))(h:k<30)(w:World):
  Calls Tryz.prog 141 #[.int .i64 X] w fun e w'=>e=.returned (.tuple #[.int .i64 ((zae k).1:Int),.int .i64 ((zae k).2:Int)])/\w=w':=by
 have g:k<=28\/k=29:=by omega
 rcases g with g|rfl
 ·rcases zn7 g with rfl|rfl|rfl|rfl|rfl|rfl|rfl|rfl|rfl|rfl|rfl|rfl|rfl|rfl|rfl|rfl|rfl|rfl|rfl|rfl|rfl|rfl|rfl|rfl|rfl|rfl|rfl|rfl|rfl
  all_goals
   subst o;go_enter Tryz.func141,Tryz.ntmps141;go_wp2;go_ret2;exact⟨rfl,rfl⟩
 ·subst o
  go_enter Tryz.func141,Tryz.ntmps141;go_wp2;go_ret2;exact⟨rfl,rfl⟩
end Go.Proofs.YtebbdifhiihfkaaGreatDoor

/- flate: what the document's reader of blocks asks of lists of lengths, plainly. -/
namespace Go.Proofs.YtebbdifhiihfkaaGreatDoor
set_option linter.all false
/-- May a list of distances be? -/
def zgA(ls:List Int):Prop:=krV ls=32768\/zaB ls=0\/(zaB ls=1/\zbg ls=1)
instance (ls:List Int):Decidable (zgA ls):=by unfold zgA;infer_instance
theorem zuG{ls:List Int}(h:∀(k:Nat) (x:Int),ls[k]?=some x->¬0<x):krN ls=0:=by
 unfold krN;have:(ls.map fun x=>if 0<x then 2 ^ (15-x.toNat) else 0)=ls.map fun _=>0:=by
  apply List.map_congr_left;intro x hx;obtain⟨k,g⟩:=List.getElem?_of_mem hx;rw[if_neg (h k x g)]
 rw[this];clear this h
 induction ls with
 |nil=>rfl
 |cons y r ih=>simpa using ih
theorem cPos_zero{ls:List Int}:zaB ls=0↔∀(k:Nat) (x:Int),ls[k]?=some x->¬0<x:=by
 unfold zaB;rw[List.countP_eq_zero];constructor
 ·intro h k x g
  have:=h x (List.mem_of_getElem? g)
  simpa using this
 ·intro h x hx
  obtain⟨k,g⟩:=List.getElem?_of_mem hx
  simpa using h k x g
theorem ztu{ls:List Int}(h:zaB ls=0):¬nwE ls=0:=by
 unfold nwE;split
 ·rw[if_pos (by rw[ziQ (cPos_zero.1 h)];rfl)]
  decide
 ·assumption
theorem zvu{ls:List Int}(h1:zau ls=false)(h2:ls.length<=300):krV ls=(krN ls:Int):=by
 unfold krV;rw[if_neg];rintro(h|h)
 ·omega
 ·rw[h1] at h;cases h
theorem ztG{ls:List Int}(h1:zau ls=false)(h2:ls.length<=300)(r:krN ls<=32768)(h4:¬zaB ls=0):nwE ls=0:=by
 have o:cdE ls=0:=by
  unfold cdE;have:krE ls=0:=by
   unfold krE;rw[if_neg];rintro(h|h)
   ·omega
   ·rw[h1] at h;cases h
  rw[if_pos this,if_neg (by omega)]
 unfold nwE;rw[if_pos o,if_neg];intro q;apply h4;rw[cPos_zero];intro k x g h0;exact zkk h1 g h0 q
theorem zgB{ls:List Int}(h:krV ls=32768):nwE ls=0/\zau ls=false/\ls.length<=300/\krN ls=32768:=by
 unfold krV at h;split at h
 ·exact absurd h (by decide)
 ·rename_i h0
  have h1:zau ls=false:=by
   cases e:zau ls with
   |false=>rfl
   |true=>exact absurd (.inr e) h0
  have h2:ls.length<=300:=by
   by_cases e:300<ls.length
   ·exact absurd (.inl e) h0
   ·omega
  have g:krN ls=32768:=by omega
  refine⟨ztG h1 h2 (by omega) (fun h4=>?_),h1,h2,g⟩;have:=zuG (cPos_zero.1 h4);omega
theorem zrK{ls:List Int}(h:nwE ls=0):krV ls<=32768:=by
 obtain⟨h1,h2,g⟩:=zhf h;rw[zvu h1 g];omega
theorem zfF{ls:List Int}{s:RS}(he:s.e=0):(zaY ls false s).e=0↔krV ls=32768:=by
 unfold zaY;rw[if_pos he];constructor
 ·intro h
  split at h
  ·rename_i h1
   split at h
   ·exact absurd h (za9 (by decide))
   ·rename_i h2
    have:=zrK h1;have g:¬krV ls<32768:=fun g=>h2 ⟨g,fun h4=>absurd h4.1 (by decide)⟩
    omega
  ·exact absurd h (za9 (by decide))
 ·intro h
  rw[if_pos (zgB h).1,if_neg (fun h2=>by have:=h2.1;omega)];exact he
theorem zn8{ls:List Int}{s:RS}(he:s.e=0)(h1:zau ls=false)(h2:ls.length<=300):(zcJ ls=true\/(zaY ls true s).e=0)↔zgA ls:=by
 unfold zaY zgA zcJ;rw[if_pos he];constructor
 ·rintro(h|h)
  ·exact .inr (.inl (by simpa using h))
  ·split at h
   ·rename_i g
    split at h
    ·exact absurd h (za9 (by decide))
    ·rename_i h4
     have q:=zrK g;by_cases h6:krV ls=32768
     ·exact .inl h6
     ·refine .inr (.inr ?_)
      have:¬ ¬(true=true/\zaB ls=1/\zbg ls=1):=fun o=>h4 ⟨by omega,o⟩
      exact(Classical.not_not.1 this).2
   ·exact absurd h (za9 (by decide))
 ·rintro(h|h|h)
  ·refine .inr ?_
   rw[if_pos (zgB h).1,if_neg (fun h2=>by have:=h2.1;omega)];exact he
  ·exact .inl (by rw[h];rfl)
  ·refine .inr ?_
   have g:krN ls<=32768:=by
    have key:∀l:List Int,krN l<=32768*l.countP (fun x=>decide (0<x)):=fun l=>by
     induction l with
     |nil=>simp[krN]
     |cons x r ih =>
      have e:krN (x :: r)=(if 0<x then 2 ^ (15-x.toNat) else 0)+krN r:=(by unfold krN;simp);rw[e,List.countP_cons];by_cases hx:0<x
      ·have:2 ^ (15-x.toNat)<=2 ^ 15:=Nat.pow_le_pow_right (by decide) (Nat.sub_le 15 _)
       rw[if_pos hx,if_pos (by simpa using hx)];omega
      ·rw[if_neg hx,if_neg (by simpa using hx)]
       omega
    have:=key ls;have h4:ls.countP (fun x=>decide (0<x))=1:=h.1;rw[h4] at this;omega
   rw[if_pos (ztG h1 h2 g (by omega)),if_neg (fun h2=>h2.2 ⟨rfl,h⟩)];exact he
theorem ziy(a b:List Int):zau (a++b)=(zau a ||zau b):=by unfold zau;rw[List.any_append]
theorem zmG{x:Int}(h0:0<=x)(h1:x<=15)(n:Nat):zau (List.replicate n x)=false:=by
 unfold zau;rw[List.any_eq_false];intro y hy;obtain⟨-,rfl⟩:=List.mem_replicate.1 hy;simp;omega
theorem ztv{x:Int}(h0:0<=x)(h1:x<=15):zau [x]=false:=zmG h0 h1 1
theorem zhq{l:List Int}{x:Int}{n all:Nat}{s:RS}(h:zau l=false)(h0:0<=x)(h1:x<=15):zau (zaC l x n all s).1=false:=by
 unfold zaC;split
 ·show zau (l++List.replicate n x)=false
  rw[ziy,h,zmG h0 h1];rfl
 ·exact h
theorem zd2{bs:List UInt8}{ls:List Int}{all:Nat}:∀(f:Nat) {l:List Int}{s:RS},zau l=false->zau (zar bs ls all f l s).1=false
 |0,l,s,h=>h
 |f+1,l,s,h=>by
  obtain⟨q,hq,-,-⟩:=zfz bs ls s;rw[zar];split
  ·split
   ·split
    ·rename_i h1
     refine zd2 f ?_;rw[ziy,h,ztv (by rw[hq];omega) (by omega)];rfl
    ·split
     ·split
      ·exact h
      ·rename_i h2
       refine zd2 f (zhq h ?_ ?_)
       ·obtain⟨x,hx⟩:∃x,l[l.length-1]?=some x:=⟨_,lge (by omega)⟩
        rw[lgd,hx];exact(zcK h hx).1
       ·obtain⟨x,hx⟩:∃x,l[l.length-1]?=some x:=⟨_,lge (by omega)⟩
        rw[lgd,hx];exact(zcK h hx).2
     ·split
      ·exact zd2 f (zhq h (by decide) (by decide))
      ·exact zd2 f (zhq h (by decide) (by decide))
   ·exact h
  ·exact h
theorem zpo(bs:List UInt8)(s:RS):zau (zaO bs s).1=false:=by
 unfold zaO zeZ;split
 ·exact zd2 _ rfl
 ·rfl
theorem zkT{ls:List Int}(h:zau ls=false)(n:Nat):zau (ls.take n)=false/\zau (ls.drop n)=false:=by
 have:zau (ls.take n++ls.drop n)=false:=by rw[List.take_append_drop];exact h
 rw[ziy,Bool.or_eq_false_iff] at this;exact this
theorem zvE{ls:List Int}{s:RS}(he:s.e=0):(if zcJ ls=true then none else zbJ ls s)=(if nwE ls=0 then some ls else none):=by
 by_cases h:zcJ ls=true
 ·rw[if_pos h,if_neg (ztu (by unfold zcJ at h;simpa using h))]
 ·rw[if_neg h]
  unfold zbJ;by_cases h2:nwE ls=0
  ·rw[if_pos h2,if_pos ⟨he,h2⟩]
  ·rw[if_neg h2,if_neg (fun g=>h2 g.2)]
/-- What a block of its own codes wants of its lists. -/
def zf4(all:List Int)(n:Nat):Prop:=0<all.getD 256 0/\krV (all.take n)=32768/\zgA (all.drop n)
theorem zuH{bs:List UInt8}{most:Int}{all:List Int}{n f:Nat}{s:RS}(he:s.e=0)(u:zau all=false)(A:all.length<=316)(C:257<=n)(hg:zf4 all n):zdX bs most all n f s=zaG bs most (all.take n) (if nwE (all.drop n)=0 then some (all.drop n) else none) f s:=by
 obtain⟨B,o,r⟩:=hg;have z:zcZ all s=s:=by unfold zcZ;rw[if_neg (by omega)]
 have g:zcn all n s=s:=by
  unfold zcn;rw[z];exact(zdb ((zfF he).2 o)).2.1
 have q:=(zn8 he (zkT u n).2 (by rw[lld];omega)).2 r;have t:zcg all n s=s:=by
  unfold zcg;rw[g];by_cases h:zcJ (all.drop n)=true
  ·rw[if_pos h]
  ·rw[if_neg h]
   rcases q with h4|h4
   ·exact absurd h4 h
   ·exact(zdb h4).2.1
 unfold zdX;rw[if_pos he,t,if_pos he];unfold zi3;rw[g,zvE he]
theorem ztw{bs:List UInt8}{most:Int}{all:List Int}{n f:Nat}{s:RS}(he:s.e=0)(o:zau all=false)(z:all.length<=316)(B:257<=n)(hg:¬zf4 all n):¬(zdX bs most all n f s).e=0:=by
 unfold zdX;rw[if_pos he];have g:¬(zcg all n s).e=0:=by
  intro h;have h2:(zcn all n s).e=0:=by
   unfold zcg at h;split at h
   ·exact h
   ·exact zfX h
  have h1:(zcZ all s).e=0:=zfX (ls:=all.take n) (a:=false) h2;have q:zcZ all s=s:=(zkD h1).2;have A:¬all.getD 256 0=0:=by
   intro h4;unfold zcZ at h1;rw[if_pos h4] at h1;exact za9 (by decide) h1
  have u:0<=all.getD 256 0:=by
   rw[lgd];cases e:all[256]? with
   |none=>exact Int.le_refl 0
   |some x=>exact(zcK o e).1
  have t:zcn all n s=s:=by
   have:=(zdb (ls:=all.take n) (a:=false) h2).2.1;unfold zcn;rw[this,q]
  have r:krV (all.take n)=32768:=by
   unfold zcn at h2;rw[q] at h2;exact(zfF he).1 h2
  refine hg ⟨by omega,r,(zn8 he (zkT o n).2 (by rw[lld];omega)).1 ?_⟩;unfold zcg at h;rw[t] at h;split at h
  ·rename_i h4;exact .inl h4
  ·exact .inr h
 rw[if_neg g];exact g
end Go.Proofs.YtebbdifhiihfkaaGreatDoor

