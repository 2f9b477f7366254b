/- XIq8 -/
import Derived.Test.YtebbdifhiihfkaaGreatDoorMm45
import Derived.Test.YtebbdifhiihfkaaGreatDoorMm46
import Derived.Test.YtebbdifhiihfkaaGreatDoorMm35
import Derived.Deep.RegionHeld3
namespace Go.Proofs.YtebbdifhiihfkaaGreatDoor
set_option linter.all false
set_option maxRecDepth 100000
set_option maxHeartbeats 6400000
open Go.RowKit
section
variable {bs : List UInt8} {ls l : List Int} {all f n : Nat} {s : RS} {x : Int}
theorem zdP(h:¬s.e=0):¬(zar bs ls all f l s).2.e=0:=by
  rw[zcz (fun a=>h a.2)];exact h
theorem ziz(h:¬s.e=0):¬(zaC l x n all s).2.e=0:=by
  have:zeN l n all s=s:=if_neg (fun a=>h a.1);unfold zaC;rw[this,if_neg h];exact h
theorem zhr(he:s.e=0)(h:all<l.length+n):¬(zaC l x n all s).2.e=0:=by
  have:zeN l n all s=s.fail 4:=if_pos ⟨he,by omega⟩;have h2:¬(s.fail 4).e=0:=za9 (by decide);unfold zaC;rw[this,if_neg h2];exact h2
theorem zjV(he:s.e=0)(h:l.length+n<=all):zaC l x n all s=(l++List.replicate n x,s):=by
  have:zeN l n all s=s:=if_neg (fun a=>by have:=a.2;omega);unfold zaC;rw[this,if_pos he]
theorem zuJ(o:l.length<all)(he:s.e=0)(h1:¬(zad bs ls s).2.e=0):¬(zar bs ls all (f+1) l s).2.e=0:=by
  rw[zar,if_pos ⟨o,he⟩,if_neg h1];exact h1
theorem zuK(o:l.length<all)(he:s.e=0)(h1:(zad bs ls s).2.e=0)(h2:(zad bs ls s).1<16):zar bs ls all (f+1) l s=zar bs ls all f (l++[(zad bs ls s).1]) (zad bs ls s).2:=by
  rw[zar,if_pos ⟨o,he⟩,if_pos h1,if_pos h2]
theorem zuL(o:l.length<all)(he:s.e=0)(h1:(zad bs ls s).2.e=0)(h2:(zad bs ls s).1=16)(q:l.length=0):¬(zar bs ls all (f+1) l s).2.e=0:=by
  rw[zar,if_pos ⟨o,he⟩,if_pos h1,if_neg (by omega),if_pos h2,if_pos q];exact za9 (by decide)
theorem zvv(o:l.length<all)(he:s.e=0)(h1:(zad bs ls s).2.e=0)(h2:(zad bs ls s).1=16)(q:¬l.length=0):zar bs ls all (f+1) l s=zar bs ls all f (zaC l (l.getD (l.length-1) 0) (3+(zac bs (zad bs ls s).2 2).1) all (zac bs (zad bs ls s).2 2).2).1 (zaC l (l.getD (l.length-1) 0) (3+(zac bs (zad bs ls s).2 2).1) all (zac bs (zad bs ls s).2 2).2).2:=by
  rw[zar,if_pos ⟨o,he⟩,if_pos h1,if_neg (by omega),if_pos h2,if_neg q]
theorem zvw(o:l.length<all)(he:s.e=0)(h1:(zad bs ls s).2.e=0)(h2:(zad bs ls s).1=17):zar bs ls all (f+1) l s=zar bs ls all f (zaC l 0 (3+(zac bs (zad bs ls s).2 3).1) all (zac bs (zad bs ls s).2 3).2).1 (zaC l 0 (3+(zac bs (zad bs ls s).2 3).1) all (zac bs (zad bs ls s).2 3).2).2:=by
  rw[zar,if_pos ⟨o,he⟩,if_pos h1,if_neg (by omega),if_neg (by omega),if_pos h2]
theorem zvx(o:l.length<all)(he:s.e=0)(h1:(zad bs ls s).2.e=0)(h2:17<(zad bs ls s).1):zar bs ls all (f+1) l s=zar bs ls all f (zaC l 0 (11+(zac bs (zad bs ls s).2 7).1) all (zac bs (zad bs ls s).2 7).2).1 (zaC l 0 (11+(zac bs (zad bs ls s).2 7).1) all (zac bs (zad bs ls s).2 7).2).2:=by
  rw[zar,if_pos ⟨o,he⟩,if_pos h1,if_neg (by omega),if_neg (by omega),if_neg (by omega)]
end
/-- The numbers ahead of lists. -/
theorem zvF{bs:List UInt8}{P x y z:Nat}{out:List UInt8}(G:P+14<=8*bs.length)(hx:zaj bs P 5=x)(hy:zaj bs (P+5) 5=y)(hz:zaj bs (P+10) 4=z)(C:x<=29)(D:y<=29):
    hdN bs ⟨P,out,0⟩=257+x/\hdM bs ⟨P,out,0⟩=1+y/\hdL bs ⟨P,out,0⟩=zcA bs (ordL.take (4+z)) (List.replicate 19 0) ⟨P+14,out,0⟩:=by
  have B:zac bs (⟨P,out,0⟩:RS) 5=(x,⟨P+5,out,0⟩):=by rw[za2 rfl (by show P+5<=_;omega),<-hx]
  have q:hdN bs ⟨P,out,0⟩=257+x:=by unfold hdN;rw[B]
  have u:hdA bs ⟨P,out,0⟩=⟨P+5,out,0⟩:=by unfold hdA;rw[q,if_neg (by omega),B]
  have t:zac bs (⟨P+5,out,0⟩:RS) 5=(y,⟨P+10,out,0⟩):=by rw[za2 rfl (by show P+5+5<=_;omega),<-hy]
  have o:hdM bs ⟨P,out,0⟩=1+y:=by unfold hdM;rw[u,t]
  have F:hdB bs ⟨P,out,0⟩=⟨P+10,out,0⟩:=by unfold hdB;rw[o,if_neg (by omega),u,t]
  have E:zac bs (⟨P+10,out,0⟩:RS) 4=(z,⟨P+14,out,0⟩):=by rw[za2 rfl (by show P+10+4<=_;omega),<-hz]
  refine⟨q,o,?_⟩;unfold hdL hdQ;rw[F,E]
theorem zvy{bs:List UInt8}{P:Nat}{out:List UInt8}(h:¬(P+14<=8*bs.length/\zaj bs P 5<=29/\zaj bs (P+5) 5<=29)):¬(zaO bs ⟨P,out,0⟩).2.e=0:=by
  intro H;have h2:=zgu bs _ _ _ (zfX (zgv H));obtain⟨t,q⟩:=zbK h2;have o:(zac bs (hdB bs ⟨P,out,0⟩) 4).2.p<=8*bs.length\/¬(hdB bs ⟨P,out,0⟩).p+4<=8*bs.length:=by
    by_cases e:(hdB bs ⟨P,out,0⟩).p+4<=8*bs.length
    · exact .inl (by rw[q];exact e)
    · exact .inr e
  have z:¬30<hdM bs ⟨P,out,0⟩:=fun e=>by
    unfold hdB at t;rw[if_pos e] at t;exact za9 (by decide) t
  have E:hdB bs ⟨P,out,0⟩=(zac bs (hdA bs ⟨P,out,0⟩) 5).2:=by unfold hdB;rw[if_neg z]
  rw[E] at t q o;obtain⟨h4,C⟩:=zbK t;have B:¬286<hdN bs ⟨P,out,0⟩:=fun e=>by
    unfold hdA at h4;rw[if_pos e] at h4;exact za9 (by decide) h4
  have u:hdA bs ⟨P,out,0⟩=(zac bs ⟨P,out,0⟩ 5).2:=by unfold hdA;rw[if_neg B]
  rw[u] at h4 C t q o;obtain⟨-,G⟩:=zbK h4;have I:P+5<=8*bs.length:=Classical.byContradiction fun e=>zbs (s:=⟨P,out,0⟩) e h4
  have F:zac bs (⟨P,out,0⟩:RS) 5=(zaj bs P 5,⟨P+5,out,0⟩):=za2 rfl I;rw[F] at t q o u;have J:P+5+5<=8*bs.length:=Classical.byContradiction fun e=>zbs (s:=⟨P+5,out,0⟩) e t
  have D:zac bs (⟨P+5,out,0⟩:RS) 5=(zaj bs (P+5) 5,⟨P+10,out,0⟩):=by rw[za2 rfl J]
  rw[E,u,D] at h2;have q3:P+10+4<=8*bs.length:=Classical.byContradiction fun e=>zbs (s:=⟨P+10,out,0⟩) e h2
  refine h ⟨by omega,?_,?_⟩
  · unfold hdN at B;rw[F] at B;omega
  · unfold hdM at z;rw[u,D] at z;omega
theorem zrM{bs:List UInt8}{P N M P2:Nat}{out:List UInt8}{L:List Int}(u:hdN bs ⟨P,out,0⟩=N)(o:hdM bs ⟨P,out,0⟩=M)(q:hdL bs ⟨P,out,0⟩=(L,⟨P2,out,0⟩)):
    (krV L=32768->zaO bs ⟨P,out,0⟩=zar bs L (N+M) (N+M+1) [] ⟨P2,out,0⟩)/\(¬krV L=32768->¬(zaO bs ⟨P,out,0⟩).2.e=0):=by
  unfold zaO;rw[q,u,o];constructor
  · intro h
    have h1:=(zfF (ls:=L) (s:=⟨P2,out,0⟩) rfl).2 h;obtain⟨-,t,h4⟩:=zdb h1;show(zeZ bs (zbJ L ⟨P2,out,0⟩) (N+M) (zaY L false ⟨P2,out,0⟩))=_;rw[t,h4];rfl
  · intro h h2
    exact h ((zfF (ls:=L) (s:=⟨P2,out,0⟩) rfl).1 (zgv h2))
theorem FI.side{w w':World}{r g:Nat}{A:Option Addr}{n c P:Nat}{bs:List UInt8}{vo z:Value}{out:List UInt8}{most:Int}{lo:Nat}(h:FI w r g A n c P bs vo out most)(hr:r<lo)(hv:∀k,vo.ownBlock=some k->k<lo)(q:∀k,z.ownBlock=some k->lo<=k)(hg:w.grownBy w' z.ownBlock):FI w' r g A n c P bs vo out most:=by
  have u:=h.gr;have key:∀k,k<w.heap.size->k<lo->w'.heap[k]?=w.heap[k]?:=fun k o C=>hg.block k o (fun e=>by have:=q k e.symm;omega)
  refine⟨?_,?_,h.rb.blw ((Below.refl g w).grown hg (Nat.le_of_lt h.rd.lt) (fun k o=>by have:=q k o;omega)),World.ownsRow.kept h.own hg ?_,u,h.fit,h.big⟩
  · have hlt:=h.arr.lt
    obtain⟨t,ht⟩:=h.arr;exact⟨t,(key r hlt hr).trans ht⟩
  · have hlt:=h.rd.lt
    obtain⟨t,ht⟩:=h.rd;exact⟨t,(key g hlt (by omega)).trans ht⟩
  · cases e:vo.ownBlock with
    |none=>exact .inl rfl
    |some k=>exact .inr (fun B=>by have h1:=hv k e;have h2:=q k B.symm;omega)
section
variable (r g n c P : Nat) (A : Option Addr) (bs : List UInt8) (vo : Value) (out : List UInt8) (most : Int) (w : World)
/-- What is read of lists. -/
def zbt(R:List Int×RS)(N M:Nat)(e:Ending)(w':World):Prop:=∃vx vy ok P',e=.returned (.tuple #[vx,vy,.bool ok])/\FI w' r g A n c P' bs vo out most/\RFr w w' r g vo vo /\
  ((ok=false/\vx=.slice none 0 0/\vy=.slice none 0 0/\¬R.2.e=0) \/
   (ok=true/\R.2=⟨P',out,0⟩/\R.1.length=N+M/\257<=N/\N<=286/\1<=M/\M<=30/\∃gq cx cy,vx=.slice (some ⟨gq,0,none⟩) N cx/\vy=.slice (some ⟨gq,N,none⟩) M cy/\RdI w' w'.heap.size (some ⟨gq,0,none⟩) N (R.1.take N)/\RdI w' w'.heap.size (some ⟨gq,N,none⟩) M (R.1.drop N)))
theorem ztx(m:Nat)(M:Int)(q:M=(m:Int))(h:FI w r g A n c P bs vo out most)(o:m<=24):
    Calls Tryz.prog 109 #[.pointer (some ⟨r,0,none⟩),.int .i64 M] w fun e w'=>∃v ok P',e=.returned (.tuple #[.int .i64 v,.bool ok])/\FI w' r g A n c P' bs vo out most/\RFr w w' r g vo vo:=by
  by_cases hf:P+m<=8*n
  · exact(zbb r g n c P m A bs vo out most M w q h o hf).mono fun e w' h=>⟨_,_,_,h⟩
  · exact(zba r g n c P m A bs vo out most M w q h o hf).mono fun e w' h=>⟨_,_,_,h⟩
theorem zpr(h:FI w r g A n c P bs vo out most):
    Calls Tryz.prog 113 #[.pointer (some ⟨r,0,none⟩)] w (zbt r g n c A bs vo out most w (zaO bs ⟨P,out,0⟩) (hdN bs ⟨P,out,0⟩) (hdM bs ⟨P,out,0⟩)):=by
  have bt:=h.arr.lt;have cH:=h.gr;have co:=h.big;have aD:=yo h.rb.len;have aW:Hid (∀k,vo.ownBlock=some k->k<w.heap.size):=(show ∀k,_ from fun k V=>(olt h.own k V).2);have H:=yo h;clear h;by_cases hall:P+14<=8*n/\zaj bs P 5<=29/\zaj bs (P+5) 5<=29
  · obtain⟨hf,bY,ce⟩:=hall
    have a1:=yo (zbb r g n c P 5 A bs vo out most 5 w rfl H.o (by omega) (by omega));have aC:=yo (fun w1 (h:FI w1 r g A n c (P+5) bs vo out most)=>zbb r g n c (P+5) 5 A bs vo out most 5 w1 rfl h (by omega) (by omega));have bb:=yo (fun w1 (h:FI w1 r g A n c (P+10) bs vo out most)=>zbb r g n c (P+10) 4 A bs vo out most 4 w1 rfl h (by omega) (by omega));obtain⟨hN,hM,hL⟩:=zvF (bs:=bs) (P:=P) (out:=out) (by rw[aD.o];exact hf) rfl rfl rfl bY ce;have bS:=zbw bs (P+10) 4;have aY:=yo (fun L P2 h=>zrM (bs:=bs) (P:=P) (P2:=P2) (out:=out) (L:=L) hN hM h);rw[hN,hM];generalize zaj bs (P+10) 4=z at *;generalize zaj bs (P+5) 5=y at *;generalize zaj bs P 5=x at *;obtain⟨Q,hQ⟩:∃Q,4+z=Q:=⟨_,rfl⟩;rw[hQ] at hL;have cA:(z:Int)+4=(Q:Int):=(by omega);have ct:Q<=19:=(by have h2:z<16:=bS;omega);have b3:¬(29:Int)<(x:Int):=(by omega);have bA:¬(29:Int)<(y:Int):=(by omega);obtain⟨N,b8⟩:∃N,257+x=N:=⟨_,rfl⟩;obtain⟨M,bx⟩:∃M,1+y=M:=⟨_,rfl⟩;obtain⟨E,bJ⟩:∃E,N+M=E:=⟨_,rfl⟩;rw[b8,bx] at aY ⊢;have b1:(x:Int)+257=(N:Int):=(by omega);have cB:IntKind.i64.wrap (N:Int)=(N:Int):=zaa N (by omega);have c5:(N:Int)+(y:Int)+1=(E:Int):=(by omega);have cz:IntKind.i64.wrap ((N:Int)+(y:Int))=(N:Int)+(y:Int):=by rw[show(N:Int)+(y:Int)=((N+y:Nat):Int) by omega];exact zaa _ (by omega)
    have cu:IntKind.i64.wrap (E:Int)=(E:Int):=zaa E (by omega);have c3:IntKind.i64.wrap (Q:Int)=(Q:Int):=zaa Q (by omega);have cj:257<=N/\N<=286/\1<=M/\M<=30:=(by omega);have b7:=yo hL;have bU:=yo (fun(h:(zaO bs ⟨P,out,0⟩).2.e=0)=>zfX (zgv h));have bv:=yo bJ;generalize hdL bs ⟨P,out,0⟩=DL at *;generalize hdN bs ⟨P,out,0⟩=dn at *;generalize hdM bs ⟨P,out,0⟩=dm at *;generalize zaO bs ⟨P,out,0⟩=R at *;clear hQ hL bS hN hM bx b8 bJ;go_enter Tryz.func113,Tryz.ntmps113;go_wp2_with (first
      |(go_at_call 109;(with_reducible refine a1.o.mono ?_);go_must (rintro e w1 ⟨rfl,ab,ao⟩;have a5:=yo ao;have F:=yo (aC.o w1 ab);clear ab ao a1))
      |(go_at_call 109;(with_reducible refine F.o.mono ?_);go_must (rintro e w2 ⟨rfl,aj,an⟩;have a4:=yo (a5.o.trans an);have bk:=yo (bb.o w2 aj);clear aj an F))
      |(go_at_call 109;(with_reducible refine bk.o.mono ?_);go_must (rintro e wc ⟨rfl,W,aq⟩;have a3:=yo (a4.o.trans aq);have a6:=yo W;have bh:=a3.o.size;clear W aq bk))
      |(at_make;refine zc4 rfl _ _ rfl 19 _ rfl rfl rfl (by omega) ?_;intro w3 bp aU bG;have bP:=yo (ownI.mono bp bh);have bO:=yo (a6.o.later aU);have bC:=yo (a3.o.trans (RFr.ofB aU r g vo));have bQ:=aU.size;clear bp aU)
      |(go_at_call 142;(with_reducible refine(zpq w3).mono ?_);go_must (rintro e S ⟨rfl,b5,af⟩;have bN:=yo (ownI.mono b5 (nlt bh bQ));have bM:=yo (bP.o.later af);have aI:=yo (bO.o.later af);have ap:=yo (bC.o.trans (RFr.ofB af r g vo));clear b5 af)))
    have bc:wc.heap.size≠w3.heap.size:=(by omega);clear a6 a3 bP bO bC a4 a5 aC bb b3 bA;generalize wc.heap.size=G1 at *;generalize w3.heap.size=G2 at *;clear bQ bG bh;have aZ:Hid (zcA bs ((ordL.take Q).drop 0) (List.replicate 19 0) ⟨P+14,out,0⟩=DL):=(show _=_ from b7.o.symm);go_loopw [13] (fun vi wr=>∃(i:Nat) (L:List Int) (P2:Nat),i<=Q/\vi=.int .i64 i/\Hid (L.length=19)/\Hid (FI wr r g A n c P2 bs vo out most)/\Hid (RFr w wr r g vo vo)/\Hid (ownI wr w.heap.size (.slice (some ⟨G1,0,none⟩) 19 19) L)/\Hid (ownI wr w.heap.size (.slice (some ⟨G2,0,none⟩) 19 19) (ordL.map fun(x:Nat)=>(x:Int)))/\Hid (zcA bs ((ordL.take Q).drop i) L ⟨P2,out,0⟩=DL)) (fun vi _=>Q-(intOf vi).toNat)
    case atStart=>exact⟨0,_,P+14,Nat.zero_le _,rfl,(show(List.replicate 19 (0:Int)).length=19 from rfl),aI,ap,bM,bN,aZ⟩
    case round =>
      clear aI ap bM bN aZ;obtain⟨i,L,P2,hi,rfl,aH,HF,HR,G,HO,HS⟩:=hrel;have bh:=HR.o.size;by_cases hlt:i<Q
      · have ak:(i:Int)<(Q:Int):=by omega
        have ba:i<ordL.length:=(by show i<19;omega);have bW:=zn5 i ba;have aT:=yo HS.o;rw[List.drop_eq_getElem_cons (show i<(ordL.take Q).length by rw[llt];show i<min Q 19;omega),List.getElem_take,zcA] at aT;have e1:wr.cell? ⟨G2,i,none⟩=some (.int .i64 (ordL[i]:Int)):=by
          have:=ownI.cell HO.o rfl (k:=i) (by rw[List.length_map];exact ba);rw[List.getElem_map] at this;exact this
        generalize ordL[i]=kk at *;have cp:(kk:Int)<19:=(by omega);by_cases W:P2+3<=8*n
        · have HG:=yo (zbb r g n c P2 3 A bs vo out most 3 wr rfl HF.o (by omega) W)
          rw[za2 (s:=⟨P2,out,0⟩) rfl (by rw[aD.o];exact W)] at aT;generalize zaj bs P2 3=v at *;go_wp2_with (go_at_call 109;(with_reducible refine HG.o.mono ?_);go_must (rintro e U ⟨rfl,t,o⟩;have a0:=yo t;have ac:=yo (HR.o.trans o);have I:Hid (ownI U w.heap.size (.slice (some ⟨G1,0,none⟩) 19 19) L):=(show ownI _ _ _ _ from ownI.rfr G.o o bt (by omega) (fun k V B=>by have h1:=aW.o k V;have h2:=(olt G.o k B).1;omega));have bz:Hid (ownI U w.heap.size (.slice (some ⟨G2,0,none⟩) 19 19) (ordL.map fun(x:Nat)=>(x:Int))):=(show ownI _ _ _ _ from ownI.rfr HO.o o bt (by omega) (fun k V B=>by have h1:=aW.o k V;have h2:=(olt HO.o k B).1;omega));have c6:=ownI.cell I.o aH.o.symm (k:=kk) (by rw[aH.o];exact bW);have f6:=ownI.frozen I.o aH.o.symm kk;have d6:=(by have h9:=ownI.cell bz.o rfl (k:=i) (by rw[List.length_map];exact ba);exact h9);have bI:=yo (World.ownsRow.stored (show U.ownsRow w.heap.size _ _ (.slice (some ⟨G1,0,none⟩) 19 19) 19 (cI L) from by have:=I.o;unfold ownI at this;rwa[aH.o] at this) kk (Value.int .i64 (v:Int))).2;have a2:Hid (∀k,(Value.slice (some ⟨G1,0,none⟩) 19 19).ownBlock=some k->w.heap.size<=k):=(show ∀k,_ from fun k V=>(olt I.o k V).1);have c7:U.cell? ⟨G2,i,none⟩=some (.int .i64 (kk:Int)):=(World.cell?_of_block (o.block G2 (olt HO.o G2 rfl).2 (by have h2:=(olt HO.o G2 rfl).1;omega) (by have h2:=(olt HO.o G2 rfl).1;omega) (fun e=>by have h1:=aW.o G2 e;have h2:=(olt HO.o G2 rfl).1;omega))).trans e1;clear t o d6));go_roundw
          case rel=>exact⟨i+1,L.set kk (v:Int),P2+3,by omega,by go_num,(show _=_ by rw[List.length_set];exact aH.o),FI.side a0.o bt aW.o a2.o bI.o,RFr.side (l:=L) ac.o a2.o bI.o,ownI.store I.o aH.o.symm kk _,ownI.far bz.o (fun e=>bc (by injection e with e;exact e.symm)) kk _,aT⟩
          case measure=>simp[intOf];omega
        · have HG:=yo (zba r g n c P2 3 A bs vo out most 3 wr rfl HF.o (by omega) W)
          have HE:Hid (¬R.2.e=0):=(show ¬_ by
            have h1:¬DL.2.e=0:=fun h=>by
              rw[<-aT.o] at h;exact zbs (s:=⟨P2,out,0⟩) (m:=3) (by rw[aD.o];exact W) (zgu bs _ _ _ h)
            exact fun hh=>h1 (bU.o hh))
          go_wp2_with (go_at_call 109;(with_reducible refine HG.o.mono ?_);go_must (rintro e U ⟨rfl,t,o⟩;have a0:=yo t;have ac:=yo (HR.o.trans o);clear t o));go_ret3;unfold zbt;exact⟨_,_,false,_,rfl,a0.o,ac.o,.inl ⟨rfl,rfl,rfl,HE.o⟩⟩
      · obtain rfl:i=Q:=by omega
        have ak:¬(i:Int)<(i:Int):=(by omega);have bD:Hid ((L,⟨P2,out,0⟩)=DL):=(show _=_ by
          rw[<-HS.o,List.drop_eq_nil_of_le (by rw[llt];omega)];rfl)
        obtain⟨bg,bi⟩:=aY.o L P2 bD.o.symm;have bg:=yo bg;have bi:=yo bi;have aJ:=zho wr.heap.size 19 19 (some ⟨G1,0,none⟩) L wr G.o.rd (nlr _) (by omega);unfold zle at aJ;replace aJ:=yo aJ;have aX:=yo (fun w1 (h:Below wr.heap.size wr w1)=>zdT wr.heap.size 19 19 (some ⟨G1,0,none⟩) L w1 (RdI.blw G.o.rd h) (by omega));have bR:=yo (fun h=>zgB (ls:=L) h);have aH:=aH;generalize krE L=KE at *;clear aY HS bD b7 HO bc hlt;by_cases hK:krV L=32768
        · obtain⟨aV,ci,cb,aU⟩:=bR.o hK
          have bX:=yo (zhf aV);have bu:=yo (bg.o hK);rw[aV] at aJ;rw[hK] at aX;clear ci cb aU aV hK bg bi bR;go_wp2_with (first
            |(go_at_call 138;(with_reducible refine aJ.o.mono ?_);go_must (rintro e S ⟨v5,rfl,bF,-,af⟩;obtain⟨gd,rfl,bL⟩:=bF rfl;have c8:=af.size;have aI:=yo (HF.o.later af);have ap:=yo (HR.o.trans (RFr.ofB af r g vo));have bT:=yo (DK5.new (r:=r) (g:=g) (vo:=vo) bL (by omega) (by omega) (fun k V=>by have:=aW.o k V;omega));have aE:=yo (aX.o S af);clear bF af bL))
            |(go_at_call 114;(with_reducible refine aE.o.mono ?_);go_must (rintro e U ⟨rfl,rfl⟩)))
          clear HF HR G aX aE aJ;have cv:=ap.o.size;have ae:Hid (∀k,vo.ownBlock=some k->k<S.heap.size):=(show ∀k,_ from fun k V=>by have:=aW.o k V;omega);have bo:=yo (RFr.refl S r g vo);have bn:=yo (ownI.nil_ S S.heap.size);rw[bv.o] at bu;have aZ:=yo bu.o.symm;have bm:Hid (E+1<=([]:List Int).length+(E+1)):=(show _<=_ by simp);have C:r<S.heap.size:=(by omega);go_loopw [20] (fun bw wr=>∃(l:List Int) (P3 f:Nat),l.length<=E/\Hid (FI wr r g A n c P3 bs vo out most)/\Hid (RFr S wr r g vo vo)/\Hid (ownI wr S.heap.size bw l)/\Hid (zar bs L E f l ⟨P3,out,0⟩=R)/\Hid (E+1<=l.length+f)) (fun bw _=>E-zvt bw)
          case atStart=>exact⟨[],P2,E+1,Nat.zero_le _,aI,bo,bn,aZ,bm⟩
          case round =>
            clear aI bo bn aZ bm bu;obtain⟨l,P3,f,hl,HF,HR,G,HS,bd⟩:=hrel;obtain⟨Al,cl,rfl,bj,bf,bq⟩:=G.o.form;obtain⟨K,hK⟩:∃K,l.length=K:=⟨_,rfl⟩;have ah:=yo hK;by_cases hlt:K<E
            · have ak:(K:Int)<(E:Int):=by omega
              have ai:l.length<E:=(by omega);obtain⟨f,rfl⟩:∃f',f=f'+1:=⟨f-1,by have:=bd.o;omega⟩;have HN:=yo (zhp r g gd n c P3 A bs vo out most L wr HF.o (bT.o.fr HR.o) bX.o);have ag:=yo (zuI bs L P3 out);obtain⟨q,aB,aG,bZ⟩:=zhb L bs 15 1 0 P3;have cx:q<=18:=(by have:=aH.o;omega);rw[aB] at HN ag;clear aB aG bZ;generalize (nx L bs 15 1 0 P3).2.2=P4 at *;generalize (nx L bs 15 1 0 P3).2.1=e1 at *;have b4:l.length=K:=hK;rw[hK] at G;simp only[hK];have c0:=HF.o.arr.cell (k:=0) rfl;clear bj bf bq b4;by_cases ht:e1=0
              · subst ht
                by_cases hq16:q<16
                · have cd:(q:Int)<16:=by omega
                  have d16:((q:Int)==16)=false:=bef (by omega);have b0:((q:Int)==17)=false:=bef (by omega);have cf:((q:Int)==18)=false:=bef (by omega);have aT:Hid (zar bs L E f (l++List.replicate 1 (q:Int)) ⟨P4,out,0⟩=R):=(show _=_ by
                    rw[<-HS.o,zuK ai rfl (by rw[ag.o]) (by rw[ag.o];exact cd),ag.o];rfl)
                  have aF:¬(E:Int)<(K:Int)+1:=(by omega);clear ai hK;go_upto_region 43 with(first
                    |(go_at_call 139;(with_reducible refine HN.o.mono ?_);go_must (rintro e U ⟨rfl,t,o⟩; have a0:=yo t;have ac:=yo (HR.o.trans o);have I:Hid (ownI U S.heap.size (.slice Al K cl) l):=(show ownI _ _ _ _ from ownI.rfr G.o o C (by omega) (fun k V B=>by have h1:=ae.o k V;have h2:=(olt G.o k B).1;omega));clear t o)))
                  have aN:Hid (zar bs L E f (l++List.replicate 1 (q:Int)) ⟨P4,out,0⟩=R):=(show _=_ by
                    exact aT.o)
                  have av:Hid (ownI U S.heap.size (.slice Al K cl) (l++List.replicate 0 (q:Int))):=(show ownI _ _ _ _ by have:=I.o;rwa[show l++List.replicate 0 (q:Int)=l by simp]);have ar:=yo a0.o;have al:=yo ac.o;clear HN HS ag aT;go_wp2_with fail;obtain⟨wo,rfl⟩:∃wo:World,wo=wr:=⟨_,rfl⟩;go_loopw [26,20] (fun vi vl wr=>∃i:Nat,i<=1/\vi=.int .i64 i/\Hid (FI wr r g A n c (P4) bs vo out most)/\Hid (RFr S wr r g vo vo)/\Hid (ownI wr S.heap.size vl (l++List.replicate i (q:Int)))) (fun vi _ _=>1-(intOf vi).toNat)
                  case atStart=>exact⟨0,Nat.zero_le _,rfl,ar,al,av⟩
                  case round =>
                    clear ar al av;obtain⟨i,hi,rfl,HF,HR,G⟩:=hrel;obtain⟨Aq,cq,rfl,-,-,-⟩:=G.o.form;have u:(l++List.replicate i (q:Int)).length=K+i:=(by rw[lla,List.length_replicate,ah.o]);by_cases hlt:i<1
                    · have ak:(i:Int)<(1:Int):=by omega
                      have aA:=yo (zdI l (q:Int) i);have a2:Hid (∀k,(Value.slice Aq (l++List.replicate i (q:Int)).length cq).ownBlock=some k->S.heap.size<=k):=(show ∀k,_ from fun k V=>(olt G.o k V).1);generalize l++List.replicate i (q:Int)=ll at *;have aS:=yo (ownI.alloc G.o (.cells #[Value.int .i64 (q:Int)] 3));have aR:=yo (HF.o.later ((Below.refl wr.heap.size wr).alloc (nlr _) (.cells #[Value.int .i64 (q:Int)] 3)));have a9:=yo (HR.o.allocd (.cells #[Value.int .i64 (q:Int)] 3));have aB:ll.length+1<=1099511627776:=(by omega);have aG:S.heap.size<=(wr.alloc (.cells #[Value.int .i64 (q:Int)] 3)).heap.size:=a9.o.size;clear u;go_wp2_with (at_builtin;go_must (refine zay rfl (.tmp 174) (.tmp 176) rfl S.heap.size _ ll rfl aS.o (wr.heap.size+1) 1 1 (some ⟨wr.heap.size,0,none⟩) [(q:Int)] rfl (zbv wr (q:Int)) aB aG ?_;intro v7 w7 ax az aQ aO;rw[aA.o] at ax;have aw:=yo ax;have Y:=yo (FI.side aR.o C ae.o a2.o az);have Z:=yo (RFr.side (l:=ll) a9.o a2.o az);clear ax az aQ aO));go_roundw
                      case rel=>exact⟨i+1,by omega,by go_num,Y,Z,aw⟩
                      case measure=>simp[intOf];omega
                    · obtain rfl:i=1:=by omega
                      have ak:¬((1:Nat):Int)<((1:Nat):Int):=(by omega);have a7:Hid (E+1<=(l++List.replicate 1 (q:Int)).length+f):=(show _<=_ by rw[u];have h9:=bd.o;rw[ah.o] at h9;omega);have a8:(l++List.replicate 1 (q:Int)).length<=E:=(by rw[u];omega);have aP:Hid (E-(l++List.replicate 1 (q:Int)).length<E-K):=(show _<_ by rw[u];omega);clear u;go_wp2_with fail;go_roundw
                      case rel=>exact⟨_,P4,f,a8,HF,HR,G,aN,a7⟩
                      case measure=>exact aP.o
                · rcases(show q=16\/q=17\/q=18 by omega) with hq|hq|hq
                  · subst hq
                    have d16:(((16:Nat):Int)==16)=true:=rfl;by_cases hl0:K=0
                    · have HE:Hid (¬R.2.e=0):=(show ¬_ by
                        rw[<-HS.o];exact zuL ai rfl (by rw[ag.o]) (by rw[ag.o];rfl) (by rw[ah.o];exact hl0))
                      have b2:((K:Int)==0)=true:=(by rw[hl0];rfl);have cw:(K:Int)=0:=(by omega);clear ai hK;go_wp2_with (first
                        |(go_at_call 139;(with_reducible refine HN.o.mono ?_);go_must (rintro e U ⟨rfl,t,o⟩; have a0:=yo t;have ac:=yo (HR.o.trans o);have I:Hid (ownI U S.heap.size (.slice Al K cl) l):=(show ownI _ _ _ _ from ownI.rfr G.o o C (by omega) (fun k V B=>by have h1:=ae.o k V;have h2:=(olt G.o k B).1;omega));clear t o)))
                      have ay:=yo (ap.o.trans ac.o);go_ret3;unfold zbt;exact⟨_,_,false,_,rfl,a0.o,ay.o,.inl ⟨rfl,rfl,rfl,HE.o⟩⟩
                    · have b2:((K:Int)==0)=false:=bef (by omega)
                      have bK:K-1<l.length:=(by omega);have b9:l.getD (l.length-1) 0=l[K-1]:=(by rw[ah.o,lgd,lge bK];rfl);obtain⟨-,gq,ca,-,-⟩:=ownI.pos G.o (show 0<K by omega);subst ca;have br:Hid (∀w',ownI w' S.heap.size (.slice (some ⟨gq,0,none⟩) K cl) l->w'.cell? ⟨gq,K-1,none⟩=some (.int .i64 l[K-1])):=(show ∀w',_ from fun w' h=>ownI.cell h ah.o.symm bK);have J:=yo (zvv (bs:=bs) (ls:=L) (all:=E) (f:=f) (l:=l) (s:=⟨P3,out,0⟩) ai rfl (by rw[ag.o]) (by rw[ag.o];rfl) (by omega));rw[HS.o,b9,ag.o] at J;generalize l[K-1]=x at *;clear b9;obtain⟨D,hD⟩:∃D,K-1=D:=⟨_,rfl⟩;rw[hD] at br;have ch:(K:Int)-1=(D:Int):=(by omega);have cg:IntKind.i64.wrap (D:Int)=(D:Int):=zaa D (by omega);have cy:IntKind.i64.wrap ((K:Int)-1)=(D:Int):=(by rw[ch];exact cg);have cE:D<K:=(by omega);clear ai hK;by_cases hfg:P4+2<=8*n
                      · have HG:=yo (fun U (h:FI U r g A n c P4 bs vo out most)=>zbb r g n c P4 2 A bs vo out most 2 U rfl h (by omega) hfg)
                        have aM:Hid (zac bs (⟨P4,out,0⟩:RS) 2=(zaj bs P4 2,⟨P4+2,out,0⟩)):=(show _=_ from za2 rfl (by rw[aD.o];exact hfg));have hv:=zbw bs P4 2;have O:=yo J.o;rw[show(zac bs (((16:Nat):Int),(⟨P4,out,0⟩:RS)).2 2)=zac bs (⟨P4,out,0⟩:RS) 2 from rfl,aM.o] at O;generalize zaj bs P4 2=v at *;have bB:v<200:=Nat.lt_of_lt_of_le hv (by decide);obtain⟨T,hT⟩:∃T,3+v=T:=⟨_,rfl⟩;have bH:(v:Int)+3=(T:Int):=(by omega);have bE:3<=T:=(by omega);have b6:IntKind.i64.wrap (T:Int)=(T:Int):=zaa T (by omega);have bl:IntKind.i64.wrap ((K:Int)+(T:Int))=(K:Int)+(T:Int):=by rw[show(K:Int)+(T:Int)=((K+T:Nat):Int) by omega];exact zaa _ (by omega)
                        replace O:Hid (R=zar bs L E f (zaC l x T E ⟨P4+2,out,0⟩).1 (zaC l x T E ⟨P4+2,out,0⟩).2):=(show _=_ by rw[<-hT];exact O.o);clear hv hT J aM;go_upto_region 41 with(first
                          |(go_at_call 139;(with_reducible refine HN.o.mono ?_);go_must (rintro e U ⟨rfl,t,o⟩;have ck:=br.o U (ownI.rfr G.o o C (by omega) (fun k V B=>by have h1:=ae.o k V;have h2:=(olt G.o k B).1;omega));have au:=yo (HG.o U t);have aL:=yo o;have a0:=yo t;have ac:=yo (HR.o.trans o);have I:Hid (ownI U S.heap.size (.slice (some ⟨gq,0,none⟩) K cl) l):=(show ownI _ _ _ _ from ownI.rfr G.o o C (by omega) (fun k V B=>by have h1:=ae.o k V;have h2:=(olt G.o k B).1;omega));clear t o))
                          |(go_at_call 109;(with_reducible refine au.o.mono ?_);go_must (rintro e w7 ⟨rfl,am,X⟩;have Y:=yo am;have Z:=yo (ac.o.trans X);have aw:Hid (ownI w7 S.heap.size (.slice (some ⟨gq,0,none⟩) K cl) l):=(show ownI _ _ _ _ from ownI.rfr I.o X C (by omega) (fun k V B=>by have h1:=ae.o k V;have h2:=(olt I.o k B).1;omega));clear am X au)))
                        by_cases hov:E<K+T
                        · have aF:(E:Int)<(K:Int)+(T:Int):=by omega
                          have HE:Hid (¬R.2.e=0):=(show ¬_ by
                            rw[O.o];exact zdP (zhr rfl (by rw[ah.o];exact hov)))
                          have ay:=yo (ap.o.trans Z.o);go_wp2_with fail;go_ret3;unfold zbt;exact⟨_,_,false,_,rfl,Y.o,ay.o,.inl ⟨rfl,rfl,rfl,HE.o⟩⟩
                        · have aF:¬(E:Int)<(K:Int)+(T:Int):=by omega
                          have aN:Hid (zar bs L E f (l++List.replicate T x) ⟨P4+2,out,0⟩=R):=(show _=_ by
                            rw[O.o,zjV rfl (by rw[ah.o];omega)])
                          have av:Hid (ownI w7 S.heap.size (.slice (some ⟨gq,0,none⟩) K cl) (l++List.replicate 0 x)):=(show ownI _ _ _ _ by have:=aw.o;rwa[show l++List.replicate 0 x=l by simp]);have ar:=yo Y.o;have al:=yo Z.o;clear HN HS ag;go_wp2_with fail;obtain⟨wo,rfl⟩:∃wo:World,wo=wr:=⟨_,rfl⟩;go_loopw [26,20] (fun vi vl wr=>∃i:Nat,i<=T/\vi=.int .i64 i/\Hid (FI wr r g A n c (P4+2) bs vo out most)/\Hid (RFr S wr r g vo vo)/\Hid (ownI wr S.heap.size vl (l++List.replicate i x))) (fun vi _ _=>T-(intOf vi).toNat)
                          case atStart=>exact⟨0,Nat.zero_le _,rfl,ar,al,av⟩
                          case round =>
                            clear ar al av;obtain⟨i,hi,rfl,HF,HR,G⟩:=hrel;obtain⟨Aq,cq,rfl,-,-,-⟩:=G.o.form;have u:(l++List.replicate i x).length=K+i:=(by rw[lla,List.length_replicate,ah.o]);by_cases hlt:i<T
                            · have ak:(i:Int)<(T:Int):=by omega
                              have aA:=yo (zdI l x i);have a2:Hid (∀k,(Value.slice Aq (l++List.replicate i x).length cq).ownBlock=some k->S.heap.size<=k):=(show ∀k,_ from fun k V=>(olt G.o k V).1);generalize l++List.replicate i x=ll at *;have aS:=yo (ownI.alloc G.o (.cells #[Value.int .i64 x] 3));have aR:=yo (HF.o.later ((Below.refl wr.heap.size wr).alloc (nlr _) (.cells #[Value.int .i64 x] 3)));have a9:=yo (HR.o.allocd (.cells #[Value.int .i64 x] 3));have aB:ll.length+1<=1099511627776:=(by omega);have aG:S.heap.size<=(wr.alloc (.cells #[Value.int .i64 x] 3)).heap.size:=a9.o.size;clear u;go_wp2_with (at_builtin;go_must (refine zay rfl (.tmp 174) (.tmp 176) rfl S.heap.size _ ll rfl aS.o (wr.heap.size+1) 1 1 (some ⟨wr.heap.size,0,none⟩) [x] rfl (zbv wr x) aB aG ?_;intro v7 w7 ax az aQ aO;rw[aA.o] at ax;have aw:=yo ax;have Y:=yo (FI.side aR.o C ae.o a2.o az);have Z:=yo (RFr.side (l:=ll) a9.o a2.o az);clear ax az aQ aO));go_roundw
                              case rel=>exact⟨i+1,by omega,by go_num,Y,Z,aw⟩
                              case measure=>simp[intOf];omega
                            · obtain rfl:i=T:=by omega
                              have ak:¬(i:Int)<(i:Int):=(by omega);have a7:Hid (E+1<=(l++List.replicate i x).length+f):=(show _<=_ by rw[u];have h9:=bd.o;rw[ah.o] at h9;omega);have a8:(l++List.replicate i x).length<=E:=(by rw[u];omega);have aP:Hid (E-(l++List.replicate i x).length<E-K):=(show _<_ by rw[u];omega);clear u;go_wp2_with fail;go_roundw
                              case rel=>exact⟨_,P4+2,f,a8,HF,HR,G,aN,a7⟩
                              case measure=>exact aP.o
                      · have HG:=yo (fun U (h:FI U r g A n c P4 bs vo out most)=>zba r g n c P4 2 A bs vo out most 2 U rfl h (by omega) hfg)
                        have HE:Hid (¬R.2.e=0):=(show ¬_ by
                          rw[J.o];exact zdP (ziz (zbs (s:=⟨P4,out,0⟩) (by rw[aD.o];exact hfg))))
                        clear J;go_wp2_with (first
                          |(go_at_call 139;(with_reducible refine HN.o.mono ?_);go_must (rintro e U ⟨rfl,t,o⟩;have ck:=br.o U (ownI.rfr G.o o C (by omega) (fun k V B=>by have h1:=ae.o k V;have h2:=(olt G.o k B).1;omega));have au:=yo (HG.o U t);have aL:=yo o;have a0:=yo t;have ac:=yo (HR.o.trans o);have I:Hid (ownI U S.heap.size (.slice (some ⟨gq,0,none⟩) K cl) l):=(show ownI _ _ _ _ from ownI.rfr G.o o C (by omega) (fun k V B=>by have h1:=ae.o k V;have h2:=(olt G.o k B).1;omega));clear t o))
                          |(go_at_call 109;(with_reducible refine au.o.mono ?_);go_must (rintro e w7 ⟨rfl,am,X⟩;have Y:=yo am;have Z:=yo (ac.o.trans X);have aw:Hid (ownI w7 S.heap.size (.slice (some ⟨gq,0,none⟩) K cl) l):=(show ownI _ _ _ _ from ownI.rfr I.o X C (by omega) (fun k V B=>by have h1:=ae.o k V;have h2:=(olt I.o k B).1;omega));clear am X au)))
                        have ay:=yo (ap.o.trans Z.o);go_ret3;unfold zbt;exact⟨_,_,false,_,rfl,Y.o,ay.o,.inl ⟨rfl,rfl,rfl,HE.o⟩⟩
                  · subst hq
                    have d16:(((17:Nat):Int)==16)=false:=rfl;have b0:(((17:Nat):Int)==17)=true:=rfl;have J:=yo (zvw (bs:=bs) (ls:=L) (all:=E) (f:=f) (l:=l) (s:=⟨P3,out,0⟩) ai rfl (by rw[ag.o]) (by rw[ag.o];rfl));rw[HS.o,ag.o] at J;clear ai hK;by_cases hfg:P4+3<=8*n
                    · have HG:=yo (fun U (h:FI U r g A n c P4 bs vo out most)=>zbb r g n c P4 3 A bs vo out most 3 U rfl h (by omega) hfg)
                      have aM:Hid (zac bs (⟨P4,out,0⟩:RS) 3=(zaj bs P4 3,⟨P4+3,out,0⟩)):=(show _=_ from za2 rfl (by rw[aD.o];exact hfg));have hv:=zbw bs P4 3;have O:=yo J.o;rw[show(zac bs (((17:Nat):Int),(⟨P4,out,0⟩:RS)).2 3)=zac bs (⟨P4,out,0⟩:RS) 3 from rfl,aM.o] at O;generalize zaj bs P4 3=v at *;have bB:v<200:=Nat.lt_of_lt_of_le hv (by decide);obtain⟨T,hT⟩:∃T,3+v=T:=⟨_,rfl⟩;have bH:(v:Int)+3=(T:Int):=(by omega);have bE:3<=T:=(by omega);have b6:IntKind.i64.wrap (T:Int)=(T:Int):=zaa T (by omega);have bl:IntKind.i64.wrap ((K:Int)+(T:Int))=(K:Int)+(T:Int):=by rw[show(K:Int)+(T:Int)=((K+T:Nat):Int) by omega];exact zaa _ (by omega)
                      replace O:Hid (R=zar bs L E f (zaC l 0 T E ⟨P4+3,out,0⟩).1 (zaC l 0 T E ⟨P4+3,out,0⟩).2):=(show _=_ by rw[<-hT];exact O.o);clear hv hT J aM;go_upto_region 41 with(first
                        |(go_at_call 139;(with_reducible refine HN.o.mono ?_);go_must (rintro e U ⟨rfl,t,o⟩; have au:=yo (HG.o U t);have aL:=yo o;have a0:=yo t;have ac:=yo (HR.o.trans o);have I:Hid (ownI U S.heap.size (.slice Al K cl) l):=(show ownI _ _ _ _ from ownI.rfr G.o o C (by omega) (fun k V B=>by have h1:=ae.o k V;have h2:=(olt G.o k B).1;omega));clear t o))
                        |(go_at_call 109;(with_reducible refine au.o.mono ?_);go_must (rintro e w7 ⟨rfl,am,X⟩;have Y:=yo am;have Z:=yo (ac.o.trans X);have aw:Hid (ownI w7 S.heap.size (.slice Al K cl) l):=(show ownI _ _ _ _ from ownI.rfr I.o X C (by omega) (fun k V B=>by have h1:=ae.o k V;have h2:=(olt I.o k B).1;omega));clear am X au)))
                      by_cases hov:E<K+T
                      · have aF:(E:Int)<(K:Int)+(T:Int):=by omega
                        have HE:Hid (¬R.2.e=0):=(show ¬_ by
                          rw[O.o];exact zdP (zhr rfl (by rw[ah.o];exact hov)))
                        have ay:=yo (ap.o.trans Z.o);go_wp2_with fail;go_ret3;unfold zbt;exact⟨_,_,false,_,rfl,Y.o,ay.o,.inl ⟨rfl,rfl,rfl,HE.o⟩⟩
                      · have aF:¬(E:Int)<(K:Int)+(T:Int):=by omega
                        have aN:Hid (zar bs L E f (l++List.replicate T 0) ⟨P4+3,out,0⟩=R):=(show _=_ by
                          rw[O.o,zjV rfl (by rw[ah.o];omega)])
                        have av:Hid (ownI w7 S.heap.size (.slice Al K cl) (l++List.replicate 0 0)):=(show ownI _ _ _ _ by have:=aw.o;rwa[show l++List.replicate 0 0=l by simp]);have ar:=yo Y.o;have al:=yo Z.o;clear HN HS ag;go_wp2_with fail;obtain⟨wo,rfl⟩:∃wo:World,wo=wr:=⟨_,rfl⟩;go_loopw [26,20] (fun vi vl wr=>∃i:Nat,i<=T/\vi=.int .i64 i/\Hid (FI wr r g A n c (P4+3) bs vo out most)/\Hid (RFr S wr r g vo vo)/\Hid (ownI wr S.heap.size vl (l++List.replicate i 0))) (fun vi _ _=>T-(intOf vi).toNat)
                        case atStart=>exact⟨0,Nat.zero_le _,rfl,ar,al,av⟩
                        case round =>
                          clear ar al av;obtain⟨i,hi,rfl,HF,HR,G⟩:=hrel;obtain⟨Aq,cq,rfl,-,-,-⟩:=G.o.form;have u:(l++List.replicate i 0).length=K+i:=(by rw[lla,List.length_replicate,ah.o]);by_cases hlt:i<T
                          · have ak:(i:Int)<(T:Int):=by omega
                            have aA:=yo (zdI l 0 i);have a2:Hid (∀k,(Value.slice Aq (l++List.replicate i 0).length cq).ownBlock=some k->S.heap.size<=k):=(show ∀k,_ from fun k V=>(olt G.o k V).1);generalize l++List.replicate i 0=ll at *;have aS:=yo (ownI.alloc G.o (.cells #[Value.int .i64 0] 3));have aR:=yo (HF.o.later ((Below.refl wr.heap.size wr).alloc (nlr _) (.cells #[Value.int .i64 0] 3)));have a9:=yo (HR.o.allocd (.cells #[Value.int .i64 0] 3));have aB:ll.length+1<=1099511627776:=(by omega);have aG:S.heap.size<=(wr.alloc (.cells #[Value.int .i64 0] 3)).heap.size:=a9.o.size;clear u;go_wp2_with (at_builtin;go_must (refine zay rfl (.tmp 174) (.tmp 176) rfl S.heap.size _ ll rfl aS.o (wr.heap.size+1) 1 1 (some ⟨wr.heap.size,0,none⟩) [0] rfl (zbv wr 0) aB aG ?_;intro v7 w7 ax az aQ aO;rw[aA.o] at ax;have aw:=yo ax;have Y:=yo (FI.side aR.o C ae.o a2.o az);have Z:=yo (RFr.side (l:=ll) a9.o a2.o az);clear ax az aQ aO));go_roundw
                            case rel=>exact⟨i+1,by omega,by go_num,Y,Z,aw⟩
                            case measure=>simp[intOf];omega
                          · obtain rfl:i=T:=by omega
                            have ak:¬(i:Int)<(i:Int):=(by omega);have a7:Hid (E+1<=(l++List.replicate i 0).length+f):=(show _<=_ by rw[u];have h9:=bd.o;rw[ah.o] at h9;omega);have a8:(l++List.replicate i 0).length<=E:=(by rw[u];omega);have aP:Hid (E-(l++List.replicate i 0).length<E-K):=(show _<_ by rw[u];omega);clear u;go_wp2_with fail;go_roundw
                            case rel=>exact⟨_,P4+3,f,a8,HF,HR,G,aN,a7⟩
                            case measure=>exact aP.o
                    · have HG:=yo (fun U (h:FI U r g A n c P4 bs vo out most)=>zba r g n c P4 3 A bs vo out most 3 U rfl h (by omega) hfg)
                      have HE:Hid (¬R.2.e=0):=(show ¬_ by
                        rw[J.o];exact zdP (ziz (zbs (s:=⟨P4,out,0⟩) (by rw[aD.o];exact hfg))))
                      clear J;go_wp2_with (first
                        |(go_at_call 139;(with_reducible refine HN.o.mono ?_);go_must (rintro e U ⟨rfl,t,o⟩; have au:=yo (HG.o U t);have aL:=yo o;have a0:=yo t;have ac:=yo (HR.o.trans o);have I:Hid (ownI U S.heap.size (.slice Al K cl) l):=(show ownI _ _ _ _ from ownI.rfr G.o o C (by omega) (fun k V B=>by have h1:=ae.o k V;have h2:=(olt G.o k B).1;omega));clear t o))
                        |(go_at_call 109;(with_reducible refine au.o.mono ?_);go_must (rintro e w7 ⟨rfl,am,X⟩;have Y:=yo am;have Z:=yo (ac.o.trans X);have aw:Hid (ownI w7 S.heap.size (.slice Al K cl) l):=(show ownI _ _ _ _ from ownI.rfr I.o X C (by omega) (fun k V B=>by have h1:=ae.o k V;have h2:=(olt I.o k B).1;omega));clear am X au)))
                      have ay:=yo (ap.o.trans Z.o);go_ret3;unfold zbt;exact⟨_,_,false,_,rfl,Y.o,ay.o,.inl ⟨rfl,rfl,rfl,HE.o⟩⟩
                  · subst hq
                    have d16:(((18:Nat):Int)==16)=false:=rfl;have b0:(((18:Nat):Int)==17)=false:=rfl;have cf:(((18:Nat):Int)==18)=true:=rfl;have J:=yo (zvx (bs:=bs) (ls:=L) (all:=E) (f:=f) (l:=l) (s:=⟨P3,out,0⟩) ai rfl (by rw[ag.o]) (by rw[ag.o];show(17:Int)<((18:Nat):Int);decide));rw[HS.o,ag.o] at J;clear ai hK;by_cases hfg:P4+7<=8*n
                    · have HG:=yo (fun U (h:FI U r g A n c P4 bs vo out most)=>zbb r g n c P4 7 A bs vo out most 7 U rfl h (by omega) hfg)
                      have aM:Hid (zac bs (⟨P4,out,0⟩:RS) 7=(zaj bs P4 7,⟨P4+7,out,0⟩)):=(show _=_ from za2 rfl (by rw[aD.o];exact hfg));have hv:=zbw bs P4 7;have O:=yo J.o;rw[show(zac bs (((18:Nat):Int),(⟨P4,out,0⟩:RS)).2 7)=zac bs (⟨P4,out,0⟩:RS) 7 from rfl,aM.o] at O;generalize zaj bs P4 7=v at *;have bB:v<200:=Nat.lt_of_lt_of_le hv (by decide);obtain⟨T,hT⟩:∃T,11+v=T:=⟨_,rfl⟩;have bH:(v:Int)+11=(T:Int):=(by omega);have bE:3<=T:=(by omega);have b6:IntKind.i64.wrap (T:Int)=(T:Int):=zaa T (by omega);have bl:IntKind.i64.wrap ((K:Int)+(T:Int))=(K:Int)+(T:Int):=by rw[show(K:Int)+(T:Int)=((K+T:Nat):Int) by omega];exact zaa _ (by omega)
                      replace O:Hid (R=zar bs L E f (zaC l 0 T E ⟨P4+7,out,0⟩).1 (zaC l 0 T E ⟨P4+7,out,0⟩).2):=(show _=_ by rw[<-hT];exact O.o);clear hv hT J aM;go_upto_region 41 with(first
                        |(go_at_call 139;(with_reducible refine HN.o.mono ?_);go_must (rintro e U ⟨rfl,t,o⟩; have au:=yo (HG.o U t);have aL:=yo o;have a0:=yo t;have ac:=yo (HR.o.trans o);have I:Hid (ownI U S.heap.size (.slice Al K cl) l):=(show ownI _ _ _ _ from ownI.rfr G.o o C (by omega) (fun k V B=>by have h1:=ae.o k V;have h2:=(olt G.o k B).1;omega));clear t o))
                        |(go_at_call 109;(with_reducible refine au.o.mono ?_);go_must (rintro e w7 ⟨rfl,am,X⟩;have Y:=yo am;have Z:=yo (ac.o.trans X);have aw:Hid (ownI w7 S.heap.size (.slice Al K cl) l):=(show ownI _ _ _ _ from ownI.rfr I.o X C (by omega) (fun k V B=>by have h1:=ae.o k V;have h2:=(olt I.o k B).1;omega));clear am X au)))
                      by_cases hov:E<K+T
                      · have aF:(E:Int)<(K:Int)+(T:Int):=by omega
                        have HE:Hid (¬R.2.e=0):=(show ¬_ by
                          rw[O.o];exact zdP (zhr rfl (by rw[ah.o];exact hov)))
                        have ay:=yo (ap.o.trans Z.o);go_wp2_with fail;go_ret3;unfold zbt;exact⟨_,_,false,_,rfl,Y.o,ay.o,.inl ⟨rfl,rfl,rfl,HE.o⟩⟩
                      · have aF:¬(E:Int)<(K:Int)+(T:Int):=by omega
                        have aN:Hid (zar bs L E f (l++List.replicate T 0) ⟨P4+7,out,0⟩=R):=(show _=_ by
                          rw[O.o,zjV rfl (by rw[ah.o];omega)])
                        have av:Hid (ownI w7 S.heap.size (.slice Al K cl) (l++List.replicate 0 0)):=(show ownI _ _ _ _ by have:=aw.o;rwa[show l++List.replicate 0 0=l by simp]);have ar:=yo Y.o;have al:=yo Z.o;clear HN HS ag;go_wp2_with fail;obtain⟨wo,rfl⟩:∃wo:World,wo=wr:=⟨_,rfl⟩;go_loopw [26,20] (fun vi vl wr=>∃i:Nat,i<=T/\vi=.int .i64 i/\Hid (FI wr r g A n c (P4+7) bs vo out most)/\Hid (RFr S wr r g vo vo)/\Hid (ownI wr S.heap.size vl (l++List.replicate i 0))) (fun vi _ _=>T-(intOf vi).toNat)
                        case atStart=>exact⟨0,Nat.zero_le _,rfl,ar,al,av⟩
                        case round =>
                          clear ar al av;obtain⟨i,hi,rfl,HF,HR,G⟩:=hrel;obtain⟨Aq,cq,rfl,-,-,-⟩:=G.o.form;have u:(l++List.replicate i 0).length=K+i:=(by rw[lla,List.length_replicate,ah.o]);by_cases hlt:i<T
                          · have ak:(i:Int)<(T:Int):=by omega
                            have aA:=yo (zdI l 0 i);have a2:Hid (∀k,(Value.slice Aq (l++List.replicate i 0).length cq).ownBlock=some k->S.heap.size<=k):=(show ∀k,_ from fun k V=>(olt G.o k V).1);generalize l++List.replicate i 0=ll at *;have aS:=yo (ownI.alloc G.o (.cells #[Value.int .i64 0] 3));have aR:=yo (HF.o.later ((Below.refl wr.heap.size wr).alloc (nlr _) (.cells #[Value.int .i64 0] 3)));have a9:=yo (HR.o.allocd (.cells #[Value.int .i64 0] 3));have aB:ll.length+1<=1099511627776:=(by omega);have aG:S.heap.size<=(wr.alloc (.cells #[Value.int .i64 0] 3)).heap.size:=a9.o.size;clear u;go_wp2_with (at_builtin;go_must (refine zay rfl (.tmp 174) (.tmp 176) rfl S.heap.size _ ll rfl aS.o (wr.heap.size+1) 1 1 (some ⟨wr.heap.size,0,none⟩) [0] rfl (zbv wr 0) aB aG ?_;intro v7 w7 ax az aQ aO;rw[aA.o] at ax;have aw:=yo ax;have Y:=yo (FI.side aR.o C ae.o a2.o az);have Z:=yo (RFr.side (l:=ll) a9.o a2.o az);clear ax az aQ aO));go_roundw
                            case rel=>exact⟨i+1,by omega,by go_num,Y,Z,aw⟩
                            case measure=>simp[intOf];omega
                          · obtain rfl:i=T:=by omega
                            have ak:¬(i:Int)<(i:Int):=(by omega);have a7:Hid (E+1<=(l++List.replicate i 0).length+f):=(show _<=_ by rw[u];have h9:=bd.o;rw[ah.o] at h9;omega);have a8:(l++List.replicate i 0).length<=E:=(by rw[u];omega);have aP:Hid (E-(l++List.replicate i 0).length<E-K):=(show _<_ by rw[u];omega);clear u;go_wp2_with fail;go_roundw
                            case rel=>exact⟨_,P4+7,f,a8,HF,HR,G,aN,a7⟩
                            case measure=>exact aP.o
                    · have HG:=yo (fun U (h:FI U r g A n c P4 bs vo out most)=>zba r g n c P4 7 A bs vo out most 7 U rfl h (by omega) hfg)
                      have HE:Hid (¬R.2.e=0):=(show ¬_ by
                        rw[J.o];exact zdP (ziz (zbs (s:=⟨P4,out,0⟩) (by rw[aD.o];exact hfg))))
                      clear J;go_wp2_with (first
                        |(go_at_call 139;(with_reducible refine HN.o.mono ?_);go_must (rintro e U ⟨rfl,t,o⟩; have au:=yo (HG.o U t);have aL:=yo o;have a0:=yo t;have ac:=yo (HR.o.trans o);have I:Hid (ownI U S.heap.size (.slice Al K cl) l):=(show ownI _ _ _ _ from ownI.rfr G.o o C (by omega) (fun k V B=>by have h1:=ae.o k V;have h2:=(olt G.o k B).1;omega));clear t o))
                        |(go_at_call 109;(with_reducible refine au.o.mono ?_);go_must (rintro e w7 ⟨rfl,am,X⟩;have Y:=yo am;have Z:=yo (ac.o.trans X);have aw:Hid (ownI w7 S.heap.size (.slice Al K cl) l):=(show ownI _ _ _ _ from ownI.rfr I.o X C (by omega) (fun k V B=>by have h1:=ae.o k V;have h2:=(olt I.o k B).1;omega));clear am X au)))
                      have ay:=yo (ap.o.trans Z.o);go_ret3;unfold zbt;exact⟨_,_,false,_,rfl,Y.o,ay.o,.inl ⟨rfl,rfl,rfl,HE.o⟩⟩
              · have HE:Hid (¬R.2.e=0):=(show ¬_ by
                  rw[<-HS.o];exact zuJ ai rfl (by rw[ag.o];exact ht))
                have cC:(e1 != 0)=true:=(by rw[bne_iff_ne];exact ht);clear hK ai;go_wp2_with (go_at_call 139;(with_reducible refine HN.o.mono ?_);go_must (rintro e U ⟨rfl,t,o⟩;have a0:=yo t;have ac:=yo (ap.o.trans (HR.o.trans o));clear t o));go_ret3;unfold zbt;exact⟨_,_,false,_,rfl,a0.o,ac.o,.inl ⟨rfl,rfl,rfl,HE.o⟩⟩
            · obtain rfl:K=E:=by omega
              have ak:¬(K:Int)<(K:Int):=(by omega);have HE:Hid (R=(l,⟨P3,out,0⟩)):=(show _=_ by rw[<-HS.o,zcz (fun h=>by have:=h.1;omega)]);obtain⟨-,gq,rfl,-,-⟩:=ownI.pos G.o (show 0<l.length by omega);rw[hK] at G;simp only[hK];have c4:K<=cl:=(by rw[<-hK];exact bf);clear hK bj bf bq;have cF:¬cl=N:=(by omega);have c9:N<=K:=(by omega);have cs:(N:Int)<=(K:Int):=(by omega);have cr:(N:Int)<=(cl:Int):=(by omega);have cn:(K:Int)<=(cl:Int):=(by omega);have cm:N<cl:=(by omega);have ay:=yo (ap.o.trans HR.o);go_wp2_with fail;go_quiet (fail);go_wp2_with fail;go_ret3;unfold zbt;have cc:K-N=M:=(by have:=bv.o;omega);have cG:l.length=K:=ah.o;refine⟨_,_,true,P3,rfl,HF.o.drewN _,ay.o.drewN _,.inr ⟨rfl,by rw[HE.o],by rw[HE.o];show l.length=N+M;rw[ah.o];exact bv.o.symm,by omega,by omega,by omega,by omega,gq,cl,cl-N,rfl,?_,?_,?_⟩⟩
              · show Value.slice _ (K-N) _=_
                rw[cc]
              · rw[HE.o]
                have h1:=(ownI.rd (G.o.drewN nq)).cut (k:=0) (m:=N) (by omega) (A':=some ⟨gq,0,none⟩) (fun _=>rfl);rw[List.drop_zero] at h1;exact h1
              · rw[HE.o]
                have h1:=(ownI.rd (G.o.drewN nq)).cut (k:=N) (m:=M) (by omega) (A':=some ⟨gq,N,none⟩) (fun _=>by simp[Addr.add,(show ¬N=0 by omega)]);rw[List.take_of_length_le (by rw[lld];omega)] at h1;exact h1
        · have HE:=yo (bi.o hK)
          have dK:(krV L != 32768)=true:=(by rw[bne_iff_ne];exact hK);generalize krV L=KK at *;by_cases aV:nwE L=0
          · rw[aV] at aJ
            go_wp2_with (first
              |(go_at_call 138;(with_reducible refine aJ.o.mono ?_);go_must (rintro e S ⟨v5,rfl,-,-,af⟩;have aI:=yo (HF.o.later af);have ap:=yo (HR.o.trans (RFr.ofB af r g vo));have aE:=yo (aX.o S af);clear af))
              |(go_at_call 114;(with_reducible refine aE.o.mono ?_);go_must (rintro e U ⟨rfl,rfl⟩)))
            go_ret3;unfold zbt;exact⟨_,_,false,_,rfl,aI.o,ap.o,.inl ⟨rfl,rfl,rfl,HE.o⟩⟩
          · have dN:(nwE L != 0)=true:=by rw[bne_iff_ne];exact aV
            generalize nwE L=NE at *;go_wp2_with (first
              |(go_at_call 138;(with_reducible refine aJ.o.mono ?_);go_must (rintro e S ⟨v5,rfl,-,-,af⟩;have aI:=yo (HF.o.later af);have ap:=yo (HR.o.trans (RFr.ofB af r g vo));have aE:=yo (aX.o S af);clear af))
              |(go_at_call 114;(with_reducible refine aE.o.mono ?_);go_must (rintro e U ⟨rfl,rfl⟩)))
            go_ret3;unfold zbt;exact⟨_,_,false,_,rfl,aI.o,ap.o,.inl ⟨rfl,rfl,rfl,HE.o⟩⟩
  · have HE:Hid (¬(zaO bs ⟨P,out,0⟩).2.e=0):=(show ¬_ from zvy (by rw[aD.o];exact hall))
    generalize zaO bs ⟨P,out,0⟩=R at *;generalize hdN bs ⟨P,out,0⟩=dn at *;generalize hdM bs ⟨P,out,0⟩=dm at *;have bb:=yo (fun P3 w1 (h:FI w1 r g A n c P3 bs vo out most)=>ztx r g n c P3 A bs vo out most w1 4 4 rfl h (by omega));by_cases ab:P+5<=8*n
    · have a1:=yo (zbb r g n c P 5 A bs vo out most 5 w rfl H.o (by omega) ab)
      by_cases aj:P+10<=8*n
      · have aC:=yo (fun w1 (h:FI w1 r g A n c (P+5) bs vo out most)=>zbb r g n c (P+5) 5 A bs vo out most 5 w1 rfl h (by omega) (by omega))
        by_cases W:P+14<=8*n
        · have aK:=yo (fun w1 (h:FI w1 r g A n c (P+10) bs vo out most)=>zbb r g n c (P+10) 4 A bs vo out most 4 w1 rfl h (by omega) (by omega))
          generalize zaj bs (P+10) 4=z at *;generalize zaj bs (P+5) 5=y at *;generalize zaj bs P 5=x at *;by_cases hx:x<=29
          · have b1:¬(29:Int)<(x:Int):=by omega
            have cD:(29:Int)<(y:Int):=by
              have:¬y<=29:=fun h=>hall ⟨W,hx,h⟩
              omega
            go_enter Tryz.func113,Tryz.ntmps113;go_wp2_with (first
              |(go_at_call 109;(with_reducible refine a1.o.mono ?_);go_must (rintro e w1 ⟨rfl,ab,ao⟩;have a5:=yo ao;have F:=yo (aC.o w1 ab);clear ab ao a1))
              |(go_at_call 109;(with_reducible refine F.o.mono ?_);go_must (rintro e w2 ⟨rfl,aj,an⟩;have a4:=yo (a5.o.trans an);have aa:=yo (aK.o w2 aj);clear aj an F))
              |(go_at_call 109;(with_reducible refine aa.o.mono ?_);go_must (rintro e wc ⟨rfl,W,aq⟩;have a3:=yo (a4.o.trans aq);have a6:=yo W;clear W aq aa)))
            go_ret3;unfold zbt;exact⟨_,_,false,_,rfl,a6.o,a3.o,.inl ⟨rfl,rfl,rfl,HE.o⟩⟩
          · have b1:(29:Int)<(x:Int):=by omega
            go_enter Tryz.func113,Tryz.ntmps113;go_wp2_with (first
              |(go_at_call 109;(with_reducible refine a1.o.mono ?_);go_must (rintro e w1 ⟨rfl,ab,ao⟩;have a5:=yo ao;have F:=yo (aC.o w1 ab);clear ab ao a1))
              |(go_at_call 109;(with_reducible refine F.o.mono ?_);go_must (rintro e w2 ⟨rfl,aj,an⟩;have a4:=yo (a5.o.trans an);have aa:=yo (aK.o w2 aj);clear aj an F))
              |(go_at_call 109;(with_reducible refine aa.o.mono ?_);go_must (rintro e wc ⟨rfl,W,aq⟩;have a3:=yo (a4.o.trans aq);have a6:=yo W;clear W aq aa)))
            go_ret3;unfold zbt;exact⟨_,_,false,_,rfl,a6.o,a3.o,.inl ⟨rfl,rfl,rfl,HE.o⟩⟩
        · have aK:=yo (fun w1 (h:FI w1 r g A n c (P+10) bs vo out most)=>zba r g n c (P+10) 4 A bs vo out most 4 w1 rfl h (by omega) (by omega))
          go_enter Tryz.func113,Tryz.ntmps113;go_wp2_with (first
            |(go_at_call 109;(with_reducible refine a1.o.mono ?_);go_must (rintro e w1 ⟨rfl,ab,ao⟩;have a5:=yo ao;have F:=yo (aC.o w1 ab);clear ab ao a1))
            |(go_at_call 109;(with_reducible refine F.o.mono ?_);go_must (rintro e w2 ⟨rfl,aj,an⟩;have a4:=yo (a5.o.trans an);have aa:=yo (aK.o w2 aj);clear aj an F))
            |(go_at_call 109;(with_reducible refine aa.o.mono ?_);go_must (rintro e wc ⟨rfl,W,aq⟩;have a3:=yo (a4.o.trans aq);have a6:=yo W;clear W aq aa)))
          go_ret3;unfold zbt;exact⟨_,_,false,_,rfl,a6.o,a3.o,.inl ⟨rfl,rfl,rfl,HE.o⟩⟩
      · have aC:=yo (fun w1 (h:FI w1 r g A n c (P+5) bs vo out most)=>zba r g n c (P+5) 5 A bs vo out most 5 w1 rfl h (by omega) (by omega))
        have aK:=yo (bb.o (P+5));go_enter Tryz.func113,Tryz.ntmps113;go_wp2_with (first
          |(go_at_call 109;(with_reducible refine a1.o.mono ?_);go_must (rintro e w1 ⟨rfl,ab,ao⟩;have a5:=yo ao;have F:=yo (aC.o w1 ab);clear ab ao a1))
          |(go_at_call 109;(with_reducible refine F.o.mono ?_);go_must (rintro e w2 ⟨rfl,aj,an⟩;have a4:=yo (a5.o.trans an);have aa:=yo (aK.o w2 aj);clear aj an F))
          |(go_at_call 109;(with_reducible refine aa.o.mono ?_);go_must (rintro e wc ⟨v3,bV,P3,rfl,W,aq⟩;have a3:=yo (a4.o.trans aq);have a6:=yo W;clear W aq aa)))
        go_ret3;unfold zbt;exact⟨_,_,false,_,rfl,a6.o,a3.o,.inl ⟨rfl,rfl,rfl,HE.o⟩⟩
    · have a1:=yo (zba r g n c P 5 A bs vo out most 5 w rfl H.o (by omega) ab)
      have aC:=yo (fun w1 (h:FI w1 r g A n c P bs vo out most)=>zba r g n c P 5 A bs vo out most 5 w1 rfl h (by omega) ab);have aK:=yo (bb.o P);go_enter Tryz.func113,Tryz.ntmps113;go_wp2_with (first
        |(go_at_call 109;(with_reducible refine a1.o.mono ?_);go_must (rintro e w1 ⟨rfl,ab,ao⟩;have a5:=yo ao;have F:=yo (aC.o w1 ab);clear ab ao a1))
        |(go_at_call 109;(with_reducible refine F.o.mono ?_);go_must (rintro e w2 ⟨rfl,aj,an⟩;have a4:=yo (a5.o.trans an);have aa:=yo (aK.o w2 aj);clear aj an F))
        |(go_at_call 109;(with_reducible refine aa.o.mono ?_);go_must (rintro e wc ⟨v3,bV,P3,rfl,W,aq⟩;have a3:=yo (a4.o.trans aq);have a6:=yo W;clear W aq aa)))
      go_ret3;unfold zbt;exact⟨_,_,false,_,rfl,a6.o,a3.o,.inl ⟨rfl,rfl,rfl,HE.o⟩⟩
end
end Go.Proofs.YtebbdifhiihfkaaGreatDoor

