/- XRowQd XQh XQi -/
import Derived.Test.YtebbdifhiihfkaaGreatDoorMm07
import Derived.Test.YtebbdifhiihfkaaGreatDoorMm03
import Derived.Test.YtebbdifhiihfkaaGreatDoorMm04
import Derived.Test.YtebbdifhiihfkaaGreatDoorMm05
import Derived.Test.YtebbdifhiihfkaaGreatDoorMm29
namespace Go.Proofs.YtebbdifhiihfkaaGreatDoor
set_option linter.all false
set_option maxRecDepth 100000
open Go.RowKit
theorem Tryz.info_Qd:(Tryz.prog.info? 34).map (fun i=>(i.zero,i.size,i.bytes))=some (some (.agg #[.string ⟨#[]⟩,.slice none 0 0]),2,40):=by kernel_rfl
def ownQd(w:World)(base:Nat)(v:Value)(l:List (List UInt8×Option Addr×Nat×Nat)):Prop:=w.ownsRow base 34 2 v l.length (cQ l)
theorem ownQd.nil_(w:World)(base:Nat):ownQd w base (.slice none 0 0) []:=World.ownsRow_nil _ _ _ _
theorem ownQd.later{w w':World}{base:Nat}{v:Value}{l:List (List UInt8×Option Addr×Nat×Nat)}(h:ownQd w base v l)(o:Below w.heap.size w w'):ownQd w' base v l :=
 Below.ownsRow h o (fun g hg=>(olt h g hg).2)
theorem ownQd.alloc{w:World}{base:Nat}{v:Value}{l:List (List UInt8×Option Addr×Nat×Nat)}(h:ownQd w base v l)(o:Obj):ownQd (w.alloc o) base v l:=World.ownsRow.alloc h o
theorem ownQd.form{w:World}{base:Nat}{v:Value}{l:List (List UInt8×Option Addr×Nat×Nat)}(h:ownQd w base v l):
  ∃A c,v=.slice A l.length c/\RdQ w w.heap.size A l.length l/\l.length<=c/\c<=maxLen:=by
 rcases h.2 with⟨rfl,h0⟩ | ⟨g,q,o,rfl,_,_,h1,h2,_⟩
 ·have:l=[]:=List.eq_nil_of_length_eq_zero h0
  subst this;exact⟨none,0,rfl,Rd.none_,by simp,by simp⟩
 ·exact⟨_,_,rfl,Rd.of_own h,h1,h2⟩
theorem zmA(w:World)(base:Nat)(H:TypeId)(v:Value)(l:List (List UInt8×Option Addr×Nat×Nat))(r:ownQd w base v l)(B m c:Nat)(A:Option Addr)(q:List (List UInt8×Option Addr×Nat×Nat))(hr:RdQ w B A m q)
  (T:l.length+m<=1099511627776) (t:base<=w.heap.size) :
  ∃v' w',(Builtin.append_ #[29,29] H #[v,.slice A m c]).run Tryz.prog w=.ok v' w'/\ownQd w' base v' (l++q)/\w.grownBy w' v.ownBlock /\
   (v'.ownBlock=v.ownBlock\/v'.ownBlock=some w.heap.size)/\(v'=.slice none 0 0↔v=.slice none 0 0/\m=0):=by
 obtain⟨O,hi,E,F,D⟩:=info_parts Tryz.info_Qd;have J:=hr.len;subst J;unfold ownQd;rw[lla,zfD];rcases A with _|ad
 ·have G:q=[]:=by
   rcases Nat.eq_zero_or_pos q.length with h0|h0
   ·exact List.eq_nil_of_length_eq_zero h0
   ·obtain⟨b,o,h,_⟩:=hr.2 h0
    cases h
  subst G;refine⟨v,w,?_,by simpa [cQ,ownQd] using r,World.grownBy.refl w _,.inl rfl,by simp⟩;rcases r.2 with⟨rfl,h0⟩ | ⟨g,N,R,rfl,_,_,C,_⟩
  ·simp[Builtin.append_,run_underlying Tryz.underlying29,sizeOf,typeInfo,hi,Builtin.lenOf,Builtin.firstCells]
  ·simp[Builtin.append_,run_underlying Tryz.underlying29,sizeOf,typeInfo,hi,Builtin.lenOf,Builtin.firstCells,C,storeCells]
 ·have s:∀j u,(cQ q)[j]?=some u->w.cell? (ad.add j)=some u:=by
   intro j u I;rcases Nat.eq_zero_or_pos q.length with h0|h0
   ·have G:q=[]:=List.eq_nil_of_length_eq_zero h0
    subst G;simp[cQ] at I
   ·obtain⟨b,o,h,_,S⟩:=hr.2 h0
    injection h with h;subst h;rw[zaS];exact S j u I
  obtain⟨v',w',z,h2,M,h4,L⟩:=run_append_own_at (P:=Tryz.prog) w base 29 H 34 O _ 2 40 Tryz.underlying29 hi E F D rfl (by omega) v l.length (cQ l) r ad q.length c (cQ q) (by rw[zcC]) s (zro _) (by unfold maxLen;omega) (by omega) t;exact⟨v',w',z,h2,M,L,h4⟩
/-- append(v, x...): v the call's own, x whatever. -/
theorem zjk{w:World}{ops:Array Oper}{rest:List Oper}{o:Oper}{a:Act}{Q:Exit->Act->World->Prop}(u:o.guard=none)(s x:Operand)
  (E:o.op=.call { callee:=.builtin .append,args:=#[s,x],argTypes:=#[29,29] })
  (base:Nat) (v:Value) (l:List (List UInt8×Option Addr×Nat×Nat)) (hs:a.eval s=v) (r:ownQd w base v l) (B m c:Nat) (A:Option Addr) (q:List (List UInt8×Option Addr×Nat×Nat)) (hx:a.eval x=.slice A m c) (hr:RdQ w B A m q)
  (F:l.length+m<=1099511627776) (g:base<=w.heap.size)
  (h:∀v' w',ownQd w' base v' (l++q)->w.grownBy w' v.ownBlock->Below base w w'->(v'.ownBlock=v.ownBlock\/v'.ownBlock=some w.heap.size)->wpList Tryz.prog ops Q rest (a.put o.dst v') w') :
  wpList Tryz.prog ops Q (o :: rest) a w:=by
 refine wpList_plain u fun K D=>?_
 obtain⟨v',w',t,h2,z,h4,_⟩:=zmA w base o.type v l r B m c A q hr F g;unfold Oper.wp execOp;simp only[E,resolve,invoke,builtin,Sem.run_bind,Sem.run_pure,Result.andThen_ok,List.map_toArray,List.map_cons,List.map_nil,hs,hx,t];exact D _ _ (h v' w' h2 z ((Below.refl _ _).grown z g (fun k C=>(olt r k C).1)) h4)
end Go.Proofs.YtebbdifhiihfkaaGreatDoor

/- png: the document's small helpers for a reader. -/
namespace Go.Proofs.YtebbdifhiihfkaaGreatDoor
set_option linter.all false
set_option maxRecDepth 100000
open Go.RowKit
theorem zph(B n c:Nat)(A:Option Addr)(bs:List UInt8)(w:World)(h:RdB w B A n bs)(o:n<=140737488355328):
  Calls Tryz.prog 8 #[.slice A n c] w fun e w'=>∃v,e=.returned v/\ownB w' w.heap.size v bs/\Below w.heap.size w w'/\v.ownBlock≠none:=by
 go_enter Tryz.func8,Tryz.ntmps8;go_wp2_with (at_builtin;go_loud (refine zat rfl (.tmp 3) (.tmp 4) rfl w.heap.size _ [] rfl (zd3 w [] (by simp)) w.heap.size n c A bs rfl (Rd.alloc (Rd.here h) (nlr _) _) (by simp;omega) (by simp) ?_);intro v1 w1 hown hg hb hat);go_ret;refine⟨_,rfl,by simpa using hown,((Below.refl _ _).alloc (nlr _) _).trans hb,?_⟩;rcases hat with e|e<;>(show v1.ownBlock≠none;rw[e];intro g;cases g)
theorem zna(w:World):Calls Tryz.prog 22 #[] w fun e w'=>∃v,e=.returned v/\ownB w' w.heap.size v markL/\Below w.heap.size w w':=by
 go_enter Tryz.func22,Tryz.ntmps22;have g:=yo (zd3 w markL (by decide));go_wp2_with fail;go_ret;exact⟨_,rfl,g.o,(Below.refl w.heap.size w).alloc (nlr _) _⟩
theorem letB_iff{c:UInt8}:zbp c=true↔((65<=c.toNat/\c.toNat<=90)\/(97<=c.toNat/\c.toNat<=122)):=by
 unfold zbp;simp only[Bool.or_eq_true,Bool.and_eq_true,decide_eq_true_eq];exact Or.comm
theorem zmB(S:ByteArray)(w:World)(I:S.size<=140737488355328):Calls Tryz.prog 24 #[.string S] w fun e w'=>e=.returned (.bool (S.data.toList.all zbp))/\w=w':=by
 obtain⟨V,D⟩:∃V,S.data.toList.all zbp=V:=⟨_,rfl⟩;have z:=yo D;rw[D];clear D;go_enter Tryz.func24,Tryz.ntmps24;go_wp2_with fail;go_loopw [3] (fun C wr=>∃k:Nat,k<=S.size/\C=.int .i64 (k:Int)/\Hid ((S.data.toList.take k).all zbp=true)/\Hid (w=wr)) (fun C _=>S.size-(intOf C).toNat)
 case atStart=>exact⟨0,Nat.zero_le _,rfl,rfl,rfl⟩
 case round =>
  obtain⟨k,L,rfl,E,s⟩:=hrel;have q:S.data.toList.length=S.size:=by rw[Array.length_toList];rfl
  have H:IntKind.i64.wrap ((k:Int)+1)=(k:Int)+1:=by rw[show(k:Int)+1=((k+1:Nat):Int) by omega];exact zaa _ (by omega)
  by_cases hlt:k<S.size
  ·have t:(k:Int)<(S.size:Int):=by omega
   have r:S.data.toList[k]?=some S[k]:=(by rw[lge (by omega),Array.getElem_toList];rfl);have o:S.data.toList.take (k+1)=S.data.toList.take k++[S[k]]:=(by rw[List.take_add_one,r];rfl);cases hb:zbp S[k] with
   |true =>
    have g:Hid ((S.data.toList.take (k+1)).all zbp=true):=(show _=_ by rw[o,List.all_append,E.o];simp[hb]);have u:(65<=S[k].toNat/\S[k].toNat<=90)\/(97<=S[k].toNat/\S[k].toNat<=122):=letB_iff.1 hb;clear r o hb q;rcases u with⟨c1,c2⟩ | ⟨c1,c2⟩
    ·have F:(S[k].toNat:Int)<97:=by omega
     have B:¬(S[k].toNat:Int)<65:=(by omega);have G:¬(90:Int)<(S[k].toNat:Int):=(by omega);go_wp2_with fail;go_roundw
     case rel=>exact⟨k+1,by omega,by go_num,g,s⟩
     case measure=>simp[intOf];omega
    ·have F:¬(S[k].toNat:Int)<97:=by omega
     have B:¬(122:Int)<(S[k].toNat:Int):=(by omega);go_wp2_with fail;go_roundw
     case rel=>exact⟨k+1,by omega,by go_num,g,s⟩
     case measure=>simp[intOf];omega
   |false =>
    have A:Hid (S.data.toList.all zbp=false):=(show _=_ by
     rw[<-List.take_append_drop (k+1) S.data.toList,o,List.all_append,List.all_append];simp[hb])
    have u:¬((65<=S[k].toNat/\S[k].toNat<=90)\/(97<=S[k].toNat/\S[k].toNat<=122)):=fun h=>by rw[letB_iff.2 h] at hb;cases hb
    clear r o hb q;by_cases F:(S[k].toNat:Int)<97
    ·by_cases B:(S[k].toNat:Int)<65
     ·clear u
      go_wp2_with fail;go_ret;obtain rfl:V=false:=z.o.symm.trans A.o;exact⟨rfl,s.o⟩
     ·have G:(90:Int)<(S[k].toNat:Int):=by omega
      clear u;go_wp2_with fail;go_ret;obtain rfl:V=false:=z.o.symm.trans A.o;exact⟨rfl,s.o⟩
    ·have B:(122:Int)<(S[k].toNat:Int):=by omega
     have G:¬(S[k].toNat:Int)<65:=(by omega);have J:(90:Int)<(S[k].toNat:Int):=(by omega);clear u;go_wp2_with fail;go_ret;obtain rfl:V=false:=z.o.symm.trans A.o;exact⟨rfl,s.o⟩
  ·have t:¬(k:Int)<(S.size:Int):=by omega
   obtain rfl:k=S.size:=by omega
   have g:Hid (S.data.toList.all zbp=true):=(show _=_ by have:=E.o;rwa[List.take_of_length_le (by omega)] at this);clear q;go_wp2_with fail;go_ret;obtain rfl:V=true:=z.o.symm.trans g.o;exact⟨rfl,s.o⟩
end Go.Proofs.YtebbdifhiihfkaaGreatDoor

/- png: the document's chunks of a file. -/
namespace Go.Proofs.YtebbdifhiihfkaaGreatDoor
set_option linter.all false
set_option maxRecDepth 100000
set_option maxHeartbeats 12800000
open Go.RowKit
theorem zdy(B n c:Nat)(A:Option Addr)(bs:List UInt8)(w:World)(h:RdB w B A n bs)(hB:B<=w.heap.size)(hc:n<=c)(hn:n<=1000000):
  Calls Tryz.prog 10 #[.slice A n c] w fun e w'=>zaZ bs w e w':=by
 have hl:=h.len;have HR:=yo h;have a2:=yo hB;have aa:=yo hl;by_cases h8:n<8
 ·have aD:(n:Int)<8:=by omega
  have t:Hid (zab bs=(4,[])):=(show _=_ by
   unfold zab;rw[if_neg];intro e;have:=congrArg List.length e;rw[llt,show markL.length=8 from rfl] at this;omega)
  clear h hB hl;go_enter Tryz.func10,Tryz.ntmps10;go_upto_region 1 with fail;go_quiet (fail);go_wp2_with fail;go_ret2;unfold zaZ;rw[t.o];exact⟨none,0,0,[],rfl,RdQ.nil_,CR.nil _ _,nlr _,zag (Below.refl _ _) _⟩
 have aD:¬(n:Int)<8:=by omega
 have bu:(8:Int)<=(c:Int):=by omega
 have bm:8<=c:=by omega
 have ac:=yo (fun(w1:World) (hb:Below w.heap.size w w1) (v:Value) (ho:ownB w1 w.heap.size v markL)=>by
  obtain⟨H,c5,e5,aU,-,-⟩:=ho.form;exact(⟨H,c5,e5,zfm B 8 c w1.heap.size markL.length c5 A H (bs.take 8) markL w1 (RdB.pre (RdB.blw HR.o (hb.mono a2.o)) (by omega)) aU⟩:∃H c5,v=.slice H markL.length c5/\Calls Tryz.prog 11 #[.slice A 8 c,.slice H markL.length c5] w1 fun e w'=>e=.returned (.bool (bs.take 8==markL))/\w1=w'))
 obtain⟨BM,al⟩:∃b,(bs.take 8==markL)=b:=⟨_,rfl⟩;rw[al] at ac;have af:=yo al;clear al h hB hl;go_enter Tryz.func10,Tryz.ntmps10;go_upto_region 1 with fail;go_cut [20] (fun v wx=>v=.bool (!BM)/\Below w.heap.size w wx)
 case first =>
  go_region_with (first
   |(go_at_call 22;(with_reducible refine(zna _).mono ?_);go_must (rintro e w1 ⟨v1,rfl,a4,O⟩;have V:Below w.heap.size w w1:=⟨O.os,O.tape,O.output,O.size,O.block⟩;obtain⟨H,c5,rfl,U⟩:=ac.o w1 V v1 a4;have N:=yo U;have aI:=yo V;clear O V a4 U))
   |(go_at_call 11;(with_reducible refine N.o.mono ?_);go_must (rintro e w2 ⟨rfl,rfl⟩)))
  all_goals
   go_wp2_with fail;go_meet
   case rel=>exact⟨rfl,aI.o⟩
 case rest =>
 obtain⟨rfl,a5⟩:=hcut;have ag:=yo a5;clear a5 ac;cases BM with
 |false =>
  have t:Hid (zab bs=(4,[])):=(show _=_ by unfold zab;rw[if_neg (beq_eq_false_iff_ne.1 af.o)]);go_wp2_with fail;go_ret2;unfold zaZ;rw[t.o];exact⟨none,0,0,[],rfl,RdQ.nil_,CR.nil _ _,nlr _,ag.o⟩
 |true =>
  have t:Hid (zab bs=ckF bs n 8 []):=(show _=_ by unfold zab;rw[if_pos (beq_iff_eq.1 af.o),aa.o]);have aC:8<=n:=by omega
  clear af;go_wp2_with fail;go_loopw [5,4] (fun va vl wr=>∃(k f:Nat) (u:List CK) (Y:List CQ),k<=n/\va=.int .i64 (k:Int)/\Hid (ckF bs n 8 []=ckF bs f k u)/\Hid (n<=k+f)/\Hid (ownQd wr w.heap.size vl Y)/\Hid (CR wr vl.ownBlock Y u)/\Hid (Below w.heap.size w wr)/\Hid (zbo u<=k)) (fun va _ _=>n-(intOf va).toNat)
  case atStart=>exact⟨8,n,[],[],aC,rfl,rfl,(show n<=8+n by omega),ownQd.nil_ _ _,CR.nil _ _,ag.o,(show 0<=8 by omega)⟩
  case round =>
   clear ag;obtain⟨k,f,u,Y,hk,rfl,HE,HF,HO,ak,R,HT⟩:=hrel;have hz:=R.o.size;have M:=yo (RdB.blw HR.o (R.o.mono a2.o));by_cases hlt:k<n
   ·have au:(k:Int)<(n:Int):=by omega
    have T:k<bs.length:=(by rw[aa.o];exact hlt);obtain⟨f,rfl⟩:∃g,f=g+1:=⟨f-1,by have:=HF.o;omega⟩;have D:=yo (fun E (hE:nxE bs k=E) (h0:E≠0)=>HE.o.trans ((zhx (f:=f) T (by rw[hE];exact h0) u).trans (by rw[hE])));have P:=yo (zdd B n c A bs (k:Int) 4 wr M.o (by omega));have aY:=aa.o;by_cases h1:n<k+4
    ·rw[znm (by omega) (by omega)] at P
     have r:=yo (D.o 2 (by unfold nxE;rw[if_pos (by omega)]) (by decide));go_wp2_with (go_at_call 23;(with_reducible refine P.o.mono ?_);go_must (rintro e w1 ⟨rfl,rfl⟩));go_ret2;unfold zaZ;rw[t.o,r.o];exact⟨none,0,0,[],rfl,RdQ.nil_,CR.nil _ _,nlr _,R.o⟩
    rw[zdu (by omega)] at P;have ap:nxL bs k<4294967296:=zdg _;by_cases h2:2147483647<nxL bs k
    ·have a7:(2147483648:Int)<=(nxL bs k:Int):=by omega
     have r:=yo (D.o 4 (by unfold nxE;rw[if_neg (by omega),if_pos h2]) (by decide));generalize nxL bs k=L at *;go_wp2_with (go_at_call 23;(with_reducible refine P.o.mono ?_);go_must (rintro e w1 ⟨rfl,rfl⟩));go_ret2;unfold zaZ;rw[t.o,r.o];exact⟨none,0,0,[],rfl,RdQ.nil_,CR.nil _ _,nlr _,R.o⟩
    have a7:(nxL bs k:Int)<2147483648:=(by omega);have aJ:decide ((2147483648:Int)<=(nxL bs k:Int))=false:=decide_eq_false (by omega);go_upto_region 11 with(go_at_call 23;(with_reducible refine P.o.mono ?_);go_must (rintro e w1 ⟨rfl,rfl⟩));have H2:=yo h2;have bd:=yo ap;clear h2 ap a7 aJ;obtain⟨d,hd⟩:∃d,n=k+d:=⟨n-k,by omega⟩;have bj:IntKind.i64.wrap ((n:Int)-(k:Int))=(d:Int):=by rw[show(n:Int)-(k:Int)=(d:Int) by omega];exact zaa _ (by omega)
    by_cases h3:n<k+8
    ·have aB:(d:Int)<8:=by omega
     have r:=yo (D.o 2 (by unfold nxE;rw[if_neg (by omega),if_neg H2.o,if_pos (by omega)]) (by decide));generalize nxL bs k=L at *;clear hd;go_wp2_with fail;go_ret2;unfold zaZ;rw[t.o,r.o];exact⟨none,0,0,[],rfl,RdQ.nil_,CR.nil _ _,nlr _,R.o⟩
    have aB:¬(d:Int)<8:=(by omega);obtain⟨s,G⟩:∃x,k+4=x:=⟨_,rfl⟩;obtain⟨q,I⟩:∃x,k+8=x:=⟨_,rfl⟩;have bp:IntKind.i64.wrap ((k:Int)+4)=(s:Int):=by rw[show(k:Int)+4=(s:Int) by omega];exact zaa _ (by omega)
    have bf:IntKind.i64.wrap ((k:Int)+8)=(q:Int):=by rw[show(k:Int)+8=(q:Int) by omega];exact zaa _ (by omega)
    obtain⟨b,o,rfl,bh,-⟩:=M.o.at_ (show 0<n by omega);have F:=yo (zc2 (c:=c-s) (RdB.cut M.o (k:=s) (m:=q-s) (show s+(q-s)<=n by omega) (A':=some ⟨b,o+s,none⟩) (fun _=>by simp[Addr.add];omega)));have J:Hid ((bs.drop s).take (q-s)=nxK bs k):=(show _=_ by unfold nxK;rw[G,show q-s=4 by omega]);rw[J.o] at F;have g1:s<=q:=(by omega);have g2:q<=c:=(by omega);have g3:q<=n:=(by omega);have g4:¬c=s:=(by omega);have g5:¬c-s=0:=(by omega);have bl:(s:Int)<=(q:Int):=(by omega);have ba:(q:Int)<=(c:Int):=(by omega);have aZ:=F.o;have a1:(⟨(nxK bs k).toArray⟩:ByteArray).size<=140737488355328:=(by show(nxK bs k).toArray.size<=_;rw[List.size_toArray];unfold nxK;rw[llt];omega);have C:=yo (fun w=>zmB ⟨(nxK bs k).toArray⟩ w a1);have aw:(⟨(nxK bs k).toArray⟩:ByteArray).data.toList=nxK bs k:=rfl;rw[aw] at C;clear aw a1;by_cases h4:(nxK bs k).all zbp=false
    ·have r:=yo (D.o 4 (by unfold nxE;rw[if_neg (by omega),if_neg H2.o,if_neg (by omega),if_pos h4]) (by decide))
     rw[h4] at C;clear h4 J F hd G I;generalize nxL bs k=L at *;generalize nxK bs k=kk at *;go_wp2_with (go_at_call 24;(with_reducible refine(C.o _).mono ?_);go_must (rintro e w1 ⟨rfl,rfl⟩));go_ret2;unfold zaZ;rw[t.o,r.o];exact⟨none,0,0,[],rfl,RdQ.nil_,CR.nil _ _,nlr _,R.o⟩
    have W:(nxK bs k).all zbp=true:=by cases h:(nxK bs k).all zbp with|true=>rfl|false=>exact absurd h h4
    rw[W] at C;have bt:IntKind.i64.wrap ((d:Int)-8)=(d:Int)-8:=by rw[show(d:Int)-8=((d-8:Nat):Int) by omega];exact zaa _ (by omega)
    by_cases h5a:d-8<nxL bs k
    ·have aT:(d:Int)-8<(nxL bs k:Int):=by omega
     have r:=yo (D.o 2 (by unfold nxE;rw[if_neg (by omega),if_neg H2.o,if_neg (by omega),if_neg h4,if_pos (by omega)]) (by decide));clear h4 W J F hd G I h5a;generalize nxL bs k=L at *;generalize nxK bs k=kk at *;go_wp2_with (go_at_call 24;(with_reducible refine(C.o _).mono ?_);go_must (rintro e w1 ⟨rfl,rfl⟩));go_ret2;unfold zaZ;rw[t.o,r.o];exact⟨none,0,0,[],rfl,RdQ.nil_,CR.nil _ _,nlr _,R.o⟩
    have aT:¬(d:Int)-8<(nxL bs k:Int):=(by omega);have bc:IntKind.i64.wrap ((d:Int)-8-(nxL bs k:Int))=(d:Int)-8-(nxL bs k:Int):=by rw[show(d:Int)-8-(nxL bs k:Int)=((d-8-nxL bs k:Nat):Int) by omega];exact zaa _ (by omega)
    by_cases h5b:d-8-nxL bs k<4
    ·have aQ:(d:Int)-8-(nxL bs k:Int)<4:=by omega
     have r:=yo (D.o 2 (by unfold nxE;rw[if_neg (by omega),if_neg H2.o,if_neg (by omega),if_neg h4,if_pos (by omega)]) (by decide));clear h4 W J F hd G I h5a h5b;generalize nxL bs k=L at *;generalize nxK bs k=kk at *;go_wp2_with (go_at_call 24;(with_reducible refine(C.o _).mono ?_);go_must (rintro e w1 ⟨rfl,rfl⟩));go_ret2;unfold zaZ;rw[t.o,r.o];exact⟨none,0,0,[],rfl,RdQ.nil_,CR.nil _ _,nlr _,R.o⟩
    have aQ:¬(d:Int)-8-(nxL bs k:Int)<4:=(by omega);have h5:k+12+nxL bs k<=n:=(by omega);obtain⟨z,a6⟩:∃x,q+nxL bs k=x:=⟨_,rfl⟩;have aX:IntKind.i64.wrap ((q:Int)+(nxL bs k:Int))=(z:Int):=by rw[show(q:Int)+(nxL bs k:Int)=(z:Int) by omega];exact zaa _ (by omega)
    have N:=yo (zph B (z-q) (c-q) (some ⟨b,o+q,none⟩) ((bs.drop q).take (z-q)) wr (RdB.cut M.o (show q+(z-q)<=n by omega) (fun _=>by simp[Addr.add];omega)) (by omega));have ah:=yo (zto B (z-s) (c-s) (some ⟨b,o+s,none⟩) ((bs.drop s).take (z-s)) wr (RdB.cut M.o (show s+(z-s)<=n by omega) (fun _=>by simp[Addr.add];omega)) (by omega));have Z:=yo (zdd B n c (some ⟨b,o,none⟩) bs (z:Int) 4 wr M.o (by omega));rw[zdu (show z+4<=bs.length by omega)] at Z;have HX:Hid (nxL bs z=nxX bs k):=(show _=_ by unfold nxX;rw[show k+8+nxL bs k=z by omega];rfl);have ai:Hid (crc ((bs.drop s).take (z-s))=nxC bs k):=(show _=_ by unfold nxC;rw[G,show z-s=4+nxL bs k by omega]);have am:Hid ((bs.drop q).take (z-q)=nxD bs k):=(show _=_ by unfold nxD;rw[I,show z-q=nxL bs k by omega]);rw[ai.o] at ah;rw[HX.o] at Z;rw[am.o] at N;have bn:nxC bs k<4294967296:=(by unfold nxC;exact zha _);have br:IntKind.i64.wrap (nxC bs k:Int)=(nxC bs k:Int):=zaa _ (by omega);have q1:q<=z:=(by omega);have q2:z<=c:=(by omega);have q3:s<=z:=(by omega);have q4:¬c=q:=(by omega);have q5:¬c-q=0:=(by omega);have bo:(q:Int)<=(z:Int):=(by omega);have bg:(z:Int)<=(c:Int):=(by omega);have bq:(s:Int)<=(z:Int):=(by omega);by_cases hsum:nxX bs k=nxC bs k
    ·have aH:((nxX bs k:Int) != (nxC bs k:Int))=false:=by rw[hsum];exact bne_self_eq_false _
     have h0:nxE bs k=0:=by
      unfold nxE;rw[if_neg (by omega),if_neg H2.o,if_neg (by omega),if_neg h4,if_neg (by omega),if_pos hsum]
     have aj:=yo (ziA (f:=f) T h0 u);have a0:=(zhz h0).2;have bi:Y.length<=1000000:=(by have h1:=ak.o.1;have h2:=zbU u;have h3:=HT.o;omega);have aE:Hid (zbo (u++[(nxK bs k,nxD bs k)])<=k+(nxL bs k+12)):=(show _<=_ by
      rw[ze9];show zbo u+((nxD bs k).length+12+0)<=_;have:=HT.o;omega)
     obtain⟨Al,cl,rfl,-,-,-⟩:=HO.o.form;have aL:Hid (∀g,(Value.slice Al Y.length cl).ownBlock=some g->g<wr.heap.size):=(show ∀g,_ from fun g hg=>(olt HO.o g hg).2);clear h0 h4 W hsum HX ai am J F T a0 D;have bk:=yo (show(nxL bs k:Int)=(nxL bs k:Int) from rfl);generalize nxX bs k=X at *;generalize nxC bs k=CC at *;generalize nxD bs k=dd at *;generalize nxL bs k=L at *;generalize nxK bs k=kk at *;have bb:IntKind.i64.wrap ((12:Int)+(L:Int))=(12:Int)+(L:Int):=by rw[show(12:Int)+(L:Int)=((12+L:Nat):Int) by omega];exact zaa _ (by omega)
     have aW:IntKind.i64.wrap ((k:Int)+((12:Int)+(L:Int)))=(k:Int)+((12:Int)+(L:Int)):=by rw[show(k:Int)+((12:Int)+(L:Int))=((k+(L+12):Nat):Int) by omega];exact zaa _ (by omega)
     have aV:k+(L+12)<=n:=(by omega);have aA:Hid ((k:Int)+((12:Int)+(L:Int))=((k+(L+12):Nat):Int)):=(show _=_ by omega);clear hd G I a6 h5 h5a h5b;go_wp2_with (first
      |(go_at_call 24;(with_reducible refine(C.o _).mono ?_);go_must (rintro e w1 ⟨rfl,rfl⟩))
      |(go_at_call 23;(with_reducible refine Z.o.mono ?_);go_must (rintro e w7 ⟨rfl,rfl⟩))
      |(go_at_call 25;(with_reducible refine ah.o.mono ?_);go_must (rintro e w8 ⟨rfl,rfl⟩))
      |(go_at_call 8;(with_reducible refine N.o.mono ?_);go_must (rintro e w5 ⟨v5,rfl,ae,S,ao⟩;obtain⟨H,c5,rfl,-,ar,-⟩:=ae.form;have aM:=yo ar;have a8:=yo (DAt.new ae ao aL.o);have aF:=S.size;have ax:=yo ((ak.o.later S).alloc (.cells #[.string ⟨kk.toArray⟩,.slice H dd.length c5] 34));have aO:=yo (ownQd.alloc (HO.o.later S) (.cells #[.string ⟨kk.toArray⟩,.slice H dd.length c5] 34));have aN:=yo ((R.o.trans (S.mono hz)).alloc (nlt hz aF) (.cells #[.string ⟨kk.toArray⟩,.slice H dd.length c5] 34));have aS:=yo (zn3 w5 (kk,H,dd.length,c5) 34 (0,0));have aP:w.heap.size<=(w5.alloc (.cells #[.string ⟨kk.toArray⟩,.slice H dd.length c5] 34)).heap.size:=(by rw[wsa];omega);clear ae S ao ar))
      |(at_builtin;(refine zjk rfl (.tmp 89) (.tmp 101) rfl w.heap.size (.slice Al Y.length cl) Y rfl aO.o _ 1 1 (some ⟨w5.heap.size,0,none⟩) [(kk,H,dd.length,c5)] rfl aS.o (by omega) aP ?_;intro v7 w7 aq az ay ab;have a9:=yo aq;have aR:=yo az;have aK:=yo (aN.o.trans ay);have an:=yo ab;clear aq az ay ab)))
     go_roundw
     case rel =>
      refine⟨k+(L+12),f,u++[(kk,dd)],Y++[(kk,H,dd.length,c5)],aV,?_,HE.o.trans aj.o,(show n<=k+(L+12)+f by have:=HF.o;omega),a9.o,?_,aK.o,aE.o⟩
      ·first|rfl|(rw[aA.o])|go_num
      ·exact CR.gro ((ax.o).snoc (DAt.later a8.o ((Below.refl _ _).alloc (nlr _) _)) aM.o) aR.o an.o
     case measure=>simp[intOf];omega
    ·have aH:((nxX bs k:Int) != (nxC bs k:Int))=true:=by rw[bne_iff_ne];omega
     have r:=yo (D.o 5 (by unfold nxE;rw[if_neg (by omega),if_neg H2.o,if_neg (by omega),if_neg h4,if_neg (by omega),if_neg hsum]) (by decide));clear h4 W hsum HX ai am J F hd G I a6 h5 h5a h5b;generalize nxX bs k=X at *;generalize nxC bs k=CC at *;generalize nxL bs k=L at *;generalize nxK bs k=kk at *;go_wp2_with (first
      |(go_at_call 24;(with_reducible refine(C.o _).mono ?_);go_must (rintro e w1 ⟨rfl,rfl⟩))
      |(go_at_call 23;(with_reducible refine Z.o.mono ?_);go_must (rintro e w7 ⟨rfl,rfl⟩))
      |(go_at_call 25;(with_reducible refine ah.o.mono ?_);go_must (rintro e w8 ⟨rfl,rfl⟩)))
     go_ret2;unfold zaZ;rw[t.o,r.o];exact⟨none,0,0,[],rfl,RdQ.nil_,CR.nil _ _,nlr _,R.o⟩
   ·have au:¬(k:Int)<(n:Int):=by omega
    have aj:=yo (zhw (bs:=bs) (k:=k) (by rw[aa.o];exact hlt) u f);obtain⟨Al,cl,rfl,a3,av,-⟩:=HO.o.form;have aG:=yo a3;have N:=yo av;clear a3 av;go_wp2_with fail;go_ret2;unfold zaZ;rw[t.o,HE.o,aj.o];exact⟨Al,Y.length,cl,Y,rfl,aG.o,ak.o.any,N.o,R.o⟩
end Go.Proofs.YtebbdifhiihfkaaGreatDoor

