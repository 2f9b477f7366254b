/- XPng0 XPng1 -/
import Derived.Test.YtebbdifhiihfkaaGreatDoorMm01
import Derived.Test.YtebbdifhiihfkaaGreatDoorMm22
import Derived.Lib.ConvBytes
namespace Go.Proofs.YtebbdifhiihfkaaGreatDoor
set_option linter.all false
set_option maxRecDepth 100000
open Go.RowKit
theorem zfq(P:Program)(g o:Nat)(t:TypeId)(r:Nat×Nat):∀(u:List Value) (i:Nat) (q:Array Value) (w:World),w.heap[g]?=some (.cells q t r)->(r=(0,0)\/o+i+u.length<=r.1)->o+i+u.length<=q.size->(∀v∈u,v.oneCell'=true) ->
  (storeCells ⟨g,o,none⟩ u i).run P w=.ok () (w.setRow g (q.toList.take (o+i)++u++q.toList.drop (o+i+u.length)).toArray)
 | [],i,q,w,hg,_,_,_=>by
  simp only[storeCells,List.append_nil,List.length_nil,Nat.add_zero,List.take_append_drop,Array.toArray_toList];rw[setRow_self w g q t r hg];rfl
 |v :: rest,i,q,w,hg,hfz,hl,h1=>by
  have hi:o+i<q.size:=by simp at hl;omega
  have A:(⟨g,o,none⟩:Addr).add i=⟨g,o+i,none⟩:=by unfold Addr.add;split<;>simp_all
  have s:w.cell? ⟨g,o+i,none⟩=some q[o+i]:=by simp[World.cell?,hg,hi]
  have z:w.frozen? ⟨g,o+i,none⟩=false:=by
   rcases hfz with rfl|hfz
   ·simp[World.frozen?,hg]
   ·obtain⟨lo,C⟩:=r
    simp only[World.frozen?,hg,Bool.and_eq_false_iff,decide_eq_false_iff_not];left;simp only[List.length_cons] at hfz;omega
  have B:(store ((⟨g,o,none⟩:Addr).add i) v).run P w=.ok () (w.setRow g (q.setIfInBounds (o+i) v)):=by
   rw[A,run_store P w _ v _ (h1 v (by simp)),s];simp[z,setCell_eq_setRow w g (o+i) q t r v hg]
  have ih:=zfq P g o t r rest (i+1) (q.setIfInBounds (o+i) v) (w.setRow g (q.setIfInBounds (o+i) v)) (setRow_heap w g q _ t _ hg) (by rcases hfz with h|h;exact .inl h;exact .inr (by simp at h;omega)) (by simp at hl ⊢;omega) (fun x hx=>h1 x (by simp[hx]));simp only[storeCells,Sem.run_bind,B,Result.andThen_ok,ih,setRow_setRow]
  congr 3
  have e:=list_seg_step q.toList (o+i) v rest (by simp at hl ⊢;omega)
  simpa [Array.toList_setIfInBounds,Nat.add_assoc] using e
theorem zpT{w:World}{g n:Nat}{cs:Array Value}{t:TypeId}{q:Nat×Nat}{xs:List UInt8}(h:w.heap[g]?=some (.cells cs t q))(hx:cs.toList.take n=cb xs)(r:xs.length=n):RdB w (g+1) (some ⟨g,0,none⟩) n xs:=by
 refine⟨by rw[zby,r,Nat.mul_one],fun _=>⟨g,0,rfl,Nat.lt_succ_self g,fun j u o=>?_⟩⟩;rw[Nat.zero_add,cell_of_row w g j cs t q h];rw[<-hx,List.getElem?_take] at o;split at o
 ·simpa using o
 ·cases o
/-- A slice from a row's beginning on, of which at most a mark beyond its end is frozen. -/
def RowM(w:World)(g n cap:Nat)(xs:List UInt8):Prop:=∃cur fz,w.heap[g]?=some (.cells cur 5 fz)/\(fz=(0,0)\/cap<=fz.1)/\cur.size=cap/\n<=cap/\xs.length=n/\cur.toList.take n=cb xs
theorem RowM.rd{w:World}{g n o:Nat}{xs:List UInt8}(h:RowM w g n o xs):RdB w (g+1) (some ⟨g,0,none⟩) n xs:=by
 obtain⟨r,s,hg,_,_,_,q,ht⟩:=h;exact zpT hg ht q
theorem RowM.lt{w:World}{g n o:Nat}{xs:List UInt8}(h:RowM w g n o xs):g<w.heap.size:=by
 obtain⟨q,r,hg,_⟩:=h;exact(Array.getElem?_eq_some_iff.1 hg).1
theorem RowM.keep{w w':World}{g n o:Nat}{xs:List UInt8}(h:RowM w g n o xs)(s:w'.heap[g]?=w.heap[g]?):RowM w' g n o xs:=by
 obtain⟨q,t,hg,r⟩:=h;exact⟨q,t,s.trans hg,r⟩
theorem RowM.later{w w':World}{g n o:Nat}{xs:List UInt8}(h:RowM w g n o xs)(q:Below w.heap.size w w'):RowM w' g n o xs:=h.keep (q.block g h.lt)
theorem RowM.len{w:World}{g n o:Nat}{xs:List UInt8}(h:RowM w g n o xs):xs.length=n:=by
 obtain⟨_,_,_,_,_,_,q,_⟩:=h;exact q
theorem ziE(w:World)(V:TypeId)(g n s:Nat)(xs:List UInt8)(h:RowM w g n s xs)
  (B m c:Nat) (A:Option Addr) (q:List UInt8) (hr:RdB w B A m q) (hb:n+m<=140737488355328) :
  ∃b c' w',(Builtin.append_ #[22,22] V #[.slice (some ⟨g,0,none⟩) n s,.slice A m c]).run Tryz.prog w=.ok (.slice (some ⟨b,0,none⟩) (n+m) c') w'/\RowM w' b (n+m) c' (xs++q)/\w.grownBy w' (some g)/\(b=g\/b=w.heap.size):=by
 have H:=h;obtain⟨D,W,hg,hfz,aa,hn,E,I⟩:=h;obtain⟨J,hi,O,t,N⟩:=info_parts Tryz.info_u8;have X:=hr.len;subst X;have C:(cb xs).length=n:=by rw[zby];exact E
 rcases A with _|ad
 ·have F:q=[]:=by
   rcases Nat.eq_zero_or_pos q.length with h0|h0
   ·exact List.eq_nil_of_length_eq_zero h0
   ·obtain⟨b,o,h,_⟩:=hr.2 h0
    cases h
  subst F;refine⟨g,s,w,?_,by rw[List.append_nil];exact H,World.grownBy.refl w _,.inl rfl⟩;simp[Builtin.append_,run_underlying Tryz.underlying22,sizeOf,typeInfo,hi,Builtin.lenOf,Builtin.firstCells,hn,storeCells]
 ·have z:∀j u,(cb q)[j]?=some u->w.cell? (ad.add j)=some u:=by
   intro j u L;rcases Nat.eq_zero_or_pos q.length with h0|h0
   ·have F:q=[]:=List.eq_nil_of_length_eq_zero h0
    subst F;simp[cb] at L
   ·obtain⟨b,o,h,_,T⟩:=hr.2 h0
    injection h with h;subst h;rw[zaS];exact T j u L
  have r:(cb q).length=q.length:=zby q;by_cases hroom:n+q.length<=s
  ·have Z:=run_firstCells_some (P:=Tryz.prog) w J.size q.length ad q.length c (cb q) (by rw[t,r,Nat.mul_one]) z
   have G:=zfq Tryz.prog g (n*J.size) 5 W (cb q) 0 D w hg (by rcases hfz with h|h;exact .inl h;exact .inr (by rw[t,r];omega)) (by rw[t,r];omega) (zgF _);simp only[Nat.add_zero] at G;refine⟨g,s,w.setRow g (D.toList.take (n*J.size)++cb q++D.toList.drop (n*J.size+(cb q).length)).toArray,?_,?_,⟨rfl,rfl,rfl,by simp,fun k _ M=>setRow_other w g k _ (fun e=>M (by rw[e]))⟩,.inl rfl⟩
   ·simp[Builtin.append_,run_underlying Tryz.underlying22,sizeOf,typeInfo,hi,Builtin.lenOf,hroom,Z,Addr.add_lit,G]
   ·refine⟨_,W,setRow_heap w g D _ _ _ hg,hfz,?_,hroom,by rw[lla,E],?_⟩
    ·simp only[List.size_toArray,lla,llt,lld,Array.length_toList,t,r]
     omega
    rw[t,Nat.mul_one,I];show((cb xs++cb q)++_).take (n+q.length)=cb (xs++q);rw[zfk,<-C,<-r,<-lla];exact List.take_left
  ·have holds:∀j u,(cb xs)[j]?=some u->w.cell? ((⟨g,0,none⟩:Addr).add j)=some u:=fun j u L=>by
    obtain⟨b,o,e,_,T⟩:=(zpT hg I E).2 (by
     have:=(List.getElem?_eq_some_iff.1 L).1;omega)
    injection e with e;injection e with e1 Y;subst e1 Y;rw[zaS];exact T j u L
   have U:=run_append_grow (P:=Tryz.prog) w 22 V 5 J _ Tryz.underlying22 hi O ⟨g,0,none⟩ n s (cb xs) (by rw[t,C,Nat.mul_one]) holds ad q.length c (cb q) (by rw[t,r,Nat.mul_one]) z (by omega) (by omega) (growslice_fits (by omega) (by rw[N];omega));refine⟨_,_,_,U,?_,⟨rfl,rfl,rfl,by simp,fun k M _=>heap_alloc_old w.drew _ M⟩,.inr rfl⟩;have R:=grownCap_ge w (n+q.length) s 5;refine⟨_,_,heap_alloc_new w.drew _,.inl rfl,?_,R,by rw[lla,E],?_⟩
   ·have S:(Value.int IntKind.u8 0).cells.size=1:=rfl
    simp only[Array.size_append,List.size_toArray,size_zeroCells,S,C,r];omega
   rw[Array.toList_append,Array.toList_append];show((cb xs++cb q)++_).take (n+q.length)=cb (xs++q);rw[zfk,<-C,<-r,<-lla];exact List.take_left
/-- A string's bytes as a row. -/
theorem zr8(w:World)(S:ByteArray):
  ∃cap w',(convert 9 22 (.string S)).run Tryz.prog w=.ok (.slice (some ⟨w.heap.size,0,none⟩) S.size cap) w'/\Below w.heap.size w w'/\w'.heap.size=w.heap.size+1/\RowM w' w.heap.size S.size cap S.data.toList:=by
 have o:S.size<=grownCap w S.size 0 5:=grownCap_ge w S.size 0 _;have g:(Lib.bytesCells w 5 S).size=grownCap w S.size 0 5:=by
  simp[Lib.bytesCells];show S.size+_=_;omega
 refine⟨grownCap w S.size 0 5,Lib.bytesWorld w 5 S,Lib.run_convert_string_bytes w 9 22 5 S Tryz.underlying9 Tryz.underlying22 Tryz.underlying5,?_,Lib.bytesWorld_size w _ S,_,_,Lib.bytesWorld_at_new w _ S,.inr (by rw[g];exact nlr _),g,o,Array.length_toList,?_⟩
 ·exact⟨rfl,rfl,rfl,by rw[Lib.bytesWorld_size];omega,fun k q=>Lib.bytesWorld_at_old w _ S k q⟩
 ·simp[Lib.bytesCells,cb]
/-- The bytes of a constant as a row. -/
theorem zpU(w:World)(bs:List UInt8)(t:Nat×Nat)(ht:t=(0,0)\/bs.length<=t.1):RowM (w.alloc (.cells (cb bs).toArray 5 t)) w.heap.size bs.length bs.length bs :=
 ⟨_,_,heap_alloc_new w _,ht,by simp[cb],nlr _,rfl,by rw[List.take_of_length_le (by simp[cb])]⟩
theorem zdh{w:World}{ops:Array Oper}{rest:List Oper}{o:Oper}{a:Act}{Q:Exit->Act->World->Prop}(C:o.guard=none)(s x:Operand)
  (F:o.op=.call { callee:=.builtin .append,args:=#[s,x],argTypes:=#[22,22] })
  (g n r:Nat) (xs:List UInt8) (hs:a.eval s=.slice (some ⟨g,0,none⟩) n r) (u:RowM w g n r xs)
  (B m c:Nat) (A:Option Addr) (q:List UInt8) (hx:a.eval x=.slice A m c) (hr:RdB w B A m q) (G:n+m<=140737488355328)
  (h:∀b z w',RowM w' b (n+m) z (xs++q)->w.grownBy w' (some g)->(b=g\/b=w.heap.size)->wpList Tryz.prog ops Q rest (a.put o.dst (.slice (some ⟨b,0,none⟩) (n+m) z)) w') :
  wpList Tryz.prog ops Q (o :: rest) a w:=by
 refine wpList_plain C fun K D=>?_
 obtain⟨b,z,w',t,h2,E,h4⟩:=ziE w o.type g n r xs u B m c A q hr G;unfold Oper.wp execOp;simp only[F,resolve,invoke,builtin,Sem.run_bind,Sem.run_pure,Result.andThen_ok,List.map_toArray,List.map_cons,List.map_nil,hs,hx,t];exact D _ _ (h b z w' h2 E h4)
/-- A row beside one that grows. -/
theorem ownB.beside{w w':World}{base lo hi g:Nat}{p:Value}{bs:List UInt8}(h:ownB w base p bs)(hp:∀k,p.ownBlock=some k->lo<=k/\k<hi)(hg:w.grownBy w' (some g))(hv:g<lo\/hi<=g):ownB w' base p bs:=by
 refine World.ownsRow.kept h hg ?_;cases e:p.ownBlock with
 |none=>exact .inl rfl
 |some k =>
  refine .inr (fun o=>?_);injection o with o;have h1:=hp k e;omega
theorem RowM.beside{w w':World}{b n o g:Nat}{xs:List UInt8}(h:RowM w b n o xs)(hg:w.grownBy w' (some g))(hv:b≠g):RowM w' b n o xs:=h.keep (hg.block b h.lt (fun e=>by injection e with e;exact hv e))
end Go.Proofs.YtebbdifhiihfkaaGreatDoor

/- png: a chunk laid behind others. -/
namespace Go.Proofs.YtebbdifhiihfkaaGreatDoor
set_option linter.all false
set_option maxRecDepth 100000
set_option maxHeartbeats 3200000
open Go.RowKit
theorem zha(bs:List UInt8):crc bs<4294967296:=Nat.xor_lt_two_pow (n:=32) (by omega) (zfO bs)
/-- A chunk behind what is there. -/
def zis(out N ks data C:List UInt8):List UInt8:=out++N++(ks++data)++C
theorem zjG(base B m c2 g0 z u:Nat)(A:Option Addr)(out data r N C:List UInt8)(S:ByteArray)(w:World)(hS:S.data.toList=r)(ao:r.length=4)(ho:RowM w g0 z u out)(aN:base<=g0)(hr:RdB w B A m data)(hB:B<=base)
  (hm:m<=1000000) (aF:z<=1000000) (hN:beR (m:Int) 4=(N,0)) (az:N.length=4) (hC:beR ((crc (r++data):Nat):Int) 4=(C,0)) (af:C.length=4) :
  Calls Tryz.prog 76 #[.slice (some ⟨g0,0,none⟩) z u,.string S,.slice A m c2] w fun e w'=>∃g9 c9,e=.returned (.slice (some ⟨g9,0,none⟩) (z+4+(4+m)+4) c9)/\RowM w' g9 (z+4+(4+m)+4) c9 (zis out N r data C)/\base<=g9/\Below base w w':=by
 have aA:S.size=4:=by show S.data.size=4;rw[<-Array.length_toList,hS];exact ao
 have aO:=ho.lt;have aa:=yo ho;have HR:=yo hr;have T:=yo (fun w=>zhv (m:Int) 4 w);rw[hN] at T;have U:=yo (fun w=>zhv ((crc (r++data):Nat):Int) 4 w);rw[hC] at U;have hx:=zha (r++data);have a7:=yo (fun w1 b c' (h:RdB w1 (b+1) (some ⟨b,0,none⟩) (4+m) (r++data))=>zjr (b+1) (4+m) c' (some ⟨b,0,none⟩) (r++data) w1 h (by omega));generalize crc (r++data)=X at *;clear ho hr hN hC;go_enter Tryz.func76,Tryz.ntmps76;go_wp2_with (first
  |(go_at_call 46;(with_reducible refine(T.o _).mono ?_);go_must (rintro e w1 ⟨v1,rfl,G,E⟩;obtain⟨A1,c1,rfl,-,-,-⟩:=G.form;rw[az] at G;have ab:=yo G;have aw:=yo E;have aR:=E.size;obtain⟨a4,w2,J,s,aP,g⟩:=zr8 w1 S;rw[aA] at J g;rw[hS] at g;have ai:=yo s;have a1:=yo ((HR.o.blw (E.mono (by omega))).blw (s.mono (by omega)));have a9:=yo (ownB.later ab.o s);have aC:=yo ((aa.o.later E).later s);have aD:=yo g;clear G E s g))
  |(go_at_call 50;(with_reducible refine V.o.mono ?_);go_must (rintro e w4 ⟨rfl,rfl⟩))
  |(go_at_call 46;(with_reducible refine(U.o _).mono ?_);go_must (rintro e w4 ⟨v4,rfl,H,q⟩;obtain⟨A4,c4,rfl,-,-,-⟩:=H.form;rw[af] at H;have Z:=yo H;have aJ:=q.size;have a5:=yo (aB.o.later q);have ar:=yo (ownB.later a0.o q);have ak:=yo (a3.o.later q);have W:Hid (∀k,(Value.slice A4 4 c4).ownBlock=some k->w3.heap.size<=k/\k<w4.heap.size):=(show ∀k,_ from fun k o=>olt Z.o k o);have aq:=yo (au.o.trans (q.mono (by omega)));have a2:=yo (ownB.rd ar.o);have ax:z+4<=140737488355328:=(by omega);have ap:z+4+(4+m)<=140737488355328:=(by omega);have al:z+4+(4+m)+4<=140737488355328:=(by omega);clear H q))
  |(at_builtin;(refine zdh rfl (.tmp 33) (.tmp 34) rfl g6 (z+4+(4+m)) c6 (out++N++(r++data)) rfl ah.o _ 4 c4 A4 C rfl P.o al ?_;intro g7 c7 w7 Y L am;have ag:=yo Y;have ay:=yo (M.o.grown L (by have:=M.o.size;omega) (fun k o=>by injection o with o;omega));have L:base<=g7:=(by have:=M.o.size;omega);clear Y am))
  |(at_builtin;(refine zdh rfl (.tmp 31) (.tmp 32) rfl g5 (z+4) c5 (out++N) rfl a8.o (b+1) (4+m) c3 (some ⟨b,0,none⟩) (r++data) rfl ae.o.rd ap ?_;intro g6 c6 w6 R I aE;have ah:=yo R;have M:=yo (O.o.grown I (by have:=O.o.size;omega) (fun k o=>by injection o with o;omega));have aI:base<=g6:=(by have:=O.o.size;omega);have P:=yo (ownB.rd (ownB.beside a6.o W.o I (by omega)));clear R I aE))
  |(at_builtin;(refine zdh rfl (.tmp 29) (.tmp 30) rfl g0 z u out rfl a5.o _ 4 c1 A1 N rfl a2.o ax ?_;intro g5 c5 w5 ac D an;have a8:=yo ac;have O:=yo (aq.o.grown D (by omega) (fun k o=>by injection o with o;omega));have aL:=D.size;have aG:base<=g5:=(by omega);have aH:g5<w.heap.size\/w4.heap.size<=g5:=(by omega);have a6:=yo (ownB.beside Z.o W.o D (by omega));have ae:=yo (ak.o.beside D (by omega));clear ac D an))
  |(at_builtin;(refine zdh rfl (.tmp 19) (.tmp 20) rfl w1.heap.size 4 a4 r rfl aD.o B m c2 A data rfl a1.o (by omega) ?_;intro b c3 w3 F t av;have aM:=t.size;have aQ:=F.lt;have aK:w.heap.size<=b/\b<w3.heap.size:=(by omega);have a3:=yo F;have aB:=yo (aC.o.beside t (by omega));have aj:Hid (∀k,(Value.slice A1 4 c1).ownBlock=some k->w.heap.size<=k/\k<w1.heap.size):=(show ∀k,_ from fun k o=>olt ab.o k o);have a0:=yo (ownB.beside a9.o aj.o t (by omega));have au:Hid (Below base w w3):=(show Below _ _ _ from Below.grown ((aw.o.mono (by omega)).trans (ai.o.mono (by omega))) t (by omega) (fun k o=>by injection o with o;omega));have V:=yo (a7.o w3 b c3 F.rd);clear F t av)))
 go_ret;exact⟨g7,c7,rfl,ag.o,L,ay.o⟩
end Go.Proofs.YtebbdifhiihfkaaGreatDoor

