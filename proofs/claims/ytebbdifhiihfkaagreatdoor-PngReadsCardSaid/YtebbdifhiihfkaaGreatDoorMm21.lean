/- XLzP XLz1 XLz2 XLz3 -/
import Derived.Test.YtebbdifhiihfkaaGreatDoorMm19
import Derived.Test.YtebbdifhiihfkaaGreatDoorMm02
import Derived.Test.YtebbdifhiihfkaaGreatDoorMm20
namespace Go.Proofs.YtebbdifhiihfkaaGreatDoor
set_option linter.all false
theorem zdm{bs:List UInt8}{k:Nat}{x:UInt8}(h:bs[k]?=some x):bs.getD k 0=x:=by rw[lgd,h];rfl
abbrev Tri:=UInt8×UInt8×UInt8
def tri(b:List UInt8)(i:Nat):Tri:=(b.getD i 0,b.getD (i+1) 0,b.getD (i+2) 0)
/-- The last place of three bytes among the first i, and 1; 0: there is none. -/
def zaT(b:List UInt8):Nat->Tri->Nat
 |0,_=>0
 |i+1,t=>if i+3<=b.length/\tri b i=t then i+1 else zaT b i t
/-- Of a place the one ahead with the same bytes, and 1. -/
def zb4(b:List UInt8)(j:Nat):Nat:=if b.length<j+3 then 0 else zaT b j (tri b j)
def zb5(b:List UInt8)(i:Nat):List Int:=(List.range i).map fun j=>((zb4 b j:Nat):Int)
/-- How many bytes from two places on are the same. -/
def zeM(b:List UInt8)(i k:Nat):Nat->Nat->Nat
 |0,n=>n
 |f+1,n=>if k+n<b.length/\b.getD (i+n) 0=b.getD (k+n) 0 then zeM b i k f (n+1) else n
def zdt(b:List UInt8)(i k:Nat):Nat:=zeM b i k 258 0
def zcG(b:List UInt8)(at_:Nat):Nat->Nat->Nat->Nat->Nat×Nat
 |0,_,best,zaf=>(best,zaf)
 |f+1,p,best,zaf =>
  if p=0\/32768<at_-(p-1) then(best,zaf)
  else if best<zdt b (p-1) at_ then zcG b at_ f (zb4 b (p-1)) (zdt b (p-1) at_) (at_-(p-1))
  else zcG b at_ f (zb4 b (p-1)) best zaf
/-- The match at a place. -/
def zbd(b:List UInt8)(at_:Nat):Nat×Nat:=if b.length<at_+3 then(0,0) else zcG b at_ 64 (zaT b at_ (tri b at_)) 0 0
/-- The token at a place. -/
def zhE(b:List UInt8)(at_:Nat):Tok:=if(zbd b at_).1=0 then(0,0,(b.getD at_ 0).toNat) else((zbd b at_).1,(zbd b at_).2,0)
def zew(b:List UInt8)(at_:Nat):Nat:=if(zbd b at_).1=0 then 1 else(zbd b at_).1
def zdC(b:List UInt8):Nat->Nat->List Tok
 |0,_=>[]
 |f+1,at_=>if at_<b.length then zhE b at_ :: zdC b f (at_+zew b at_) else[]
/-- Bytes as tokens. -/
def zdD(b:List UInt8):List Tok:=zdC b b.length 0
theorem zi1(b:List UInt8)(i:Nat):zb5 b (i+1)=zb5 b i++[((zb4 b i:Nat):Int)]:=by unfold zb5;rw[List.range_succ,List.map_append];rfl
theorem zcx(b:List UInt8)(i:Nat):(zb5 b i).length=i:=by simp[zb5]
theorem zqX(b:List UInt8){i j:Nat}(h:j<i):(zb5 b i)[j]?=some ((zb4 b j:Nat):Int):=by
 unfold zb5;rw[List.getElem?_map,List.getElem?_range h];rfl
theorem zgn(b:List UInt8)(t:Tri):∀i,zaT b i t<=i/\(zaT b i t=0\/(zaT b i t-1+3<=b.length/\tri b (zaT b i t-1)=t))
 |0=>⟨nlr _,.inl rfl⟩
 |i+1=>by
  unfold zaT;split
  ·rename_i h
   exact⟨nlr _,.inr ⟨h.1,h.2⟩⟩
  ·have:=zgn b t i
   exact⟨by omega,this.2⟩
theorem zl7(b:List UInt8)(j:Nat):zb4 b j<=j/\(zb4 b j=0\/(zb4 b j-1+3<=b.length/\tri b (zb4 b j-1)=tri b j)):=by
 unfold zb4;split
 ·exact⟨Nat.zero_le _,.inl rfl⟩
 ·exact zgn b (tri b j) j
theorem zjD(b:List UInt8)(i k:Nat):∀f n,zeM b i k f n<=n+f/\(k+n<=b.length->k+zeM b i k f n<=b.length)/\n<=zeM b i k f n
 |0,n=>⟨nlr _,fun h=>h,nlr _⟩
 |f+1,n=>by
  unfold zeM;split
  ·rename_i h
   have:=zjD b i k f (n+1);exact⟨by omega,fun _=>this.2.1 (by omega),by omega⟩
  ·exact⟨by omega,fun h=>h,nlr _⟩
theorem zjE{b:List UInt8}{i k f n:Nat}(h1:k+n<b.length)(h2:b.getD (i+n) 0=b.getD (k+n) 0):zeM b i k (f+1) n=zeM b i k f (n+1):=if_pos ⟨h1,h2⟩
theorem zoR{b:List UInt8}{i k:Nat}(h:k+3<=b.length)(ht:tri b i=tri b k):3<=zdt b i k:=by
 have q:b.getD i 0=b.getD k 0:=congrArg (·.1) ht;have o:b.getD (i+1) 0=b.getD (k+1) 0:=congrArg (·.2.1) ht;have g:b.getD (i+2) 0=b.getD (k+2) 0:=congrArg (·.2.2) ht;unfold zdt;rw[show(258:Nat)=257+1 from rfl,zjE (by omega) (by simpa using q),show(257:Nat)=256+1 from rfl,zjE (by omega) (by simpa using o),show(256:Nat)=255+1 from rfl,zjE (by omega) (by simpa using g)];have:=(zjD b i k 255 (0+1+1+1)).2.2;omega
theorem znS(b:List UInt8)(i k:Nat)(h:k<=b.length):zdt b i k<=258/\k+zdt b i k<=b.length:=by
 have:=zjD b i k 258 0;unfold zdt;exact⟨by omega,this.2.1 (by omega)⟩
/-- A place that a chain names. -/
def Cand(b:List UInt8)(at_ p:Nat):Prop:=p=0\/(p<=at_/\tri b (p-1)=tri b at_)
theorem Cand.next{b:List UInt8}{at_ p:Nat}(h:Cand b at_ p)(hp:¬p=0):Cand b at_ (zb4 b (p-1)):=by
 obtain⟨h1,h2⟩:p<=at_/\tri b (p-1)=tri b at_:=by rcases h with h|h;exact absurd h hp;exact h
 have g:=zl7 b (p-1);rcases g.2 with e | ⟨_,e⟩
 ·exact .inl e
 ·exact .inr ⟨by omega,e.trans h2⟩
theorem zjF{b:List UInt8}{at_:Nat}(o:at_+3<=b.length):∀f p best zaf,Cand b at_ p->(best=0\/(3<=best/\best<=258/\at_+best<=b.length/\1<=zaf/\zaf<=32768/\zaf<=at_)) ->
  ((zcG b at_ f p best zaf).1=0\/(3<=(zcG b at_ f p best zaf).1/\(zcG b at_ f p best zaf).1<=258/\at_+(zcG b at_ f p best zaf).1<=b.length/\1<=(zcG b at_ f p best zaf).2/\(zcG b at_ f p best zaf).2<=32768/\(zcG b at_ f p best zaf).2<=at_))
 |0,p,best,zaf,_,h=>h
 |f+1,p,best,zaf,hc,h=>by
  unfold zcG;split
  ·exact h
  ·rename_i hp
   have g:¬p=0:=fun e=>hp (.inl e)
   have r:at_-(p-1)<=32768:=(by omega);obtain⟨h1,h2⟩:p<=at_/\tri b (p-1)=tri b at_:=by rcases hc with h|h;exact absurd h g;exact h
   split
   ·have q:=zoR o h2
    have h4:=znS b (p-1) at_ (by omega);exact zjF o f _ _ _ (hc.next g) (.inr ⟨q,h4.1,h4.2,by omega,r,by omega⟩)
   ·exact zjF o f _ _ _ (hc.next g) h
theorem zoS(b:List UInt8)(at_:Nat):Cand b at_ (zaT b at_ (tri b at_)):=by
 have:=zgn b (tri b at_) at_;rcases this.2 with e | ⟨_,e⟩
 ·exact .inl e
 ·exact .inr ⟨this.1,e⟩
theorem znT(b:List UInt8)(at_:Nat):(zbd b at_).1=0\/(3<=(zbd b at_).1/\(zbd b at_).1<=258/\at_+(zbd b at_).1<=b.length/\1<=(zbd b at_).2/\(zbd b at_).2<=32768/\(zbd b at_).2<=at_):=by
 unfold zbd;split
 ·exact .inl rfl
 ·exact zjF (by omega) _ _ _ _ (zoS b at_) (.inl rfl)
theorem zkx{b:List UInt8}{at_:Nat}(h:at_<b.length):1<=zew b at_/\at_+zew b at_<=b.length/\zew b at_=max (zhE b at_).1 1/\zci (zhE b at_):=by
 unfold zew zhE;rcases znT b at_ with e | ⟨h1,h2,g,h4,o,q⟩
 ·rw[if_pos e,if_pos e]
  exact⟨nlr _,h,rfl,.inl ⟨rfl,(b.getD at_ 0).toNat_lt⟩⟩
 ·rw[if_neg (by omega),if_neg (by omega)]
  exact⟨by omega,g,by show(zbd b at_).1=max (zbd b at_).1 1;omega,.inr ⟨h1,h2,h4,o⟩⟩
theorem zio(b:List UInt8):∀f at_,(∀t∈zdC b f at_,zci t)/\(at_<=b.length->zbI (zdC b f at_)<=b.length-at_)
 |0,at_=>⟨fun t ht=>absurd ht (List.not_mem_nil),fun _=>Nat.zero_le _⟩
 |f+1,at_=>by
  unfold zdC;split
  ·rename_i h
   obtain⟨h1,h2,o,h4⟩:=zkx h;obtain⟨q,g⟩:=zio b f (at_+zew b at_);refine⟨fun t ht=>?_,fun _=>?_⟩
   ·rw[List.mem_cons] at ht
    rcases ht with rfl|ht
    ·exact h4
    ·exact q t ht
   ·have:=g h2
    unfold zbI at this ⊢;rw[List.map_cons,List.sum_cons,<-o];omega
  ·exact⟨fun t ht=>absurd ht (by simp),fun _=>by simp[zbI]⟩
theorem zip(b:List UInt8):(∀t∈zdD b,zci t)/\zbI (zdD b)<=b.length:=⟨(zio b b.length 0).1,(zio b b.length 0).2 (Nat.zero_le _)⟩
end Go.Proofs.YtebbdifhiihfkaaGreatDoor

/- lz: how many bytes from two places on are the same. -/
namespace Go.Proofs.YtebbdifhiihfkaaGreatDoor
set_option linter.all false
set_option maxRecDepth 100000
set_option maxHeartbeats 1600000
open Go.RowKit
theorem zoT(B n c i k:Nat)(A:Option Addr)(bs:List UInt8)(w:World)(h:RdB w B A n bs)(ac:i<=k)(X:k<=n)(hn:n<=40000):
  Calls Tryz.prog 166 #[.slice A n c,.int .i64 (i:Int),.int .i64 (k:Int)] w fun e w'=>e=.returned (.int .i64 ((zdt bs i k:Nat):Int))/\∃q,w'=w.drewN q:=by
 have Y:=yo h;have U:=h.len;have D:Hid (zeM bs i k (258-0) 0=zdt bs i k):=(show _=_ from rfl);clear h;go_enter Tryz.func166,Tryz.ntmps166;go_wp2_with fail;go_loopw [7] (fun L wr=>∃m:Nat,m<=258/\L=.int .i64 m/\Hid (zeM bs i k (258-m) m=zdt bs i k)/\Hid (∃q,wr=w.drewN q)) (fun L _=>258-(intOf L).toNat)
 case atStart=>exact⟨0,by omega,rfl,D,(show ∃q,_ from⟨0,rfl⟩)⟩
 case round =>
  clear D;obtain⟨m,hm,rfl,G,S⟩:=hrel;have z:Hid (RdB wr B A n bs):=(show RdB _ _ _ _ _ by obtain⟨q,rfl⟩:=S.o;exact Rd.drewN Y.o q);have t:∀nq,Hid (∃q,wr.drewN nq=w.drewN q):=fun nq=>(show ∃q,_ by obtain⟨q,rfl⟩:=S.o;exact⟨q+nq,by rw[World.drewN_drewN]⟩)
  have u:Hid (m<258->zeM bs i k (258-m) m=if k+m<bs.length/\bs.getD (i+m) 0=bs.getD (k+m) 0 then zeM bs i k (258-(m+1)) (m+1) else m):=(show _->_ from fun h=>by rw[show 258-m=(258-(m+1))+1 by omega];rfl);have C:IntKind.i64.wrap ((k:Int)+(m:Int))=((k+m:Nat):Int):=by have:=zaa (k+m) (by omega);simpa using this
  have F:IntKind.i64.wrap ((i:Int)+(m:Int))=((i+m:Nat):Int):=by have:=zaa (i+m) (by omega);simpa using this
  by_cases h1:m<258
  ·have I:(m:Int)<258:=by omega
   by_cases h2:k+m<n
   ·have P:(k:Int)+(m:Int)<(n:Int):=by omega
    have Z:(i:Int)+(m:Int)<(n:Int):=(by omega);obtain⟨b,o,x,rfl,hb,O,e1⟩:=z.o.byte (k:=i+m) (by omega);obtain⟨b2,o2,y,s,ab,H,V⟩:=z.o.byte (k:=k+m) h2;injection s with s;injection s with s M;subst s M;have g:=yo (u.o h1);rw[zdm O.o,zdm H.o] at g;have x8:=x.toNat_lt;have y8:=y.toNat_lt;obtain⟨p,hp⟩:∃p,i+m=p:=⟨_,rfl⟩;obtain⟨r,hr⟩:∃r,k+m=r:=⟨_,rfl⟩;have ae:(i:Int)+(m:Int)=(p:Int):=(by omega);have R:(k:Int)+(m:Int)=(r:Int):=(by omega);have W:(p:Int)<(n:Int):=(by omega);have E:(r:Int)<(n:Int):=(by omega);have af:p<n:=(by omega);have J:r<n:=(by omega);have N:k+m<bs.length:=(by omega);rw[hp] at e1 F;rw[hr] at V C;by_cases hxy:x=y
    ·have d1:((x.toNat:Int)==(y.toNat:Int))=true:=by rw[hxy];exact beq_self_eq_true _
     rw[if_pos ⟨N,hxy⟩,G.o] at g;clear O H u;go_wp2_with fail;go_quiet (fail);go_wp2_with fail;go_roundw
     case rel=>exact⟨m+1,by omega,by go_num,g.o.symm,t _⟩
     case measure=>simp[intOf];omega
    ·have d1:((x.toNat:Int)==(y.toNat:Int))=false:=bef (fun e=>hxy (UInt8.toNat_inj.1 (by omega)))
     rw[if_neg (fun e=>hxy e.2),G.o] at g;clear O H u;go_wp2_with fail;go_quiet (fail);go_wp2_with fail;go_ret;exact⟨by rw[g.o];rfl,(t _).o⟩
   ·have P:¬(k:Int)+(m:Int)<(n:Int):=by omega
    have g:=yo (u.o h1);rw[if_neg (fun e=>h2 (U ▸ e.1)),G.o] at g;obtain⟨r,hr⟩:∃r,k+m=r:=⟨_,rfl⟩;have R:(k:Int)+(m:Int)=(r:Int):=(by omega);have E:¬(r:Int)<(n:Int):=(by omega);have J:¬r<n:=(by omega);have T:n<=r:=(by omega);have aa:decide ((r:Int)<(n:Int))=false:=decide_eq_false E;rw[hr] at C;clear u F;go_wp2_with fail;go_quiet (fail);go_wp2_with fail;go_ret;exact⟨by rw[g.o];rfl,(t _).o⟩
  ·obtain rfl:m=258:=by omega
   have I:¬(258:Int)<258:=(by omega);have g:Hid (zdt bs i k=258):=(show _=_ by rw[<-G.o];rfl);clear u;go_wp2_with fail;go_quiet (fail);go_wp2_with fail;go_ret;exact⟨by rw[g.o];rfl,(t _).o⟩
end Go.Proofs.YtebbdifhiihfkaaGreatDoor

/- lz: the places of all three bytes: the next place added. -/
namespace Go.Proofs.YtebbdifhiihfkaaGreatDoor
set_option linter.all false
set_option maxRecDepth 100000
set_option maxHeartbeats 3200000
open Go.RowKit
theorem isM3.far{w:World}{b m:Nat}{f:UInt8×UInt8×UInt8->Nat}(h:isM3 w b m f){p:Addr}(hp:p.block≠b)(v:Value):isM3 (w.setCell p v) b m f:=h.keep (Below.heap_setCell _ _ _ _ (fun e=>hp e.symm))
theorem isM3.alloc{w:World}{b m:Nat}{f:UInt8×UInt8×UInt8->Nat}(h:isM3 w b m f)(o:Obj):isM3 (w.alloc o) b m f:=h.keep (heap_alloc_old w o h.lt)
theorem isM3.more{w:World}{b m g:Nat}{f:UInt8×UInt8×UInt8->Nat}(h:isM3 w b m f)(o:m<=g):isM3 w b g f:=by
 obtain⟨D,h,h2⟩:=h;exact⟨D,h.mono o,h2⟩
/-- Of a block c the map and the places. -/
structure Ch(w:World)(c m i:Nat)(vp:Value)(bs:List UInt8):Prop where
 arr:Arr w c [.map (some m),vp]
 map:isM3 w m i (zaT bs i)
 own:ownI w (c+1) vp (zb5 bs i)
 lt:m<c
section
variable {w w' : World} {c m i : Nat} {vp : Value} {bs : List UInt8}
theorem Ch.drewN(h:Ch w c m i vp bs)(q:Nat):Ch (w.drewN q) c m i vp bs:=⟨h.arr.drewN q,h.map.keep rfl,h.own.drewN q,h.lt⟩
theorem Ch.alloc(h:Ch w c m i vp bs)(o:Obj):Ch (w.alloc o) c m i vp bs:=⟨h.arr.alloc o,h.map.alloc o,ownI.alloc h.own o,h.lt⟩
end
theorem zqY{bs:List UInt8}{i:Nat}(h:bs.length<i+3):zaT bs (i+1)=zaT bs i:=by
 funext t
 show(if i+3<=bs.length/\tri bs i=t then i+1 else zaT bs i t)=_;rw[if_neg (by omega)]
theorem zsT{bs:List UInt8}{i:Nat}(h:i+3<=bs.length):zaT bs (i+1)=zl8 (zaT bs i) (tri bs i) (i+1):=by
 funext t
 show(if i+3<=bs.length/\tri bs i=t then i+1 else zaT bs i t)=if tri bs i=t then i+1 else zaT bs i t;by_cases e:tri bs i=t
 ·rw[if_pos ⟨h,e⟩,if_pos e]
 ·rw[if_neg (fun a=>e a.2),if_neg e]
theorem zoV(B n W c m i:Nat)(A:Option Addr)(bs:List UInt8)(vp:Value)(w:World)(h:Ch w c m i vp bs)(hr:RdB w B A n bs)(hB:B<=m)(hi:i<n)(hn:n<=40000)(T:n<i+3):
  Calls Tryz.prog 145 #[.pointer (some ⟨c,0,none⟩),.slice A n W] w fun e w'=>e=.returned (.tuple #[])/\∃vp',Ch w' c m (i+1) vp' bs/\RFr w w' c m vp vp':=by
 have L:=h.own.form;rw[zcx] at L;obtain⟨O,P,rfl,-,-,-⟩:=L;have H:=yo h;have Z:=h.arr.cell (k:=0) rfl;have e1:=h.arr.cell (k:=1) rfl;have f1:=h.arr.frozen 1;have V:=h.arr.lt;have E:=h.map.lt;have G:=h.lt;have X:=hr.len;have M:(n:Int)<(i:Int)+3:=by omega
 have u:Hid (zb5 bs i++[0]=zb5 bs (i+1)):=(show _=_ by rw[zi1];unfold zb4;rw[if_pos (by omega)];rfl);have D:Hid (zaT bs (i+1)=zaT bs i):=(show _=_ from zqY (by omega));have C:=yo (zcx bs i);clear h hr;go_enter Tryz.func145,Tryz.ntmps145;go_wp2_with (at_builtin;go_must (refine zay rfl (.tmp 20) (.tmp 21) rfl (c+1) _ (zb5 bs i) rfl (ownI.alloc H.o.own _) (w.heap.size+1) 1 1 (some ⟨w.heap.size,0,none⟩) [0] rfl (zbv w 0) (by rw[C.o];omega) (by rw[wsa];omega) ?_;intro Y z g s q t;rw[u.o] at g;obtain⟨U,c3,rfl,F,-,-⟩:=g.form;clear F;have J:=yo (show RFr w z c m (.slice O i P) (.slice U (zb5 bs (i+1)).length c3) from RFr.grown _ s t);have o:=yo (show Arr z c [.map (some m),.slice O i P] from(H.o.arr.alloc _).blw q (by omega));have I:=yo (show isM3 z m i (zaT bs i) from H.o.map.keep ((q.block m (by omega)).trans (heap_alloc_old w _ E)));have r:=yo g;have S:=o.o.cell (k:=1) rfl;have R:=o.o.frozen 1;have N:=o.o.lt;clear g s q t));(try simp only[Exit.inBlock,Exit.then])
 first|(refine bodyPost_ret (results_none rfl _ _ _) rfl ?_)|(refine bodyPost_end (results_none rfl _ _ _) rfl ?_)
 refine⟨rfl,_,⟨o.o.set 1 _,?_,ownI.far r.o (ownI.ne r.o (by omega)) 1 _,G⟩,J.o.set1 1 _⟩;rw[D.o];exact(I.o.far (by show c≠m;omega) _).more (Nat.le_succ i)
theorem zqZ(B n c0 c m i:Nat)(A:Option Addr)(bs:List UInt8)(vp:Value)(w:World)(h:Ch w c m i vp bs)(hr:RdB w B A n bs)(hB:B<=m)(hi:i<n)(hn:n<=40000)(a4:n<=c0)(aG:i+3<=n):
  Calls Tryz.prog 145 #[.pointer (some ⟨c,0,none⟩),.slice A n c0] w fun e w'=>e=.returned (.tuple #[])/\∃t,Ch w' c m (i+1) t bs/\RFr w w' c m vp t:=by
 have hf:=h.own.form;rw[zcx] at hf;obtain⟨J,F,rfl,-,-,-⟩:=hf;have H:=yo h;have e0:=h.arr.cell (k:=0) rfl;have e1:=h.arr.cell (k:=1) rfl;have f1:=h.arr.frozen 1;have aI:=h.arr.lt;have aH:=h.map.lt;have ai:=h.lt;have hl:=hr.len;obtain⟨b,o,rfl,hb,u⟩:=hr.at_ (by omega);have k0:=u i (by omega);have k1:=u (i+1) (by omega);have k2:=u (i+2) (by omega);rw[<-Nat.add_assoc] at k1 k2;have HT:Hid (tri bs i=(bs[i],bs[i+1],bs[i+2])):=(show _=_ by unfold tri;rw[zdm (lge (by omega)),zdm (lge (by omega)),zdm (lge (by omega))]);generalize bs[i]=x at *;generalize bs[i+1]=y at *;generalize bs[i+2]=z at *;have a6:¬(n:Int)<(i:Int)+3:=by omega
 have aE:(0:Int)<=(i:Int)+3/\(i:Int)+3<=(c0:Int):=by omega
 have aA:¬c0=i:=by omega
 have ao:Hid (zb5 bs i++[((zaT bs i (x,y,z):Nat):Int)]=zb5 bs (i+1)):=(show _=_ by rw[zi1];unfold zb4;rw[if_neg (by omega),HT.o]);have av:Hid (zaT bs (i+1)=zl8 (zaT bs i) (x,y,z) (i+1)):=(show _=_ by rw[zsT (by omega),HT.o]);have au:=yo (zcx bs i);have I:∀(w:World) (a:Option Addr) (l c:Nat),3<=l->(Instr.arrayAt 217 (.slice a l c)).run Tryz.prog w=.ok (.pointer a) w:=fun w a l c hl=>run_arrayAt w 217 _ 3 a l c Tryz.underlying217 hl
 clear h hr u;go_enter Tryz.func145,Tryz.ntmps145;go_upto_region 4 with(simp only[I]);generalize M:w.alloc _=w1;obtain⟨C,R⟩:∃b,w.heap.size=b:=⟨_,rfl⟩;simp only[R];have D:Hid (Ch w1 c m i (.slice J i F) bs):=(show Ch _ _ _ _ _ _ by rw[<-M];exact H.o.alloc _);have HK:Hid (Arr w1 C [.int .u8 (x.toNat:Int),.int .u8 (y.toNat:Int),.int .u8 (z.toNat:Int)]):=(show Arr _ _ _ by rw[<-M,<-R];exact Arr.new w [.int .u8 (x.toNat:Int),.int .u8 (y.toNat:Int),.int .u8 (z.toNat:Int)] _);have ag:Hid (RFr w w1 c m (.slice J i F) (.slice J i F)):=(show RFr _ _ _ _ _ _ by rw[<-M];exact RFr.ofB ((Below.refl w.heap.size w).alloc (nlr _) _) _ _ _);have Z:w1.heap.size=C+1:=by rw[<-M,wsa,R]
 have a9:c<C:=by omega
 have a1:Hid (∀q,(Value.slice J i F).ownBlock=some q->q<C):=(show ∀q,_ from fun q hq=>by have:=(olt H.o.own q hq).2;omega);clear M e0 e1 f1 k0 k1 k2 I R H;have e0:=D.o.arr.cell (k:=0) rfl;have e1:=D.o.arr.cell (k:=1) rfl;obtain⟨k0,k1,k2⟩:=HK.o.c3;have O:Hid (isM3 w1.drew m i (zaT bs i)):=(show isM3 _ _ _ _ from D.o.map);have P:(zb5 bs i).length+1<=1099511627776:=by rw[au.o];omega
 have af:¬c=C:=by omega
 have aD:c<w1.heap.size:=by omega
 have a5:¬c=w1.heap.size:=by omega
 have aF:C<w1.heap.size:=by omega
 have a8:¬C=w1.heap.size:=by omega
 generalize hL:zaT bs i (x,y,z)=L at *;have T:(Instr.lookup 179 (.map (some m)) (.agg #[.int .u8 (x.toNat:Int),.int .u8 (y.toNat:Int),.int .u8 (z.toNat:Int)]) false).run Tryz.prog w1.drew=.ok (.int .i64 (L:Int)) w1.drew:=by rw[<-hL];exact O.o.look (x,y,z)
 clear hL;have an:Hid (ownI (w1.alloc (.cells #[Value.int .i64 (L:Int)] 3)).drew (c+1) (.slice J i F) (zb5 bs i)):=(show ownI _ _ _ _ from D.o.own.alloc _);have aj:Hid (RdI (w1.alloc (.cells #[Value.int .i64 (L:Int)] 3)).drew (C+1+1) (some ⟨C+1,0,none⟩) 1 [(L:Int)]):=(show RdI _ _ _ _ _ by have:=zbv w1 (L:Int);rw[Z] at this;exact this);have ak:Hid (Arr (w1.alloc (.cells #[Value.int .i64 (L:Int)] 3)).drew c [.map (some m),.slice J i F]):=(show Arr _ _ _ from D.o.arr.alloc _);have ac:Hid (isM3 (w1.alloc (.cells #[Value.int .i64 (L:Int)] 3)).drew m i (zaT bs i)):=(show isM3 _ _ _ _ from D.o.map.alloc _);have ah:Hid (Arr (w1.alloc (.cells #[Value.int .i64 (L:Int)] 3)).drew C [.int .u8 (x.toNat:Int),.int .u8 (y.toNat:Int),.int .u8 (z.toNat:Int)]):=(show Arr _ _ _ from HK.o.alloc _);have W:c+1<=(w1.alloc (.cells #[Value.int .i64 (L:Int)] 3)).drew.heap.size:=by show c+1<=(w1.alloc _).heap.size;rw[wsa];omega
 have aa:C<(w1.alloc (.cells #[Value.int .i64 (L:Int)] 3)).drew.heap.size:=by show C<(w1.alloc _).heap.size;rw[wsa];omega
 have ab:(Value.slice J i F).ownBlock≠some C:=fun e=>absurd (a1.o _ e) (Nat.lt_irrefl _)
 have ae:Hid (∀(X:World) (v:Value),(w1.alloc (.cells #[Value.int .i64 (L:Int)] 3)).drew.grownBy X (Value.slice J i F).ownBlock->(v.ownBlock=(Value.slice J i F).ownBlock\/v.ownBlock=some (w1.alloc (.cells #[Value.int .i64 (L:Int)] 3)).drew.heap.size)->RFr w X c m (.slice J i F) v):=(show ∀X v,_ from fun X v hg ha=>RFr.trans ag.o (by
  have h:=RFr.grown (r:=c) (g:=m) (w:=w1.drew) (.cells #[Value.int .i64 (L:Int)] 3) hg ha;exact⟨h.os,h.tape,h.output,h.size,h.block,h.own⟩))
 go_cut [5] (fun v wc=>v=.pointer (some ⟨C,0,none⟩)/\∃t,Hid (Arr wc C [.int .u8 (x.toNat:Int),.int .u8 (y.toNat:Int),.int .u8 (z.toNat:Int)])/\Hid (Arr wc c [.map (some m),t])/\Hid (isM3 wc m i (zaT bs i))/\Hid (ownI wc (c+1) t (zb5 bs (i+1)))/\Hid (RFr w wc c m (.slice J i F) t))
 case first =>
  go_region_law (first
   |(refine ze8 rfl (.tmp 36) (.tmp 43) rfl (c+1) _ (zb5 bs i) rfl an.o (C+1+1) 1 1 (some ⟨C+1,0,none⟩) [(L:Int)] rfl aj.o P W ?_;intro v1 X E U V I;rw[ao.o] at E;obtain⟨A3,c3,rfl,ax,-,-⟩:=E.form;clear ax;have a3:=yo (ae.o X _ U I);have S:=yo (ak.o.blw V (Nat.lt_succ_self c));have a2:=yo (ac.o.keep (V.block m (Nat.lt_succ_of_lt ai)));have a0:=yo (show Arr X C [.int .u8 (x.toNat:Int),.int .u8 (y.toNat:Int),.int .u8 (z.toNat:Int)] from by obtain⟨ty,az⟩:=ah.o;exact⟨ty,(U.block C aa (fun e=>ab e.symm)).trans az⟩);have al:=yo E;have aC:=S.o.cell (k:=1) rfl;have aB:=S.o.frozen 1;have a7:=S.o.lt;clear E U V I))
  all_goals
   go_wp2_with fail;go_meet
   case rel=>exact⟨rfl,_,a0.o.far (p:=⟨c,1,none⟩) af _,S.o.set 1 _,a2.o.far (p:=⟨c,1,none⟩) (fun e=>by have:c=m:=e;omega) _,ownI.far al.o (ownI.ne al.o (Nat.lt_succ_self c)) 1 _,a3.o.set1 1 _⟩
 case rest =>
  obtain⟨rfl,t,aq,Y,ay,am,ap⟩:=hcut;clear T an aj ak ac ah W aa ab ae O D HK ag e0 e1 k0 k1 k2 P;have e0:=Y.o.cell (k:=0) rfl;obtain⟨k0,k1,k2⟩:=aq.o.c3;have O:Hid (isM3 wc.drew m i (zaT bs i)):=(show isM3 _ _ _ _ from ay.o);have P:i<=1000000:=by omega
  have W:IntKind.i64.wrap ((i:Int)+1)=(i:Int)+1:=(by have:=zaa (i+1) (by omega);simpa using this);obtain⟨w8,G,N,s⟩:=O.o.store P (x,y,z) (i+1);have T:(Instr.mapUpdate 179 (.map (some m)) (.agg #[.int .u8 (x.toNat:Int),.int .u8 (y.toNat:Int),.int .u8 (z.toNat:Int)]) (.int .i64 ((i:Int)+1))).run Tryz.prog wc.drew=.ok () w8:=G;have aw:=yo N;have ar:Hid (wc.grownBy w8 (some m)):=(show World.grownBy _ _ _ from⟨s.os,s.tape,s.output,s.size,s.block⟩);clear G N s;go_upto_region 5 with fail
  go_region_law (fail)
  all_goals
   go_wp2_with fail;(try simp only[Exit.inBlock,Exit.then])
   first|(refine bodyPost_ret (results_none rfl _ _ _) rfl ?_)|(refine bodyPost_end (results_none rfl _ _ _) rfl ?_)
   have N:=aw.o;have s:=ar.o;rw[<-av.o] at N;refine⟨rfl,t,⟨Y.o.gro s (by omega),N,World.ownsRow.kept am.o s ?_,ai⟩,RFr.trans ap.o (RFr.ofG s c t)⟩;have:=ownI.ne am.o (show m<c+1 by omega);exact .inr this
theorem zl9(B n o c m i:Nat)(A:Option Addr)(bs:List UInt8)(vp:Value)(w:World)(h:Ch w c m i vp bs)(hr:RdB w B A n bs)(q:B<=m)(hi:i<n)(r:n<=40000)(g:n<=o):
  Calls Tryz.prog 145 #[.pointer (some ⟨c,0,none⟩),.slice A n o] w fun e w'=>e=.returned (.tuple #[])/\∃vp',Ch w' c m (i+1) vp' bs/\RFr w w' c m vp vp':=by
 by_cases h3:i+3<=n
 ·exact zqZ B n o c m i A bs vp w h hr q hi r g h3
 ·exact zoV B n o c m i A bs vp w h hr q hi r (by omega)
end Go.Proofs.YtebbdifhiihfkaaGreatDoor

/- lz: the match at a place. -/
namespace Go.Proofs.YtebbdifhiihfkaaGreatDoor
set_option linter.all false
set_option maxRecDepth 100000
set_option maxHeartbeats 3200000
open Go.RowKit
theorem zky{b:List UInt8}{at_ f p g zaf:Nat}(h:p=0\/32768<at_-(p-1)):zcG b at_ f p g zaf=(g,zaf):=by
 cases f with
 |zero=>rfl
 |succ f=>exact if_pos h
theorem zq0{b:List UInt8}{at_ f p g zaf:Nat}(h:¬(p=0\/32768<at_-(p-1))):zcG b at_ (f+1) p g zaf=if g<zdt b (p-1) at_ then zcG b at_ f (zb4 b (p-1)) (zdt b (p-1) at_) (at_-(p-1)) else zcG b at_ f (zb4 b (p-1)) g zaf:=if_neg h
theorem zq1(B n O c m i:Nat)(A:Option Addr)(bs:List UInt8)(vp:Value)(w:World)(h:Ch w c m i vp bs)(hr:RdB w B A n bs)(hi:i<n)(hn:n<=40000)(av:n<=O):
  Calls Tryz.prog 144 #[.pointer (some ⟨c,0,none⟩),.slice A n O,.int .i64 (i:Int)] w fun e w'=>e=.returned (.tuple #[.int .i64 ((zbd bs i).1:Int),.int .i64 ((zbd bs i).2:Int)])/\∃q,w'=w.drewN q:=by
 have hf:=h.own.form;rw[zcx] at hf;obtain⟨Ap,cp,rfl,-,-,-⟩:=hf;have H:=yo h;have HR:=yo hr;have e0:=h.arr.cell (k:=0) rfl;have e1:=h.arr.cell (k:=1) rfl;have hl:=hr.len;by_cases hi3:i+3<=n
 ·obtain⟨b,o,rfl,hb,t⟩:=hr.at_ (by omega)
  have k0:=t i (by omega);have k1:=t (i+1) (by omega);have k2:=t (i+2) (by omega);rw[<-Nat.add_assoc] at k1 k2;have HT:Hid (tri bs i=(bs[i],bs[i+1],bs[i+2])):=(show _=_ by unfold tri;rw[zdm (lge (by omega)),zdm (lge (by omega)),zdm (lge (by omega))]);have W:=yo (zgn bs (tri bs i) i).1;have u:Hid (zbd bs i=zcG bs i (64-0) (zaT bs i (tri bs i)) 0 0):=(show _=_ by unfold zbd;rw[if_neg (by omega)]);rw[HT.o] at W u;generalize bs[i]=x at *;generalize bs[i+1]=y at *;generalize bs[i+2]=z at *;have aa:¬(n:Int)<(i:Int)+3:=by omega
  have HM:=yo (h.drewN 1).map;obtain⟨s,hs⟩:∃s,i+3=s:=⟨_,rfl⟩;have au:(i:Int)+3=(s:Int):=by omega
  have an:IntKind.i64.wrap ((i:Int)+3)=(s:Int):=by rw[au];exact zaa s (by omega)
  have S:IntKind.i64.wrap (s:Int)=(s:Int):=zaa s (by omega);have az:s<=n:=by omega
  have aw:s-i=3:=by omega
  have ax:i<=s:=by omega
  clear h hr t;go_enter Tryz.func144,Tryz.ntmps144;go_upto_region 4 with fail;generalize hL:zaT bs i (x,y,z)=L at *;have X:(Instr.lookup 179 (.map (some m)) (.agg #[.int .u8 (x.toNat:Int),.int .u8 (y.toNat:Int),.int .u8 (z.toNat:Int)]) false).run Tryz.prog w.drew=.ok (.int .i64 (L:Int)) w.drew:=by rw[<-hL];exact HM.o.look (x,y,z)
  have ac:∀(w:World) (a:Option Addr) (l c:Nat),3<=l->(Instr.arrayAt 217 (.slice a l c)).run Tryz.prog w=.ok (.pointer a) w:=fun w a l c hl=>run_arrayAt w 217 _ 3 a l c Tryz.underlying217 hl
  have ae:=ac w.drew (some ⟨b,o+i,none⟩) 3 (O-i) (nlr _);have ah:0<=(s:Int)/\(s:Int)<=(O:Int):=by omega
  have am:¬O=i:=by omega
  have ai:s<=O:=by omega
  clear hL ac;go_cut [8,9,10] (fun v1 v2 v3 wc=>v1=.int .i64 0/\v2=.int .i64 0/\v3=.int .i64 (L:Int)/\Hid (∃q,wc=w.drewN q))
  case first =>
   go_region_law (fail)
   all_goals
    go_wp2_with fail;go_meet
    case rel=>exact⟨rfl,rfl,rfl,(show ∃q,_ from⟨1,rfl⟩)⟩
  case rest =>
   obtain⟨rfl,rfl,rfl,ab⟩:=hcut;have Z:Hid (zcG bs i (64-0) L 0 0=zbd bs i):=(show _=_ from u.o.symm);have V:=W.o;clear X ae an ah am ai S HM u k0 k1 k2 HT;go_wp2_with fail;go_loopw [29,10,8,9] (fun vj vq vb vd wr=>∃(j p r zaf:Nat),j<=64/\vj=.int .i64 j/\vq=.int .i64 p/\vb=.int .i64 r/\vd=.int .i64 zaf/\p<=i/\r<=258/\zaf<=40000/\Hid (zcG bs i (64-j) p r zaf=zbd bs i)/\Hid (∃q,wr=w.drewN q)) (fun vj _ _ _ _=>64-(intOf vj).toNat)
   case atStart=>exact⟨0,L,0,0,by omega,rfl,rfl,rfl,rfl,V,by omega,by omega,Z,ab⟩
   case round =>
    clear Z ab V;obtain⟨j,p,r,zaf,hj,rfl,rfl,rfl,rfl,hp,ar,ap,HC,HW⟩:=hrel;by_cases h1:j<64
    ·have aj:(j:Int)<64:=by omega
     by_cases hp0:p=0
     ·have d1:((p:Int)==0)=true:=by rw[hp0];rfl
      have F:Hid (zbd bs i=(r,zaf)):=(show _=_ by rw[<-HC.o,zky (.inl hp0)]);go_wp2_with fail;go_ret2;exact⟨by rw[F.o];rfl,HW.o⟩
     ·have d1:((p:Int)==0)=false:=bef (by omega)
      obtain⟨P,hP⟩:∃P,p-1=P:=⟨_,rfl⟩;have ay:(p:Int)-1=(P:Int):=(by omega);have I:P<i:=(by omega);obtain⟨D,hD⟩:∃D,i-P=D:=⟨_,rfl⟩;have a0:(i:Int)-(P:Int)=(D:Int):=(by omega);have ag:D<=40000:=(by omega);by_cases h3:32768<D
      ·have ak:(32768:Int)<(D:Int):=by omega
       have F:Hid (zbd bs i=(r,zaf)):=(show _=_ by rw[<-HC.o,zky (.inr (by omega))]);go_wp2_with fail;go_ret2;exact⟨by rw[F.o];rfl,HW.o⟩
      ·have ak:¬(32768:Int)<(D:Int):=by omega
       obtain⟨-,g,rfl,-,-⟩:=H.o.own.pos (by omega);have J:=H.o.own.cell (by rw[zcx]) (k:=P) (by rw[zcx];exact I);have Y:(zb5 bs i)[P]'(by rw[zcx];exact I)=((zb4 bs P:Nat):Int):=by
        have:=zqX bs I;rw[lge (by rw[zcx];exact I)] at this;injection this
       rw[Y] at J;have hN:=(zl7 bs P).1;have T:Hid (zcG bs i (64-j) p r zaf=if r<zdt bs P i then zcG bs i (64-(j+1)) (zb4 bs P) (zdt bs P i) D else zcG bs i (64-(j+1)) (zb4 bs P) r zaf):=(show _=_ by rw[show 64-j=(64-(j+1))+1 by omega,zq0 (by omega),hP,hD]);rw[HC.o] at T;have U:=yo (fun(w':World) (h:RdB w' B (some ⟨b,o,none⟩) n bs)=>zoT B n O P i (some ⟨b,o,none⟩) bs w' h (by omega) (by omega) hn);have hC:=(znS bs P i (by omega)).1;generalize zb4 bs P=N at *;generalize zdt bs P i=C at *;have R:Hid (RdB wr B (some ⟨b,o,none⟩) n bs):=(show RdB _ _ _ _ _ by obtain⟨q,rfl⟩:=HW.o;exact Rd.drewN HR.o q);have af:Hid (∀w',(∃q,w'=wr.drewN q)->w'.cell? ⟨c,1,none⟩=some (.slice (some ⟨g,0,none⟩) i cp)/\w'.cell? ⟨g,P,none⟩=some (.int .i64 (N:Int))/\∃q,w'=w.drewN q):=(show ∀w',_ by
        obtain⟨q0,rfl⟩:=HW.o;rintro w' ⟨q,rfl⟩;exact⟨e1,J,q0+q,by rw[World.drewN_drewN]⟩)
       clear J Y hD hP;by_cases hCb:r<C
       ·have al:(r:Int)<(C:Int):=by omega
        rw[if_pos hCb] at T;go_wp2_with ((go_at_call 166;(with_reducible refine(U.o _ R.o).mono ?_);go_must (rintro e w5 ⟨rfl,G⟩;obtain⟨ao,aq,E⟩:=af.o w5 G;have M:=yo E;clear G E)));go_roundw
        case rel=>exact⟨j+1,N,C,D,by omega,by go_num,rfl,rfl,rfl,by omega,hC,ag,T.o.symm,M⟩
        case measure=>simp[intOf];omega
       ·have al:¬(r:Int)<(C:Int):=by omega
        rw[if_neg hCb] at T;go_wp2_with ((go_at_call 166;(with_reducible refine(U.o _ R.o).mono ?_);go_must (rintro e w5 ⟨rfl,G⟩;obtain⟨ao,aq,E⟩:=af.o w5 G;have M:=yo E;clear G E)));go_roundw
        case rel=>exact⟨j+1,N,r,zaf,by omega,by go_num,rfl,rfl,rfl,by omega,ar,ap,T.o.symm,M⟩
        case measure=>simp[intOf];omega
    ·obtain rfl:j=64:=by omega
     have aj:¬(64:Int)<64:=(by omega);have F:Hid (zbd bs i=(r,zaf)):=(show _=_ by rw[<-HC.o];rfl);go_wp2_with fail;go_ret2;exact⟨by rw[F.o];rfl,HW.o⟩
 ·have aa:(n:Int)<(i:Int)+3:=by omega
  have u:Hid (zbd bs i=(0,0)):=(show _=_ by unfold zbd;rw[if_pos (by omega)]);clear h hr;go_enter Tryz.func144,Tryz.ntmps144;go_wp2_with fail;go_ret2;exact⟨by rw[u.o];rfl,0,rfl⟩
end Go.Proofs.YtebbdifhiihfkaaGreatDoor

