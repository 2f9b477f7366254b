/- XHuffQ XHuffR XHuffS XHuffT XFl13 XFl14 XFl7 XFl15 -/
import Derived.Test.YtebbdifhiihfkaaGreatDoorMm12
import Derived.Test.YtebbdifhiihfkaaGreatDoorMm14
import Derived.Test.YtebbdifhiihfkaaGreatDoorMm17
import Derived.Test.YtebbdifhiihfkaaGreatDoorMm18
import Derived.StillTailTactics
import Derived.Deep.RegionHeld3
import Derived.Deep.CutBlock
namespace Go.Proofs.YtebbdifhiihfkaaGreatDoor
set_option linter.all false
/-- How often each place stands among so many. -/
theorem zkq(xs:List Int)(ps:List Nat)(i:Nat)(hi:i<xs.length):(zaD xs ps).getD i 0=xs.getD i 0+(ps.count i:Int):=by
 induction ps generalizing xs with
 |nil=>simp[zaD]
 |cons p ps ih =>
  have e:zaD xs (p :: ps)=zaD (zdq xs p) ps:=rfl;rw[e,ih (zdq xs p) (by rw[zdq,List.length_set];exact hi),List.count_cons];unfold zdq;rw[lgd,List.getElem?_set];by_cases h:p=i
  ·subst h
   rw[if_pos rfl,if_pos hi];simp;omega
  ·rw[if_neg h,lgd]
   have:(p==i)=false:=bef h;simp[this]
/-- The packages' members. -/
def zcF:List Mem->List Mem
 | []=>[]
 | .leaf _ _ :: r=>zcF r
 | .node a b :: r=>a :: b :: zcF r
/-- The items that stand alone. -/
def zeK:List Mem->List Nat
 | []=>[]
 | .leaf _ p :: r=>p :: zeK r
 | .node _ _ :: r=>zeK r
theorem zhW(T:List Mem)(i:Nat):(T.flatMap Mem.items).count i=(zeK T).count i+((zcF T).flatMap Mem.items).count i:=by
 induction T with
 |nil=>rfl
 |cons x r ih =>
  rw[List.flatMap_cons,List.count_append,ih];cases x with
  |leaf w p=>simp[zeK,zcF,Mem.items,List.count_cons];omega
  |node a b=>simp[zeK,zcF,Mem.items,List.count_append];omega
def zfU:Mem->Bool
 | .leaf _ _=>true
 | .node _ _=>false
def Mem.pl:Mem->Nat
 | .leaf _ p=>p
 | .node _ _=>0
theorem zhX{a:List Mem}(h:∀x∈a,zfU x=true):zeK a=a.map Mem.pl/\zcF a=[]:=by
 induction a with
 |nil=>exact⟨rfl,rfl⟩
 |cons x r ih =>
  obtain⟨h1,h2⟩:=ih (fun y hy=>h y (by simp[hy]));cases x with
  |leaf w p=>simp[zeK,zcF,Mem.pl,h1,h2]
  |node a b=>have:=h (.node a b) (by simp);cases this
theorem zoL{a:List Mem}(h:∀x∈a,zfU x=false):zeK a=[]:=by
 induction a with
 |nil=>rfl
 |cons x r ih =>
  have h1:=ih (fun y hy=>h y (by simp[hy]));cases x with
  |leaf w p=>have:=h (.leaf w p) (by simp);cases this
  |node a b=>simp[zeK,h1]
theorem zmX(l:List Mem):∀x∈zbj l,zfU x=false:=by
 intro x hx;obtain⟨a,b,rfl,_,_⟩:=zgT hx;rfl
theorem zoM(l:List Mem)(q:Nat):zcF ((zbj l).take q)=l.take (2*min q (zbj l).length):=by
 fun_induction zbj l generalizing q with
 |case1 a b r ih =>
  cases q with
  |zero=>simp[zcF]
  |succ q =>
   rw[List.take_succ_cons,zcF,ih q,List.length_cons,show min (q+1) ((zbj r).length+1)=min q (zbj r).length+1 by omega,show 2*(min q (zbj r).length+1)=2*min q (zbj r).length+1+1 by omega,List.take_succ_cons,List.take_succ_cons]
 |case2 l h=>simp[zcF]
/-- The front of a merge. -/
theorem zsK(a b:List Mem)(hs:Srt Mem.w a)(g:∀x∈a,zfU x=true)(o:∀x∈b,zfU x=false)(t:Nat)(ht:t<=a.length+b.length):
  ∃p q,p+q=t/\p<=a.length/\q<=b.length/\zeK ((zaN Mem.w a b).take t)=(a.take p).map Mem.pl/\zcF ((zaN Mem.w a b).take t)=zcF (b.take q)/\(∀x∈a.drop p,∀y∈b.take q,y.w<x.w):=by
 fun_induction zaN Mem.w a b generalizing t with
 |case1 b =>
  refine⟨0,t,by omega,by simp,by simpa using ht,?_,rfl,fun x hx=>by simp at hx⟩;rw[zoL (fun x hx=>o x (List.mem_of_mem_take hx))];rfl
 |case2 x r =>
  obtain⟨h1,h2⟩:=zhX (a:=(x :: r).take t) (fun y hy=>g y (List.mem_of_mem_take hy));refine⟨t,0,by omega,by simpa using ht,by simp,h1,?_,fun _ _ y hy=>by simp at hy⟩;rw[h2];rfl
 |case3 x r y s hlt ih =>
  cases t with
  |zero=>exact⟨0,0,rfl,by simp,by simp,rfl,rfl,fun _ _ y hy=>by simp at hy⟩
  |succ t =>
   obtain⟨p,q,F,D,E,A,C,B⟩:=ih hs g (fun z hz=>o z (by simp[hz])) t (by simp at ht ⊢;omega);have hy:=o y (by simp);refine⟨p,q+1,by omega,D,by simp;omega,?_,?_,?_⟩
   ·rw[List.take_succ_cons]
    cases y with
    |leaf=>cases hy
    |node=>exact A
   ·rw[List.take_succ_cons,List.take_succ_cons]
    cases y with
    |leaf=>cases hy
    |node u v=>rw[zcF,zcF,C]
   ·intro z hz v hv
    rw[List.take_succ_cons] at hv;rcases List.mem_cons.1 hv with rfl|hv
    ·have hzm:=List.mem_of_mem_drop hz
     rcases List.mem_cons.1 hzm with rfl|hzm
     ·exact hlt
     ·have:=(List.pairwise_cons.1 hs).1 z hzm
      omega
    ·exact B z hz v hv
 |case4 x r y s hge ih =>
  cases t with
  |zero=>exact⟨0,0,rfl,by simp,by simp,rfl,rfl,fun _ _ y hy=>by simp at hy⟩
  |succ t =>
   obtain⟨p,q,F,D,E,A,C,B⟩:=ih (List.pairwise_cons.1 hs).2 (fun z hz=>g z (by simp[hz])) o t (by simp at ht ⊢;omega);have hx:=g x (by simp);refine⟨p+1,q,by omega,by simp;omega,E,?_,?_,?_⟩
   ·rw[List.take_succ_cons,List.take_succ_cons]
    cases x with
    |leaf w p=>rw[zeK,A];rfl
    |node=>cases hx
   ·rw[List.take_succ_cons]
    cases x with
    |leaf w p=>rw[zcF,C]
    |node=>cases hx
   ·intro z hz v hv
    exact B z (by simpa using hz) v hv
/-- A tree is as heavy as its items. -/
def Fits(W:Nat->Int):Mem->Prop
 | .leaf x p=>x=W p/\0<=x
 | .node a b=>Fits W a/\Fits W b
theorem Fits.le{W:Nat->Int}:∀ {t:Mem},Fits W t->0<=t.w/\∀p∈t.items,W p<=t.w
 | .leaf x p,h=>⟨h.2,fun q hq=>by
  have:q=p:=by simpa [Mem.items] using hq
  subst this;show W q<=x;rw[h.1];exact Int.le_refl _⟩
 | .node a b,h=>by
  obtain⟨r,g⟩:=Fits.le h.1;obtain⟨s,o⟩:=Fits.le h.2;refine⟨by show 0<=a.w+b.w;omega,fun q hq=>?_⟩;show W q<=a.w+b.w;rcases List.mem_append.1 hq with hq|hq
  ·have:=g q hq;omega
  ·have:=o q hq;omega
theorem znK{W:Nat->Int}{first:List Mem}(h:∀t∈first,Fits W t)(k:Nat):∀t∈pmL first k,Fits W t :=
 zgV (P:=fun _ t=>Fits W t) (fun _ t ht=>h t ht) (fun _ _ _ o g=>⟨o,g⟩) k
end Go.Proofs.YtebbdifhiihfkaaGreatDoor

/- huff: the lengths of a code by packages, plainly: what they add up to. -/
namespace Go.Proofs.YtebbdifhiihfkaaGreatDoor
set_option linter.all false
theorem zsL{T:List Mem}{P:Nat}(h:P∈(zcF T).flatMap Mem.items):∃Y∈T,P∈Y.items:=by
 induction T with
 |nil=>simp[zcF] at h
 |cons x r ih =>
  cases x with
  |leaf w p =>
   obtain⟨Y,h1,h2⟩:=ih h;exact⟨Y,by simp[h1],h2⟩
  |node a b =>
   rw[zcF,List.flatMap_cons,List.flatMap_cons] at h;rcases List.mem_append.1 h with h|h
   ·exact⟨.node a b,by simp,List.mem_append_left _ h⟩
   ·rcases List.mem_append.1 h with h|h
    ·exact⟨.node a b,by simp,List.mem_append_right _ h⟩
    ·obtain⟨Y,h1,h2⟩:=ih h
     exact⟨Y,by simp[h1],h2⟩
/-- What the items are: leaves, rising, each place once, weights by places. -/
structure Firsts(W:Nat->Int)(first:List Mem):Prop where
 srt:Srt Mem.w first
 leaf:∀x∈first,zfU x=true
 nodup:(first.map Mem.pl).Nodup
 fits:∀x∈first,Fits W x
def cn(first:List Mem)(j t:Nat)(P:Nat):Nat:=(((pmL first j).take t).flatMap Mem.items).count P
theorem ziX{l:List Nat}(h:l.Nodup)(p i:Nat)(hi:i<l.length):(l.take p).count l[i]=if i<p then 1 else 0:=by
 by_cases hp:i<p
 ·rw[if_pos hp]
  have o:(l.take p).Nodup:=h.sublist (List.take_sublist _ _);have g:l[i]∈l.take p:=by
   rw[List.mem_take_iff_getElem];exact⟨i,by omega,rfl⟩
  rw[List.Nodup.count o,if_pos g]
 ·rw[if_neg hp]
  rw[List.count_eq_zero];intro g;rw[List.mem_take_iff_getElem] at g;obtain⟨k,q,e⟩:=g;exact(List.pairwise_iff_getElem.1 h) k i (by omega) hi (by omega) e
section
variable {W : Nat → Int} {first : List Mem} (F : Firsts W first)
include F
theorem znL(t i:Nat)(hi:i<first.length):cn first 0 t first[i].pl=if i<t then 1 else 0:=by
 unfold cn;rw[zhW];obtain⟨h1,h2⟩:=zhX (a:=first.take t) (fun x hx=>F.leaf x (List.mem_of_mem_take hx));show(zeK (first.take t)).count _+_=_;rw[h1];show _+((zcF (first.take t)).flatMap Mem.items).count _=_;rw[h2];have:=ziX F.nodup t i (by simpa using hi);rw[List.getElem_map,<-List.map_take] at this;rw[this];simp
theorem znM(j t:Nat)(ht:t<=(pmL first (j+1)).length):∃p q,p+q=t/\p<=first.length/\2*q<=(pmL first j).length /\
  (∀i (hi:i<first.length),cn first (j+1) t first[i].pl=(if i<p then 1 else 0)+cn first j (2*q) first[i].pl)/\(∀i (hi:i<first.length),p<=i->cn first j (2*q) first[i].pl=0):=by
 have u:(pmL first (j+1)).length=first.length+(zbj (pmL first j)).length:=by rw[pmL,zka]
 obtain⟨p,q,J,C,z,A,E,G⟩:=zsK first (zbj (pmL first j)) F.srt F.leaf (zmX _) t (by omega);have hq:2*q<=(pmL first j).length:=by rw[zgS] at z;omega
 have s:zcF ((zbj (pmL first j)).take q)=(pmL first j).take (2*q):=by rw[zoM,Nat.min_eq_left z]
 refine⟨p,q,J,C,hq,fun i hi=>?_,fun i hi hp=>?_⟩
 ·unfold cn
  rw[zhW,pmL,A,E,s];have:=ziX F.nodup p i (by simpa using hi);rw[List.getElem_map,<-List.map_take] at this;rw[this]
 ·unfold cn
  rw[<-s,List.count_eq_zero];intro H;obtain⟨Y,h1,h2⟩:=zsL H;have hx:first[i]∈first.drop p:=by
   rw[List.mem_drop_iff_getElem];exact⟨i-p,by omega,by congr 1;omega⟩
  have hlt:=G _ hx Y h1;have B:Fits W Y:=by
   obtain⟨a,b,rfl,D,I⟩:=zgT (List.mem_of_mem_take h1);exact⟨znK F.fits j a D,znK F.fits j b I⟩
  have r:=B.le.2 _ h2;have o:=F.fits _ (List.getElem_mem hi);have g:=F.leaf _ (List.getElem_mem hi);cases hf:first[i] with
  |leaf x p =>
   rw[hf] at hlt r o;have:x<x:=by
    have N:Y.w<x:=hlt;have L:W p<=Y.w:=r;have M:x=W p:=o.1;omega
   omega
  |node a b=>rw[hf] at g;cases g
theorem zoN:∀(j t:Nat),t<=(pmL first j).length->∀i (hi:i<first.length),cn first j t first[i].pl<=j+1:=by
 intro j
 induction j with
 |zero=>intro t _ i hi;rw[znL F t i hi];split<;>omega
 |succ j ih =>
  intro t ht i hi;obtain⟨p,q,_,_,hq,g,_⟩:=znM F j t ht;rw[g i hi];have:=ih (2*q) hq i hi;split<;>omega
theorem zqK(n p K:Nat)(hp:p<=n):((List.range n).map fun i=>if i<p then K else 0).sum=p*K:=by
 clear F
 induction n with
 |zero =>
  obtain rfl:p=0:=by omega
  simp
 |succ n ih =>
  rw[List.range_succ,List.map_append,List.sum_append];simp only[List.map_cons,List.map_nil,List.sum_cons,List.sum_nil];by_cases h:p<=n
  ·rw[ih h,if_neg (by omega)];omega
  ·obtain rfl:p=n+1:=by omega
   rw[if_pos (by omega)];have e:((List.range n).map fun i=>if i<n+1 then K else 0)=(List.range n).map fun i=>if i<n then K else 0:=by
    apply List.map_congr_left;intro i hi;rw[List.mem_range] at hi;rw[if_pos (by omega),if_pos hi]
   rw[e];have g:∀n:Nat,((List.range n).map fun i=>if i<n then K else 0).sum=n*K:=by
    intro n;have:((List.range n).map fun i=>if i<n then K else 0)=List.replicate n K:=by
     apply List.ext_getElem?;intro i;by_cases h:i<n
     ·simp[h]
     ·simp[h]
    rw[this];simp
   rw[g,Nat.add_mul];omega
theorem zuc(n:Nat)(f g:Nat->Nat):((List.range n).map fun i=>f i+g i).sum=((List.range n).map f).sum+((List.range n).map g).sum:=by
 clear F
 induction n with
 |zero=>rfl
 |succ n ih=>simp only[List.range_succ,List.map_append,List.sum_append,ih,List.map_cons,List.map_nil,List.sum_cons,List.sum_nil];omega
/-- How much of all codes the lengths take. -/
theorem zsM:∀(j t:Nat),t<=(pmL first j).length->((List.range first.length).map fun i=>2 ^ (j+1)-2 ^ (j+1-cn first j t (first.getD i default).pl)).sum=t*2 ^ j:=by
 intro j
 induction j with
 |zero =>
  intro t ht;have e:((List.range first.length).map fun i=>2 ^ (0+1)-2 ^ (0+1-cn first 0 t (first.getD i default).pl))=(List.range first.length).map fun i=>if i<t then 1 else 0:=by
   apply List.map_congr_left;intro i hi;rw[List.mem_range] at hi;rw[lgd,lge hi,Option.getD_some,znL F t i hi];split<;>rfl
  rw[e,zqK F first.length t 1 ht,Nat.pow_zero]
 |succ j ih =>
  intro t ht;obtain⟨p,q,r,o,hq,g,hz⟩:=znM F j t ht;have e:((List.range first.length).map fun i=>2 ^ (j+1+1)-2 ^ (j+1+1-cn first (j+1) t (first.getD i default).pl))=(List.range first.length).map fun i=>(if i<p then 2 ^ (j+1) else 0)+(2 ^ (j+1)-2 ^ (j+1-cn first j (2*q) (first.getD i default).pl)):=by
   apply List.map_congr_left;intro i hi;rw[List.mem_range] at hi;rw[lgd,lge hi,Option.getD_some,g i hi];have s:=zoN F j (2*q) hq i hi;by_cases hp:i<p
   ·rw[if_pos hp,if_pos hp]
    generalize cn first j (2*q) first[i].pl=c at *;rw[show j+1+1-(1+c)=j+1-c by omega,Nat.pow_succ 2 (j+1)];have:2 ^ (j+1-c)<=2 ^ (j+1):=Nat.pow_le_pow_right (by decide) (by omega);omega
   ·rw[if_neg hp,if_neg hp,hz i hi (by omega)]
    simp
  rw[e,zuc F,zqK F _ _ _ o,ih (2*q) hq,Nat.pow_succ,<-r,Nat.add_mul];generalize 2 ^ j=u;rw[Nat.mul_comm 2 q,Nat.mul_assoc q 2 u,Nat.mul_comm 2 u]
end
end Go.Proofs.YtebbdifhiihfkaaGreatDoor

/- huff: the lengths that weights have, plainly: place by place. -/
namespace Go.Proofs.YtebbdifhiihfkaaGreatDoor
set_option linter.all false
def wOf(ws:List Int)(p:Nat):Int:=ws.getD p 0
theorem zdO{ws:List Int}{i:Nat}{x:Int}(h:ws[i]?=some x):wOf ws i=x:=by
 unfold wOf;rw[lgd,h];rfl
theorem zlW(ws:List Int):∀p∈(zah ws).map Mem.pl,p<ws.length:=by
 intro p hp;rw[List.mem_map] at hp;obtain⟨t,ht,rfl⟩:=hp;obtain⟨q,hq,rfl,_⟩:=zb3 ht;exact hq
theorem zlX(ws:List Int):((zah ws).map Mem.pl).Nodup:=by
 induction ws using zf5 with
 |h0=>exact List.nodup_nil
 |h1 l x ih =>
  rw[zei,List.map_append];split
  ·rw[List.nodup_append]
   refine⟨ih,by simp,fun a o b g=>?_⟩;have h1:=zlW l a o;have h2:b=l.length:=(by simpa [Mem.pl] using g);omega
  ·simpa using ih
def zal(ws:List Int):List Mem:=zam Mem.w (zah ws)
theorem zg7(ws:List Int):(zah ws).Perm (zal ws):=by
 classical
 exact(zaR (wt:=Mem.w) (zah ws)).2.perm
theorem zgm(ws:List Int):Firsts (wOf ws) (zal ws):=by
 refine⟨(zaR _).1,fun x hx=>?_,?_,fun x hx=>?_⟩
 ·obtain⟨p,_,rfl,_⟩:=zb3 (stab_mem.1 hx)
  rfl
 ·exact((zg7 ws).map Mem.pl).nodup_iff.1 (zlX ws)
 ·obtain⟨p,hp,rfl,h0⟩:=zb3 (stab_mem.1 hx)
  refine⟨?_,by omega⟩;rw[zdO (lge hp)]
theorem zb9(ws:List Int):(zal ws).length=zcD ws:=by
 unfold zal;rw[(zaR (wt:=Mem.w) (zah ws)).2.length,zaH]
theorem zjx{ws:List Int}{i:Nat}{x:Int}(h:ws[i]?=some x)(h0:0<x):∃s,∃hs:s<(zal ws).length,(zal ws)[s]=.leaf x i:=by
 have g:Mem.leaf x i∈zah ws:=by
  unfold zah;rw[List.mem_filterMap];refine⟨(x,i),?_,by rw[if_pos h0]⟩;rw[List.mem_zipIdx_iff_getElem?];exact h
 have:=stab_mem (wt:=Mem.w) |>.2 g
 obtain⟨s,hs,e⟩:=List.getElem_of_mem this;exact⟨s,hs,e⟩
/-- The length of a place, as a number. -/
def zbH(ws:List Int)(m i:Nat):Nat :=
 if(zah ws).length=1 then((zah ws).flatMap Mem.items).count i else cn (zal ws) (m-1) (2*(zah ws).length-2) i
theorem zeX(ws:List Int)(m:Nat){i:Nat}(hi:i<ws.length):(zaw ws m)[i]?=some (zbH ws m i:Int):=by
 have hz:(List.replicate ws.length (0:Int)).getD i 0=0:=by
  rw[lgd,List.getElem?_replicate];split<;>rfl
 have key:∀ps:List Nat,(zaD (List.replicate ws.length 0) ps)[i]?=some ((ps.count i:Nat):Int):=fun ps=>by
  have h1:=zkq (List.replicate ws.length 0) ps i (by simpa using hi);rw[hz,Int.zero_add] at h1;have h2:i<(zaD (List.replicate ws.length 0) ps).length:=by rw[zbz];simpa using hi
  rw[lgd,lge h2,Option.getD_some] at h1;rw[lge h2,h1]
 unfold zaw zbH;split
 ·exact key _
 ·exact key _
theorem zkr{ws:List Int}{t:Mem}(h:t∈zah ws):∀p∈t.items,0<wOf ws p:=by
 obtain⟨q,hq,rfl,h0⟩:=zb3 h;intro p hp;have:p=q:=by simpa [Mem.items] using hp
 subst this;rw[zdO (lge hq)];exact h0
theorem zks{ws:List Int}{m i:Nat}(h:¬0<wOf ws i):zbH ws m i=0:=by
 unfold zbH;split
 ·rw[List.count_eq_zero]
  intro g;rw[List.mem_flatMap] at g;obtain⟨t,ht,hp⟩:=g;exact h (zkr ht i hp)
 ·unfold cn
  rw[List.count_eq_zero];intro g;rw[List.mem_flatMap] at g;obtain⟨t,ht,hp⟩:=g;have o:=zgV (first:=zal ws) (P:=fun _ t=>∀p∈t.items,0<wOf ws p) (fun _ t ht=>zkr (stab_mem.1 ht)) (fun _ a b r q p hp=>(List.mem_append.1 hp).elim (r p) (q p)) (m-1) t (List.mem_of_mem_take ht);exact h (o i hp)
theorem zsN{l g:List Nat}(h:l.Perm g):l.sum=g.sum:=h.sum_nat
theorem zoO(ws:List Int)(h:Nat->Nat):((List.range ws.length).map fun i=>if 0<wOf ws i then h i else 0).sum=((zah ws).map fun x=>h x.pl).sum:=by
 induction ws using zf5 with
 |h0=>rfl
 |h1 l x ih =>
  have o:∀i,i<l.length->wOf (l++[x]) i=wOf l i:=fun i hi=>by
   unfold wOf;rw[lgd,List.getElem?_append_left hi,<-lgd]
  have g:wOf (l++[x]) l.length=x:=zdO (by simp);rw[zei,List.map_append,List.sum_append,<-ih,lla,List.length_singleton,List.range_succ,List.map_append,List.sum_append]
  congr 1
  ·apply congrArg
   apply List.map_congr_left;intro i hi;rw[List.mem_range] at hi;rw[o i hi]
  ·simp only[List.map_cons,List.map_nil,List.sum_cons,List.sum_nil,Nat.add_zero]
   rw[g];split<;>simp[Mem.pl]
theorem zqL(l:List Mem)(h:Nat->Nat):(l.map fun x=>h x.pl).sum=((List.range l.length).map fun s=>h (l.getD s default).pl).sum:=by
 congr 1
 apply List.ext_getElem?;intro i;by_cases hi:i<l.length
 ·simp[hi]
 ·simp[hi]
end Go.Proofs.YtebbdifhiihfkaaGreatDoor

/- huff: the lengths that weights have fill their code just. -/
namespace Go.Proofs.YtebbdifhiihfkaaGreatDoor
set_option linter.all false
theorem zii{ws:List Int}{m i:Nat}(h:(zah ws).length=1)(h0:0<wOf ws i)(hi:i<ws.length):zbH ws m i=1:=by
 unfold zbH;rw[if_pos h];obtain⟨s,hs,e⟩:=zjx (lge hi) (by rwa[zdO (lge hi)] at h0);have g:Mem.leaf ws[i] i∈zah ws:=stab_mem.1 (e ▸ List.getElem_mem hs);obtain⟨t,ht⟩:=List.length_eq_one_iff.1 h;rw[ht] at g ⊢;have:Mem.leaf ws[i] i=t:=by simpa using g
 rw[<-this];simp[Mem.items]
theorem zud{ws:List Int}{m i s:Nat}(hs:s<(zal ws).length){x:Int}(e:(zal ws)[s]=.leaf x i)(h:¬(zah ws).length=1):zbH ws m i=cn (zal ws) (m-1) (2*(zah ws).length-2) (zal ws)[s].pl:=by
 unfold zbH;rw[if_neg h,e];rfl
theorem znN{ws:List Int}{m:Nat}(o:1<=m)(hq:(zah ws).length<=2 ^ m){i:Nat}(hi:i<ws.length):zbH ws m i<=m:=by
 by_cases h0:0<wOf ws i
 ·by_cases h1:(zah ws).length=1
  ·rw[zii h1 h0 hi];exact o
  ·obtain⟨s,hs,e⟩:=zjx (lge hi) (by rwa[zdO (lge hi)] at h0)
   rw[zud hs e h1];have g:=zgU (zal ws) (m-1) (by rw[zb9,<-zaH,show m-1+1=m by omega];exact hq);rw[zb9,<-zaH] at g;have:=zoN (zgm ws) (m-1) _ g s hs;omega
 ·rw[zks h0];omega
theorem zoP{l:List Nat}{x:Nat}(h:x∈l):x<=l.sum:=by
 induction l with
 |nil=>cases h
 |cons y r ih =>
  rw[List.sum_cons];rcases List.mem_cons.1 h with rfl|h
  ·omega
  ·have:=ih h;omega
/-- The sum over the items of what their lengths take, and what follows. -/
theorem znO{n:Nat}{f:Nat->Nat}{K:Nat}(h:((List.range n).map f).sum<=K){s:Nat}(hs:s<n):f s<=K:=by
 have:f s<=((List.range n).map f).sum:=by
  have g:f s∈(List.range n).map f:=List.mem_map_of_mem (List.mem_range.2 hs);exact zoP g
 omega
theorem zue(n M:Nat)(f:Nat->Nat)(h:∀i,i<n->f i<=M):((List.range n).map fun i=>M-f i).sum+((List.range n).map f).sum=n*M:=by
 induction n with
 |zero=>simp
 |succ n ih =>
  have:=ih (fun i hi=>h i (by omega));have h2:=h n (by omega);simp only[List.range_succ,List.map_append,List.sum_append,List.map_cons,List.map_nil,List.sum_cons,List.sum_nil,Nat.add_mul];omega
theorem zhY{ws:List Int}{m:Nat}(z:1<=m)(hq:(zah ws).length<=2 ^ m)(h2:2<=(zah ws).length):
  ((List.range (zal ws).length).map fun s=>2 ^ (m-zbH ws m ((zal ws).getD s default).pl)).sum=2 ^ m/\∀s,s<(zal ws).length->zbH ws m ((zal ws).getD s default).pl<=m:=by
 have g:=zgU (zal ws) (m-1) (by rw[zb9,<-zaH,show m-1+1=m by omega];exact hq);rw[zb9,<-zaH] at g;have q:=zsM (zgm ws) (m-1) _ g;rw[show m-1+1=m by omega] at q;have o:∀s,s<(zal ws).length->cn (zal ws) (m-1) (2*(zah ws).length-2) ((zal ws).getD s default).pl<=m:=fun s hs=>by
  rw[lgd,lge hs,Option.getD_some];have:=zoN (zgm ws) (m-1) _ g s hs;omega
 have he:∀i,zbH ws m i=cn (zal ws) (m-1) (2*(zah ws).length-2) i:=fun i=>by unfold zbH;rw[if_neg (by omega)]
 refine⟨?_,fun s hs=>by rw[he];exact o s hs⟩;have hs:=zue (zal ws).length (2 ^ m) (fun s=>2 ^ (m-cn (zal ws) (m-1) (2*(zah ws).length-2) ((zal ws).getD s default).pl)) (fun s hs=>Nat.pow_le_pow_right (by decide) (Nat.sub_le _ _));rw[q] at hs;have r:(List.range (zal ws).length).map (fun s=>2 ^ (m-zbH ws m ((zal ws).getD s default).pl))=(List.range (zal ws).length).map (fun s=>2 ^ (m-cn (zal ws) (m-1) (2*(zah ws).length-2) ((zal ws).getD s default).pl)):=by
  apply List.map_congr_left;intro s _;rw[he]
 rw[r];rw[zb9,<-zaH] at hs ⊢;generalize ((List.range (zah ws).length).map (fun s=>2 ^ (m-cn (zal ws) (m-1) (2*(zah ws).length-2) ((zal ws).getD s default).pl))).sum=S at *;obtain⟨j,rfl⟩:∃j,m=j+1:=⟨m-1,by omega⟩;rw[show j+1-1=j by omega,Nat.pow_succ] at *;generalize (zah ws).length=N at *;generalize 2 ^ j=u at *;have t:(2*N-2)*u+u*2=N*(u*2):=by
  obtain⟨M,rfl⟩:∃M,N=M+1:=⟨N-1,by omega⟩;rw[show 2*(M+1)-2=2*M by omega,Nat.add_mul,Nat.one_mul,Nat.mul_assoc,Nat.mul_left_comm 2 M u,Nat.mul_comm 2 u]
 omega
theorem zlY{ws:List Int}{m:Nat}(z:1<=m)(hq:(zah ws).length<=2 ^ m){i:Nat}(hi:i<ws.length)(h0:0<wOf ws i):0<zbH ws m i:=by
 by_cases h1:(zah ws).length=1
 ·rw[zii h1 h0 hi];omega
 ·obtain⟨s,hs,e⟩:=zjx (lge hi) (by rwa[zdO (lge hi)] at h0)
  have h2:2<=(zah ws).length:=by
   rw[zb9,<-zaH] at hs;omega
  obtain⟨t,A⟩:=zhY z hq h2;apply Classical.byContradiction;intro hz;have hz:zbH ws m i=0:=by omega
  -- another item
  obtain⟨r,hr,u⟩:∃r,r<(zal ws).length/\r≠s:=by
   have B:2<=(zal ws).length:=(by rw[zb9,<-zaH];exact h2);by_cases hs0:s=0
   ·exact⟨1,by omega,by omega⟩
   ·exact⟨0,by omega,by omega⟩
  have o:((zal ws).getD s default).pl=i:=by
   rw[lgd,lge hs,Option.getD_some,e];rfl
  have g:∀(n:Nat) (f:Nat->Nat),s<n->r<n->f s+f r<=((List.range n).map f).sum:=by
   intro n f
   induction n with
   |zero=>intro h;omega
   |succ n ih =>
    intro h1 h2;simp only[List.range_succ,List.map_append,List.sum_append,List.map_cons,List.map_nil,List.sum_cons,List.sum_nil];by_cases hsn:s=n
    ·subst hsn
     have:=znO (f:=f) (nlr ((List.range s).map f).sum) (s:=r) (by omega);omega
    ·by_cases hrn:r=n
     ·subst hrn
      have:=znO (f:=f) (nlr ((List.range r).map f).sum) (s:=s) (by omega);omega
     ·have:=ih (by omega) (by omega)
      omega
  have q:=g (zal ws).length (fun s=>2 ^ (m-zbH ws m ((zal ws).getD s default).pl)) hs hr;rw[t] at q;rw[o,hz,Nat.sub_zero] at q;have:=Nat.two_pow_pos (m-zbH ws m ((zal ws).getD r default).pl);omega
theorem zqM(ls:List Int):krN ls=((List.range ls.length).map fun i=>if 0<ls.getD i 0 then 2 ^ (15-(ls.getD i 0).toNat) else 0).sum:=by
 unfold krN
 congr 1
 apply List.ext_getElem?;intro i;by_cases hi:i<ls.length
 ·simp[hi]
 ·simp[hi]
theorem zcu(ws:List Int)(m:Nat):(zaw ws m).length=ws.length:=by
 unfold zaw;split<;>simp[zbz]
theorem zmY(ws:List Int)(m:Nat){i:Nat}(hi:i<ws.length):(zaw ws m).getD i 0=(zbH ws m i:Int):=by
 rw[lgd,zeX ws m hi];rfl
theorem zsO{ws:List Int}{m:Nat}(g:1<=m)(o:m<=15)(hq:(zah ws).length<=2 ^ m):zau (zaw ws m)=false:=by
 unfold zau;rw[List.any_eq_false];intro x hx;obtain⟨i,hi,e⟩:=List.getElem_of_mem hx;rw[zcu] at hi;have h1:=zeX ws m hi;rw[lge (by rw[zcu];exact hi),e] at h1;injection h1 with h1;have:=znN (m:=m) g hq hi;simp only[Bool.or_eq_true,decide_eq_true_eq];omega
theorem zoQ{ws:List Int}{m:Nat}(u:1<=m)(g:m<=15)(hq:(zah ws).length<=2 ^ m):
  krN (zaw ws m)=if(zah ws).length=0 then 0 else if(zah ws).length=1 then 16384 else 32768:=by
 have D:krN (zaw ws m)=((List.range ws.length).map fun i=>if 0<wOf ws i then 2 ^ (15-zbH ws m i) else 0).sum:=by
  rw[zqM,zcu]
  congr 1
  apply List.map_congr_left;intro i hi;rw[List.mem_range] at hi;rw[zmY ws m hi];by_cases h0:0<wOf ws i
  ·have:=zlY u hq hi h0
   rw[if_pos (by omega),if_pos h0];simp
  ·rw[zks h0,if_neg (by omega),if_neg h0]
 rw[D,zoO ws (fun i=>2 ^ (15-zbH ws m i))];rw[zsN ((zg7 ws).map _),zqL (zal ws) (fun i=>2 ^ (15-zbH ws m i))];have o:(zal ws).length=(zah ws).length:=by rw[zb9,zaH]
 by_cases h0:(zah ws).length=0
 ·rw[o,h0,if_pos rfl]
  rfl
 rw[if_neg h0];by_cases h1:(zah ws).length=1
 ·rw[if_pos h1,o,h1]
  obtain⟨t,ht⟩:=List.length_eq_one_iff.1 (o.trans h1);have hp:zbH ws m t.pl=1:=by
   have g:t∈zah ws:=stab_mem.1 (show t∈zal ws by rw[ht];simp);obtain⟨p,hp,rfl,B⟩:=zb3 g;exact zii h1 (show 0<wOf ws p by rw[zdO (lge hp)];exact B) hp
  show(2 ^ (15-zbH ws m ((zal ws).getD 0 default).pl))+0=_;rw[ht];show(2 ^ (15-zbH ws m t.pl))+0=_;rw[hp];rfl
 ·rw[if_neg h1]
  obtain⟨z,q⟩:=zhY u hq (by omega);have A:((List.range (zal ws).length).map fun s=>2 ^ (15-zbH ws m ((zal ws).getD s default).pl))=((List.range (zal ws).length).map fun s=>2 ^ (m-zbH ws m ((zal ws).getD s default).pl)).map (2 ^ (15-m) * ·):=by
   rw[List.map_map];apply List.map_congr_left;intro s hs;rw[List.mem_range] at hs;have:=q s hs;show _=2 ^ (15-m)*2 ^ _;rw[<-Nat.pow_add]
   congr 1
   omega
  have C:∀(l:List Nat) (c:Nat),(l.map (c * ·)).sum=c*l.sum:=fun l c=>by
   induction l with
   |nil=>rfl
   |cons x r ih=>rw[List.map_cons,List.sum_cons,ih,List.sum_cons,Nat.mul_add]
  rw[A,C,z,<-Nat.pow_add,show 15-m+m=15 by omega]
end Go.Proofs.YtebbdifhiihfkaaGreatDoor

/- flate: the lists of lengths in bits, plainly. -/
namespace Go.Proofs.YtebbdifhiihfkaaGreatDoor
set_option linter.all false
open Go.RowKit
/-- A sign of a list of lengths. -/
def zfw(s:Sgn):Prop:=s.1<19/\s.2.1<2 ^ s.2.2/\s.2.2<=7
theorem zlZ{n:Nat}(h:¬11<=n):∀s∈zeU n,zfw s:=by
 intro s hs;unfold zeU at hs;split at hs
 ·rw[List.mem_singleton] at hs
  subst hs;exact⟨by show 17<19;omega,by show n-3<8;omega,by show 3<=7;omega⟩
 ·rw[List.mem_replicate] at hs
  rw[hs.2];exact⟨by decide,by decide,by decide⟩
theorem zkt:∀f n:Nat,n<=f->∀s∈zdw f n,zfw s
 |0,n,h=>zlZ (by omega)
 |f+1,n,h=>by
  by_cases e:11<=n
  ·rw[zeV e]
   intro s hs;rw[List.mem_cons] at hs;rcases hs with rfl|hs
   ·exact⟨by show 18<19;omega,by show min n 138-11<128;omega,by show 7<=7;omega⟩
   ·exact zkt f _ (by omega) s hs
  ·rw[zfg e];exact zlZ e
theorem ziY{x:Nat}(hx:x<19):∀f n:Nat,∀s∈zcp x f n,zfw s
 |0,n=>fun s hs=>by
  rw[zcp,List.mem_replicate] at hs;rw[hs.2];exact⟨hx,by show 0<2 ^ 0;decide,by show 0<=7;decide⟩
 |f+1,n=>by
  by_cases e:3<=n
  ·rw[zeo e]
   intro s hs;rw[List.mem_cons] at hs;rcases hs with rfl|hs
   ·exact⟨by show 16<19;omega,by show min n 6-3<4;omega,by show 2<=7;omega⟩
   ·exact ziY hx f _ s hs
  ·rw[zeJ e]
   intro s hs;rw[List.mem_replicate] at hs;rw[hs.2];exact⟨hx,by show 0<2 ^ 0;decide,by show 0<=7;decide⟩
theorem zij:∀(f:Nat) (l:List Int),(∀x∈l,0<=x/\x<=15)->∀s∈zcT f l,zfw s
 |0,l,_=>by intro s hs;simp[zcT] at hs
 |f+1,[],_=>by intro s hs;simp[zcT] at hs
 |f+1,x :: r,h=>by
  intro s hs;rw[zcT,List.mem_append] at hs;rcases hs with hs|hs
  ·split at hs
   ·exact zkt _ _ (nlr _) s hs
   ·have:=h x (by simp)
    unfold zbS at hs;rw[List.mem_cons] at hs;rcases hs with rfl|hs
    ·exact⟨by show x.toNat<19;omega,by show 0<2 ^ 0;decide,by show 0<=7;decide⟩
    ·exact ziY (by omega) _ _ s hs
  ·exact zij f _ (fun y hy=>h y (by simp[List.mem_of_mem_drop hy])) s hs
theorem zg8:∀(f:Nat) (l:List Int),(zcT f l).length<=l.length
 |0,l=>by simp[zcT]
 |f+1,[]=>by simp[zcT]
 |f+1,x :: r=>by
  rw[zcT,lla];have h1:=zg8 f (r.drop (same x r));have h2:=znJ x r;rw[lld] at h1;rw[List.length_cons];split
  ·have:=zgl (same x r+1);omega
  ·have:=zfG x.toNat (same x r+1) (by omega);omega
theorem zqN{ws:List Int}{m:Nat}(o:1<=m)(hq:ws.length<=2 ^ m):∀x∈zaw ws m,0<=x/\x<=(m:Int):=by
 intro x hx;obtain⟨i,hi,rfl⟩:=List.getElem_of_mem hx;have g:i<ws.length:=by rw[zcu] at hi;exact hi
 have h1:=zeX ws m g;rw[lge hi] at h1;injection h1 with h1;rw[h1];have:=znN (ws:=ws) o (by rw[zaH];exact nlt (List.length_filter_le _ _) hq) g;omega
theorem zjy{ws:List Int}{m:Nat}(q:1<=m)(g:m<=15)(hq:ws.length<=2 ^ m)(r:ws.length<=300):CodesOK (zaw ws m):=by
 have o:(zah ws).length<=2 ^ m:=by rw[zaH];exact nlt (List.length_filter_le _ _) hq
 refine⟨by rw[zcu];exact r,zsO q g o,?_⟩;rw[zoQ q g o];split
 ·omega
 ·split<;>omega
theorem zmZ(ls:List Int)(k:Nat):krN (ls.take k)<=krN ls:=by
 have e:krN ls=krN (ls.take k)+krN (ls.drop k):=by
  unfold krN;rw[<-List.sum_append,<-List.map_append,List.take_append_drop]
 omega
theorem CodesOK.cut{ls:List Int}(h:CodesOK ls)(least:Nat):CodesOK (zeG ls least):=by
 unfold zeG;refine⟨by rw[llt];have:=h.1;omega,?_,nlt (zmZ _ _) h.2.2⟩;have:=h.2.1;unfold zau at this ⊢;rw[List.any_eq_false] at this ⊢;intro x hx;exact this x (List.mem_of_mem_take hx)
theorem CodesOK.one:CodesOK [1]:=⟨by decide,by decide,by decide⟩
theorem CodesOK.rng{ls:List Int}(h:CodesOK ls):∀x∈ls,0<=x/\x<=15:=by
 intro x hx;obtain⟨i,hi⟩:=List.getElem?_of_mem hx;exact zcK h.2.1 hi
theorem zjz(ts:List Tok):CodesOK (zcE ts):=(zjy (by omega) (by omega) (by rw[zdj];decide) (by rw[zdj];omega)).cut _
theorem zjA(ts:List Tok):CodesOK (zcm ts):=by
 unfold zcm;split
 ·exact CodesOK.one
 ·exact(zjy (by omega) (by omega) (by rw[zcR];decide) (by rw[zcR];omega)).cut _
theorem zl0(ts:List Tok):1<=(zcm ts).length/\(zcm ts).length<=30:=by
 unfold zcm;split
 ·exact⟨nlr _,by decide⟩
 ·rw[zh9,zcu,zcR]
  exact⟨zhC _ _ _ (by omega),ze3 _ _ _⟩
/-- In which order the lengths of lengths stand. -/
def ordL:List Nat:=[16,17,18,0,8,7,9,6,10,5,11,4,12,3,13,2,14,1,15]
def hcK(cl:List Int):Nat->Nat
 |0=>0
 |k+1=>if 4<k+1/\cl.getD (ordL.getD k 0) 0=0 then hcK cl k else k+1
theorem zl1(g:List Int):∀k,hcK g k<=k
 |0=>nlr _
 |k+1=>by
  have:=zl1 g k;unfold hcK;split<;>omega
theorem zqO(g:List Int):∀k,4<=k->4<=hcK g k
 |0,h=>h
 |k+1,h=>by
  unfold hcK;split
  ·exact zqO g k (by omega)
  ·exact h
def zfH(ss:List Sgn):List Int:=zaD (List.replicate 19 0) (ss.map (·.1))
def zcv(ss:List Sgn):List Int:=zaw (zfH ss) 7
theorem zfh(ss:List Sgn):(zfH ss).length=19:=by unfold zfH;rw[zbz,List.length_replicate]
theorem zl2(ss:List Sgn):∀x∈zfH ss,0<=x/\x<=1+ss.length:=by
 intro x hx;have h0:∀x∈(List.replicate 19 (0:Int)),0<=x/\x<=1:=by
  intro x hx;rw[List.mem_replicate] at hx;omega
 have:=zeu h0 (by omega) x hx;rwa[List.length_map] at this
theorem zku(ss:List Sgn):(zcv ss).length=19:=by unfold zcv;rw[zcu,zfh]
theorem zl3(ss:List Sgn):CodesOK (zcv ss):=zjy (by omega) (by omega) (by rw[zfh];decide) (by rw[zfh];omega)
theorem zqP(ss:List Sgn):∀x∈zcv ss,0<=x/\x<=7:=zqN (by omega) (by rw[zfh];decide)
def zsP(cl:List Int)(n:Nat):List Nat:=(ordL.take n).flatMap fun k=>lsb (cl.getD k 0).toNat 3
def zdV(cl:List Int)(s:Sgn):List Nat:=zcj cl s.1++lsb s.2.1 s.2.2
/-- The bits of the lists of lengths. -/
def zdW(ll dd:List Int):List Nat :=
 lsb (ll.length-257) 5++lsb (dd.length-1) 5++lsb (hcK (zcv (zbn (ll++dd))) 19-4) 4++zsP (zcv (zbn (ll++dd))) (hcK (zcv (zbn (ll++dd))) 19)++(zbn (ll++dd)).flatMap (zdV (zcv (zbn (ll++dd))))
theorem zsQ(g:List Int)(n:Nat):(zsP g n).length<=3*n:=by
 unfold zsP;have:∀l:List Nat,(l.flatMap fun k=>lsb (g.getD k 0).toNat 3).length=3*l.length:=by
  intro l
  induction l with
  |nil=>rfl
  |cons x r ih=>rw[List.flatMap_cons,lla,ih,zaJ,List.length_cons];omega
 rw[this,llt];omega
theorem ownG.wr{w w':World}{g:Nat}{pv q v:Value}{l:List Sgn}(h:ownG w (g+1) v l)(A:WrFr w w' g pv q)(B:Dis pv v):ownG w' (g+1) v l:=by
 have z:∀k,v.ownBlock=some k->w'.heap[k]?=w.heap[k]?:=fun k o=>A.block k (olt h k o).2 (by have:=(olt h k o).1;omega) (fun e=>B k e o)
 refine⟨h.1,?_⟩;rcases h.2 with u | ⟨g,t,r,rfl,s,hg,rest⟩
 ·exact .inl u
 ·exact .inr ⟨g,t,r,rfl,s,(z g rfl).trans hg,rest⟩
theorem zfx(w:World):Calls Tryz.prog 131 #[] w fun e w'=>e=.returned (.slice (some ⟨w.heap.size,0,none⟩) 19 19)/\ownI w' w.heap.size (.slice (some ⟨w.heap.size,0,none⟩) 19 19) (ordL.map fun(x:Nat)=>(x:Int))/\Below w.heap.size w w':=by
 have g:=yo (zh6 w [16,17,18,0,8,7,9,6,10,5,11,4,12,3,13,2,14,1,15] (by decide));go_enter Tryz.func131,Tryz.ntmps131;go_wp2_with fail;go_ret;exact⟨rfl,g.o,(Below.refl _ _).alloc (nlr _) _⟩
end Go.Proofs.YtebbdifhiihfkaaGreatDoor

/- flate: the lists of lengths written. -/
namespace Go.Proofs.YtebbdifhiihfkaaGreatDoor
set_option linter.all false
set_option maxRecDepth 100000
set_option maxHeartbeats 6400000
open Go.RowKit
theorem zqQ{W:World}{g base:Nat}(hg:g=W.heap.size)(o:base<=g):ownI (W.alloc (.cells #[] 3)) base (.slice (some ⟨g,0,none⟩) 0 0) []:=by
 subst hg;exact(zh6 W [] (by simp)).mono o
theorem zik(w:World)(o:Obj):w.heap.size<=(w.alloc o).heap.size:=by simp
theorem zbZ{w w':World}{b i:Nat}{v:Value}{B:Nat}(g:Below B w w')(o:b<B)(h:w.cell? ⟨b,i,none⟩=some v):w'.cell? ⟨b,i,none⟩=some v:=(g.cell (p:=⟨b,i,none⟩) o).trans h
theorem zcY{w:World}{b i:Nat}{v:Value}(h:w.cell? ⟨b,i,none⟩=some v)(o:Obj):(w.alloc o).cell? ⟨b,i,none⟩=some v:=(World.cell?_alloc_lt w o _ (block_lt_of_cell (a:=⟨b,i,none⟩) h)).trans h
theorem zuf{g:List Int}(h:CodesOK g)(o:g.length=19){s:Sgn}(hs:zfw s):(zdV g s).length<=22:=by
 unfold zdV;rw[lla,zaJ];have:=zdG (ls:=g) (p:=s.1) (by rw[o];exact hs.1) h;have:=hs.2.2;omega
theorem znP{g:List Int}(h:CodesOK g)(q:g.length=19):∀ {ss:List Sgn},(∀s∈ss,zfw s)->(ss.flatMap (zdV g)).length<=22*ss.length:=by
 intro ss
 induction ss with
 |nil=>intro _;simp
 |cons t r ih =>
  intro o;have:=ih (fun u z=>o u (by simp[z]));have:=zuf h q (o t (by simp));rw[List.flatMap_cons,lla,List.length_cons];omega
def zeb(cl:List Int)(k:Nat):List Nat:=lsb (cl.getD k 0).toNat 3
theorem zl4(g:List Int)(l:List Nat):(l.flatMap (zeb g)).length=3*l.length:=by
 induction l with
 |nil=>rfl
 |cons x r ih=>rw[List.flatMap_cons,lla,ih];unfold zeb;rw[zaJ,List.length_cons];omega
theorem zvi{g:List Int}{k:Nat}{y:Nat}{x:Int}(h:4<k+1)(hy:ordL[k]?=some y)(hx:g[y]?=some x)(h0:x=0):hcK g (k+1)=hcK g k:=by
 have o:ordL.getD k 0=y:=by rw[lgd,hy];rfl
 have:4<k+1/\g.getD (ordL.getD k 0) 0=0:=⟨h,by rw[o,lgd,hx];exact h0⟩;exact if_pos this
theorem zug{g:List Int}{k:Nat}{y:Nat}{x:Int}(hy:ordL[k]?=some y)(hx:g[y]?=some x)(h0:¬x=0):hcK g (k+1)=k+1:=by
 have o:ordL.getD k 0=y:=by rw[lgd,hy];rfl
 exact if_neg fun h=>h0 (by have:=h.2;rw[o,lgd,hx] at this;exact this)
theorem zqR{g:List Int}{k:Nat}(h:k<=4):hcK g k=k:=by
 cases k with
 |zero=>rfl
 |succ k=>exact if_neg fun e=>by omega
theorem znQ{k y:Nat}(h:ordL[k]?=some y):y<19:=by
 have:∀z∈ordL,z<19:=by decide
 exact this y (List.mem_of_getElem? h)
theorem zqS(B F cl I cd g:Nat)(Al Ad:Option Addr)(u A:List Int)(pv:Value)(bs:List UInt8)(L:List Nat)(w:World)
  (hW:Wr w g pv bs L) (ao:RdI w B Al F u) (br:RdI w B Ad I A) (hB:B<=g) (dr:F<=286) (dl:257<=F) (dm:1<=I) (dc:I<=30)
  (bG:CodesOK u) (bO:CodesOK A) (df:L.length<=900000) :
  Calls Tryz.prog 122 #[wrV g,.agg #[.slice Al F cl,.slice Ad I cd]] w fun e w'=>e=.returned (.tuple #[])/\∃pv' bs',Wr w' g pv' bs' (L++zdW u A)/\WrFr w w' g pv pv':=by
 have Z:=ao.len;have X:=br.len;have d8:=hW.1.lt;obtain⟨w2,H⟩:∃w2,(w.alloc (.cells #[.pointer (some ⟨g,0,none⟩)] 155)).alloc (.cells #[.slice Al F cl,.slice Ad I cd] 152)=w2:=⟨_,rfl⟩;have dD:w.heap.size+2<=w2.heap.size:=by rw[<-H,wsa,wsa];omega
 have az:Hid (Wr w2 g pv bs L):=(show Wr _ _ _ _ _ by rw[<-H];exact(hW.alloc _).alloc _);have bm:Hid (Bx w2 g pv w.heap.size):=(show Bx _ _ _ _ by rw[<-H];exact(Bx.new hW _).alloc _);have bc:Hid (Bx w2 g pv (w.heap.size+1)):=(show Bx _ _ _ _ by rw[<-H];have:=Bx.new (hW.alloc (.cells #[.pointer (some ⟨g,0,none⟩)] 155)) (.cells #[.slice Al F cl,.slice Ad I cd] 152);rwa[wsa] at this);have cs:Hid (Arr w2 w.heap.size [.pointer (some ⟨g,0,none⟩)]):=(show Arr _ _ _ by rw[<-H];exact(Arr.new w [.pointer (some ⟨g,0,none⟩)] 155).alloc _);have aG:Hid (Arr w2 (w.heap.size+1) [.slice Al F cl,.slice Ad I cd]):=(show Arr _ _ _ by rw[<-H];have:=Arr.new (w.alloc (.cells #[.pointer (some ⟨g,0,none⟩)] 155)) [.slice Al F cl,.slice Ad I cd] 152;rwa[wsa] at this);have c5:Hid (WrFr w w2 g pv pv):=(show WrFr _ _ _ _ _ by rw[<-H];exact((WrFr.refl w g pv).alloc _).alloc _);have bC:Hid (RdI w2 B Al F u):=(show RdI _ _ _ _ _ by rw[<-H];exact(ao.alloc (by omega) _).alloc (by rw[wsa];omega) _);have cj:Hid (RdI w2 B Ad I A):=(show RdI _ _ _ _ _ by rw[<-H];exact(br.alloc (by omega) _).alloc (by rw[wsa];omega) _);have s0:=aG.o.cell (k:=0) rfl;have s1:=aG.o.cell (k:=1) rfl;clear hW ao br;go_enter Tryz.func122,Tryz.ntmps122;go_upto_region 1 with(fail);have bk:w2.drew.cell? ⟨w.heap.size+1,0,none⟩=some (.slice Al F cl):=s0;have bh:w2.drew.cell? ⟨w.heap.size+1,1,none⟩=some (.slice Ad I cd):=s1;have af:w.heap.size+1<w2.heap.size:=by omega
 have b9:ownI (w2.drew.alloc (.cells #[] 3)) w2.heap.size (.slice (some ⟨w2.heap.size,0,none⟩) 0 0) []:=zqQ (W:=w2.drew) rfl (nlr _);have bH:Hid (RdI (w2.drew.alloc (.cells #[] 3)) B Al F u):=(show RdI _ _ _ _ _ from RdI.alloc (w:=w2.drew) bC.o (by show B<=w2.heap.size;omega) _);have bV:Below w2.heap.size w2 (w2.drew.alloc (.cells #[] 3)):=((Below.refl w2.heap.size w2).drew).alloc (nlr _) _;have ci:([]:List Int).length+F<=1099511627776:=by simp;omega
 have bP:(([]:List Int)++u).length+I<=1099511627776:=by simp;omega
 have cf:∀x∈u++A,0<=x:=fun x hx=>by
  rw[List.mem_append] at hx;rcases hx with h|h
  ·exact(bG.rng x h).1
  ·exact(bO.rng x h).1
 have bI:=yo cf;have ck:(u++A).length=F+I:=by rw[lla,Z,X]
 clear cf;go_cut [4] (fun v wc=>Hid (ownG wc w2.heap.size v (zbn (u++A)))/\Hid (Below w2.heap.size w2 wc))
 case first =>
  go_region_held3 (fun w'=>w'.cell? ⟨w.heap.size+1,0,none⟩=some (.slice Al F cl)/\w'.cell? ⟨w.heap.size+1,1,none⟩=some (.slice Ad I cd))
   (first|(with_reducible exact⟨s0,s1⟩)|(with_reducible exact⟨bk,bh⟩)|(with_reducible exact⟨zcY bk _,zcY bh _⟩)|(with_reducible exact⟨cB,cG⟩)|(with_reducible exact⟨cT,cW⟩)|(with_reducible exact⟨cz,c4⟩)|go_keep)
   (first
   |(refine ze8 rfl (.tmp 17) (.tmp 19) rfl w2.heap.size (.slice (some ⟨w2.heap.size,0,none⟩) 0 0) [] rfl b9 B F _ _ u rfl bH.o ci (zik _ _) ?_;intro v6 w6 h6 c9 ay bQ;have ag:Below w2.heap.size w2 w6:=Below.trans bV ay;have z6:=ag.size;have cB:=zbZ ag af s0;have cG:=zbZ ag af s1;clear c9 ay bQ)
   |(refine ze8 rfl (.tmp 20) (.tmp 22) rfl w2.heap.size v6 ([]++u) rfl h6 B I _ _ A rfl (RdI.blw cj.o (ag.mono (by omega))) bP z6 ?_;intro v7 w7 h7 bT aa bJ;have aC:Below w2.heap.size w2 w7:=Below.trans ag aa;have z7:=aC.size;have cT:=zbZ aC af s0;have cW:=zbZ aC af s1;clear bT aa bJ;rw[List.nil_append] at h7;obtain⟨A7,c7,rfl,aF,-,-⟩:=h7.form;rw[ck] at aF)
   |(go_at_call 155;(with_reducible refine(zsJ _ _ _ _ _ _ aF (nlr _) (by omega) bI.o).mono ?_);go_must (rintro e w8 ⟨v8,rfl,aq,ac⟩;have bn:Below w2.heap.size w2 w8:=Below.trans aC (ac.mono z7);have cz:=zbZ bn af s0;have c4:=zbZ bn af s1)))
  all_goals
   go_wp2_with fail;go_meet
   case rel=>exact⟨ownG.mono aq z7,bn⟩
 case rest =>
  clear b9 bH bV ci bP bI bk bh ck bC cj;obtain⟨wa,rfl⟩:∃wa:World,wa=wc:=⟨_,rfl⟩;obtain⟨ax,bi⟩:=hcut;have au:=yo (zij (u++A).length (u++A) (fun x hx=>by
   rw[List.mem_append] at hx;rcases hx with h|h
   ·exact bG.rng x h
   ·exact bO.rng x h))
  have cE:(zbn (u++A)).length<=F+I:=by
   have:=zg8 (u++A).length (u++A);have h2:(u++A).length=F+I:=(by rw[lla,Z,X]);rw[<-h2];exact this
  have aD:Hid (zdW u A=lsb (F-257) 5++lsb (I-1) 5++lsb (hcK (zcv (zbn (u++A))) 19-4) 4++(ordL.take (hcK (zcv (zbn (u++A))) 19)).flatMap (zeb (zcv (zbn (u++A))))++(zbn (u++A)).flatMap (zdV (zcv (zbn (u++A))))):=(show _=_ by rw[<-Z,<-X];rfl);have au:Hid (∀s∈zbn (u++A),zfw s):=au;generalize zbn (u++A)=SS at *;obtain⟨AR,cR,rfl,bA,-,-⟩:=ax.o.form;have cn:=yo bA;obtain⟨nS,bD⟩:∃nS,SS.length=nS:=⟨_,rfl⟩;rw[bD] at cE cn ax;simp only[bD];have dF:=bi.o.size;obtain⟨gW,cD⟩:∃gW,wa.heap.size=gW:=⟨_,rfl⟩;clear bA Z X;go_wp2_with (at_make;refine zc4 rfl _ _ rfl 19 _ rfl rfl rfl (by omega) ?_;intro w6 aX ay b6;have C:=yo aX;have D:=yo ay;clear aX ay);rw[cD] at C;have ap:gW<w6.heap.size:=by omega
  go_loopw [28] (fun P wr=>∃k:Nat,k<=nS/\P=.int .i64 k/\Hid (ownI wr gW (.slice (some ⟨gW,0,none⟩) 19 19) (zfH (SS.take k)))/\Hid (Below wa.heap.size wa wr)/\gW<wr.heap.size) (fun P _=>nS-(intOf P).toNat)
  case atStart=>exact⟨0,Nat.zero_le _,rfl,C,D,ap⟩
  case round =>
   clear C D ap b6;obtain⟨k,hk,rfl,C,D,ap⟩:=hrel;by_cases hlt:k<nS
   ·have aM:(k:Int)<(nS:Int):=by omega
    obtain⟨b,o,⟨x,m,y⟩,rfl,hb,HX,e1,e2,e3⟩:=(RdG.later cn.o D.o).one hlt;have S:=au.o _ (List.mem_of_getElem? HX.o);have ba:x<19:=S.1;have aI:=yo (zfh (SS.take k));have cr:=yo (zl2 (SS.take k));have bW:Hid ((SS.take k).length<=400):=(show _<=_ by rw[llt];omega);have cb:Hid (zfH (SS.take (k+1))=zdq (zfH (SS.take k)) x):=(show _=_ by unfold zfH;rw[zgD (fun s:Sgn=>s.1) HX.o,ziJ]);generalize zfH (SS.take k)=la at *;have dg:¬gW=wr.heap.size:=(by omega);have cA:¬b=wr.heap.size:=(by omega);have E:x<la.length:=(by rw[aI.o];omega);have cx:=yo (lge E);have c7:=C.o.cell aI.o.symm E;have f7:=C.o.frozen aI.o.symm x;have aF:=cr.o _ (List.getElem_mem E);generalize la[x]=z at *;have aU:=yo (fun o'=>(C.o.store aI.o.symm x (z+1)).alloc o');rw[<-zgi cx.o,<-cb.o] at aU;have cm:=yo (fun o'=>Below.alloc (D.o.setCell (p:=⟨gW,x,none⟩) (by show wa.heap.size<=gW;omega) (.int .i64 (z+1))) (by have:=D.o.size;simp;omega) o');have cV:0<=z/\z<=500:=(by have:=bW.o;omega);clear C D cr bW S aF cx cb;go_wp2_with fail;go_roundw
    case rel=>exact⟨k+1,by omega,by go_num,aU.o _,cm.o _,by simp;omega⟩
    case measure=>simp[intOf];omega
   ·obtain rfl:nS=k:=by omega
    rw[show SS.take nS=SS from List.take_of_length_le (by omega)] at C;obtain⟨wo,rfl⟩:∃wo:World,wo=wr:=⟨_,rfl⟩;have cC:=D.o.size;have a9:=yo (zig wo.heap.size 19 19 _ (zfH SS) 7 7 rfl wo C.o.rd (nlr _) (by omega) (by omega) (by omega) (by omega) (fun x hx=>by have:=zl2 SS x hx;omega) (by decide));have a7:=yo (zl3 SS);have R:=yo (zku SS);have cq:=yo (zqP SS);have a9:Hid (Calls _ _ _ _ fun e w'=>∃g c',e=.returned (.tuple #[.slice (some ⟨g,0,none⟩) 19 c',.int .i64 0])/\19<=c'/\c'<=maxLen/\wo.heap.size<=g/\ownI w' wo.heap.size (.slice (some ⟨g,0,none⟩) 19 c') (zcv SS)/\Below wo.heap.size wo w'):=a9;generalize zcv SS=CL at *;clear C;go_upto_region 10 with(first
     |(go_at_call 153;(with_reducible refine a9.o.mono ?_);go_must (rintro e w7 ⟨g7,c7,rfl,-,-,bT,a6,aa⟩;have bB:=yo a6;have ch:=yo (D.o.trans (aa.mono cC));have cV:=aa.size;have dk:=(olt a6 g7 rfl).2;have bS:=yo (zih w7.heap.size 19 c7 _ CL w7 a6.rd (nlr _) (by omega) a7.o);clear a6 aa a9))
     |(go_at_call 148;(with_reducible refine bS.o.mono ?_);go_must (rintro e w8 ⟨g8,c8,rfl,dp,aq,ac⟩;have a4:=yo (ownI.later bB.o ac);have bg:=yo (ch.o.trans (ac.mono (by omega)));have bF:=yo (CodeCells.of aq R.o.symm);have dw:=ac.size;have cp:=(olt aq g8 rfl).2;clear aq ac bB ch bS)))
    have r:=yo (Below.refl w8.heap.size w8);go_upto_block 2 with fail;go_cut [12] from 50 to 64 (fun v wc=>v=.int .i64 ((hcK CL 19:Nat):Int)/\Hid (Below w8.heap.size w8 wc))
    case first =>
     go_wp2_with fail;go_loopw [12] (fun P wr=>∃q:Nat,4<=q/\q<=19/\P=.int .i64 q/\Hid (hcK CL q=hcK CL 19)/\Hid (Below w8.heap.size w8 wr)) (fun P _=>(intOf P).toNat)
     case atStart=>exact⟨19,by omega,nlr _,rfl,(show _=_ from rfl),r⟩
     case round =>
      clear r;obtain⟨q,dv,dh,rfl,HQ,r⟩:=hrel;have dC:=yo (fun w=>zfx w);by_cases hq:4<q
      ·have bo:(4:Int)<(q:Int):=by omega
       obtain⟨t,rfl⟩:∃t,q=t+1:=⟨q-1,by omega⟩;have b0:((t+1:Nat):Int)-1=(t:Int):=(by omega);obtain⟨yy,bz⟩:∃y,ordL[t]?=some y:=⟨_,lge (by show t<19;omega)⟩;have a0:=znQ bz;have E:yy<CL.length:=(by rw[R.o];exact a0);have HY:=yo (lge E);have aH:=yo bz;have bt:=ownI.cell (ownI.later a4.o r.o) R.o.symm E;have dn:¬g7=wr.heap.size:=(by have:=r.o.size;omega);obtain⟨v,hv⟩:∃v,CL[yy]=v:=⟨_,rfl⟩;rw[hv] at bt HY;clear bz hv;obtain⟨q,aA⟩:∃q,t+1=q:=⟨_,rfl⟩;have aY:=yo (zfx wr);by_cases hv0:v=0
       ·have d1:(v==0)=true:=by rw[hv0];rfl
        have ae:Hid (hcK CL t=hcK CL 19):=(show _=_ by rw[<-HQ.o];exact(zvi hq aH.o HY.o hv0).symm);rw[aA] at b0 bo;simp only[aA];go_wp2_with (go_at_call 131;(with_reducible refine aY.o.mono ?_);go_must (rintro e w9 ⟨rfl,al,T⟩;have co:=ownI.cell al rfl (k:=t) (by show t<19;omega);have ai:=r.o.trans (T.mono r.o.size);have cQ:=(World.cell?_of_block (a:=⟨g7,yy,none⟩) (T.block g7 (by have:=r.o.size;omega))).trans bt;have bl:=yo ai;have M:(ordL.map fun(x:Nat)=>(x:Int))[t]'(by show t<19;omega)=(yy:Int):=(by rw[List.getElem_map];have:=aH.o;rw[lge (by show t<19;omega)] at this;injection this with this;rw[this]);rw[M] at co;clear al T ai M));go_roundw
        case rel=>exact⟨t,by omega,by omega,rfl,ae,bl⟩
        case measure=>simp[intOf];omega
       ·have d1:(v==0)=false:=bef hv0
        have ae:Hid (t+1=hcK CL 19):=(show _=_ by rw[<-HQ.o];exact(zug aH.o HY.o hv0).symm);rw[aA] at b0 bo ae;simp only[aA];go_wp2_with (go_at_call 131;(with_reducible refine aY.o.mono ?_);go_must (rintro e w9 ⟨rfl,al,T⟩;have co:=ownI.cell al rfl (k:=t) (by show t<19;omega);have ai:=r.o.trans (T.mono r.o.size);have cQ:=(World.cell?_of_block (a:=⟨g7,yy,none⟩) (T.block g7 (by have:=r.o.size;omega))).trans bt;have bl:=yo ai;have M:(ordL.map fun(x:Nat)=>(x:Int))[t]'(by show t<19;omega)=(yy:Int):=(by rw[List.getElem_map];have:=aH.o;rw[lge (by show t<19;omega)] at this;injection this with this;rw[this]);rw[M] at co;clear al T ai M));go_meet
        case rel=>exact⟨by rw[<-ae.o],bl⟩
      ·have bo:¬(4:Int)<(q:Int):=by omega
       have ae:Hid (q=hcK CL 19):=(show _=_ by rw[<-HQ.o,zqR (by omega)]);go_wp2_with fail;go_meet
       case rel=>exact⟨by rw[<-ae.o],r⟩
    case rest =>
     clear r;obtain⟨rfl,r⟩:=hcut;have cM:=zqO CL 19 (by omega);have b3:=zl1 CL 19;obtain⟨N,hN⟩:∃N,hcK CL 19=N:=⟨_,rfl⟩;rw[hN] at cM b3 aD;simp only[hN];clear hN;have d2:=r.o.size;have bw:=yo ((bi.o.trans (bg.o.mono (by omega))).trans (r.o.mono (by omega)));have cu:=az.o.later bw.o;have ab:=WrFr.of (g:=g) (pv:=pv) bw.o;have cN:=yo (c5.o.trans ab);have O:=yo (bm.o.wr ab);have aV:=yo (bc.o.wr ab);have G:=yo (cs.o.wr bm.o ab);have Y:=yo (aG.o.wr bc.o ab);have bR:g+1<=w2.heap.size:=az.o.1.lt;have bM:=yo ((ownI.later a4.o r.o).mono (base':=g+1) (by omega));have aK:Hid (Dis pv (.slice (some ⟨g7,0,none⟩) 19 c7)):=(show Dis _ _ from Dis.new az.o.2.1 (b2:=w2.heap.size) (fun k hk=>by have e:some g7=some k:=hk;injection e with e;omega) (nlr _));have cK:=yo (bF.o.later cp r.o);have ct:=yo (Bx.of az.o (w':=wc) (b:=g8) (by omega) (by omega));have bY:=yo (Dis.new az.o.2.1 (fun k hk=>(olt ax.o k hk).1) (nlr _));have cS:=yo ((ownG.later ax.o ((bg.o).trans (r.o.mono (by omega)))).mono (base':=g+1) bR);have c0:=G.o.cell (k:=0) rfl;have c1:=Y.o.cell (k:=0) rfl;have c2:=Y.o.cell (k:=1) rfl;obtain⟨a1,cL⟩:∃a,F-257=a:=⟨_,rfl⟩;obtain⟨a2,db⟩:∃a,I-1=a:=⟨_,rfl⟩;obtain⟨a3,cJ⟩:∃a,N-4=a:=⟨_,rfl⟩;rw[cL,db,cJ] at aD;have e1:(F:Int)-256-1=(a1:Int):=(by omega);have e2:(I:Int)-1=(a2:Int):=(by omega);have e3:(N:Int)-4=(a3:Int):=(by omega);have ce:=yo (zbX g (a1:Int) 5 a1 5 rfl rfl _ _ _ _ cu (by omega) (by decide) (by show a1<32;omega));clear cu ab bw r bg D bi bm bc cs aG a4 bF ax;go_wp2_with (first
      |(go_at_call 147;(with_reducible refine ce.o.mono ?_);go_must (rintro e d0 ⟨rfl,dE,dy,aN,J⟩;have aW:=yo J;have c0:=(G.o.wr O.o J).cell (k:=0) rfl;have c1:=(Y.o.wr aV.o J).cell (k:=0) rfl;have c2:=(Y.o.wr aV.o J).cell (k:=1) rfl;have bZ:=yo (zbX g (a2:Int) 5 a2 5 rfl rfl _ _ _ _ aN (by rw[lla,zaJ];omega) (by decide) (by show a2<32;omega));clear aN J ce))
      |(go_at_call 147;(with_reducible refine bZ.o.mono ?_);go_must (rintro e d3 ⟨rfl,dq,dt,aZ,aT⟩;have a5:=yo (aW.o.trans aT);have c0:=(G.o.wr O.o a5.o).cell (k:=0) rfl;have bL:=yo (zbX g (a3:Int) 4 a3 4 rfl rfl _ _ _ _ aZ (by rw[lla,lla,zaJ,zaJ];omega) (by decide) (by show a3<16;omega));clear aZ aT bZ aW))
      |(go_at_call 147;(with_reducible refine bL.o.mono ?_);go_must (rintro e ak ⟨rfl,aE,cF,aj,aQ⟩;have aL:=yo (a5.o.trans aQ);have av:=yo aj;have bj:=yo (zfx ak);have bK:=aj.1.lt;clear aj aQ bL a5))
      |(go_at_call 131;(with_reducible refine bj.o.mono ?_);go_must (rintro e b7 ⟨rfl,aS,ar⟩;have bU:=yo (aL.o.trans (WrFr.of ar));have am:=yo (av.o.later ar);have U:=yo (ownI.mono aS (base':=g+1) bK);have V:Hid (Dis aE (.slice (some ⟨ak.heap.size,0,none⟩) 19 19)):=(show Dis _ _ from Dis.new av.o.2.1 (b2:=ak.heap.size) (fun k hk=>by have e:some ak.heap.size=some k:=hk;injection e with e;omega) (nlr _));clear aS ar aL)))
     obtain⟨L3,a8⟩:∃L3,L++lsb a1 5++lsb a2 5++lsb a3 4=L3:=⟨_,rfl⟩;have di:L3.length<=900100:=(by rw[<-a8,lla,lla,lla,zaJ,zaJ,zaJ];omega);rw[a8] at am;obtain⟨go,aw⟩:∃go,ak.heap.size=go:=⟨_,rfl⟩;rw[aw] at U V;simp only[aw];have cX:g<go:=(by omega);clear aw bK av;have aP:Hid (L3++((ordL.take N).take 0).flatMap (zeb CL)=L3):=(show _=_ by simp);have bb:=yo (WrFr.refl b7 g aE);go_loopw [86] (fun P wr=>∃i:Nat,i<=N/\P=.int .i64 i/\∃pq bq,Hid (Wr wr g pq bq (L3++((ordL.take N).take i).flatMap (zeb CL)))/\Hid (WrFr b7 wr g aE pq)) (fun P _=>N-(intOf P).toNat)
     case atStart=>exact⟨0,Nat.zero_le _,rfl,aE,cF,(show Wr _ _ _ _ _ by rw[aP.o];exact am.o),bb⟩
     case round =>
      clear am aP bb;obtain⟨i,hi,rfl,pq,bq,HW,ah⟩:=hrel;have HF:=yo (bU.o.trans ah.o);by_cases hlt:i<N
      ·have aM:(i:Int)<(N:Int):=by omega
       obtain⟨y,hy⟩:∃y,ordL[i]?=some y:=⟨_,lge (by show i<19;omega)⟩;have a0:=znQ hy;have d7:(y:Int)<19:=(by omega);have E:y<CL.length:=(by rw[R.o];exact a0);have co:=ownI.cell (U.o.wr ah.o V.o) rfl (k:=i) (by show i<19;omega);have M:(ordL.map fun(x:Nat)=>(x:Int))[i]'(by show i<19;omega)=(y:Int):=(by rw[List.getElem_map];have:=hy;rw[lge (by show i<19;omega)] at this;injection this with this;rw[this]);rw[M] at co;have cl:=ownI.cell (bM.o.wr HF.o aK.o) R.o.symm E;have hv:=cq.o _ (List.getElem_mem E);obtain⟨t,ht⟩:=Int.eq_ofNat_of_zero_le hv.1;have HT:Hid (zeb CL y=lsb t 3):=(show _=_ by unfold zeb;rw[lgd,lge E];show lsb (CL[y]).toNat 3=_;rw[ht];rfl);rw[ht] at cl hv;have cY:t<8:=(by omega);have bp:Hid (L3++((ordL.take N).take (i+1)).flatMap (zeb CL)=L3++((ordL.take N).take i).flatMap (zeb CL)++lsb t 3):=(show _=_ by rw[zdi (zeb CL) (l:=ordL.take N) (k:=i) (x:=y) (by rw[List.getElem?_take,if_pos hlt];exact hy),HT.o,List.append_assoc]);have ao:(L3++((ordL.take N).take i).flatMap (zeb CL)).length<=900200:=(by rw[lla,zl4,llt,llt];omega);generalize L3++((ordL.take N).take i).flatMap (zeb CL)=LL at *;have c0:=(G.o.wr O.o HF.o).cell (k:=0) rfl;have HP:=yo (zbX g (t:Int) 3 t 3 rfl rfl _ _ _ _ HW.o.drew (by omega) (by decide) cY);have cy:=yo ah.o.drew;clear M hv ht HT hy HW ah HF;go_wp2_with fail
       go_still_tail 5,(by kernel_rfl)
       go_wp2_with (go_at_call 147;(with_reducible refine HP.o.mono ?_);go_must (rintro e d6 ⟨rfl,cI,c6,an,aR⟩;rw[<-bp.o] at an;have bN:=yo an;have cw:=yo (cy.o.trans aR);clear an aR));go_roundw
       case rel=>exact⟨i+1,by omega,by go_num,cI,c6,bN,cw⟩
       case measure=>simp[intOf];omega
      ·obtain rfl:i=N:=by omega
       rw[show(ordL.take i).take i=ordL.take i from by rw[List.take_take,Nat.min_self]] at HW;obtain⟨L4,aJ⟩:∃L4,L3++(ordL.take i).flatMap (zeb CL)=L4:=⟨_,rfl⟩;have de:L4.length<=900200:=(by rw[<-aJ,lla,zl4,llt];omega);rw[aJ] at HW;have b4:Hid (L4++SS.flatMap (zdV CL)=L++zdW u A):=(show _=_ by rw[aD.o,<-aJ,<-a8];simp only[List.append_assoc]);have cU:=yo (fun k=>znP a7.o R.o (ss:=SS.take k) (zsH au.o k));obtain⟨wo,rfl⟩:∃wo:World,wo=wr:=⟨_,rfl⟩;clear aJ a8 aD ah U V bM aK cq;have aO:Hid (L4++(SS.take 0).flatMap (zdV CL)=L4):=(show _=_ by simp);go_wp2_with fail;go_loopw [99] (fun P wr=>∃k:Nat,k<=nS/\P=.int .i64 k/\∃pq bq,Hid (Wr wr g pq bq (L4++(SS.take k).flatMap (zdV CL)))/\Hid (WrFr wc wr g pv pq)) (fun P _=>nS-(intOf P).toNat)
       case atStart=>exact⟨0,Nat.zero_le _,rfl,pq,bq,(show Wr _ _ _ _ _ by rw[aO.o];exact HW.o),HF⟩
       case round =>
        clear HW HF aO;obtain⟨k,hk,rfl,pq,bq,HW,HF⟩:=hrel;by_cases hlt:k<nS
        ·have aM:(k:Int)<(nS:Int):=by omega
         obtain⟨b,o,⟨x,m,y⟩,rfl,hb,HX,e1,e2,e3⟩:=(ownG.wr cS.o HF.o bY.o).rd.one hlt;have S:=au.o _ (List.mem_of_getElem? HX.o);have ba:x<19:=S.1;have hm:m<2 ^ y:=S.2.1;have dx:y<=7:=S.2.2;have cZ:(x:Int)<19:=(by omega);have bu:x<CL.length:=(by rw[R.o];exact ba);have bp:Hid (L4++(SS.take (k+1)).flatMap (zdV CL)=L4++(SS.take k).flatMap (zdV CL)++zcj CL x++lsb m y):=(show _=_ by rw[zdi (zdV CL) HX.o];unfold zdV;simp only[List.append_assoc]);have ao:(L4++(SS.take k).flatMap (zdV CL)).length<=920000:=(by rw[lla];have:=cU.o k;rw[llt] at this;omega);generalize L4++(SS.take k).flatMap (zdV CL)=LL at *;have cA:¬b=wr.heap.size:=(by omega);obtain⟨w5,aB⟩:∃w5,wr.alloc (.cells #[.int .i64 (x:Int),.int .i64 (m:Int),.int .i64 (y:Int)] 202)=w5:=⟨_,rfl⟩;obtain⟨b5,ca⟩:∃b5,wr.heap.size=b5:=⟨_,rfl⟩;have cO:Hid (Wr w5 g pq bq LL):=(show Wr _ _ _ _ _ by rw[<-aB];exact HW.o.alloc _);have bv:Hid (WrFr wc w5 g pv pq):=(show WrFr _ _ _ _ _ by rw[<-aB];exact HF.o.alloc _);have bE:Hid (Arr w5 b5 [.int .i64 (x:Int),.int .i64 (m:Int),.int .i64 (y:Int)]):=(show Arr _ _ _ by rw[<-aB,<-ca];exact Arr.new wr [.int .i64 (x:Int),.int .i64 (m:Int),.int .i64 (y:Int)] _);have b1:Hid (Bx w5 g pq b5):=(show Bx _ _ _ _ by rw[<-aB,<-ca];exact Bx.new HW.o _);have d5:=(G.o.wr O.o bv.o).cell (k:=0) rfl;obtain⟨dA,ds,d4⟩:=bE.o.c3;obtain⟨q1,q2⟩:=cK.o.bx ct.o bv.o x bu;have dj:=zdG bu a7.o;have HC:=yo (zff g CL x bu a7.o _ _ _ _ cO.o.drew (by omega));generalize zaL CL x=cv at *;clear HW HF S;go_wp2_with fail
         go_still_tail 6,(by kernel_rfl)
         go_wp2_with (first
          |(go_at_call 149;(with_reducible refine HC.o.mono ?_);go_must (rintro e w6 ⟨rfl,p6,dB,cc,bd⟩;have b8:=yo (bE.o.drew.wr b1.o.drew bd);have cg:=yo (bv.o.drew.trans bd);have d9:=(G.o.wr O.o cg.o).cell (k:=0) rfl;have du:=b8.o.cell (k:=1) rfl;have dz:=b8.o.cell (k:=2) rfl;have HP:=yo (zbX g (m:Int) (y:Int) m y rfl rfl _ _ _ _ cc (by rw[lla];omega) (by omega) hm);clear cc bd))
          |(go_at_call 147;(with_reducible refine HP.o.mono ?_);go_must (rintro e w7 ⟨rfl,p7,cP,bf,bX⟩;rw[<-bp.o] at bf;have da:=yo bf;have cH:=yo (cg.o.trans bX);clear bf bX)))
         go_roundw
         case rel=>exact⟨k+1,by omega,by go_num,p7,cP,da,cH⟩
         case measure=>simp[intOf];omega
        ·obtain rfl:k=nS:=by omega
         rw[show SS.take k=SS from List.take_of_length_le (by omega),b4.o] at HW;go_wp2_with fail;(try simp only[Exit.inBlock,Exit.then])
         first|(refine bodyPost_ret (results_none rfl _ _ _) rfl ?_)|(refine bodyPost_end (results_none rfl _ _ _) rfl ?_)
         exact⟨rfl,pq,bq,HW.o,cN.o.trans HF.o⟩
end Go.Proofs.YtebbdifhiihfkaaGreatDoor

/- flate: a stored block. -/
namespace Go.Proofs.YtebbdifhiihfkaaGreatDoor
set_option linter.all false
set_option maxRecDepth 100000
set_option maxHeartbeats 3200000
open Go.RowKit
def zcM(bs:List UInt8):List Nat:=bs.flatMap fun x=>lsb x.toNat 8
/-- The bits of a stored block. -/
def zcw(bs:List UInt8):List Nat:=zcf (zbM 0)++lsb bs.length 16++lsb (65535-bs.length) 16++zcM bs
theorem ziZ(bs:List UInt8):(zcM bs).length=8*bs.length:=by
 induction bs with
 |nil=>rfl
 |cons x r ih =>
  unfold zcM at ih ⊢;rw[List.flatMap_cons,lla,zaJ,ih,List.length_cons];omega
theorem zm0{bs:List UInt8}{k:Nat}{x:UInt8}(h:bs[k]?=some x):zcM (bs.take (k+1))=zcM (bs.take k)++lsb x.toNat 8:=by
 obtain⟨g,hx⟩:=List.getElem?_eq_some_iff.1 h;rw[List.take_succ_eq_append_getElem g,hx];simp[zcM]
theorem zi0(bs:List UInt8):(zcw bs).length=40+8*bs.length:=by
 unfold zcw;rw[lla,lla,lla,zeT,zc9,zaJ,zaJ,ziZ]
theorem zqT(B n c:Nat)(A:Option Addr)(bs:List UInt8)(w:World)(h:RdB w B A n bs)(hB:B<=w.heap.size)(hn:n<=40000):
  Calls Tryz.prog 123 #[.slice A n c] w fun e w'=>∃g pv bz,e=.returned (.pointer (some ⟨g,0,none⟩))/\w.heap.size<=g/\Wr w' g pv bz (zcw bs)/\Below w.heap.size w w'/\(∀k,pv.ownBlock=some k->w.heap.size<=k):=by
 have HR:=yo h;have hl:=h.len;have HN:=yo (zg6 0 0 rfl (by decide) w);have I:(zcf (zbM 0)).length=8:=by rw[zeT,zc9]
 have az:(65535:Int)-(n:Int)=((65535-n:Nat):Int):=by omega
 have ai:Hid (zcf (zbM 0)++lsb n 16++lsb (65535-n) 16++zcM (bs.take 0)=zcf (zbM 0)++lsb n 16++lsb (65535-n) 16):=(show _=_ by simp[zcM]);have C:∀k,k<=n->(zcf (zbM 0)++lsb n 16++lsb (65535-n) 16++zcM (bs.take k)).length=40+8*k:=fun k hk=>by
  rw[lla,lla,lla,zaJ,zaJ,ziZ,llt,I,Nat.min_eq_left (by omega)]
 have am:=yo C;have al:Hid (zcf (zbM 0)++lsb n 16++lsb (65535-n) 16++zcM (bs.take n)=zcw bs):=(show _=_ by unfold zcw;rw[<-hl,List.take_length]);clear h C;go_enter Tryz.func123,Tryz.ntmps123;go_wp2_with (first
  |(go_at_call 119;(with_reducible refine HN.o.mono ?_);go_must (rintro e w1 ⟨g,pv,bz,rfl,hg,G,s,O⟩;have ah:=yo O;have H:=yo (Bx.new G (.cells #[Value.pointer (some ⟨g,0,none⟩)] 155));have M:=yo (Arr.new w1 [.pointer (some ⟨g,0,none⟩)] 155);have aq:=yo (s.alloc s.size (.cells #[Value.pointer (some ⟨g,0,none⟩)] 155));have aa:=G.alloc (.cells #[Value.pointer (some ⟨g,0,none⟩)] 155);have P:=yo (zqB g _ _ _ _ aa (by rw[zc9];omega));have ax:=s.size;obtain⟨b3,W⟩:∃b,w1.heap.size=b:=⟨_,rfl⟩;rw[W] at H M;simp only[W];clear G s aa O))
  |(go_at_call 156;(with_reducible refine P.o.mono ?_);go_must (rintro e w2 ⟨rfl,X,u⟩;have T:=yo u;have D:=yo (H.o.wr u);have E:=yo (M.o.wr H.o u);have af:=yo (zbX g (n:Int) 16 n 16 rfl rfl _ _ _ _ X (by rw[I];omega) (by decide) (by omega));have c2:=E.o.cell (k:=0) rfl;clear X u H M P))
  |(go_at_call 147;(with_reducible refine af.o.mono ?_);go_must (rintro e w3 ⟨rfl,a0,ay,ab,z⟩;have ae:=yo (T.o.trans z);have F:=yo (D.o.wr z);have J:=yo (E.o.wr D.o z);have ac:=yo (zbX g ((65535-n:Nat):Int) 16 (65535-n) 16 rfl rfl _ _ _ _ ab (by rw[lla,zaJ,I];omega) (by decide) (by omega));have c3:=J.o.cell (k:=0) rfl;clear ab z D E af T))
  |(go_at_call 147;(with_reducible refine ac.o.mono ?_);go_must (rintro e w4 ⟨rfl,aj,ag,L,r⟩;have N:=yo (ae.o.trans r);have U:=yo (F.o.wr r);have S:=yo (J.o.wr F.o r);rw[<-ai.o] at L;have V:=yo L;clear L r F J ac ae)))
 go_loopw [21] (fun vi wr=>∃k:Nat,k<=n/\vi=.int .i64 k/\∃pq bq,Hid (Wr wr g pq bq (zcf (zbM 0)++lsb n 16++lsb (65535-n) 16++zcM (bs.take k)))/\Hid (WrFr (w1.alloc (.cells #[Value.pointer (some ⟨g,0,none⟩)] 155)) wr g pv pq)/\Hid (Bx wr g pq b3)/\Hid (Arr wr b3 [.pointer (some ⟨g,0,none⟩)])) (fun vi _=>n-(intOf vi).toNat)
 case atStart=>exact⟨0,Nat.zero_le _,rfl,aj,ag,V,N,U,S⟩
 case round =>
  clear V N U S;obtain⟨k,hk,rfl,pq,bq,HW,HF,H,M⟩:=hrel;have Z:Below w.heap.size w wr:=aq.o.trans (HF.o.below (by rw[wsa];omega) hg ah.o);have c3:=M.o.cell (k:=0) rfl;by_cases hlt:k<n
  ·have aw:(k:Int)<(n:Int):=by omega
   obtain⟨b,o,x,rfl,hb,ak,e1⟩:=(HR.o.blw (Z.mono hB)).byte hlt;have HS:=yo (zm0 ak.o);have hx:=x.toNat_lt;have HP:=yo (zbX g (x.toNat:Int) 8 x.toNat 8 rfl rfl _ _ _ _ HW.o (by rw[am.o k hk];omega) (by decide) (by simpa using hx));have Y:Hid (zcf (zbM 0)++lsb n 16++lsb (65535-n) 16++zcM (bs.take k)++lsb x.toNat 8=zcf (zbM 0)++lsb n 16++lsb (65535-n) 16++zcM (bs.take (k+1))):=(show _=_ by rw[HS.o,List.append_assoc,List.append_assoc]);rw[Y.o] at HP;clear HS Y;go_wp2_with (go_at_call 147;(with_reducible refine HP.o.mono ?_);go_must (rintro e w5 ⟨rfl,av,an,R,t⟩;have ar:=yo R;have au:=yo (HF.o.trans t);have ao:=yo (H.o.wr t);have ap:=yo (M.o.wr H.o t);clear R t));go_roundw
   case rel=>exact⟨k+1,by omega,by go_num,av,an,ar,au,ao,ap⟩
   case measure=>simp[intOf];omega
  ·obtain rfl:k=n:=by omega
   go_wp2_with fail;go_ret;refine⟨g,pq,bq,rfl,hg,(by rw[<-al.o];exact HW.o),Z,fun q hq=>?_⟩;have:=(olt HW.o.2.1 q hq).1;omega
end Go.Proofs.YtebbdifhiihfkaaGreatDoor

/- flate: Deflate, plainly; Find of no bytes. -/
namespace Go.Proofs.YtebbdifhiihfkaaGreatDoor
set_option linter.all false
open Go.RowKit
/-- So many bytes do tokens stand for. -/
def zbI(ts:List Tok):Nat:=(ts.map fun t=>max t.1 1).sum
theorem zg9(ts:List Tok)(k:Nat):zbI (ts.take k)<=zbI ts:=by
 have:zbI ts=zbI (ts.take k)+zbI (ts.drop k):=by
  unfold zbI;rw[<-List.sum_append,<-List.map_append,List.take_append_drop]
 omega
theorem zm1(ts:List Tok):ts.length<=zbI ts:=by
 induction ts with
 |nil=>simp
 |cons t r ih =>
  unfold zbI at ih ⊢;rw[List.map_cons,List.sum_cons,List.length_cons];omega
theorem zkv{g o:List Int}(h1:CodesOK g)(h2:CodesOK o):∀ {ts:List Tok},(∀t∈ts,zci t/\zgk g o t)->(ts.flatMap (zbY g o)).length<=16*zbI ts:=by
 intro ts
 induction ts with
 |nil=>intro _;simp
 |cons t r ih =>
  intro h;have q:=ih (fun u z=>h u (by simp[z]));have s:=zua h1 h2 (h t (by simp)).1 (h t (by simp)).2;have h4:=(h t (by simp)).1;unfold zbI at q ⊢;rw[List.flatMap_cons,lla,List.map_cons,List.sum_cons];split at s
  ·omega
  ·have:3<=t.1:=by rcases h4 with⟨e,_⟩ | ⟨e,_⟩;omega;exact e
   omega
theorem zil:fixL.length=288:=by simp[fixL]
theorem zim:fixD.length=32:=by simp[fixD]
theorem zjB:CodesOK fixL:=⟨by rw[zil];omega,by decide +kernel,by decide +kernel⟩
theorem zjC:CodesOK fixD:=⟨by rw[zim];omega,by decide +kernel,by decide +kernel⟩
theorem znR{t:Tok}(h:zci t):∀p∈zc8 t,p<30:=by
 intro p hp;unfold zc8 at hp;split at hp
 ·cases hp
 ·rename_i e
  rw[List.mem_singleton] at hp;obtain⟨o,h4,g,q⟩:3<=t.1/\t.1<=258/\1<=t.2.1/\t.2.1<=32768:=by rcases h with⟨h,_⟩|h;exact absurd h e;exact h
  have:=(zcr g).1;omega
theorem zqU{t:Tok}(h:zci t):zgk fixL fixD t:=⟨by rw[zil];have:=zny h;omega,fun p hp=>by rw[zim];have:=znR h p hp;omega⟩
theorem zin{ls:List Int}{least p:Nat}{x:Int}(hx:ls[p]?=some x)(h0:¬x=0):∀k,p<k->p<zbC ls least k
 |0,h=>absurd h (by omega)
 |k+1,h=>by
  unfold zbC;split
  ·rename_i e
   by_cases hk:p=k
   ·subst hk
    exact absurd (by have:=e.2;rw[lgd,hx] at this;exact this) h0
   ·exact zin hx h0 k (by omega)
  ·exact h
theorem zl5{ws:List Int}{m p:Nat}(g:1<=m)(hq:ws.length<=2 ^ m){x:Int}(hx:ws[p]?=some x)(h0:0<x):∃y,(zaw ws m)[p]?=some y/\¬y=0:=by
 have hp:=(List.getElem?_eq_some_iff.1 hx).1;have:=zlY (ws:=ws) g (by rw[zaH];exact nlt (List.length_filter_le _ _) hq) hp (by rw[zdO hx];exact h0);exact⟨_,zeX ws m hp,by omega⟩
theorem zkw{xs:List Int}{ps:List Nat}{p:Nat}(h0:∀x∈xs,0<=x)(hp:p∈ps)(o:p<xs.length):∃x,(zaD xs ps)[p]?=some x/\0<x:=by
 have g:p<(zaD xs ps).length:=by rw[zbz];exact o
 refine⟨_,lge g,?_⟩;have h1:=zkq xs ps p o;rw[lgd,lge g,lgd,lge o] at h1;have h2:(zaD xs ps)[p]=xs[p]+(ps.count p:Int):=h1;have q:=h0 _ (List.getElem_mem o);have h4:=List.count_pos_iff.2 hp;rw[h2];omega
theorem zqV{ts:List Tok}(h:∀t∈ts,zci t):∀t∈ts,zgk (zcE ts) (zcm ts) t:=by
 intro t ht;refine⟨?_,fun p hp=>?_⟩
 ·rw[zlT]
  have hs:=zny (h t ht);obtain⟨x,hx,h0⟩:=zkw (xs:=(List.replicate 286 (0:Int)).set 256 1) (ps:=ts.map zdr) (p:=zdr t) (fun x hx=>(zly x hx).1) (List.mem_map.2 ⟨t,ht,rfl⟩) (by rw[List.length_set,List.length_replicate];exact hs);obtain⟨y,hy,g⟩:=zl5 (ws:=zce ts) (m:=15) (by omega) (by rw[zdj];decide) hx h0;exact zin hy g 286 hs
 ·have hs:=znR (h t ht) p hp
  obtain⟨x,hx,h0⟩:=zkw (xs:=List.replicate 30 (0:Int)) (ps:=ts.flatMap zc8) (p:=p) (fun x hx=>(znz x hx).1) (List.mem_flatMap.2 ⟨t,ht,hp⟩) (by rw[List.length_replicate];exact hs);obtain⟨y,hy,g⟩:=zl5 (ws:=zbE ts) (m:=15) (by omega) (by rw[zcR];decide) hx h0;have q:=zin (least:=1) hy g 30 hs;unfold zcm;split
  ·rename_i e
   have o:p=0:=(by omega);subst o;exact absurd (by have:=e.1;rw[lgd,hy] at this;exact this) g
  ·rw[zh9,zcu,zcR];exact q
def zeL(ts:List Tok):List Nat:=zbM 1++ziR fixL fixD ts
def zec(ts:List Tok):List Nat:=zbM 2++zdW (zcE ts) (zcm ts)++ziR (zcE ts) (zcm ts) ts
def zfy(bs:List UInt8)(ts:List Tok):List Nat:=if(zeL ts).length<(zcw bs).length then zeL ts else zcw bs
/-- The bits of the one block. -/
def zdl(bs:List UInt8)(ts:List Tok):List Nat:=if(zec ts).length<(zfy bs ts).length then zec ts else zfy bs ts
theorem zqW{g o:List Int}(h1:g.length<=286)(h2:o.length<=30)(q:CodesOK g)(t:CodesOK o):(zdW g o).length<=8000:=by
 have hs:∀s∈zbn (g++o),zfw s:=zij (g++o).length (g++o) (fun x hx=>by
  rw[List.mem_append] at hx;rcases hx with h|h
  ·exact q.rng x h
  ·exact t.rng x h)
 have B:(zbn (g++o)).length<=316:=by
  have:=zg8 (g++o).length (g++o);have r:(g++o).length<=316:=by rw[lla];omega
  exact nlt this r
 have A:=znP (zl3 (zbn (g++o))) (zku _) hs;have z:=zsQ (zcv (zbn (g++o))) (hcK (zcv (zbn (g++o))) 19);have u:=zl1 (zcv (zbn (g++o))) 19;unfold zdW;rw[lla,lla,lla,lla,zaJ,zaJ,zaJ];omega
/-- What Find gives. -/
def zl6(ts:List Tok)(w:World)(e:Ending)(w':World):Prop:=∃A n c,e=.returned (.tuple #[.slice A n c,.int .i64 0])/\n=ts.length/\RdK w' w'.heap.size A n ts/\Below w.heap.size w w'
end Go.Proofs.YtebbdifhiihfkaaGreatDoor

