/- XStab XMem XRowP XSort1 -/
import Derived.Test.YtebbdifhiihfkaaGreatDoorMm01
namespace Go.Proofs.YtebbdifhiihfkaaGreatDoor
set_option linter.all false
section
variable {α : Type} (wt : α → Int)
/-- The same elements of each weight, in the same order. -/
def FEq(l l':List α):Prop:=∀v:Int,l'.filter (fun x=>wt x==v)=l.filter (fun x=>wt x==v)
def Srt(l:List α):Prop:=l.Pairwise (fun x y=>wt x<=wt y)
/-- l' is l, sorted stably. -/
def SS(l l':List α):Prop:=Srt wt l'/\FEq wt l l'
variable {wt}
theorem FEq.refl(l:List α):FEq wt l l:=fun _=>rfl
theorem FEq.trans{a b c:List α}(h:FEq wt a b)(k:FEq wt b c):FEq wt a c:=fun v=>(k v).trans (h v)
theorem FEq.symm{a b:List α}(h:FEq wt a b):FEq wt b a:=fun v=>(h v).symm
theorem FEq.append{a b g o:List α}(h:FEq wt a g)(k:FEq wt b o):FEq wt (a++b) (g++o):=fun v=>by
 rw[List.filter_append,List.filter_append,h v,k v]
theorem FEq.swap{U V:List α}(h:∀x∈U,∀y∈V,wt y<wt x):FEq wt (U++V) (V++U):=fun v=>by
 rw[List.filter_append,List.filter_append];by_cases hU:U.filter (fun x=>wt x==v)=[]
 ·rw[hU,List.append_nil,List.nil_append]
 ·have g:V.filter (fun x=>wt x==v)=[]:=by
   obtain⟨x,hx⟩:=List.exists_mem_of_ne_nil _ hU;rw[List.mem_filter,beq_iff_eq] at hx;rw[List.filter_eq_nil_iff];intro y hy e;rw[beq_iff_eq] at e;have:=h x hx.1 y hy;omega
  rw[g,List.append_nil,List.nil_append]
theorem FEq.mem{a b:List α}(h:FEq wt a b)(x:α):x∈b↔x∈a:=by
 have e:=h (wt x);have h1:∀l:List α,x∈l↔x∈l.filter (fun y=>wt y==wt x):=fun l=>by simp[List.mem_filter]
 rw[h1 a,h1 b,e]
theorem FEq.perm[DecidableEq α]{a b:List α}(h:FEq wt a b):a.Perm b:=by
 rw[List.perm_iff_count];intro x;have h1:∀l:List α,l.count x=(l.filter (fun y=>wt y==wt x)).count x:=fun l=>by rw[List.count_filter (by simp)]
 rw[h1 a,h1 b,h (wt x)]
theorem FEq.length{a b:List α}(h:FEq wt a b):b.length=a.length:=by
 classical
 exact h.perm.length_eq.symm
theorem Srt.uniq{l:List α}:∀ {g:List α},Srt wt l->Srt wt g->FEq wt l g->l=g:=by
 induction l with
 |nil =>
  intro g _ _ h;have:=h.length;exact(List.eq_nil_of_length_eq_zero (by simpa using this)).symm
 |cons x t ih =>
  intro g h1 h2 h;cases g with
  |nil=>have:=h.length;simp at this
  |cons y s =>
   unfold Srt at h1 h2;rw[List.pairwise_cons] at h1 h2;have o:wt x=wt y:=by
    have hx:x∈y :: s:=(h.mem x).2 (by simp);have hy:y∈x :: t:=(h.mem y).1 (by simp);rw[List.mem_cons] at hx hy;rcases hx with rfl|hx
    ·rfl
    rcases hy with rfl|hy
    ·rfl
    have:=h1.1 y hy;have:=h2.1 x hx;omega
   have e:=h (wt x);rw[List.filter_cons_of_pos (by simp[o]),List.filter_cons_of_pos (by simp)] at e;injection e with r q;subst r
   congr 1
   refine ih h1.2 h2.2 (fun v=>?_);by_cases hv:wt y=v
   ·subst hv;exact q
   ·have e:=h v
    rwa[List.filter_cons_of_neg (by simpa using hv),List.filter_cons_of_neg (by simpa using hv)] at e
theorem SS.uniq{l a b:List α}(h:SS wt l a)(k:SS wt l b):a=b:=Srt.uniq h.1 k.1 (h.2.symm.trans k.2)
theorem SS.of{l:List α}(h:Srt wt l):SS wt l l:=⟨h,FEq.refl l⟩
theorem Srt.append{a b:List α}:Srt wt (a++b)↔Srt wt a/\Srt wt b/\∀x∈a,∀y∈b,wt x<=wt y:=List.pairwise_append
theorem Srt.nil_:Srt wt []:=List.Pairwise.nil
/-- Two runs with a gap between them, each sorted. -/
theorem SS.join{U V M N:List α}(h:SS wt U M)(k:SS wt V N)(hg:∀x∈U,∀y∈V,wt x<=wt y):SS wt (U++V) (M++N) :=
 ⟨Srt.append.2 ⟨h.1,k.1,fun x hx y hy=>hg x ((h.2.mem x).1 hx) y ((k.2.mem y).1 hy)⟩,h.2.append k.2⟩
theorem SS.feq{l g m:List α}(h:FEq wt l g)(k:SS wt g m):SS wt l m:=⟨k.1,h.trans k.2⟩
/-- An element set behind all that are no heavier. -/
def zvK(wt:α->Int)(acc:List α)(x:α):List α:=acc.takeWhile (fun y=>decide (wt y<=wt x))++x :: acc.dropWhile (fun y=>decide (wt y<=wt x))
def zam(wt:α->Int)(l:List α):List α:=l.foldl (zvK wt) []
theorem Srt.drop_gt{l:List α}{v:Int}(h:Srt wt l):∀y∈l.dropWhile (fun y=>decide (wt y<=v)),v<wt y:=by
 induction l with
 |nil=>simp
 |cons x t ih =>
  unfold Srt at h;rw[List.pairwise_cons] at h;rw[List.dropWhile_cons];split
  ·exact ih h.2
  ·rename_i hx
   intro y hy;rw[List.mem_cons] at hy;have g:v<wt x:=(by simpa using hx);rcases hy with rfl|hy
   ·exact g
   ·have:=h.1 y hy;omega
theorem zls{l:List α}{v:Int}:∀y∈l.takeWhile (fun y=>decide (wt y<=v)),wt y<=v:=by
 induction l with
 |nil=>simp
 |cons x t ih =>
  intro y hy;rw[List.takeWhile_cons] at hy;split at hy
  ·rename_i hx
   rw[List.mem_cons] at hy;rcases hy with rfl|hy
   ·simpa using hx
   ·exact ih y hy
  ·cases hy
theorem SS.insert{l m:List α}(h:SS wt l m){a b:List α}(r:m=a++b)(x:α)(q:∀y∈a,wt y<=wt x)(g:∀y∈b,wt x<wt y):SS wt (l++[x]) (a++x :: b):=by
 subst r;obtain⟨h1,h2,o⟩:=Srt.append.1 h.1;refine⟨Srt.append.2 ⟨h1,?_,?_⟩,?_⟩
 ·unfold Srt
  rw[List.pairwise_cons];exact⟨fun y hy=>by have:=g y hy;omega,h2⟩
 ·intro y hy z hz
  rw[List.mem_cons] at hz;rcases hz with rfl|hz
  ·exact q y hy
  ·exact o y hy z hz
 ·have s:FEq wt (l++[x]) ((a++b)++[x]):=h.2.append (FEq.refl _)
  refine s.trans ?_;rw[List.append_assoc];refine(FEq.refl a).append ?_;exact FEq.swap (fun y hy z hz=>by
   have:z=x:=by simpa using hz
   subst this;exact g y hy)
theorem zaR(l:List α):SS wt l (zam wt l):=by
 induction l using zf5 with
 |h0=>exact SS.of Srt.nil_
 |h1 l x ih =>
  unfold zam at ih ⊢;rw[List.foldl_append];exact ih.insert (List.takeWhile_append_dropWhile).symm x zls (Srt.drop_gt ih.1)
theorem SS.eq_stab{l m:List α}(h:SS wt l m):m=zam wt l:=h.uniq (zaR l)
theorem zgO{l a b:List α}{x:α}(o:zam wt l=a++b)(q:∀y∈a,wt y<=wt x)(g:∀y∈b,wt x<wt y):zam wt (l++[x])=a++x :: b :=
 ((zaR l).insert o x q g).eq_stab.symm
end
end Go.Proofs.YtebbdifhiihfkaaGreatDoor

/- Items and packages, plainly: a tree each. -/
namespace Go.Proofs.YtebbdifhiihfkaaGreatDoor
set_option linter.all false
open Go.RowKit
inductive Mem where
 |leaf (w:Int) (p:Nat)
 |node (l r:Mem)
instance:Inhabited Mem:=⟨.leaf 0 0⟩
/-- How heavy. -/
def Mem.w:Mem->Int
 | .leaf x _=>x
 | .node l r=>l.w+r.w
/-- Which items, in their order. -/
def Mem.items:Mem->List Nat
 | .leaf _ p=>[p]
 | .node l r=>l.items++r.items
/-- A member and where it stands. -/
abbrev MP:=Nat×Mem
/-- Block a holds t; every block of it is in S. -/
def isM(w:World)(S:Nat->Prop):Nat->Mem->Prop
 |a,.leaf x p=>S a/\w.cell? ⟨a,0,none⟩=some (.int .i64 x)/\w.cell? ⟨a,1,none⟩=some (.int .i64 p)/\w.cell? ⟨a,2,none⟩=some (.slice none 0 0)
 |a,.node l r=>S a/\w.cell? ⟨a,0,none⟩=some (.int .i64 (l.w+r.w))/\w.cell? ⟨a,1,none⟩=some (.int .i64 0) /\
   ∃g o c x y,w.cell? ⟨a,2,none⟩=some (.slice (some ⟨g,o,none⟩) 2 c)/\S g/\2<=c/\c<=maxLen/\w.cell? ⟨g,o,none⟩=some (.pointer (some ⟨x,0,none⟩))/\w.cell? ⟨g,o+1,none⟩=some (.pointer (some ⟨y,0,none⟩))/\isM w S x l/\isM w S y r
theorem isM.keep{w w':World}{S S':Nat->Prop}(q:∀p:Addr,S p.block->w'.cell? p=w.cell? p)(z:∀b,S b->S' b):∀ {t:Mem}{a:Nat},isM w S a t->isM w' S' a t:=by
 intro t
 induction t with
 |leaf x p =>
  intro a h;obtain⟨h0,h1,h2,u⟩:=h;exact⟨z _ h0,(q ⟨a,0,none⟩ h0).trans h1,(q ⟨a,1,none⟩ h0).trans h2,(q ⟨a,2,none⟩ h0).trans u⟩
 |node l r ihl ihr =>
  intro a h;obtain⟨h0,h1,h2,g,o,c,x,y,u,h4,C,B,A,D,h9,s⟩:=h;exact⟨z _ h0,(q ⟨a,0,none⟩ h0).trans h1,(q ⟨a,1,none⟩ h0).trans h2,g,o,c,x,y,(q ⟨a,2,none⟩ h0).trans u,z _ h4,C,B,(q ⟨g,o,none⟩ h4).trans A,(q ⟨g,o+1,none⟩ h4).trans D,ihl h9,ihr s⟩
theorem isM.root{w:World}{S:Nat->Prop}{t:Mem}{a:Nat}(h:isM w S a t):S a:=by
 cases t with
 |leaf x p=>exact h.1
 |node l r=>exact h.1
theorem isM.weight{w:World}{S:Nat->Prop}{t:Mem}{a:Nat}(h:isM w S a t):w.cell? ⟨a,0,none⟩=some (.int .i64 t.w):=by
 cases t with
 |leaf x p=>exact h.2.1
 |node l r=>exact h.2.1
/-- The blocks from lo on, but for v's own. -/
def Out(lo:Nat)(w:World)(v:Value):Nat->Prop:=fun b=>lo<=b/\b<w.heap.size/\v.ownBlock≠some b
/-- The blocks from lo on, below hi. -/
def Rng(lo hi:Nat):Nat->Prop:=fun b=>lo<=b/\b<hi
theorem isM.alloc{lo:Nat}{w:World}{v:Value}{a:Nat}{t:Mem}(h:isM w (Out lo w v) a t)(o:Obj):isM (w.alloc o) (Out lo (w.alloc o) v) a t :=
 h.keep (fun p hp=>World.cell?_alloc_lt w o p hp.2.1) (fun b g=>⟨g.1,by have:=g.2.1;simp;omega,g.2.2⟩)
theorem isM.drewO{lo:Nat}{w:World}{v:Value}{a:Nat}{t:Mem}(h:isM w (Out lo w v) a t)(k:Nat):isM (w.drewN k) (Out lo (w.drewN k) v) a t:=isM.keep (w:=w) (w':=w.drewN k) (S:=Out lo w v) (S':=Out lo (w.drewN k) v) (fun _ _=>rfl) (fun _ g=>g) h
theorem isM.app{lo:Nat}{w w':World}{v v':Value}{a:Nat}{t:Mem}(h:isM w (Out lo w v) a t)(hg:w.grownBy w' v.ownBlock)(hv:v'.ownBlock=v.ownBlock\/v'.ownBlock=some w.heap.size):isM w' (Out lo w' v') a t :=
 h.keep (fun p hp=>World.cell?_of_block (hg.block p.block hp.2.1 (fun e=>hp.2.2 e.symm))) (fun b g=>⟨g.1,by have:=g.2.1;have:=hg.size;omega,by
  rcases hv with e|e
  ·rw[e];exact g.2.2
  ·rw[e];intro o;injection o with o;have:=g.2.1;omega⟩)
theorem isM.rng{lo:Nat}{w:World}{v:Value}{a:Nat}{t:Mem}(h:isM w (Out lo w v) a t):isM w (Rng lo w.heap.size) a t:=h.keep (fun _ _=>rfl) (fun b g=>⟨g.1,g.2.1⟩)
theorem isM.blw{w w':World}{lo hi B:Nat}{t:Mem}{a:Nat}(h:isM w (Rng lo hi) a t)(g:Below B w w')(o:hi<=B):isM w' (Rng lo hi) a t:=h.keep (fun p hp=>g.cell (by have:=hp.2;omega)) (fun _ h=>h)
theorem isM.more{w:World}{lo o hi g:Nat}{t:Mem}{a:Nat}(h:isM w (Rng lo hi) a t)(h1:o<=lo)(h2:hi<=g):isM w (Rng o g) a t:=h.keep (fun _ _=>rfl) (fun b q=>⟨by have:=q.1;omega,by have:=q.2;omega⟩)
/-- The items of weights, with their places. -/
def zah(ws:List Int):List Mem:=ws.zipIdx.filterMap fun x=>if 0<x.1 then some (.leaf x.1 x.2) else none
theorem zei(ws:List Int)(x:Int):zah (ws++[x])=zah ws++if 0<x then[.leaf x ws.length] else[]:=by
 unfold zah;rw[List.zipIdx_append,List.filterMap_append];by_cases h:0<x
 ·simp[h]
 ·simp[h]
/-- What is packed two by two. -/
def zbj:List Mem->List Mem
 |a :: b :: r=>.node a b :: zbj r
 |_=>[]
/-- Two lists as one, the first one's ahead of the second's as heavy. -/
def zaN{α:Type}(wt:α->Int):List α->List α->List α
 | [],b=>b
 |a :: r,[]=>a :: r
 |a :: r,b :: s=>if wt b<wt a then b :: zaN wt (a :: r) s else a :: zaN wt r (b :: s)
termination_by a b=>a.length+b.length
/-- So many rounds. -/
def pmL(first:List Mem):Nat->List Mem
 |0=>first
 |k+1=>zaN Mem.w first (zbj (pmL first k))
def zdq(xs:List Int)(p:Nat):List Int:=xs.set p (xs.getD p 0+1)
def zaD(xs:List Int)(ps:List Nat):List Int:=ps.foldl zdq xs
/-- The lengths that weights have. -/
def zaw(ws:List Int)(m:Nat):List Int :=
 if(zah ws).length=1 then zaD (List.replicate ws.length 0) ((zah ws).flatMap Mem.items)
 else zaD (List.replicate ws.length 0) (((pmL (zam Mem.w (zah ws)) (m-1)).take (2*(zah ws).length-2)).flatMap Mem.items)
def zcD(ws:List Int):Nat:=(ws.filter fun x=>decide (0<x)).length
def zeE(ws:List Int):Bool:=ws.any fun x=>decide (x<0) ||decide (1073741824<x)
/-- May weights not be? -/
def zb2(ws:List Int)(most:Int):Bool:=decide (ws.length<1) ||decide (300<ws.length) ||decide (most<1) ||decide (15<most) ||zeE ws ||decide (2 ^ most.toNat<zcD ws)
theorem zaH(ws:List Int):(zah ws).length=zcD ws:=by
 induction ws using zf5 with
 |h0=>rfl
 |h1 l x ih =>
  rw[zei,lla,ih];unfold zcD;rw[List.filter_append,lla];by_cases h:0<x<;>simp[h]
end Go.Proofs.YtebbdifhiihfkaaGreatDoor

/- Rows of *huff.member: one cell an element. -/
namespace Go.Proofs.YtebbdifhiihfkaaGreatDoor
set_option linter.all false
set_option maxRecDepth 100000
open Go.RowKit
/-- The cells of a list. -/
def cP(l:List MP):List Value:=l.map fun x=>Value.pointer (some ⟨x.1,0,none⟩)
theorem zp0(l:List MP):(cP l).length=l.length:=by simp[cP]
theorem zp1(a b:List MP):cP (a++b)=cP a++cP b:=by simp[cP]
theorem zp2{l:List MP}{k:Nat}(h:k<l.length):(cP l)[k]?=some ((fun x:MP=>Value.pointer (some ⟨x.1,0,none⟩)) l[k]):=by simp[cP,h]
theorem zu6(l:List MP):∀u∈cP l,u.oneCell'=true:=by
 intro u g;simp only[cP,List.mem_map] at g;obtain⟨b,_,rfl⟩:=g;rfl
theorem Tryz.info_P:(Tryz.prog.info? 228).map (fun i=>(i.zero,i.size,i.bytes))=some (some (Value.pointer none),1,8):=by kernel_rfl
def ownP(w:World)(base:Nat)(v:Value)(l:List MP):Prop:=w.ownsRow base 228 1 v l.length (cP l)
def RdP(w:World)(B:Nat)(A:Option Addr)(n:Nat)(l:List MP):Prop:=Rd w B 1 A n (cP l)
theorem RdP.len{w:World}{B n:Nat}{A:Option Addr}{l:List MP}(h:RdP w B A n l):l.length=n:=by
 have:=h.1;rw[zp0] at this;omega
theorem RdP.at_{w:World}{B n:Nat}{A:Option Addr}{l:List MP}(h:RdP w B A n l)(q:0<n):
  ∃b o,A=some ⟨b,o,none⟩/\b<B/\∀j (g:j<l.length),w.cell? ⟨b,o+j,none⟩=some ((fun x:MP=>Value.pointer (some ⟨x.1,0,none⟩)) l[j]):=by
 obtain⟨b,o,e,s,r⟩:=h.2 q;exact⟨b,o,e,s,fun j g=>r j _ (zp2 g)⟩
theorem RdP.one{w:World}{B n:Nat}{A:Option Addr}{l:List MP}(h:RdP w B A n l){k:Nat}(r:k<n):
  ∃b o x,A=some ⟨b,o,none⟩/\b<B/\Hid (l[k]?=some x)/\w.cell? ⟨b,o+k,none⟩=some (Value.pointer (some ⟨x.1,0,none⟩)):=by
 obtain⟨b,o,e,q,g⟩:=h.at_ (by omega);have s:=h.len;exact⟨b,o,l[k],e,q,lge (by omega),g k (by omega)⟩
theorem RdP.blw{w w':World}{B n:Nat}{A:Option Addr}{l:List MP}(h:RdP w B A n l)(g:Below B w w'):RdP w' B A n l:=Rd.below h g
theorem RdP.more{w:World}{B g n:Nat}{A:Option Addr}{l:List MP}(h:RdP w B A n l)(o:B<=g):RdP w g A n l:=Rd.more h o
theorem RdP.nil_{w:World}{B:Nat}{A:Option Addr}:RdP w B A 0 []:=⟨by simp[cP],fun h=>absurd h (by omega)⟩
theorem RdP.cut{w:World}{B n:Nat}{A:Option Addr}{l:List MP}(h:RdP w B A n l){k m:Nat}(g:k+m<=n){A':Option Addr}(o:0<m->A'=A.map (·.add k)):
  RdP w B A' m ((l.drop k).take m):=by
 have:=Rd.cut h g (A':=A') (by simpa using o);unfold RdP
 simpa [cP,List.map_drop,List.map_take] using this
theorem ownP.nil_(w:World)(base:Nat):ownP w base (.slice none 0 0) []:=World.ownsRow_nil _ _ _ _
theorem ownP.alloc{w:World}{base:Nat}{v:Value}{l:List MP}(h:ownP w base v l)(o:Obj):ownP (w.alloc o) base v l:=World.ownsRow.alloc h o
theorem ownP.drew{w:World}{base:Nat}{v:Value}{l:List MP}(h:ownP w base v l):ownP w.drew base v l:=h
theorem ownP.drewN{w:World}{base:Nat}{v:Value}{l:List MP}(h:ownP w base v l)(n:Nat):ownP (w.drewN n) base v l:=h
theorem ownP.form{w:World}{base:Nat}{v:Value}{l:List MP}(h:ownP w base v l):
  ∃A c,v=.slice A l.length c/\RdP w w.heap.size A l.length l/\l.length<=c/\c<=maxLen:=by
 rcases h.2 with⟨rfl,h0⟩ | ⟨g,q,o,rfl,_,_,h1,h2,_⟩
 ·have:l=[]:=List.eq_nil_of_length_eq_zero h0
  subst this;exact⟨none,0,rfl,Rd.none_,by simp,by simp⟩
 ·exact⟨_,_,rfl,Rd.of_own h,h1,h2⟩
theorem ownP.pos{w:World}{base n c:Nat}{A:Option Addr}{l:List MP}(h:ownP w base (.slice A n c) l)(t:0<n):n=l.length/\∃g,A=some ⟨g,0,none⟩/\base<=g/\g<w.heap.size:=by
 rcases h.2 with⟨o,_⟩ | ⟨g,r,q,o,s,hg,_⟩
 ·injection o with _ h2;omega
 ·injection o with h1 h2
  exact⟨h2,g,h1,s,(olt h g (by rw[h1];rfl)).2⟩
theorem ownP.cell{w:World}{base g n c:Nat}{l:List MP}(h:ownP w base (.slice (some ⟨g,0,none⟩) n c) l)(q:n=l.length){k:Nat}(o:k<l.length):
  w.cell? ⟨g,k,none⟩=some ((fun x:MP=>Value.pointer (some ⟨x.1,0,none⟩)) l[k]):=by
 subst q;rw[World.ownsRow.cellAt h k (by omega),zp2 o]
theorem ownP.frozen{w:World}{base g n c:Nat}{l:List MP}(h:ownP w base (.slice (some ⟨g,0,none⟩) n c) l)(o:n=l.length)(k:Nat):
  w.frozen? ⟨g,k,none⟩=false:=by
 subst o;exact World.ownsRow.frozenAt h k
theorem ownP.store{w:World}{base g n c:Nat}{l:List MP}(h:ownP w base (.slice (some ⟨g,0,none⟩) n c) l)(o:n=l.length)(k:Nat)(x:MP):
  ownP (w.setCell ⟨g,k,none⟩ (Value.pointer (some ⟨x.1,0,none⟩))) base (.slice (some ⟨g,0,none⟩) n c) (l.set k x):=by
 subst o;have:=(World.ownsRow.stored h k (Value.pointer (some ⟨x.1,0,none⟩))).1;unfold ownP;rw[List.length_set];have e:cP (l.set k x)=(cP l).set k (Value.pointer (some ⟨x.1,0,none⟩)):=by simp[cP,List.map_set]
 rwa[e]
theorem ownP.rd{w:World}{base n c:Nat}{A:Option Addr}{l:List MP}(h:ownP w base (.slice A n c) l):RdP w w.heap.size A n l:=by
 obtain⟨s,c4,q,g,_,_⟩:=h.form;injection q with r o t;rw[r,o];exact g
theorem ztP(w:World)(t:TypeId)(fr:Nat×Nat)(l:List MP):RdP (w.alloc (.cells (cP l).toArray t fr)) (w.heap.size+1) (some ⟨w.heap.size,0,none⟩) l.length l:=by
 refine⟨by simp[cP],fun _=>⟨_,_,rfl,by omega,fun j u g=>?_⟩⟩;rw[Nat.zero_add];have:=cell_of_row (w.alloc (.cells (cP l).toArray t fr)) w.heap.size j (cP l).toArray t fr (heap_alloc_new w _);rw[this]
 simpa using g
theorem zfS(w:World)(x:MP):RdP (w.alloc (.cells #[Value.pointer (some ⟨x.1,0,none⟩)] 228)) (w.heap.size+1) (some ⟨w.heap.size,0,none⟩) 1 [x]:=ztP w 228 (0,0) [x]
theorem zhQ(w:World)(base:Nat)(H:TypeId)(v:Value)(l:List MP)(r:ownP w base v l)(B m c:Nat)(A:Option Addr)(q:List MP)(hr:RdP w B A m q)
  (T:l.length+m<=1099511627776) (t:base<=w.heap.size) :
  ∃v' w',(Builtin.append_ #[224,224] H #[v,.slice A m c]).run Tryz.prog w=.ok v' w'/\ownP w' base v' (l++q)/\w.grownBy w' v.ownBlock /\
   (v'.ownBlock=v.ownBlock\/v'.ownBlock=some w.heap.size)/\(v'=.slice none 0 0↔v=.slice none 0 0/\m=0):=by
 obtain⟨O,hi,E,F,D⟩:=info_parts Tryz.info_P;have J:=hr.len;subst J;unfold ownP;rw[lla,zp1];rcases A with _|ad
 ·have G:q=[]:=by
   rcases Nat.eq_zero_or_pos q.length with h0|h0
   ·exact List.eq_nil_of_length_eq_zero h0
   ·obtain⟨b,o,h,_⟩:=hr.2 h0
    cases h
  subst G;refine⟨v,w,?_,by simpa [cP,ownP] using r,World.grownBy.refl w _,.inl rfl,by simp⟩;rcases r.2 with⟨rfl,h0⟩ | ⟨g,N,R,rfl,_,_,C,_⟩
  ·simp[Builtin.append_,run_underlying Tryz.underlying224,sizeOf,typeInfo,hi,Builtin.lenOf,Builtin.firstCells]
  ·simp[Builtin.append_,run_underlying Tryz.underlying224,sizeOf,typeInfo,hi,Builtin.lenOf,Builtin.firstCells,C,storeCells]
 ·have s:∀j u,(cP q)[j]?=some u->w.cell? (ad.add j)=some u:=by
   intro j u I;rcases Nat.eq_zero_or_pos q.length with h0|h0
   ·have G:q=[]:=List.eq_nil_of_length_eq_zero h0
    subst G;simp[cP] at I
   ·obtain⟨b,o,h,_,S⟩:=hr.2 h0
    injection h with h;subst h;rw[zaS];exact S j u I
  obtain⟨v',w',z,h2,M,h4,L⟩:=run_append_own_at (P:=Tryz.prog) w base 224 H 228 O _ 1 8 Tryz.underlying224 hi E F D rfl (by omega) v l.length (cP l) r ad q.length c (cP q) (by simp[cP]) s (zu6 _) (by unfold maxLen;omega) (by omega) t;exact⟨v',w',z,h2,M,L,h4⟩
/-- append(v, x...): v the call's own, x whatever. -/
theorem zd5{w:World}{ops:Array Oper}{rest:List Oper}{o:Oper}{a:Act}{Q:Exit->Act->World->Prop}(u:o.guard=none)(s x:Operand)
  (E:o.op=.call { callee:=.builtin .append,args:=#[s,x],argTypes:=#[224,224] })
  (base:Nat) (v:Value) (l:List MP) (hs:a.eval s=v) (r:ownP w base v l) (B m c:Nat) (A:Option Addr) (q:List MP) (hx:a.eval x=.slice A m c) (hr:RdP w B A m q)
  (F:l.length+m<=1099511627776) (g:base<=w.heap.size)
  (h:∀v' w',ownP w' base v' (l++q)->w.grownBy w' v.ownBlock->Below base w w'->(v'.ownBlock=v.ownBlock\/v'.ownBlock=some w.heap.size)->wpList Tryz.prog ops Q rest (a.put o.dst v') w') :
  wpList Tryz.prog ops Q (o :: rest) a w:=by
 refine wpList_plain u fun K D=>?_
 obtain⟨v',w',t,h2,z,h4,_⟩:=zhQ w base o.type v l r B m c A q hr F g;unfold Oper.wp execOp;simp only[E,resolve,invoke,builtin,Sem.run_bind,Sem.run_pure,Result.andThen_ok,List.map_toArray,List.map_cons,List.map_nil,hs,hx,t];exact D _ _ (h v' w' h2 z ((Below.refl _ _).grown z g (fun k C=>(olt r k C).1)) h4)
/-- append of bytes as a step of a region that draws its order. -/
theorem zc5{w:World}{ops:Array Oper}{o:Oper}{a:Act}{K:Act->World->Prop}{Q:Exit->Act->World->Prop}{E:Prop}(u:o.guard=none)(s x:Operand)
  (F:o.op=.call { callee:=.builtin .append,args:=#[s,x],argTypes:=#[224,224] })
  (base:Nat) (v:Value) (bs:List MP) (hs:a.eval s=v) (r:ownP w base v bs) (B m c:Nat) (A:Option Addr) (q:List MP) (hx:a.eval x=.slice A m c) (hr:RdP w B A m q)
  (G:bs.length+m<=1099511627776) (g:base<=w.heap.size)
  (h:∀v' w',ownP w' base v' (bs++q)->w.grownBy w' v.ownBlock->Below base w w'->(v'.ownBlock=v.ownBlock\/v'.ownBlock=some w.heap.size)->K (a.put o.dst v') w') :
  if Region.wanted o (yielded ops a.tmps)=true then Oper.wp Tryz.prog o a w K Q else E:=by
 have D:Region.wanted o (yielded ops a.tmps)=true:=by simp[Region.wanted,u]
 rw[if_pos D];obtain⟨v',w',t,h2,z,h4,_⟩:=zhQ w base o.type v bs r B m c A q hr G g;unfold Oper.wp execOp;simp only[F,resolve,invoke,builtin,Sem.run_bind,Sem.run_pure,Result.andThen_ok,List.map_toArray,List.map_cons,List.map_nil,hs,hx,t];exact h v' w' h2 z ((Below.refl _ _).grown z g (fun k C=>(olt r k C).1)) h4
end Go.Proofs.YtebbdifhiihfkaaGreatDoor

/- slices.SortStableFunc over rows of members: what its functions tell, first the exchange. -/
namespace Go.Proofs.YtebbdifhiihfkaaGreatDoor
set_option linter.all false
set_option maxRecDepth 100000
set_option maxHeartbeats 1600000
open Go.RowKit
/-- In W the row in block g holds d; all else is as in w0, but for draws. -/
structure SortW(w0:World)(base g n c:Nat)(d:List MP)(W:World):Prop where
 own:ownP W base (.slice (some ⟨g,0,none⟩) n c) d
 len:n=d.length
 gro:w0.grownBy W (some g)
 wts:∀x∈d,x.1≠g/\W.cell? ⟨x.1,0,none⟩=some (.int .i64 x.2.w)
section
variable {w0 W : World} {base g n c : Nat} {d L1 L2 L3 : List MP} {x y : MP}
theorem SortW.drewN(h:SortW w0 base g n c d W)(k:Nat):SortW w0 base g n c d (W.drewN k) :=
 ⟨h.own.drewN k,h.len,⟨h.gro.os,h.gro.tape,h.gro.output,h.gro.size,h.gro.block⟩,h.wts⟩
theorem SortW.drew(h:SortW w0 base g n c d W):SortW w0 base g n c d W.drew:=h.drewN 1
theorem SortW.same{d':List MP}(h:SortW w0 base g n c d W)(e:d=d'):SortW w0 base g n c d' W:=e ▸ h
theorem SortW.at_(h:SortW w0 base g n c (L1++x :: L2) W):W.cell? ⟨g,L1.length,none⟩=some (.pointer (some ⟨x.1,0,none⟩)):=by
 have:=h.own.cell h.len (k:=L1.length) (by simp)
 simpa using this
theorem SortW.fr(h:SortW w0 base g n c d W)(k:Nat):W.frozen? ⟨g,k,none⟩=false:=h.own.frozen h.len k
theorem SortW.wt(h:SortW w0 base g n c d W)(hx:x∈d):W.cell? ⟨x.1,0,none⟩=some (.int .i64 x.2.w):=(h.wts x hx).2
theorem zgC{w w':World}{g k:Nat}(h:w.grownBy w' (some g))(u:Value):w.grownBy (w'.setCell ⟨g,k,none⟩ u) (some g) :=
 ⟨h.os,h.tape,h.output,by have:=h.size;simpa [World.setCell] using this,fun i hi o=>by
  rw[Below.heap_setCell _ _ _ _ (fun e=>o (congrArg some e))];exact h.block i hi o⟩
theorem SortW.put(h:SortW w0 base g n c (L1++x :: L2) W)(y:MP)(hy:y.1≠g/\W.cell? ⟨y.1,0,none⟩=some (.int .i64 y.2.w)):
  SortW w0 base g n c (L1++y :: L2) (W.setCell ⟨g,L1.length,none⟩ (.pointer (some ⟨y.1,0,none⟩))):=by
 have h1:=h.own.store h.len L1.length y;rw[List.set_append_right _ _ (nlr _),Nat.sub_self,List.set_cons_zero] at h1;refine⟨h1,by have:=h.len;simpa using this,zgC h.gro _,fun z hz=>?_⟩;have o:z=y\/z∈L1++x :: L2:=by simp at hz ⊢;rcases hz with h|h|h<;>simp[h]
 have q:z.1≠g/\W.cell? ⟨z.1,0,none⟩=some (.int .i64 z.2.w):=by
  rcases o with rfl|o
  ·exact hy
  ·exact h.wts z o
 refine⟨q.1,?_⟩;rw[World.cell?_setCell_other _ _ _ _ (by intro e;injection e with r s;exact q.1 r.symm)];exact q.2
theorem SortW.swp(h:SortW w0 base g n c (L1++x :: (L2++y :: L3)) W):
  SortW w0 base g n c (L1++y :: (L2++x :: L3)) ((W.setCell ⟨g,L1.length,none⟩ (.pointer (some ⟨y.1,0,none⟩))).setCell ⟨g,L1.length+1+L2.length,none⟩ (.pointer (some ⟨x.1,0,none⟩))):=by
 have h1:=h.put y (h.wts y (by simp));have e:L1++y :: (L2++y :: L3)=(L1++y :: L2)++y :: L3:=by simp
 rw[e] at h1;have h2:=h1.put x (by
  have h0:=h.wts x (by simp);refine⟨h0.1,?_⟩;rw[World.cell?_setCell_other _ _ _ _ (by intro e;injection e with r o;exact h0.1 r.symm)];exact h0.2)
 have o:(L1++y :: L2).length=L1.length+1+L2.length:=by simp;omega
 rw[o] at h2;have q:L1++y :: (L2++x :: L3)=(L1++y :: L2)++x :: L3:=by simp
 rw[q];exact h2
theorem SortW.at2(h:SortW w0 base g n c (L1++x :: (L2++y :: L3)) W):W.cell? ⟨g,L1.length+1+L2.length,none⟩=some (.pointer (some ⟨y.1,0,none⟩)):=by
 have:=SortW.at_ (L1:=L1++x :: L2) (x:=y) (L2:=L3) (h.same (by simp));rw[show(L1++x :: L2).length=L1.length+1+L2.length by simp;omega] at this;exact this
theorem SortW.at3(h:SortW w0 base g n c (L1++x :: (L2++y :: L3)) W)(u:Value):(W.setCell ⟨g,L1.length,none⟩ u).cell? ⟨g,L1.length+1+L2.length,none⟩=some (.pointer (some ⟨y.1,0,none⟩)):=by
 rw[World.cell?_setCell_other _ _ _ _ (by intro e;injection e with q o;omega)];exact h.at2
theorem SortW.pws(h:SortW w0 base g n c (L1++x :: y :: L3) W):
  SortW w0 base g n c (L1++y :: x :: L3) ((W.setCell ⟨g,L1.length+1,none⟩ (.pointer (some ⟨x.1,0,none⟩))).setCell ⟨g,L1.length,none⟩ (.pointer (some ⟨y.1,0,none⟩))):=by
 have e:L1++x :: y :: L3=(L1++[x])++y :: L3:=by simp
 have o:=h;rw[e] at o;have h1:=o.put x (h.wts x (by simp));have q:(L1++[x]).length=L1.length+1:=by simp
 rw[q] at h1;have r:(L1++[x])++x :: L3=L1++x :: (x :: L3):=by simp
 rw[r] at h1;refine h1.put y ?_;have h0:=h.wts y (by simp);refine⟨h0.1,?_⟩;rw[World.cell?_setCell_other _ _ _ _ (by intro e;injection e with s q;exact h0.1 s.symm)];exact h0.2
theorem SortW.nx(h:SortW w0 base g n c (L1++x :: y :: L3) W):W.cell? ⟨g,L1.length+1,none⟩=some (.pointer (some ⟨y.1,0,none⟩)):=SortW.at2 (L2:=[]) h
theorem SortW.at3'(h:SortW w0 base g n c (L1++x :: y :: L3) W)(u:Value):(W.setCell ⟨g,L1.length+1,none⟩ u).cell? ⟨g,L1.length,none⟩=some (.pointer (some ⟨x.1,0,none⟩)):=by
 rw[World.cell?_setCell_other _ _ _ _ (by intro e;injection e with q o;omega)];exact h.at_
end
/-- cmp.Compare of ints. -/
def zbP(a b:Int):Int:=if a<b then -1 else if b<a then 1 else 0
theorem zc6(a b:Int):zbP a b<0↔a<b:=by
 unfold zbP;split
 ·omega
 ·split<;>omega
theorem zgP(a:Int)(w:World):Calls Tryz.prog 188 #[.int .i64 a] w fun e w'=>e=.returned (.bool false)/\w=w':=by
 go_enter Tryz.func188,Tryz.ntmps188;go_wp2;go_ret;exact⟨rfl,rfl⟩
theorem zmQ(a b:Int)(w:World):Calls Tryz.prog 186 #[.int .i64 a,.int .i64 b] w fun e w'=>e=.returned (.int .i64 (zbP a b))/\w=w':=by
 by_cases h1:a<b
 ·rw[show zbP a b=-1 by unfold zbP;rw[if_pos h1]]
  go_enter Tryz.func186,Tryz.ntmps186;go_wp2_with (go_at_call 188;(with_reducible refine(zgP _ _).mono ?_);rintro e w' ⟨rfl,rfl⟩);go_ret;exact⟨rfl,rfl⟩
 ·by_cases h2:b<a
  ·rw[show zbP a b=1 by unfold zbP;rw[if_neg h1,if_pos h2]]
   go_enter Tryz.func186,Tryz.ntmps186;go_wp2_with (go_at_call 188;(with_reducible refine(zgP _ _).mono ?_);rintro e w' ⟨rfl,rfl⟩);go_ret;exact⟨rfl,rfl⟩
  ·rw[show zbP a b=0 by unfold zbP;rw[if_neg h1,if_neg h2]]
   go_enter Tryz.func186,Tryz.ntmps186;go_wp2_with (go_at_call 188;(with_reducible refine(zgP _ _).mono ?_);rintro e w' ⟨rfl,rfl⟩);go_ret;exact⟨rfl,rfl⟩
theorem zgg(x y:MP)(w:World)(hx:w.cell? ⟨x.1,0,none⟩=some (.int .i64 x.2.w))(hy:w.cell? ⟨y.1,0,none⟩=some (.int .i64 y.2.w)):
  Calls Tryz.prog 185 #[.pointer (some ⟨x.1,0,none⟩),.pointer (some ⟨y.1,0,none⟩)] w fun e w'=>e=.returned (.int .i64 (zbP x.2.w y.2.w))/\∃q,w'=w.drewN q:=by
 generalize x.2.w=a at *;generalize y.2.w=b at *;generalize x.1=x at *;generalize y.1=y at *;go_enter Tryz.func185,Tryz.ntmps185;go_wp2_with fail;go_quiet ((go_at_call 186;exact Calls.quiet_of_same ((zmQ _ _ _).mono fun _ _ h=>⟨h.1,h.2.symm⟩)));go_wp2_with fail;go_ret;exact⟨rfl,_,rfl⟩
/-- The row of members between the two runs, and behind them: swapRange. -/
theorem zp3(P X M Y R:List MP)(i:Nat)(o:i<X.length)(q:X.length=Y.length):
  P++(Y.take i++X.drop i)++M++(X.take i++Y.drop i)++R =
   (P++Y.take i)++X[i] :: ((X.drop (i+1)++M++X.take i)++(Y[i]'(by omega)) :: (Y.drop (i+1)++R)) /\
  P++(Y.take (i+1)++X.drop (i+1))++M++(X.take (i+1)++Y.drop (i+1))++R =
   (P++Y.take i)++(Y[i]'(by omega)) :: ((X.drop (i+1)++M++X.take i)++X[i] :: (Y.drop (i+1)++R)):=by
 constructor
 ·rw[List.drop_eq_getElem_cons (l:=X) o,List.drop_eq_getElem_cons (l:=Y) (i:=i) (by omega)];simp only[List.append_assoc,List.cons_append,List.nil_append]
 ·rw[List.take_succ_eq_append_getElem (l:=X) o,List.take_succ_eq_append_getElem (l:=Y) (i:=i) (by omega)];simp only[List.append_assoc,List.cons_append,List.nil_append]
theorem zk0(w0 W:World)(base g n c:Nat)(P X M Y R:List MP)(f:Value)(h:SortW w0 base g n c (P++X++M++Y++R) W)(C:X.length=Y.length)(hn:n<=1099511627776)(a b k:Nat)
  (F:a=P.length) (H:b=P.length+X.length+M.length) (G:k=X.length) :
  Calls Tryz.prog 192 #[.slice (some ⟨g,0,none⟩) n c,.int .i64 a,.int .i64 b,.int .i64 k,f] W fun e w' =>
   e=.returned (.tuple #[])/\SortW w0 base g n c (P++Y++M++X++R) w':=by
 have o:=h.len;simp only[lla] at o;have D:=yo h;have O:=yo F;have L:=yo H;have s:=yo G;have z1:a+k<=n:=by omega
 have Z:b+k<=n:=by omega
 have u:=yo C;have HN:=yo o;clear h F H G C o;go_enter Tryz.func192,Tryz.ntmps192;go_wp2;go_loopw [10] (fun i wr=>∃j:Nat,j<=k/\i=.int .i64 j/\SortW w0 base g n c (P++(Y.take j++X.drop j)++M++(X.take j++Y.drop j)++R) wr)
  (fun i _=>k-(intOf i).toNat)
 case atStart=>exact⟨0,Nat.zero_le _,rfl,by simpa using D.o⟩
 case round =>
  clear D;obtain⟨j,T,rfl,q⟩:=hrel;by_cases hlt:j<k
  ·have r:j<X.length:=by rw[<-s.o];exact hlt
   have J:j<Y.length:=(by rw[<-u.o];exact r);obtain⟨I,E⟩:=zp3 P X M Y R j r u.o;rw[I] at q;have B:=yo E;clear I E;have t:(P++Y.take j).length=a+j:=(by rw[O.o];simp;omega);have z:(P++Y.take j).length+1+(X.drop (j+1)++M++X.take j).length=b+j:=by
    rw[L.o];simp;omega
   generalize hx:X[j]=x at q B;generalize hy:Y[j]=y at q B;have A:=q.swp.drew;have c1:=q.at_;have c2:=q.at2;have c3:=q.at3 (.pointer (some ⟨y.1,0,none⟩));rw[z] at c2;rw[z,t] at c3;rw[t] at c1;rw[z,t] at A;have f1:=q.fr (a+j);have S:=q.fr (b+j);have N:=yo A;clear A q t z hx hy;have U:((a:Int)+j).toNat=a+j:=(by omega);have m2:((b:Int)+j).toNat=b+j:=(by omega);have m3:IntKind.i64.wrap ((a:Int)+j)=(a:Int)+j:=(by rw[IntKind.wrap_i64];omega);have m4:IntKind.i64.wrap ((b:Int)+j)=(b:Int)+j:=(by rw[IntKind.wrap_i64];omega);have V:(0:Int)<=(a:Int)+j:=(by omega);have p2:(0:Int)<=(b:Int)+j:=(by omega);have q1:(a:Int)+j<n:=(by omega);have q2:(b:Int)+j<n:=(by omega);go_wp2_with fail
   go_region
   go_wp2_with fail;go_roundw
   case rel=>exact⟨j+1,by omega,by go_num,N.o.same B.o.symm⟩
   case measure=>simp[intOf];omega
  ·obtain rfl:j=k:=by omega
   go_wp2;go_end0;refine⟨rfl,q.same ?_⟩;rw[List.take_of_length_le (by rw[s.o,u.o];exact nlr _),List.drop_eq_nil_of_le (by rw[s.o];exact nlr _),List.take_of_length_le (by rw[s.o];exact nlr _),List.drop_eq_nil_of_le (by rw[s.o,u.o];exact nlr _)];simp
end Go.Proofs.YtebbdifhiihfkaaGreatDoor

