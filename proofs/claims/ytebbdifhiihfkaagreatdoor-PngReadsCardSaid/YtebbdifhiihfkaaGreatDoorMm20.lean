/- XIn1 XIn2 XIn3 XIn4 -/
import Derived.Test.YtebbdifhiihfkaaGreatDoorMm16
namespace Go.Proofs.YtebbdifhiihfkaaGreatDoor
set_option linter.all false
set_option maxHeartbeats 1600000
open Go.RowKit
/-- A reader of blocks: how far it has come, what came out, its error. -/
structure FR(w:World)(r g:Nat)(A:Option Addr)(n c P:Nat)(bs:List UInt8)(vo:Value)(out:List UInt8)(most e:Int):Prop where
 arr:Arr w r [.pointer (some ⟨g,0,none⟩),vo,.int .i64 most,.int .i64 e]
 rd:Arr w g (rdr A n c P)
 rb:RdB w g A n bs
 own:ownB w (r+1) vo out
 gr:g<r
 fit:P<=8*n
 big:n<=1000000
/-- What a reader changes: two blocks, its row, new blocks. -/
structure RFr(w w':World)(r g:Nat)(pv pv':Value):Prop where
 os:w'.os=w.os
 tape:w'.tape=w.tape
 output:w'.output=w.output
 size:w.heap.size<=w'.heap.size
 block:∀k,k<w.heap.size->k≠r->k≠g->pv.ownBlock≠some k->w'.heap[k]?=w.heap[k]?
 own:pv'.ownBlock=pv.ownBlock\/∃k,w.heap.size<=k/\pv'.ownBlock=some k
section
variable {w w' w'' : World} {r g : Nat} {pv pv' pv'' : Value}
theorem RFr.refl(w:World)(r g:Nat)(pv:Value):RFr w w r g pv pv:=⟨rfl,rfl,rfl,nlr _,fun _ _ _ _ _=>rfl,.inl rfl⟩
theorem RFr.trans(h:RFr w w' r g pv pv')(k:RFr w' w'' r g pv' pv''):RFr w w'' r g pv pv'':=by
 refine⟨k.os.trans h.os,k.tape.trans h.tape,k.output.trans h.output,nlt h.size k.size,fun i hi hr hg hp=>?_,?_⟩
 ·refine(k.block i (Nat.lt_of_lt_of_le hi h.size) hr hg ?_).trans (h.block i hi hr hg hp)
  rcases h.own with e | ⟨j,q,e⟩
  ·rw[e];exact hp
  ·rw[e];intro o;injection o with o;omega
 ·rcases k.own with e | ⟨j,q,e⟩
  ·rcases h.own with o | ⟨j,q,o⟩
   ·exact .inl (e.trans o)
   ·exact .inr ⟨j,q,e.trans o⟩
  ·exact .inr ⟨j,nlt h.size q,e⟩
theorem RFr.ofG(h:w.grownBy w' (some g))(r:Nat)(pv:Value):RFr w w' r g pv pv :=
 ⟨h.os,h.tape,h.output,h.size,fun k o _ hg _=>h.block k o (fun e=>by injection e with e;exact hg e),.inl rfl⟩
theorem RFr.ofB(h:Below w.heap.size w w')(r g:Nat)(pv:Value):RFr w w' r g pv pv:=⟨h.os,h.tape,h.output,h.size,fun k o _ _ _=>h.block k o,.inl rfl⟩
theorem RFr.drewN(h:RFr w w' r g pv pv')(q:Nat):RFr w (w'.drewN q) r g pv pv':=⟨h.os,h.tape,h.output,h.size,h.block,h.own⟩
theorem RFr.below{B:Nat}(h:RFr w w' r g pv pv')(q:B<=w.heap.size)(hr:B<=r)(hg:B<=g)(hp:∀k,pv.ownBlock=some k->B<=k):Below B w w' :=
 ⟨h.os,h.tape,h.output,h.size,fun k o=>h.block k (by omega) (by omega) (by omega) (fun e=>by have:=hp k e;omega)⟩
end
theorem FR.drewN{w:World}{r g:Nat}{A:Option Addr}{n c P:Nat}{bs:List UInt8}{vo:Value}{out:List UInt8}{most e:Int}(h:FR w r g A n c P bs vo out most e)(q:Nat):FR (w.drewN q) r g A n c P bs vo out most e :=
 ⟨h.arr.drewN q,h.rd.drewN q,h.rb.blw ((zag (Below.refl g w) q)),h.own.drewN q,h.gr,h.fit,h.big⟩
/-- The bits' reader has moved. -/
theorem FR.moved{w w':World}{r g:Nat}{A:Option Addr}{n c P q:Nat}{bs:List UInt8}{vo:Value}{out:List UInt8}{most e:Int}(h:FR w r g A n c P bs vo out most e)(t:Arr w' g (rdr A n c q))(hg:w.grownBy w' (some g))(u:q<=8*n):FR w' r g A n c q bs vo out most e:=by
 have o:=h.gr;refine⟨h.arr.gro hg (by omega),t,h.rb.blw (zd7 hg (Nat.le_of_lt h.rd.lt) (nlr _)),World.ownsRow.kept h.own hg ?_,o,u,h.big⟩;cases e:vo.ownBlock with
 |none=>exact .inl rfl
 |some k=>exact .inr (fun s=>by injection s with s;have:=(olt h.own k e).1;omega)
theorem zuh(r g n c P m:Nat)(A:Option Addr)(bs:List UInt8)(vo:Value)(out:List UInt8)(most:Int)(M:Int)(B:M=(m:Int))(w:World)(h:FR w r g A n c P bs vo out most 0)(z:m<=24)(o:P+m<=8*n):
  Calls Tryz.prog 101 #[.pointer (some ⟨r,0,none⟩),.int .i64 M] w fun e w'=>e=.returned (.int .i64 ((zaj bs P m:Nat):Int))/\FR w' r g A n c (P+m) bs vo out most 0/\RFr w w' r g vo vo:=by
 subst B;have H:=yo h;have D:=yo (znF g g n c P m A bs w h.rd h.rb (nlr _) (by have:=h.big;omega) h.fit z o);have E:=h.arr.cell (k:=0) rfl;have c3:=h.arr.cell (k:=3) rfl;have hv:=zbw bs P m;have C:zaj bs P m<16777216:=Nat.lt_of_lt_of_le hv (Nat.pow_le_pow_right (by decide) z);clear h hv;generalize zaj bs P m=v at *;go_enter Tryz.func101,Tryz.ntmps101;go_wp2_with (go_at_call 126;(with_reducible refine D.o.mono ?_);go_must (rintro e w1 ⟨rfl,q,t⟩;have u:=yo q;have s:=yo t;clear q t));go_ret;exact⟨rfl,H.o.moved u.o s.o o,RFr.ofG s.o r vo⟩
theorem zoU(g n c P:Nat)(A:Option Addr)(w:World)(h:Arr w g (rdr A n c P))(E:P<=8000000):
  Calls Tryz.prog 127 #[.pointer (some ⟨g,0,none⟩)] w fun e w'=>e=.returned (.tuple #[])/\Arr w' g (rdr A n c (8*((P+7) / 8)))/\w.grownBy w' (some g):=by
 have c1:=h.cell (k:=1) rfl;have B:=h.frozen 1;obtain⟨Q,q⟩:∃Q,(P+7) / 8=Q:=⟨_,rfl⟩;rw[q];have F:((P:Int)+7).tdiv 8=(Q:Int):=by rw[show(P:Int)+7=((P+7:Nat):Int) by omega,<-q];rfl
 have z:((P:Int)+7) / 8=(Q:Int):=by omega
 have C:(Q:Int)*8=((8*Q:Nat):Int):=by omega
 have u:=yo (h.set 1 (.int .i64 ((8*Q:Nat):Int)));have t:=yo (ziO (o:=1) (zhD w (some g)) (.int .i64 ((8*Q:Nat):Int)));have D:wrap64 ((Q:Int)*8)=(Q:Int)*8:=zb6 _ (by omega) (by omega);have s:8*Q<=8000008:=by omega
 clear h;go_enter Tryz.func127,Tryz.ntmps127;go_wp2_with fail;(try simp only[Exit.inBlock,Exit.then])
 first|(refine bodyPost_ret (results_none rfl _ _ _) rfl ?_)|(refine bodyPost_end (results_none rfl _ _ _) rfl ?_)
 exact⟨rfl,u.o,t.o⟩
end Go.Proofs.YtebbdifhiihfkaaGreatDoor

/- flate: a reader of blocks: a byte given out, a stored block. -/
namespace Go.Proofs.YtebbdifhiihfkaaGreatDoor
set_option linter.all false
open Go.RowKit
theorem RFr.set1{w w':World}{r g:Nat}{pv o:Value}(h:RFr w w' r g pv o)(i:Nat)(v:Value):RFr w (w'.setCell ⟨r,i,none⟩ v) r g pv o :=
 ⟨h.os,h.tape,h.output,by simp;exact h.size,fun k q hr hg hp=>(Below.heap_setCell _ _ _ _ (fun e=>hr e)).trans (h.block k q hr hg hp),h.own⟩
theorem RFr.grown{w w':World}{r g:Nat}{pv q:Value}(o:Obj)(h:(w.alloc o).grownBy w' pv.ownBlock)(s:q.ownBlock=pv.ownBlock\/q.ownBlock=some (w.alloc o).heap.size):RFr w w' r g pv q:=by
 refine⟨h.os,h.tape,h.output,nlt (by simp) h.size,fun k t _ _ hp=>?_,?_⟩
 ·exact(h.block k (by simp;omega) (fun e=>hp e.symm)).trans (heap_alloc_old w o t)
 ·rcases s with e|e
  ·exact .inl e
  ·exact .inr ⟨_,by simp,e⟩
theorem RFr.drew0{w w':World}{r g q:Nat}{pv o:Value}(h:RFr (w.drewN q) w' r g pv o):RFr w w' r g pv o:=⟨h.os,h.tape,h.output,h.size,h.block,h.own⟩
end Go.Proofs.YtebbdifhiihfkaaGreatDoor

/- flate: a reader of blocks: a stored block. -/
namespace Go.Proofs.YtebbdifhiihfkaaGreatDoor
set_option linter.all false
open Go.RowKit
theorem zdn{α:Type}{l:List α}{k:Nat}{x:α}(h:l[k]?=some x):l.take (k+1)=l.take k++[x]:=by
 obtain⟨g,hx⟩:=List.getElem?_eq_some_iff.1 h;rw[List.take_succ_eq_append_getElem g,hx]
end Go.Proofs.YtebbdifhiihfkaaGreatDoor

/- flate: Inflate, of blocks that are read to their ends. -/
namespace Go.Proofs.YtebbdifhiihfkaaGreatDoor
set_option linter.all false
open Go.RowKit
def zhF(w:World)(g:Nat):Nat:=match w.cell? ⟨g,1,none⟩ with
 |some (.int _ P)=>P.toNat
 |_=>0
theorem zb0{w:World}{g n c P:Nat}{A:Option Addr}(h:Arr w g (rdr A n c P)):zhF w g=P:=by
 unfold zhF;rw[h.cell (k:=1) rfl];rfl
theorem FR.fr{w w':World}{r g:Nat}{A:Option Addr}{n c P:Nat}{bs:List UInt8}{vo o:Value}{out:List UInt8}{most e:Int}{B:Nat}(h:FR w r g A n c P bs vo out most e)(t:RFr w w' r g vo o)(s:B<=g):Below B w w':=by
 have h1:=h.gr;have h2:=h.rd.lt;exact t.below (by omega) (by omega) s (fun k q=>by have:=(olt h.own k q).1;omega)
end Go.Proofs.YtebbdifhiihfkaaGreatDoor

