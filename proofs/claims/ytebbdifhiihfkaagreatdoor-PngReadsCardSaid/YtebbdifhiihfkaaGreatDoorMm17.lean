/- XPutP XPut XFl5 XFl6 XFl10 XFl11 XFl12 -/
import Derived.Test.YtebbdifhiihfkaaGreatDoorMm16
import Derived.Test.YtebbdifhiihfkaaGreatDoorMm13
import Derived.StillTailTactics
namespace Go.Proofs.YtebbdifhiihfkaaGreatDoor
set_option linter.all false
open Go.RowKit
/-- The first k bits of a number, the least first. -/
def lsb(v:Nat):Nat->List Nat
 |0=>[]
 |k+1=>lsb v k++[v / 2 ^ k % 2]
theorem zaJ(v k:Nat):(lsb v k).length=k:=by
 induction k with
 |zero=>rfl
 |succ k ih=>rw[lsb,lla,ih];rfl
/-- Bits up to the next whole byte. -/
def zcf(L:List Nat):List Nat:=L++List.replicate (8*((L.length+7) / 8)-L.length) 0
theorem zeT(L:List Nat):(zcf L).length=8*((L.length+7) / 8):=by
 unfold zcf;rw[lla,List.length_replicate];omega
theorem zsD(L:List Nat)(k p:Nat):(L++List.replicate k 0).getD p 0=L.getD p 0:=by
 rw[lgd,lgd,List.getElem?_append];split
 ·rfl
 ·rw[List.getElem?_eq_none (l:=L) (by omega),List.getElem?_replicate]
  split<;>rfl
theorem WB.align{bs:List UInt8}{L:List Nat}(h:WB bs L):WB bs (zcf L):=by
 refine⟨?_,fun p=>?_⟩
 ·rw[zeT,h.1];omega
 ·rw[h.2 p];unfold zcf;rw[zsD]
theorem zg4{ls:List Int}(g:zau ls=false)(r:krN ls<=32768)(p:Nat)(hp:p<ls.length):∃t:Nat,t<=15/\(zaL ls p).2=(t:Int)/\(zaL ls p).1<2 ^ t:=by
 have hx:ls[p]?=some ls[p]:=lge hp;obtain⟨s,u⟩:=zcK g hx;obtain⟨t,ht⟩:=Int.eq_ofNat_of_zero_le s;rw[ht] at hx;by_cases h0:0<t
 ·have q:=zdk hx h0
  have z:Hit ls t (fst ls t+cnt (ls.take p) t) p:=⟨hx,rfl⟩;have o:t<=15:=by rw[ht] at u;omega
  exact⟨t,o,by rw[q],by rw[q];exact Nat.lt_of_lt_of_le (zg3 h0 z).2 (znC ls g r t o)⟩
 ·have q:=zen hx (by omega)
  exact⟨0,by omega,by rw[q];rfl,by rw[q];decide⟩
/-- A row beside a writer that was there ahead of it. -/
theorem Dis.new{w:World}{base b2:Nat}{pv v:Value}{bs:List UInt8}(h:ownB w base pv bs)(hv:∀k,v.ownBlock=some k->b2<=k)(q:w.heap.size<=b2):Dis pv v:=by
 intro k o g;have h1:=hv k g;have h2:=(olt h k o).2;omega
end Go.Proofs.YtebbdifhiihfkaaGreatDoor

/- Writers of bits: Put, Align, Bits. -/
namespace Go.Proofs.YtebbdifhiihfkaaGreatDoor
set_option linter.all false
set_option maxRecDepth 100000
set_option maxHeartbeats 3200000
open Go.RowKit
theorem zt8(g v m:Nat)(pv:Value)(bs:List UInt8)(L:List Nat)(w:World)(h:Wr w g pv bs L)(W:L.length+m<=1000000)(T:m<=24)(hv:v<2 ^ m):
  Calls Tryz.prog 167 #[.pointer (some ⟨g,0,none⟩),.int .u32 (v:Int),.int .i64 (m:Int)] w fun e w'=>e=.returned (.int .i64 0)/\∃pv' bs',Wr w' g pv' bs' (L++lsb v m)/\WrFr w w' g pv pv':=by
 have G:=yo (fun w=>zgE v m w T hv);have o:=yo h;have S:v<16777216:=Nat.lt_of_lt_of_le hv (Nat.pow_le_pow_right (by decide) T);have R:Hid (L++lsb v 0=L):=(show _=_ by simp[lsb]);clear h hv;go_enter Tryz.func167,Tryz.ntmps167;go_wp2_with (go_at_call 181;(with_reducible refine(G.o _).mono ?_);go_must (rintro e w1 ⟨rfl,rfl⟩));go_loopw [12] (fun J wr=>∃k:Nat,k<=m/\J=.int .i64 k/\∃C F,Hid (Wr wr g C F (L++lsb v k))/\Hid (WrFr w wr g pv C)) (fun J _=>m-(intOf J).toNat)
 case atStart=>exact⟨0,Nat.zero_le _,rfl,pv,bs,(show Wr _ _ _ _ _ by rw[R.o];exact o.o),WrFr.refl _ _ _⟩
 case round =>
  clear o R;obtain⟨k,V,rfl,C,F,o,P⟩:=hrel;by_cases hlt:k<m
  ·have A:(L++lsb v k).length=L.length+k:=by rw[lla,zaJ]
   have H:v / 2 ^ k<4294967296:=Nat.lt_of_le_of_lt (Nat.div_le_self _ _) (by omega);have N:=yo (znH g (L++lsb v k).length (v / 2 ^ k) C F _ wr o.o.1 o.o.2.1 o.o.2.2 rfl (by omega) H);have q:Hid (L++lsb v k++[v / 2 ^ k % 2]=L++lsb v (k+1)):=(show _=_ by rw[lsb,List.append_assoc]);have t:Hid ((((L++lsb v k).length+1:Nat):Int)=(((L++lsb v (k+1)).length:Nat):Int)):=(show _=_ by rw[<-q.o];congr 1;simp;omega);rw[q.o,t.o] at N;have O:(v:Int) / 2 ^ k=((v / 2 ^ k:Nat):Int):=by rw[show((2:Int) ^ k)=((2 ^ k:Nat):Int) by push_cast;rfl,<-Int.natCast_ediv]
   generalize v / 2 ^ k=u at *;clear A q t;go_wp2_with (go_at_call 182;(with_reducible refine N.o.mono ?_);go_must (rintro e U ⟨rfl,E,z,r,D,B,s⟩;have M:=yo (P.o.trans s);have I:Hid (Wr U g E z (L++lsb v (k+1))):=⟨r,D,B⟩;clear r D B s));go_roundw
   case rel=>exact⟨k+1,by omega,by go_num,E,z,I,M⟩
   case measure=>simp[intOf];omega
  ·obtain rfl:k=m:=by omega
   go_wp2_with fail;go_ret;exact⟨rfl,C,F,o.o,P.o⟩
/-- On to the next whole byte. -/
theorem zqB(g:Nat)(pv:Value)(bs:List UInt8)(L:List Nat)(w:World)(h:Wr w g pv bs L)(C:L.length<=1000000):
  Calls Tryz.prog 156 #[.pointer (some ⟨g,0,none⟩)] w fun e w'=>e=.returned (.tuple #[])/\Wr w' g pv bs (zcf L)/\WrFr w w' g pv pv:=by
 obtain⟨h1,h2,r⟩:=h;obtain⟨A,c,rfl,hr,-,-⟩:=h2.form;have q:bs.length=(L.length+7) / 8:=r.1;have z:bs.length<=200000:=by omega
 have o:Hid ((8*(bs.length:Int))=(((zcf L).length:Nat):Int)):=(show _=_ by rw[zeT,q];push_cast;rfl);have E:=h1.cell (k:=0) rfl;have c1:=h1.cell (k:=1) rfl;have D:=h1.frozen 1;have t:=yo (h1.set 1 (.int .i64 (8*(bs.length:Int))));have s:=yo (ownB.far h2 (g:=g) (zbu h2 (Nat.lt_succ_self g)) 1 (.int .i64 (8*(bs.length:Int))));have u:=yo ((WrFr.refl w g (.slice A bs.length c)).setg 1 (.int .i64 (8*(bs.length:Int))));have B:=yo r.align;rw[o.o] at t;have e:wrap64 (8*(bs.length:Int))=8*(bs.length:Int):=zb6 _ (by omega) (by omega);clear h1 h2 r hr q C;generalize bs.length=n at *;go_enter Tryz.func156,Tryz.ntmps156;go_wp2_with fail
 first|(refine bodyPost_ret (results_none rfl _ _ _) rfl ?_)|(refine bodyPost_end (results_none rfl _ _ _) rfl ?_)
 refine⟨rfl,⟨?_,?_,B.o⟩,?_⟩
 ·rw[o.o];exact t.o
 ·rw[o.o];rw[o.o] at s;exact s.o
 ·exact u.o
theorem zg5(g:Nat)(pv:Value)(bs:List UInt8)(L:List Nat)(w:World)(h:Wr w g pv bs L):
  Calls Tryz.prog 124 #[.pointer (some ⟨g,0,none⟩)] w fun e w'=>e=.returned (.int .i64 ((L.length:Nat):Int))/\w=w':=by
 have c1:=h.1.cell (k:=1) rfl;clear h;go_enter Tryz.func124,Tryz.ntmps124;go_wp2_with fail;go_ret;exact⟨rfl,rfl⟩
end Go.Proofs.YtebbdifhiihfkaaGreatDoor

/- flate: a writer's put, code; a block begun. -/
namespace Go.Proofs.YtebbdifhiihfkaaGreatDoor
set_option linter.all false
set_option maxHeartbeats 1600000
open Go.RowKit
/-- A block that a writer leaves as it is. -/
structure Bx(w:World)(g:Nat)(pv:Value)(b:Nat):Prop where
 lt:b<w.heap.size
 ne:b≠g
 nv:pv.ownBlock≠some b
theorem Bx.wr{w w':World}{g b:Nat}{pv o:Value}(h:Bx w g pv b)(r:WrFr w w' g pv o):Bx w' g o b:=by
 refine⟨Nat.lt_of_lt_of_le h.lt r.size,h.ne,?_⟩;rcases r.own with e | ⟨j,s,e⟩
 ·rw[e];exact h.nv
 ·rw[e];intro q;injection q with q;have:=h.lt;omega
theorem Bx.heap{w w':World}{g b:Nat}{pv o:Value}(h:Bx w g pv b)(q:WrFr w w' g pv o):w'.heap[b]?=w.heap[b]?:=q.block b h.lt h.ne h.nv
theorem Bx.cell{w w':World}{g b i:Nat}{pv o u:Value}(h:Bx w g pv b)(q:WrFr w w' g pv o)(c:w.cell? ⟨b,i,none⟩=some u):w'.cell? ⟨b,i,none⟩=some u:=by
 rw[<-c];unfold World.cell?;rw[h.heap q]
theorem Bx.new{w:World}{g:Nat}{pv:Value}{bs:List UInt8}{L:List Nat}(h:Wr w g pv bs L)(o:Obj):Bx (w.alloc o) g pv w.heap.size:=by
 refine⟨by simp,?_,fun e=>?_⟩
 ·have:=h.1.lt;omega
 ·have:=(olt h.2.1 _ e).2;omega
theorem Bx.alloc{w:World}{g b:Nat}{pv:Value}(h:Bx w g pv b)(o:Obj):Bx (w.alloc o) g pv b:=⟨by have:=h.lt;simp;omega,h.ne,h.nv⟩
theorem Bx.drew{w:World}{g b:Nat}{pv:Value}(h:Bx w g pv b):Bx w.drew g pv b:=⟨h.lt,h.ne,h.nv⟩
theorem Wr.alloc{w:World}{g:Nat}{pv:Value}{bs:List UInt8}{L:List Nat}(h:Wr w g pv bs L)(o:Obj):Wr (w.alloc o) g pv bs L:=⟨h.1.alloc o,h.2.1.alloc o,h.2.2⟩
theorem WrFr.alloc0{w w':World}{g:Nat}{pv q:Value}(o:Obj)(h:WrFr (w.alloc o) w' g pv q):WrFr w w' g pv q:=by
 refine⟨h.os,h.tape,h.output,nlt (by simp) h.size,fun k r hg hp=>?_,?_⟩
 ·exact(h.block k (by simp;omega) hg hp).trans (heap_alloc_old w o r)
 ·rcases h.own with e | ⟨j,s,e⟩
  ·exact .inl e
  ·exact .inr ⟨j,by simp at s;omega,e⟩
theorem WrFr.alloc{w w':World}{g:Nat}{pv q:Value}(o:Obj)(h:WrFr w w' g pv q):WrFr w (w'.alloc o) g pv q:=by
 refine⟨h.os,h.tape,h.output,by have:=h.size;simp;omega,fun k r hg hp=>?_,h.own⟩;exact(heap_alloc_old w' o (Nat.lt_of_lt_of_le r h.size)).trans (h.block k r hg hp)
/-- A writer by value: a struct of one pointer. -/
abbrev wrV (g:Nat):Value:=.agg #[.pointer (some ⟨g,0,none⟩)]
theorem zsE(g v m:Nat)(pv:Value)(bs:List UInt8)(L:List Nat)(w:World)(h:Wr w g pv bs L)(E:L.length+m<=1000000)(B:m<=24)(hv:v<2 ^ m):
  Calls Tryz.prog 147 #[wrV g,.int .i64 (v:Int),.int .i64 (m:Int)] w fun e w'=>e=.returned (.tuple #[])/\∃pv' bs',Wr w' g pv' bs' (L++lsb v m)/\WrFr w w' g pv pv':=by
 have D:=yo (fun o=>zt8 g v m pv bs L (w.alloc o) (h.alloc o) E B hv);have A:v<16777216:=Nat.lt_of_lt_of_le hv (Nat.pow_le_pow_right (by decide) B);have C:(v:Int) % 4294967296=(v:Int):=Int.emod_eq_of_lt (by omega) (by omega);clear h hv;go_enter Tryz.func147,Tryz.ntmps147;go_wp2_with (go_at_call 167;(with_reducible refine(D.o _).mono ?_);go_must (rintro e w1 ⟨rfl,u,z,q,r⟩;have s:=yo q;have t:=yo r.alloc0;clear q r));(try simp only[Exit.inBlock,Exit.then])
 first|(refine bodyPost_ret (results_none rfl _ _ _) rfl ?_)|(refine bodyPost_end (results_none rfl _ _ _) rfl ?_)
 exact⟨rfl,u,z,s.o,t.o⟩
theorem zqC(g v m:Nat)(pv:Value)(bs:List UInt8)(L:List Nat)(w:World)(h:Wr w g pv bs L)(C:L.length+m<=1000000)(B:m<=24)(hv:v<2 ^ m):
  Calls Tryz.prog 149 #[wrV g,.agg #[.int .u32 (v:Int),.int .i64 (m:Int)]] w fun e w'=>e=.returned (.tuple #[])/\∃pv' bs',Wr w' g pv' bs' (L++msb v m m)/\WrFr w w' g pv pv':=by
 have A:=yo (fun o p=>zsA g v m pv bs L ((w.alloc o).alloc p) ((h.alloc o).alloc p) C B hv);clear h hv;go_enter Tryz.func149,Tryz.ntmps149;go_wp2_with (go_at_call 169;(with_reducible refine(A.o _ _).mono ?_);go_must (rintro e w1 ⟨rfl,u,z,q,r⟩;have s:=yo q;have t:=yo (r.alloc0).alloc0;clear q r));(try simp only[Exit.inBlock,Exit.then])
 first|(refine bodyPost_ret (results_none rfl _ _ _) rfl ?_)|(refine bodyPost_end (results_none rfl _ _ _) rfl ?_)
 exact⟨rfl,u,z,s.o,t.o⟩
/-- put, its numbers as they stand in the code. -/
theorem zbX(g:Nat)(V M:Int)(v m:Nat)(s:V=(v:Int))(r:M=(m:Int))(pv:Value)(bs:List UInt8)(L:List Nat)(w:World)(h:Wr w g pv bs L)(o:L.length+m<=1000000)(q:m<=24)(hv:v<2 ^ m):
  Calls Tryz.prog 147 #[wrV g,.int .i64 V,.int .i64 M] w fun e w'=>e=.returned (.tuple #[])/\∃pv' bs',Wr w' g pv' bs' (L++lsb v m)/\WrFr w w' g pv pv':=by
 subst s r;exact zsE g v m pv bs L w h o q hv
end Go.Proofs.YtebbdifhiihfkaaGreatDoor

/- flate: a block begun; a stored block. -/
namespace Go.Proofs.YtebbdifhiihfkaaGreatDoor
set_option linter.all false
set_option maxHeartbeats 1600000
open Go.RowKit
/-- What a block begins with. -/
def zbM(kind:Nat):List Nat:=1 :: lsb kind 2
theorem zc9(k:Nat):(zbM k).length=3:=by unfold zbM;rw[List.length_cons,zaJ]
theorem Wr.far{w:World}{g o:Nat}{pv:Value}{bs:List UInt8}{L:List Nat}(h:Wr w g pv bs L)(q:Bx w g pv o)(i:Nat)(u:Value):Wr (w.setCell ⟨o,i,none⟩ u) g pv bs L :=
 ⟨h.1.far (p:=⟨o,i,none⟩) q.ne u,ownB.far h.2.1 q.nv i u,h.2.2⟩
theorem Arr.wr{w w':World}{g b:Nat}{pv o:Value}{cs:List Value}(h:Arr w b cs)(q:Bx w g pv b)(r:WrFr w w' g pv o):Arr w' b cs:=by
 obtain⟨t,h⟩:=h;exact⟨t,(q.heap r).trans h⟩
theorem zqD(o:Nat)(H:o<4)(w:World):
  Calls Tryz.prog 119 #[.int .i64 (o:Int)] w fun e w'=>∃g pv bs,e=.returned (wrV g)/\w.heap.size<=g/\Wr w' g pv bs (zbM o)/\Below w.heap.size w w'/\(∀k,pv.ownBlock=some k->w.heap.size<=k):=by
 have HN:=yo (fun w=>zk3 w);have Z:Hid (([]:List Nat)++lsb 1 1=[1]):=(show _=_ by decide);have V:Hid ([1]++lsb o 2=zbM o):=(show _=_ from rfl);have W:=yo (Below.refl w.heap.size w);go_enter Tryz.func119,Tryz.ntmps119;go_wp2_with (first
  |(go_at_call 146;(with_reducible refine(HN.o _).mono ?_);go_must (rintro e w1 ⟨rfl,s,B,S⟩;have F:=(Arr.new w [.pointer none] 155).later B;have A:=(W.o.alloc (nlr _) (.cells #[Value.pointer none] 155)).trans (B.mono (by simp));obtain⟨g,hg⟩:∃g,w.heap.size+1=g:=⟨_,rfl⟩;have R:(w.alloc (.cells #[Value.pointer none] 155)).heap.size=g:=(by rw[wsa];exact hg);rw[R] at s S;simp only[hg];have J:=yo (Bx.new s (.cells #[Value.pointer (some ⟨g,0,none⟩)] 155));have E:Hid (Bx (w1.alloc (.cells #[Value.pointer (some ⟨g,0,none⟩)] 155)) g (.slice none 0 0) w.heap.size):=⟨by rw[wsa];omega,by omega,by simp[Value.ownBlock]⟩;have Y:=yo (Arr.new w1 [.pointer (some ⟨g,0,none⟩)] 155);have U:=yo (F.alloc (.cells #[Value.pointer (some ⟨g,0,none⟩)] 155));have X:=yo (A.alloc A.size (.cells #[Value.pointer (some ⟨g,0,none⟩)] 155));have L:=s.alloc (.cells #[Value.pointer (some ⟨g,0,none⟩)] 155);have ae:=yo (zbX g 1 1 1 1 rfl rfl _ _ _ _ L (by simp) (by decide) (by decide));clear s B F A L))
  |(go_at_call 147;(with_reducible refine ae.o.mono ?_);go_must (rintro e w2 ⟨rfl,ai,ah,C,q⟩;rw[Z.o] at C;have T:=yo q;have z:=yo (Y.o.wr J.o q);have I:=yo (U.o.wr E.o q);have M:=yo (J.o.wr q);have u:=yo (E.o.wr q);have aa:=yo (zbX g (o:Int) 2 o 2 rfl rfl _ _ _ _ C (by simp) (by decide) H);have c3:=z.o.cell (k:=0) rfl;clear C q))
  |(go_at_call 147;(with_reducible refine aa.o.mono ?_);go_must (rintro e w3 ⟨rfl,ac,P,D,r⟩;rw[V.o] at D;have ab:=yo (T.o.trans r);have N:=yo (z.o.wr M.o r);have t:=yo (I.o.wr u.o r);have O:=yo (u.o.wr r);have G:=yo D;have ag:=N.o.cell (k:=0) rfl;have af:=t.o.cell (k:=0) rfl;have aj:=t.o.frozen 0;clear D r)))
 refine bodyPost_ret (v:=.agg #[.pointer (some ⟨g,0,none⟩)]) ?_ rfl ?_
 ·unfold results
  go_simp
 ·have hF:=ab.o
  refine⟨g,ac,P,rfl,by omega,G.o.far O.o 0 _,?_,fun k H=>?_⟩
  ·have hB:Below w.heap.size w w3:=X.o.trans (hF.below (by simp;omega) (by omega) (fun k H=>by simp[Value.ownBlock] at H))
   exact hB.setCell (p:=⟨w.heap.size,0,none⟩) (nlr _) _
  ·have:=(olt G.o.2.1 k H).1
   omega
theorem zg6(K:Int)(o:Nat)(q:K=(o:Int))(r:o<4)(w:World):
  Calls Tryz.prog 119 #[.int .i64 K] w fun e w'=>∃g pv bs,e=.returned (wrV g)/\w.heap.size<=g/\Wr w' g pv bs (zbM o)/\Below w.heap.size w w'/\(∀k,pv.ownBlock=some k->w.heap.size<=k):=by
 subst q;exact zqD o r w
end Go.Proofs.YtebbdifhiihfkaaGreatDoor

/- flate: the lengths of a block's own codes. -/
namespace Go.Proofs.YtebbdifhiihfkaaGreatDoor
set_option linter.all false
set_option maxRecDepth 100000
set_option maxHeartbeats 3200000
open Go.RowKit
theorem zsF{ws:List Int}{m:Nat}(h1:1<=ws.length)(h2:ws.length<=300)(r:1<=m)(o:m<=15)(hr:∀x∈ws,0<=x/\x<=1000000)(hp:ws.length<=2 ^ m):zb2 ws (m:Int)=false:=by
 have g:zeE ws=false:=by
  unfold zeE;rw[List.any_eq_false];intro x hx;have:=hr x hx;simp;omega
 have hq:zcD ws<=ws.length:=List.length_filter_le _ _;have q:¬2 ^ ((m:Int)).toNat<zcD ws:=by
  rw[show((m:Int)).toNat=m from rfl];omega
 unfold zb2;rw[g,decide_eq_false (by omega),decide_eq_false (by omega),decide_eq_false (by omega),decide_eq_false (by omega),decide_eq_false q];rfl
theorem zdB(ws:List Int)(m:Nat):(zaw ws m).length=ws.length:=by
 unfold zaw;split<;>simp[zbz]
theorem zig(B n c:Nat)(A:Option Addr)(ws:List Int)(M:Int)(m:Nat)(C:M=(m:Int))(w:World)(h:RdI w B A n ws)(F:B<=w.heap.size)(h1:1<=n)(h2:n<=300)(G:1<=m)(s:m<=15)(hr:∀x∈ws,0<=x/\x<=1000000)(hp:n<=2 ^ m):
  Calls Tryz.prog 153 #[.slice A n c,.int .i64 M] w fun e w'=>∃g q,e=.returned (.tuple #[.slice (some ⟨g,0,none⟩) n q,.int .i64 0])/\n<=q/\q<=maxLen/\w.heap.size<=g/\ownI w' w.heap.size (.slice (some ⟨g,0,none⟩) n q) (zaw ws m)/\Below w.heap.size w w':=by
 subst C;have z:=h.len;refine(zmT B n c A ws (m:Int) w h F (by omega)).mono ?_;rintro e w' ⟨A',J,q,rfl,o,r,H⟩;have t:=zsF (ws:=ws) (m:=m) (by omega) (by omega) G s hr (by omega);have I:zh8 ws (m:Int)=0:=by unfold zh8;rw[t];rfl
 have D:zgW ws (m:Int)=zaw ws m:=by unfold zgW;rw[t];rfl
 rw[D] at o r;rw[zdB,z] at o;subst o;obtain⟨_,g,rfl,hg,_⟩:=r.pos (by omega);obtain⟨A2,c2,u,N,O,q3⟩:=r.form;injection u with u L E;subst E;exact⟨g,q,by rw[I],by omega,q3,hg,r,H⟩
theorem RdI.far{w:World}{B b o n:Nat}{l:List Int}(h:RdI w B (some ⟨b,o,none⟩) n l){p:Addr}(hp:b≠p.block)(v:Value):RdI (w.setCell p v) B (some ⟨b,o,none⟩) n l:=by
 refine⟨h.1,fun q=>?_⟩;obtain⟨A,C,e,s,r⟩:=h.2 q;injection e with e;injection e with z g;subst z g;exact⟨b,o,rfl,s,fun j u t=>(World.cell?_of_block (a:=⟨b,o+j,none⟩) (Below.heap_setCell _ _ _ _ hp)).trans (r j u t)⟩
theorem znI(B n c:Nat)(A:Option Addr)(ls:List Int)(L:Int)(least:Nat)(q:L=(least:Int))(w:World)(h:RdI w B A n ls)(t:B<=w.heap.size)(r:n<=1000)(o:least<=1000)(s:n<=c)(g:c<=maxLen):
  Calls Tryz.prog 154 #[.slice A n c,.int .i64 L] w fun e w'=>e=.returned (.slice A (zbC ls least n) c)/\Below w.heap.size w w':=by
 subst q;exact ztW B n c A ls least w h t r o s g
def zcE(ts:List Tok):List Int:=zeG (zaw (zce ts) 15) 257
def zcm(ts:List Tok):List Int:=if(zaw (zbE ts) 15).getD 0 0=0/\zbC (zaw (zbE ts) 15) 1 30=1 then[1] else zeG (zaw (zbE ts) 15) 1
theorem zlT(ts:List Tok):(zcE ts).length=zbC (zaw (zce ts) 15) 257 286:=by unfold zcE;rw[zh9,zdB,zdj]
theorem zlU(ts:List Tok):257<=(zcE ts).length/\(zcE ts).length<=286:=by
 rw[zlT];exact⟨zhC _ _ _ (by omega),ze3 _ _ _⟩
theorem zt9{w:World}{B b o:Nat}{x:Int}(q:b<B)(h:w.cell? ⟨b,o,none⟩=some (.int .i64 x)):RdI w B (some ⟨b,o,none⟩) 1 [x]:=by
 refine⟨rfl,fun _=>⟨b,o,rfl,q,fun j u g=>?_⟩⟩;cases j with
 |zero=>simp[cI] at g;subst g;exact h
 |succ j=>simp[cI] at g
theorem zmV(B n c:Nat)(A:Option Addr)(ts:List Tok)(w:World)(h:RdK w B A n ts)(hB:B<=w.heap.size)(hn:n<=50000)(ao:∀t∈ts,zci t):
  Calls Tryz.prog 121 #[.slice A n c] w fun e w'=>∃g1 n1 c1 u n2 c2,e=.returned (.agg #[.slice (some ⟨g1,0,none⟩) n1 c1,.slice (some ⟨u,0,none⟩) n2 c2])/\w.heap.size<=g1/\w.heap.size<=u/\n1=(zcE ts).length/\n2=(zcm ts).length/\RdI w' w'.heap.size (some ⟨g1,0,none⟩) n1 (zcE ts)/\RdI w' w'.heap.size (some ⟨u,0,none⟩) n2 (zcm ts)/\Below w.heap.size w w':=by
 have hl:=h.len;have aQ:=yo (fun o=>zqi B n c A ts (w.alloc o) (h.alloc hB o) (by simp;omega) hn ao);have ay:=yo (zdj ts);have aA:=yo (zcR ts);have av:Hid (∀x∈zce ts,0<=x/\x<=1000000):=(show ∀x∈_,_ from fun x hx=>by have:=ziH ts x hx;omega);have a3:Hid (∀x∈zbE ts,0<=x/\x<=1000000):=(show ∀x∈_,_ from fun x hx=>by have:=ziI ts x hx;omega);have H:Hid (zcE ts=zeG (zaw (zce ts) 15) 257):=(show _=_ from rfl);have V:Hid (zcm ts=if(zaw (zbE ts) 15).getD 0 0=0/\zbC (zaw (zbE ts) 15) 1 30=1 then[1] else zeG (zaw (zbE ts) 15) 1):=(show _=_ from rfl);have X:Hid ((zaw (zce ts) 15).length=286):=(show _=_ by rw[zdB,ay.o]);have E:Hid ((zaw (zbE ts) 15).length=30):=(show _=_ by rw[zdB,aA.o]);clear h ao;generalize zce ts=wl at *;generalize zbE ts=wd at *;generalize zcE ts=dl at *;generalize zcm ts=dd at *;have aE:=yo (fun(w2:World) (ga:Nat) (h:RdI w2 w2.heap.size (some ⟨ga,0,none⟩) 286 wl)=>zig w2.heap.size 286 286 _ wl 15 15 rfl w2 h (nlr _) (by omega) (by omega) (by omega) (by omega) av.o (by decide));have aP:=yo (fun(w2:World) (ga:Nat) (h:RdI w2 w2.heap.size (some ⟨ga,0,none⟩) 30 wd)=>zig w2.heap.size 30 30 _ wd 15 15 rfl w2 h (nlr _) (by omega) (by omega) (by omega) (by omega) a3.o (by decide));generalize zaw wl 15=la at *;generalize zaw wd 15=C at *;have aR:=zhC C 1 30 (by omega);have aF:=ze3 C 1 30;have al:Hid (zeG C 1=C.take (zbC C 1 30)):=(show _=_ by unfold zeG;rw[E.o]);have G:Hid (zeG la 257=la.take (zbC la 257 286)):=(show _=_ by unfold zeG;rw[X.o]);have aS:=ze3 la 257 286;have a0:=yo (fun(z:World) (gb c4:Nat) (h:RdI z z.heap.size (some ⟨gb,0,none⟩) 30 C) (q1:30<=c4) (Y:c4<=maxLen)=>znI z.heap.size 30 c4 _ C 1 1 rfl z h (nlr _) (by omega) (by omega) q1 Y);have ac:=yo (fun(B:Nat) (z:World) (gb c4:Nat) (h:RdI z B (some ⟨gb,0,none⟩) 286 la) (hB:B<=z.heap.size) (q1:286<=c4) (Y:c4<=maxLen)=>znI B 286 c4 _ la 257 257 rfl z h hB (by omega) (by omega) q1 Y);obtain⟨m,hm⟩:∃m,zbC C 1 30=m:=⟨_,rfl⟩;obtain⟨q,hq⟩:∃q,zbC la 257 286=q:=⟨_,rfl⟩;rw[hm] at aR aF al a0 V;rw[hq] at aS G ac;have W:0<C.length:=by rw[E.o];omega
 obtain⟨Z,ax⟩:∃Z,C[0]=Z:=⟨_,rfl⟩;have aL:Hid (C[0]?=some Z):=(show _=_ by rw[<-ax];exact lge W);have aC:Hid (C.getD 0 0=Z):=(show _=_ by rw[lgd,aL.o];rfl);rw[aC.o] at V;have a8:=Arr.new w [.slice none 0 0,.slice none 0 0] 152;have aI:=yo ((Below.refl w.heap.size w).alloc (nlr _) (.cells #[Value.slice none 0 0,Value.slice none 0 0] 152));have aN:=yo a8;clear a8 ay aA av a3 hm hq;go_enter Tryz.func121,Tryz.ntmps121;go_upto_region 4 with(first
  |(go_at_call 152;(with_reducible refine(aQ.o _).mono ?_);go_must (rintro e w1 ⟨ga,gb,rfl,an,ap,ab⟩;have aM:=yo (aN.o.later ab);have aK:=yo (aI.o.trans (ab.mono (by simp)));have a5:=yo an;have aB:=yo ap;have bb:w.heap.size+1<=w1.heap.size:=(by have:=ab.size;rwa[wsa] at this);clear an ap ab))
  |(go_at_call 153;(with_reducible refine(aE.o _ _ a5.o).mono ?_);go_must (rintro e w2 ⟨u,c2,rfl,q1,Y,aX,a2,R⟩;have a9:=yo a2;have J:=yo (And.intro q1 Y);have aH:=yo (aM.o.later R);have aD:=yo (aK.o.trans (R.mono (by omega)));have af:=yo (aB.o.later R);have ba:=R.size;clear a2 R q1 Y a5))
  |(go_at_call 153;(with_reducible refine(aP.o _ _ af.o).mono ?_);go_must (rintro e w3 ⟨r,c3,rfl,q1,Y,aY,ag,M⟩;have am:=yo ag;have az:=yo (And.intro q1 Y);have a4:=yo (aH.o.later M);have au:=yo (aD.o.trans (M.mono (by omega)));have a1:=yo (RdI.blw a9.o.rd M);have aJ:=M.size;have aT:=(olt a9.o u rfl).2;have aV:=(olt ag r rfl).2;clear ag M q1 Y af)))
 go_upto_region 5 with(go_at_call 154;(with_reducible refine(a0.o _ _ _ am.o.rd az.o.1 az.o.2).mono ?_);go_must (rintro e z ⟨rfl,I⟩;have aj:=yo (a4.o.later I);have ai:=yo (au.o.trans (I.mono (by omega)));have aa:=yo (ownI.later am.o I);have aO:=ownI.cell aa.o E.o.symm (k:=0) W;have aZ:=ownI.frozen aa.o E.o.symm 0;rw[ax] at aO;have ak:=yo (RdI.blw a1.o (I.mono aJ));have aW:=I.size;have ae:=yo (RdI.cut (k:=0) (m:=m) (A':=some ⟨r,0,none⟩) aa.o.rd (by omega) (fun _=>rfl));clear I am a1 a4 au));have aU:(0:Int)<(m:Int):=by omega
 by_cases hx:Z=0
 ·have d1:(Z==0)=true:=by rw[hx];rfl
  by_cases h1:m=1
  ·subst h1
   have D:Hid (dd=[1]):=(show _=_ by rw[V.o,if_pos ⟨hx,rfl⟩]);have T:Hid (1=([1]:List Int).length):=(show _=_ from rfl);have F:=yo (RdI.far ak.o (p:=⟨r,0,none⟩) (by show u≠r;omega) (.int .i64 1));have N:=yo (aj.o.far (p:=⟨r,0,none⟩) (by show r≠w.heap.size;omega) (.int .i64 1));have U:=yo (ai.o.setCell (p:=⟨r,0,none⟩) (by show w.heap.size<=r;omega) (.int .i64 1));have ar:w2.heap.size<=(z.setCell ⟨r,0,none⟩ (.int .i64 1)).heap.size:=(by simp;omega);have L:Hid (RdI (z.setCell ⟨r,0,none⟩ (.int .i64 1)) (z.setCell ⟨r,0,none⟩ (.int .i64 1)).heap.size (some ⟨r,0,none⟩) 1 [1]):=(show RdI _ _ _ _ _ from by
    have h5:=aa.o.store E.o.symm 0 1;have h6:=ownI.cell h5 (by rw[List.length_set];exact E.o.symm) (k:=0) (by rw[List.length_set];exact W);rw[List.getElem_set_self] at h6;exact zt9 (by simp;omega) h6)
   generalize aG:z.setCell ⟨r,0,none⟩ (.int .i64 1)=w5 at *;go_wp2_with fail;(try simp only[aG]);go_wp2_with ((go_at_call 154;(with_reducible refine(ac.o _ _ _ _ F.o (by omega) J.o.1 J.o.2).mono ?_);go_must (rintro e w6 ⟨rfl,g⟩;have s:=yo (Arr.later N.o g);have a7:=s.o.cell (k:=0) rfl;have aw:=s.o.cell (k:=1) rfl;have a6:=s.o.frozen 0;have aq:=s.o.frozen 1;have S:=yo (U.o.trans (g.mono (by omega)));have O:=yo (RdI.later L.o g);have P:=yo (RdI.here (RdI.blw (RdI.cut (k:=0) (m:=q) (A':=some ⟨u,0,none⟩) F.o (by omega) (fun _=>rfl)) (g.mono (by omega))));clear g)));refine bodyPost_ret (v:=.agg #[.slice (some ⟨u,0,none⟩) q c2,.slice (some ⟨r,0,none⟩) 1 c3]) ?_ rfl ?_
   ·unfold results
    go_simp
   ·refine⟨_,q,c2,_,1,c3,rfl,by omega,by omega,?_,?_,?_,?_,?_⟩
    ·rw[H.o,G.o,llt,X.o];omega
    ·rw[D.o];exact T.o
    ·rw[H.o,G.o]
     have:=RdI.far (RdI.far P.o (p:=⟨w.heap.size,0,none⟩) (by show u≠w.heap.size;omega) (.slice (some ⟨u,0,none⟩) q c2)) (p:=⟨w.heap.size,1,none⟩) (by show u≠w.heap.size;omega) (.slice (some ⟨r,0,none⟩) 1 c3)
     simpa using this
    ·rw[D.o]
     have:=RdI.far (RdI.far O.o (p:=⟨w.heap.size,0,none⟩) (by show r≠w.heap.size;omega) (.slice (some ⟨u,0,none⟩) q c2)) (p:=⟨w.heap.size,1,none⟩) (by show r≠w.heap.size;omega) (.slice (some ⟨r,0,none⟩) 1 c3)
     simpa using this
    ·exact(S.o.setCell (p:=⟨w.heap.size,0,none⟩) (nlr _) _).setCell (p:=⟨w.heap.size,1,none⟩) (nlr _) _
  ·have ah:¬(Z=0/\m=1):=fun e=>h1 e.2
   have d2:((m:Int)==1)=false:=bef (by omega);have D:Hid (dd=C.take m):=(show _=_ by rw[V.o,if_neg ah,al.o]);have T:Hid (m=(C.take m).length):=(show _=_ by rw[llt,E.o];omega);have F:=yo ak.o;have N:=yo aj.o;have U:=yo ai.o;have L:Hid (RdI z z.heap.size (some ⟨r,0,none⟩) m (C.take m)):=ae;have ar:w2.heap.size<=z.heap.size:=(by omega);go_wp2_with ((go_at_call 154;(with_reducible refine(ac.o _ _ _ _ F.o (by omega) J.o.1 J.o.2).mono ?_);go_must (rintro e w6 ⟨rfl,g⟩;have s:=yo (Arr.later N.o g);have a7:=s.o.cell (k:=0) rfl;have aw:=s.o.cell (k:=1) rfl;have a6:=s.o.frozen 0;have aq:=s.o.frozen 1;have S:=yo (U.o.trans (g.mono (by omega)));have O:=yo (RdI.later L.o g);have P:=yo (RdI.here (RdI.blw (RdI.cut (k:=0) (m:=q) (A':=some ⟨u,0,none⟩) F.o (by omega) (fun _=>rfl)) (g.mono (by omega))));clear g)));refine bodyPost_ret (v:=.agg #[.slice (some ⟨u,0,none⟩) q c2,.slice (some ⟨r,0,none⟩) m c3]) ?_ rfl ?_
   ·unfold results
    go_simp
   ·refine⟨_,q,c2,_,m,c3,rfl,by omega,by omega,?_,?_,?_,?_,?_⟩
    ·rw[H.o,G.o,llt,X.o];omega
    ·rw[D.o];exact T.o
    ·rw[H.o,G.o]
     have:=RdI.far (RdI.far P.o (p:=⟨w.heap.size,0,none⟩) (by show u≠w.heap.size;omega) (.slice (some ⟨u,0,none⟩) q c2)) (p:=⟨w.heap.size,1,none⟩) (by show u≠w.heap.size;omega) (.slice (some ⟨r,0,none⟩) m c3)
     simpa using this
    ·rw[D.o]
     have:=RdI.far (RdI.far O.o (p:=⟨w.heap.size,0,none⟩) (by show r≠w.heap.size;omega) (.slice (some ⟨u,0,none⟩) q c2)) (p:=⟨w.heap.size,1,none⟩) (by show r≠w.heap.size;omega) (.slice (some ⟨r,0,none⟩) m c3)
     simpa using this
    ·exact(S.o.setCell (p:=⟨w.heap.size,0,none⟩) (nlr _) _).setCell (p:=⟨w.heap.size,1,none⟩) (nlr _) _
 ·have ah:¬(Z=0/\m=1):=fun e=>hx e.1
  have d1:(Z==0)=false:=bef hx;have D:Hid (dd=C.take m):=(show _=_ by rw[V.o,if_neg ah,al.o]);have T:Hid (m=(C.take m).length):=(show _=_ by rw[llt,E.o];omega);have F:=yo ak.o;have N:=yo aj.o;have U:=yo ai.o;have L:Hid (RdI z z.heap.size (some ⟨r,0,none⟩) m (C.take m)):=ae;have ar:w2.heap.size<=z.heap.size:=by omega
  go_wp2_with ((go_at_call 154;(with_reducible refine(ac.o _ _ _ _ F.o (by omega) J.o.1 J.o.2).mono ?_);go_must (rintro e w6 ⟨rfl,g⟩;have s:=yo (Arr.later N.o g);have a7:=s.o.cell (k:=0) rfl;have aw:=s.o.cell (k:=1) rfl;have a6:=s.o.frozen 0;have aq:=s.o.frozen 1;have S:=yo (U.o.trans (g.mono (by omega)));have O:=yo (RdI.later L.o g);have P:=yo (RdI.here (RdI.blw (RdI.cut (k:=0) (m:=q) (A':=some ⟨u,0,none⟩) F.o (by omega) (fun _=>rfl)) (g.mono (by omega))));clear g)));refine bodyPost_ret (v:=.agg #[.slice (some ⟨u,0,none⟩) q c2,.slice (some ⟨r,0,none⟩) m c3]) ?_ rfl ?_
  ·unfold results
   go_simp
  ·refine⟨_,q,c2,_,m,c3,rfl,by omega,by omega,?_,?_,?_,?_,?_⟩
   ·rw[H.o,G.o,llt,X.o];omega
   ·rw[D.o];exact T.o
   ·rw[H.o,G.o]
    have:=RdI.far (RdI.far P.o (p:=⟨w.heap.size,0,none⟩) (by show u≠w.heap.size;omega) (.slice (some ⟨u,0,none⟩) q c2)) (p:=⟨w.heap.size,1,none⟩) (by show u≠w.heap.size;omega) (.slice (some ⟨r,0,none⟩) m c3)
    simpa using this
   ·rw[D.o]
    have:=RdI.far (RdI.far O.o (p:=⟨w.heap.size,0,none⟩) (by show r≠w.heap.size;omega) (.slice (some ⟨u,0,none⟩) q c2)) (p:=⟨w.heap.size,1,none⟩) (by show r≠w.heap.size;omega) (.slice (some ⟨r,0,none⟩) m c3)
    simpa using this
   ·exact(S.o.setCell (p:=⟨w.heap.size,0,none⟩) (nlr _) _).setCell (p:=⟨w.heap.size,1,none⟩) (nlr _) _
end Go.Proofs.YtebbdifhiihfkaaGreatDoor

/- flate: codes' rows beside a writer; what tokens are in bits. -/
namespace Go.Proofs.YtebbdifhiihfkaaGreatDoor
set_option linter.all false
open Go.RowKit
/-- A list's codes may be written. -/
def CodesOK(ls:List Int):Prop:=ls.length<=300/\zau ls=false/\krN ls<=32768
theorem CodesOK.cd{ls:List Int}(h:CodesOK ls):cdE ls=0/\cdL ls=za7 ls:=by
 have h1:krE ls=0:=by unfold krE;rw[if_neg];intro e;rcases e with e|e;have:=h.1;omega;rw[h.2.1] at e;cases e
 have h2:cdE ls=0:=by unfold cdE;rw[if_pos h1,if_neg (by have:=h.2.2;omega)]
 exact⟨h2,by unfold cdL;rw[if_pos h2]⟩
theorem zoJ{ls:List Int}{p:Nat}(h:p<(za7 ls).length):(za7 ls)[p]=zaL ls p:=by simp[za7]
theorem zih(B n c:Nat)(A:Option Addr)(ls:List Int)(w:World)(h:RdI w B A n ls)(z:B<=w.heap.size)(C:1<=n)(q:CodesOK ls):
  Calls Tryz.prog 148 #[.slice A n c] w fun e w'=>∃g r,e=.returned (.tuple #[.slice (some ⟨g,0,none⟩) n r,.int .i64 0])/\w.heap.size<=g/\ownC w' w.heap.size (.slice (some ⟨g,0,none⟩) n r) (za7 ls)/\Below w.heap.size w w':=by
 have t:=h.len;refine(zkj B n c A ls w h z (by have:=q.1;omega)).mono ?_;rintro e w' ⟨A',D,r,rfl,o,s,u⟩;rw[q.cd.2] at s o;rw[zeS,t] at o;subst o;obtain⟨_,g,rfl,hg,_⟩:=s.pos (by omega);exact⟨g,r,by rw[q.cd.1],hg,s,u⟩
theorem zff(g:Nat)(ls:List Int)(p:Nat)(hp:p<ls.length)(o:CodesOK ls)(pv:Value)(bs:List UInt8)(L:List Nat)(w:World)(h:Wr w g pv bs L)(q:L.length+15<=1000000):
  Calls Tryz.prog 149 #[wrV g,.agg #[.int .u32 ((zaL ls p).1:Int),.int .i64 (zaL ls p).2]] w fun e w'=>e=.returned (.tuple #[])/\∃pv' bs',Wr w' g pv' bs' (L++zcj ls p)/\WrFr w w' g pv pv':=by
 obtain⟨t,ht,e,hv⟩:=zg4 o.2.1 o.2.2 p hp;unfold zcj;rw[e];exact zqC g (zaL ls p).1 t pv bs L w h (by omega) (by omega) hv
theorem zdG{ls:List Int}{p:Nat}(hp:p<ls.length)(g:CodesOK ls):(zcj ls p).length<=15:=by
 obtain⟨t,ht,e,hv⟩:=zg4 g.2.1 g.2.2 p hp;unfold zcj;rw[e,zjw];exact ht
/-- The cells of a row of codes beside a writer. -/
def CodeCells(w:World)(g1:Nat)(ls:List Int):Prop:=∀p,p<ls.length->w.cell? ⟨g1,p*2,none⟩=some (.int .u32 ((zaL ls p).1:Int))/\w.cell? ⟨g1,p*2+1,none⟩=some (.int .i64 (zaL ls p).2)
theorem CodeCells.of{w:World}{base o n c:Nat}{ls:List Int}(h:ownC w base (.slice (some ⟨o,0,none⟩) n c) (za7 ls))(q:n=ls.length):CodeCells w o ls:=by
 intro p hp;have g:p<(za7 ls).length:=by rw[zeS];exact hp
 have:=ownC.cell h (by rw[zeS];exact q) (k:=p) g;rw[zoJ g] at this;exact this
theorem CodeCells.bx{w w':World}{g q:Nat}{pv o:Value}{ls:List Int}(h:CodeCells w q ls)(hx:Bx w g pv q)(r:WrFr w w' g pv o):CodeCells w' q ls :=
 fun p hp=>⟨hx.cell r (h p hp).1,hx.cell r (h p hp).2⟩
theorem CodeCells.later{w w':World}{g:Nat}{ls:List Int}(h:CodeCells w g ls)(hg:g<w.heap.size)(o:Below w.heap.size w w'):CodeCells w' g ls :=
 fun p hp=>⟨(World.cell?_of_block (a:=⟨g,p*2,none⟩) (o.block g hg)).trans (h p hp).1,(World.cell?_of_block (a:=⟨g,p*2+1,none⟩) (o.block g hg)).trans (h p hp).2⟩
theorem Wr.later{w w':World}{g:Nat}{pv:Value}{bs:List UInt8}{L:List Nat}(h:Wr w g pv bs L)(o:Below w.heap.size w w'):Wr w' g pv bs L:=⟨h.1.later o,h.2.1.later o,h.2.2⟩
theorem Bx.of{w w':World}{g b:Nat}{pv:Value}{bs:List UInt8}{L:List Nat}(h:Wr w g pv bs L)(o:w.heap.size<=b)(hlt:b<w'.heap.size):Bx w' g pv b:=by
 refine⟨hlt,?_,fun e=>?_⟩
 ·have:=h.1.lt;omega
 ·have:=(olt h.2.1 _ e).2;omega
theorem WrFr.of{w w':World}{g:Nat}{pv:Value}(o:Below w.heap.size w w'):WrFr w w' g pv pv:=⟨o.os,o.tape,o.output,o.size,fun k q _ _=>o.block k q,.inl rfl⟩
/-- A token's bits. -/
def zbY(ll dd:List Int)(t:Tok):List Nat :=
 if t.1=0 then zcj ll t.2.2
 else zcj ll (257+za5 t.1)++lsb (t.1-(lenOf (za5 t.1)).1) (lenOf (za5 t.1)).2++zcj dd (zaK t.2.1)++lsb (t.2.1-(zae (zaK t.2.1)).1) (zae (zaK t.2.1)).2
def ziR(ll dd:List Int)(ts:List Tok):List Nat:=ts.flatMap (zbY ll dd)++zcj ll 256
/-- The codes that tokens want are there. -/
def zgk(ll dd:List Int)(t:Tok):Prop:=zdr t<ll.length/\∀p∈zc8 t,p<dd.length
theorem zqE{k x:Nat}(g:k<=28)(h1:(lenOf k).1<=x)(h2:∀j,k<j->j<=28->x<(lenOf j).1)(o:x<=258):x-(lenOf k).1<2 ^ (lenOf k).2:=by
 have key:∀k,k<=28->(k=28->x<=258)->(k<28->x<(lenOf (k+1)).1)->(lenOf k).1<=x->x-(lenOf k).1<2 ^ (lenOf k).2:=by
  intro k g h1 h2 o;rcases zu0 g with rfl|rfl|rfl|rfl|rfl|rfl|rfl|rfl|rfl|rfl|rfl|rfl|rfl|rfl|rfl|rfl|rfl|rfl|rfl|rfl|rfl|rfl|rfl|rfl|rfl|rfl|rfl|rfl|rfl <;>
   ·simp[lenOf,grp] at h1 h2 o ⊢;omega
 exact key k g (fun _=>o) (fun e=>h2 (k+1) (by omega) (by omega)) h1
theorem zoK{k x:Nat}(g:k<=29)(h1:(zae k).1<=x)(h2:∀j,k<j->j<=29->x<(zae j).1)(o:x<=32768):x-(zae k).1<2 ^ (zae k).2:=by
 have key:∀k,k<=29->(k=29->x<=32768)->(k<29->x<(zae (k+1)).1)->(zae k).1<=x->x-(zae k).1<2 ^ (zae k).2:=by
  intro k g h1 h2 o;rcases zlq g with rfl|rfl|rfl|rfl|rfl|rfl|rfl|rfl|rfl|rfl|rfl|rfl|rfl|rfl|rfl|rfl|rfl|rfl|rfl|rfl|rfl|rfl|rfl|rfl|rfl|rfl|rfl|rfl|rfl|rfl <;>
   ·simp[zae,grp] at h1 h2 o ⊢;omega
 exact key k g (fun _=>o) (fun e=>h2 (k+1) (by omega) (by omega)) h1
theorem zsG{x:Nat}(h:3<=x)(g:x<=258):x-(lenOf (za5 x)).1<2 ^ (lenOf (za5 x)).2:=by
 have:=zcO h;exact zqE this.1 this.2.1 this.2.2 g
theorem zqF{x:Nat}(h:1<=x)(g:x<=32768):x-(zae (zaK x)).1<2 ^ (zae (zaK x)).2:=by
 have:=zcr h;exact zoK this.1 this.2.1 this.2.2 g
theorem zua{o q:List Int}(h1:CodesOK o)(h2:CodesOK q){t:Tok}(r:zci t)(g:zgk o q t):(zbY o q t).length<=if t.1=0 then 15 else 48:=by
 unfold zbY;by_cases e:t.1=0
 ·rw[if_pos e,if_pos e]
  have:=g.1;unfold zdr at this;rw[if_pos e] at this;exact zdG this h1
 ·rw[if_neg e,if_neg e]
  obtain⟨u,h4,s,A⟩:3<=t.1/\t.1<=258/\1<=t.2.1/\t.2.1<=32768:=by rcases r with⟨h,_⟩|h;exact absurd h e;exact h
  have hs:=g.1;unfold zdr at hs;rw[if_neg e] at hs;have z:=g.2 (zaK t.2.1) (by unfold zc8;rw[if_neg e];simp);have B:=zdG hs h1;have C:=zdG z h2;have q3:=zfb (zcO u).1;have q4:=zet (zcr s).1;rw[lla,lla,lla,zaJ,zaJ];omega
end Go.Proofs.YtebbdifhiihfkaaGreatDoor

/- flate: tokens written. -/
namespace Go.Proofs.YtebbdifhiihfkaaGreatDoor
set_option linter.all false
set_option maxRecDepth 100000
set_option maxHeartbeats 6400000
open Go.RowKit
theorem zqG{g o:List Int}{ts:List Tok}{k:Nat}{t:Tok}(h:ts[k]?=some t):(ts.take (k+1)).flatMap (zbY g o)=(ts.take k).flatMap (zbY g o)++zbY g o t:=zdi _ h
theorem zsH{α:Type}{P:α->Prop}{l:List α}(h:∀x∈l,P x)(k:Nat):∀x∈l.take k,P x:=fun x hx=>h x (List.mem_of_mem_take hx)
theorem ziS(B n c G V J cd g:Nat)(A S R:Option Addr)(ts:List Tok)(r u:List Int)(pv:Value)(bs:List UInt8)(L:List Nat)(w:World)
  (hW:Wr w g pv bs L) (h:RdK w B A n ts) (a0:RdI w B S G r) (a4:RdI w B R J u) (hB:B<=g) (hn:n<=50000)
  (I:∀t∈ts,zci t/\zgk r u t) (av:CodesOK r) (aI:CodesOK u) (b6:256<G) (bb:1<=J) (ao:∀k,k<=n->L.length+((ts.take k).flatMap (zbY r u)).length+100<=1000000) :
  Calls Tryz.prog 120 #[wrV g,.slice A n c,.agg #[.slice S G V,.slice R J cd]] w fun e w'=>e=.returned (.tuple #[])/\∃pv' bs',Wr w' g pv' bs' (L++ziR r u ts)/\WrFr w w' g pv pv':=by
 have HR:=yo h;have bd:=yo I;have ae:=yo av;have a7:=yo aI;have aZ:=yo ao;have hl:=h.len;have aU:=a0.len;have aS:=a4.len;have bK:=hW.1.lt;have b0:Hid (∀k,pv.ownBlock=some k->B<=k):=(show ∀k,_ from fun k hk=>by have:=(olt hW.2.1 k hk).1;omega);have aH:=yo (zih B G V S r ((w.alloc (.cells #[.pointer (some ⟨g,0,none⟩)] 155)).alloc (.cells #[.slice S G V,.slice R J cd] 152)) ((a0.alloc (by omega) _).alloc (by rw[wsa];omega) _) (by rw[wsa,wsa];omega) (by omega) av);have a9:=yo ((hW.alloc (.cells #[.pointer (some ⟨g,0,none⟩)] 155)).alloc (.cells #[.slice S G V,.slice R J cd] 152));have a1:=yo ((Bx.new hW (.cells #[.pointer (some ⟨g,0,none⟩)] 155)).alloc (.cells #[.slice S G V,.slice R J cd] 152));have aT:=yo ((Arr.new w [.pointer (some ⟨g,0,none⟩)] 155).alloc (.cells #[.slice S G V,.slice R J cd] 152));have aP:Hid (Arr ((w.alloc (.cells #[.pointer (some ⟨g,0,none⟩)] 155)).alloc (.cells #[.slice S G V,.slice R J cd] 152)) (w.heap.size+1) [.slice S G V,.slice R J cd]):=(show Arr _ _ _ by have:=Arr.new (w.alloc (.cells #[.pointer (some ⟨g,0,none⟩)] 155)) [.slice S G V,.slice R J cd] 152;rwa[wsa] at this);have aC:=yo (((WrFr.refl w g pv).alloc (.cells #[.pointer (some ⟨g,0,none⟩)] 155)).alloc (.cells #[.slice S G V,.slice R J cd] 152));have aO:=yo ((a4.alloc (by omega) (.cells #[.pointer (some ⟨g,0,none⟩)] 155)).alloc (by rw[wsa];omega) (.cells #[.slice S G V,.slice R J cd] 152));have aQ:=yo ((h.alloc (by omega) (.cells #[.pointer (some ⟨g,0,none⟩)] 155)).alloc (by rw[wsa];omega) (.cells #[.slice S G V,.slice R J cd] 152));have N:Hid (((w.alloc (.cells #[.pointer (some ⟨g,0,none⟩)] 155)).alloc (.cells #[.slice S G V,.slice R J cd] 152)).heap.size=w.heap.size+2):=(show _=_ by rw[wsa,wsa]);clear hW h a0 a4 I av aI ao;go_enter Tryz.func120,Tryz.ntmps120;go_upto_region 3 with(first
  |(go_at_call 148;(with_reducible refine aH.o.mono ?_);go_must (rintro e w3 ⟨g3,c3,rfl,bm,au,M⟩;have bl:=M.size;rw[N.o] at bl bm;have ap:=(olt au g3 rfl).2;have an:=yo (CodeCells.of au aU.symm);have ay:=yo (a9.o.later M);have aD:=yo (Bx.of a9.o (w':=w3) (b:=g3) (by rw[N.o];omega) ap);have ak:=(WrFr.of (g:=g) (pv:=pv) M);have Z:=yo (a1.o.wr ak);have ar:=yo (aT.o.wr a1.o ak);have aq:=aP.o.later M;have ba:=aq.cell (k:=1) rfl;have aX:=yo (aC.o.trans ak);have ag:=yo (zih B J cd R u w3 (RdI.blw aO.o (M.mono (by rw[N.o];omega))) (by omega) bb a7.o);have aY:=yo (RdK.blw aQ.o (M.mono (by rw[N.o];omega)));clear au M ak aH a9 a1 aT aP aC aO aQ aq))
  |(go_at_call 148;(with_reducible refine ag.o.mono ?_);go_must (rintro e w4 ⟨g4,c4,rfl,bi,aA,T⟩;have bC:=T.size;have aL:=(olt aA g4 rfl).2;have aK:=yo (CodeCells.of aA aS.symm);have Y:=yo (an.o.later ap T);have aE:=yo (ay.o.later T);have aa:=(WrFr.of (g:=g) (pv:=pv) T);have a5:=yo (aD.o.wr aa);have bf:=yo (Bx.of ay.o (w':=w4) (b:=g4) bi aL);have F:=yo (Z.o.wr aa);have H:=yo (ar.o.wr Z.o aa);have bt:=yo (aX.o.trans aa);have bh:=yo (RdK.blw aY.o (T.mono (by omega)));clear aA T aa ag an ay aD Z ar aX aY ba)))
 clear N;have aJ:Hid (L++(ts.take 0).flatMap (zbY r u)=L):=(show _=_ by simp);go_wp2_with fail;go_loopw [29] (fun vi wr=>∃k:Nat,k<=n/\vi=.int .i64 k/\∃pq bq,Hid (Wr wr g pq bq (L++(ts.take k).flatMap (zbY r u)))/\Hid (WrFr w4 wr g pv pq)) (fun vi _=>n-(intOf vi).toNat)
 case atStart=>exact⟨0,Nat.zero_le _,rfl,pv,bs,(show Wr _ _ _ _ _ by rw[aJ.o];exact aE.o),WrFr.refl _ _ _⟩
 case round =>
  clear aE aJ;obtain⟨k,hk,rfl,pq,bq,HW,HF⟩:=hrel;have bB:=HF.o.size;by_cases hlt:k<n
  ·have b2:(k:Int)<(n:Int):=by omega
   obtain⟨b,o,⟨a,d,y⟩,rfl,hb,HX,e1,e2,e3⟩:=(bh.o.blw (HF.o.below (B:=B) (by omega) hB b0.o)).one hlt;have I:=bd.o _ (List.mem_of_getElem? HX.o);have z:Hid (L++(ts.take (k+1)).flatMap (zbY r u)=L++(ts.take k).flatMap (zbY r u)++zbY r u (a,d,y)):=(show _=_ by rw[zqG HX.o,List.append_assoc]);have bp:=aZ.o k hk;have bz:(L++(ts.take k).flatMap (zbY r u)).length+100<=1000000:=(by rw[lla];omega);generalize L++(ts.take k).flatMap (zbY r u)=LL at *;have bE:¬b=wr.heap.size:=(by omega);obtain⟨W,X⟩:∃W,wr.alloc (.cells #[.int .i64 (a:Int),.int .i64 (d:Int),.int .i64 (y:Int)] 184)=W:=⟨_,rfl⟩;obtain⟨b5,aN⟩:∃b5,wr.heap.size=b5:=⟨_,rfl⟩;have ah:Hid (Wr W g pq bq LL):=(show Wr _ _ _ _ _ by rw[<-X];exact HW.o.alloc _);have E:Hid (WrFr w4 W g pv pq):=(show WrFr _ _ _ _ _ by rw[<-X];exact HF.o.alloc _);have aF:Hid (Arr W b5 [.int .i64 (a:Int),.int .i64 (d:Int),.int .i64 (y:Int)]):=(show Arr _ _ _ by rw[<-X,<-aN];exact Arr.new wr [.int .i64 (a:Int),.int .i64 (d:Int),.int .i64 (y:Int)] _);have al:Hid (Bx W g pq b5):=(show Bx _ _ _ _ by rw[<-X,<-aN];exact Bx.new HW.o _);have b3:=yo (F.o.wr E.o);have bo:=(H.o.wr F.o E.o).cell (k:=0) rfl;obtain⟨bN,bF,bJ⟩:=aF.o.c3;clear HW HF;by_cases ha:a=0
   ·have d1:((a:Int)==0)=true:=by rw[ha];rfl
    have bA:wr.alloc (.cells #[.int .i64 0,.int .i64 (d:Int),.int .i64 (y:Int)] 184)=W:=(by rw[<-X,ha];rfl);have hy:y<r.length:=(by have:=I.2.1;unfold zdr at this;rw[if_pos ha] at this;exact this);have bP:(y:Int)<(G:Int):=(by omega);have aj:zbY r u (a,d,y)=zcj r y:=if_pos ha;rw[aj] at z;obtain⟨q1,q2⟩:=Y.o.bx a5.o E.o y hy;have HC:=yo (zff g r y hy ae.o _ _ _ _ ah.o.drew (by omega));generalize zaL r y=cv at *;go_wp2_with fail
    go_still_tail 6,(by kernel_rfl)
    go_wp2_with ((go_at_call 149;(with_reducible refine HC.o.mono ?_);go_must (rintro e w6 ⟨rfl,p6,ai,D,C⟩;rw[<-z.o] at D;have a6:=yo D;have U:=yo (E.o.drew.trans C);clear D C)));go_roundw
    case rel=>exact⟨k+1,by omega,by go_num,p6,ai,a6,U⟩
    case measure=>simp[intOf];omega
   ·have d1:((a:Int)==0)=false:=bef (by omega)
    obtain⟨h3,h4,h5,h6⟩:3<=a/\a<=258/\1<=d/\d<=32768:=by rcases I.1 with⟨h,_⟩|h;exact absurd h ha;exact h
    have af:257+za5 a<r.length:=(by have:=I.2.1;unfold zdr at this;rw[if_neg ha] at this;exact this);have ab:zaK d<u.length:=I.2.2 (zaK d) (by unfold zc8;rw[if_neg ha];simp);have aj:zbY r u (a,d,y)=zcj r (257+za5 a)++lsb (a-(lenOf (za5 a)).1) (lenOf (za5 a)).2++zcj u (zaK d)++lsb (d-(zae (zaK d)).1) (zae (zaK d)).2:=if_neg ha;rw[aj] at z;have P:=zsG h3 h4;have O:=zqF h5 h6;have bw:=(zfb (zcO h3).1).2;have bj:=(zet (zcr h5).1).2;obtain⟨s,hs⟩:∃s,257+za5 a=s:=⟨_,rfl⟩;obtain⟨q,hq⟩:∃q,zaK d=q:=⟨_,rfl⟩;obtain⟨m1,a8⟩:∃m1,(lenOf (za5 a)).2=m1:=⟨_,rfl⟩;obtain⟨m2,ax⟩:∃m2,(zae (zaK d)).2=m2:=⟨_,rfl⟩;obtain⟨r1,a3⟩:∃r1,a-(lenOf (za5 a)).1=r1:=⟨_,rfl⟩;obtain⟨r2,a2⟩:∃r2,d-(zae (zaK d)).1=r2:=⟨_,rfl⟩;have br:=yo (fun w=>zkc a s m1 r1 h3 h4 hs a8 a3 w);have N:=yo (fun w=>zhS d q m2 r2 h5 h6 hq ax a2 w);rw[hs] at af z;rw[a8] at P bw z;rw[a3] at P z;rw[ax] at O bj z;rw[a2] at O z;rw[hq] at ab z;rw[<-List.append_assoc,<-List.append_assoc,<-List.append_assoc] at z;clear hs hq a8 ax a3 a2 aj I;have bg:(s:Int)<(G:Int):=(by omega);have bD:(q:Int)<(J:Int):=(by omega);obtain⟨q1,q2⟩:=Y.o.bx a5.o E.o s af;have b8:=zdG af ae.o;have b7:=zdG ab a7.o;have HC:=yo (zff g r s af ae.o _ _ _ _ ah.o.drew (by omega));generalize zaL r s=cv at *;go_wp2_with (go_at_call 150;(with_reducible refine(br.o _).mono ?_);go_must (rintro e w9 ⟨rfl,rfl⟩))
    go_still_tail 5,(by kernel_rfl)
    go_wp2_with (first
     |(go_at_call 149;(with_reducible refine HC.o.mono ?_);go_must (rintro e w6 ⟨rfl,p6,ai,D,C⟩;have aB:=yo (aF.o.drew.wr al.o.drew C);have am:=yo (al.o.drew.wr C);have U:=yo (E.o.drew.trans C);have bM:=(H.o.wr F.o U.o).cell (k:=0) rfl;have bG:=aB.o.cell (k:=1) rfl;have HP:=yo (zbX g (r1:Int) (m1:Int) r1 m1 rfl rfl _ _ _ _ D (by rw[lla];omega) (by omega) P);clear D C))
     |(go_at_call 147;(with_reducible refine HP.o.mono ?_);go_must (rintro e w7 ⟨rfl,p7,bL,aG,ac⟩;have b1:=yo aG;have bv:=yo (aB.o.wr am.o ac);have b4:=yo (am.o.wr ac);have az:=yo (U.o.trans ac);have bH:=(H.o.wr F.o az.o).cell (k:=0) rfl;have bI:=bv.o.cell (k:=1) rfl;clear aG ac))
     |(go_at_call 151;(with_reducible refine(N.o _).mono ?_);go_must (rintro e w9 ⟨rfl,rfl⟩)))
    obtain⟨k1,k2⟩:=aK.o.bx bf.o az.o q ab;have ag:=yo (zff g u q ab a7.o _ _ _ _ b1.o.drew (by rw[lla,lla,zaJ];omega));generalize zaL u q=cu at *
    go_still_tail 5,(by kernel_rfl)
    go_wp2_with (first
     |(go_at_call 149;(with_reducible refine ag.o.mono ?_);go_must (rintro e w8 ⟨rfl,p8,bQ,aW,aM⟩;have aV:=yo (az.o.drew.trans aM);have bO:=(H.o.wr F.o aV.o).cell (k:=0) rfl;have bk:=yo (zbX g (r2:Int) (m2:Int) r2 m2 rfl rfl _ _ _ _ aW (by rw[lla,lla,lla,zaJ];omega) (by omega) O);clear aW aM))
     |(go_at_call 147;(with_reducible refine bk.o.mono ?_);go_must (rintro e w9 ⟨rfl,p9,bc,aw,aR⟩;rw[<-z.o] at aw;have bu:=yo aw;have bn:=yo (aV.o.trans aR);clear aw aR)))
    go_roundw
    case rel=>exact⟨k+1,by omega,by go_num,p9,bc,bu,bn⟩
    case measure=>simp[intOf];omega
  ·obtain rfl:k=n:=by omega
   have HT:Hid (L++(ts.take k).flatMap (zbY r u)++zcj r 256=L++ziR r u ts):=(show _=_ by rw[List.take_of_length_le (by omega),List.append_assoc];rfl);have bp:=aZ.o k (nlr _);have b9:(L++(ts.take k).flatMap (zbY r u)).length+100<=1000000:=(by rw[lla];omega);generalize L++(ts.take k).flatMap (zbY r u)=LL at *;have ah:=yo HW.o;have E:=yo HF.o;obtain⟨W,rfl⟩:∃W:World,W=wr:=⟨_,rfl⟩;have bo:=(H.o.wr F.o E.o).cell (k:=0) rfl;obtain⟨q1,q2⟩:=Y.o.bx a5.o E.o 256 (by omega);have q1:W.cell? ⟨g3,512,none⟩=_:=q1;have q2:W.cell? ⟨g3,513,none⟩=_:=q2;have bg:(256:Int)<(G:Int):=(by omega);have HC:=yo (zff g r 256 (by omega) ae.o _ _ _ _ ah.o.drew (by omega));generalize zaL r 256=cv at *;go_wp2_with fail
   go_still_tail 4,(by kernel_rfl)
   go_wp2_with (go_at_call 149;(with_reducible refine HC.o.mono ?_);go_must (rintro e w6 ⟨rfl,p6,ai,D,C⟩;rw[HT.o] at D;have a6:=yo D;have U:=yo (E.o.drew.trans C);clear D C));(try simp only[Exit.inBlock,Exit.then])
   first|(refine bodyPost_ret (results_none rfl _ _ _) rfl ?_)|(refine bodyPost_end (results_none rfl _ _ _) rfl ?_)
   exact⟨rfl,p6,ai,a6.o,bt.o.trans U.o⟩
end Go.Proofs.YtebbdifhiihfkaaGreatDoor

