/- XWriteP XWrite XWrite2 XInts XFirst5 XNext5 XHuffReads XHuffBackP -/
import Derived.Test.YtebbdifhiihfkaaGreatDoorMm15
import Derived.Test.YtebbdifhiihfkaaGreatDoorMm02
import Derived.Test.YtebbdifhiihfkaaGreatDoorMm14
import Derived.Test.YtebbdifhiihfkaaGreatDoorMm12
import Derived.Lib.LazyBuf
namespace Go.Proofs.YtebbdifhiihfkaaGreatDoor
set_option linter.all false
open Go.RowKit
/-- Bytes hold bits: so many bytes, behind the last bit nothing. -/
def WB(bs:List UInt8)(L:List Nat):Prop:=bs.length=(L.length+7) / 8/\∀p,zaE bs p=L.getD p 0
theorem WB.nil:WB [] []:=⟨rfl,fun p=>by simp[zaE]⟩
theorem zsz(x b t q:Nat)(r:b<2)(hx:x / 2 ^ t % 2=0):(x |||b*2 ^ t) / 2 ^ q % 2=if q=t then b else x / 2 ^ q % 2:=by
 have key:∀y:Nat,y / 2 ^ q % 2=(y.testBit q).toNat:=fun y=>by
  rw[Nat.testBit_eq_decide_div_mod_eq];rcases Nat.mod_two_eq_zero_or_one (y / 2 ^ q) with h|h<;>simp[h]
 have g:x.testBit t=false:=by rw[Nat.testBit_eq_decide_div_mod_eq];simp[hx]
 rw[key,key,Nat.testBit_or];rcases Nat.lt_or_ge b 1 with h0|h1
 ·obtain rfl:b=0:=by omega
  rw[Nat.zero_mul,Nat.zero_testBit,Bool.or_false];split
  ·rename_i e;subst e;rw[g];rfl
  ·rfl
 ·obtain rfl:b=1:=by omega
  rw[Nat.one_mul,Nat.testBit_two_pow];by_cases e:q=t
  ·subst e;rw[if_pos rfl];simp
  ·rw[if_neg e]
   have:¬t=q:=fun o=>e o.symm
   simp[this]
theorem zlM(x b t:Nat)(hx:x<256)(g:b<2)(ht:t<8):x |||b*2 ^ t<256:=by
 have h1:2 ^ t<=2 ^ 7:=Nat.pow_le_pow_right (by decide) (by omega);have h2:b*2 ^ t<=1*2 ^ t:=Nat.mul_le_mul_right _ (by omega);exact Nat.or_lt_two_pow (n:=8) hx (by omega)
/-- The bytes with room for one bit more. -/
def zdU(bs:List UInt8)(N:Nat):List UInt8:=if N % 8=0 then bs++[0] else bs
theorem zid(bs:List UInt8)(N p:Nat):zaE (zdU bs N) p=zaE bs p:=by
 unfold zdU;split
 ·unfold zaE
  congr 2
  rw[lgd,lgd,List.getElem?_append];split
  ·rfl
  ·rw[List.getElem?_eq_none (l:=bs) (by omega)]
   cases h:p / 8-bs.length with
   |zero=>rfl
   |succ k=>simp
 ·rfl
theorem zlN{bs:List UInt8}{L:List Nat}(h:WB bs L):(zdU bs L.length).length=L.length / 8+1:=by
 have:=h.1;unfold zdU;split
 ·rw[lla];simp;omega
 ·omega
theorem WB.push{bs:List UInt8}{L:List Nat}(h:WB bs L){b:Nat}(s:b<2){x:UInt8}(hx:(zdU bs L.length)[L.length / 8]?=some x):
  WB ((zdU bs L.length).set (L.length / 8) (UInt8.ofNat (x.toNat |||b*2 ^ (L.length % 8)))) (L++[b]):=by
 have t:=zlN h;refine⟨?_,fun p=>?_⟩
 ·rw[List.length_set,t,lla];simp;omega
 ·have r:x.toNat / 2 ^ (L.length % 8) % 2=0:=by
   have e:=zid bs L.length L.length;rw[h.2 L.length] at e;unfold zaE at e;rw[lgd,hx] at e;rw[lgd,List.getElem?_eq_none (nlr _)] at e;exact e
  have hv:(UInt8.ofNat (x.toNat |||b*2 ^ (L.length % 8))).toNat=x.toNat |||b*2 ^ (L.length % 8):=by
   have:=zlM x.toNat b (L.length % 8) x.toNat_lt s (Nat.mod_lt _ (by decide));simp only[UInt8.toNat_ofNat'];exact Nat.mod_eq_of_lt this
  by_cases e:p / 8=L.length / 8
  ·unfold zaE
   rw[lgd,List.getElem?_set,if_pos e.symm,if_pos (by omega)];show(UInt8.ofNat _).toNat / 2 ^ (p % 8) % 2=_;rw[hv,zsz _ _ _ _ s r];by_cases e2:p % 8=L.length % 8
   ·obtain rfl:p=L.length:=by omega
    rw[if_pos rfl,lgd,List.getElem?_append_right (nlr _),Nat.sub_self];rfl
   ·rw[if_neg e2]
    have g:=zid bs L.length p;rw[h.2 p] at g;unfold zaE at g;rw[lgd,e,hx] at g;have u:x.toNat / 2 ^ (p % 8) % 2=L.getD p 0:=g;rw[u,lgd,lgd,List.getElem?_append];split
    ·rfl
    ·rename_i q
     have:¬p=L.length:=fun e=>e2 (by rw[e])
     rw[List.getElem?_eq_none (l:=L) (by omega)];cases hk:p-L.length with
     |zero=>omega
     |succ k=>simp
  ·have g:=zid bs L.length p
   rw[h.2 p] at g;have z:zaE ((zdU bs L.length).set (L.length / 8) (UInt8.ofNat (x.toNat |||b*2 ^ (L.length % 8)))) p=zaE (zdU bs L.length) p:=by
    unfold zaE;rw[lgd,lgd,List.getElem?_set,if_neg (fun o=>e o.symm)]
   rw[z,g,lgd,lgd,List.getElem?_append];split
   ·rfl
   ·rename_i q
    have:¬p=L.length:=fun o=>e (by rw[o])
    rw[List.getElem?_eq_none (l:=L) (by omega)];cases hk:p-L.length with
    |zero=>omega
    |succ k=>simp
/-- The first k bits of a number of n bits, the greatest first. -/
def msb(v n:Nat):Nat->List Nat
 |0=>[]
 |k+1=>msb v n k++[v / 2 ^ (n-1-k) % 2]
theorem zjw(v n k:Nat):(msb v n k).length=k:=by
 induction k with
 |zero=>rfl
 |succ k ih=>rw[msb,lla,ih];rfl
/-- The bits of a place's code. -/
def zcj(ls:List Int)(p:Nat):List Nat:=msb (zaL ls p).1 (zaL ls p).2.toNat (zaL ls p).2.toNat
end Go.Proofs.YtebbdifhiihfkaaGreatDoor

/- Writers of bits. -/
namespace Go.Proofs.YtebbdifhiihfkaaGreatDoor
set_option linter.all false
set_option maxRecDepth 100000
set_option maxHeartbeats 3200000
open Go.RowKit
/-- What a writer changes: its block, its row, new blocks. -/
structure WrFr(w w':World)(g:Nat)(pv pv':Value):Prop where
 os:w'.os=w.os
 tape:w'.tape=w.tape
 output:w'.output=w.output
 size:w.heap.size<=w'.heap.size
 block:∀k,k<w.heap.size->k≠g->pv.ownBlock≠some k->w'.heap[k]?=w.heap[k]?
 own:pv'.ownBlock=pv.ownBlock\/∃k,w.heap.size<=k/\pv'.ownBlock=some k
section
variable {w w' w'' : World} {g : Nat} {pv pv' pv'' : Value}
theorem WrFr.refl(w:World)(g:Nat)(pv:Value):WrFr w w g pv pv:=⟨rfl,rfl,rfl,nlr _,fun _ _ _ _=>rfl,.inl rfl⟩
theorem WrFr.trans(h:WrFr w w' g pv pv')(k:WrFr w' w'' g pv' pv''):WrFr w w'' g pv pv'':=by
 refine⟨k.os.trans h.os,k.tape.trans h.tape,k.output.trans h.output,nlt h.size k.size,fun i hi hg hp=>?_,?_⟩
 ·refine(k.block i (Nat.lt_of_lt_of_le hi h.size) hg ?_).trans (h.block i hi hg hp)
  rcases h.own with e | ⟨j,q,e⟩
  ·rw[e];exact hp
  ·rw[e];intro o;injection o with o;omega
 ·rcases k.own with e | ⟨j,q,e⟩
  ·rcases h.own with o | ⟨j,q,o⟩
   ·exact .inl (e.trans o)
   ·exact .inr ⟨j,q,e.trans o⟩
  ·exact .inr ⟨j,nlt h.size q,e⟩
theorem WrFr.setg(h:WrFr w w' g pv pv')(i:Nat)(v:Value):WrFr w (w'.setCell ⟨g,i,none⟩ v) g pv pv' :=
 ⟨h.os,h.tape,h.output,by simp;exact h.size,fun k o hg hp=>(Below.heap_setCell _ _ _ _ (fun e=>hg e)).trans (h.block k o hg hp),h.own⟩
theorem WrFr.setr{o m c:Nat}(h:WrFr w w' g pv (.slice (some ⟨o,0,none⟩) m c))(i:Nat)(v:Value):WrFr w (w'.setCell ⟨o,i,none⟩ v) g pv (.slice (some ⟨o,0,none⟩) m c):=by
 refine⟨h.os,h.tape,h.output,by simp;exact h.size,fun k r hg hp=>?_,h.own⟩;refine(Below.heap_setCell _ _ _ _ (fun e0:k=o=>?_)).trans (h.block k r hg hp);subst e0;rcases h.own with e | ⟨j,s,e⟩
 ·exact hp e.symm
 ·have q:some k=some j:=e
  injection q with q;omega
theorem zkn(v:Nat)(hv:v<4294967296):bits .and .u32 (v:Int) 1=((v % 2:Nat):Int):=by
 rw[show(1:Int)=((1:Nat):Int) from rfl,u32_and_nat _ _ hv (by decide),Nat.and_one_is_mod]
/-- What a bit put into a byte gives. -/
theorem znG(x:UInt8)(v t:Nat)(hv:v<4294967296)(ht:t<8):
  bits .or .u8 (x.toNat:Int) (bits .and .u32 (v:Int) 1 % 256*2 ^ t % 256)=((UInt8.ofNat (x.toNat |||v % 2*2 ^ t)).toNat:Int):=by
 have s:v % 2<2:=Nat.mod_lt _ (by decide);have q:bits .and .u32 (v:Int) 1=((v % 2:Nat):Int):=by
  rw[show(1:Int)=((1:Nat):Int) from rfl,u32_and_nat _ _ hv (by decide),Nat.and_one_is_mod]
 have hx:=x.toNat_lt;have o:=zlM x.toNat (v % 2) t hx s ht;rw[q];generalize v % 2=b at *;have h1:2 ^ t<=2 ^ 7:=Nat.pow_le_pow_right (by decide) (by omega);have h2:b*2 ^ t<=1*2 ^ t:=Nat.mul_le_mul_right _ (by omega);have z:(b:Int) % 256=b:=Int.emod_eq_of_lt (by omega) (by omega);have r:(b:Int)*2 ^ t=((b*2 ^ t:Nat):Int):=by push_cast;rfl
 rw[z,r];generalize b*2 ^ t=u at *;rw[Int.emod_eq_of_lt (by omega) (by omega),u8_or_nat _ _ hx (by omega)];simp only[UInt8.toNat_ofNat'];rw[Nat.mod_eq_of_lt o]
theorem WrFr.drew(h:WrFr w w' g pv pv'):WrFr w w'.drew g pv pv':=⟨h.os,h.tape,h.output,h.size,h.block,h.own⟩
theorem WrFr.grown{q:Value}(o:Obj)(h:(w.alloc o).grownBy w' pv.ownBlock)(r:q.ownBlock=pv.ownBlock\/q.ownBlock=some (w.alloc o).heap.size):WrFr w w' g pv q:=by
 refine⟨h.os,h.tape,h.output,nlt (by simp) h.size,fun k s _ hp=>?_,?_⟩
 ·exact(h.block k (by simp;omega) (fun e=>hp e.symm)).trans (heap_alloc_old w o s)
 ·rcases r with e|e
  ·exact .inl e
  ·exact .inr ⟨_,by simp,e⟩
theorem WrFr.below{B:Nat}(h:WrFr w w' g pv pv')(q:B<=w.heap.size)(hg:B<=g)(hp:∀k,pv.ownBlock=some k->B<=k):Below B w w' :=
 ⟨h.os,h.tape,h.output,h.size,fun k o=>h.block k (by omega) (by omega) (fun e=>by have:=hp k e;omega)⟩
end
theorem ownB.at0{w:World}{base n c:Nat}{A:Option Addr}{bs:List UInt8}(h:ownB w base (.slice A n c) bs)(t:0<n):n=bs.length/\∃g,A=some ⟨g,0,none⟩/\base<=g/\g<w.heap.size:=by
 rcases h.2 with⟨o,_⟩ | ⟨g,r,q,o,s,hg,_⟩
 ·injection o with _ h2;omega
 ·injection o with h1 h2
  exact⟨h2,g,h1,s,(olt h g (by rw[h1];rfl)).2⟩
theorem znH(g N v:Nat)(pv:Value)(bs:List UInt8)(L:List Nat)(w:World)(hA:Arr w g [pv,.int .i64 (N:Int)])(ho:ownB w (g+1) pv bs)(hW:WB bs L)(hN:L.length=N)(hb:N<=1000000)(hv:v<4294967296):
  Calls Tryz.prog 182 #[.pointer (some ⟨g,0,none⟩),.int .u32 (v:Int)] w fun e w'=>e=.returned (.tuple #[])/\∃pv' bs',Arr w' g [pv',.int .i64 ((N+1:Nat):Int)]/\ownB w' (g+1) pv' bs'/\WB bs' (L++[v % 2])/\WrFr w w' g pv pv':=by
 obtain⟨Ap,cp,rfl,-,-,-⟩:=ho.form;have E:=yo hA;have u:=yo ho;have HW:=yo hW;have D:=zlN hW;rw[hN] at D;have ag:=yo D;have H:=yo (fun x hx=>WB.push hW (b:=v % 2) (Nat.mod_lt _ (by decide)) (x:=x) hx);rw[hN] at H;have a1:=hA.lt;have G:bs.length<=200000:=by have:=hW.1;omega
 have c0:=hA.cell (k:=0) rfl;have c1:=hA.cell (k:=1) rfl;clear hA ho hW;have a0:(N:Int).tdiv 8=((N / 8:Nat):Int):=rfl;have a2:(N:Int).tmod 8=((N % 8:Nat):Int):=rfl;have ht:N % 8<8:=Nat.mod_lt _ (by decide);by_cases h8:N % 8=0
 ·have d8:((N:Int) % 8==0)=true:=by simp;omega
  have aj:Hid (zdU bs N=bs++[0]):=(show _=_ by unfold zdU;rw[if_pos h8]);go_enter Tryz.func182,Tryz.ntmps182;go_upto_region 2 with(at_builtin;go_must (refine zat rfl (.tmp 14) (.tmp 15) rfl (g+1) _ bs rfl (ownB.alloc u.o _) (w.heap.size+1) 1 1 (some ⟨w.heap.size,0,none⟩) [0] rfl (zfN w 0 0 rfl) (by omega) (by simp;omega) ?_;intro v1 w3 C ae ai ah;obtain⟨A3,c3,rfl,ar,-,-⟩:=C.form;have Z:=yo (show WrFr w w3 g (.slice Ap bs.length cp) (.slice A3 (bs++[(0:UInt8)]).length c3) from WrFr.grown (g:=g) _ ae ah);rw[show(bs++[(0:UInt8)]).length=bs.length+1 by simp] at C Z ⊢;have S:=yo ((E.o.alloc (.cells #[.int .u8 0] 5)).blw ai (Nat.lt_succ_self g));have R:=yo C;have al:=S.o.cell (k:=0) rfl;have au:=S.o.frozen 0;clear C ai ah ar E u ae));obtain⟨o,F,rfl,ao,af⟩:=ownB.at0 R.o (by omega);have E:=yo (S.o.set 0 (.slice (some ⟨F,0,none⟩) (bs.length+1) c3));have u:=yo (ownB.far R.o (g:=g) (zbu R.o (Nat.lt_succ_self g)) 0 (.slice (some ⟨F,0,none⟩) (bs.length+1) c3));have W:=yo (Z.o.setg 0 (.slice (some ⟨F,0,none⟩) (bs.length+1) c3));have z:=yo aj.o;rw[<-aj.o] at o u;clear S R Z al au c0 c1;generalize w3.setCell ⟨g,0,none⟩ (.slice (some ⟨F,0,none⟩) (bs.length+1) c3)=wq at *;obtain⟨m,T⟩:∃m,bs.length+1=m:=⟨_,rfl⟩;rw[T] at o u W E;simp only[T];have z:Hid (zdU bs N=zdU bs N):=(show _=_ from rfl);have az:¬g=F:=by omega
  have I:¬F=g:=by omega
  have O:N / 8<m:=by omega
  obtain⟨x,HX,cx⟩:=u.o.byte o (k:=N / 8) O;have fx:=u.o.frozen o (N / 8);have c0:=E.o.cell (k:=0) rfl;have c1:=E.o.cell (k:=1) rfl;have f1:=E.o.frozen 1;have A:=yo (znG x v (N % 8) hv ht);have B:=yo (H.o x (by rw[z.o];exact HX.o));rw[z.o] at B;obtain⟨y,hy⟩:∃y:UInt8,UInt8.ofNat (x.toNat |||v % 2*2 ^ (N % 8))=y:=⟨_,rfl⟩;rw[hy] at A B;have U:=yo (ownB.far (ownB.store u.o o (N / 8) y) (g:=g) (zbu (ownB.store u.o o (N / 8) y) (Nat.lt_succ_self g)) 1 (.int .i64 ((N:Int)+1))).drew;have Y:=yo ((E.o.far (p:=⟨F,N / 8,none⟩) I (.int .u8 (y.toNat:Int))).set 1 (.int .i64 ((N:Int)+1))).drew;have P:=yo ((W.o.setr (N / 8) (.int .u8 (y.toNat:Int))).setg 1 (.int .i64 ((N:Int)+1))).drew;clear u E W HX H hy;have M:=A.o;have eb:bits .and .u32 (v:Int) 1=((v % 2:Nat):Int):=zkn v hv;rw[eb] at M;have aw:v % 2<2:=Nat.mod_lt _ (by decide);obtain⟨s,hs,r⟩:∃s:Nat,s<256/\(((v % 2:Nat):Int) % 256*2 ^ (N % 8) % 256)=(s:Int):=by
   refine⟨(((v % 2:Nat):Int) % 256*2 ^ (N % 8) % 256).toNat,?_,?_⟩<;>omega
  rw[r] at M;have HY:Hid (y.toNat<256):=y.toNat_lt;generalize y.toNat=yn at *;generalize J:v % 2=b at *;have aa:=yo J;clear J;have ab:(b:Int) % 256=b:=Int.emod_eq_of_lt (by omega) (by omega);rw[ab] at r;generalize hq:N / 8=q at *;generalize X:N % 8=t at *;have ak:(N:Int) / 8=(q:Int):=by omega
  have an:(N:Int) % 8=(t:Int):=by omega
  have am:IntKind.i64.wrap (q:Int)=(q:Int):=zaa q (by omega);have aq:IntKind.i64.wrap (t:Int)=(t:Int):=zaa t (by omega);have av:IntKind.u8.wrap (b:Int)=(b:Int):=by simp[IntKind.wrap,IntKind.bits,IntKind.signed];omega
  have ap:IntKind.u8.wrap ((b:Int)*2 ^ t)=(s:Int):=by rw[<-r];simp[IntKind.wrap,IntKind.bits,IntKind.signed]
  have ay:IntKind.u8.wrap (s:Int)=(s:Int):=by simp[IntKind.wrap,IntKind.bits,IntKind.signed];omega
  have ax:(q:Int)<(m:Int):=by omega
  have ac:q<m:=by omega
  clear A ag O D r G
  try clear o
  try (have V:=yo T;clear T)
  try clear h8
  try clear d8
  try clear hq X
  go_wp2_with fail
  go_region_law (fail)
  all_goals
   go_simp;go_wp2_with fail;go_end0;exact⟨rfl,_,_,Y.o,U.o,(by rw[aa.o];exact B.o),(by first|exact P.o|(rw[V.o];exact P.o))⟩
 ·have d8:((N:Int) % 8==0)=false:=bef (by omega)
  have z:Hid (zdU bs N=bs):=(show _=_ by unfold zdU;rw[if_neg h8]);have o:bs.length=bs.length:=rfl;rw[z.o] at D;obtain⟨-,F,rfl,ao,af⟩:=ownB.at0 u.o (by omega);have W:=yo (WrFr.refl w g (.slice (some ⟨F,0,none⟩) bs.length cp));obtain⟨m,T⟩:∃m,bs.length=m:=⟨_,rfl⟩;have o:m=bs.length:=T.symm;rw[T] at u E W c0 D G;go_enter Tryz.func182,Tryz.ntmps182;go_upto_region 2 with(fail);have az:¬g=F:=by omega
  have I:¬F=g:=by omega
  have O:N / 8<m:=by omega
  obtain⟨x,HX,cx⟩:=u.o.byte o (k:=N / 8) O;have fx:=u.o.frozen o (N / 8);have f1:=E.o.frozen 1;have A:=yo (znG x v (N % 8) hv ht);have B:=yo (H.o x (by rw[z.o];exact HX.o));rw[z.o] at B;obtain⟨y,hy⟩:∃y:UInt8,UInt8.ofNat (x.toNat |||v % 2*2 ^ (N % 8))=y:=⟨_,rfl⟩;rw[hy] at A B;have U:=yo (ownB.far (ownB.store u.o o (N / 8) y) (g:=g) (zbu (ownB.store u.o o (N / 8) y) (Nat.lt_succ_self g)) 1 (.int .i64 ((N:Int)+1))).drew;have Y:=yo ((E.o.far (p:=⟨F,N / 8,none⟩) I (.int .u8 (y.toNat:Int))).set 1 (.int .i64 ((N:Int)+1))).drew;have P:=yo ((W.o.setr (N / 8) (.int .u8 (y.toNat:Int))).setg 1 (.int .i64 ((N:Int)+1))).drew;clear u E W HX H hy;have M:=A.o;have eb:bits .and .u32 (v:Int) 1=((v % 2:Nat):Int):=zkn v hv;rw[eb] at M;have aw:v % 2<2:=Nat.mod_lt _ (by decide);obtain⟨s,hs,r⟩:∃s:Nat,s<256/\(((v % 2:Nat):Int) % 256*2 ^ (N % 8) % 256)=(s:Int):=by
   refine⟨(((v % 2:Nat):Int) % 256*2 ^ (N % 8) % 256).toNat,?_,?_⟩<;>omega
  rw[r] at M;have HY:Hid (y.toNat<256):=y.toNat_lt;generalize y.toNat=yn at *;generalize J:v % 2=b at *;have aa:=yo J;clear J;have ab:(b:Int) % 256=b:=Int.emod_eq_of_lt (by omega) (by omega);rw[ab] at r;generalize hq:N / 8=q at *;generalize X:N % 8=t at *;have ak:(N:Int) / 8=(q:Int):=by omega
  have an:(N:Int) % 8=(t:Int):=by omega
  have am:IntKind.i64.wrap (q:Int)=(q:Int):=zaa q (by omega);have aq:IntKind.i64.wrap (t:Int)=(t:Int):=zaa t (by omega);have av:IntKind.u8.wrap (b:Int)=(b:Int):=by simp[IntKind.wrap,IntKind.bits,IntKind.signed];omega
  have ap:IntKind.u8.wrap ((b:Int)*2 ^ t)=(s:Int):=by rw[<-r];simp[IntKind.wrap,IntKind.bits,IntKind.signed]
  have ay:IntKind.u8.wrap (s:Int)=(s:Int):=by simp[IntKind.wrap,IntKind.bits,IntKind.signed];omega
  have ax:(q:Int)<(m:Int):=by omega
  have ac:q<m:=by omega
  clear A ag O D r G
  try clear o
  try (have V:=yo T;clear T)
  try clear h8
  try clear d8
  try clear hq X
  go_wp2_with fail
  go_region_law (fail)
  all_goals
   go_simp;go_wp2_with fail;go_end0;exact⟨rfl,_,_,Y.o,U.o,(by rw[aa.o];exact B.o),(by first|exact P.o|(rw[V.o];exact P.o))⟩
end Go.Proofs.YtebbdifhiihfkaaGreatDoor

/- Writers of bits: a code put. -/
namespace Go.Proofs.YtebbdifhiihfkaaGreatDoor
set_option linter.all false
set_option maxRecDepth 100000
set_option maxHeartbeats 3200000
open Go.RowKit
/-- A writer that holds bits. -/
def Wr(w:World)(g:Nat)(pv:Value)(bs:List UInt8)(L:List Nat):Prop:=Arr w g [pv,.int .i64 ((L.length:Nat):Int)]/\ownB w (g+1) pv bs/\WB bs L
theorem zgE(v m:Nat)(w:World)(o:m<=24)(hv:v<2 ^ m):Calls Tryz.prog 181 #[.int .u32 (v:Int),.int .i64 (m:Int)] w fun e w'=>e=.returned (.bool false)/\w=w':=by
 have r:decide ((m:Int)<0)=false:=decide_eq_false (by omega);have q:decide ((m:Int) > 24)=false:=decide_eq_false (by omega);have g:(v:Int) / 2 ^ m=0:=by
  rw[show((2:Int) ^ m)=((2 ^ m:Nat):Int) by push_cast;rfl,<-Int.natCast_ediv,Nat.div_eq_of_lt hv];rfl
 clear hv;go_enter Tryz.func181,Tryz.ntmps181;go_wp2_with fail;go_ret;exact⟨rfl,rfl⟩
theorem zk3(w:World):Calls Tryz.prog 146 #[] w fun e w'=>e=.returned (.pointer (some ⟨w.heap.size,0,none⟩))/\Wr w' w.heap.size (.slice none 0 0) [] []/\Below w.heap.size w w'/\w.heap.size<w'.heap.size:=by
 go_enter Tryz.func146,Tryz.ntmps146;go_wp2_with fail;go_ret;exact⟨rfl,⟨Arr.new w [.slice none 0 0,.int .i64 0] _,ownB.nil_ _ _,WB.nil⟩,(Below.refl _ _).alloc (nlr _) _,by simp⟩
theorem zsA(g v m:Nat)(pv:Value)(bs:List UInt8)(L:List Nat)(w:World)(h:Wr w g pv bs L)(Y:L.length+m<=1000000)(U:m<=24)(hv:v<2 ^ m):
  Calls Tryz.prog 169 #[.pointer (some ⟨g,0,none⟩),.int .u32 (v:Int),.int .i64 (m:Int)] w fun e w'=>e=.returned (.int .i64 0)/\∃pv' bs',Wr w' g pv' bs' (L++msb v m m)/\WrFr w w' g pv pv':=by
 have G:=yo (fun w=>zgE v m w U hv);have o:=yo h;have T:v<16777216:=Nat.lt_of_lt_of_le hv (Nat.pow_le_pow_right (by decide) U);have R:Hid (L++msb v m 0=L):=(show _=_ by simp[msb]);clear h hv;go_enter Tryz.func169,Tryz.ntmps169;go_wp2_with (go_at_call 181;(with_reducible refine(G.o _).mono ?_);go_must (rintro e w1 ⟨rfl,rfl⟩));go_loopw [12] (fun J wr=>∃k:Nat,k<=m/\J=.int .i64 k/\∃C F,Hid (Wr wr g C F (L++msb v m k))/\Hid (WrFr w wr g pv C)) (fun J _=>m-(intOf J).toNat)
 case atStart=>exact⟨0,Nat.zero_le _,rfl,pv,bs,(show Wr _ _ _ _ _ by rw[R.o];exact o.o),WrFr.refl _ _ _⟩
 case round =>
  clear o R;obtain⟨k,X,rfl,C,F,o,P⟩:=hrel;by_cases hlt:k<m
  ·obtain⟨d,S⟩:∃d,m-1-k=d:=⟨_,rfl⟩
   have V:(m:Int)-1-(k:Int)=(d:Int):=(by omega);have A:(L++msb v m k).length=L.length+k:=(by rw[lla,zjw]);have H:v / 2 ^ d<4294967296:=Nat.lt_of_le_of_lt (Nat.div_le_self _ _) (by omega);have N:=yo (znH g (L++msb v m k).length (v / 2 ^ d) C F _ wr o.o.1 o.o.2.1 o.o.2.2 rfl (by omega) H);have q:Hid (L++msb v m k++[v / 2 ^ d % 2]=L++msb v m (k+1)):=(show _=_ by rw[msb,S,List.append_assoc]);have t:Hid ((((L++msb v m k).length+1:Nat):Int)=(((L++msb v m (k+1)).length:Nat):Int)):=(show _=_ by rw[<-q.o];congr 1;simp;omega);rw[q.o,t.o] at N;have O:(v:Int) / 2 ^ d=((v / 2 ^ d:Nat):Int):=by rw[show((2:Int) ^ d)=((2 ^ d:Nat):Int) by push_cast;rfl,<-Int.natCast_ediv]
   generalize v / 2 ^ d=u at *;clear A S q t;go_wp2_with (go_at_call 182;(with_reducible refine N.o.mono ?_);go_must (rintro e W ⟨rfl,E,z,r,D,B,s⟩;have M:=yo (P.o.trans s);have I:Hid (Wr W g E z (L++msb v m (k+1))):=⟨r,D,B⟩;clear r D B s));go_roundw
   case rel=>exact⟨k+1,by omega,by go_num,E,z,I,M⟩
   case measure=>simp[intOf];omega
  ·obtain rfl:k=m:=by omega
   go_wp2_with fail;go_ret;exact⟨rfl,C,F,o.o,P.o⟩
end Go.Proofs.YtebbdifhiihfkaaGreatDoor

/- aquref: lists of numbers held against one another, copied. -/
namespace Go.Proofs.YtebbdifhiihfkaaGreatDoor
set_option linter.all false
open Go.RowKit
end Go.Proofs.YtebbdifhiihfkaaGreatDoor

/- huff: what the chapter's examples fix. -/
namespace Go.Proofs.YtebbdifhiihfkaaGreatDoor
set_option linter.all false
open Go.RowKit
end Go.Proofs.YtebbdifhiihfkaaGreatDoor

/- The document's decoders. -/
namespace Go.Proofs.YtebbdifhiihfkaaGreatDoor
set_option linter.all false
open Go.RowKit
theorem zqA{ls:List Int}{t:Nat}(h1:1<=t)(h:∀(k:Nat) (x:Int),ls[k]?=some x->¬0<x)(k:Nat):plc ls t k=[]:=by
 cases e:plc ls t k with
 |nil=>rfl
 |cons a r =>
  obtain⟨p,-,-,hp,-⟩:=zqv (ls:=ls) (t:=t) (i:=0) (x:=a) k (by rw[e];rfl);exact absurd (show(0:Int)<(t:Int) by omega) (h p _ hp)
theorem ziQ{ls:List Int}(h:∀(k:Nat) (x:Int),ls[k]?=some x->¬0<x)(l:Nat):zaF ls l=[]:=by
 induction l with
 |zero=>rfl
 |succ l ih=>rw[zaF,ih,zqA (by omega) h];rfl
theorem zko{ls:List Int}{i:Nat}{y:Nat×Int}(h:(za7 ls)[i]?=some y):y=zaL ls i:=by
 unfold za7 at h;rw[List.getElem?_map] at h;cases hr:(List.range ls.length)[i]? with
 |none=>rw[hr] at h;cases h
 |some j =>
  obtain⟨g,e⟩:=List.getElem?_eq_some_iff.1 hr;rw[List.getElem_range] at e;rw[hr] at h;injection h with h;rw[<-h,e]
theorem zeS(ls:List Int):(za7 ls).length=ls.length:=by simp[za7]
end Go.Proofs.YtebbdifhiihfkaaGreatDoor

/- HuffReads: any lengths, any bytes: what is read, up to the first error. -/
namespace Go.Proofs.YtebbdifhiihfkaaGreatDoor
set_option linter.all false
open Go.RowKit
theorem zhU(B n c:Nat)(A:Option Addr)(bs:List UInt8)(w:World)(h:RdB w B A n bs)(q:n<=1099511627776):
  Calls Tryz.prog 49 #[.slice A n c] w fun e w'=>∃v,e=.returned v/\ownB w' w.heap.size v bs/\Below w.heap.size w w':=by
 have r:=fun w=>Go.run_eql_slice_nil (P:=Tryz.prog) w 22 _ A n c Tryz.underlying22
 cases A with
 |none =>
  have h0:bs=[]:=by
   cases bs with
   |nil=>rfl
   |cons x l=>have h2:=h.len;obtain⟨b,o,e,_⟩:=h.at_ (by rw[<-h2];simp);cases e
  subst h0;have g:n=0:=by have:=h.len;simpa using this.symm
  subst g;go_enter Tryz.func49,Tryz.ntmps49;go_wp2;go_ret;exact⟨_,rfl,ownB.nil_ _ _,Below.refl _ _⟩
 |some a =>
  go_enter Tryz.func49,Tryz.ntmps49;go_wp2_with (at_builtin;go_loud (refine zat rfl (.tmp 5) (.tmp 6) rfl w.heap.size _ [] rfl (zd3 w [] (by simp)) w.heap.size n c (some a) bs rfl (Rd.alloc (Rd.here h) (nlr _) _) (by simp;omega) (by simp) ?_);intro v1 w1 hown hg hb hat);go_ret;exact⟨_,rfl,hown,((Below.refl w.heap.size w).alloc (nlr _) _).trans (hb)⟩
theorem zk4(B n c:Nat)(A:Option Addr)(bs:List UInt8)(w:World)(h:RdB w B A n bs)(z:n<=1099511627776):
  Calls Tryz.prog 100 #[.slice A n c] w fun e w'=>∃g A' c',e=.returned (.pointer (some ⟨g,0,none⟩))/\w.heap.size<=g/\g<w'.heap.size/\Arr w' g (rdr A' n c' 0)/\RdB w' g A' n bs/\Below w.heap.size w w':=by
 have t:=yo (zhU B n c A bs w h z);have s:=h.len;clear h;go_enter Tryz.func100,Tryz.ntmps100;go_wp2_with (go_at_call 49;(with_reducible refine t.o.mono ?_);go_must (rintro e w1 ⟨v,rfl,q,r⟩;obtain⟨A1,c1,rfl,hr,-,-⟩:=q.form;rw[s] at hr ⊢;have u:=yo hr;have o:=yo r;clear q hr r));go_ret;exact⟨_,A1,c1,rfl,o.o.size,by simp,Arr.new w1 (rdr A1 n c1 0) _,Rd.alloc u.o (nlr _) _,o.o.alloc o.o.size _⟩
theorem zvf(g P:Nat)(w:World)(h:w.cell? ⟨g,1,none⟩=some (.int .i64 (P:Int))):
  Calls Tryz.prog 106 #[.pointer (some ⟨g,0,none⟩)] w fun e w'=>e=.returned (.int .i64 (P:Int))/\w=w':=by
 go_enter Tryz.func106,Tryz.ntmps106;go_wp2_with fail;go_ret;exact⟨rfl,rfl⟩
end Go.Proofs.YtebbdifhiihfkaaGreatDoor

/- HuffBack: places written and read, plainly. -/
namespace Go.Proofs.YtebbdifhiihfkaaGreatDoor
set_option linter.all false
open Go.RowKit
theorem zoI(g:Nat)(pv:Value)(bs:List UInt8)(L:List Nat)(w:World)(h:Wr w g pv bs L)(q:L.length<=1000000):
  Calls Tryz.prog 125 #[.pointer (some ⟨g,0,none⟩)] w fun e w'=>∃v,e=.returned v/\ownB w' w.heap.size v bs/\Below w.heap.size w w':=by
 obtain⟨h1,h2,o⟩:=h;obtain⟨A,c,rfl,hr,-,-⟩:=h2.form;have t:=h1.cell (k:=0) rfl;have r:=yo (zhU w.heap.size bs.length c A bs w hr (by have:=o.1;omega));clear h1 h2 o hr;go_enter Tryz.func125,Tryz.ntmps125;go_wp2_with (go_at_call 49;(with_reducible refine r.o.mono ?_);go_must (rintro e w1 ⟨v,rfl,s,q⟩));go_ret;exact⟨_,rfl,s,q⟩
theorem Wr.drew{w:World}{g:Nat}{pv:Value}{bs:List UInt8}{L:List Nat}(h:Wr w g pv bs L):Wr w.drew g pv bs L:=⟨h.1.drew,h.2.1.drew,h.2.2⟩
/-- Two rows in unlike blocks. -/
def Dis(a b:Value):Prop:=∀k,a.ownBlock=some k->b.ownBlock≠some k
theorem ownI.same{w w':World}{base:Nat}{v:Value}{l:List Int}(h:ownI w base v l)(t:∀k,v.ownBlock=some k->w'.heap[k]?=w.heap[k]?):ownI w' base v l:=by
 refine⟨h.1,?_⟩;rcases h.2 with s | ⟨g,r,o,rfl,q,hg,rest⟩
 ·exact .inl s
 ·exact .inr ⟨g,r,o,rfl,q,(t g rfl).trans hg,rest⟩
theorem ownI.wr{w w':World}{g:Nat}{pv q v:Value}{l:List Int}(h:ownI w (g+1) v l)(r:WrFr w w' g pv q)(s:Dis pv v):ownI w' (g+1) v l :=
 h.same fun k o=>r.block k (olt h k o).2 (by have:=(olt h k o).1;omega) (fun e=>s k e o)
end Go.Proofs.YtebbdifhiihfkaaGreatDoor

