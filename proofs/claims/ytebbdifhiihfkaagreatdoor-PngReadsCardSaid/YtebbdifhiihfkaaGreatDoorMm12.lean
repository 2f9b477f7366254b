/- XHuff1 XHuff2 XHuff3 XHuff4 XHuffP XHuff5 -/
import Derived.Test.YtebbdifhiihfkaaGreatDoorMm11
import Derived.Test.YtebbdifhiihfkaaGreatDoorMm02
import Derived.StillTailTactics
namespace Go.Proofs.YtebbdifhiihfkaaGreatDoor
set_option linter.all false
set_option maxRecDepth 100000
set_option maxHeartbeats 3200000
open Go.RowKit
theorem zdF{a b:Bool}(h:a=b):Ending.returned (.bool a)=.returned (.bool b):=by rw[h]
theorem zp9{ws:List Int}{k:Nat}{x:Int}(h:ws[k]?=some x):zcD (ws.take (k+1))=zcD (ws.take k)+if 0<x then 1 else 0:=by
 obtain⟨g,rfl⟩:=List.getElem?_eq_some_iff.1 h;rw[List.take_succ_eq_append_getElem g];unfold zcD;rw[List.filter_append,lla];by_cases h:0<ws[k]<;>simp[h]
theorem znv(ws:List Int):zcD ws<=ws.length:=List.length_filter_le _ _
theorem zqa{ws:List Int}{k:Nat}{x:Int}(h:ws[k]?=some x):zeE (ws.take (k+1))=(zeE (ws.take k) ||(decide (x<0) ||decide (1073741824<x))):=by
 obtain⟨g,rfl⟩:=List.getElem?_eq_some_iff.1 h;rw[List.take_succ_eq_append_getElem g];unfold zeE;rw[List.any_append];simp
theorem ztS{ws:List Int}{k:Nat}{x:Int}(h:ws[k]?=some x)(g:x<0\/1073741824<x):zeE ws=true:=by
 unfold zeE;rw[List.any_eq_true];exact⟨x,List.mem_of_getElem? h,by simpa using g⟩
theorem zu8(q t:Nat)(h:t<=15):decide (wrap64 (2 ^ t)<(q:Int))=decide (2 ^ t<q):=by
 have e:wrap64 (2 ^ t)=((2 ^ t:Nat):Int):=by
  have h2:(2:Nat) ^ t<=2 ^ 15:=Nat.pow_le_pow_right (by omega) h;rw[show((2:Int) ^ t)=((2 ^ t:Nat):Int) by push_cast;rfl];generalize 2 ^ t=u at *;exact zb6 _ (by omega) (by omega)
 rw[e];simp only[Int.ofNat_lt]
theorem zj9(B n c:Nat)(A:Option Addr)(ws:List Int)(most:Int)(w:World)(h:RdI w B A n ws)(U:n<=1099511627776):
  Calls Tryz.prog 172 #[.slice A n c,.int .i64 most] w fun e w'=>e=.returned (.bool (zb2 ws most))/\w=w':=by
 have u:=h.len;have G:∀r:Bool,zb2 ws most=r->Hid (zb2 ws most=r):=fun _ h=>h
 by_cases hgood:(1<=n/\n<=300)/\(1<=most/\most<=15)
 ·obtain⟨⟨R,P⟩,S,N⟩:=hgood
  have C:Hid (zb2 ws most=(zeE ws ||decide (2 ^ most.toNat<zcD ws))):=(show _=_ by
   unfold zb2;rw[decide_eq_false (show ¬ws.length<1 by omega),decide_eq_false (show ¬300<ws.length by omega),decide_eq_false (show ¬most<1 by omega),decide_eq_false (show ¬15<most by omega)];simp)
  have H:=yo h;have D:=yo u;clear h u G;go_enter Tryz.func172,Tryz.ntmps172;go_wp2
  go_loop [26,5] (fun i p=>∃k:Nat,k<=n/\i=.int .i64 k/\p=.int .i64 (zcD (ws.take k):Nat)/\Hid (zeE (ws.take k)=false)) (fun i _=>n-(intOf i).toNat)
  case atStart=>exact⟨0,Nat.zero_le _,rfl,rfl,rfl⟩
  case round =>
   obtain⟨k,O,rfl,rfl,F⟩:=hrel;have pl:zcD (ws.take k)<=300:=(by have:=znv (ws.take k);have:=D.o;simp at *;omega);by_cases hlt:k<n
   ·obtain⟨b,o,x,rfl,T,z,V⟩:=H.o.one hlt
    have E:=yo (zp9 z.o);have I:=yo (zqa z.o);by_cases hbad:x<0\/1073741824<x
    ·have g:Hid (zb2 ws most=true):=(show _=_ by rw[C.o,ztS z.o hbad];rfl)
     rcases hbad with hx|hx
     ·go_wp2
      go_ret;exact⟨zdF g.o.symm,rfl⟩
     ·have L:¬x<0:=by omega
      go_wp2;go_ret;exact⟨zdF g.o.symm,rfl⟩
    ·have J:0<=x:=by omega
     have M:x<=1073741824:=(by omega);have t:Hid (zeE (ws.take (k+1))=false):=(show _=_ by rw[I.o,F.o,decide_eq_false (show ¬x<0 by omega),decide_eq_false (show ¬1073741824<x by omega)];rfl);clear hbad;by_cases hp:0<x
     ·have s:Hid (zcD (ws.take (k+1))=zcD (ws.take k)+1):=(show _=_ by rw[E.o,if_pos hp])
      generalize zcD (ws.take k)=q at *;go_wp2
      go_round
      case rel=>exact⟨k+1,by omega,by go_num,by rw[s.o];go_num,t⟩
      case measure=>simp[intOf];omega
     ·have s:Hid (zcD (ws.take (k+1))=zcD (ws.take k)):=(show _=_ by rw[E.o,if_neg hp];rfl)
      generalize zcD (ws.take k)=q at *;go_wp2
      go_round
      case rel=>exact⟨k+1,by omega,by go_num,by rw[s.o],t⟩
      case measure=>simp[intOf];omega
   ·obtain rfl:k=n:=by omega
    have g:Hid (zb2 ws most=decide (2 ^ most.toNat<zcD (ws.take k))):=(show _=_ by
     have e:ws.take k=ws:=List.take_of_length_le (by rw[D.o];exact nlr _);rw[C.o];have:=F.o;rw[e] at this ⊢;rw[this];rfl)
    generalize zcD (ws.take k)=q at *;go_wp2;go_ret;exact⟨zdF (by rw[g.o];exact zu8 q _ (by omega)),rfl⟩
 ·have g:Hid (zb2 ws most=true):=(show _=_ by
   unfold zb2;by_cases q1:ws.length<1
   ·simp[q1]
   by_cases q2:300<ws.length
   ·simp[q2]
   by_cases q3:most<1
   ·simp[q3]
   have q4:15<most:=(by omega);simp[q4])
  clear h u G;by_cases q1:n<1
  ·go_enter Tryz.func172,Tryz.ntmps172
   go_wp2;go_ret;exact⟨zdF g.o.symm,rfl⟩
  by_cases q2:300<n
  ·go_enter Tryz.func172,Tryz.ntmps172
   go_wp2;go_ret;exact⟨zdF g.o.symm,rfl⟩
  by_cases q3:most<1
  ·go_enter Tryz.func172,Tryz.ntmps172
   go_wp2;go_ret;exact⟨zdF g.o.symm,rfl⟩
  have q4:15<most:=by omega
  clear hgood;go_enter Tryz.func172,Tryz.ntmps172;go_wp2;go_ret;exact⟨zdF g.o.symm,rfl⟩
theorem zel(w:World)(row:Option Nat):w.grownBy w row:=⟨rfl,rfl,rfl,nlr _,fun _ _ _=>rfl⟩
/-- A member just laid. -/
theorem zse(w:World)(lo:Nat)(v:Value)(x:Int)(p:Nat)(t:TypeId)(hv:∀g,v.ownBlock=some g->g<w.heap.size)(q:lo<=w.heap.size):
  isM (w.alloc (.cells #[.int .i64 x,.int .i64 p,.slice none 0 0] t)) (Out lo (w.alloc (.cells #[.int .i64 x,.int .i64 p,.slice none 0 0] t)) v) w.heap.size (.leaf x p):=by
 have o:∀i u,(#[Value.int .i64 x,.int .i64 p,.slice none 0 0]:Array Value)[i]?=some u->(w.alloc (.cells #[.int .i64 x,.int .i64 p,.slice none 0 0] t)).cell? ⟨w.heap.size,i,none⟩=some u:=fun i u h=>by
  rw[cell_of_row _ w.heap.size i _ t (0,0) (heap_alloc_new w _)];exact h
 exact⟨⟨q,by simp,fun e=>by have:=hv _ e;omega⟩,o 0 _ rfl,o 1 _ rfl,o 2 _ rfl⟩
theorem zlt(w:World)(o:Obj)(z:MP):RdP ((w.alloc o).alloc (.cells #[.pointer (some ⟨z.1,0,none⟩)] 228)) (w.heap.size+1+1) (some ⟨w.heap.size+1,0,none⟩) 1 [z]:=by
 have h:=zfS (w.alloc o) z;rw[wsa] at h;exact h
theorem zsf{α β:Type}(f:α->β)(wt:β->Int)(l:List α):(zam (fun x=>wt (f x)) l).map f=zam wt (l.map f):=by
 refine SS.eq_stab ⟨?_,?_⟩
 ·unfold Srt
  rw[List.pairwise_map];exact(zaR (wt:=fun x=>wt (f x)) l).1
 ·intro v
  rw[List.filter_map,List.filter_map];exact congrArg (List.map f) ((zaR (wt:=fun x=>wt (f x)) l).2 v)
theorem zox{ws:List Int}{k:Nat}{x:Int}(h:ws[k]?=some x):zah (ws.take (k+1))=zah (ws.take k)++if 0<x then[.leaf x k] else[]:=by
 obtain⟨g,rfl⟩:=List.getElem?_eq_some_iff.1 h;rw[List.take_succ_eq_append_getElem g,zei];rw[llt,Nat.min_eq_left (by omega)]
theorem zqb(B n c:Nat)(A:Option Addr)(ws:List Int)(w:World)(h:RdI w B A n ws)(W:B<=w.heap.size)(hn:n<=1099511627776):
  Calls Tryz.prog 173 #[.slice A n c] w fun e w'=>∃A' n' G r,e=.returned (.slice A' n' G)/\n'=r.length/\ownP w' w.heap.size (.slice A' n' G) r /\
   r.map Prod.snd=zam Mem.w (zah ws)/\(∀z∈r,isM w' (Rng w.heap.size w'.heap.size) z.1 z.2)/\Below w.heap.size w w':=by
 have s:=Below.refl w.heap.size w;have H:=yo h;have HL:=yo h.len;clear h;go_enter Tryz.func173,Tryz.ntmps173;go_wp2;go_loopw [8,3] (fun i v wr=>∃(k:Nat) (r:List MP),k<=n/\i=.int .i64 k/\r.length<=k/\Hid (r=[]->v=.slice none 0 0)/\Hid (ownP wr w.heap.size v r)/\Hid (r.map Prod.snd=zah (ws.take k))/\Hid (∀z∈r,isM wr (Out w.heap.size wr v) z.1 z.2)/\Below w.heap.size w wr)
  (fun i _ _=>n-(intOf i).toNat)
 case atStart=>exact⟨0,[],Nat.zero_le _,rfl,Nat.zero_le _,(fun _=>rfl),ownP.nil_ _ _,rfl,(fun z hz=>by cases hz),s⟩
 case round =>
  clear s;obtain⟨k,r,hk,rfl,ab,F,u,X,I,s⟩:=hrel;have E:=s.size;by_cases hlt:k<n
  ·obtain⟨b,o,x,rfl,hb,HX,e1⟩:=(H.o.blw (s.mono W)).one hlt
   have M:=yo (zox HX.o);by_cases hp:0<x
   ·have aa:b<wr.heap.size:=by omega
    have V:=yo ((u.o.alloc (.cells #[.int .i64 x,.int .i64 k,.slice none 0 0] 227)).alloc (.cells #[.pointer (some ⟨wr.heap.size,0,none⟩)] 228));have t:∀g,u3.ownBlock=some g->g<wr.heap.size:=fun g hg=>(olt u.o g hg).2
    have HN:=yo ((zse wr w.heap.size u3 x k 227 t E).alloc (.cells #[.pointer (some ⟨wr.heap.size,0,none⟩)] 228));have Z:=yo (fun z hz=>((I.o z hz).alloc (.cells #[.int .i64 x,.int .i64 k,.slice none 0 0] 227)).alloc (.cells #[.pointer (some ⟨wr.heap.size,0,none⟩)] 228));have HR:=yo (zlt wr (.cells #[.int .i64 x,.int .i64 k,.slice none 0 0] 227) (wr.heap.size,Mem.leaf x k));clear t;have Y:=yo ((s.alloc E (.cells #[.int .i64 x,.int .i64 k,.slice none 0 0] 227)).alloc (by simp;omega) (.cells #[.pointer (some ⟨wr.heap.size,0,none⟩)] 228));go_wp2_with (at_builtin;go_must (refine zd5 rfl (.tmp 15) (.tmp 20) rfl w.heap.size _ r rfl V.o _ 1 1 _ [(wr.heap.size,Mem.leaf x k)] rfl HR.o (by omega) (by simp;omega) ?_;intro v' w2 ho hg N hv;have D:=yo ho;have HG:=yo hg;have HV:=yo hv;have U:=yo (Y.o.trans N);clear ho hg N hv));go_roundw
    case rel =>
     refine⟨k+1,r++[(wr.heap.size,Mem.leaf x k)],by omega,by go_num,by simp;omega,(show _->_ from fun e=>by simp at e),D,(show _=_ by rw[M.o,if_pos hp,<-X.o];simp),?_,U.o⟩;show ∀z∈_,_;intro z hz;rcases List.mem_append.1 hz with hz|hz
     ·exact(Z.o z hz).app HG.o HV.o
     ·have:z=(wr.heap.size,Mem.leaf x k):=by simpa using hz
      subst this;exact HN.o.app HG.o HV.o
    case measure=>simp[intOf];omega
   ·have J:Hid (zah (ws.take (k+1))=zah (ws.take k)):=(show _=_ by rw[M.o,if_neg hp,List.append_nil])
    go_wp2;go_roundw
    case rel=>exact⟨k+1,r,by omega,by go_num,by omega,F,u,(show _=_ by rw[J.o,X.o]),I,s⟩
    case measure=>simp[intOf];omega
  ·obtain rfl:k=n:=by omega
   have HE:Hid (r.map Prod.snd=zah ws):=(show _=_ by rw[X.o,List.take_of_length_le (by rw[HL.o];exact nlr _)]);by_cases hnil:r=[]
   ·subst hnil
    have e:=F.o rfl;clear u I F;subst e;have D:=yo (ownP.nil_ wr w.heap.size);go_wp2_with (go_at_call 184;(with_reducible refine(zsd _ _).mono ?_);go_must (rintro e S ⟨rfl,rfl⟩));go_ret;exact⟨_,_,_,[],rfl,rfl,D.o,by rw[<-HE.o];rfl,(fun z hz=>by cases hz),s⟩
   ·obtain⟨A',G,rfl,P,R,T⟩:=u.o.form
    obtain⟨g,rfl⟩:∃g,A'=some ⟨g,0,none⟩:=by
     obtain⟨_,g,e,_,_⟩:=u.o.pos (List.length_pos_iff.2 hnil);exact⟨g,e⟩
    have L:Hid (SortW wr w.heap.size g r.length G r wr):=(show SortW _ _ _ _ _ _ _ from⟨u.o,rfl,zel _ _,fun z hz=>⟨fun e=>(I.o z hz).root.2.2 (by rw[e];rfl),(I.o z hz).weight⟩⟩);have HC:=yo (zsc wr wr w.heap.size g r.length G r L.o (by omega));have hg:w.heap.size<=g:=by
     obtain⟨_,g',e,h1,_⟩:=u.o.pos (List.length_pos_iff.2 hnil);injection e with e;injection e with e;omega
    clear P R T L;go_wp2_with (go_at_call 184;(with_reducible refine HC.o.mono ?_);go_must (rintro e S ⟨rfl,O⟩;have C:=yo O;clear O));go_ret;have hm:∀z∈zam mw r,isM S (Out w.heap.size S (.slice (some ⟨g,0,none⟩) r.length G)) z.1 z.2:=fun z hz =>
     (I.o z (((zaR (wt:=mw) r).2.mem z).1 hz)).app C.o.gro (.inl rfl)
    exact⟨_,_,_,zam mw r,rfl,(zcd r).symm,C.o.own,by rw[<-HE.o,zsf],(fun z hz=>(hm z hz).rng),s.grown C.o.gro E (fun q hq=>by injection hq with hq;omega)⟩
end Go.Proofs.YtebbdifhiihfkaaGreatDoor

/- huff: packages, merged, counts. -/
namespace Go.Proofs.YtebbdifhiihfkaaGreatDoor
set_option linter.all false
set_option maxRecDepth 100000
set_option maxHeartbeats 3200000
open Go.RowKit
theorem zsg(w:World)(lo B base b o c:Nat)(v:Value)(x y:MP)(t:TypeId)(h1:w.cell? ⟨b,o,none⟩=some (.pointer (some ⟨x.1,0,none⟩)))(h2:w.cell? ⟨b,o+1,none⟩=some (.pointer (some ⟨y.1,0,none⟩)))
  (hx:isM w (Rng lo B) x.1 x.2) (hy:isM w (Rng lo B) y.1 y.2) (F:b<B) (D:lo<=b) (H:B<=base) (A:base<=w.heap.size) (hv:∀g,v.ownBlock=some g->base<=g/\g<w.heap.size) (C:lo<=w.heap.size) (E:2<=c) (z:c<=maxLen) :
  isM (w.alloc (.cells #[.int .i64 (x.2.w+y.2.w),.int .i64 0,.slice (some ⟨b,o,none⟩) 2 c] t)) (Out lo (w.alloc (.cells #[.int .i64 (x.2.w+y.2.w),.int .i64 0,.slice (some ⟨b,o,none⟩) 2 c] t)) v) w.heap.size (.node x.2 y.2):=by
 have q:∀i u,(#[Value.int .i64 (x.2.w+y.2.w),.int .i64 0,.slice (some ⟨b,o,none⟩) 2 c]:Array Value)[i]?=some u->(w.alloc (.cells #[.int .i64 (x.2.w+y.2.w),.int .i64 0,.slice (some ⟨b,o,none⟩) 2 c] t)).cell? ⟨w.heap.size,i,none⟩=some u:=fun i u h=>by
  rw[cell_of_row _ w.heap.size i _ t (0,0) (heap_alloc_new w _)];exact h
 have r:∀a,lo<=a->a<B->Out lo (w.alloc (.cells #[.int .i64 (x.2.w+y.2.w),.int .i64 0,.slice (some ⟨b,o,none⟩) 2 c] t)) v a:=fun a h G=>⟨h,by simp;omega,fun e=>by have:=hv _ e;omega⟩
 exact⟨⟨C,by simp,fun e=>by have:=hv _ e;omega⟩,q 0 _ rfl,q 1 _ rfl,b,o,c,x.1,y.1,q 2 _ rfl,r b D F,E,z,
  (World.cell?_alloc_lt w _ ⟨b,o,none⟩ (by show b<_;omega)).trans h1,(World.cell?_alloc_lt w _ ⟨b,o+1,none⟩ (by show b<_;omega)).trans h2,
  hx.keep (fun p hp=>World.cell?_alloc_lt w _ p (by have:=hp.2;omega)) (fun a s=>r a s.1 s.2),hy.keep (fun p hp=>World.cell?_alloc_lt w _ p (by have:=hp.2;omega)) (fun a s=>r a s.1 s.2)⟩
theorem zoy{l:List Mem}{k:Nat}{x y:Mem}(h1:l[k]?=some x)(h2:l[k+1]?=some y):zbj (l.drop k)=.node x y :: zbj (l.drop (k+2)):=by
 obtain⟨o,rfl⟩:=List.getElem?_eq_some_iff.1 h1;obtain⟨g,rfl⟩:=List.getElem?_eq_some_iff.1 h2;rw[List.drop_eq_getElem_cons o,List.drop_eq_getElem_cons g,zbj]
theorem zmR{l:List Mem}(h:l.length<=1):zbj l=[]:=by
 match l,h with
 | [],_=>rfl
 | [x],_=>rfl
theorem zlu(lo B n c:Nat)(A:Option Addr)(s:List MP)(w:World)(h:RdP w B A n s)(ai:n<=c)(O:c<=maxLen)(q:B<=w.heap.size)(hn:n<=1099511627776)(hA:∀a,A=some a->lo<=a.block)(ag:lo<=w.heap.size)
  (hM:∀z∈s,isM w (Rng lo B) z.1 z.2) (Y:∀z∈s,0<=z.2.w/\z.2.w<=1125899906842624) :
  Calls Tryz.prog 175 #[.slice A n c] w fun e w'=>∃A' n' F zs',e=.returned (.slice A' n' F)/\n'=zs'.length/\ownP w' w.heap.size (.slice A' n' F) zs' /\
   zs'.map Prod.snd=zbj (s.map Prod.snd)/\(∀z∈zs',isM w' (Rng lo w'.heap.size) z.1 z.2)/\Below w.heap.size w w':=by
 have r:=Below.refl w.heap.size w;have H:=yo h;have HL:=yo h.len;have t:=yo hM;have HW:=yo Y;have HA:=yo hA;unfold maxLen at O;clear h hM Y hA;go_enter Tryz.func175,Tryz.ntmps175;go_wp2;go_loopw [4,3] (fun i v wr=>∃(k:Nat) (out:List MP),i=.int .i64 k/\k<=n+1/\out.length<=k/\Hid (ownP wr w.heap.size v out)/\Hid (out.map Prod.snd++zbj ((s.map Prod.snd).drop k)=zbj (s.map Prod.snd))/\Hid (∀z∈out,isM wr (Out lo wr v) z.1 z.2)/\Below w.heap.size w wr)
  (fun i _ _=>n+1-(intOf i).toNat)
 case atStart=>exact⟨0,[],rfl,Nat.zero_le _,Nat.zero_le _,ownP.nil_ _ _,rfl,(fun z hz=>by cases hz),r⟩
 case round =>
  clear r;obtain⟨k,out,rfl,hk,af,J,HZ,Z,r⟩:=hrel;have D:=r.size;by_cases hlt:k+1<n
  ·obtain⟨b,o,x,rfl,I,G,e1⟩:=(H.o.blw (r.mono q)).one (show k<n by omega)
   obtain⟨b',o',y,N,ac,E,e2⟩:=(H.o.blw (r.mono q)).one (show k+1<n by omega);injection N with N;injection N with eb eo;subst eb eo;have wx:=((t.o x (List.mem_of_getElem? G.o)).blw (r.mono q) (nlr _)).weight;have wy:=((t.o y (List.mem_of_getElem? E.o)).blw (r.mono q) (nlr _)).weight;obtain⟨aa,ab⟩:=HW.o x (List.mem_of_getElem? G.o);obtain⟨ah,aj⟩:=HW.o y (List.mem_of_getElem? E.o);have m1:IntKind.i64.wrap ((k:Int)+1)=(k:Int)+1:=(by rw[IntKind.wrap_i64];omega);have m2:IntKind.i64.wrap ((k:Int)+2)=(k:Int)+2:=(by rw[IntKind.wrap_i64];omega);have m3:IntKind.i64.wrap (x.2.w+y.2.w)=x.2.w+y.2.w:=(by rw[IntKind.wrap_i64];omega);have g1:((k:Int)+1).toNat=k+1:=(by omega);have g2:((k:Int)+2).toNat=k+2:=(by omega);have p1:(0:Int)<=(k:Int)+1:=(by omega);have p2:(k:Int)+1<n:=(by omega);have p3:(k:Int)<n:=(by omega);have p4:(k:Int)+2<=c:=(by omega);have p5:(k:Int)<=(k:Int)+2:=(by omega);have p6:(0:Int)<=(k:Int)+2:=(by omega);have ae:¬c=k:=(by omega);have W:wr.cell? ⟨b,o+k+1,none⟩=some (.pointer (some ⟨y.1,0,none⟩)):=e2;have HN:=yo (zsg wr lo B w.heap.size b (o+k) (c-k) u3 x y 227 e1 W ((t.o x (List.mem_of_getElem? G.o)).blw (r.mono q) (nlr _)) ((t.o y (List.mem_of_getElem? E.o)).blw (r.mono q) (nlr _)) I (HA.o _ rfl) q D (fun g hg=>olt J.o g hg) (by omega) (by omega) (by unfold maxLen;omega));have V:=yo (fun z hz=>((Z.o z hz).alloc (.cells #[.int .i64 (x.2.w+y.2.w),.int .i64 0,.slice (some ⟨b,o+k,none⟩) 2 (c-k)] 227)).alloc (.cells #[.pointer (some ⟨wr.heap.size,0,none⟩)] 228));have U:=yo ((r.alloc D (.cells #[.int .i64 (x.2.w+y.2.w),.int .i64 0,.slice (some ⟨b,o+k,none⟩) 2 (c-k)] 227)).alloc (by simp;omega) (.cells #[.pointer (some ⟨wr.heap.size,0,none⟩)] 228));have S:=yo (HN.o.alloc (.cells #[.pointer (some ⟨wr.heap.size,0,none⟩)] 228));have T:=yo (zoy (l:=s.map Prod.snd) (k:=k) (x:=x.2) (y:=y.2) (by rw[List.getElem?_map,G.o];rfl) (by rw[List.getElem?_map,E.o];rfl));clear HN;go_wp2_with fail
   go_region_law (go_must (refine zc5 rfl (.tmp 12) (.tmp 36) rfl w.heap.size u3 out rfl ((ownP.drew J.o).alloc _ |>.alloc _) _ 1 1 _ [(wr.heap.size,Mem.node x.2 y.2)] rfl (zlt wr.drew _ (wr.heap.size,Mem.node x.2 y.2)) (by omega) (by simp;omega) ?_;intro v' w2 ho hg C hv;have P:=yo ho;have X:=yo hg;have HV:=yo hv;have R:=yo C;clear ho hg C hv))
   all_goals
    go_wp2_with fail;go_roundw
    case rel =>
     refine⟨k+2,out++[(wr.heap.size,Mem.node x.2 y.2)],by go_num,by omega,by simp;omega,P,(show _=_ by rw[<-HZ.o,T.o];simp),?_,?_⟩
     ·show ∀z∈_,_
      intro z hz;rcases List.mem_append.1 hz with hz|hz
      ·exact((V.o z hz).drewO 1).app X.o HV.o
      ·have:z=(wr.heap.size,Mem.node x.2 y.2):=by simpa using hz
       subst this;exact(S.o.drewO 1).app X.o HV.o
     ·exact(zag U.o 1).trans R.o
    case measure=>simp[intOf];omega
  ·have HE:Hid (out.map Prod.snd=zbj (s.map Prod.snd)):=(show _=_ by rw[<-HZ.o,zmR (l:=(s.map Prod.snd).drop k) (by have:=HL.o;simp;omega),List.append_nil])
   obtain⟨A',F,rfl,L,M,u⟩:=J.o.form;clear L M u;go_wp2_with fail;go_ret;exact⟨A',out.length,F,out,rfl,rfl,J.o,HE.o,(fun z hz=>(Z.o z hz).keep (fun _ _=>rfl) (fun b I=>⟨I.1,I.2.1⟩)),r⟩
end Go.Proofs.YtebbdifhiihfkaaGreatDoor

/- huff: merged. -/
namespace Go.Proofs.YtebbdifhiihfkaaGreatDoor
set_option linter.all false
set_option maxRecDepth 100000
set_option maxHeartbeats 3200000
open Go.RowKit
theorem zqc{α:Type}{wt:α->Int}(a b:List α)(h:a=[]\/b=[]):zaN wt a b=a++b:=by
 rcases h with rfl|rfl
 ·rw[zaN,List.nil_append]
 ·cases a with
  |nil=>rw[zaN,List.nil_append]
  |cons x r=>rw[zaN,List.append_nil]
theorem zlv{α:Type}{wt:α->Int}{x y:α}{r s:List α}(h:wt y<wt x):zaN wt (x :: r) (y :: s)=y :: zaN wt (x :: r) s:=by rw[zaN,if_pos h]
theorem zlw{α:Type}{wt:α->Int}{x y:α}{r s:List α}(h:¬wt y<wt x):zaN wt (x :: r) (y :: s)=x :: zaN wt r (y :: s):=by rw[zaN,if_neg h]
theorem zka{α:Type}{wt:α->Int}(a b:List α):(zaN wt a b).length=a.length+b.length:=by
 fun_induction zaN wt a b with
 |case1=>simp
 |case2=>simp
 |case3 _ _ _ _ _ ih=>simp[ih];omega
 |case4 _ _ _ _ _ ih=>simp[ih];omega
theorem zkb{α:Type}{wt:α->Int}(a b:List α)(z:α):z∈zaN wt a b↔z∈a\/z∈b:=by
 fun_induction zaN wt a b with
 |case1=>simp
 |case2=>simp
 |case3 _ _ _ _ _ ih=>grind
 |case4 _ _ _ _ _ ih=>grind
theorem zqd{α β:Type}(f:α->β)(wt:β->Int)(a b:List α):(zaN (fun x=>wt (f x)) a b).map f=zaN wt (a.map f) (b.map f):=by
 fun_induction zaN (fun x=>wt (f x)) a b with
 |case1=>simp[zaN]
 |case2=>simp[zaN]
 |case3 _ _ _ _ h ih=>rw[List.map_cons,ih,List.map_cons,List.map_cons,zlv h]<;>rfl
 |case4 _ _ _ _ h ih=>rw[List.map_cons,ih,List.map_cons,List.map_cons,zlw h]<;>rfl
def zsh:Value->Nat
 | .slice _ k _=>k
 |_=>0
theorem zeR(A:Option Addr)(k c:Nat):zsh (.slice A k c)=k:=rfl
theorem znw{w:World}{B n:Nat}{A A':Option Addr}{g:List MP}(h:RdP w B A n g)(o:n=0):RdP w B A' n g:=by
 subst o;have:g=[]:=List.eq_nil_of_length_eq_zero h.len;subst this;exact RdP.nil_
/-- The first element of a slice, and the rest. -/
theorem RdP.uncons{w:World}{B n:Nat}{A:Option Addr}{g:List MP}(h:RdP w B A n g)(s:0<n):∃b o z r,A=some ⟨b,o,none⟩/\b<B/\g=z :: r/\w.cell? ⟨b,o,none⟩=some (.pointer (some ⟨z.1,0,none⟩))/\RdP w B (some ⟨b,o+1,none⟩) (n-1) r:=by
 obtain⟨b,o,z,rfl,u,t,e⟩:=h.one s;have q:=h.len;cases g with
 |nil=>simp at q;omega
 |cons z' r =>
  have:z'=z:=by have:=t;simpa [Hid] using this
  subst this;have hr:=h.cut (k:=1) (m:=n-1) (by omega) (A':=some ⟨b,o+1,none⟩) (fun _=>by simp[zaS]);simp at q;rw[List.drop_one,List.tail_cons,List.take_of_length_le (by omega)] at hr;exact⟨b,o,z',r,rfl,u,rfl,e,hr⟩
theorem zoz(S:Nat->Prop)(B n m ca cb:Nat)(A A':Option Addr)(t s:List MP)(w:World)(h1:RdP w B A n t)(h2:RdP w B A' m s)(ae:n<=ca)(af:m<=cb)(U:ca<=maxLen)(W:cb<=maxLen)(Z:B<=w.heap.size)(hn:n+m<=1099511627776)
  (hM:∀z,z∈t\/z∈s->w.cell? ⟨z.1,0,none⟩=some (.int .i64 z.2.w)) :
  Calls Tryz.prog 174 #[.slice A n ca,.slice A' m cb] w fun e w'=>∃A' n' c' zs',e=.returned (.slice A' n' c')/\n'=zs'.length/\ownP w' w.heap.size (.slice A' n' c') zs' /\
   zs'=zaN mw t s/\Below w.heap.size w w':=by
 have F:=Below.refl w.heap.size w;have H1:=yo h1;have H2:=yo h2;have HM:=yo hM;unfold maxLen at U W;clear h1 h2 hM;go_enter Tryz.func174,Tryz.ntmps174;go_wp2;go_loopw [0,1,5] (fun va vb v wr=>∃(A1 A2:Option Addr) (C E c1 c2:Nat) (D bs out:List MP),va=.slice A1 C c1/\vb=.slice A2 E c2/\C<=c1/\E<=c2/\c1<=2 ^ 63-1/\c2<=2 ^ 63-1/\out.length+C+E<=n+m/\Hid (RdP w B A1 C D)/\Hid (RdP w B A2 E bs) /\
   Hid (∀z,z∈D\/z∈bs->z∈t\/z∈s)/\Hid (out++zaN mw D bs=zaN mw t s)/\Hid (ownP wr w.heap.size v out)/\Below w.heap.size w wr)
  (fun va vb _ _=>zsh va+zsh vb)
 case atStart=>exact⟨A,A',n,m,ca,cb,t,s,[],rfl,rfl,ae,af,U,W,by simp,H1,H2,(show ∀z,_ from fun z h=>h),rfl,ownP.nil_ _ _,F⟩
 case round =>
  clear F;obtain⟨A1,A2,C,E,c1,c2,D,bs,out,rfl,rfl,l1,l2,l3,l4,ag,P,R,N,HZ,HO,F⟩:=hrel;have M:=F.size;by_cases hlt:0<C/\0<E
  ·obtain⟨g1,g2⟩:=hlt
   obtain⟨b,o,x,at_,rfl,hb,rfl,e1,aa⟩:=P.o.uncons g1;obtain⟨L,O,y,T,rfl,ah,rfl,e2,X⟩:=R.o.uncons g2;have f1:wr.cell? ⟨b,o,none⟩=some (.pointer (some ⟨x.1,0,none⟩)):=(F.cell (p:=⟨b,o,none⟩) (by show b<_;omega)).trans e1;have f2:wr.cell? ⟨L,O,none⟩=some (.pointer (some ⟨y.1,0,none⟩)):=(F.cell (p:=⟨L,O,none⟩) (by show L<_;omega)).trans e2;have I:=HM.o x (N.o x (by simp));have J:=HM.o y (N.o y (by simp));have wx:wr.cell? ⟨x.1,0,none⟩=some (.int .i64 x.2.w):=(F.cell (p:=⟨x.1,0,none⟩) (block_lt_of_cell (a:=⟨x.1,0,none⟩) I)).trans I;have wy:wr.cell? ⟨y.1,0,none⟩=some (.int .i64 y.2.w):=(F.cell (p:=⟨y.1,0,none⟩) (block_lt_of_cell (a:=⟨y.1,0,none⟩) J)).trans J;have ab:=yo aa;have V:=yo X;have d1:decide ((C:Int) > 0)=true:=decide_eq_true (by omega);have d2:decide ((E:Int) > 0)=true:=decide_eq_true (by omega);clear e1 e2 I J aa X;by_cases hlt:y.2.w<x.2.w
   ·have G:Hid ((out++[y])++zaN mw (x :: at_) T=zaN mw t s):=(show _=_ by rw[<-HZ.o,zlv (wt:=mw) hlt];simp)
    have H:=yo (fun k:Nat=>(zag F (k+1)).alloc (o:=.cells #[.pointer (some ⟨y.1,0,none⟩)] 228) M);go_wp2_with fail;go_quiet (fail);by_cases hc:c2=1
    ·obtain rfl:E=1:=by omega
     subst hc;go_wp2_with fail
     go_region_law (go_must (refine zc5 rfl (.tmp 27) (.tmp 31) rfl w.heap.size u5 out rfl ((ownP.drewN HO.o (nq+1)).alloc _) _ 1 1 _ [y] rfl (zfS (wr.drewN (nq+1)) y) (by omega) (by simp;omega) ?_;intro v' w2 u hg g hv;have r:=yo u;have q:=yo g;clear u hg g hv))
     all_goals
      go_simp;go_wp2_with fail;go_roundw
      case rel=>exact⟨some ⟨b,o,none⟩,some ⟨L,O,none⟩,C,0,c1,0,x :: at_,T,out++[y],rfl,rfl,l1,by omega,l3,by omega,by simp;omega,P,(show RdP _ _ _ _ _ from znw V.o (by omega)),(show ∀z,_ from fun z hz=>N.o z (by rcases hz with hz|hz<;>simp_all)),G,r,(H.o nq).trans q.o⟩
      case measure=>simp only[zeR];omega
    ·have k1:(1:Int)<=(E:Int):=by omega
     go_wp2_with fail
     go_region_law (go_must (refine zc5 rfl (.tmp 27) (.tmp 31) rfl w.heap.size u5 out rfl ((ownP.drewN HO.o (nq+1)).alloc _) _ 1 1 _ [y] rfl (zfS (wr.drewN (nq+1)) y) (by omega) (by simp;omega) ?_;intro v' w2 u hg g hv;have r:=yo u;have q:=yo g;clear u hg g hv))
     all_goals
      go_simp;go_wp2_with fail;go_roundw
      case rel=>exact⟨some ⟨b,o,none⟩,some ⟨L,O+1,none⟩,C,E-1,c1,c2-1,x :: at_,T,out++[y],rfl,rfl,l1,by omega,l3,by omega,by simp;omega,P,V,(show ∀z,_ from fun z hz=>N.o z (by rcases hz with hz|hz<;>simp_all)),G,r,(H.o nq).trans q.o⟩
      case measure=>simp only[zeR];omega
   ·have G:Hid ((out++[x])++zaN mw at_ (y :: T)=zaN mw t s):=(show _=_ by rw[<-HZ.o,zlw (wt:=mw) hlt];simp)
    have H:=yo (fun k:Nat=>(zag F (k+1)).alloc (o:=.cells #[.pointer (some ⟨x.1,0,none⟩)] 228) M);go_wp2_with fail;go_quiet (fail);by_cases hc:c1=1
    ·obtain rfl:C=1:=by omega
     subst hc;go_wp2_with fail
     go_region_law (go_must (refine zc5 rfl (.tmp 35) (.tmp 39) rfl w.heap.size u5 out rfl ((ownP.drewN HO.o (nq+1)).alloc _) _ 1 1 _ [x] rfl (zfS (wr.drewN (nq+1)) x) (by omega) (by simp;omega) ?_;intro v' w2 u hg g hv;have r:=yo u;have q:=yo g;clear u hg g hv))
     all_goals
      go_simp;go_wp2_with fail;go_roundw
      case rel=>exact⟨some ⟨b,o,none⟩,some ⟨L,O,none⟩,0,E,0,c2,at_,y :: T,out++[x],rfl,rfl,by omega,l2,by omega,l4,by simp;omega,(show RdP _ _ _ _ _ from znw ab.o (by omega)),R,(show ∀z,_ from fun z hz=>N.o z (by rcases hz with hz|hz<;>simp_all)),G,r,(H.o nq).trans q.o⟩
      case measure=>simp only[zeR];omega
    ·have k1:(1:Int)<=(C:Int):=by omega
     go_wp2_with fail
     go_region_law (go_must (refine zc5 rfl (.tmp 35) (.tmp 39) rfl w.heap.size u5 out rfl ((ownP.drewN HO.o (nq+1)).alloc _) _ 1 1 _ [x] rfl (zfS (wr.drewN (nq+1)) x) (by omega) (by simp;omega) ?_;intro v' w2 u hg g hv;have r:=yo u;have q:=yo g;clear u hg g hv))
     all_goals
      go_simp;go_wp2_with fail;go_roundw
      case rel=>exact⟨some ⟨b,o+1,none⟩,some ⟨L,O,none⟩,C-1,E,c1-1,c2,at_,y :: T,out++[x],rfl,rfl,by omega,l2,by omega,l4,by simp;omega,ab,R,(show ∀z,_ from fun z hz=>N.o z (by rcases hz with hz|hz<;>simp_all)),G,r,(H.o nq).trans q.o⟩
      case measure=>simp only[zeR];omega
  ·have HE:Hid (out++D++bs=zaN mw t s):=(show _=_ by
    rw[<-HZ.o,zqc]
    ·simp
    ·have h1:=P.o.len
     have h2:=R.o.len;by_cases hh:0<C
     ·exact .inr (List.eq_nil_of_length_eq_zero (by omega))
     ·exact .inl (List.eq_nil_of_length_eq_zero (by omega)))
   have L1:=yo P.o.len;have L2:=yo R.o.len;by_cases g1:0<C<;>by_cases g2:0<E<;>(first|(exfalso;omega)|skip)
   all_goals
    go_wp2_with (first
     |(at_builtin;(refine zd5 rfl (.tmp 43) (.tmp 44) rfl w.heap.size u5 out rfl HO.o B C c1 A1 D rfl (P.o.blw (F.mono Z)) (by omega) M ?_;intro v' w2 u hg g hv;have r:=yo u;have q:=yo (F.trans g);clear u hg g hv))
     |(at_builtin;(refine zd5 rfl (.tmp 45) (.tmp 46) rfl w.heap.size v' (out++D) rfl r.o B E c2 A2 bs rfl (R.o.blw (q.o.mono Z)) (by have:=L1.o;simp;omega) q.o.size ?_;intro v4 w4 u hg g hv;have Y:=yo u;have ac:=yo (q.o.trans g);clear u hg g hv)))
    obtain⟨A9,c9,rfl,aj,ak,ai⟩:=Y.o.form;go_ret;exact⟨A9,_,c9,_,rfl,rfl,Y.o,HE.o,ac.o⟩
end Go.Proofs.YtebbdifhiihfkaaGreatDoor

/- huff: counts. -/
namespace Go.Proofs.YtebbdifhiihfkaaGreatDoor
set_option linter.all false
set_option maxRecDepth 100000
set_option maxHeartbeats 3200000
open Go.RowKit
def Sg(hi g:Nat):Nat->Prop:=fun b=>b<hi/\b≠g
theorem isM.gro{hi g:Nat}{w w':World}{a:Nat}{t:Mem}(h:isM w (Sg hi g) a t)(hg:w.grownBy w' (some g))(o:hi<=w.heap.size):isM w' (Sg hi g) a t :=
 h.keep (fun p hp=>World.cell?_of_block (hg.block p.block (by have:=hp.1;omega) (fun e=>hp.2 (by injection e)))) (fun _ h=>h)
theorem zhR{w w' o:World}{row:Option Nat}(h:w.grownBy w' row)(k:w'.grownBy o row):w.grownBy o row :=
 ⟨k.os.trans h.os,k.tape.trans h.tape,k.output.trans h.output,nlt h.size k.size,fun i hi g=>(k.block i (Nat.lt_of_lt_of_le hi h.size) g).trans (h.block i hi g)⟩
theorem zsi(xs:List Int)(p:Nat):(zdq xs p).length=xs.length:=by simp[zdq]
theorem zbz(xs:List Int)(ps:List Nat):(zaD xs ps).length=xs.length:=by
 induction ps generalizing xs with
 |nil=>rfl
 |cons p ps ih=>unfold zaD at ih ⊢;rw[List.foldl_cons,ih,zsi]
theorem zdS(xs:List Int)(ps g:List Nat):zaD xs (ps++g)=zaD (zaD xs ps) g:=by unfold zaD;rw[List.foldl_append]
theorem zsj{xs:List Int}{p:Nat}{M:Int}(h:∀x∈xs,0<=x/\x<=M)(g:0<=M):∀x∈zdq xs p,0<=x/\x<=M+1:=by
 intro x hx;unfold zdq at hx;rcases List.mem_or_eq_of_mem_set hx with hx|rfl
 ·have:=h x hx;omega
 ·rw[lgd]
  cases he:xs[p]? with
  |none=>simp;omega
  |some y =>
   have:=h y (List.mem_of_getElem? he);simp;omega
theorem zeu{xs:List Int}{ps:List Nat}{M:Int}(h:∀x∈xs,0<=x/\x<=M)(g:0<=M):∀x∈zaD xs ps,0<=x/\x<=M+ps.length:=by
 induction ps generalizing xs M with
 |nil=>intro x hx;have:=h x hx;simp;omega
 |cons p ps ih =>
  intro x hx;have:=ih (zsj (p:=p) h g) (by omega) x (by unfold zaD at hx ⊢;rwa[List.foldl_cons] at hx);simp at this ⊢;omega
theorem zoA(base g n c hi:Nat)(hn:n<=1099511627776):∀(t:Mem) (a:Nat) (xs:List Int) (M:Int) (w:World),isM w (Sg hi g) a t->hi<=w.heap.size->ownI w base (.slice (some ⟨g,0,none⟩) n c) xs->n=xs.length ->
  (∀p∈t.items,p<n)->(∀x∈xs,0<=x/\x<=M)->0<=M->M+t.items.length<=1099511627776 ->
  Calls Tryz.prog 176 #[.pointer (some ⟨a,0,none⟩),.slice (some ⟨g,0,none⟩) n c] w fun e w'=>e=.returned (.tuple #[])/\ownI w' base (.slice (some ⟨g,0,none⟩) n c) (zaD xs t.items)/\w.grownBy w' (some g):=by
 intro t
 induction t with
 |leaf x p =>
  intro a xs M w h J u q hp hx z A;obtain⟨S,c0,c1,c2⟩:=h;have T:p<n:=hp p (by simp[Mem.items]);have e0:=u.cell q (k:=p) (by omega);have f0:=u.frozen q p;have Y:=hx (xs[p]'(by omega)) (List.getElem_mem _);have hs:=u.store q p (xs[p]'(by omega)+1);have P:Hid (zaD xs (Mem.leaf x p).items=xs.set p (xs[p]'(by omega)+1)):=(show _=_ by
   show zdq xs p=_;unfold zdq;rw[lgd,lge (by omega)];rfl)
  generalize xs[p]'(by omega)=y at *;have U:=yo hs;have Z:M+1<=1099511627776:=by simpa [Mem.items] using A
  clear hs u q hp hx A;have c3:(w.setCell ⟨g,p,none⟩ (.int .i64 (y+1))).cell? ⟨a,2,none⟩=some (.slice none 0 0):=(World.cell?_setCell_other w ⟨g,p,none⟩ ⟨a,2,none⟩ _ (by intro e;injection e with e;exact S.2 e.symm)).trans c2;have W:=yo (zgC (g:=g) (k:=p) (zel w (some g)) (.int .i64 (y+1)));go_enter Tryz.func176,Tryz.ntmps176;go_wp2;refine wp_loop_rounds 1 ?_;rw[rounds_succ];go_wp2;go_end0;exact⟨rfl,by rw[P.o];exact U.o,W.o⟩
 |node l r ihl ihr =>
  intro a xs M w h J u q hp hx z A;obtain⟨_,c0,c1,I,o,cp,x,y,c2,sg,_,_,X,d1,B,H⟩:=h;have D:(Mem.node l r).items=l.items++r.items:=rfl;rw[D] at hp A ⊢;rw[lla] at A;have HL:=yo (ihl x xs M w B J u q (fun p h=>hp p (List.mem_append_left _ h)) hx z (by omega));have V:=yo (fun(w':World) (hg:w.grownBy w' (some g)) (O:ownI w' base (.slice (some ⟨g,0,none⟩) n c) (zaD xs l.items)) =>
   ihr y (zaD xs l.items) (M+l.items.length) w' (H.gro hg J) (nlt J hg.size) O (by rw[zbz];exact q) (fun p h=>hp p (List.mem_append_right _ h)) (zeu hx z) (by omega) (by omega))
  have HK:=yo (fun(w':World) (hg:w.grownBy w' (some g))=>(⟨(World.cell?_of_block (hg.block I (by have:=sg.1;omega) (fun e=>sg.2 (by injection e)))).trans X,(World.cell?_of_block (hg.block I (by have:=sg.1;omega) (fun e=>sg.2 (by injection e)))).trans d1⟩:w'.cell? ⟨I,o,none⟩=some (.pointer (some ⟨x,0,none⟩))/\w'.cell? ⟨I,o+1,none⟩=some (.pointer (some ⟨y,0,none⟩))));have P:=yo (zdS xs l.items r.items);clear ihl ihr B H u q hp hx A D;go_enter Tryz.func176,Tryz.ntmps176;go_wp2;refine wp_loop_rounds 3 ?_;rw[rounds_succ];go_wp2_with (go_at_call 176;(with_reducible refine HL.o.mono ?_);go_must (rintro e w1 ⟨rfl,G,s⟩;have N:=yo G;have C:=yo s;obtain⟨k0,k1⟩:=HK.o w1 s;clear G s));rw[rounds_succ];go_wp2_with (go_at_call 176;(with_reducible refine(V.o _ C.o N.o).mono ?_);go_must (rintro e w2 ⟨rfl,E,F⟩;have L:=yo E;have R:=yo (zhR C.o F);clear E F));rw[rounds_succ];go_wp2;go_end0;exact⟨rfl,by rw[P.o];exact L.o,R.o⟩
end Go.Proofs.YtebbdifhiihfkaaGreatDoor

/- huff: plain facts on items and packages. -/
namespace Go.Proofs.YtebbdifhiihfkaaGreatDoor
set_option linter.all false
theorem zb3{ws:List Int}{t:Mem}(h:t∈zah ws):∃(p:Nat) (hp:p<ws.length),t=.leaf ws[p] p/\0<ws[p]:=by
 unfold zah at h;rw[List.mem_filterMap] at h;obtain⟨⟨x,k⟩,hx,he⟩:=h;obtain⟨o,g⟩:=List.mem_zipIdx' hx;simp only at he;rw[g] at he;split at he
 ·rename_i h0
  injection he with he;exact⟨k,o,he.symm,h0⟩
 ·cases he
theorem zgS(l:List Mem):(zbj l).length=l.length / 2:=by
 fun_induction zbj l with
 |case1 a b r ih=>simp[ih];omega
 |case2 l h =>
  match l,h with
  | [],_=>rfl
  | [x],_=>simp
  |a :: b :: r,h=>exact absurd rfl (h a b r)
theorem zgT{l:List Mem}{t:Mem}(h:t∈zbj l):∃a b,t=.node a b/\a∈l/\b∈l:=by
 fun_induction zbj l with
 |case1 a b r ih =>
  rcases List.mem_cons.1 h with rfl|h
  ·exact⟨a,b,rfl,by simp,by simp⟩
  ·obtain⟨x,y,e,hx,hy⟩:=ih h
   exact⟨x,y,e,by simp[hx],by simp[hy]⟩
 |case2=>cases h
theorem znx(first:List Mem)(k:Nat):(pmL first (k+1)).length=first.length+(pmL first k).length / 2:=by
 rw[pmL,zka,zgS]
theorem ztT(first:List Mem):∀k,2*first.length*2 ^ k<(pmL first k).length*2 ^ k+first.length+2 ^ k:=by
 intro k
 induction k with
 |zero=>simp[pmL];omega
 |succ k ih =>
  rw[znx,Nat.pow_succ];generalize (pmL first k).length=L at *;generalize first.length=n at *;have hp:0<2 ^ k:=Nat.two_pow_pos k;generalize 2 ^ k=q at *;have h1:L<=2*(L / 2)+1:=by omega
  have h2:L*q<=(2*(L / 2)+1)*q:=Nat.mul_le_mul_right _ h1;generalize L / 2=d at *;have s:(2*d+1)*q=2*(d*q)+q:=by rw[Nat.add_mul,Nat.one_mul,Nat.mul_assoc]
  have o:(n+d)*(q*2)=2*(n*q)+2*(d*q):=by rw[<-Nat.mul_assoc,Nat.add_mul,Nat.mul_comm _ 2,Nat.mul_add]
  have g:2*n*(q*2)=4*(n*q):=by rw[<-Nat.mul_assoc,Nat.mul_assoc 2 n q,Nat.mul_comm _ 2,<-Nat.mul_assoc]
  have r:2*n*q=2*(n*q):=Nat.mul_assoc _ _ _;rw[s] at h2;rw[r] at ih;rw[o,g];omega
theorem zgU(first:List Mem)(k:Nat)(h:first.length<=2 ^ (k+1)):2*first.length-2<=(pmL first k).length:=by
 have:=ztT first k;rw[Nat.pow_succ] at h;generalize (pmL first k).length=L at *;generalize first.length=n at *;have hp:0<2 ^ k:=Nat.two_pow_pos k;generalize 2 ^ k=q at *;apply Classical.byContradiction;intro g;have h1:L+3<=2*n:=by omega
 have h2:(L+3)*q<=2*n*q:=Nat.mul_le_mul_right _ h1;rw[Nat.add_mul] at h2;omega
theorem zgV{P:Nat->Mem->Prop}{first:List Mem}(h0:∀k,∀t∈first,P k t)(h1:∀k a b,P k a->P k b->P (k+1) (.node a b)):∀k,∀t∈pmL first k,P k t:=by
 intro k
 induction k with
 |zero=>exact h0 0
 |succ k ih =>
  intro t ht;rw[pmL,zkb] at ht;rcases ht with ht|ht
  ·exact h0 _ t ht
  ·obtain⟨a,b,rfl,o,g⟩:=zgT ht
   exact h1 k a b (ih a o) (ih b g)
theorem zqe{first:List Mem}(h:∀t∈first,0<=t.w/\t.w<=1073741824)(k:Nat):∀t∈pmL first k,0<=t.w/\t.w<=1073741824*2 ^ k:=by
 refine zgV (P:=fun k t=>0<=t.w/\t.w<=1073741824*2 ^ k) (fun k t ht=>?_) (fun k a b o g=>?_) k
 ·have:=h t ht
  have hp:(1:Int)<=2 ^ k:=by
   have:(0:Int)<2 ^ k:=Int.pow_pos (by decide);omega
  omega
 ·simp only[Mem.w,Int.pow_succ] at *
  omega
theorem zmS{first:List Mem}(h:∀t∈first,0<=t.w/\t.w<=1073741824){k:Nat}(g:k<=15):∀t∈pmL first k,0<=t.w/\t.w<=1125899906842624:=fun t ht=>by
 have h1:=zqe h k t ht;have h2:(2:Int) ^ k<=2 ^ 15:=by
  have:=Nat.pow_le_pow_right (show 1<=2 by decide) g
  exact_mod_cast this
 omega
theorem zqf{first:List Mem}{n:Nat}(h:∀t∈first,∀p∈t.items,p<n)(k:Nat):∀t∈pmL first k,∀p∈t.items,p<n:=by
 refine zgV (P:=fun _ t=>∀p∈t.items,p<n) (fun k t ht=>h t ht) (fun k a b o g p hp=>?_) k;rcases List.mem_append.1 hp with hp|hp
 ·exact o p hp
 ·exact g p hp
theorem zsk{first:List Mem}(h:∀t∈first,t.items.length<=1)(k:Nat):∀t∈pmL first k,t.items.length<=2 ^ k:=by
 refine zgV (P:=fun k t=>t.items.length<=2 ^ k) (fun k t ht=>?_) (fun k a b o g=>?_) k
 ·have:=h t ht
  have:=Nat.two_pow_pos k;omega
 ·show(a.items++b.items).length<=_
  rw[lla,Nat.pow_succ];omega
theorem zsl{l:List Mem}{M:Nat}(h:∀t∈l,t.items.length<=M):(l.flatMap Mem.items).length<=l.length*M:=by
 induction l with
 |nil=>simp
 |cons x r ih =>
  rw[List.flatMap_cons,lla,List.length_cons,Nat.add_mul,Nat.one_mul];have:=h x (by simp);have:=ih (fun t ht=>h t (by simp[ht]));omega
theorem stab_mem{α:Type}{wt:α->Int}{l:List α}{x:α}:x∈zam wt l↔x∈l:=(zaR l).2.mem x
theorem zlx{ws:List Int}{most:Int}(h:zb2 ws most=false):1<=ws.length/\ws.length<=300/\1<=most/\most<=15/\(∀x∈ws,0<=x/\x<=1073741824)/\(zah ws).length<=2 ^ most.toNat:=by
 unfold zb2 at h;simp only[Bool.or_eq_false_iff,decide_eq_false_iff_not] at h;obtain⟨⟨⟨⟨⟨h1,h2⟩,o⟩,h4⟩,g⟩,q⟩:=h;refine⟨by omega,by omega,by omega,by omega,?_,by rw[zaH];omega⟩;intro x hx;unfold zeE at g;rw[List.any_eq_false] at g;have:=g x hx;simp only[Bool.or_eq_true,decide_eq_true_eq] at this;omega
theorem zsm{ws:List Int}(h:∀x∈ws,0<=x/\x<=1073741824):∀t∈zah ws,0<=t.w/\t.w<=1073741824:=fun t ht=>by
 obtain⟨p,hp,rfl,_⟩:=zb3 ht;exact h _ (List.getElem_mem hp)
theorem zsn{ws:List Int}:∀t∈zah ws,∀p∈t.items,p<ws.length:=fun t ht p hp=>by
 obtain⟨q,hq,rfl,_⟩:=zb3 ht;have:p=q:=by simpa [Mem.items] using hp
 omega
theorem zso{ws:List Int}:∀t∈zah ws,t.items.length<=1:=fun t ht=>by
 obtain⟨q,hq,rfl,_⟩:=zb3 ht;simp[Mem.items]
end Go.Proofs.YtebbdifhiihfkaaGreatDoor

/- huff: Lengths. -/
namespace Go.Proofs.YtebbdifhiihfkaaGreatDoor
set_option linter.all false
set_option maxRecDepth 100000
set_option maxHeartbeats 6400000
open Go.RowKit
def zh8(ws:List Int)(most:Int):Int:=if zb2 ws most then 1 else 0
def zgW(ws:List Int)(most:Int):List Int:=if zb2 ws most then[] else zaw ws most.toNat
/-- What both Lengths give. -/
def ztU(ws:List Int)(most:Int)(w:World)(e:Ending)(w':World):Prop :=
 ∃A n c,e=.returned (.tuple #[.slice A n c,.int .i64 (zh8 ws most)])/\n=(zgW ws most).length/\ownI w' w.heap.size (.slice A n c) (zgW ws most)/\Below w.heap.size w w'
theorem ownP.lo{w:World}{base n c:Nat}{A:Option Addr}{l:List MP}(h:ownP w base (.slice A n c) l):∀a,A=some a->base<=a.block:=by
 intro a o;rcases h.2 with⟨q,_⟩ | ⟨g,s,r,q,t,_⟩
 ·injection q with h1;rw[h1] at o;cases o
 ·injection q with h1
  rw[h1] at o;injection o with o;rw[<-o];exact t
theorem isM.sg{w:World}{lo hi g:Nat}{t:Mem}{a:Nat}(h:isM w (Rng lo hi) a t)(hg:g<lo):isM w (Sg hi g) a t:=h.keep (fun _ _=>rfl) (fun b o=>⟨o.2,by have:=o.1;omega⟩)
theorem zqg{w w':World}{B n g:Nat}{A:Option Addr}{l:List MP}(h:RdP w B A n l)(hg:w.grownBy w' (some g))(C:B<=w.heap.size)(r:∀a,A=some a->g<a.block):RdP w' B A n l :=
 ⟨h.1,fun q=>by
  obtain⟨b,o,e,t,s⟩:=h.2 q;refine⟨b,o,e,t,fun j u z=>?_⟩;have:=r _ e;refine(World.cell?_of_block (hg.block b (by omega) (fun e=>?_))).trans (s j u z);injection e with e;have:g<b:=this;omega⟩
theorem zgX(l:List Mem):(zam Mem.w l).length=l.length:=(zaR l).2.length
theorem zmT(B n c:Nat)(A:Option Addr)(ws:List Int)(most:Int)(w:World)(h:RdI w B A n ws)(a3:B<=w.heap.size)(hn:n<=1099511627776):
  Calls Tryz.prog 153 #[.slice A n c,.int .i64 most] w (ztU ws most w):=by
 have hl:=h.len;cases hw:zb2 ws most with
 |true =>
  have HW:=yo (zj9 B n c A ws most w h hn);rw[hw] at HW;have J:Hid (zh8 ws most=1/\zgW ws most=[]):=(show _/\_ by unfold zh8 zgW;rw[hw];exact⟨rfl,rfl⟩);clear h hl hw;go_enter Tryz.func153,Tryz.ntmps153;go_wp2_with (go_at_call 172;(with_reducible refine HW.o.mono ?_);go_must (rintro e w1 ⟨rfl,rfl⟩));go_ret2;refine⟨none,0,0,zaA rfl (by rw[J.o.1];rfl),by rw[J.o.2];rfl,by rw[J.o.2];exact ownI.nil_ _ _,Below.refl _ _⟩
 |false =>
  have HW:=yo (zj9 B n c A ws most w h hn);rw[hw] at HW;obtain⟨q1,q2,q3,q4,q5,q6⟩:=zlx hw;obtain⟨m,rfl⟩:=Int.eq_ofNat_of_zero_le (show 0<=most by omega);have J:Hid (zh8 ws (m:Int)=0/\zgW ws (m:Int)=zaw ws m):=(show _/\_ by unfold zh8 zgW;rw[hw];exact⟨rfl,rfl⟩);have H:=yo h;have HL:=yo hl;have aG:=yo q5;have aU:=yo (show(zah ws).length<=2 ^ m by simpa using q6);have bq:1<=n:=by omega
  have bs:n<=300:=by omega
  have bw:1<=m:=by omega
  have bi:m<=15:=by omega
  have ao:=yo (fun(w':World) (hb:Below w.heap.size w w')=>zqb w.heap.size n c A ws w' ((h.blw (hb.mono a3)).more a3) hb.size hn);have aQ:(zah ws).length<=n:=by rw[zaH,<-hl];exact znv ws
  clear h hl hw q1 q2 q3 q4 q5 q6;by_cases hone:(zah ws).length=1
  ·have r:=yo hone
   clear hone aQ;go_enter Tryz.func153,Tryz.ntmps153;go_wp2_with (first
    |(go_at_call 172;(with_reducible refine HW.o.mono ?_);go_must (rintro e w1 ⟨rfl,rfl⟩))
    |(at_make;refine zc4 rfl _ _ rfl n _ rfl rfl rfl (by omega) ?_;intro w1 E T aj;have HO:=yo E;have G:=yo T;clear E T)
    |(go_at_call 173;(with_reducible refine(ao.o _ G.o).mono ?_);go_must (rintro e w2 ⟨A1,s,c1,V,rfl,O,L,C,R,D⟩;obtain⟨z,rfl⟩:∃z,V=[z]:=List.length_eq_one_iff.1 (by have:=congrArg List.length C;rw[(zaR _).2.length,List.length_map] at this;rw[this];exact r.o);obtain rfl:s=1:=O;obtain⟨A9,e9,bo⟩:∃b,A1=some ⟨b,0,none⟩/\w2.cell? ⟨b,0,none⟩=some (.pointer (some ⟨z.1,0,none⟩)):=(by obtain⟨_,g,eg,_,_⟩:=L.pos (by omega);subst eg;exact⟨g,rfl,L.cell rfl (k:=0) (by simp)⟩);subst e9;obtain⟨p,x,e8,aq⟩:∃p x,z.2=.leaf x p/\p<n:=(by have av:z.2∈zah ws:=(by have:z.2∈zam Mem.w (zah ws):=(by rw[<-C];simp);exact stab_mem.1 this);obtain⟨p,hp,e,_⟩:=zb3 av;exact⟨p,_,e,by rw[<-HL.o];exact hp⟩);have h7:=R z (by simp);rw[e8] at h7;obtain⟨s7,bk,bn,bv⟩:=h7;have aD:Hid (zam Mem.w (zah ws)=[.leaf x p]):=(show _=_ by rw[<-C,List.map_singleton,e8]);have u:=yo (G.o.trans (D.mono G.o.size));have S:=yo (HO.o.later D);have bp:=S.o.cell (by simp) (k:=p) (by simpa using aq);have bj:=S.o.frozen (by simp) p;clear L C R D e8)))
   go_ret2;refine⟨some ⟨w.heap.size,0,none⟩,n,n,zaA rfl (by rw[J.o.1];rfl),?_,?_,u.o.setCell (nlr _) _⟩
   ·rw[J.o.2,zaw,if_pos r.o,zbz,List.length_replicate,HL.o]
   ·have e5:zaw ws m=(List.replicate n 0).set p 1:=by
     rw[zaw,if_pos r.o];have e6:zah ws=[.leaf x p]:=by
      obtain⟨t,ht⟩:=List.length_eq_one_iff.1 r.o;have:=aD.o;rw[ht] at this ⊢;exact this
     rw[e6,HL.o];show(List.replicate n (0:Int)).set p ((List.replicate n (0:Int)).getD p 0+1)=_;rw[lgd,List.getElem?_replicate];simp[aq]
    rw[J.o.2,e5];exact S.o.store (by simp) p 1
  ·have r:=yo hone
   clear hone;go_enter Tryz.func153,Tryz.ntmps153;go_wp2_with (first
    |(go_at_call 172;(with_reducible refine HW.o.mono ?_);go_must (rintro e w1 ⟨rfl,rfl⟩))
    |(at_make;refine zc4 rfl _ _ rfl n _ rfl rfl rfl (by omega) ?_;intro w1 E T aj;have HO:=yo E;have G:=yo T;clear E T)
    |(go_at_call 173;(with_reducible refine(ao.o _ G.o).mono ?_);go_must (rintro e w2 ⟨A1,s,c1,V,rfl,O,L,C,R,D⟩;have hN:s=(zah ws).length:=(by have:=congrArg List.length C;rw[(zaR _).2.length,List.length_map] at this;omega);have HN:=yo hN;have Z:=yo L;have ap:=yo C;have ak:=yo R;have aI:s<=300:=(by omega);have bl:s≠1:=(by have:=r.o;omega);have bg:((s:Int)==1)=false:=(bef (by omega));have u:=yo (G.o.trans (D.mono G.o.size));have a7:=yo D;have S:=yo (HO.o.later D);clear O L C R D hN)))
   have aR:s<=c1/\c1<=maxLen:=by
    have h1:=Z.o.form;obtain⟨_,_,e,_,h2,h3⟩:=h1;injection e with _ N e2;subst N e2;exact⟨h2,h3⟩
   obtain⟨ab,ae⟩:=aR;go_loopw [34,8] (fun P v wr=>∃(k:Nat) (A:Option Addr) (X cl:Nat) (F:List MP),P=.int .i64 k/\k<=m-1/\v=.slice A X cl/\X<=cl/\cl<=maxLen/\X<=600/\Hid (RdP wr wr.heap.size A X F)/\Hid (∀a,A=some a->w1.heap.size<=a.block) /\
     Hid (∀z∈F,isM wr (Rng w1.heap.size wr.heap.size) z.1 z.2)/\Hid (F.map Prod.snd=pmL (zam Mem.w (zah ws)) k)/\Below w2.heap.size w2 wr)
    (fun P _ _=>m-(intOf P).toNat)
   case atStart=>exact⟨0,A1,s,c1,V,rfl,by omega,rfl,ab,ae,by omega,(show RdP _ _ _ _ _ from Z.o.rd),(show ∀a,_ from Z.o.lo),ak,ap,Below.refl _ _⟩
   case round =>
    obtain⟨k,Al,X,cl,F,rfl,hk,rfl,aM,aC,bh,HR,HA,HI,HP,I⟩:=hrel;by_cases hlt:k<m-1
    ·have a2:(k:Int)<(m:Int)-1:=by omega
     have a9:=zmS (first:=zam Mem.w (zah ws)) (fun t ht=>zsm aG.o t (stab_mem.1 ht)) (k:=k) (by omega);have aE:=yo (zlu w1.heap.size wr.heap.size X cl Al F wr HR.o aM aC (nlr _) (by omega) HA.o (by have:=a7.o.size;have:=I.size;omega) HI.o (fun z hz=>a9 z.2 (by rw[<-HP.o];exact List.mem_map_of_mem hz)));have aT:=yo (fun(wp:World) (hb:Below wr.heap.size wr wp) (A':Option Addr) (n' c':Nat) (zp:List MP) (ho:ownP wp wr.heap.size (.slice A' n' c') zp) (h1:n'<=600) (h2:n'<=c'/\c'<=maxLen) (hi:∀z∈zp,isM wp (Rng w1.heap.size wp.heap.size) z.1 z.2) =>
      zoz (fun _=>True) wp.heap.size s n' c1 c' A1 A' V zp wp (((Z.o.rd.blw I).blw (hb.mono I.size)).more (by have:=I.size;have:=hb.size;omega)) ho.rd ab h2.1 ae h2.2 (nlr _) (by omega)
       (fun z hz=>hz.elim (fun h=>(((ak.o z h).blw I (nlr _)).blw hb I.size).weight) (fun h=>(hi z h).weight)))
     clear a9;go_wp2_with (first
      |(go_at_call 175;(with_reducible refine aE.o.mono ?_);go_must (rintro e wp ⟨A3,n3,c3,aW,rfl,aV,U,al,an,af⟩;have aL:n3<=600:=(by have N:=congrArg List.length al;rw[zgS,List.length_map,List.length_map] at N;have:=HR.o.len;omega);have aN:n3<=c3/\c3<=maxLen:=(by obtain⟨_,_,e,_,h2,h3⟩:=U.form;injection e with _ N e2;subst N e2;exact⟨h2,h3⟩);have bt:=yo U;have aH:=yo al;have ba:=yo an;have ai:=yo af;have aF:=yo (aT.o wp af A3 n3 c3 aW U aL aN an);clear aV U al an af))
      |(go_at_call 174;(with_reducible refine aF.o.mono ?_);go_must (rintro e wq ⟨A4,n4,c4,az,rfl,aa,aB,ar,a5⟩;have aO:=yo aa;have am:=yo aB;have a8:=yo ar;have W:=yo a5;clear aa aB ar a5)))
     have aA:=W.o.size;have bd:=ai.o.size;have ac:=I.size;have bc:=a7.o.size;have a1:az.map Prod.snd=pmL (zam Mem.w (zah ws)) (k+1):=by
      rw[a8.o,show(mw:MP->Int)=fun x=>Mem.w (Prod.snd x) from rfl,zqd,aH.o,HP.o,ap.o];rfl
     have aw:n4<=c4/\c4<=maxLen:=by
      obtain⟨_,_,e,_,h2,h3⟩:=am.o.form;injection e with _ N e2;subst N e2;exact⟨h2,h3⟩
     have aa:n4<=600:=by
      have N:=congrArg List.length a1;rw[znx,List.length_map,zgX,<-HP.o,List.length_map] at N;have:=HR.o.len;have:=HN.o;have:=aO.o;omega
     go_roundw
     case rel =>
      refine⟨k+1,A4,n4,c4,az,by go_num,by omega,rfl,aw.1,aw.2,aa,(show RdP _ _ _ _ _ from am.o.rd),(show ∀a,_ from fun a ha=>by have:=am.o.lo a ha;omega),(show ∀z∈_,_ from fun z hz=>?_),a1,(I.trans (ai.o.mono ac)).trans (W.o.mono (by omega))⟩;have ay:=hz;rw[a8.o,zkb] at ay;rcases ay with h|h
      ·exact((((ak.o z h).blw I (nlr _)).blw ai.o ac).blw W.o (by omega)).more (nlr _) (by omega)
      ·exact((ba.o z h).blw W.o (nlr _)).more (nlr _) aA
     case measure=>simp[intOf];omega
    ·have a2:¬(k:Int)<(m:Int)-1:=by omega
     obtain rfl:k=m-1:=by omega
     have bf:2*s-2<=X:=by
      have N:=congrArg List.length HP.o;rw[List.length_map,HR.o.len] at N;have e2:=zgU (zam Mem.w (zah ws)) (m-1) (by rw[zgX,show m-1+1=m by omega];exact aU.o);rw[zgX,<-N,<-HN.o] at e2;exact e2
     obtain⟨q,hq⟩:∃q,q=2*s-2:=⟨_,rfl⟩;obtain⟨wo,rfl⟩:∃wo:World,wo=wr:=⟨_,rfl⟩;have HQ:Hid (q=2*(zah ws).length-2):=(show _=_ by rw[hq,HN.o]);have a6:Hid (ownI wo w.heap.size (.slice (some ⟨w.heap.size,0,none⟩) n n) (zaD (List.replicate n 0) (((F.map Prod.snd).take 0).flatMap Mem.items))):=(show ownI _ _ _ _ from S.o.later I);by_cases h0:s=0
     ·have bm:2*(s:Int)-2<0:=by omega
      have aY:¬0<=2*(s:Int)-2:=(by omega);obtain rfl:q=0:=by omega
      clear hq;go_wp2_with fail;go_loopw [49] (fun P wr=>∃j:Nat,P=.int .i64 j/\j<=0/\Hid (ownI wr w.heap.size (.slice (some ⟨w.heap.size,0,none⟩) n n) (zaD (List.replicate n 0) (((F.map Prod.snd).take j).flatMap Mem.items)))/\Hid (wo.grownBy wr (some w.heap.size)))
       (fun P _=>0-(intOf P).toNat)
      case atStart=>exact⟨0,rfl,Nat.zero_le _,a6,zel _ _⟩
      case round =>
       obtain⟨j,rfl,aK,Y,HG⟩:=hrel;by_cases hlt2:j<0
       ·exfalso;omega
       ·obtain rfl:j=0:=by omega
        have HF:Hid (zaD (List.replicate n 0) (((F.map Prod.snd).take 0).flatMap Mem.items)=zaw ws m):=(show _=_ by rw[zaw,if_neg r.o,HP.o,HQ.o,HL.o]);go_wp2_with fail;go_ret2;refine⟨some ⟨w.heap.size,0,none⟩,n,n,zaA rfl (by rw[J.o.1];rfl),?_,?_,?_⟩
        ·rw[J.o.2,<-HF.o,zbz,List.length_replicate]
        ·rw[J.o.2,<-HF.o];exact Y.o
        ·exact(u.o.trans (I.mono u.o.size)).grown HG.o (by have:=u.o.size;have:=I.size;omega) (fun g hg=>by injection hg with hg;omega)
     ·have aY:0<=2*(s:Int)-2:=by omega
      have br:2*(s:Int)-2<=cl:=(by omega);have bu:(2*(s:Int)-2).toNat=q:=(by omega);have bx:q<=X:=(by omega);clear hq;go_wp2_with fail;go_loopw [49] (fun P wr=>∃j:Nat,P=.int .i64 j/\j<=q/\Hid (ownI wr w.heap.size (.slice (some ⟨w.heap.size,0,none⟩) n n) (zaD (List.replicate n 0) (((F.map Prod.snd).take j).flatMap Mem.items)))/\Hid (wo.grownBy wr (some w.heap.size)))
       (fun P _=>q-(intOf P).toNat)
      case atStart=>exact⟨0,rfl,Nat.zero_le _,a6,zel _ _⟩
      case round =>
       obtain⟨j,rfl,aK,Y,HG⟩:=hrel;by_cases hlt2:j<q
       ·obtain⟨b,o,z,eA,hb,HX,N⟩:=(zqg HR.o HG.o (nlr _) (fun a ha=>Nat.lt_of_lt_of_le aj (HA.o a ha))).one (show j<X by omega)
        have hzm:z∈F:=List.mem_of_getElem? HX.o;have ah:z.2∈pmL (zam Mem.w (zah ws)) (m-1):=(by rw[<-HP.o];exact List.mem_map_of_mem hzm);have aS:Hid ((((F.map Prod.snd).take (j+1)).flatMap Mem.items)=(((F.map Prod.snd).take j).flatMap Mem.items)++z.2.items):=(show _=_ by
         have e5:(F.map Prod.snd)[j]?=some z.2:=(by rw[List.getElem?_map,HX.o];rfl);obtain⟨e6,e7⟩:=List.getElem?_eq_some_iff.1 e5;rw[List.take_succ_eq_append_getElem e6,e7,List.flatMap_append];simp)
        have ag:=zsk (first:=zam Mem.w (zah ws)) (fun t ht=>zso t (stab_mem.1 ht)) (m-1);have a0:2 ^ (m-1)<=2 ^ 14:=Nat.pow_le_pow_right (by omega) (by omega);have aZ:=zsl (l:=(F.map Prod.snd).take j) (M:=2 ^ (m-1)) (fun t ht=>ag t (by rw[<-HP.o];exact List.mem_of_mem_take ht));have aP:((F.map Prod.snd).take j).length*2 ^ (m-1)<=600*2 ^ 14:=Nat.mul_le_mul (by simp;omega) a0;have aX:=ag z.2 ah;have au:=zqf (first:=zam Mem.w (zah ws)) (n:=n) (fun t ht=>by have:=zsn t (stab_mem.1 ht);rwa[HL.o] at this) (m-1) z.2 ah;have HC:=yo (zoA w.heap.size w.heap.size n n wo.heap.size (by omega) z.2 z.1 _ ((((F.map Prod.snd).take j).flatMap Mem.items).length:Nat) wr (((HI.o z hzm).sg aj).gro HG.o (nlr _)) HG.o.size Y.o (by rw[zbz,List.length_replicate]) au
         (fun x hx=>by have:=zeu (xs:=List.replicate n 0) (M:=0) (fun y hy=>by rw[List.eq_of_mem_replicate hy];omega) (by omega) x hx;omega) (by omega) (by omega))
        clear ag aZ aP aX a0 au ah hzm;subst eA;go_wp2_with (go_at_call 176;(with_reducible refine HC.o.mono ?_);go_must (rintro e w9 ⟨rfl,a4,ax⟩;have aJ:=yo a4;have bb:=yo (zhR HG.o ax);clear a4 ax));go_roundw
        case rel=>exact⟨j+1,by go_num,by omega,(show ownI _ _ _ _ by rw[aS.o,zdS];exact aJ.o),bb⟩
        case measure=>simp[intOf];omega
       ·obtain rfl:j=q:=by omega
        have HF:Hid (zaD (List.replicate n 0) (((F.map Prod.snd).take j).flatMap Mem.items)=zaw ws m):=(show _=_ by rw[zaw,if_neg r.o,HP.o,HQ.o,HL.o]);go_wp2_with fail;go_ret2;refine⟨some ⟨w.heap.size,0,none⟩,n,n,zaA rfl (by rw[J.o.1];rfl),?_,?_,?_⟩
        ·rw[J.o.2,<-HF.o,zbz,List.length_replicate]
        ·rw[J.o.2,<-HF.o];exact Y.o
        ·exact(u.o.trans (I.mono u.o.size)).grown HG.o (by have:=u.o.size;have:=I.size;omega) (fun g hg=>by injection hg with hg;omega)
end Go.Proofs.YtebbdifhiihfkaaGreatDoor

