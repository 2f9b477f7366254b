/- XNum1 XBigs XRdBR -/
import Derived.Test.YtebbdifhiihfkaaGreatDoorMm01
import Derived.Test.YtebbdifhiihfkaaGreatDoorMm03
set_option linter.all false
set_option maxHeartbeats 400000
namespace Go.Proofs.YtebbdifhiihfkaaGreatDoor
open Go.RowKit
def leB(n:Nat)(w:Nat):List UInt8:=(List.range w).map fun i=>UInt8.ofNat (n / 2 ^ (8*i))
theorem zhu(n w:Nat):(leB n w).length=w:=by simp[leB]
theorem zrS(n:Int)(h0:0<=n)(W k:Nat)(g:k<W):leB n.toNat (k+1)++List.replicate (W-(k+1)) 0=(leB n.toNat k++List.replicate (W-k) 0).set k (UInt8.ofNat (n.toNat / 2 ^ (8*k))):=by
 have h1:W-k=(W-(k+1))+1:=by omega
 rw[h1,List.replicate_succ,List.set_append_right _ _ (by simp[zhu])];simp[zhu,leB,List.range_succ]
theorem zrT(n:Int)(h0:0<=n)(k:Nat):((UInt8.ofNat (n.toNat / 2 ^ (8*k))).toNat:Int)=n / 2 ^ (8*k) % 256:=by
 obtain⟨m,rfl⟩:=Int.eq_ofNat_of_zero_le h0;simp
theorem zpC(n:Int)(W:Nat)(w:World)(h0:0<=n)(h1:1<=W)(h2:W<=6)(D:decide (0<n / 2 ^ (8*W))=false):
  Calls Tryz.prog 77 #[.int .i64 n,.int .i64 W] w fun e w'=>∃v,e=.returned (.tuple #[v,.int .i64 0]) /\
   ownB w' w.heap.size v (leB n.toNat W)/\Below w.heap.size w w':=by
 have B:decide ((W:Int)<1)=false:=by simp;omega
 have C:decide (6<(W:Int))=false:=by simp;omega
 have A:decide (n<0)=false:=by simp;omega
 go_enter Tryz.func77,Tryz.ntmps77;go_wp2_with (at_make;go_loud (refine zdQ rfl _ _ rfl W _ rfl rfl rfl (by omega) ?_));intro w1 q u s;go_wp2;go_loopw [29,7] (fun i _ wr=>∃k:Nat,k<=W/\i=.int .i64 k/\ownB wr w.heap.size (.slice (some ⟨w.heap.size,0,none⟩) W W) (leB n.toNat k++List.replicate (W-k) 0)/\Below w.heap.size w wr)
  (fun i _ _=>W-(intOf i).toNat)
 case atStart=>exact⟨0,Nat.zero_le _,rfl,by simpa [leB] using q,u⟩
 case round =>
  obtain⟨k,z,rfl,g,o⟩:=hrel;have r:(leB n.toNat k++List.replicate (W-k) 0).length=W:=by simp[zhu];omega
  by_cases hlt:k<W
  ·obtain⟨F,E⟩:=g.cell' r.symm (by omega:k<(leB n.toNat k++List.replicate (W-k) 0).length)
   have G:=g.frozen r.symm k;have hs:=g.store r.symm k (UInt8.ofNat (n.toNat / 2 ^ (8*k)));rw[zrT n h0 k] at hs;have t:=yo hs;clear hs;go_wp2;go_roundw
   case rel=>exact⟨k+1,by omega,by go_num,by rw[zrS n h0 W k hlt];exact t.o,o.setCell (nlr _) _⟩
   case measure=>simp[intOf];omega
  ·go_wp2
   go_ret2;have:k=W:=by omega
   subst this;exact⟨_,rfl,by simpa using g,o⟩
/-- Little's answer where the number does not fit. -/
theorem zoi(n g:Int)(w:World)(h:g<1\/6<g\/n<0\/(0<=n/\1<=g/\g<=6/\0<n / 2 ^ (8*g).toNat)):
  Calls Tryz.prog 77 #[.int .i64 n,.int .i64 g] w fun e w'=>e=.returned (.tuple #[.slice none 0 0,.int .i64 1])/\w=w':=by
 rcases h with h|h|h | ⟨h0,h1,h2,q⟩
 ·have o:decide (g<1)=true:=by simp;omega
  go_enter Tryz.func77,Tryz.ntmps77;go_wp2;go_ret2;exact⟨rfl,rfl⟩
 ·have o:decide (g<1)=false:=by simp;omega
  have r:decide (6<g)=true:=by simp;omega
  go_enter Tryz.func77,Tryz.ntmps77;go_wp2;go_ret2;exact⟨rfl,rfl⟩
 ·by_cases h1:g<1
  ·have o:decide (g<1)=true:=by simp;omega
   go_enter Tryz.func77,Tryz.ntmps77;go_wp2;go_ret2;exact⟨rfl,rfl⟩
  ·have o:decide (g<1)=false:=by simp;omega
   by_cases h2:6<g
   ·have r:decide (6<g)=true:=by simp;omega
    go_enter Tryz.func77,Tryz.ntmps77;go_wp2;go_ret2;exact⟨rfl,rfl⟩
   ·have r:decide (6<g)=false:=by simp;omega
    have s:decide (n<0)=true:=(by simp;omega);go_enter Tryz.func77,Tryz.ntmps77;go_wp2;go_ret2;exact⟨rfl,rfl⟩
 ·have o:decide (g<1)=false:=by simp;omega
  have r:decide (6<g)=false:=by simp;omega
  have s:decide (n<0)=false:=by simp;omega
  obtain⟨k,rfl⟩:=Int.eq_ofNat_of_zero_le (by omega:0<=g);have t:decide (0<n / 2 ^ (8*k))=true:=by
   rw[show(8*(k:Int)).toNat=8*k by omega] at q
   simpa using q
  clear q;go_enter Tryz.func77,Tryz.ntmps77;go_wp2;go_ret2;exact⟨rfl,rfl⟩
/-- bs with the first k and the last k turned round. -/
def zbN(bs:List UInt8)(k:Nat):List UInt8:=(List.range bs.length).map fun t=>if t<k\/bs.length-k<=t then bs.getD (bs.length-1-t) 0 else bs.getD t 0
theorem zh3(bs:List UInt8)(k:Nat):(zbN bs k).length=bs.length:=by simp[zbN]
theorem zpD(bs:List UInt8):zbN bs 0=bs:=by
 apply List.ext_getElem (by simp[zbN]);intro i h1 h2;simp only[zbN,List.getElem_map,List.getElem_range];rw[if_neg (by omega)];simp[List.getD,h2]
theorem zrU(bs:List UInt8)(k:Nat)(h:bs.length<=2*k+1)(o:2*k<=bs.length):zbN bs k=bs.reverse:=by
 apply List.ext_getElem (by simp[zbN]);intro i h1 h2;have g:i<bs.length:=by simpa using h2
 simp only[zbN,List.getElem_map,List.getElem_range,List.getElem_reverse];by_cases h4:i<k\/bs.length-k<=i
 ·rw[if_pos h4];simp[List.getD,(by omega:bs.length-1-i<bs.length)]
 ·rw[if_neg h4]
  have:bs.length-1-i=i:=by omega
  simp[List.getD,g,this]
theorem zpE(bs:List UInt8)(k:Nat)(h:2*k+1<bs.length):
  ((zbN bs k).set k (bs.getD (bs.length-1-k) 0)).set (bs.length-1-k) (bs.getD k 0)=zbN bs (k+1):=by
 apply List.ext_getElem (by simp[zbN]);intro i h1 h2;simp[zbN] at h1;rw[List.getElem_set,List.getElem_set];by_cases e1:bs.length-1-k=i
 ·subst e1
  simp[zbN];rw[if_pos (by omega),show bs.length-1-(bs.length-1-k)=k by omega]
 ·rw[if_neg e1]
  by_cases e2:k=i
  ·subst e2
   simp[zbN]
  ·rw[if_neg e2]
   simp only[zbN,List.getElem_map,List.getElem_range];by_cases h3:i<k\/bs.length-k<=i
   ·rw[if_pos h3,if_pos (by omega)]
   ·rw[if_neg h3,if_neg (by omega)]
theorem zrV(bs:List UInt8)(k:Nat)(h:2*k+1<bs.length):(zbN bs k)[k]'(by rw[zh3];omega)=bs.getD k 0:=by
 simp[zbN];intro h;omega
theorem zpF(bs:List UInt8)(k:Nat)(h:2*k+1<bs.length):(zbN bs k)[bs.length-1-k]'(by rw[zh3];omega)=bs.getD (bs.length-1-k) 0:=by
 simp[zbN];intro h;omega
/-- slices.Reverse on a row of the call's own. -/
theorem zhN(base:Nat)(v:Value)(bs:List UInt8)(w:World)(h:ownB w base v bs):
  Calls Tryz.prog 78 #[v] w fun e w'=>e=.returned (.tuple #[])/\ownB w' base v bs.reverse/\Below base w w':=by
 rcases Nat.eq_zero_or_pos bs.length with h0|h0
 ·have:bs=[]:=List.eq_nil_of_length_eq_zero h0
  subst this;obtain⟨A,c,rfl,_,_,_⟩:=h.form;clear h0;go_enter Tryz.func78,Tryz.ntmps78;go_wp2;refine wp_loop_rounds 1 ?_;rw[rounds_succ];go_wp2;go_end0;exact⟨rfl,by simpa using h,Below.refl _ _⟩
 ·have J:=h
  rcases J.2 with⟨rfl,U⟩ | ⟨g,C,F,rfl,O,hg,D,z,E,t⟩
  ·omega
  clear J;have L:bs.length<=9223372036854775807:=by unfold maxLen at z;omega
  have B:=(olt h g rfl);clear hg E t F z D O;go_enter Tryz.func78,Tryz.ntmps78;go_wp2;go_loopw [2,3] (fun i j wr=>∃k m:Nat,Hid (k+m+1=bs.length)/\k<=m+1/\k+m<bs.length/\i=.int .i64 k/\j=.int .i64 m/\ownB wr base (.slice (some ⟨g,0,none⟩) bs.length C) (zbN bs k)/\Below base w wr)
   (fun i _ _=>bs.length-(intOf i).toNat)
  case atStart=>exact⟨0,bs.length-1,yo (by omega),by omega,by omega,rfl,by congr 1;omega,by rw[zpD];exact h,Below.refl _ _⟩
  case round =>
   obtain⟨k,m,q,S,hlt,rfl,rfl,o,s⟩:=hrel;have G:=zh3 bs k;by_cases hc:k<m
   ·have r:=yo G
    clear G;have V:=o.cell r.o.symm (k:=k) (by rw[r.o];omega);have P:=o.cell r.o.symm (k:=m) (by rw[r.o];omega);have N:∀u,(wr.setCell ⟨g,k,none⟩ u).cell? ⟨g,m,none⟩=some (.int .u8 ((zbN bs k)[m]'(by rw[r.o];omega)).toNat):=fun u=>by
     rw[World.cell?_setCell_other _ _ _ _ (by intro e;injection e;omega)];exact P
    have T:=o.frozen r.o.symm k;have R:=o.frozen r.o.symm m;go_wp2
    go_region
    have M:Hid (ownB ((wr.setCell ⟨g,k,none⟩ (.int .u8 ((zbN bs k)[m]'(by rw[r.o];omega)).toNat)).setCell ⟨g,m,none⟩ (.int .u8 ((zbN bs k)[k]'(by rw[r.o];omega)).toNat)) base (.slice (some ⟨g,0,none⟩) bs.length C) (zbN bs (k+1))):=by
     have h1:=o.store r.o.symm k ((zbN bs k)[m]'(by rw[r.o];omega));have h2:=h1.store (by simp[r.o]) m ((zbN bs k)[k]'(by rw[r.o];omega));have e:=zpE bs k (by have:=q.o;omega);have I:bs.length-1-k=m:=(by have:=q.o;omega);rw[I,<-zrV bs k (by have:=q.o;omega)] at e;have H:=zpF bs k (by have:=q.o;omega);simp only[I] at H;rw[<-H] at e;rw[e] at h2;exact h2
    go_wp2;go_roundw
    case rel=>exact⟨k+1,m-1,yo (by have:=q.o;omega),by omega,by omega,by go_num,by congr 1;omega,M.o,((s.setCell B.1 _).setCell B.1 _).drew⟩
    case measure=>simp[intOf];omega
   ·go_wp2
    go_end0;exact⟨rfl,by rw[<-zrU bs k (by have:=q.o;omega) (by have:=q.o;omega)];exact o,s⟩
def beB(n:Nat)(w:Nat):List UInt8:=(leB n w).reverse
theorem ztH(n w:Nat):(beB n w).length=w:=by simp[beB,zhu]
theorem ztI(n g:Int)(w:World)(h:g<1\/6<g\/n<0\/(0<=n/\1<=g/\g<=6/\0<n / 2 ^ (8*g).toNat)):
  Calls Tryz.prog 46 #[.int .i64 n,.int .i64 g] w fun e w'=>e=.returned (.tuple #[.slice none 0 0,.int .i64 1])/\Below w.heap.size w w':=by
 have H:=yo h;clear h;go_enter Tryz.func46,Tryz.ntmps46;go_wp2_with (first
  |(go_at_call 77;refine(zoi n g _ H.o).mono ?_;rintro e w' ⟨rfl,rfl⟩)
  |(go_at_call 78;refine(zhN w.heap.size (.slice none 0 0) [] _ (World.ownsRow_nil _ _ _ _)).mono ?_;rintro e w' ⟨rfl,_,o⟩))
 go_ret2;exact⟨rfl,o⟩
theorem zuU(n:Int)(W:Nat)(w:World)(h0:0<=n)(h1:1<=W)(h2:W<=6)(q:decide (0<n / 2 ^ (8*W))=false):
  Calls Tryz.prog 46 #[.int .i64 n,.int .i64 W] w fun e w'=>∃v,e=.returned (.tuple #[v,.int .i64 0]) /\
   ownB w' w.heap.size v (beB n.toNat W)/\Below w.heap.size w w':=by
 have H:=yo q;clear q;go_enter Tryz.func46,Tryz.ntmps46;go_wp2_with (first
  |(go_at_call 77;refine(zpC n W _ h0 h1 h2 H.o).mono ?_;rintro e w1 ⟨v,rfl,hv,r⟩)
  |(go_at_call 78;refine(zhN w.heap.size v _ _ hv).mono ?_;rintro e w2 ⟨rfl,o,g⟩))
 go_ret2;exact⟨_,rfl,o,r.trans g⟩
end Go.Proofs.YtebbdifhiihfkaaGreatDoor

set_option linter.all false
set_option maxHeartbeats 400000
namespace Go.Proofs.YtebbdifhiihfkaaGreatDoor
open Go.RowKit
theorem zrW(B n c:Nat)(A:Option Addr)(bs:List UInt8)(k W:Nat)(w:World)(h:RdB w B A n bs)(s:n<=c)(u:n<=140737488355328)(h1:1<=W)(h2:W<=6)(o:k+W<=n):
  Calls Tryz.prog 45 #[.slice A n c,.int .i64 k,.int .i64 W] w fun e w'=>∃A' c',e=.returned (.tuple #[.slice A' W c',.int .i64 0]) /\
   RdB w B A' W ((bs.drop k).take W)/\w=w':=by
 obtain rfl:=h.len;have g:decide ((W:Int)<1)=false:=by simp;omega
 have q:decide (6<(W:Int))=false:=by simp;omega
 have t:decide ((k:Int)<0)=false:=by simp
 have r:decide ((bs.length:Int)<(k:Int))=false:=by simp;omega
 go_enter Tryz.func45,Tryz.ntmps45;go_wp2;go_ret2;exact⟨A.map (·.add k),c-k,zaA (show Value.slice _ (k+W-k) _=_ by rw[Nat.add_sub_cancel_left]) rfl,h.cut (by omega) (fun _=>rfl),rfl⟩
theorem zpG(B n c:Nat)(A:Option Addr)(bs:List UInt8)(k W:Int)(w:World)(h:RdB w B A n bs)(s:n<=140737488355328)(h1:W<1\/6<W\/k<0\/(n:Int)<k):
  Calls Tryz.prog 45 #[.slice A n c,.int .i64 k,.int .i64 W] w fun e w'=>e=.returned (.tuple #[.slice none 0 0,.int .i64 1])/\w=w':=by
 obtain rfl:=h.len;by_cases c1:W<1
 ·have g:decide (W<1)=true:=by simp;omega
  go_enter Tryz.func45,Tryz.ntmps45;go_wp2;go_ret2;exact⟨rfl,rfl⟩
 have g:decide (W<1)=false:=by simp;omega
 by_cases c2:6<W
 ·have o:decide (6<W)=true:=by simp;omega
  go_enter Tryz.func45,Tryz.ntmps45;go_wp2;go_ret2;exact⟨rfl,rfl⟩
 have o:decide (6<W)=false:=by simp;omega
 by_cases c3:k<0
 ·have q:decide (k<0)=true:=by simp;omega
  go_enter Tryz.func45,Tryz.ntmps45;go_wp2;go_ret2;exact⟨rfl,rfl⟩
 have q:decide (k<0)=false:=by simp;omega
 have r:decide ((bs.length:Int)<k)=true:=by simp;omega
 go_enter Tryz.func45,Tryz.ntmps45;go_wp2;go_ret2;exact⟨rfl,rfl⟩
theorem zmN(B n c:Nat)(A:Option Addr)(bs:List UInt8)(k W:Int)(w:World)(h:RdB w B A n bs)(u:n<=140737488355328)(h1:1<=W)(h2:W<=6)(q:0<=k)(h4:k<=n)(g:n-k<W):
  Calls Tryz.prog 45 #[.slice A n c,.int .i64 k,.int .i64 W] w fun e w'=>e=.returned (.tuple #[.slice none 0 0,.int .i64 2])/\w=w':=by
 obtain rfl:=h.len;have o:decide (W<1)=false:=by simp;omega
 have r:decide (6<W)=false:=by simp;omega
 have t:decide (k<0)=false:=by simp;omega
 have s:decide ((bs.length:Int)<k)=false:=by simp;omega
 go_enter Tryz.func45,Tryz.ntmps45;go_wp2;go_ret2;exact⟨rfl,rfl⟩
def beV(l:List UInt8):Nat:=l.foldl (fun n x=>n*256+x.toNat) 0
theorem zh4(l:List UInt8)(k:Nat)(h:k<l.length):beV (l.take (k+1))=beV (l.take k)*256+l[k].toNat:=by
 unfold beV;rw[List.take_succ_eq_append_getElem h,List.foldl_append];rfl
theorem zgH(l:List UInt8):∀k,k<=l.length->beV (l.take k)<256 ^ k
 |0,_=>by simp[beV]
 |k+1,h=>by
  rw[zh4 l k (by omega),Nat.pow_succ];have:=zgH l k (by omega);have:=l[k].toNat_lt;omega
theorem zni(l:List UInt8)(k:Nat)(h:k<=l.length)(g:k<=6):beV (l.take k)<281474976710656 :=
 Nat.lt_of_lt_of_le (zgH l k h) (nlt (Nat.pow_le_pow_right (by omega) g) (by omega))
theorem zoj(y x:Nat)(hy:y<281474976710656)(hx:x<256):bits .or .i64 ((y:Int)*256) (x:Int)=((y*256+x:Nat):Int):=by
 have:=zoc (y*256) x (by omega) (by omega);rw[nat_join 8 _ _ (by omega) (by omega)] at this;rw[<-this];simp
theorem zhO(B n c:Nat)(A:Option Addr)(bs:List UInt8)(k W:Int)(w:World)(E:Int)(h:RdB w B A n bs)
  (ht:Calls Tryz.prog 45 #[.slice A n c,.int .i64 k,.int .i64 W] w fun e w'=>e=.returned (.tuple #[.slice none 0 0,.int .i64 E])/\w=w') :
  Calls Tryz.prog 18 #[.slice A n c,.int .i64 k,.int .i64 W] w fun e w'=>e=.returned (.tuple #[.int .i64 0,.int .i64 E])/\w=w':=by
 have g:=yo ht;clear ht;go_enter Tryz.func18,Tryz.ntmps18;go_wp2_with (go_at_call 45;refine g.o.mono ?_;rintro e w' ⟨rfl,rfl⟩);refine wp_loop_rounds 1 ?_;rw[rounds_succ];go_wp2;go_ret2;exact⟨rfl,rfl⟩
theorem zok(B n c:Nat)(A:Option Addr)(bs:List UInt8)(k W:Nat)(w:World)(h:RdB w B A n bs)(g:n<=c)(C:n<=140737488355328)(h1:1<=W)(h2:W<=6)(r:k+W<=n):
  Calls Tryz.prog 18 #[.slice A n c,.int .i64 k,.int .i64 W] w fun e w'=>e=.returned (.tuple #[.int .i64 (beV ((bs.drop k).take W)),.int .i64 0])/\w=w':=by
 go_enter Tryz.func18,Tryz.ntmps18;go_wp2_with (go_at_call 45;refine(zrW B n c A bs k W _ h g C h1 h2 r).mono ?_;rintro e w' ⟨A',E,rfl,hr,rfl⟩);generalize q:(bs.drop k).take W=l at hr;have z:=yo q;clear q;obtain rfl:=hr.len
 go_loop [10,22] (fun s i=>∃k:Nat,k<=l.length/\i=.int .i64 k/\s=.int .i64 (beV (l.take k))) (fun _ i=>l.length-(intOf i).toNat)
 case atStart=>exact⟨0,Nat.zero_le _,rfl,rfl⟩
 case round =>
  obtain⟨k,D,rfl,rfl⟩:=hrel;by_cases hlt:k<l.length
  ·obtain⟨b,o,rfl,_,g⟩:=hr.at_ (by omega)
   have t:=g k (by omega);clear g;have hp:=zni l k (by omega) (by omega);have hx:=l[k].toNat_lt;have u:=yo (zh4 l k (by omega));go_wp2
   go_round
   case rel=>exact⟨k+1,by omega,by go_num,by rw[u.o,zoj _ _ hp (by omega)]⟩
   case measure=>simp[intOf];omega
  ·have:k=l.length:=by omega
   subst this;go_wp2;go_ret2;exact⟨by rw[z.o];rfl,rfl⟩
def zf7(n width:Int):Prop:=1<=width/\width<=6/\0<=n/\n / 2 ^ (8*width.toNat)<=0
instance (n width:Int):Decidable (zf7 n width):=by unfold zf7;infer_instance
def beR(n width:Int):List UInt8×Int:=if zf7 n width then(beB n.toNat width.toNat,0) else([],1)
theorem zuV{n g:Int}(h:¬zf7 n g):g<1\/6<g\/n<0\/(0<=n/\1<=g/\g<=6/\0<n / 2 ^ (8*g).toNat):=by
 unfold zf7 at h;by_cases h1:g<1
 ·exact .inl h1
 by_cases h2:6<g
 ·exact .inr (.inl h2)
 by_cases h3:n<0
 ·exact .inr (.inr (.inl h3))
 refine .inr (.inr (.inr ⟨by omega,by omega,by omega,?_⟩));rw[show(8*g).toNat=8*g.toNat by omega];omega
theorem zhv(n g:Int)(w:World):
  Calls Tryz.prog 46 #[.int .i64 n,.int .i64 g] w fun e w'=>∃v,e=.returned (.tuple #[v,.int .i64 (beR n g).2])/\ownB w' w.heap.size v (beR n g).1/\Below w.heap.size w w':=by
 unfold beR;by_cases h:zf7 n g
 ·rw[if_pos h]
  obtain⟨h1,h2,q,h4⟩:=h;obtain⟨W,rfl⟩:=Int.eq_ofNat_of_zero_le (by omega:0<=g);rw[Int.toNat_natCast] at h4 ⊢;exact zuU n W w q (by omega) (by omega) (by simp;omega)
 ·rw[if_neg h]
  refine(ztI n g w (zuV h)).mono ?_;rintro e w' ⟨rfl,o⟩;exact⟨_,rfl,ownB.nil_ _ _,o⟩
/-- What a reading tells. -/
def rdR(f:List UInt8->Nat)(bs:List UInt8)(k W:Int):Int×Int :=
 if W<1\/6<W\/k<0\/(bs.length:Int)<k then(0,1) else if(bs.length:Int)-k<W then(0,2) else(f ((bs.drop k.toNat).take W.toNat),0)
theorem zb7(B n c:Nat)(A:Option Addr)(bs:List UInt8)(k W:Int)(w:World)(h:RdB w B A n bs)(q:n<=c)(g:n<=140737488355328):
  Calls Tryz.prog 18 #[.slice A n c,.int .i64 k,.int .i64 W] w fun e w'=>e=.returned (.tuple #[.int .i64 (rdR beV bs k W).1,.int .i64 (rdR beV bs k W).2])/\w=w':=by
 have o:=h.len;unfold rdR;by_cases h1:W<1\/6<W\/k<0\/(bs.length:Int)<k
 ·rw[if_pos h1]
  exact zhO B n c A bs k W w 1 h (zpG B n c A bs k W w h g (by rw[<-o];exact h1))
 ·rw[if_neg h1]
  by_cases h2:(bs.length:Int)-k<W
  ·rw[if_pos h2]
   exact zhO B n c A bs k W w 2 h (zmN B n c A bs k W w h g (by omega) (by omega) (by omega) (by omega) (by omega))
  ·rw[if_neg h2]
   obtain⟨k,rfl⟩:=Int.eq_ofNat_of_zero_le (by omega:0<=k);obtain⟨W,rfl⟩:=Int.eq_ofNat_of_zero_le (by omega:0<=W);exact zok B n c A bs k W w h q g (by omega) (by omega) (by omega)
end Go.Proofs.YtebbdifhiihfkaaGreatDoor

/- The reference's readings upon XBigs (out of XNum7). -/
namespace Go.Proofs.YtebbdifhiihfkaaGreatDoor
set_option linter.all false
set_option maxHeartbeats 800000
open Go.RowKit
theorem zmC(B n c:Nat)(A:Option Addr)(bs:List UInt8)(k W:Int)(w:World)(h:RdB w B A n bs)(s:n<=140737488355328)(h1:W<1\/6<W\/k<0\/(n:Int)<k):
  Calls Tryz.prog 23 #[.slice A n c,.int .i64 k,.int .i64 W] w fun e w'=>e=.returned (.tuple #[.int .i64 0,.int .i64 1])/\w=w':=by
 obtain rfl:=h.len;by_cases c1:W<1
 ·have g:decide (W<1)=true:=by simp;omega
  go_enter Tryz.func23,Tryz.ntmps23;go_wp2;go_ret2;exact⟨rfl,rfl⟩
 have g:decide (W<1)=false:=by simp;omega
 by_cases c2:6<W
 ·have o:decide (6<W)=true:=by simp;omega
  go_enter Tryz.func23,Tryz.ntmps23;go_wp2;go_ret2;exact⟨rfl,rfl⟩
 have o:decide (6<W)=false:=by simp;omega
 by_cases c3:k<0
 ·have q:decide (k<0)=true:=by simp;omega
  go_enter Tryz.func23,Tryz.ntmps23;go_wp2;go_ret2;exact⟨rfl,rfl⟩
 have q:decide (k<0)=false:=by simp;omega
 have r:decide ((bs.length:Int)<k)=true:=by simp;omega
 go_enter Tryz.func23,Tryz.ntmps23;go_wp2;go_ret2;exact⟨rfl,rfl⟩
theorem zjU(B n c:Nat)(A:Option Addr)(bs:List UInt8)(k W:Int)(w:World)(h:RdB w B A n bs)(u:n<=140737488355328)(h1:1<=W)(h2:W<=6)(q:0<=k)(h4:k<=n)(g:n-k<W):
  Calls Tryz.prog 23 #[.slice A n c,.int .i64 k,.int .i64 W] w fun e w'=>e=.returned (.tuple #[.int .i64 0,.int .i64 2])/\w=w':=by
 obtain rfl:=h.len;have o:decide (W<1)=false:=by simp;omega
 have r:decide (6<W)=false:=by simp;omega
 have t:decide (k<0)=false:=by simp;omega
 have s:decide ((bs.length:Int)<k)=false:=by simp;omega
 go_enter Tryz.func23,Tryz.ntmps23;go_wp2;go_ret2;exact⟨rfl,rfl⟩
theorem znb(B n c:Nat)(A:Option Addr)(bs:List UInt8)(k W:Nat)(w:World)(h:RdB w B A n bs)(M:n<=140737488355328)(h1:1<=W)(h2:W<=6)(H:k+W<=n):
  Calls Tryz.prog 23 #[.slice A n c,.int .i64 k,.int .i64 W] w fun e w'=>e=.returned (.tuple #[.int .i64 (beV ((bs.drop k).take W)),.int .i64 0])/\w=w':=by
 obtain rfl:=h.len;have F:decide ((W:Int)<1)=false:=by simp;omega
 have G:decide (6<(W:Int))=false:=by simp;omega
 have E:decide ((k:Int)<0)=false:=by simp
 have I:decide (bs.length<k)=false:=by simp;omega
 have N:decide ((bs.length:Int)-k<W)=false:=by simp;omega
 have q:((bs.drop k).take W).length=W:=by simp;omega
 obtain⟨l,r⟩:∃l,l=(bs.drop k).take W:=⟨_,rfl⟩;rw[<-r] at q;have t:=yo r;have g:=yo q;clear r q;go_enter Tryz.func23,Tryz.ntmps23;go_wp2
 go_loop [8,9] (fun s i=>∃j:Nat,j<=W/\i=.int .i64 j/\s=.int .i64 (beV (l.take j))) (fun _ i=>W-(intOf i).toNat)
 case atStart=>exact⟨0,Nat.zero_le _,rfl,rfl⟩
 case round =>
  obtain⟨j,J,rfl,rfl⟩:=hrel;by_cases hlt:j<W
  ·obtain⟨b,o,x,rfl,L,hx,D⟩:=h.byte (by omega:k+j<bs.length)
   have hp:=zni l j (by rw[g.o];omega) (by omega);have u:=x.toNat_lt;have C:Hid (beV (l.take (j+1))=beV (l.take j)*256+x.toNat):=by
    have:=zh4 l j (by rw[g.o];omega);have e:l[j]'(by rw[g.o];omega)=x:=by
     have z:=hx.o;have:l[j]?=some x:=by rw[t.o,List.getElem?_take,if_pos hlt,List.getElem?_drop];exact z
     obtain⟨_,e⟩:=List.getElem?_eq_some_iff.1 this;exact e
    rw[e] at this;exact this
   go_wp2
   go_round
   case rel=>exact⟨j+1,by omega,by go_num,by rw[C.o,zoj _ _ hp (by omega)]⟩
   case measure=>simp[intOf];omega
  ·have:j=W:=by omega
   subst this;go_wp2;go_ret2;refine⟨?_,rfl⟩;rw[<-t.o];exact zaA (by show Value.int .i64 (beV (l.take j))=_;rw[List.take_of_length_le (by rw[g.o];omega)]) rfl
theorem zdd(B n c:Nat)(A:Option Addr)(bs:List UInt8)(k W:Int)(w:World)(h:RdB w B A n bs)(g:n<=140737488355328):
  Calls Tryz.prog 23 #[.slice A n c,.int .i64 k,.int .i64 W] w fun e w'=>e=.returned (.tuple #[.int .i64 (rdR beV bs k W).1,.int .i64 (rdR beV bs k W).2])/\w=w':=by
 have o:=h.len;unfold rdR;by_cases h1:W<1\/6<W\/k<0\/(bs.length:Int)<k
 ·rw[if_pos h1]
  exact zmC B n c A bs k W w h g (by rw[<-o];exact h1)
 ·rw[if_neg h1]
  by_cases h2:(bs.length:Int)-k<W
  ·rw[if_pos h2]
   exact zjU B n c A bs k W w h g (by omega) (by omega) (by omega) (by omega) (by omega)
  ·rw[if_neg h2]
   obtain⟨k,rfl⟩:=Int.eq_ofNat_of_zero_le (by omega:0<=k);obtain⟨W,rfl⟩:=Int.eq_ofNat_of_zero_le (by omega:0<=W);exact znb B n c A bs k W w h g (by omega) (by omega) (by omega)
end Go.Proofs.YtebbdifhiihfkaaGreatDoor

