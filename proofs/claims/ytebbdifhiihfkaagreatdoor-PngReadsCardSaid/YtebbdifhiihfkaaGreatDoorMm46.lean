/- XSymR XSym5 XRw1 XRw2 XRw3 XRowJ XBlk5 XSto5 -/
import Derived.Test.YtebbdifhiihfkaaGreatDoorMm09
import Derived.Test.YtebbdifhiihfkaaGreatDoorMm17
import Derived.Test.YtebbdifhiihfkaaGreatDoorMm01
import Derived.Test.YtebbdifhiihfkaaGreatDoorMm19
namespace Go.Proofs.YtebbdifhiihfkaaGreatDoor
set_option linter.all false
end Go.Proofs.YtebbdifhiihfkaaGreatDoor

/- flate: the document's symbols. -/
namespace Go.Proofs.YtebbdifhiihfkaaGreatDoor
set_option linter.all false
open Go.RowKit
end Go.Proofs.YtebbdifhiihfkaaGreatDoor

/- The document's writer of bits: Put, Code. -/
namespace Go.Proofs.YtebbdifhiihfkaaGreatDoor
set_option linter.all false
open Go.RowKit
end Go.Proofs.YtebbdifhiihfkaaGreatDoor

/- The document's writer of bits: Code, Align, Bits, Bytes. -/
namespace Go.Proofs.YtebbdifhiihfkaaGreatDoor
set_option linter.all false
open Go.RowKit
end Go.Proofs.YtebbdifhiihfkaaGreatDoor

/- The document's writer of bits: its bytes. -/
namespace Go.Proofs.YtebbdifhiihfkaaGreatDoor
set_option linter.all false
open Go.RowKit
end Go.Proofs.YtebbdifhiihfkaaGreatDoor

/- Rows of aquref5.Token: 3 cells an element. -/
namespace Go.Proofs.YtebbdifhiihfkaaGreatDoor
set_option linter.all false
open Go.RowKit
end Go.Proofs.YtebbdifhiihfkaaGreatDoor

/- flate: the document's tokens written. -/
namespace Go.Proofs.YtebbdifhiihfkaaGreatDoor
set_option linter.all false
open Go.RowKit
end Go.Proofs.YtebbdifhiihfkaaGreatDoor

/- flate: the document's fixed lengths; a stored block; lengths cut. -/
namespace Go.Proofs.YtebbdifhiihfkaaGreatDoor
set_option linter.all false
set_option maxRecDepth 100000
set_option maxHeartbeats 3200000
open Go.RowKit
/-- A list's first k, behind them 0. -/
def zck(l:List Int)(k:Nat):List Int:=l.take k++List.replicate (l.length-k) 0
theorem zkU(l:List Int)(k:Nat)(h:k<=l.length):(zck l k).length=l.length:=by unfold zck;rw[lla,llt,List.length_replicate];omega
theorem zjp(l:List Int):zck l 0=List.replicate l.length 0:=by unfold zck;simp
theorem zkV(l:List Int):zck l l.length=l:=by unfold zck;simp
theorem zkW{l:List Int}{k:Nat}{x:Int}(h:l[k]?=some x):(zck l k).set k x=zck l (k+1):=by
 obtain⟨g,hx⟩:=List.getElem?_eq_some_iff.1 h;unfold zck;have q:l.length-k=(l.length-(k+1))+1:=by omega
 have o:(l.take k).length=k:=by rw[llt];omega
 rw[q,List.replicate_succ,List.set_append,if_neg (by omega),o,Nat.sub_self,List.set_cons_zero,List.take_succ_eq_append_getElem g,hx,List.append_assoc];rfl
theorem zpq(w:World):Calls Tryz.prog 142 #[] w fun e w'=>e=.returned (.slice (some ⟨w.heap.size,0,none⟩) 19 19)/\ownI w' w.heap.size (.slice (some ⟨w.heap.size,0,none⟩) 19 19) (ordL.map fun(x:Nat)=>(x:Int))/\Below w.heap.size w w':=by
 have g:=yo (zh6 w [16,17,18,0,8,7,9,6,10,5,11,4,12,3,13,2,14,1,15] (by decide));go_enter Tryz.func142,Tryz.ntmps142;go_wp2_with fail;go_ret;exact⟨rfl,g.o,(Below.refl _ _).alloc (nlr _) _⟩
theorem znf(w:World):Calls Tryz.prog 111 #[] w fun e w'=>∃A C,e=.returned (.tuple #[.slice (some ⟨A,0,none⟩) 288 288,.slice (some ⟨C,0,none⟩) 32 32])/\RdI w' w'.heap.size (some ⟨A,0,none⟩) 288 fixL/\RdI w' w'.heap.size (some ⟨C,0,none⟩) 32 fixD/\Below w.heap.size w w':=by
 have aa:∀w,(Instr.makeSlice 120 (.int .i64 288) (.int .i64 288)).run Tryz.prog w=.ok (.slice (some ⟨w.heap.size,0,none⟩) 288 288) (w.alloc (zem 288)):=fun w=>zfs w 288 (by omega)
 have ac:∀w,(Instr.makeSlice 120 (.int .i64 32) (.int .i64 32)).run Tryz.prog w=.ok (.slice (some ⟨w.heap.size,0,none⟩) 32 32) (w.alloc (zem 32)):=fun w=>zfs w 32 (by omega)
 go_enter Tryz.func111,Tryz.ntmps111;go_upto_region 1 with fail;go_cut [2,3] (fun u v wc=>∃A C,u=.slice (some ⟨A,0,none⟩) 288 288/\v=.slice (some ⟨C,0,none⟩) 32 32/\(A≠C/\w.heap.size<=A/\w.heap.size<=C)/\ownI wc w.heap.size (.slice (some ⟨A,0,none⟩) 288 288) (List.replicate 288 0)/\ownI wc w.heap.size (.slice (some ⟨C,0,none⟩) 32 32) (List.replicate 32 0)/\Below w.heap.size w wc)
 case first =>
  go_region
  all_goals
   go_wp2_with fail;go_meet
   case rel =>
    first
     |exact⟨w.heap.size,w.heap.size+1,rfl,rfl,⟨by omega,by omega,by omega⟩,((zcP w 288 (by omega)).alloc _).drew,(by have:=(zcP (w.alloc (zem 288)) 32 (by omega)).mono (base':=w.heap.size) (by simp);simpa only[wsa] using this.drew),(((Below.refl w.heap.size w).alloc (nlr _) _).alloc (by simp) _).drew⟩
     |exact⟨w.heap.size+1,w.heap.size,rfl,rfl,⟨by omega,by omega,by omega⟩,(by have:=(zcP (w.alloc (zem 32)) 288 (by omega)).mono (base':=w.heap.size) (by simp);simpa only[wsa] using this.drew),((zcP w 32 (by omega)).alloc _).drew,(((Below.refl w.heap.size w).alloc (nlr _) _).alloc (by simp) _).drew⟩
 case rest =>
  clear aa ac;obtain⟨A,C,rfl,rfl,⟨I,Z,Y⟩,S,X,V⟩:=hcut;have J:fixL.length=288:=by unfold fixL;rw[List.length_map,List.length_range]
  have R:fixD.length=32:=by unfold fixD;rw[List.length_replicate]
  have q:Hid (ownI wc w.heap.size (.slice (some ⟨A,0,none⟩) 288 288) (zck fixL 0)):=(show ownI _ _ _ _ by rw[zjp,J];exact S);have r:Hid (ownI wc w.heap.size (.slice (some ⟨C,0,none⟩) 32 32) (zck fixD 0)):=(show ownI _ _ _ _ by rw[zjp,R];exact X);have s:=yo V;have H:=yo J;have G:=yo R;clear S X V J R;go_wp2_with fail;go_loopw [4] (fun P wr=>∃k:Nat,k<=288/\P=.int .i64 k/\Hid (ownI wr w.heap.size (.slice (some ⟨A,0,none⟩) 288 288) (zck fixL k))/\Hid (ownI wr w.heap.size (.slice (some ⟨C,0,none⟩) 32 32) (zck fixD 0))/\Hid (Below w.heap.size w wr)) (fun P _=>288-(intOf P).toNat)
  case atStart=>exact⟨0,by omega,rfl,q,r,s⟩
  case round =>
   clear q r s;obtain⟨k,hk,rfl,q,r,s⟩:=hrel;by_cases hlt:k<288
   ·have U:(k:Int)<288:=by omega
    have o:(zck fixL k).length=288:=(by rw[zkU _ _ (by rw[H.o];omega),H.o]);have hx:fixL[k]?=some (za6 k):=(by unfold fixL;rw[List.getElem?_map,List.getElem?_range hlt];rfl);have F:Hid (∀x,x=za6 k->ownI (wr.setCell ⟨A,k,none⟩ (.int .i64 x)) w.heap.size (.slice (some ⟨A,0,none⟩) 288 288) (zck fixL (k+1))):=(show ∀x,_ from fun x e=>by
     have:=q.o.store o.symm k x;rw[e] at this ⊢;rw[zkW hx] at this;exact this)
    have f7:=q.o.frozen o.symm k;obtain⟨z7,c7⟩:∃z,wr.cell? ⟨A,k,none⟩=some (.int .i64 z):=⟨_,q.o.cell o.symm (k:=k) (by rw[o];exact hlt)⟩;have E:Hid (∀x,ownI (wr.setCell ⟨A,k,none⟩ (.int .i64 x)) w.heap.size (.slice (some ⟨C,0,none⟩) 32 32) (zck fixD 0)):=(show ∀x,_ from fun x=>r.o.far (g:=A) (by intro e;injection e with e;exact I e.symm) k (.int .i64 x));have B:Hid (∀x,Below w.heap.size w (wr.setCell ⟨A,k,none⟩ (.int .i64 x))):=(show ∀x,_ from fun x=>s.o.setCell (p:=⟨A,k,none⟩) Z (.int .i64 x));clear o hx q r s;by_cases h144:k<144
    ·have M:(k:Int)<144:=by omega
     have t:(8:Int)=za6 k:=(by unfold za6;rw[if_pos h144]);have D:=yo t;clear t;go_wp2_with fail;go_roundw
     case rel=>exact⟨k+1,by omega,by go_num,F.o _ D.o,E.o _,B.o _⟩
     case measure=>simp[intOf]<;>omega
    ·have M:¬(k:Int)<144:=by omega
     by_cases h279:279<k
     ·have O:(k:Int) > 279:=by omega
      have t:(8:Int)=za6 k:=(by unfold za6;rw[if_neg h144,if_neg (by omega),if_neg (by omega)]);have D:=yo t;clear t;go_wp2_with fail;go_roundw
      case rel=>exact⟨k+1,by omega,by go_num,F.o _ D.o,E.o _,B.o _⟩
      case measure=>simp[intOf]<;>omega
     ·have O:¬(k:Int) > 279:=by omega
      by_cases h256:k<256
      ·have N:(k:Int)<256:=by omega
       have t:(9:Int)=za6 k:=(by unfold za6;rw[if_neg h144,if_pos h256]);have D:=yo t;clear t;go_wp2_with fail;go_roundw
       case rel=>exact⟨k+1,by omega,by go_num,F.o _ D.o,E.o _,B.o _⟩
       case measure=>simp[intOf]<;>omega
      ·have N:¬(k:Int)<256:=by omega
       have t:(7:Int)=za6 k:=(by unfold za6;rw[if_neg h144,if_neg h256,if_pos (by omega)]);have D:=yo t;clear t;go_wp2_with fail;go_roundw
       case rel=>exact⟨k+1,by omega,by go_num,F.o _ D.o,E.o _,B.o _⟩
       case measure=>simp[intOf]<;>omega
   ·obtain rfl:k=288:=by omega
    have W:Hid (ownI wr w.heap.size (.slice (some ⟨A,0,none⟩) 288 288) fixL):=(show ownI _ _ _ _ by have:=q.o;rw[<-H.o,zkV,H.o] at this;exact this);obtain⟨wo,rfl⟩:∃wo:World,wo=wr:=⟨_,rfl⟩;clear q;go_wp2_with fail;go_loopw [5] (fun P wr=>∃k:Nat,k<=32/\P=.int .i64 k/\Hid (ownI wr w.heap.size (.slice (some ⟨A,0,none⟩) 288 288) fixL)/\Hid (ownI wr w.heap.size (.slice (some ⟨C,0,none⟩) 32 32) (zck fixD k))/\Hid (Below w.heap.size w wr)) (fun P _=>32-(intOf P).toNat)
    case atStart=>exact⟨0,by omega,rfl,W,r,s⟩
    case round =>
     clear W r s;obtain⟨k,hk,rfl,q,r,s⟩:=hrel;by_cases hlt:k<32
     ·have U:(k:Int)<32:=by omega
      have o:(zck fixD k).length=32:=(by rw[zkU _ _ (by rw[G.o];omega),G.o]);have hx:fixD[k]?=some 5:=(by unfold fixD;rw[List.getElem?_replicate,if_pos hlt]);have L:=r.o.store o.symm k 5;rw[zkW hx] at L;have F:=yo L;have f7:=r.o.frozen o.symm k;obtain⟨z7,c7⟩:∃z,wr.cell? ⟨C,k,none⟩=some (.int .i64 z):=⟨_,r.o.cell o.symm (k:=k) (by rw[o];exact hlt)⟩;have T:=yo (q.o.far (g:=C) (by intro e;injection e with e;exact I e) k (.int .i64 5));have B:=yo (s.o.setCell (p:=⟨C,k,none⟩) Y (.int .i64 5));clear o hx L q r s;go_wp2_with fail;go_roundw
      case rel=>exact⟨k+1,by omega,by go_num,T,F,B⟩
      case measure=>simp[intOf]<;>omega
     ·obtain rfl:k=32:=by omega
      have ab:Hid (ownI wr w.heap.size (.slice (some ⟨C,0,none⟩) 32 32) fixD):=(show ownI _ _ _ _ by have:=r.o;rw[<-G.o,zkV,G.o] at this;exact this);go_wp2_with fail;go_ret2;exact⟨A,C,rfl,q.o.rd,ab.o.rd,s.o⟩
end Go.Proofs.YtebbdifhiihfkaaGreatDoor

