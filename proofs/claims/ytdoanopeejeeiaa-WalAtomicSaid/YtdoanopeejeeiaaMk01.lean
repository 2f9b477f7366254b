/- XBase -/
import Derived.Test.YtdoanopeejeeiaaRows
import Derived.WalkKit
import Derived.WalkSpells
import Derived.WalkLawsBesides
import Derived.Laws.OwnMore
import Derived.Deep.AppendLies
import Derived.Deep.Draws
import Derived.Maps.AppendAt
import Derived.RegionTactic
import Derived.Lib.Hide
import Derived.Laws.BitsAllLaws
import Derived.BigRegion
import Derived.BigQuiet
import Derived.Deep.QuietTactic
import Derived.Laws.CopyOwn
import Derived.Lib.SlBytesConst
import Derived.Deep.RegionWith
import Derived.Deep.DeepCutAuto
import Derived.Deep.RegionLaw
set_option linter.all false
namespace Go.Proofs.Ytdoanopeejeeiaa
open Go.RowKit
/-- The cells of a list of bytes. -/
def cb (bs:List UInt8):List Value:=bs.map fun b=>Value.int .u8 (b.toNat:Int)
theorem cb_length (bs:List UInt8):(cb bs).length=bs.length:=by simp [cb]
theorem cb_append (a b:List UInt8):cb (a ++ b)=cb a ++ cb b:=by simp [cb]
theorem Below.ownsRow {B base:Nat} {w w':World} {e:TypeId} {size:Nat} {v:Value} {n:Nat} {xs:List Value}
  (h:w.ownsRow base e size v n xs) (hb:Below B w w') (hv:∀ g,v.ownBlock=some g→g < B):w'.ownsRow base e size v n xs:=by
 refine ⟨h.1,?_⟩
 rcases h.2 with hn | ⟨g,cap,cur,rfl,hbg,hgg,rest⟩
 ·exact .inl hn
 ·refine .inr ⟨g,cap,cur,rfl,hbg,?_,rest⟩
  rw [hb.block g (hv g rfl)]
  exact hgg
theorem Try.info_u8:(Try.prog.info? 5).map (fun i=>(i.zero,i.size,i.bytes))=some (some (.int .u8 0),1,1):=by kernel_rfl
/-- v is a row of bytes of the call's own. -/
def ownB (w:World) (base:Nat) (v:Value) (bs:List UInt8):Prop:=w.ownsRow base 5 1 v bs.length (cb bs)
theorem cb_replicate (n:Nat):cb (List.replicate n 0)=List.replicate n (.int .u8 0):=by simp [cb]
theorem ownB_made {w:World} {base g n:Nat} (h:w.ownsRow base 5 1 (.slice (some ⟨g,0,none⟩) n n) n (madeCells (Value.int .u8 0).cells (n * 1)).toList) :
  ownB w base (.slice (some ⟨g,0,none⟩) n n) (List.replicate n 0):=by
 unfold ownB
 rw [cb_replicate,List.length_replicate]
 have:(madeCells (Value.int .u8 0).cells (n * 1)).toList=List.replicate n (.int .u8 0):=by
  rw [Nat.mul_one];exact toList_madeCells_one _ _
 rwa [this] at h
theorem cb_get {bs:List UInt8} {k:Nat} (h:k < bs.length):(cb bs)[k]?=some (.int .u8 (bs[k].toNat:Int)):=by
 simp [cb,h]
theorem ownB.cell {w:World} {base g n c:Nat} {bs:List UInt8} (h:ownB w base (.slice (some ⟨g,0,none⟩) n c) bs) (hn:n=bs.length) {k:Nat} (hk:k < bs.length) :
  w.cell? ⟨g,k,none⟩=some (.int .u8 (bs[k].toNat:Int)):=by
 subst hn
 rw [World.ownsRow.cellAt h k (by omega),cb_get hk]
theorem ownB.frozen {w:World} {base g n c:Nat} {bs:List UInt8} (h:ownB w base (.slice (some ⟨g,0,none⟩) n c) bs) (hn:n=bs.length) (k:Nat) :
  w.frozen? ⟨g,k,none⟩=false:=by
 subst hn
 exact World.ownsRow.frozenAt h k
theorem ownB.store {w:World} {base g n c:Nat} {bs:List UInt8} (h:ownB w base (.slice (some ⟨g,0,none⟩) n c) bs) (hn:n=bs.length) (k:Nat) (u:UInt8) :
  ownB (w.setCell ⟨g,k,none⟩ (.int .u8 (u.toNat:Int))) base (.slice (some ⟨g,0,none⟩) n c) (bs.set k u):=by
 subst hn
 have:=(World.ownsRow.stored h k (.int .u8 (u.toNat:Int))).1
 unfold ownB
 rw [List.length_set]
 have e:cb (bs.set k u)=(cb bs).set k (.int .u8 (u.toNat:Int)):=by simp [cb,List.map_set]
 rwa [e]
theorem ownB.mono {w:World} {base base':Nat} {v:Value} {bs:List UInt8} (h:ownB w base v bs) (hb:base'≤base):ownB w base' v bs:=by
 refine ⟨h.1,?_⟩
 rcases h.2 with hn | ⟨g,cap,cur,rfl,hbg,rest⟩
 ·exact .inl hn
 ·exact .inr ⟨g,cap,cur,rfl,by omega,rest⟩
/-- make([]byte, n): zeros in a new block. -/
theorem wpList_makeB {w:World} {ops:Array Oper} {rest:List Oper} {o:Oper} {a:Act} {Q:Exit→Act→World→Prop}
  (hg:o.guard=none) (l c:Operand) (hop:o.op=Op.makeSlice 36 l c) (n:Nat) (L:Int) (hl:a.eval l=.int .i64 L) (hc:a.eval c=.int .i64 L)
  (hL:L=(n:Int)) (hn:n≤140737488355328)
  (hK:∀ w',ownB w' w.heap.size (.slice (some ⟨w.heap.size,0,none⟩) n n) (List.replicate n 0)→Below w.heap.size w w'→w.heap.size < w'.heap.size →
   wpList Try.prog ops Q rest (a.put o.dst (.slice (some ⟨w.heap.size,0,none⟩) n n)) w') :
  wpList Try.prog ops Q (o :: rest) a w:=by
 obtain ⟨i0,hi,hz0,hz1,hz2⟩:=info_parts Try.info_u8
 refine wpList_make_full w hg l c 36 hop w.heap.size 5 i0 _ 1 Try.underlying36 hi hz0 hz1 _ _ _ _ n hl hc hL hL (by rw [hz2];omega) (by unfold maxLen;omega) (Nat.le_refl _) ?_
 intro w' h1 h2
 have h3:=ownB_made h1
 exact hK w' h3 ((Below.refl _ _).grown h2 (Nat.le_refl _) (by simp)) (World.ownsRow.lt h3 _ rfl).2
theorem ownB.cell' {w:World} {base g n c:Nat} {bs:List UInt8} (h:ownB w base (.slice (some ⟨g,0,none⟩) n c) bs) (hn:n=bs.length) {k:Nat} (hk:k < bs.length) :
  ∃ v,w.cell? ⟨g,k,none⟩=some v:=⟨_,h.cell hn hk⟩
theorem ret_tup2 {a b c d:Value} (h1:a=c) (h2:b=d):Ending.returned (.tuple #[a,b])=Ending.returned (.tuple #[c,d]):=by rw [h1,h2]
theorem add_none (b o j:Nat):(⟨b,o,none⟩:Addr).add j=⟨b,o+j,none⟩:=by unfold Addr.add;split <;> simp_all
/-- A slice (address A, n elements of sz cells) reads as xs, below block B. -/
def Rd (w:World) (B sz:Nat) (A:Option Addr) (n:Nat) (xs:List Value):Prop :=
 xs.length=n * sz∧(0 < n→∃ b o,A=some ⟨b,o,none⟩∧b < B∧∀ j u,xs[j]?=some u→w.cell? ⟨b,o+j,none⟩=some u)
section
variable {w w' : World} {B B' sz n : Nat} {A : Option Addr} {xs : List Value}
theorem Rd.none_:Rd w B sz A 0 []:=⟨by simp,fun h=>absurd h (by omega)⟩
theorem Rd.keep (h:Rd w B sz A n xs) (hk:∀ p:Addr,p.block < B→w'.cell? p=w.cell? p):Rd w' B sz A n xs :=
 ⟨h.1,fun hn=>by
  obtain ⟨b,o,e,hb,hc⟩:=h.2 hn
  exact ⟨b,o,e,hb,fun j u hu=>(hk _ hb).trans (hc j u hu)⟩⟩
theorem Rd.more (h:Rd w B sz A n xs) (hB:B≤B'):Rd w B' sz A n xs :=
 ⟨h.1,fun hn=>by
  obtain ⟨b,o,e,hb,hc⟩:=h.2 hn
  exact ⟨b,o,e,by omega,hc⟩⟩
theorem Rd.below (h:Rd w B sz A n xs) (hb:Below B w w'):Rd w' B sz A n xs:=h.keep fun _ hp=>hb.cell hp
theorem Rd.drew (h:Rd w B sz A n xs):Rd w.drew B sz A n xs:=h
theorem Rd.alloc (h:Rd w B sz A n xs) (hB:B≤w.heap.size) (o:Obj):Rd (w.alloc o) B sz A n xs:=h.keep fun p hp=>World.cell?_alloc_lt w o p (by omega)
theorem Rd.setCell (h:Rd w B sz A n xs) {p:Addr} (hB:B≤p.block) (u:Value):Rd (w.setCell p u) B sz A n xs :=
 h.keep fun q hq=>World.cell?_setCell_other w p q u (fun e=>by subst e;omega)
theorem Rd.grown (h:Rd w B sz A n xs) {row:Option Nat} (hg:w.grownBy w' row) (hB:B≤w.heap.size) (hr:∀ g,row=some g→B≤g):Rd w' B sz A n xs :=
 h.keep fun p hp=>World.cell?_of_block (hg.block p.block (by omega) (fun e=>by have:=hr _ e.symm;omega))
theorem Rd.cut (h:Rd w B sz A n xs) {k m:Nat} (hk:k+m≤n) {A':Option Addr} (hA:0 < m→A'=A.map (·.add (k * sz))) :
  Rd w B sz A' m ((xs.drop (k * sz)).take (m * sz)):=by
 refine ⟨by rw [List.length_take,List.length_drop,h.1,← Nat.sub_mul];exact Nat.min_eq_left (Nat.mul_le_mul_right _ (by omega)),fun hm=>?_⟩
 obtain ⟨b,o,rfl,hb,hc⟩:=h.2 (by omega)
 refine ⟨b,o+k * sz,by rw [hA hm];simp [add_none],hb,fun j u hu=>?_⟩
 rw [Nat.add_assoc]
 refine hc _ u ?_
 rw [List.getElem?_take] at hu
 split at hu
 ·rw [← hu,List.getElem?_drop]
 ·cases hu
theorem Rd.of_own {base:Nat} {e:TypeId} {c:Nat} (h:w.ownsRow base e sz (.slice A n c) n xs):Rd w w.heap.size sz A n xs:=by
 refine ⟨h.1,fun hn=>?_⟩
 obtain ⟨g,cap,hv,_,hlt⟩:=h.form hn
 have hA:A=some ⟨g,0,none⟩:=by injection hv
 subst hA
 refine ⟨g,0,rfl,hlt,fun j u hu=>?_⟩
 rw [Nat.zero_add]
 have:=h.cells (g:=g) rfl j u hu
 rwa [add_none,Nat.zero_add] at this
theorem Rd.here (h:Rd w B 1 A n xs):Rd w w.heap.size 1 A n xs :=
 ⟨h.1,fun hn=>by
  obtain ⟨b,o,e,hb,hc⟩:=h.2 hn
  have hl:=h.1
  exact ⟨b,o,e,block_lt_of_cell (a:=⟨b,o+0,none⟩) (hc 0 xs[0] (List.getElem?_eq_getElem (by omega))),hc⟩⟩
theorem Rd.lt (h:Rd w B sz A n xs) (hn:0 < xs.length):∃ b o,A=some ⟨b,o,none⟩∧b < w.heap.size:=by
 obtain ⟨b,o,e,_,hc⟩:=h.2 (by
  rcases Nat.eq_zero_or_pos n with h0 | h0
  ·subst h0;have:=h.1;omega
  ·exact h0)
 refine ⟨b,o,e,?_⟩
 exact block_lt_of_cell (a:=⟨b,o+0,none⟩) (hc 0 xs[0] (List.getElem?_eq_getElem hn))
end
theorem wrap_i64_lt (n:Nat) (h:n < 9223372036854775808):IntKind.i64.wrap (n:Int)=n:=by
 simp [IntKind.wrap,IntKind.bits,IntKind.signed];omega
theorem ofInt_i64 (a:Nat) (ha:a < 9223372036854775808):(BitVec.ofInt 64 (a:Int)).toNat=a:=by
 rw [BitVec.ofInt_natCast,BitVec.toNat_ofNat];exact Nat.mod_eq_of_lt (by omega)
theorem i64_or_nat (a b:Nat) (ha:a < 9223372036854775808) (hb:b < 9223372036854775808):bits .or .i64 (a:Int) (b:Int)=((a ||| b:Nat):Int):=by
 have hx:a ||| b < 2 ^ 63:=Nat.or_lt_two_pow (by omega) (by omega)
 show IntKind.i64.wrap ((BitVec.ofInt 64 (a:Int) ||| BitVec.ofInt 64 (b:Int)).toNat:Int)=_
 rw [BitVec.toNat_or,ofInt_i64 a ha,ofInt_i64 b hb,wrap_i64_lt _ (by omega)]
/-- A slice of bytes. -/
def RdB (w:World) (B:Nat) (A:Option Addr) (n:Nat) (bs:List UInt8):Prop:=Rd w B 1 A n (cb bs)
theorem RdB.len {w:World} {B n:Nat} {A:Option Addr} {bs:List UInt8} (h:RdB w B A n bs):bs.length=n:=by
 have:=h.1;rw [cb_length] at this;omega
theorem RdB.at_ {w:World} {B n:Nat} {A:Option Addr} {bs:List UInt8} (h:RdB w B A n bs) (hn:0 < n) :
  ∃ b o,A=some ⟨b,o,none⟩∧b < B∧∀ j (hj:j < bs.length),w.cell? ⟨b,o+j,none⟩=some (.int .u8 (bs[j].toNat:Int)):=by
 obtain ⟨b,o,e,hb,hc⟩:=h.2 hn
 exact ⟨b,o,e,hb,fun j hj=>hc j _ (cb_get hj)⟩
theorem RdB.cut {w:World} {B n:Nat} {A:Option Addr} {bs:List UInt8} (h:RdB w B A n bs) {k m:Nat} (hk:k+m≤n) {A':Option Addr} (hA:0 < m→A'=A.map (·.add k)) :
  RdB w B A' m ((bs.drop k).take m):=by
 have:=Rd.cut h hk (A':=A') (by simpa using hA)
 unfold RdB
 simpa [cb,List.map_drop,List.map_take] using this
theorem ownB.form {w:World} {base:Nat} {v:Value} {bs:List UInt8} (h:ownB w base v bs) :
  ∃ A c,v=.slice A bs.length c∧RdB w w.heap.size A bs.length bs∧bs.length≤c∧c≤maxLen:=by
 have h2:=h.2
 rcases h2 with ⟨rfl,h0⟩ | ⟨g,cap,cur,rfl,_,_,h1,h2,_⟩
 ·have:bs=[]:=List.eq_nil_of_length_eq_zero h0
  subst this
  exact ⟨none,0,rfl,Rd.none_,by simp,by simp⟩
 ·exact ⟨_,_,rfl,Rd.of_own h,h1,h2⟩
theorem RdB.blw {w w':World} {B n:Nat} {A:Option Addr} {bs:List UInt8} (h:RdB w B A n bs) (hb:Below B w w'):RdB w' B A n bs:=Rd.below h hb
theorem RdB.later {w w':World} {n:Nat} {A:Option Addr} {bs:List UInt8} (h:RdB w w.heap.size A n bs) (hb:Below w.heap.size w w'):RdB w' w'.heap.size A n bs :=
 Rd.here (Rd.below h hb)
theorem ownB.later {w w':World} {base:Nat} {v:Value} {bs:List UInt8} (h:ownB w base v bs) (hb:Below w.heap.size w w'):ownB w' base v bs :=
 Below.ownsRow h hb (fun g hg=>(World.ownsRow.lt h g hg).2)
/-- Two steps in a row, the second of which is told from its own beginning. -/
theorem bstep {B:Nat} {w w1 w2:World} (h:Below B w w1) (k:Below w1.heap.size w1 w2) (hB:B≤w.heap.size):Below B w w2 :=
 h.trans (k.mono (Nat.le_trans hB h.size))
/-- The value written out, its length a letter. -/
theorem ownB.slice {w:World} {base:Nat} {v:Value} {bs:List UInt8} (h:ownB w base v bs) :
  ∃ A n c,v=.slice A n c∧RdB w w.heap.size A n bs∧n≤c∧c≤maxLen:=by
 obtain ⟨A,c,h1,h2,h3,h4⟩:=h.form
 exact ⟨A,_,c,h1,h2,h3,h4⟩
/-- string(b). -/
theorem run_strB {w:World} {B n c:Nat} {A:Option Addr} {bs:List UInt8} (h:RdB w B A n bs) :
  (convert 36 9 (.slice A n c)).run Try.prog w=.ok (.string ⟨bs.toArray⟩) w:=by
 have hl:=h.len
 subst hl
 rcases Nat.eq_zero_or_pos bs.length with h0 | h0
 ·have:bs=[]:=List.eq_nil_of_length_eq_zero h0
  subst this
  rcases A with _ | a
  ·exact run_convert_bytes_nil (P:=Try.prog) w 36 5 Try.underlying36 Try.underlying5 _ _ 9 Try.underlying9
  ·exact run_convert_bytes_back w 36 9 5 a c [] Try.underlying36 Try.underlying5 Try.underlying9 (by simp)
 ·obtain ⟨b,o,rfl,_,hc⟩:=h.at_ h0
  exact run_convert_bytes_back w 36 9 5 _ c bs Try.underlying36 Try.underlying5 Try.underlying9
   (fun j hj=>by rw [add_none];exact hc j hj)
/-- A literal's own row. -/
theorem own_lit (w:World) (bs:List UInt8) (hm:bs.length≤140737488355328):ownB (w.alloc (.cells (cb bs).toArray 5)) w.heap.size (.slice (some ⟨w.heap.size,0,none⟩) bs.length bs.length) bs:=by
 have:=World.ownsRow_lit (base:=w.heap.size) (size:=1) (e:=5) w (cb bs).toArray bs.length (Nat.le_refl _) (by unfold maxLen;omega) (by simp [cb])
 exact this
theorem cb_one (bs:List UInt8):∀ u ∈ cb bs,u.oneCell'=true:=by
 intro u hu
 simp only [cb,List.mem_map] at hu
 obtain ⟨b,_,rfl⟩:=hu
 rfl
set_option maxRecDepth 100000 in
theorem run_appendB (w:World) (base:Nat) (t2:TypeId) (v:Value) (bs:List UInt8) (hown:ownB w base v bs) (B m c:Nat) (A:Option Addr) (news:List UInt8) (hr:RdB w B A m news)
  (hb:bs.length+m≤140737488355328) (hbase:base≤w.heap.size) :
  ∃ v' w',(Builtin.append_ #[36,36] t2 #[v,.slice A m c]).run Try.prog w=.ok v' w'∧ownB w' base v' (bs ++ news)∧w.grownBy w' v.ownBlock ∧
   (v'.ownBlock=v.ownBlock∨v'.ownBlock=some w.heap.size)∧(v'=.slice none 0 0 ↔ v=.slice none 0 0∧m=0):=by
 obtain ⟨i0,hi,hz0,hz1,hz2⟩:=info_parts Try.info_u8
 have hl:=hr.len
 subst hl
 unfold ownB
 rw [List.length_append,cb_append]
 rcases A with _ | ad
 ·have hn:news=[]:=by
   rcases Nat.eq_zero_or_pos news.length with h0 | h0
   ·exact List.eq_nil_of_length_eq_zero h0
   ·obtain ⟨b,o,h,_⟩:=hr.2 h0
    cases h
  subst hn
  refine ⟨v,w,?_,by simpa [cb,ownB] using hown,World.grownBy.refl w _,.inl rfl,by simp⟩
  rcases hown.2 with ⟨rfl,h0⟩ | ⟨g,cap,cur,rfl,_,_,hnc,_⟩
  ·simp [Builtin.append_,run_underlying Try.underlying36,sizeOf,typeInfo,hi,Builtin.lenOf,Builtin.firstCells]
  ·simp [Builtin.append_,run_underlying Try.underlying36,sizeOf,typeInfo,hi,Builtin.lenOf,Builtin.firstCells,hnc,storeCells]
 ·have hcells:∀ j u,(cb news)[j]?=some u→w.cell? (ad.add j)=some u:=by
   intro j u hu
   rcases Nat.eq_zero_or_pos news.length with h0 | h0
   ·have hn:news=[]:=List.eq_nil_of_length_eq_zero h0
    subst hn
    simp [cb] at hu
   ·obtain ⟨b,o,h,_,hc⟩:=hr.2 h0
    injection h with h
    subst h
    rw [add_none]
    exact hc j u hu
  obtain ⟨v',w',hrun,h2,h3,h4,h5⟩:=run_append_own_at (P:=Try.prog) w base 36 t2 5 i0 _ 1 1 Try.underlying36 hi hz0 hz1 hz2 rfl (by omega) v bs.length (cb bs) hown ad news.length c (cb news) (by simp [cb]) hcells (cb_one _) (by unfold maxLen;omega) (by omega) hbase
  exact ⟨v',w',hrun,h2,h3,h5,h4⟩
/-- append(v, x...) of bytes: v the call's own, x whatever. -/
theorem wpList_appendB {w:World} {ops:Array Oper} {rest:List Oper} {o:Oper} {a:Act} {Q:Exit→Act→World→Prop} (hgd:o.guard=none) (s x:Operand)
  (ho:o.op=.call { callee:=.builtin .append,args:=#[s,x],argTypes:=#[36,36] })
  (base:Nat) (v:Value) (bs:List UInt8) (hs:a.eval s=v) (hown:ownB w base v bs) (B m c:Nat) (A:Option Addr) (news:List UInt8) (hx:a.eval x=.slice A m c) (hr:RdB w B A m news)
  (hb:bs.length+m≤140737488355328) (hbase:base≤w.heap.size)
  (h:∀ v' w',ownB w' base v' (bs ++ news)→w.grownBy w' v.ownBlock→Below base w w'→(v'.ownBlock=v.ownBlock∨v'.ownBlock=some w.heap.size)→wpList Try.prog ops Q rest (a.put o.dst v') w') :
  wpList Try.prog ops Q (o :: rest) a w:=by
 refine wpList_plain hgd fun K hK=>?_
 obtain ⟨v',w',hrun,h2,h3,h4,_⟩:=run_appendB w base o.type v bs hown B m c A news hr hb hbase
 unfold Oper.wp execOp
 simp only [ho,resolve,invoke,builtin,Sem.run_bind,Sem.run_pure,Result.andThen_ok,List.map_toArray,List.map_cons,List.map_nil,hs,hx,hrun]
 exact hK _ _ (h v' w' h2 h3 ((Below.refl _ _).grown h3 hbase (fun k hk=>(World.ownsRow.lt hown k hk).1)) h4)
/-- The block of n zero bytes that make lays. -/
def zeroObj (n:Nat):Obj:=.cells (madeCells (Value.int .u8 0).cells (n * 1)) 5
theorem run_makeB (w:World) (n:Nat) (hn:n≤140737488355328) :
  (Instr.makeSlice 36 (.int .i64 (n:Int)) (.int .i64 (n:Int))).run Try.prog w=.ok (.slice (some ⟨w.heap.size,0,none⟩) n n) (w.alloc (zeroObj n)):=by
 obtain ⟨i0,hi,hz0,hz1,hz2⟩:=info_parts Try.info_u8
 have hr:=run_make (P:=Try.prog) w 36 5 i0 _ Try.underlying36 hi hz0 .i64 .i64 n n (by omega) (Int.le_refl _) (by rw [hz2];omega) (by omega)
 simp only [Int.toNat_natCast,hz1] at hr
 exact hr
theorem own_zero (w:World) (n:Nat) (hn:n≤140737488355328):ownB (w.alloc (zeroObj n)) w.heap.size (.slice (some ⟨w.heap.size,0,none⟩) n n) (List.replicate n 0) :=
 ownB_made (World.ownsRow_lit (base:=w.heap.size) (size:=1) (e:=5) w _ n (Nat.le_refl _) (by unfold maxLen;omega) (size_madeCells _ _))
/-- What is owned stays so while another block is written. -/
theorem ownB.far {w:World} {base g:Nat} {v:Value} {bs:List UInt8} (h:ownB w base v bs) (hg:v.ownBlock ≠ some g) (o:Nat) (u:Value) :
  ownB (w.setCell ⟨g,o,none⟩ u) base v bs:=by
 refine ⟨h.1,?_⟩
 rcases h.2 with hn | ⟨g',cap,cur,rfl,hb,hgg,rest⟩
 ·exact .inl hn
 ·refine .inr ⟨g',cap,cur,rfl,hb,?_,rest⟩
  rw [Below.heap_setCell _ _ _ _ (by intro e;apply hg;simp [Value.ownBlock];exact e)]
  exact hgg
theorem ownB.pos {w:World} {base n c:Nat} {A:Option Addr} {bs:List UInt8} (h:ownB w base (.slice A n c) bs) (hn:0 < n):n=bs.length∧∃ g,A=some ⟨g,0,none⟩∧base≤g∧g < w.heap.size:=by
 rcases h.2 with ⟨h',_⟩ | ⟨g,cap,cur,h',hb,hg,_⟩
 ·injection h' with _ h2;omega
 ·injection h' with h1 h2
  exact ⟨h2,g,h1,hb,(World.ownsRow.lt h g (by rw [h1];rfl)).2⟩
/-- One byte of a slice. -/
theorem RdB.byte {w:World} {B n:Nat} {A:Option Addr} {bs:List UInt8} (h:RdB w B A n bs) {k:Nat} (hk:k < n) :
  ∃ b o x,A=some ⟨b,o,none⟩∧b < B∧Hid (bs[k]?=some x)∧w.cell? ⟨b,o+k,none⟩=some (.int .u8 (x.toNat:Int)):=by
 obtain ⟨b,o,e,hb,hc⟩:=h.at_ (by omega)
 have hl:=h.len
 exact ⟨b,o,bs[k],e,hb,List.getElem?_eq_getElem (by omega),hc k (by omega)⟩
theorem ownB.byte {w:World} {base g n c:Nat} {bs:List UInt8} (h:ownB w base (.slice (some ⟨g,0,none⟩) n c) bs) (hn:n=bs.length) {k:Nat} (hk:k < n) :
  ∃ x:UInt8,Hid (bs[k]?=some x)∧w.cell? ⟨g,k,none⟩=some (.int .u8 (x.toNat:Int)) :=
 ⟨bs[k]'(by omega),List.getElem?_eq_getElem (by omega),h.cell hn (by omega)⟩
theorem ownB.rd {w:World} {base n c:Nat} {A:Option Addr} {bs:List UInt8} (h:ownB w base (.slice A n c) bs):RdB w w.heap.size A n bs:=by
 obtain ⟨A4,n4,c4,e5,hd4,_,_⟩:=h.slice
 injection e5 with e1 e2 e3
 rw [e1,e2]
 exact hd4
theorem ownB.alloc {w:World} {base:Nat} {v:Value} {bs:List UInt8} (h:ownB w base v bs) (o:Obj):ownB (w.alloc o) base v bs:=World.ownsRow.alloc h o
theorem ownB.drew {w:World} {base:Nat} {v:Value} {bs:List UInt8} (h:ownB w base v bs):ownB w.drew base v bs:=h
theorem ownB.kept {w w':World} {base:Nat} {v v':Value} {bs:List UInt8} (h:ownB w base v bs) (hg:w.grownBy w' v'.ownBlock) (hne:v.ownBlock=none∨v.ownBlock ≠ v'.ownBlock):ownB w' base v bs :=
 World.ownsRow.kept h hg hne
theorem ownB.nil_ (w:World) (base:Nat):ownB w base (.slice none 0 0) []:=World.ownsRow_nil _ _ _ _
@[go_sem] theorem xor_u8 (a b:UInt8):bits .xor .u8 (a.toNat:Int) (b.toNat:Int)=((a ^^^ b).toNat:Int):=by
 rw [u8_xor_nat _ _ (by have:=a.toNat_lt;omega) (by have:=b.toNat_lt;omega),UInt8.toNat_xor]
@[go_sem] theorem xor3_u8 (a b c:UInt8):bits .xor .u8 ((a.toNat ^^^ b.toNat:Nat):Int) (c.toNat:Int)=((a.toNat ^^^ b.toNat ^^^ c.toNat:Nat):Int):=by
 have:=xor_u8 (a ^^^ b) c
 simpa only [UInt8.toNat_xor] using this
@[go_sem] theorem sub_u8 (a b:UInt8):((a.toNat:Int) - b.toNat) % 256=((a - b).toNat:Int):=by
 rw [UInt8.toNat_sub]
 have:=a.toNat_lt
 have:=b.toNat_lt
 omega
end Go.Proofs.Ytdoanopeejeeiaa

