/- XInv XQc -/
import Derived.Test.YtebbdifhiihfkaaGreatDoorMm01
import Derived.Test.YtebbdifhiihfkaaGreatDoorMm32
import Derived.Test.YtebbdifhiihfkaaGreatDoorMm30
import Derived.Test.YtebbdifhiihfkaaGreatDoorMm28
import Derived.Test.YtebbdifhiihfkaaGreatDoorMm31
namespace Go.Proofs.YtebbdifhiihfkaaGreatDoor
set_option linter.all false
open Go.RowKit
/-- The binding edges of each operation point backwards. -/
def zje(md:Region.Mode)(ops:Array Oper):Bool:=(List.range ops.size).all fun i=>match ops[i]? with
 |some o=>o.after.all fun e=>!Region.binds md e ||decide (e.on<i)
 |none=>true
theorem zjf{md:Region.Mode}{ops:Array Oper}{listed:Array Bool}{i:Nat}(h:i∈Region.ready md ops listed):
  ∃o,ops[i]?=some o/\listed.getD i true=false/\∀e∈o.after,Region.binds md e=true->listed.getD e.on false=true:=by
 unfold Region.ready at h;rw[List.mem_filter] at h;obtain⟨h1,h2⟩:=h;simp only[Bool.and_eq_true,Bool.not_eq_true'] at h2;obtain⟨h2,g⟩:=h2;cases ho:ops[i]? with
 |none=>rw[ho] at g;cases g
 |some o =>
  rw[ho] at g;refine⟨o,rfl,h2,fun e he q=>?_⟩;simp only[Option.map_some,Option.getD_some] at g;rw[Array.all_eq_true_iff_forall_mem] at g;have:=g e he;rw[q] at this
  simpa using this
theorem zkJ{md:Region.Mode}{ops:Array Oper}{listed:Array Bool}(hs:listed.size=ops.size)(s:zje md ops=true)(h:Region.ready md ops listed=[]):
  ∀j,j<ops.size->listed.getD j false=true:=by
 intro j
 induction j using Nat.strongRecOn with
 |ind j ih =>
  intro o;cases hl:listed.getD j false with
  |true=>rfl
  |false =>
   exfalso;have:j∈Region.ready md ops listed:=by
    unfold Region.ready;rw[List.mem_filter];refine⟨List.mem_range.2 o,?_⟩;have r:ops[j]?=some ops[j]:=Array.getElem?_eq_getElem o;rw[r];simp only[Bool.and_eq_true,Bool.not_eq_true',Option.map_some,Option.getD_some];constructor
    ·have g:j<listed.size:=by omega
     rw[Array.getD_eq_getD_getElem?,Array.getElem?_eq_getElem g] at hl ⊢;exact hl
    ·rw[Array.all_eq_true_iff_forall_mem]
     intro e he;cases hbe:Region.binds md e with
     |false=>rfl
     |true =>
      have h1:=s;unfold zje at h1;rw[List.all_eq_true] at h1;have h2:=h1 j (List.mem_range.2 o);rw[r] at h2;simp only at h2;rw[Array.all_eq_true_iff_forall_mem] at h2;have q:=h2 e he;rw[hbe] at q;have hlt:e.on<j:=(by simpa using q);rw[ih e.on hlt (by omega)];rfl
   rw[h] at this;cases this
theorem zjg{l:Array Bool}{i:Nat}(hi:i<l.size)(h:l.getD i true=false):(l.setIfInBounds i true).toList.count false+1=l.toList.count false:=by
 obtain⟨l⟩:=l;have g:i<l.length:=by simpa using hi
 have hx:l[i]=false:=by
  rw[Array.getD_eq_getD_getElem?] at h
  simpa [g] using h
 simp only[List.setIfInBounds_toArray];have q:l=l.take i++l[i] :: l.drop (i+1):=by rw[<-List.drop_eq_getElem_cons g,List.take_append_drop]
 have o:l.set i true=l.take i++true :: l.drop (i+1):=by rw[List.set_eq_take_append_cons_drop,if_pos g]
 rw[o]
 conv=>rhs;rw[q]
 rw[List.count_append,List.count_append,hx,List.count_cons_self,List.count_cons_of_ne (by decide)];omega
theorem zte{l:Array Bool}{i:Nat}(hi:i<l.size):(fun j=>(l.setIfInBounds i true).getD j false)=fun j=>if j=i then true else l.getD j false:=by
 funext j
 rw[Array.getD_eq_getD_getElem?,Array.getD_eq_getD_getElem?,Array.getElem?_setIfInBounds];by_cases h:j=i
 ·subst h;rw[if_pos rfl,if_pos rfl,if_pos hi];rfl
 ·rw[if_neg h,if_neg (fun e=>h e.symm)]
/-- By an invariant. -/
theorem zrv{P:Program}{md:Region.Mode}{ops:Array Oper}{Q:Exit->Act->World->Prop}(D:zje md ops=true)(I:(Nat->Bool)->Act->World->Prop)
  (t:∀f a w i o,ops[i]?=some o->f i=false->(∀e∈o.after,Region.binds md e=true->f e.on=true)->I f a w->wpOp P ops Q i (fun B w'=>I (fun j=>if j=i then true else f j) B w') a w)
  (q:∀f a w,(∀j,j<ops.size->f j=true)->I f a w->Q .normal a w) :
  ∀(g:Nat) (listed:Array Bool) (a:Act) (w:World),listed.size=ops.size->listed.toList.count false<=g->I (fun j=>listed.getD j false) a w->wpAny P md ops Q g listed a w:=by
 intro g
 induction g with
 |zero =>
  intro listed a w hs E z;have hr:Region.ready md ops listed=[]:=by
   cases hr:Region.ready md ops listed with
   |nil=>rfl
   |cons i r =>
    exfalso;obtain⟨o,A,u,-⟩:=zjf (md:=md) (ops:=ops) (listed:=listed) (i:=i) (by rw[hr];simp);have hi:i<listed.size:=(by rw[hs];exact(Array.getElem?_eq_some_iff.1 A).1);have:=zjg hi u;omega
  exact⟨hr,q _ a w (zkJ hs D hr) z⟩
 |succ g ih =>
  intro listed a w hs E z;refine⟨fun hr=>q _ a w (zkJ hs D hr) z,fun i hi=>?_⟩;obtain⟨o,A,u,he⟩:=zjf hi;have s:i<listed.size:=by rw[hs];exact(Array.getElem?_eq_some_iff.1 A).1
  have C:listed.getD i false=false:=by
   rw[Array.getD_eq_getD_getElem?,Array.getElem?_eq_getElem s] at u ⊢;exact u
  refine wpOp_mono (fun B w' h=>ih _ B w' (by rw[Array.size_setIfInBounds];exact hs) (by have:=zjg s u;omega) ?_) (t _ a w i o A C he z);rw[zte s];exact h
theorem zk5{P:Program}{ops:Array Oper}{Q:Exit->Act->World->Prop}{id:Nat}{a:Act}{w:World}(t:P.follows .mixedOrders=true)(s:zje .any ops=true)
  (I:(Nat->Bool)->Act->World->Prop) (h0:I (fun _=>false) a w.drew)
  (g:∀f a w i o,ops[i]?=some o->f i=false->(∀e∈o.after,Region.binds .any e=true->f e.on=true)->I f a w->wpOp P ops Q i (fun r w'=>I (fun j=>if j=i then true else f j) r w') a w)
  (q:∀f a w,(∀j,j<ops.size->f j=true)->I f a w->Q .normal a w):(Code.region id ops true).wp P Q a w:=by
 refine wp_region_any t (zrv s I g q ops.size (Array.replicate ops.size false) a _ (by simp) (by simp) ?_);have e:(fun j=>(Array.replicate ops.size false).getD j false)=fun _=>false:=by
  funext j
  rw[Array.getD_eq_getD_getElem?,Array.getElem?_replicate];split<;>rfl
 rw[e];exact h0
/-- Operation i waits for operation d. -/
def zrw(ops:Array Oper)(i d:Nat):Bool:=match ops[i]? with
 |some o=>o.after.any fun e=>Region.binds .any e && (e.on==d)
 |none=>false
theorem zef{P:Program}{ops:Array Oper}{Q:Exit->Act->World->Prop}{id:Nat}{a:Act}{w:World}(C:P.follows .mixedOrders=true)(B:zje .any ops=true)
  (I:(Nat->Bool)->Act->World->Prop) (h0:I (fun _=>false) a w.drew)
  (q:∀f a w i,i<ops.size->f i=false->(∀d,zrw ops i d=true->f d=true)->I f a w->wpOp P ops Q i (fun A w'=>I (fun j=>if j=i then true else f j) A w') a w)
  (r:∀f a w,(∀j,j<ops.size->f j=true)->I f a w->Q .normal a w):(Code.region id ops true).wp P Q a w :=
 zk5 C B I h0 (fun f a w i o u D he z=>q f a w i (Array.getElem?_eq_some_iff.1 u).1 D (fun d s=>by
  unfold zrw at s;rw[u] at s;simp only at s;rw[Array.any_eq_true'] at s;obtain⟨e,t,g⟩:=s;simp only[Bool.and_eq_true,beq_iff_eq] at g;have:=he e t g.1;rwa[g.2] at this) z) r
/-- An operation without a guard. -/
theorem zo6{P:Program}{ops:Array Oper}{Q:Exit->Act->World->Prop}{i:Nat}{K:Act->World->Prop}{a:Act}{w:World}{o:Oper}(q:ops[i]?=some o)(hg:o.guard=none)(h:o.wp P a w K Q):wpOp P ops Q i K a w:=by
 unfold wpOp;rw[q];have g:Region.wanted o (yielded ops a.tmps)=true:=by simp[Region.wanted,hg]
 simp only;rw[if_pos g];exact .inl h
theorem zaq{P:Program}{ops:Array Oper}{Q:Exit->Act->World->Prop}{i:Nat}{g:Act->World->Prop}{a:Act}{w:World}{o:Oper}(q:ops[i]?=some o)(hg:o.guard=none)
  (h:∀K:Act->World->Prop,Hid (∀a w,g a w->K a w)->o.wp P a w K Q):wpOp P ops Q i g a w:=zo6 q hg (h g (fun _ _ h=>h))
end Go.Proofs.YtebbdifhiihfkaaGreatDoor

/- png: the parts of a picture. -/
namespace Go.Proofs.YtebbdifhiihfkaaGreatDoor
set_option linter.all false
set_option maxRecDepth 100000
set_option maxHeartbeats 12800000
open Go.RowKit
def UnU(s:Sh)(out:List UInt8)(E:Int)(b:Nat)(w:World)(e:Ending)(w':World):Prop :=
 ∃v,e=.returned (.tuple #[.agg #[.int .i64 s.w,.int .i64 s.h,.int .i64 s.c,.int .i64 s.d,v],.int .i64 E])/\ownB w' b v out/\Below b w w'
def unT(W H C D:Nat)(R:Option (List UInt8×List UInt8)):Sh×List UInt8×Int:=match R with
 |none=>(⟨0,0,0,0⟩,[],4)
 |some p=>(⟨W,H,C,D⟩,p.1,0)
theorem zmq{W H C D b:Nat}{R:Option (List UInt8×List UInt8)}{w w':World}{e:Ending}(h:zrl W H C D R b w e w'):UnU (unT W H C D R).1 (unT W H C D R).2.1 (unT W H C D R).2.2 b w e w':=by
 cases R with
 |none =>
  obtain⟨h1,h2⟩:=h;exact⟨.slice none 0 0,h1,ownB.nil_ _ _,h2⟩
 |some p =>
  obtain⟨v,h1,h2,g⟩:=h;exact⟨v,h1,h2,g⟩
theorem zo8(W H C D:Int)(w:World):Calls Tryz.prog 29 #[.agg #[.int .i64 W,.int .i64 H,.int .i64 C,.int .i64 D],.bool false] w fun e w'=>∃g,e=.returned (.slice (some ⟨g,0,none⟩) 1 1)/\RdV w' w'.heap.size (some ⟨g,0,none⟩) 1 [⟨W,H,C,D⟩]/\Below w.heap.size w w':=by
 have q:Hid (RdV ((w.alloc (.cells #[.int .i64 W,.int .i64 H,.int .i64 C,.int .i64 D] 37)).alloc (.cells #[.int .i64 W,.int .i64 H,.int .i64 C,.int .i64 D] 37)) ((w.alloc (.cells #[.int .i64 W,.int .i64 H,.int .i64 C,.int .i64 D] 37)).alloc (.cells #[.int .i64 W,.int .i64 H,.int .i64 C,.int .i64 D] 37)).heap.size (some ⟨w.heap.size+1,0,none⟩) 1 [⟨W,H,C,D⟩]):=(show RdV _ _ _ _ _ by
  have:=zjR (w.alloc (.cells #[.int .i64 W,.int .i64 H,.int .i64 C,.int .i64 D] 37)) ⟨W,H,C,D⟩ 37 (0,0);rw[wsa] at this;exact RdV.here this)
 have o:=yo (((Below.refl w.heap.size w).alloc (nlr _) (.cells #[.int .i64 W,.int .i64 H,.int .i64 C,.int .i64 D] 37)).alloc (by rw[wsa];omega) (.cells #[.int .i64 W,.int .i64 H,.int .i64 C,.int .i64 D] 37));go_enter Tryz.func29,Tryz.ntmps29;go_wp2_with fail;go_ret;exact⟨_,rfl,q.o,o.o⟩
/-- The region that makes a picture without pixels. -/
def zrx(mk:(Nat->Value)->Act)(W H C D sz z:Nat)(w0:World)(f:Nat->Bool)(a:Act)(w:World):Prop :=
 ∃(G M:Nat) (v:Nat->Value),a=mk v/\(f 0=true->v 14=.agg #[.int .i64 (W:Int),.int .i64 (H:Int),.int .i64 (C:Int),.int .i64 (D:Int)])/\(f 1=true->v 15=.agg #[.int .i64 (W:Int),.int .i64 (H:Int),.int .i64 (C:Int),.int .i64 (D:Int)])/\(f 2=true->v 16=.int .i64 (sz:Int))/\(f 3=true->v 17=.slice (some ⟨M,0,none⟩) sz sz/\ownB w z (.slice (some ⟨M,0,none⟩) sz sz) (List.replicate sz 0))/\(f 4=true->v 18=.agg #[.int .i64 (W:Int),.int .i64 (H:Int),.int .i64 (C:Int),.int .i64 (D:Int),.slice (some ⟨M,0,none⟩) sz sz])/\(f 5=true->v 8=.pointer (some ⟨G,0,none⟩)/\z<=G/\G<w.heap.size/\(f 6=false->Arr w G [.int .i64 0,.int .i64 0,.int .i64 0,.int .i64 0,.slice none 0 0]))/\(f 6=true->Arr w G [.int .i64 (W:Int),.int .i64 (H:Int),.int .i64 (C:Int),.int .i64 (D:Int),.slice (some ⟨M,0,none⟩) sz sz])/\(f 4=true->f 3=true)/\(f 6=true->f 4=true/\f 5=true)/\(f 3=true->f 5=true->G≠M)/\(Below z w0 w)
/-- The region that reads the rows of a part. -/
def zuw(mk:(Nat->Value)->Act)(Ar:Option Addr)(mr cr N:Nat)(pW pH pC pD sW sH sC sD E:Int)(out:List UInt8)(z:Nat)(w0:World)(f:Nat->Bool)(a:Act)(w:World):Prop :=
 ∃(G:Nat) (A4:Option Addr) (n4 c4:Nat) (v:Nat->Value),a=mk v/\(f 0=true->v 29=.slice Ar mr cr)/\(f 1=true->v 30=.int .i64 (N:Int))/\(f 2=true->v 31=.slice Ar N cr)/\(f 3=true->v 32=.agg #[.int .i64 pW,.int .i64 pH,.int .i64 pC,.int .i64 pD])/\(f 4=true->v 33=.tuple #[.agg #[.int .i64 sW,.int .i64 sH,.int .i64 sC,.int .i64 sD,.slice A4 n4 c4],.int .i64 E]/\ownB w z (.slice A4 n4 c4) out)/\(f 5=true->v 28=.tuple #[.agg #[.int .i64 sW,.int .i64 sH,.int .i64 sC,.int .i64 sD,.slice A4 n4 c4],.int .i64 E])/\(f 6=true->v 34=.agg #[.int .i64 sW,.int .i64 sH,.int .i64 sC,.int .i64 sD,.slice A4 n4 c4])/\(f 7=true->v 35=.int .i64 E)/\(f 8=true->v 12=.pointer (some ⟨G,0,none⟩)/\z<=G/\G<w.heap.size/\(f 9=false->Arr w G [.int .i64 0,.int .i64 0,.int .i64 0,.int .i64 0,.slice none 0 0]))/\(f 9=true->Arr w G [.int .i64 sW,.int .i64 sH,.int .i64 sC,.int .i64 sD,.slice A4 n4 c4])/\(f 10=true->v 13=.int .i64 E)/\(f 5=true->f 4=true)/\(f 6=true->f 5=true)/\(f 7=true->f 5=true)/\(f 9=true->f 6=true/\f 8=true)/\(f 4=true->f 8=true->(Value.slice A4 n4 c4).ownBlock≠some G)/\(Below z w0 w)
theorem zbT{z b i:Nat}{g w:World}{v:Value}(o:Below z g w)(hz:b<z)(h:g.cell? ⟨b,i,none⟩=some v):w.cell? ⟨b,i,none⟩=some v:=zan o hz h
def zdM(nl W H C D:Nat)(u:Nat->Sh×List UInt8×Int)(sp:Nat->List UInt8->List UInt8->List UInt8)(z:List UInt8):Sh×List UInt8×Int :=
 if nl=1 then u 0 else match zdL u sp z nl with
  |none=>(⟨0,0,0,0⟩,[],4)
  |some px=>(⟨W,H,C,D⟩,px,0)
theorem zhJ{w:World}{B m c N:Nat}{A A':Option Addr}{l:List UInt8}(h:RdB w B A m l)(o:N<=m)(g:N<m->A'=A.map (·.add N)):RdB w B A' (m-N) (l.drop N):=by
 have h1:=RdB.cut (A':=A') h (k:=N) (m:=m-N) (by omega) (fun h=>g (by omega));rw[List.take_of_length_le (by have:=h.len;rw[lld];omega)] at h1;exact h1
theorem zmr(W H C D g X m c B cl:Nat)(A Al:Option Addr)(rs:List UInt8)(L:List Sh)(N off:Nat->Nat)(u:Nat->Sh×List UInt8×Int)(sp:Nat->List UInt8->List UInt8->List UInt8)(w:World)
  (b8:∀w,Calls Tryz.prog 42 #[.agg #[.int .i64 (W:Int),.int .i64 (H:Int),.int .i64 (C:Int),.int .i64 (D:Int)]] w fun e w'=>e=.returned (.int .i64 (g:Int))/\Below w.heap.size w w') (cJ:g<=16384)
  (h:RdB w B A m rs) (r:B<=w.heap.size) (aK:m<=c) (cN:m<=1000000) (hl:RdV w B Al X L) (cC:1<=X) (cM:X<=7) (ch:off 0=0) (b9:∀k,off (k+1)=off k+N k) (cc:∀k,k<=X->off k<=m)
  (bU:∀k s,L[k]?=some s->∀w,Calls Tryz.prog 30 #[.agg #[.int .i64 s.w,.int .i64 s.h,.int .i64 s.c,.int .i64 s.d]] w fun e w'=>e=.returned (.int .i64 (N k:Int))/\Below w.heap.size w w')
  (bD:∀k s,L[k]?=some s->∀w A2 c2 B2,RdB w B2 A2 (N k) ((rs.drop (off k)).take (N k))->B2<=w.heap.size->N k<=c2->Calls Tryz.prog 59 #[.slice A2 (N k) c2,.agg #[.int .i64 s.w,.int .i64 s.h,.int .i64 s.c,.int .i64 s.d]] w fun e w'=>UnU (u k).1 (u k).2.1 (u k).2.2 w.heap.size w e w')
  (hu:∀k,(u k).2.2=0\/(u k).2.2=4/\(u k).1=⟨0,0,0,0⟩/\(u k).2.1=[])
  (cj:∀k,k<X->X≠1->(u k).2.2=0->∀w z M z4 t F c4 px,ownB w z (.slice (some ⟨M,0,none⟩) g g) px->ownB w z4 (.slice t F c4) (u k).2.1->(Value.slice t F c4).ownBlock≠some M ->
   Calls Tryz.prog 60 #[.agg #[.int .i64 (W:Int),.int .i64 (H:Int),.int .i64 (C:Int),.int .i64 (D:Int),.slice (some ⟨M,0,none⟩) g g],.int .i64 ((k:Int)+1),.agg #[.int .i64 (u k).1.w,.int .i64 (u k).1.h,.int .i64 (u k).1.c,.int .i64 (u k).1.d,.slice t F c4]] w fun e w'=>(∃v,e=.returned v)/\ownB w' z (.slice (some ⟨M,0,none⟩) g g) (sp k (u k).2.1 px)/\w.grownBy w' (some M)) :
  Calls Tryz.prog 33 #[.agg #[.int .i64 (W:Int),.int .i64 (H:Int),.int .i64 (C:Int),.int .i64 (D:Int)],.slice Al X cl,.slice A m c] w fun e w'=>UnU (zdM X W H C D u sp (List.replicate g 0)).1 (zdM X W H C D u sp (List.replicate g 0)).2.1 (zdM X W H C D u sp (List.replicate g 0)).2.2 w.heap.size w e w':=by
 have cu:=yo b8;have bM:=yo bU;have ce:=yo bD;have HU:=yo hu;have c0:=yo cj;have bN:=yo b9;have cw:=yo cc;have b0:=yo ch;have HL:=yo hl;have cK:=hl.len;have bJ:=fun w=>zjX w g (by omega)
 obtain⟨bl,ol,cy,cG⟩:∃b o,Al=some ⟨b,o,none⟩/\b<B:=by
  obtain⟨b,o,x,h1,h2,-⟩:=hl.one (k:=0) (by omega);exact⟨b,o,h1,h2⟩
 subst cy;obtain⟨R,ai⟩:∃w1,(w.alloc (.cells #[.int .i64 (W:Int),.int .i64 (H:Int),.int .i64 (C:Int),.int .i64 (D:Int)] 37)).alloc (.cells #[.int .i64 0,.int .i64 0,.int .i64 0,.int .i64 0,.slice none 0 0] 39)=w1:=⟨_,rfl⟩;obtain⟨bx,ao⟩:∃b,w.heap.size=b:=⟨_,rfl⟩;have bL:Hid (Arr R bx [.int .i64 (W:Int),.int .i64 (H:Int),.int .i64 (C:Int),.int .i64 (D:Int)]):=(show Arr _ _ _ by rw[<-ai,<-ao];exact(Arr.new w [.int .i64 (W:Int),.int .i64 (H:Int),.int .i64 (C:Int),.int .i64 (D:Int)] _).alloc _);have cf:Hid (Arr R (bx+1) [.int .i64 0,.int .i64 0,.int .i64 0,.int .i64 0,.slice none 0 0]):=(show Arr _ _ _ by
  rw[<-ai,<-ao];have:=Arr.new (w.alloc (.cells #[.int .i64 (W:Int),.int .i64 (H:Int),.int .i64 (C:Int),.int .i64 (D:Int)] 37)) [.int .i64 0,.int .i64 0,.int .i64 0,.int .i64 0,.slice none 0 0] 39;rw[wsa] at this;exact this)
 have cg:Hid (RdB R B A m rs):=(show RdB _ _ _ _ _ by rw[<-ai];exact Rd.alloc (Rd.alloc h r _) (by rw[wsa];omega) _);have ba:Hid (Below bx w R):=(show Below _ _ _ by rw[<-ai,<-ao];exact((Below.refl w.heap.size w).alloc (nlr _) _).alloc (by rw[wsa];omega) _);have c9:bx+2<=R.heap.size:=by rw[<-ai,wsa,wsa,ao];exact nlr _
 obtain⟨a0,a1,a2,a3⟩:=bL.o.c4;rw[ao] at r ⊢;have bY:Hid (RdV R B (some ⟨bl,ol,none⟩) X L):=(show RdV _ _ _ _ _ from RdV.blw HL.o (ba.o.mono r));clear h hl b8 bU bD hu cj b9 cc ch;go_enter Tryz.func33,Tryz.ntmps33;go_upto_region 1 with fail;clear ai;have bI:=yo bJ;have cd:Hid (g<=140737488355328):=(show _<=_ by omega);have HC:Hid (bx<R.heap.size/\R.cell? ⟨bx,0,none⟩=some (.int .i64 (W:Int))/\R.cell? ⟨bx,1,none⟩=some (.int .i64 (H:Int))/\R.cell? ⟨bx,2,none⟩=some (.int .i64 (C:Int))/\R.cell? ⟨bx,3,none⟩=some (.int .i64 (D:Int))):=(show _/\_ from⟨by omega,a0,a1,a2,a3⟩);have aG:Hid (R.heap.size<=R.heap.size):=nlr _;clear bJ a0 a1 a2 a3;go_cut [8] (fun v8 wx=>∃G M,v8=.pointer (some ⟨G,0,none⟩)/\R.heap.size<=G/\ownB wx R.heap.size (.slice (some ⟨M,0,none⟩) g g) (List.replicate g 0)/\Arr wx G [.int .i64 (W:Int),.int .i64 (H:Int),.int .i64 (C:Int),.int .i64 (D:Int),.slice (some ⟨M,0,none⟩) g g]/\G≠M/\Below R.heap.size R wx)
 case first =>
  refine zef (by kernel_rfl) (by kernel_rfl) (zrx (fun v=>⟨#[.agg #[.int .i64 (W:Int),.int .i64 (H:Int),.int .i64 (C:Int),.int .i64 (D:Int)],.slice (some ⟨bl,ol,none⟩) X cl,.slice A m c,.pointer (some ⟨bx,0,none⟩),undef,undef,.pointer (some ⟨bx+1,0,none⟩),.int .i64 0,v 8,undef,undef,undef,undef,undef,v 14,v 15,v 16,v 17,v 18,undef,undef,undef,undef,undef,undef,undef,undef,undef,undef,undef,undef,undef,undef,undef,undef,undef,undef,undef,undef,undef,undef,undef,undef,undef,undef,undef,undef,undef,undef,undef,undef,undef,undef,undef],[]⟩) W H C D g R.heap.size R) ?_ ?_ ?_
  ·exact⟨0,0,fun _=>undef,rfl,(fun h=>by cases h),(fun h=>by cases h),(fun h=>by cases h),(fun h=>by cases h),(fun h=>by cases h),(fun h=>by cases h),(fun h=>by cases h),(fun h=>by cases h),(fun h=>by cases h),(fun h=>by cases h),(Below.refl _ _).drew⟩
  ·intro f a w i ay hf he hI
   have hi:i<7:=ay;clear ay;obtain⟨G,M,v,rfl,p0,p1,p2,S,V,J,p6,d4,U,q,r⟩:=hI;replace p0:=yo p0;replace p1:=yo p1;replace p2:=yo p2;replace S:=yo S;replace V:=yo V;replace J:=yo J;replace p6:=yo p6;replace d4:=yo d4;replace U:=yo U;replace q:=yo q;replace r:=yo r;have aZ:i=0\/i=1\/i=2\/i=3\/i=4\/i=5\/i=6:=(by omega);clear hi;rcases aZ with rfl|rfl|rfl|rfl|rfl|rfl|rfl
   ·have bG:=zbT r.o HC.o.1 HC.o.2.1
    have b3:=zbT r.o HC.o.1 HC.o.2.2.1;have bt:=zbT r.o HC.o.1 HC.o.2.2.2.1;have b2:=zbT r.o HC.o.1 HC.o.2.2.2.2;clear he;refine zaq rfl rfl (fun K I=>?_);dsimp only;go_simp;exact I.o _ _ ⟨G,M,(fun k=>if k=14 then .agg #[.int .i64 (W:Int),.int .i64 (H:Int),.int .i64 (C:Int),.int .i64 (D:Int)] else v k),rfl,fun _=>rfl,p1.o,p2.o,S.o,V.o,J.o,p6.o,d4.o,U.o,q.o,r.o⟩
   ·have bG:=zbT r.o HC.o.1 HC.o.2.1
    have b3:=zbT r.o HC.o.1 HC.o.2.2.1;have bt:=zbT r.o HC.o.1 HC.o.2.2.2.1;have b2:=zbT r.o HC.o.1 HC.o.2.2.2.2;clear he;refine zaq rfl rfl (fun K I=>?_);dsimp only;go_simp;exact I.o _ _ ⟨G,M,(fun k=>if k=15 then .agg #[.int .i64 (W:Int),.int .i64 (H:Int),.int .i64 (C:Int),.int .i64 (D:Int)] else v k),rfl,p0.o,fun _=>rfl,p2.o,S.o,V.o,J.o,p6.o,d4.o,U.o,q.o,r.o⟩
   ·have Y:R.heap.size<=w.heap.size:=nlt aG.o r.o.size
    have f1:f 1=true:=he 1 (by kernel_rfl);have r1:=p1.o f1;clear he;refine zaq rfl rfl (fun K I=>?_);dsimp only;rw[r1];clear r1;go_simp;go_at_call 42
    (with_reducible refine(cu.o _).mono ?_)
    rintro e w' ⟨rfl,hb⟩;go_simp;exact I.o _ _ ⟨G,M,(fun k=>if k=16 then .int .i64 (g:Int) else(fun k=>if k=15 then .agg #[.int .i64 (W:Int),.int .i64 (H:Int),.int .i64 (C:Int),.int .i64 (D:Int)] else v k) k),rfl,p0.o,fun _=>rfl,fun _=>rfl,fun h=>⟨(S.o h).1,ownB.later (S.o h).2 hb⟩,V.o,fun h=>⟨(J.o h).1,(J.o h).2.1,Nat.lt_of_lt_of_le (J.o h).2.2.1 hb.size,fun h6=>Arr.later ((J.o h).2.2.2 h6) hb⟩,fun h=>Arr.later (p6.o h) hb,d4.o,U.o,q.o,r.o.trans (Below.mono hb Y)⟩
   ·have Y:R.heap.size<=w.heap.size:=nlt aG.o r.o.size
    have f2:f 2=true:=he 2 (by kernel_rfl);have r2:=p2.o f2;have km:=bI.o w;clear he;refine zaq rfl rfl (fun K I=>?_);dsimp only;rw[r2];clear r2;go_simp;have hb:Below w.heap.size w (w.alloc (zht g)):=(Below.refl w.heap.size w).alloc (nlr _) _;exact I.o _ _ ⟨G,w.heap.size,(fun k=>if k=17 then .slice (some ⟨w.heap.size,0,none⟩) g g else(fun k=>if k=16 then .int .i64 (g:Int) else v k) k),rfl,p0.o,p1.o,fun _=>rfl,fun _=>⟨rfl,(zlh w g cd.o).mono Y⟩,fun h=>Bool.noConfusion (show true=false from(d4.o h).symm.trans hf),fun h=>⟨(J.o h).1,(J.o h).2.1,Nat.lt_of_lt_of_le (J.o h).2.2.1 hb.size,fun h6=>Arr.later ((J.o h).2.2.2 h6) hb⟩,fun h=>Bool.noConfusion (show true=false from(d4.o (U.o h).1).symm.trans hf),fun _=>rfl,U.o,fun _ h5=>Nat.ne_of_lt (J.o h5).2.2.1,r.o.trans (Below.mono hb Y)⟩
   ·have f0:f 0=true:=he 0 (by kernel_rfl)
    have f3:f 3=true:=he 3 (by kernel_rfl);have r0:=p0.o f0;have r3:=(S.o f3).1;clear he;refine zaq rfl rfl (fun K I=>?_);dsimp only;rw[r0,r3];clear r0 r3;go_simp;exact I.o _ _ ⟨G,M,(fun k=>if k=18 then .agg #[.int .i64 (W:Int),.int .i64 (H:Int),.int .i64 (C:Int),.int .i64 (D:Int),.slice (some ⟨M,0,none⟩) g g] else(fun k=>if k=17 then .slice (some ⟨M,0,none⟩) g g else(fun k=>if k=14 then .agg #[.int .i64 (W:Int),.int .i64 (H:Int),.int .i64 (C:Int),.int .i64 (D:Int)] else v k) k) k),rfl,fun _=>rfl,p1.o,p2.o,fun _=>⟨rfl,(S.o f3).2⟩,fun _=>rfl,J.o,p6.o,fun _=>f3,fun h=>⟨rfl,(U.o h).2⟩,q.o,r.o⟩
   ·have Y:R.heap.size<=w.heap.size:=nlt aG.o r.o.size
    clear he;refine zaq rfl rfl (fun K I=>?_);dsimp only;go_simp;have hb:Below w.heap.size w (w.alloc (.cells #[.int .i64 0,.int .i64 0,.int .i64 0,.int .i64 0,.slice none 0 0] 39)):=(Below.refl w.heap.size w).alloc (nlr _) _;exact I.o _ _ ⟨w.heap.size,M,(fun k=>if k=8 then .pointer (some ⟨w.heap.size,0,none⟩) else v k),rfl,p0.o,p1.o,p2.o,fun h=>⟨(S.o h).1,ownB.later (S.o h).2 hb⟩,V.o,fun _=>⟨rfl,Y,(by rw[wsa];exact Nat.lt_succ_self _),fun _=>Arr.new w [.int .i64 0,.int .i64 0,.int .i64 0,.int .i64 0,.slice none 0 0] _⟩,fun h=>Bool.noConfusion (show true=false from(U.o h).2.symm.trans hf),d4.o,fun h=>⟨(U.o h).1,rfl⟩,fun h3 _=>fun e=>Nat.lt_irrefl _ (by have h1:=(olt (S.o h3).2 M rfl).2;rw[<-e] at h1;exact h1),r.o.trans (Below.mono hb Y)⟩
   ·have f4:f 4=true:=he 4 (by kernel_rfl)
    have f5:f 5=true:=he 5 (by kernel_rfl);have f3:=d4.o f4;have r4:=V.o f4;obtain⟨r5,Z,bf,hA⟩:=J.o f5;replace hA:=hA hf;obtain⟨s0,s1,s2,s3,s4⟩:=hA.c5;obtain⟨z0,z1,z2,z3,z4⟩:=hA.q5;have aa:(Value.slice (some ⟨M,0,none⟩) g g).ownBlock≠some G:=fun e=>q.o f3 f5 (by injection e with e;exact e.symm)
    have a6:ownB (((((w.setCell ⟨G,0,none⟩ (.int .i64 (W:Int))).setCell ⟨G,1,none⟩ (.int .i64 (H:Int))).setCell ⟨G,2,none⟩ (.int .i64 (C:Int))).setCell ⟨G,3,none⟩ (.int .i64 (D:Int))).setCell ⟨G,4,none⟩ (.slice (some ⟨M,0,none⟩) g g)) R.heap.size (.slice (some ⟨M,0,none⟩) g g) (List.replicate g 0):=(((((S.o f3).2.far aa 0 _).far aa 1 _).far aa 2 _).far aa 3 _).far aa 4 _;have a8:Arr (((((w.setCell ⟨G,0,none⟩ (.int .i64 (W:Int))).setCell ⟨G,1,none⟩ (.int .i64 (H:Int))).setCell ⟨G,2,none⟩ (.int .i64 (C:Int))).setCell ⟨G,3,none⟩ (.int .i64 (D:Int))).setCell ⟨G,4,none⟩ (.slice (some ⟨M,0,none⟩) g g)) G [.int .i64 (W:Int),.int .i64 (H:Int),.int .i64 (C:Int),.int .i64 (D:Int),.slice (some ⟨M,0,none⟩) g g]:=((((hA.set 0 _).set 1 _).set 2 _).set 3 _).set 4 _;have br:Below R.heap.size R (((((w.setCell ⟨G,0,none⟩ (.int .i64 (W:Int))).setCell ⟨G,1,none⟩ (.int .i64 (H:Int))).setCell ⟨G,2,none⟩ (.int .i64 (C:Int))).setCell ⟨G,3,none⟩ (.int .i64 (D:Int))).setCell ⟨G,4,none⟩ (.slice (some ⟨M,0,none⟩) g g)):=((((r.o.setCell (p:=⟨G,0,none⟩) Z _).setCell (p:=⟨G,1,none⟩) Z _).setCell (p:=⟨G,2,none⟩) Z _).setCell (p:=⟨G,3,none⟩) Z _).setCell (p:=⟨G,4,none⟩) Z _;clear he;refine zaq rfl rfl (fun K I=>?_);dsimp only;rw[r4,r5];clear r4 r5;go_simp;exact I.o _ _ ⟨G,M,(fun k=>if k=18 then .agg #[.int .i64 (W:Int),.int .i64 (H:Int),.int .i64 (C:Int),.int .i64 (D:Int),.slice (some ⟨M,0,none⟩) g g] else(fun k=>if k=8 then .pointer (some ⟨G,0,none⟩) else v k) k),rfl,p0.o,p1.o,p2.o,fun h=>⟨(S.o h).1,a6⟩,fun _=>rfl,fun _=>⟨rfl,Z,(by simpa using bf),fun h=>Bool.noConfusion (show true=false from h)⟩,fun _=>a8,d4.o,fun _=>⟨f4,f5⟩,q.o,br⟩
  ·intro f a w O hI
   obtain⟨G,M,v,rfl,p0,p1,p2,S,V,J,p6,d4,U,q,r⟩:=hI;have g3:=O 3 (by decide);have g5:=O 5 (by decide);have g6:=O 6 (by decide);have bo:Hid (v 8=.pointer (some ⟨G,0,none⟩)/\R.heap.size<=G/\ownB w R.heap.size (.slice (some ⟨M,0,none⟩) g g) (List.replicate g 0)/\Arr w G [.int .i64 (W:Int),.int .i64 (H:Int),.int .i64 (C:Int),.int .i64 (D:Int),.slice (some ⟨M,0,none⟩) g g]/\G≠M/\Below R.heap.size R w):=(show _/\_ from⟨(J g5).1,(J g5).2.1,(S g3).2,p6 g6,q g3 g5,r⟩);clear p0 p1 p2 S V J p6 d4 U q r O g3 g5 g6;go_wp2_with fail;go_meet
   case rel=>exact⟨G,M,bo.o⟩
 case rest =>
 clear HC bI cd aG;obtain⟨wm,rfl⟩:∃wm:World,wm=wc:=⟨_,rfl⟩;obtain⟨G0,M,rfl,hG,bc,bQ,bA,bC⟩:=hcut;have av:=yo bc;have aJ:=yo bQ;have bz:=yo bA;have ah:=yo bC;have b7:R.heap.size<=M/\M<wm.heap.size:=olt bc M rfl;have a7:=yo b7;have bn:=yo hG;obtain⟨z,hz⟩:∃z,R.heap.size=z:=⟨_,rfl⟩;rw[hz] at av ah a7 bn c9;clear hG bc bQ bA bC b7 hz;have aL:Hid (RdB wm B A m (rs.drop (off 0))):=(show RdB _ _ _ _ _ by rw[b0.o,List.drop_zero];exact RdB.blw cg.o (ah.o.mono (by omega)));have b5:Hid (m=m-off 0):=(show _=_ by rw[b0.o];rfl);have bK:=yo (ba.o.trans (ah.o.mono (show bx<=z by omega)));have bE:=yo (cf.o.blw ah.o (show bx+1<z by omega));have ct:Hid (RdV wm B (some ⟨bl,ol,none⟩) X L):=(show RdV _ _ _ _ _ from RdV.blw bY.o (ah.o.mono (by omega)));have a5:Hid (z<=wm.heap.size):=(show _<=_ by have:=a7.o;omega);have bP:=yo aK;clear bY cf cg ba bL ah HL aK;go_wp2_with fail;go_loopw [2,21] (fun v2 aP wr=>∃(k:Nat) (px:List UInt8) (Ar:Option Addr) (mr cr:Nat),k<=X/\aP=.int .i64 (k:Int)/\v2=.slice Ar mr cr/\Hid (zdL u sp (List.replicate g 0) k=some px)/\Hid (ownB wr z (.slice (some ⟨M,0,none⟩) g g) px)/\Hid (Arr wr G0 [.int .i64 (W:Int),.int .i64 (H:Int),.int .i64 (C:Int),.int .i64 (D:Int),.slice (some ⟨M,0,none⟩) g g])/\Hid (RdB wr B Ar mr (rs.drop (off k)))/\Hid (mr=m-off k)/\Hid (mr<=cr)/\Hid (Below z wm wr)/\Hid (X=1->k=0)) (fun _ aP _=>X-(intOf aP).toNat)
 case atStart=>exact⟨0,_,A,m,c,Nat.zero_le _,rfl,rfl,(show _=_ from rfl),av,aJ,aL,b5,bP,Below.refl _ _,fun _=>rfl⟩
 case round =>
  clear av aJ aL b5 bP;obtain⟨k,px,Ar,mr,cr,hk,rfl,rfl,aU,bs,ck,cs,aV,aF,ax,aO⟩:=hrel;have ca:=ax.o.size;have cD:z<=wr.heap.size:=nlt a5.o ca;by_cases hlt:k<X
  ·have bw:(k:Int)<(X:Int):=by omega
   have co:Hid (RdV wr B (some ⟨bl,ol,none⟩) X L):=(show RdV _ _ _ _ _ from RdV.blw ct.o (ax.o.mono (by omega)));obtain⟨b',o',x,bb,-,HX,e0,e1,e2,e3⟩:=co.o.one hlt;injection bb with bb;injection bb with q1 q2;subst q1 q2;obtain⟨pW,pH,pC,pD⟩:=x;have aN:=yo (bM.o k _ HX.o);have an:=yo (ce.o k _ HX.o);have cz:off k+N k<=m:=(by rw[<-bN.o];exact cw.o (k+1) hlt);have ae:=yo (bN.o k);have bp:=yo (HU.o k);have au:=yo (c0.o k hlt);have aH:=yo (fun e=>zkL (u:=u) (sp:=sp) aU.o e);have aY:=yo (fun e=>zkM (u:=u) (sp:=sp) aU.o e);have bm:Hid (k=0->u 0=u k):=(show _->_ from fun e=>by rw[e]);obtain⟨⟨⟨sW,sH,sC,sD⟩,out,E⟩,bX⟩:∃x,u k=x:=⟨_,rfl⟩;rw[bX] at an bp au aH aY bm;obtain⟨Nk,cb⟩:∃n,N k=n:=⟨_,rfl⟩;rw[cb] at aN an cz ae;dsimp only at aN an bp au aH aY;have aE:Nk<=mr:=(by have:=aV.o;omega);have bH:Nk<=cr:=nlt aE aF.o;clear HX bX cb;obtain⟨wq,aB⟩:∃wq,wr.alloc (.cells #[.int .i64 pW,.int .i64 pH,.int .i64 pC,.int .i64 pD] 37)=wq:=⟨_,rfl⟩;obtain⟨bq,a9⟩:∃bq,wr.heap.size=bq:=⟨_,rfl⟩;have aR:Hid (Arr wq bq [.int .i64 pW,.int .i64 pH,.int .i64 pC,.int .i64 pD]):=(show Arr _ _ _ by rw[<-aB,<-a9];exact Arr.new wr [.int .i64 pW,.int .i64 pH,.int .i64 pC,.int .i64 pD] _);have b4:Hid (Below bq wr wq):=(show Below _ _ _ by rw[<-aB,<-a9];exact(Below.refl wr.heap.size wr).alloc (nlr _) _);have cH:bq+1<=wq.heap.size:=(by rw[<-aB,wsa,a9];exact nlr _);obtain⟨q0,q1,q2,q3⟩:=aR.o.c4;have ak:=yo a9;have bi:IntKind.i64.wrap ((k:Int)+1)=(k:Int)+1:=by rw[show(k:Int)+1=((k+1:Nat):Int) by omega];exact zaa _ (by omega)
   have cv:=yo bi;clear bi;go_upto_region 6 with(go_at_call 30;(with_reducible refine(aN.o _).mono ?_);go_must (rintro e w5 ⟨rfl,aD⟩;have am:=yo (aR.o.later aD);have cI:=aD.size;have a4:=yo (b4.o.trans (aD.mono (show bq<=wq.heap.size by omega)));clear aD q0 q1 q2 q3 e0 e1 e2 e3));clear aB aR b4;have al:=yo (ax.o.trans (a4.o.mono (show z<=bq by have:=ak.o;omega)));have bR:Hid (RdB w5 B Ar mr (rs.drop (off k))):=(show RdB _ _ _ _ _ from RdB.blw cs.o (a4.o.mono (by have:=ak.o;omega)));have c7:Hid (ownB w5 z (.slice (some ⟨M,0,none⟩) g g) px):=(show ownB _ _ _ _ from bs.o.later (a4.o.mono (Nat.le_of_eq ak.o)));have cp:=yo (ck.o.later (a4.o.mono (Nat.le_of_eq ak.o)));have ac:Hid (bq<w5.heap.size/\w5.cell? ⟨bq,0,none⟩=some (.int .i64 pW)/\w5.cell? ⟨bq,1,none⟩=some (.int .i64 pH)/\w5.cell? ⟨bq,2,none⟩=some (.int .i64 pC)/\w5.cell? ⟨bq,3,none⟩=some (.int .i64 pD)):=(show _/\_ from⟨by omega,am.o.cell (k:=0) rfl,am.o.cell (k:=1) rfl,am.o.cell (k:=2) rfl,am.o.cell (k:=3) rfl⟩);have aw:Hid (B<=w5.heap.size):=(show _<=_ by have:=ak.o;omega);have b6:Hid (Nk<=mr):=aE;have bV:Hid (Nk<=cr):=bH;have aC:Hid ((Nk:Int)<=(cr:Int)/\Nk<=cr):=(show _/\_ from⟨by omega,bH⟩);have cF:bx+2<=w5.heap.size:=(by have:=ak.o;omega);clear a9;go_cut [12,13] (fun c3 c8 wx=>∃G t F c4,c3=.pointer (some ⟨G,0,none⟩)/\c8=.int .i64 E/\w5.heap.size<=G/\ownB wx w5.heap.size (.slice t F c4) out/\Arr wx G [.int .i64 sW,.int .i64 sH,.int .i64 sC,.int .i64 sD,.slice t F c4]/\(Value.slice t F c4).ownBlock≠some G/\Below w5.heap.size w5 wx)
   case first =>
    refine zef (by kernel_rfl) (by kernel_rfl) (zuw (fun v=>⟨#[.agg #[.int .i64 (W:Int),.int .i64 (H:Int),.int .i64 (C:Int),.int .i64 (D:Int)],.slice (some ⟨bl,ol,none⟩) X cl,.slice Ar mr cr,.pointer (some ⟨bx,0,none⟩),undef,undef,.pointer (some ⟨bx+1,0,none⟩),u7,.pointer (some ⟨G0,0,none⟩),.int .i64 (k:Int),.pointer (some ⟨bq,0,none⟩),.int .i64 (Nk:Int),v 12,v 13,u14,u15,u16,u17,u18,.slice (some ⟨bl,ol,none⟩) X cl,.int .i64 (X:Int),.int .i64 (k:Int),.bool true,.int .i64 (k:Int),.pointer (some ⟨bl,ol+k*4,none⟩),.agg #[.int .i64 pW,.int .i64 pH,.int .i64 pC,.int .i64 pD],.agg #[.int .i64 pW,.int .i64 pH,.int .i64 pC,.int .i64 pD],.int .i64 (Nk:Int),v 28,v 29,v 30,v 31,v 32,v 33,v 34,v 35,u36,u37,u38,u39,u40,u41,u42,u43,u44,u45,u46,u47,u48,u49,u50,u51,u52,u53],[]⟩) Ar mr cr Nk pW pH pC pD sW sH sC sD E out w5.heap.size w5) ?_ ?_ ?_
    ·exact⟨0,none,0,0,(fun k=>match k with|12=>u12|13=>u13|28=>u28|29=>u29|30=>u30|31=>u31|32=>u32|33=>u33|34=>u34|35=>u35|_=>undef),rfl,(fun h=>by cases h),(fun h=>by cases h),(fun h=>by cases h),(fun h=>by cases h),(fun h=>by cases h),(fun h=>by cases h),(fun h=>by cases h),(fun h=>by cases h),(fun h=>by cases h),(fun h=>by cases h),(fun h=>by cases h),(fun h=>by cases h),(fun h=>by cases h),(fun h=>by cases h),(fun h=>by cases h),(fun h=>by cases h),(Below.refl _ _).drew⟩
    ·intro f a w i ay hf he hI
     have hi:i<11:=ay;clear ay;obtain⟨G,t,F,c4,v,rfl,p0,p1,p2,S,V,J,p6,p7,p8,p9,T,d5,U,d7,d9,q,r⟩:=hI;replace p0:=yo p0;replace p1:=yo p1;replace p2:=yo p2;replace S:=yo S;replace V:=yo V;replace J:=yo J;replace p6:=yo p6;replace p7:=yo p7;replace p8:=yo p8;replace p9:=yo p9;replace T:=yo T;replace d5:=yo d5;replace U:=yo U;replace d7:=yo d7;replace d9:=yo d9;replace q:=yo q;replace r:=yo r;have aZ:i=0\/i=1\/i=2\/i=3\/i=4\/i=5\/i=6\/i=7\/i=8\/i=9\/i=10:=(by omega);clear hi;rcases aZ with rfl|rfl|rfl|rfl|rfl|rfl|rfl|rfl|rfl|rfl|rfl
     ·clear he
      refine zaq rfl rfl (fun K I=>?_);dsimp only;go_simp;exact I.o _ _ ⟨G,t,F,c4,(fun k=>if k=29 then .slice Ar mr cr else v k),rfl,fun _=>rfl,p1.o,p2.o,S.o,V.o,J.o,p6.o,p7.o,p8.o,p9.o,T.o,d5.o,U.o,d7.o,d9.o,q.o,r.o⟩
     ·clear he
      refine zaq rfl rfl (fun K I=>?_);dsimp only;go_simp;exact I.o _ _ ⟨G,t,F,c4,(fun k=>if k=30 then .int .i64 (Nk:Int) else v k),rfl,p0.o,fun _=>rfl,p2.o,S.o,V.o,J.o,p6.o,p7.o,p8.o,p9.o,T.o,d5.o,U.o,d7.o,d9.o,q.o,r.o⟩
     ·have r0:=p0.o (he 0 (by kernel_rfl))
      have r1:=p1.o (he 1 (by kernel_rfl));have k1:=aC.o.1;have k2:=aC.o.2;clear he;refine zaq rfl rfl (fun K I=>?_);dsimp only;rw[r0,r1];clear r0 r1;go_simp;exact I.o _ _ ⟨G,t,F,c4,(fun k=>if k=31 then .slice Ar Nk cr else(fun k=>if k=30 then .int .i64 (Nk:Int) else(fun k=>if k=29 then .slice Ar mr cr else v k) k) k),rfl,fun _=>rfl,fun _=>rfl,fun _=>rfl,S.o,V.o,J.o,p6.o,p7.o,p8.o,p9.o,T.o,d5.o,U.o,d7.o,d9.o,q.o,r.o⟩
     ·have bG:=zbT r.o ac.o.1 ac.o.2.1
      have b3:=zbT r.o ac.o.1 ac.o.2.2.1;have bt:=zbT r.o ac.o.1 ac.o.2.2.2.1;have b2:=zbT r.o ac.o.1 ac.o.2.2.2.2;clear he;refine zaq rfl rfl (fun K I=>?_);dsimp only;go_simp;exact I.o _ _ ⟨G,t,F,c4,(fun k=>if k=32 then .agg #[.int .i64 pW,.int .i64 pH,.int .i64 pC,.int .i64 pD] else v k),rfl,p0.o,p1.o,p2.o,fun _=>rfl,V.o,J.o,p6.o,p7.o,p8.o,p9.o,T.o,d5.o,U.o,d7.o,d9.o,q.o,r.o⟩
     ·have Y:w5.heap.size<=w.heap.size:=r.o.size
      have r2:=p2.o (he 2 (by kernel_rfl));have r3:=S.o (he 3 (by kernel_rfl));have bh:=an.o w Ar cr B (RdB.pre (RdB.blw bR.o (r.o.mono aw.o)) b6.o) (nlt aw.o Y) bV.o;clear he;refine zaq rfl rfl (fun K I=>?_);dsimp only;rw[r2,r3];clear r2 r3;go_simp;go_at_call 59
      (with_reducible refine bh.mono ?_)
      rintro e w' ⟨v1,rfl,ho,hb⟩;obtain⟨t,c4,rfl,-,-,-⟩:=ho.form;go_simp;exact I.o _ _ ⟨G,t,out.length,c4,(fun k=>if k=33 then .tuple #[.agg #[.int .i64 sW,.int .i64 sH,.int .i64 sC,.int .i64 sD,.slice t out.length c4],.int .i64 E] else(fun k=>if k=32 then .agg #[.int .i64 pW,.int .i64 pH,.int .i64 pC,.int .i64 pD] else(fun k=>if k=31 then .slice Ar Nk cr else v k) k) k),rfl,p0.o,p1.o,fun _=>rfl,fun _=>rfl,fun _=>⟨rfl,ho.mono Y⟩,fun h=>Bool.noConfusion (show true=false from(d5.o h).symm.trans hf),fun h=>Bool.noConfusion (show true=false from(d5.o (U.o h)).symm.trans hf),p7.o,fun h=>⟨(p8.o h).1,(p8.o h).2.1,Nat.lt_of_lt_of_le (p8.o h).2.2.1 hb.size,fun h6=>Arr.later ((p8.o h).2.2.2 h6) hb⟩,fun h=>Bool.noConfusion (show true=false from(d5.o (U.o (d9.o h).1)).symm.trans hf),T.o,fun h=>Bool.noConfusion (show true=false from(d5.o h).symm.trans hf),U.o,d7.o,d9.o,fun _ h8=>fun e=>by have h1:=(olt ho G e).1;have h2:=(p8.o h8).2.2.1;omega,r.o.trans (Below.mono hb Y)⟩
     ·have f4:f 4=true:=he 4 (by kernel_rfl)
      have r4:=(V.o f4).1;clear he;refine zaq rfl rfl (fun K I=>?_);dsimp only;rw[r4];clear r4;go_simp;exact I.o _ _ ⟨G,t,F,c4,(fun k=>if k=28 then .tuple #[.agg #[.int .i64 sW,.int .i64 sH,.int .i64 sC,.int .i64 sD,.slice t F c4],.int .i64 E] else(fun k=>if k=33 then .tuple #[.agg #[.int .i64 sW,.int .i64 sH,.int .i64 sC,.int .i64 sD,.slice t F c4],.int .i64 E] else v k) k),rfl,p0.o,p1.o,p2.o,S.o,fun _=>⟨rfl,(V.o f4).2⟩,fun _=>rfl,p6.o,p7.o,p8.o,p9.o,T.o,fun _=>f4,fun h=>rfl,fun h=>rfl,d9.o,q.o,r.o⟩
     ·have f5:f 5=true:=he 5 (by kernel_rfl)
      have r5:=J.o f5;clear he;refine zaq rfl rfl (fun K I=>?_);dsimp only;rw[r5];clear r5;go_simp;exact I.o _ _ ⟨G,t,F,c4,(fun k=>if k=34 then .agg #[.int .i64 sW,.int .i64 sH,.int .i64 sC,.int .i64 sD,.slice t F c4] else(fun k=>if k=28 then .tuple #[.agg #[.int .i64 sW,.int .i64 sH,.int .i64 sC,.int .i64 sD,.slice t F c4],.int .i64 E] else v k) k),rfl,p0.o,p1.o,p2.o,S.o,V.o,fun _=>rfl,fun _=>rfl,p7.o,p8.o,p9.o,T.o,d5.o,fun _=>f5,d7.o,fun h=>⟨rfl,(d9.o h).2⟩,q.o,r.o⟩
     ·have f5:f 5=true:=he 5 (by kernel_rfl)
      have r5:=J.o f5;clear he;refine zaq rfl rfl (fun K I=>?_);dsimp only;rw[r5];clear r5;go_simp;exact I.o _ _ ⟨G,t,F,c4,(fun k=>if k=35 then .int .i64 E else(fun k=>if k=28 then .tuple #[.agg #[.int .i64 sW,.int .i64 sH,.int .i64 sC,.int .i64 sD,.slice t F c4],.int .i64 E] else v k) k),rfl,p0.o,p1.o,p2.o,S.o,V.o,fun _=>rfl,p6.o,fun _=>rfl,p8.o,p9.o,T.o,d5.o,U.o,fun _=>f5,d9.o,q.o,r.o⟩
     ·have Y:w5.heap.size<=w.heap.size:=r.o.size
      clear he;refine zaq rfl rfl (fun K I=>?_);dsimp only;go_simp;have hb:Below w.heap.size w (w.alloc (.cells #[.int .i64 0,.int .i64 0,.int .i64 0,.int .i64 0,.slice none 0 0] 39)):=(Below.refl w.heap.size w).alloc (nlr _) _;exact I.o _ _ ⟨w.heap.size,t,F,c4,(fun k=>if k=12 then .pointer (some ⟨w.heap.size,0,none⟩) else v k),rfl,p0.o,p1.o,p2.o,S.o,fun h=>⟨(V.o h).1,ownB.later (V.o h).2 hb⟩,J.o,p6.o,p7.o,fun _=>⟨rfl,Y,(by rw[wsa];exact Nat.lt_succ_self _),fun _=>Arr.new w [.int .i64 0,.int .i64 0,.int .i64 0,.int .i64 0,.slice none 0 0] _⟩,fun h=>Bool.noConfusion (show true=false from(d9.o h).2.symm.trans hf),T.o,d5.o,U.o,d7.o,fun h=>⟨(d9.o h).1,rfl⟩,fun h4 _=>fun e=>Nat.lt_irrefl _ (olt (V.o h4).2 _ e).2,r.o.trans (Below.mono hb Y)⟩
     ·have f6:f 6=true:=he 6 (by kernel_rfl)
      have f8:f 8=true:=he 8 (by kernel_rfl);have f4:=d5.o (U.o f6);have r6:=p6.o f6;obtain⟨r8,Z,bf,hA⟩:=p8.o f8;replace hA:=hA hf;obtain⟨s0,s1,s2,s3,s4⟩:=hA.c5;obtain⟨z0,z1,z2,z3,z4⟩:=hA.q5;have aa:(Value.slice t F c4).ownBlock≠some G:=q.o f4 f8;have a6:ownB (((((w.setCell ⟨G,0,none⟩ (.int .i64 sW)).setCell ⟨G,1,none⟩ (.int .i64 sH)).setCell ⟨G,2,none⟩ (.int .i64 sC)).setCell ⟨G,3,none⟩ (.int .i64 sD)).setCell ⟨G,4,none⟩ (.slice t F c4)) w5.heap.size (.slice t F c4) out:=(((((V.o f4).2.far aa 0 _).far aa 1 _).far aa 2 _).far aa 3 _).far aa 4 _;have a8:Arr (((((w.setCell ⟨G,0,none⟩ (.int .i64 sW)).setCell ⟨G,1,none⟩ (.int .i64 sH)).setCell ⟨G,2,none⟩ (.int .i64 sC)).setCell ⟨G,3,none⟩ (.int .i64 sD)).setCell ⟨G,4,none⟩ (.slice t F c4)) G [.int .i64 sW,.int .i64 sH,.int .i64 sC,.int .i64 sD,.slice t F c4]:=((((hA.set 0 _).set 1 _).set 2 _).set 3 _).set 4 _;have br:Below w5.heap.size w5 (((((w.setCell ⟨G,0,none⟩ (.int .i64 sW)).setCell ⟨G,1,none⟩ (.int .i64 sH)).setCell ⟨G,2,none⟩ (.int .i64 sC)).setCell ⟨G,3,none⟩ (.int .i64 sD)).setCell ⟨G,4,none⟩ (.slice t F c4)):=((((r.o.setCell (p:=⟨G,0,none⟩) Z _).setCell (p:=⟨G,1,none⟩) Z _).setCell (p:=⟨G,2,none⟩) Z _).setCell (p:=⟨G,3,none⟩) Z _).setCell (p:=⟨G,4,none⟩) Z _;clear he;refine zaq rfl rfl (fun K I=>?_);dsimp only;rw[r6,r8];clear r6 r8;go_simp;exact I.o _ _ ⟨G,t,F,c4,(fun k=>if k=34 then .agg #[.int .i64 sW,.int .i64 sH,.int .i64 sC,.int .i64 sD,.slice t F c4] else(fun k=>if k=12 then .pointer (some ⟨G,0,none⟩) else v k) k),rfl,p0.o,p1.o,p2.o,S.o,fun h=>⟨(V.o h).1,a6⟩,J.o,fun _=>rfl,p7.o,fun _=>⟨rfl,Z,(by simpa using bf),fun h=>Bool.noConfusion (show true=false from h)⟩,fun _=>a8,T.o,d5.o,U.o,d7.o,fun _=>⟨f6,f8⟩,q.o,br⟩
     ·have r7:=p7.o (he 7 (by kernel_rfl))
      clear he;refine zaq rfl rfl (fun K I=>?_);dsimp only;rw[r7];clear r7;go_simp;exact I.o _ _ ⟨G,t,F,c4,(fun k=>if k=13 then .int .i64 E else(fun k=>if k=35 then .int .i64 E else v k) k),rfl,p0.o,p1.o,p2.o,S.o,V.o,J.o,p6.o,fun _=>rfl,p8.o,p9.o,fun _=>rfl,d5.o,U.o,d7.o,d9.o,q.o,r.o⟩
    ·intro f a w O hI
     obtain⟨G,t,F,c4,v,rfl,p0,p1,p2,S,V,J,p6,p7,p8,p9,T,d5,U,d7,d9,q,r⟩:=hI;have g9:=O 9 (by decide);have g8:=O 8 (by decide);have g4:=O 4 (by decide);have bB:=O 10 (by decide);have bo:Hid (v 12=.pointer (some ⟨G,0,none⟩)/\v 13=.int .i64 E/\w5.heap.size<=G/\ownB w w5.heap.size (.slice t F c4) out/\Arr w G [.int .i64 sW,.int .i64 sH,.int .i64 sC,.int .i64 sD,.slice t F c4]/\(Value.slice t F c4).ownBlock≠some G/\Below w5.heap.size w5 w):=(show _/\_ from⟨(p8 g8).1,T bB,(p8 g8).2.1,(V g4).2,p9 g9,q g4 g8,r⟩);clear p0 p1 p2 S V J p6 p7 p8 p9 T d5 U d7 d9 q r O g4 g8 g9 bB;go_wp2_with fail;go_meet
     case rel=>exact⟨G,t,F,c4,bo.o⟩
   case rest =>
   clear ac aw b6 bV an am;obtain⟨G,t,F,c4,rfl,rfl,hG,aI,ci,bv,ap⟩:=hcut;have aj:=yo (al.o.trans (ap.mono (show z<=w5.heap.size by have:=al.o.size;have:=a5.o;omega)));have bk:=yo (cp.o.later ap);have b1:Hid (ownB wc z (.slice (some ⟨M,0,none⟩) g g) px):=(show ownB _ _ _ _ from c7.o.later ap);have bT:Hid (RdB wc B Ar mr (rs.drop (off k))):=(show RdB _ _ _ _ _ from RdB.blw bR.o (ap.mono (by omega)));have aq:=yo (bE.o.blw aj.o (show bx+1<z by omega));obtain⟨s0,s1,s2,s3,s4⟩:=ci.c5;have bg:=yo aI;have cm:(Value.slice t F c4).ownBlock≠some (bx+1):=zbu aI (by omega);have ab:=yo cm;have bO:(Value.slice t F c4).ownBlock≠some M:=zbu aI (by have:=a7.o;have h1:=a4.o.size;have:=ca;omega);have bS:=yo bO;have cA:¬G=bx+1:=(by omega);have bZ:¬bx+1=G:=(by omega);have cx:bx<=z:=(by omega);have aA:=yo (bK.o.trans (aj.o.mono cx));have cL:Hid (w5.heap.size<=G):=hG;clear ci aI ap bv cm bO hG;obtain⟨z0,z1,z2,z3,z4⟩:=aq.o.c5;obtain⟨f0,f1,f2,f3,f4⟩:=aq.o.q5;rcases bp.o with aX | ⟨bj,bW,aM⟩
   ·have af:=yo aX
    have cq:(E != 0)=false:=(by rw[aX];rfl);clear aX;by_cases hn1:X=1
    ·have bF:((X:Int)==1)=true:=by rw[hn1];rfl
     have az:=yo hn1;clear hn1;go_wp2_with fail;refine bodyPost_ret (v:=.tuple #[.agg #[.int .i64 sW,.int .i64 sH,.int .i64 sC,.int .i64 sD,.slice t F c4],.int .i64 0]) ?_ rfl ?_
     ·unfold results
      go_simp
     ·have cn:=aO.o az.o
      unfold zdM;rw[if_pos az.o,bm.o cn];dsimp only;rw[af.o];exact⟨_,rfl,(((((bg.o.far ab.o 0 _).far ab.o 1 _).far ab.o 2 _).far ab.o 3 _).far ab.o 4 _).mono (by have:=al.o.size;have:=a5.o;omega),((((aA.o.setCell (p:=⟨bx+1,0,none⟩) (Nat.le_succ _) _).setCell (p:=⟨bx+1,1,none⟩) (Nat.le_succ _) _).setCell (p:=⟨bx+1,2,none⟩) (Nat.le_succ _) _).setCell (p:=⟨bx+1,3,none⟩) (Nat.le_succ _) _).setCell (p:=⟨bx+1,4,none⟩) (Nat.le_succ _) _⟩
    ·have bF:((X:Int)==1)=false:=bef (by omega)
     have bu:=yo (au.o hn1 af.o);have az:=yo hn1;obtain⟨g0,g1,g2,g3,g4⟩:=bk.o.c5;have bi:=cv.o;have cE:=aC.o.1;have cB:=aC.o.2;clear hn1 z0 z1 z2 z3 z4 f0 f1 f2 f3 f4;by_cases hce:cr=Nk
     ·have bd:=yo hce
      go_wp2_with (go_at_call 60;(with_reducible refine(bu.o _ _ M _ t F c4 px b1.o bg.o bS.o).mono ?_);go_must (rintro e w8 ⟨⟨v8,rfl⟩,ar,P⟩;have aS:=yo ar;have aT:=yo (bk.o.gro P bz.o);have ag:Below z wc w8:=⟨P.os,P.tape,P.output,P.size,fun i hi=>P.block i (by have:=aj.o.size;have:=a5.o;omega) (fun e=>by injection e with e;have:=a7.o;omega)⟩;have aQ:=yo ag;have aW:=yo (aj.o.trans ag);clear ag;clear ar P));go_roundw
      case rel=>exact⟨k+1,_,Ar,mr-Nk,0,by omega,by go_num,rfl,(show _=_ from aH.o af.o),aS,aT,(show RdB _ _ _ _ _ by rw[ae.o,<-List.drop_drop];have h9:=zhJ (c:=0) (A':=Ar) (RdB.blw bT.o (aQ.o.mono (by omega))) aE (by have:=aF.o;have:=bd.o;omega);exact h9),(show _=_ by rw[ae.o];have:=aV.o;omega),(show _<=_ by have:=aF.o;have:=bd.o;omega),aW,fun e=>absurd e az.o⟩
      case measure=>simp[intOf];omega
     ·have bd:=yo hce
      go_wp2_with (go_at_call 60;(with_reducible refine(bu.o _ _ M _ t F c4 px b1.o bg.o bS.o).mono ?_);go_must (rintro e w8 ⟨⟨v8,rfl⟩,ar,P⟩;have aS:=yo ar;have aT:=yo (bk.o.gro P bz.o);have ag:Below z wc w8:=⟨P.os,P.tape,P.output,P.size,fun i hi=>P.block i (by have:=aj.o.size;have:=a5.o;omega) (fun e=>by injection e with e;have:=a7.o;omega)⟩;have aQ:=yo ag;have aW:=yo (aj.o.trans ag);clear ag;clear ar P));go_roundw
      case rel=>exact⟨k+1,_,Ar.map (·.add Nk),mr-Nk,cr-Nk,by omega,by go_num,rfl,(show _=_ from aH.o af.o),aS,aT,(show RdB _ _ _ _ _ by rw[ae.o,<-List.drop_drop];exact zhJ (c:=0) (RdB.blw bT.o (aQ.o.mono (by omega))) aE (fun _=>rfl)),(show _=_ by rw[ae.o];have:=aV.o;omega),(show _<=_ by have:=aF.o;omega),aW,fun e=>absurd e az.o⟩
      case measure=>simp[intOf];omega
   ·have af:=yo bj
    have cq:(E != 0)=true:=(by rw[bj];rfl);injection bW with r1 r2 r3 r4;have c6:Hid (sW=0/\sH=0/\sC=0/\sD=0/\out=[]):=(show _/\_ from⟨r1,r2,r3,r4,aM⟩);clear bj r1 r2 r3 r4 aM;go_wp2_with fail;refine bodyPost_ret (v:=.tuple #[.agg #[.int .i64 0,.int .i64 0,.int .i64 0,.int .i64 0,.slice none 0 0],.int .i64 E]) ?_ rfl ?_
    ·unfold results
     go_simp
    ·have hU:zdM X W H C D u sp (List.replicate g 0)=(⟨0,0,0,0⟩,[],E):=by
      unfold zdM;by_cases hn1:X=1
      ·rw[if_pos hn1,bm.o (aO.o hn1)]
       obtain⟨rfl,rfl,rfl,rfl,rfl⟩:=c6.o;rfl
      ·rw[if_neg hn1,zkK (aY.o (by rw[af.o];decide)) X hlt,af.o]
     rw[hU];exact⟨_,rfl,ownB.nil_ _ _,((((aA.o.setCell (p:=⟨bx+1,0,none⟩) (Nat.le_succ _) _).setCell (p:=⟨bx+1,1,none⟩) (Nat.le_succ _) _).setCell (p:=⟨bx+1,2,none⟩) (Nat.le_succ _) _).setCell (p:=⟨bx+1,3,none⟩) (Nat.le_succ _) _).setCell (p:=⟨bx+1,4,none⟩) (Nat.le_succ _) _⟩
  ·obtain rfl:k=X:=by omega
   have bw:¬(k:Int)<(k:Int):=(by omega);have aq:=yo (bE.o.blw ax.o (show bx+1<z by omega));have aA:=yo (bK.o.trans (ax.o.mono (show bx<=z by omega)));obtain⟨g0,g1,g2,g3,g4⟩:=ck.o.c5;obtain⟨z0,z1,z2,z3,z4⟩:=aq.o.c5;obtain⟨f0,f1,f2,f3,f4⟩:=aq.o.q5;have cA:¬G0=bx+1:=(by have:=bn.o;omega);have bZ:¬bx+1=G0:=(by have:=bn.o;omega);have ab:Hid ((Value.slice (some ⟨M,0,none⟩) g g).ownBlock≠some (bx+1)):=zbu bs.o (by omega);go_wp2_with fail;refine bodyPost_ret (v:=.tuple #[.agg #[.int .i64 (W:Int),.int .i64 (H:Int),.int .i64 (C:Int),.int .i64 (D:Int),.slice (some ⟨M,0,none⟩) g g],.int .i64 0]) ?_ rfl ?_
   ·unfold results
    go_simp
   ·have hU:zdM k W H C D u sp (List.replicate g 0)=(⟨W,H,C,D⟩,px,0):=by
     unfold zdM;rw[if_neg (fun e=>by have:=aO.o e;omega),aU.o]
    rw[hU];exact⟨_,rfl,(((((bs.o.far ab.o 0 _).far ab.o 1 _).far ab.o 2 _).far ab.o 3 _).far ab.o 4 _).mono (by omega),((((aA.o.setCell (p:=⟨bx+1,0,none⟩) (Nat.le_succ _) _).setCell (p:=⟨bx+1,1,none⟩) (Nat.le_succ _) _).setCell (p:=⟨bx+1,2,none⟩) (Nat.le_succ _) _).setCell (p:=⟨bx+1,3,none⟩) (Nat.le_succ _) _).setCell (p:=⟨bx+1,4,none⟩) (Nat.le_succ _) _⟩
end Go.Proofs.YtebbdifhiihfkaaGreatDoor

