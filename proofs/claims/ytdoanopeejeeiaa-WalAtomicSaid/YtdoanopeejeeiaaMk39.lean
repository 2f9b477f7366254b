/- XWlh -/
import Derived.Test.YtdoanopeejeeiaaMk37
import Derived.Test.YtdoanopeejeeiaaMk38
import Derived.Test.YtdoanopeejeeiaaMk26
namespace Go.Proofs.Ytdoanopeejeeiaa
set_option linter.all false
open Go.RowKit Go.Maps
/-- The puts of a set. -/
def putsV (at_:List Int) (cs:Bs):List (Int × Bs):=at_.mapIdx fun i k=>(k,fillB (cs.getD i 0))
theorem putsV_len (at_:List Int) (cs:Bs):(putsV at_ cs).length=at_.length:=by simp [putsV]
theorem putsV_get {at_:List Int} {cs:Bs} {i:Nat} {k:Int} (h:at_[i]?=some k):(putsV at_ cs)[i]?=some (k,fillB (cs.getD i 0)):=by
 unfold putsV
 rw [List.getElem?_mapIdx,h]
 rfl
theorem putsV_take {at_:List Int} {cs:Bs} {i:Nat} {k:Int} (h:at_[i]?=some k):(putsV at_ cs).take (i+1)=(putsV at_ cs).take i ++ [(k,fillB (cs.getD i 0))]:=by
 rw [List.take_add_one,putsV_get h]
 rfl
/-- The blocks of two rows. -/
def UB2 (v u:Value):Nat→Prop:=fun g=>v.ownBlock=some g∨u.ownBlock=some g
theorem own_frame {w w':World} {base size n:Nat} {e:TypeId} {v:Value} {l:List Value} {T2:Nat→Prop} (h:w.ownsRow base e size v n l) (F:Fr T2 w w') (hv:∀ g,v.ownBlock=some g→¬ T2 g):w'.ownsRow base e size v n l:=by
 have hlt:=World.ownsRow.lt h
 refine ⟨h.1,?_⟩
 rcases h.2 with hn | ⟨g,cap,cur,rfl,hb,hgg,rest⟩
 ·exact .inl hn
 ·exact .inr ⟨g,cap,cur,rfl,hb,(F.block g (hlt g rfl).2 (hv g rfl)).trans hgg,rest⟩
theorem own_ne {w:World} {b1 b2 s1 s2 n1 n2:Nat} {e1 e2:TypeId} {v1 v2:Value} {l1 l2:List Value} (h1:w.ownsRow b1 e1 s1 v1 n1 l1) (h2:w.ownsRow b2 e2 s2 v2 n2 l2) (he:e1 ≠ e2) (g:Nat) (hg:v1.ownBlock=some g):v2.ownBlock ≠ some g:=by
 intro hg2
 rcases h1.2 with ⟨rfl,-⟩ | ⟨g1,cap,cur,rfl,-,hh1,-⟩
 ·cases hg
 ·rcases h2.2 with ⟨rfl,-⟩ | ⟨g2,cap2,cur2,rfl,-,hh2,-⟩
  ·cases hg2
  ·injection hg with hg
   injection hg2 with hg2
   have q1:g1=g:=hg
   have q2:g2=g:=hg2
   subst q1 q2
   rw [hh1] at hh2
   injection hh2 with hh2
   injection hh2 with _ q _
   exact he q
theorem wpOp_appendW {w:World} {ops:Array Oper} {i:Nat} {o:Oper} {a:Act} {K:Act→World→Prop} {Q:Exit→Act→World→Prop} (hi:ops[i]?=some o) (hgd:o.guard=none) (s x:Operand)
  (ho:o.op=.call { callee:=.builtin .append,args:=#[s,x],argTypes:=#[39,39] })
  (base:Nat) (v:Value) (bs:List PT) (hs:a.eval s=v) (hown:ownW w base v bs) (B m c:Nat) (A:Option Addr) (news:List PT) (hx:a.eval x=.slice A m c) (hr:RdW w B A m news)
  (hb:bs.length+m≤1099511627776) (hbase:base≤w.heap.size)
  (h:∀ v' w',ownW w' base v' (bs ++ news)→w.grownBy w' v.ownBlock→Below base w w'→(v'.ownBlock=v.ownBlock∨v'.ownBlock=some w.heap.size)→K (a.put o.dst v') w') :
  wpOp Try.prog ops Q i K a w:=wpOp_plain hi hgd (by
 have h1:=step_appendW (E:=False) (Q:=Q) (ops:=ops) hgd s x ho base v bs hs hown B m c A news hx hr hb hbase (fun v' w' a b c d=>h v' w' a b c d)
 have hw:Region.wanted o (yielded ops a.tmps)=true:=by simp [Region.wanted,hgd]
 rwa [if_pos hw] at h1)
/-- A chain of a put: its bytes, the put, its row, the append. -/
def ChW (U:Nat→Prop) (z base:Nat) (va:Value) (la:List PT) (key:Int) (bs:Bs) (w:World) (f7 f8 f9 f10:Bool) (v7 v8 v9 v10:Value):Prop :=
 ∃ g h,(f7=true→v7=.slice (some ⟨g,0,none⟩) 256 256∧ownB w z (.slice (some ⟨g,0,none⟩) 256 256) bs)∧(f8=true→v8=.agg #[.int .i64 key,.slice (some ⟨g,0,none⟩) 256 256]) ∧
  (f9=true→v9=.slice (some ⟨h,0,none⟩) 1 1∧¬ U h∧h < w.heap.size∧RdW w (h+1) (some ⟨h,0,none⟩) 1 [(key,some ⟨g,0,none⟩,256,256)]) ∧
  (f10=false→ownW w base va la)∧(f10=true→ownW w base v10 (la ++ [(key,some ⟨g,0,none⟩,256,256)])∧(v10.ownBlock=va.ownBlock∨∃ k,v10.ownBlock=some k∧z≤k)) ∧
  (f8=true→f7=true)∧(f9=true→f8=true)∧(f10=true→f9=true)
theorem RdW.one_block {w w':World} {B g o n:Nat} {l:List PT} (h:RdW w B (some ⟨g,o,none⟩) n l) (hb:w'.heap[g]?=w.heap[g]?):RdW w' B (some ⟨g,o,none⟩) n l :=
 ⟨h.1,fun hn=>by
  obtain ⟨b,o2,e,hlt,hc⟩:=h.2 hn
  refine ⟨b,o2,e,hlt,fun j u hu=>?_⟩
  injection e with e
  injection e with e1 e2
  subst e1
  rw [World.cell?_of_block (w:=w) (w':=w') (a:=⟨g,o2+j,none⟩) hb]
  exact hc j u hu⟩
/-- What others do leaves a chain as it is. -/
theorem ChW.step {U:Nat→Prop} {z base:Nat} {va:Value} {la:List PT} {key:Int} {bs:Bs} {w w':World} {f7 f8 f9 f10:Bool} {v7 v8 v9 v10:Value} (H:ChW U z base va la key bs w f7 f8 f9 f10 v7 v8 v9 v10) (F:Fr U w w') (hU:∀ g,U g→g < z)
  (ho:∀ v l,ownW w base v l→(v.ownBlock=va.ownBlock∨∃ k,v.ownBlock=some k∧z≤k)→ownW w' base v l):ChW U z base va la key bs w' f7 f8 f9 f10 v7 v8 v9 v10:=by
 obtain ⟨g,h,a7,a8,a9,a10,b10,m8,m9,m10⟩:=H
 exact ⟨g,h,fun e=>⟨(a7 e).1,own_frame (a7 e).2 F (fun g hg h=>by have:=hU g h;have:=(World.ownsRow.lt (a7 e).2 g hg).1;omega)⟩,a8,fun e=>⟨(a9 e).1,(a9 e).2.1,Nat.lt_of_lt_of_le (a9 e).2.2.1 F.size,(a9 e).2.2.2.one_block (F.block _ (a9 e).2.2.1 (a9 e).2.1)⟩,
  fun e=>ho _ _ (a10 e) (.inl rfl),fun e=>⟨ho _ _ (b10 e).1 (b10 e).2,(b10 e).2⟩,m8,m9,m10⟩
theorem ChW.later {U:Nat→Prop} {z base:Nat} {va:Value} {la:List PT} {key:Int} {bs:Bs} {w w':World} {f7 f8 f9 f10:Bool} {v7 v8 v9 v10:Value} (H:ChW U z base va la key bs w f7 f8 f9 f10 v7 v8 v9 v10) (hb:Below w.heap.size w w') (hU:∀ g,U g→g < z):ChW U z base va la key bs w' f7 f8 f9 f10 v7 v8 v9 v10 :=
 H.step (Fr.of _ hb) hU (fun v l h _=>ownW.later h hb)
theorem ChW.grow {U:Nat→Prop} {z base:Nat} {va v:Value} {la:List PT} {key:Int} {bs:Bs} {w w':World} {f7 f8 f9 f10:Bool} {v7 v8 v9 v10:Value} (H:ChW U z base va la key bs w f7 f8 f9 f10 v7 v8 v9 v10) (hg:w.grownBy w' v.ownBlock) (hV:∀ g,v.ownBlock=some g→U g) (hU:∀ g,U g→g < z) (hne:∀ g,va.ownBlock=some g→v.ownBlock ≠ some g):ChW U z base va la key bs w' f7 f8 f9 f10 v7 v8 v9 v10 :=
 H.step (Fr.gro2 hg hV) hU (fun u l h hk=>ownW.kept h hg (by
  cases e:u.ownBlock with
  | none=>exact .inl rfl
  | some g =>
   refine .inr (fun e2=>?_)
   rcases hk with hk | ⟨k,hk,hz⟩
   ·exact hne g (hk ▸ e) e2.symm
   ·rw [e] at hk
    injection hk with hk
    have:=hU g (hV g e2.symm)
    omega))
theorem ChW.s7 {U:Nat→Prop} {z base:Nat} {va:Value} {la:List PT} {key:Int} {bs:Bs} {w w':World} {f8 f9 f10:Bool} {v7 v8 v9 v10:Value} (H:ChW U z base va la key bs w false f8 f9 f10 v7 v8 v9 v10) (hb:Below w.heap.size w w') (hU:∀ g,U g→g < z) {g:Nat} (hr:ownB w' z (.slice (some ⟨g,0,none⟩) 256 256) bs) :
  ChW U z base va la key bs w' true f8 f9 f10 (.slice (some ⟨g,0,none⟩) 256 256) v8 v9 v10:=by
 obtain ⟨g0,h,a7,a8,a9,a10,b10,m8,m9,m10⟩:=H.later hb hU
 have n8:f8=true→False:=fun e=>by have:=m8 e;cases this
 have n9:f9=true→False:=fun e=>n8 (m9 e)
 have n10:f10=true→False:=fun e=>n9 (m10 e)
 exact ⟨g,0,fun _=>⟨rfl,hr⟩,fun e=>(n8 e).elim,fun e=>(n9 e).elim,a10,fun e=>(n10 e).elim,fun _=>rfl,m9,m10⟩
theorem ChW.at7 {U:Nat→Prop} {z base:Nat} {va:Value} {la:List PT} {key:Int} {bs:Bs} {w:World} {f8 f9 f10:Bool} {v7 v8 v9 v10:Value} (H:ChW U z base va la key bs w true f8 f9 f10 v7 v8 v9 v10):∃ g,v7=.slice (some ⟨g,0,none⟩) 256 256∧(∀ f8',f8=false→ChW U z base va la key bs w true f8' f9 f10 (.slice (some ⟨g,0,none⟩) 256 256) (.agg #[.int .i64 key,.slice (some ⟨g,0,none⟩) 256 256]) v9 v10):=by
 obtain ⟨g,h,a7,a8,a9,a10,b10,m8,m9,m10⟩:=H
 refine ⟨g,(a7 rfl).1,fun f8' e8=>?_⟩
 subst e8
 have n9:f9=true→False:=fun e=>by have:=m9 e;cases this
 have n10:f10=true→False:=fun e=>n9 (m10 e)
 exact ⟨g,h,fun _=>⟨rfl,(a7 rfl).2⟩,fun _=>rfl,fun e=>(n9 e).elim,a10,fun e=>(n10 e).elim,fun _=>rfl,fun e=>(n9 e).elim,m10⟩
theorem ChW.at8 {U:Nat→Prop} {z base:Nat} {va:Value} {la:List PT} {key:Int} {bs:Bs} {w:World} {f7 f9 f10:Bool} {v7 v8 v9 v10:Value} (H:ChW U z base va la key bs w f7 true f9 f10 v7 v8 v9 v10) (hU:∀ g,U g→g < z) (hz:z≤w.heap.size) (hf:f9=false):∃ g,v8=.agg #[.int .i64 key,.slice (some ⟨g,0,none⟩) 256 256] ∧
  ChW U z base va la key bs (w.alloc (.cells #[.int .i64 key,.slice (some ⟨g,0,none⟩) 256 256] 56)) f7 true true f10 v7 (.agg #[.int .i64 key,.slice (some ⟨g,0,none⟩) 256 256]) (.slice (some ⟨w.heap.size,0,none⟩) 1 1) v10:=by
 subst hf
 have hb:∀ g,Below w.heap.size w (w.alloc (.cells #[.int .i64 key,.slice (some ⟨g,0,none⟩) 256 256] 56)):=fun g=>(Below.refl _ _).alloc (Nat.le_refl _) _
 have H0:=H
 obtain ⟨g,h,a7,a8,a9,a10,b10,m8,m9,m10⟩:=H0
 have n10:f10=true→False:=fun e=>by have:=m10 e;cases this
 refine ⟨g,a8 rfl,g,w.heap.size,fun e=>⟨(a7 e).1,ownB.later (a7 e).2 (hb g)⟩,fun _=>rfl,fun _=>⟨rfl,fun e=>by have:=hU _ e;omega,by rw [World.size_alloc];exact Nat.lt_succ_self _,rd_oneW w (key,some ⟨g,0,none⟩,256,256) _ _⟩,fun e=>ownW.later (a10 e) (hb g),fun e=>(n10 e).elim,m8,fun _=>rfl,fun _=>rfl⟩
theorem ChW.at9 {U:Nat→Prop} {z base:Nat} {va:Value} {la:List PT} {key:Int} {bs:Bs} {w:World} {f7 f8:Bool} {v7 v8 v9 v10:Value} (H:ChW U z base va la key bs w f7 f8 true false v7 v8 v9 v10) (hU:∀ g,U g→g < z):∃ g h,v9=.slice (some ⟨h,0,none⟩) 1 1∧ownW w base va la∧RdW w (h+1) (some ⟨h,0,none⟩) 1 [(key,some ⟨g,0,none⟩,256,256)] ∧
  ∀ w' v',ownW w' base v' (la ++ [(key,some ⟨g,0,none⟩,256,256)])→Fr U w w'→(v'.ownBlock=va.ownBlock∨v'.ownBlock=some w.heap.size)→z≤w.heap.size→ChW U z base va la key bs w' f7 f8 true true v7 v8 (.slice (some ⟨h,0,none⟩) 1 1) v':=by
 obtain ⟨g,h,a7,a8,a9,a10,b10,m8,m9,m10⟩:=H
 refine ⟨g,h,(a9 rfl).1,a10 rfl,(a9 rfl).2.2.2,fun w' v' ho F ha hz=>?_⟩
 exact ⟨g,h,fun e=>⟨(a7 e).1,own_frame (a7 e).2 F (fun g hg h=>by have:=hU g h;have:=(World.ownsRow.lt (a7 e).2 g hg).1;omega)⟩,a8,fun e=>⟨rfl,(a9 e).2.1,Nat.lt_of_lt_of_le (a9 e).2.2.1 F.size,(a9 e).2.2.2.one_block (F.block _ (a9 e).2.2.1 (a9 e).2.1)⟩,
  fun e=>(Bool.noConfusion e),fun _=>⟨ho,ha.imp id (fun e=>⟨_,e,hz⟩)⟩,m8,m9,fun _=>rfl⟩
theorem wpOp_appendF {w:World} {ops:Array Oper} {i:Nat} {o:Oper} {a:Act} {K:Act→World→Prop} {Q:Exit→Act→World→Prop} (hi:ops[i]?=some o) (hgd:o.guard=none) (s x:Operand)
  (ho:o.op=.call { callee:=.builtin .append,args:=#[s,x],argTypes:=#[40,40] })
  (base:Nat) (v:Value) (bs:List PT) (hs:a.eval s=v) (hown:ownF w base v bs) (B m c:Nat) (A:Option Addr) (news:List PT) (hx:a.eval x=.slice A m c) (hr:RdF w B A m news)
  (hb:bs.length+m≤1099511627776) (hbase:base≤w.heap.size)
  (h:∀ v' w',ownF w' base v' (bs ++ news)→w.grownBy w' v.ownBlock→Below base w w'→(v'.ownBlock=v.ownBlock∨v'.ownBlock=some w.heap.size)→K (a.put o.dst v') w') :
  wpOp Try.prog ops Q i K a w:=wpOp_plain hi hgd (by
 have h1:=step_appendF (E:=False) (Q:=Q) (ops:=ops) hgd s x ho base v bs hs hown B m c A news hx hr hb hbase (fun v' w' a b c d=>h v' w' a b c d)
 have hw:Region.wanted o (yielded ops a.tmps)=true:=by simp [Region.wanted,hgd]
 rwa [if_pos hw] at h1)
/-- A chain of a put: its bytes, the put, its row, the append. -/
def ChF (U:Nat→Prop) (z base:Nat) (va:Value) (la:List PT) (key:Int) (bs:Bs) (w:World) (f7 f8 f9 f10:Bool) (v7 v8 v9 v10:Value):Prop :=
 ∃ g h,(f7=true→v7=.slice (some ⟨g,0,none⟩) 256 256∧ownB w z (.slice (some ⟨g,0,none⟩) 256 256) bs)∧(f8=true→v8=.agg #[.int .i64 key,.slice (some ⟨g,0,none⟩) 256 256]) ∧
  (f9=true→v9=.slice (some ⟨h,0,none⟩) 1 1∧¬ U h∧h < w.heap.size∧RdF w (h+1) (some ⟨h,0,none⟩) 1 [(key,some ⟨g,0,none⟩,256,256)]) ∧
  (f10=false→ownF w base va la)∧(f10=true→ownF w base v10 (la ++ [(key,some ⟨g,0,none⟩,256,256)])∧(v10.ownBlock=va.ownBlock∨∃ k,v10.ownBlock=some k∧z≤k)) ∧
  (f8=true→f7=true)∧(f9=true→f8=true)∧(f10=true→f9=true)
theorem RdF.one_block {w w':World} {B g o n:Nat} {l:List PT} (h:RdF w B (some ⟨g,o,none⟩) n l) (hb:w'.heap[g]?=w.heap[g]?):RdF w' B (some ⟨g,o,none⟩) n l :=
 ⟨h.1,fun hn=>by
  obtain ⟨b,o2,e,hlt,hc⟩:=h.2 hn
  refine ⟨b,o2,e,hlt,fun j u hu=>?_⟩
  injection e with e
  injection e with e1 e2
  subst e1
  rw [World.cell?_of_block (w:=w) (w':=w') (a:=⟨g,o2+j,none⟩) hb]
  exact hc j u hu⟩
/-- What others do leaves a chain as it is. -/
theorem ChF.step {U:Nat→Prop} {z base:Nat} {va:Value} {la:List PT} {key:Int} {bs:Bs} {w w':World} {f7 f8 f9 f10:Bool} {v7 v8 v9 v10:Value} (H:ChF U z base va la key bs w f7 f8 f9 f10 v7 v8 v9 v10) (F:Fr U w w') (hU:∀ g,U g→g < z)
  (ho:∀ v l,ownF w base v l→(v.ownBlock=va.ownBlock∨∃ k,v.ownBlock=some k∧z≤k)→ownF w' base v l):ChF U z base va la key bs w' f7 f8 f9 f10 v7 v8 v9 v10:=by
 obtain ⟨g,h,a7,a8,a9,a10,b10,m8,m9,m10⟩:=H
 exact ⟨g,h,fun e=>⟨(a7 e).1,own_frame (a7 e).2 F (fun g hg h=>by have:=hU g h;have:=(World.ownsRow.lt (a7 e).2 g hg).1;omega)⟩,a8,fun e=>⟨(a9 e).1,(a9 e).2.1,Nat.lt_of_lt_of_le (a9 e).2.2.1 F.size,(a9 e).2.2.2.one_block (F.block _ (a9 e).2.2.1 (a9 e).2.1)⟩,
  fun e=>ho _ _ (a10 e) (.inl rfl),fun e=>⟨ho _ _ (b10 e).1 (b10 e).2,(b10 e).2⟩,m8,m9,m10⟩
theorem ChF.later {U:Nat→Prop} {z base:Nat} {va:Value} {la:List PT} {key:Int} {bs:Bs} {w w':World} {f7 f8 f9 f10:Bool} {v7 v8 v9 v10:Value} (H:ChF U z base va la key bs w f7 f8 f9 f10 v7 v8 v9 v10) (hb:Below w.heap.size w w') (hU:∀ g,U g→g < z):ChF U z base va la key bs w' f7 f8 f9 f10 v7 v8 v9 v10 :=
 H.step (Fr.of _ hb) hU (fun v l h _=>ownF.later h hb)
theorem ChF.grow {U:Nat→Prop} {z base:Nat} {va v:Value} {la:List PT} {key:Int} {bs:Bs} {w w':World} {f7 f8 f9 f10:Bool} {v7 v8 v9 v10:Value} (H:ChF U z base va la key bs w f7 f8 f9 f10 v7 v8 v9 v10) (hg:w.grownBy w' v.ownBlock) (hV:∀ g,v.ownBlock=some g→U g) (hU:∀ g,U g→g < z) (hne:∀ g,va.ownBlock=some g→v.ownBlock ≠ some g):ChF U z base va la key bs w' f7 f8 f9 f10 v7 v8 v9 v10 :=
 H.step (Fr.gro2 hg hV) hU (fun u l h hk=>ownF.kept h hg (by
  cases e:u.ownBlock with
  | none=>exact .inl rfl
  | some g =>
   refine .inr (fun e2=>?_)
   rcases hk with hk | ⟨k,hk,hz⟩
   ·exact hne g (hk ▸ e) e2.symm
   ·rw [e] at hk
    injection hk with hk
    have:=hU g (hV g e2.symm)
    omega))
theorem ChF.s7 {U:Nat→Prop} {z base:Nat} {va:Value} {la:List PT} {key:Int} {bs:Bs} {w w':World} {f8 f9 f10:Bool} {v7 v8 v9 v10:Value} (H:ChF U z base va la key bs w false f8 f9 f10 v7 v8 v9 v10) (hb:Below w.heap.size w w') (hU:∀ g,U g→g < z) {g:Nat} (hr:ownB w' z (.slice (some ⟨g,0,none⟩) 256 256) bs) :
  ChF U z base va la key bs w' true f8 f9 f10 (.slice (some ⟨g,0,none⟩) 256 256) v8 v9 v10:=by
 obtain ⟨g0,h,a7,a8,a9,a10,b10,m8,m9,m10⟩:=H.later hb hU
 have n8:f8=true→False:=fun e=>by have:=m8 e;cases this
 have n9:f9=true→False:=fun e=>n8 (m9 e)
 have n10:f10=true→False:=fun e=>n9 (m10 e)
 exact ⟨g,0,fun _=>⟨rfl,hr⟩,fun e=>(n8 e).elim,fun e=>(n9 e).elim,a10,fun e=>(n10 e).elim,fun _=>rfl,m9,m10⟩
theorem ChF.at7 {U:Nat→Prop} {z base:Nat} {va:Value} {la:List PT} {key:Int} {bs:Bs} {w:World} {f8 f9 f10:Bool} {v7 v8 v9 v10:Value} (H:ChF U z base va la key bs w true f8 f9 f10 v7 v8 v9 v10):∃ g,v7=.slice (some ⟨g,0,none⟩) 256 256∧(∀ f8',f8=false→ChF U z base va la key bs w true f8' f9 f10 (.slice (some ⟨g,0,none⟩) 256 256) (.agg #[.int .i64 key,.slice (some ⟨g,0,none⟩) 256 256]) v9 v10):=by
 obtain ⟨g,h,a7,a8,a9,a10,b10,m8,m9,m10⟩:=H
 refine ⟨g,(a7 rfl).1,fun f8' e8=>?_⟩
 subst e8
 have n9:f9=true→False:=fun e=>by have:=m9 e;cases this
 have n10:f10=true→False:=fun e=>n9 (m10 e)
 exact ⟨g,h,fun _=>⟨rfl,(a7 rfl).2⟩,fun _=>rfl,fun e=>(n9 e).elim,a10,fun e=>(n10 e).elim,fun _=>rfl,fun e=>(n9 e).elim,m10⟩
theorem ChF.at8 {U:Nat→Prop} {z base:Nat} {va:Value} {la:List PT} {key:Int} {bs:Bs} {w:World} {f7 f9 f10:Bool} {v7 v8 v9 v10:Value} (H:ChF U z base va la key bs w f7 true f9 f10 v7 v8 v9 v10) (hU:∀ g,U g→g < z) (hz:z≤w.heap.size) (hf:f9=false):∃ g,v8=.agg #[.int .i64 key,.slice (some ⟨g,0,none⟩) 256 256] ∧
  ChF U z base va la key bs (w.alloc (.cells #[.int .i64 key,.slice (some ⟨g,0,none⟩) 256 256] 74)) f7 true true f10 v7 (.agg #[.int .i64 key,.slice (some ⟨g,0,none⟩) 256 256]) (.slice (some ⟨w.heap.size,0,none⟩) 1 1) v10:=by
 subst hf
 have hb:∀ g,Below w.heap.size w (w.alloc (.cells #[.int .i64 key,.slice (some ⟨g,0,none⟩) 256 256] 74)):=fun g=>(Below.refl _ _).alloc (Nat.le_refl _) _
 have H0:=H
 obtain ⟨g,h,a7,a8,a9,a10,b10,m8,m9,m10⟩:=H0
 have n10:f10=true→False:=fun e=>by have:=m10 e;cases this
 refine ⟨g,a8 rfl,g,w.heap.size,fun e=>⟨(a7 e).1,ownB.later (a7 e).2 (hb g)⟩,fun _=>rfl,fun _=>⟨rfl,fun e=>by have:=hU _ e;omega,by rw [World.size_alloc];exact Nat.lt_succ_self _,rd_oneF w (key,some ⟨g,0,none⟩,256,256) _ _⟩,fun e=>ownF.later (a10 e) (hb g),fun e=>(n10 e).elim,m8,fun _=>rfl,fun _=>rfl⟩
theorem ChF.at9 {U:Nat→Prop} {z base:Nat} {va:Value} {la:List PT} {key:Int} {bs:Bs} {w:World} {f7 f8:Bool} {v7 v8 v9 v10:Value} (H:ChF U z base va la key bs w f7 f8 true false v7 v8 v9 v10) (hU:∀ g,U g→g < z):∃ g h,v9=.slice (some ⟨h,0,none⟩) 1 1∧ownF w base va la∧RdF w (h+1) (some ⟨h,0,none⟩) 1 [(key,some ⟨g,0,none⟩,256,256)] ∧
  ∀ w' v',ownF w' base v' (la ++ [(key,some ⟨g,0,none⟩,256,256)])→Fr U w w'→(v'.ownBlock=va.ownBlock∨v'.ownBlock=some w.heap.size)→z≤w.heap.size→ChF U z base va la key bs w' f7 f8 true true v7 v8 (.slice (some ⟨h,0,none⟩) 1 1) v':=by
 obtain ⟨g,h,a7,a8,a9,a10,b10,m8,m9,m10⟩:=H
 refine ⟨g,h,(a9 rfl).1,a10 rfl,(a9 rfl).2.2.2,fun w' v' ho F ha hz=>?_⟩
 exact ⟨g,h,fun e=>⟨(a7 e).1,own_frame (a7 e).2 F (fun g hg h=>by have:=hU g h;have:=(World.ownsRow.lt (a7 e).2 g hg).1;omega)⟩,a8,fun e=>⟨rfl,(a9 e).2.1,Nat.lt_of_lt_of_le (a9 e).2.2.1 F.size,(a9 e).2.2.2.one_block (F.block _ (a9 e).2.2.1 (a9 e).2.1)⟩,
  fun e=>(Bool.noConfusion e),fun _=>⟨ho,ha.imp id (fun e=>⟨_,e,hz⟩)⟩,m8,m9,fun _=>rfl⟩
/-- What is known of the values of the region that lays two puts. -/
def puP (j:Nat):Prop:=j≤6∨11≤j∧j≤17
def puInv (mk:(Nat→Value)→Act) (val:Nat→Value) (U:Nat→Prop) (z base:Nat) (va vb:Value) (la lb:List PT) (key:Int) (bs:Bs) (w0:World) (f:Nat→Bool) (a:Act) (w:World):Prop :=
 ∃ (v:Nat→Value),a=mk v∧(∀ j,puP j→f j=true→v j=val j)∧ChW U z base va la key bs w (f 7) (f 8) (f 9) (f 10) (v 7) (v 8) (v 9) (v 10)∧ChF U z base vb lb key bs w (f 18) (f 19) (f 20) (f 21) (v 18) (v 19) (v 20) (v 21) ∧
  (f 22=false→v 22=va)∧(f 22=true→v 22=v 10∧f 10=true)∧(f 23=false→v 23=vb)∧(f 23=true→v 23=v 21∧f 21=true)∧(f 10=true→f 0=true)∧(f 21=true→f 11=true)∧Fr U w0 w
theorem okU3 {f:Nat→Bool} {P:Nat→Prop} {v val:Nat→Value} (h:∀ j,P j→f j=true→v j=val j) (i:Nat):∀ j,P j→(fun j=>if j=i then true else f j) j=true→(fun j=>if j=i then val i else v j) j=val j:=by
 intro j hp hj
 by_cases e:j=i
 ·subst e;simp
 ·simp only [if_neg e] at hj ⊢
  exact h j hp hj
theorem okD3 {f:Nat→Bool} {P:Nat→Prop} {v val:Nat→Value} (h:∀ j,P j→f j=true→v j=val j) (d:Nat):∀ j,P j→f j=true→(fun j=>if j=d then val d else v j) j=val j:=by
 intro j hp hj
 by_cases e:j=d
 ·subst e;simp
 ·simp only [if_neg e]
  exact h j hp hj
theorem okX3 {P:Nat→Prop} {f:Nat→Bool} {v val:Nat→Value} (h:∀ j,P j→f j=true→v j=val j) {i:Nat} (hi:¬ P i) (u:Value):∀ j,P j→f j=true→(fun j=>if j=i then u else v j) j=val j:=by
 intro j hp hj
 by_cases e:j=i
 ·subst e;exact absurd hp hi
 ·simp only [if_neg e]
  exact h j hp hj
theorem okS3 {f:Nat→Bool} {P:Nat→Prop} {v val:Nat→Value} (h:∀ j,P j→f j=true→v j=val j) (i:Nat) (hi:¬ P i) (u:Value):∀ j,P j→(fun j=>if j=i then true else f j) j=true→(fun j=>if j=i then u else v j) j=val j:=by
 intro j hp hj
 by_cases e:j=i
 ·subst e;exact absurd hp hi
 ·simp only [if_neg e] at hj ⊢
  exact h j hp hj
/-- Blocks of a disk, and of two rows. -/
def T7 (T:Nat→Prop) (v u:Value):Nat→Prop:=fun g=>T g∨v.ownBlock=some g∨u.ownBlock=some g
set_option maxRecDepth 100000 in
set_option maxHeartbeats 25600000 in
theorem puts_any (T:Nat→Prop) (A1 A2:Option Addr) (n1 n2 c1 c2:Nat) (ats:List Int) (cs:Bs) (w:World) (h1:RdI w w.heap.size A1 n1 ats) (h2:RdB w w.heap.size A2 n2 cs) (hn:n1≤1000) (hT:∀ g,w.heap.size≤g→¬ T g) :
  Calls Try.prog 13 #[.agg #[.slice A1 n1 c1,.slice A2 n2 c2]] w fun e w'=>∃ A c v,e=.returned (.tuple #[.slice A n1 c,v])∧PutsAt w' T A n1 (putsV ats cs)∧n1≤c∧Below w.heap.size w w':=by
 obtain ⟨w1,hw1⟩:∃ w1,w.alloc (.cells #[.slice A1 n1 c1,.slice A2 n2 c2] 38)=w1:=⟨_,rfl⟩
 obtain ⟨sb,hsb⟩:∃ b,w.heap.size=b:=⟨_,rfl⟩
 have HA:Hid (Arr w1 sb [.slice A1 n1 c1,.slice A2 n2 c2]):=(show Arr _ _ _ by rw [← hw1,← hsb];exact Arr.new w [.slice A1 n1 c1,.slice A2 n2 c2] _)
 have HB1:Hid (Below sb w w1):=(show Below _ _ _ by rw [← hw1,← hsb];exact (Below.refl w.heap.size w).alloc (Nat.le_refl _) _)
 have hz1:w1.heap.size=sb+1:=by rw [← hw1,World.size_alloc,hsb]
 have HR1:Hid (RdI w1 sb A1 n1 ats):=(show RdI _ _ _ _ _ by rw [hsb] at h1;exact Rd.below h1 HB1.out)
 have HR2:Hid (RdB w1 sb A2 n2 cs):=(show RdB _ _ _ _ _ by rw [hsb] at h2;exact Rd.below h2 HB1.out)
 have hl1:=h1.len
 have hl2:=h2.len
 rw [hsb] at hT
 have HT:=Lib.hid hT
 clear h1 h2 hT
 go_enter Try.func13,Try.ntmps13
 (try simp only [hw1,hsb])
 go_wp2_with fail
 go_loopw [4,5,6] (fun v4 v5 vi wr=>∃ (k:Nat) (la lb:List PT) (A4 A5:Option Addr) (c4 c5:Nat),k≤n1∧vi=.int .i64 (k:Int)∧v4=.slice A4 k c4∧v5=.slice A5 k c5∧Hid (ownW wr (sb+1) (.slice A4 k c4) la)∧Hid (ownF wr (sb+1) (.slice A5 k c5) lb)∧Hid (PutsL wr (T7 T (.slice A4 k c4) (.slice A5 k c5)) la ((putsV ats cs).take k)) ∧
  Hid (Below (sb+1) w1 wr)) (fun _ _ vi _=>n1 - (intOf vi).toNat)
 case atStart=>exact ⟨0,[],[],none,none,0,0,Nat.zero_le _,rfl,rfl,rfl,ownW.nil_ _ _,ownF.nil_ _ _,PutsL.nil _ _,Below.refl _ _⟩
 case round =>
  obtain ⟨k,la,lb,A4,A5,c4,c5,hk,rfl,rfl,rfl,HO4,HO5,HPL,HBW⟩:=hrel
  have HAR:Hid (Arr wr sb [.slice A1 n1 c1,.slice A2 n2 c2]):=(show Arr _ _ _ from HA.out.fr (T:=fun g=>sb+1≤g) ((Fr.of _ (show Below w1.heap.size w1 wr by rw [hz1];exact HBW.out))) (by omega))
  have ka:=HAR.out.cell (k:=0) rfl
  have kb:=HAR.out.cell (k:=1) rfl
  have hsz:sb+1≤wr.heap.size:=by have:=HBW.out.size;omega
  by_cases hlt:k < n1
  ·obtain ⟨ba,oa,key,rfl,hba,HX,k1⟩:=RdI.one (RdI.blw HR1.out (HBW.out.mono (Nat.le_succ sb))) hlt
   have HRW:=Lib.hid (RdB.blw HR2.out (HBW.out.mono (Nat.le_succ sb)))
   obtain ⟨cc,hcc⟩:∃ cc,cs.getD k 0=cc:=⟨_,rfl⟩
   have HCC:=Lib.hid hcc
   clear hcc
   have HLA:Hid (la.length=k):=(show _=_ by obtain ⟨_,_,e,-⟩:=HO4.out.form;injection e with _ e _;exact e.symm)
   have HLB:Hid (lb.length=k):=(show _=_ by obtain ⟨_,_,e,-⟩:=HO5.out.form;injection e with _ e _;exact e.symm)
   have HLNW:Hid (la.length+1≤1099511627776):=(show _≤_ by rw [HLA.out];omega)
   have HLNF:Hid (lb.length+1≤1099511627776):=(show _≤_ by rw [HLB.out];omega)
   have HDJ:Hid (∀ g,(Value.slice A4 k c4).ownBlock=some g→(Value.slice A5 k c5).ownBlock ≠ some g):=(show ∀ g,_ from own_ne HO4.out HO5.out (by decide))
   have HUZ:Hid (∀ g,UB2 (.slice A4 k c4) (.slice A5 k c5) g→g < wr.heap.size):=(show ∀ g,_ from fun g e=>e.elim (fun e=>(World.ownsRow.lt HO4.out g e).2) (fun e=>(World.ownsRow.lt HO5.out g e).2))
   have HNU:Hid (∀ g,g < sb+1→¬ UB2 (.slice A4 k c4) (.slice A5 k c5) g):=(show ∀ g,_ from fun g hg e=>e.elim (fun e=>by have:=(World.ownsRow.lt HO4.out g e).1;omega) (fun e=>by have:=(World.ownsRow.lt HO5.out g e).1;omega))
   by_cases hk2:k < n2
   ·obtain ⟨b2,o2,rfl,hb2,hc2⟩:=HRW.out.2 (by omega)
    have hk3:k < cs.length:=by omega
    have k2:wr.cell? ⟨b2,o2+k,none⟩=some (.int .u8 (cc.toNat:Int)):=hc2 k _ (by
     have e:cs[k]=cc:=by rw [← HCC.out];simp [List.getD,hk3]
     have e2:(cb cs)[k]?=some (.int .u8 ((cs[k]).toNat:Int)):=by simp [cb,hk3]
     rw [e2,e])
    clear hc2
    go_upto_region 9 with fail
    obtain ⟨val,hval⟩:∃ val:Nat→Value,(fun i=>match i with | 0=>.slice A4 k c4 | 1=>.pointer (some ⟨sb,0,none⟩) | 2=>.slice (some ⟨ba,oa,none⟩) n1 c1 | 3=>.int .i64 (k:Int) | 4=>.pointer (some ⟨ba,oa+k,none⟩) | 5=>.int .i64 key | 6=>.int .u8 (cc.toNat:Int) | 11=>.slice A5 k c5 | 12=>.pointer (some ⟨sb,0,none⟩) | 13=>.slice (some ⟨ba,oa,none⟩) n1 c1 | 14=>.int .i64 (k:Int) | 15=>.pointer (some ⟨ba,oa+k,none⟩) | 16=>.int .i64 key | 17=>.int .u8 (cc.toNat:Int) | _=>undef)=val:=⟨_,rfl⟩
    have hv:∀ i,val i=(fun i=>match i with | 0=>.slice A4 k c4 | 1=>.pointer (some ⟨sb,0,none⟩) | 2=>.slice (some ⟨ba,oa,none⟩) n1 c1 | 3=>.int .i64 (k:Int) | 4=>.pointer (some ⟨ba,oa+k,none⟩) | 5=>.int .i64 key | 6=>.int .u8 (cc.toNat:Int) | 11=>.slice A5 k c5 | 12=>.pointer (some ⟨sb,0,none⟩) | 13=>.slice (some ⟨ba,oa,none⟩) n1 c1 | 14=>.int .i64 (k:Int) | 15=>.pointer (some ⟨ba,oa+k,none⟩) | 16=>.int .i64 key | 17=>.int .u8 (cc.toNat:Int) | _=>undef) i:=fun i=>by rw [hval]
    clear hval
    refine wp_region_inv2 (by kernel_rfl) (by kernel_rfl) (puInv (fun v=>⟨#[.agg #[.slice (some ⟨ba,oa,none⟩) n1 c1,.slice (some ⟨b2,o2,none⟩) n2 c2],.pointer (some ⟨sb,0,none⟩),.slice none 0 0,.slice none 0 0,v 22,v 23,.int .i64 (k:Int),.int .u8 (cc.toNat:Int),.int .i64 (k:Int),.pointer (some ⟨sb,0,none⟩),.slice (some ⟨ba,oa,none⟩) n1 c1,.int .i64 (n1:Int),.bool true,u13,u14,.int .i64 (k:Int),.pointer (some ⟨sb,1,none⟩),.slice (some ⟨b2,o2,none⟩) n2 c2,.int .i64 (n2:Int),.bool true,.pointer (some ⟨sb,1,none⟩),.slice (some ⟨b2,o2,none⟩) n2 c2,.int .i64 (k:Int),.pointer (some ⟨b2,o2+k,none⟩),.int .u8 (cc.toNat:Int),v 0,v 1,v 2,v 3,v 4,v 5,v 6,v 7,v 8,v 9,v 10,v 11,v 12,v 13,v 14,v 15,v 16,v 17,v 18,v 19,v 20,v 21,undef,undef],[]⟩) val (UB2 (.slice A4 k c4) (.slice A5 k c5)) wr.heap.size (sb+1) (.slice A4 k c4) (.slice A5 k c5) la lb key (fillB cc) wr) ?_ ?_ ?_
    ·exact ⟨(fun i=>match i with | 22=>.slice A4 k c4 | 23=>.slice A5 k c5 | 0=>u25 | 1=>u26 | 2=>u27 | 3=>u28 | 4=>u29 | 5=>u30 | 6=>u31 | 7=>u32 | 8=>u33 | 9=>u34 | 10=>u35 | 11=>u36 | 12=>u37 | 13=>u38 | 14=>u39 | 15=>u40 | 16=>u41 | 17=>u42 | 18=>u43 | 19=>u44 | 20=>u45 | 21=>u46 | _=>undef),rfl,(fun j _ h=>by cases h),⟨0,0,(fun h=>by cases h),(fun h=>by cases h),(fun h=>by cases h),(fun _=>HO4.out),(fun h=>by cases h),(fun h=>by cases h),(fun h=>by cases h),(fun h=>by cases h)⟩,⟨0,0,(fun h=>by cases h),(fun h=>by cases h),(fun h=>by cases h),(fun _=>HO5.out),(fun h=>by cases h),(fun h=>by cases h),(fun h=>by cases h),(fun h=>by cases h)⟩,(fun _=>rfl),(fun h=>by cases h),(fun _=>rfl),(fun h=>by cases h),(fun h=>by cases h),(fun h=>by cases h),(Fr.refl _ _).drew⟩
    ·intro f a w i hi0 hf he hI
     have hi:i < 24:=hi0
     clear hi0
     obtain ⟨v,rfl,hV,hA,hB,e22,g22,e23,g23,d10,d21,hF⟩:=hI
     have hz:wr.heap.size≤w.heap.size:=hF.size
     replace hV:=Lib.hid hV
     replace hA:=Lib.hid hA
     replace hB:=Lib.hid hB
     replace e22:=Lib.hid e22
     replace g22:=Lib.hid g22
     replace e23:=Lib.hid e23
     replace g23:=Lib.hid g23
     replace d10:=Lib.hid d10
     replace d21:=Lib.hid d21
     replace hF:=Lib.hid hF
     have hi':i=0∨i=1∨i=2∨i=3∨i=4∨i=5∨i=6∨i=7∨i=8∨i=9∨i=10∨i=11∨i=12∨i=13∨i=14∨i=15∨i=16∨i=17∨i=18∨i=19∨i=20∨i=21∨i=22∨i=23:=by omega
     clear hi
     rcases hi' with rfl | rfl | rfl | rfl | rfl | rfl | rfl | rfl | rfl | rfl | rfl | rfl | rfl | rfl | rfl | rfl | rfl | rfl | rfl | rfl | rfl | rfl | rfl | rfl
     ·have rr:v 22=.slice A4 k c4:=e22.out (by cases hh:f 22 with | false=>rfl | true=>exact Bool.noConfusion (show true=false from (d10.out (g22.out hh).2).symm.trans hf))
      clear he
      (try dsimp only)
      rw [rr]
      refine wpOp_plainK rfl rfl (fun K HK=>?_)
      (try dsimp only)
      go_simp
      refine HK.out _ _ ⟨(fun j=>if j=0 then val 0 else (fun j=>if j=22 then .slice A4 k c4 else v j) j),?_,okU3 (okX3 (hV.out) (by unfold puP;decide) _) 0,hA.out,hB.out,fun _=>rfl,fun e=>by have:=g22.out e;exact ⟨rr.symm.trans this.1,this.2⟩,e23.out,g23.out,fun _=>rfl,d21.out,hF.out⟩
      simp only [hv]
      rfl
     ·clear he
      (try dsimp only)
      refine wpOp_plainK rfl rfl (fun K HK=>?_)
      (try dsimp only)
      go_simp
      refine HK.out _ _ ⟨(fun j=>if j=1 then val 1 else v j),?_,okU3 (hV.out) 1,hA.out,hB.out,e22.out,g22.out,e23.out,g23.out,d10.out,d21.out,hF.out⟩
      simp only [hv]
      rfl
     ·have r1:v 1=.pointer (some ⟨sb,0,none⟩):=(hV.out 1 (by unfold puP;decide) (he 1 (by kernel_rfl))).trans (hv 1)
      have q0:=(Arr.fr HAR.out hF.out (HNU.out _ (Nat.lt_succ_self sb))).cell (k:=0) rfl
      clear he
      (try dsimp only)
      rw [r1]
      clear r1
      refine wpOp_plainK rfl rfl (fun K HK=>?_)
      (try dsimp only)
      go_simp
      refine HK.out _ _ ⟨(fun j=>if j=2 then val 2 else (fun j=>if j=1 then val 1 else v j) j),?_,okU3 (okD3 (hV.out) 1) 2,hA.out,hB.out,e22.out,g22.out,e23.out,g23.out,d10.out,d21.out,hF.out⟩
      simp only [hv]
      rfl
     ·clear he
      (try dsimp only)
      refine wpOp_plainK rfl rfl (fun K HK=>?_)
      (try dsimp only)
      go_simp
      refine HK.out _ _ ⟨(fun j=>if j=3 then val 3 else v j),?_,okU3 (hV.out) 3,hA.out,hB.out,e22.out,g22.out,e23.out,g23.out,d10.out,d21.out,hF.out⟩
      simp only [hv]
      rfl
     ·have r2:v 2=.slice (some ⟨ba,oa,none⟩) n1 c1:=(hV.out 2 (by unfold puP;decide) (he 2 (by kernel_rfl))).trans (hv 2)
      have r3:v 3=.int .i64 (k:Int):=(hV.out 3 (by unfold puP;decide) (he 3 (by kernel_rfl))).trans (hv 3)
      clear he
      (try dsimp only)
      rw [r2,r3]
      clear r2 r3
      refine wpOp_plainK rfl rfl (fun K HK=>?_)
      (try dsimp only)
      go_simp
      refine HK.out _ _ ⟨(fun j=>if j=4 then val 4 else (fun j=>if j=3 then val 3 else (fun j=>if j=2 then val 2 else v j) j) j),?_,okU3 (okD3 (okD3 (hV.out) 2) 3) 4,hA.out,hB.out,e22.out,g22.out,e23.out,g23.out,d10.out,d21.out,hF.out⟩
      simp only [hv]
      rfl
     ·have r4:v 4=.pointer (some ⟨ba,oa+k,none⟩):=(hV.out 4 (by unfold puP;decide) (he 4 (by kernel_rfl))).trans (hv 4)
      have q1:=(World.cell?_of_block (w:=wr) (w':=w) (a:=⟨ba,oa+k,none⟩) (hF.out.block ba (Nat.lt_of_lt_of_le (Nat.lt_succ_of_lt hba) hsz) (HNU.out ba (Nat.lt_succ_of_lt hba)))).trans k1
      clear he
      (try dsimp only)
      rw [r4]
      clear r4
      refine wpOp_plainK rfl rfl (fun K HK=>?_)
      (try dsimp only)
      go_simp
      refine HK.out _ _ ⟨(fun j=>if j=5 then val 5 else (fun j=>if j=4 then val 4 else v j) j),?_,okU3 (okD3 (hV.out) 4) 5,hA.out,hB.out,e22.out,g22.out,e23.out,g23.out,d10.out,d21.out,hF.out⟩
      simp only [hv]
      rfl
     ·clear he
      (try dsimp only)
      refine wpOp_plainK rfl rfl (fun K HK=>?_)
      (try dsimp only)
      go_simp
      refine HK.out _ _ ⟨(fun j=>if j=6 then val 6 else v j),?_,okU3 (hV.out) 6,hA.out,hB.out,e22.out,g22.out,e23.out,g23.out,d10.out,d21.out,hF.out⟩
      simp only [hv]
      rfl
     ·have r6:v 6=.int .u8 (cc.toNat:Int):=(hV.out 6 (by unfold puP;decide) (he 6 (by kernel_rfl))).trans (hv 6)
      have hff:f 7=false:=hf
      have hcall:=filled_any cc w
      clear he
      (try dsimp only)
      rw [r6]
      clear r6
      refine wpOp_plainK rfl rfl (fun K HK=>?_)
      (try dsimp only)
      go_simp
      go_at_call 25
      (with_reducible refine hcall.mono ?_)
      rintro e w' ⟨g,rfl,ho,hb⟩
      go_simp
      have hro:ownB w' wr.heap.size (.slice (some ⟨g,0,none⟩) 256 256) (fillB cc):=ownB.mono ho hz
      have hc:=hA.out
      rw [hff] at hc
      refine HK.out _ _ ⟨(fun j=>if j=7 then .slice (some ⟨g,0,none⟩) 256 256 else (fun j=>if j=6 then val 6 else v j) j),?_,okS3 (okD3 (hV.out) 6) 7 (by unfold puP;decide) _,hc.s7 hb HUZ.out hro,hB.out.later hb HUZ.out,e22.out,g22.out,e23.out,g23.out,d10.out,d21.out,hF.out.trans (Fr.of _ hb)⟩
      simp only [hv]
      rfl
     ·have r5:v 5=.int .i64 key:=(hV.out 5 (by unfold puP;decide) (he 5 (by kernel_rfl))).trans (hv 5)
      have hff:f 8=false:=hf
      have hc:=hA.out
      rw [he 7 (by kernel_rfl)] at hc
      obtain ⟨g,rr,hk⟩:=hc.at7
      have hk:=hk true hff
      have hf7:=he 7 (by kernel_rfl)
      clear he hc
      (try dsimp only)
      rw [r5,rr]
      refine wpOp_plainK rfl rfl (fun K HK=>?_)
      (try dsimp only)
      go_simp
      refine HK.out _ _ ⟨(fun j=>if j=8 then .agg #[.int .i64 key,.slice (some ⟨g,0,none⟩) 256 256] else if j=7 then .slice (some ⟨g,0,none⟩) 256 256 else (fun j=>if j=5 then val 5 else v j) j),?_,okS3 (okX3 (okD3 (hV.out) 5) (by unfold puP;decide) _) 8 (by unfold puP;decide) _,(by show ChW _ _ _ _ _ _ _ _ (f 7) true _ _ _ _ _ _;rw [hf7];exact hk),hB.out,e22.out,g22.out,e23.out,g23.out,d10.out,d21.out,hF.out⟩
      simp only [hv]
      rfl
     ·have hff:f 9=false:=hf
      have hc:=hA.out
      rw [he 8 (by kernel_rfl)] at hc
      obtain ⟨g,rr,hk⟩:=hc.at8 HUZ.out hz hff
      have hf8:=he 8 (by kernel_rfl)
      clear he hc
      (try dsimp only)
      rw [rr]
      refine wpOp_plainK rfl rfl (fun K HK=>?_)
      (try dsimp only)
      go_simp
      have hb:Below w.heap.size w (w.alloc (.cells #[.int .i64 key,.slice (some ⟨g,0,none⟩) 256 256] 56)):=(Below.refl _ _).alloc (Nat.le_refl _) _
      refine HK.out _ _ ⟨(fun j=>if j=9 then .slice (some ⟨w.heap.size,0,none⟩) 1 1 else if j=8 then .agg #[.int .i64 key,.slice (some ⟨g,0,none⟩) 256 256] else v j),?_,okS3 (okX3 (hV.out) (by unfold puP;decide) _) 9 (by unfold puP;decide) _,(by show ChW _ _ _ _ _ _ _ _ _ (f 8) true _ _ _ _ _;rw [hf8];exact hk),hB.out.later hb HUZ.out,e22.out,g22.out,e23.out,g23.out,d10.out,d21.out,hF.out.trans (Fr.of _ hb)⟩
      simp only [hv]
      rfl
     ·have r0:v 0=.slice A4 k c4:=(hV.out 0 (by unfold puP;decide) (he 0 (by kernel_rfl))).trans (hv 0)
      have hff:f 10=false:=hf
      have hc:=hA.out
      rw [he 9 (by kernel_rfl),hff] at hc
      obtain ⟨g,hh,rr,hown,hrd,hk⟩:=hc.at9 HUZ.out
      have hf9:=he 9 (by kernel_rfl)
      have hf0:=he 0 (by kernel_rfl)
      clear he hc
      (try dsimp only)
      rw [r0,rr]
      refine wpOp_appendW rfl rfl (.tmp 25) (.tmp 34) rfl (sb+1) (.slice A4 k c4) _ rfl hown _ 1 1 _ _ rfl hrd (HLNW.out) (Nat.le_trans hsz hz) (fun v' w' ho hg hb ha=>?_)
      have hVV:∀ g,(Value.slice A4 k c4).ownBlock=some g→UB2 (.slice A4 k c4) (.slice A5 k c5) g:=fun g e=>Or.inl e
      have hFF:Fr (UB2 (.slice A4 k c4) (.slice A5 k c5)) w w':=Fr.gro2 hg hVV
      refine ⟨(fun j=>if j=10 then v' else if j=9 then .slice (some ⟨hh,0,none⟩) 1 1 else (fun j=>if j=0 then val 0 else v j) j),?_,okS3 (okX3 (okD3 (hV.out) 0) (by unfold puP;decide) _) 10 (by unfold puP;decide) _,(by show ChW _ _ _ _ _ _ _ _ _ _ (f 9) true _ _ _ _;rw [hf9];exact hk _ _ ho hFF ha hz),hB.out.grow hg hVV HUZ.out (fun g e1 e2=>HDJ.out g e2 e1),e22.out,fun e=>Bool.noConfusion (show true=false from (g22.out e).2.symm.trans hff),e23.out,g23.out,fun _=>hf0,d21.out,hF.out.trans hFF⟩
      simp only [hv]
      rfl
     ·have rr:v 23=.slice A5 k c5:=e23.out (by cases hh:f 23 with | false=>rfl | true=>exact Bool.noConfusion (show true=false from (d21.out (g23.out hh).2).symm.trans hf))
      clear he
      (try dsimp only)
      rw [rr]
      refine wpOp_plainK rfl rfl (fun K HK=>?_)
      (try dsimp only)
      go_simp
      refine HK.out _ _ ⟨(fun j=>if j=11 then val 11 else (fun j=>if j=23 then .slice A5 k c5 else v j) j),?_,okU3 (okX3 (hV.out) (by unfold puP;decide) _) 11,hA.out,hB.out,e22.out,g22.out,fun _=>rfl,fun e=>by have:=g23.out e;exact ⟨rr.symm.trans this.1,this.2⟩,d10.out,fun _=>rfl,hF.out⟩
      simp only [hv]
      rfl
     ·clear he
      (try dsimp only)
      refine wpOp_plainK rfl rfl (fun K HK=>?_)
      (try dsimp only)
      go_simp
      refine HK.out _ _ ⟨(fun j=>if j=12 then val 12 else v j),?_,okU3 (hV.out) 12,hA.out,hB.out,e22.out,g22.out,e23.out,g23.out,d10.out,d21.out,hF.out⟩
      simp only [hv]
      rfl
     ·have r12:v 12=.pointer (some ⟨sb,0,none⟩):=(hV.out 12 (by unfold puP;decide) (he 12 (by kernel_rfl))).trans (hv 12)
      have q0:=(Arr.fr HAR.out hF.out (HNU.out _ (Nat.lt_succ_self sb))).cell (k:=0) rfl
      clear he
      (try dsimp only)
      rw [r12]
      clear r12
      refine wpOp_plainK rfl rfl (fun K HK=>?_)
      (try dsimp only)
      go_simp
      refine HK.out _ _ ⟨(fun j=>if j=13 then val 13 else (fun j=>if j=12 then val 12 else v j) j),?_,okU3 (okD3 (hV.out) 12) 13,hA.out,hB.out,e22.out,g22.out,e23.out,g23.out,d10.out,d21.out,hF.out⟩
      simp only [hv]
      rfl
     ·clear he
      (try dsimp only)
      refine wpOp_plainK rfl rfl (fun K HK=>?_)
      (try dsimp only)
      go_simp
      refine HK.out _ _ ⟨(fun j=>if j=14 then val 14 else v j),?_,okU3 (hV.out) 14,hA.out,hB.out,e22.out,g22.out,e23.out,g23.out,d10.out,d21.out,hF.out⟩
      simp only [hv]
      rfl
     ·have r13:v 13=.slice (some ⟨ba,oa,none⟩) n1 c1:=(hV.out 13 (by unfold puP;decide) (he 13 (by kernel_rfl))).trans (hv 13)
      have r14:v 14=.int .i64 (k:Int):=(hV.out 14 (by unfold puP;decide) (he 14 (by kernel_rfl))).trans (hv 14)
      clear he
      (try dsimp only)
      rw [r13,r14]
      clear r13 r14
      refine wpOp_plainK rfl rfl (fun K HK=>?_)
      (try dsimp only)
      go_simp
      refine HK.out _ _ ⟨(fun j=>if j=15 then val 15 else (fun j=>if j=14 then val 14 else (fun j=>if j=13 then val 13 else v j) j) j),?_,okU3 (okD3 (okD3 (hV.out) 13) 14) 15,hA.out,hB.out,e22.out,g22.out,e23.out,g23.out,d10.out,d21.out,hF.out⟩
      simp only [hv]
      rfl
     ·have r15:v 15=.pointer (some ⟨ba,oa+k,none⟩):=(hV.out 15 (by unfold puP;decide) (he 15 (by kernel_rfl))).trans (hv 15)
      have q1:=(World.cell?_of_block (w:=wr) (w':=w) (a:=⟨ba,oa+k,none⟩) (hF.out.block ba (Nat.lt_of_lt_of_le (Nat.lt_succ_of_lt hba) hsz) (HNU.out ba (Nat.lt_succ_of_lt hba)))).trans k1
      clear he
      (try dsimp only)
      rw [r15]
      clear r15
      refine wpOp_plainK rfl rfl (fun K HK=>?_)
      (try dsimp only)
      go_simp
      refine HK.out _ _ ⟨(fun j=>if j=16 then val 16 else (fun j=>if j=15 then val 15 else v j) j),?_,okU3 (okD3 (hV.out) 15) 16,hA.out,hB.out,e22.out,g22.out,e23.out,g23.out,d10.out,d21.out,hF.out⟩
      simp only [hv]
      rfl
     ·clear he
      (try dsimp only)
      refine wpOp_plainK rfl rfl (fun K HK=>?_)
      (try dsimp only)
      go_simp
      refine HK.out _ _ ⟨(fun j=>if j=17 then val 17 else v j),?_,okU3 (hV.out) 17,hA.out,hB.out,e22.out,g22.out,e23.out,g23.out,d10.out,d21.out,hF.out⟩
      simp only [hv]
      rfl
     ·have r17:v 17=.int .u8 (cc.toNat:Int):=(hV.out 17 (by unfold puP;decide) (he 17 (by kernel_rfl))).trans (hv 17)
      have hff:f 18=false:=hf
      have hcall:=filled_any cc w
      clear he
      (try dsimp only)
      rw [r17]
      clear r17
      refine wpOp_plainK rfl rfl (fun K HK=>?_)
      (try dsimp only)
      go_simp
      go_at_call 25
      (with_reducible refine hcall.mono ?_)
      rintro e w' ⟨g,rfl,ho,hb⟩
      go_simp
      have hro:ownB w' wr.heap.size (.slice (some ⟨g,0,none⟩) 256 256) (fillB cc):=ownB.mono ho hz
      have hc:=hB.out
      rw [hff] at hc
      refine HK.out _ _ ⟨(fun j=>if j=18 then .slice (some ⟨g,0,none⟩) 256 256 else (fun j=>if j=17 then val 17 else v j) j),?_,okS3 (okD3 (hV.out) 17) 18 (by unfold puP;decide) _,hA.out.later hb HUZ.out,hc.s7 hb HUZ.out hro,e22.out,g22.out,e23.out,g23.out,d10.out,d21.out,hF.out.trans (Fr.of _ hb)⟩
      simp only [hv]
      rfl
     ·have r16:v 16=.int .i64 key:=(hV.out 16 (by unfold puP;decide) (he 16 (by kernel_rfl))).trans (hv 16)
      have hff:f 19=false:=hf
      have hc:=hB.out
      rw [he 18 (by kernel_rfl)] at hc
      obtain ⟨g,rr,hk⟩:=hc.at7
      have hk:=hk true hff
      have hf7:=he 18 (by kernel_rfl)
      clear he hc
      (try dsimp only)
      rw [r16,rr]
      refine wpOp_plainK rfl rfl (fun K HK=>?_)
      (try dsimp only)
      go_simp
      refine HK.out _ _ ⟨(fun j=>if j=19 then .agg #[.int .i64 key,.slice (some ⟨g,0,none⟩) 256 256] else if j=18 then .slice (some ⟨g,0,none⟩) 256 256 else (fun j=>if j=16 then val 16 else v j) j),?_,okS3 (okX3 (okD3 (hV.out) 16) (by unfold puP;decide) _) 19 (by unfold puP;decide) _,hA.out,(by show ChF _ _ _ _ _ _ _ _ (f 18) true _ _ _ _ _ _;rw [hf7];exact hk),e22.out,g22.out,e23.out,g23.out,d10.out,d21.out,hF.out⟩
      simp only [hv]
      rfl
     ·have hff:f 20=false:=hf
      have hc:=hB.out
      rw [he 19 (by kernel_rfl)] at hc
      obtain ⟨g,rr,hk⟩:=hc.at8 HUZ.out hz hff
      have hf8:=he 19 (by kernel_rfl)
      clear he hc
      (try dsimp only)
      rw [rr]
      refine wpOp_plainK rfl rfl (fun K HK=>?_)
      (try dsimp only)
      go_simp
      have hb:Below w.heap.size w (w.alloc (.cells #[.int .i64 key,.slice (some ⟨g,0,none⟩) 256 256] 74)):=(Below.refl _ _).alloc (Nat.le_refl _) _
      refine HK.out _ _ ⟨(fun j=>if j=20 then .slice (some ⟨w.heap.size,0,none⟩) 1 1 else if j=19 then .agg #[.int .i64 key,.slice (some ⟨g,0,none⟩) 256 256] else v j),?_,okS3 (okX3 (hV.out) (by unfold puP;decide) _) 20 (by unfold puP;decide) _,hA.out.later hb HUZ.out,(by show ChF _ _ _ _ _ _ _ _ _ (f 19) true _ _ _ _ _;rw [hf8];exact hk),e22.out,g22.out,e23.out,g23.out,d10.out,d21.out,hF.out.trans (Fr.of _ hb)⟩
      simp only [hv]
      rfl
     ·have r11:v 11=.slice A5 k c5:=(hV.out 11 (by unfold puP;decide) (he 11 (by kernel_rfl))).trans (hv 11)
      have hff:f 21=false:=hf
      have hc:=hB.out
      rw [he 20 (by kernel_rfl),hff] at hc
      obtain ⟨g,hh,rr,hown,hrd,hk⟩:=hc.at9 HUZ.out
      have hf9:=he 20 (by kernel_rfl)
      have hf0:=he 11 (by kernel_rfl)
      clear he hc
      (try dsimp only)
      rw [r11,rr]
      refine wpOp_appendF rfl rfl (.tmp 36) (.tmp 45) rfl (sb+1) (.slice A5 k c5) _ rfl hown _ 1 1 _ _ rfl hrd (HLNF.out) (Nat.le_trans hsz hz) (fun v' w' ho hg hb ha=>?_)
      have hVV:∀ g,(Value.slice A5 k c5).ownBlock=some g→UB2 (.slice A4 k c4) (.slice A5 k c5) g:=fun g e=>Or.inr e
      have hFF:Fr (UB2 (.slice A4 k c4) (.slice A5 k c5)) w w':=Fr.gro2 hg hVV
      refine ⟨(fun j=>if j=21 then v' else if j=20 then .slice (some ⟨hh,0,none⟩) 1 1 else (fun j=>if j=11 then val 11 else v j) j),?_,okS3 (okX3 (okD3 (hV.out) 11) (by unfold puP;decide) _) 21 (by unfold puP;decide) _,hA.out.grow hg hVV HUZ.out HDJ.out,(by show ChF _ _ _ _ _ _ _ _ _ _ (f 20) true _ _ _ _;rw [hf9];exact hk _ _ ho hFF ha hz),e22.out,g22.out,e23.out,fun e=>Bool.noConfusion (show true=false from (g23.out e).2.symm.trans hff),d10.out,fun _=>hf0,hF.out.trans hFF⟩
      simp only [hv]
      rfl
     ·have hf10:=he 10 (by kernel_rfl)
      clear he
      refine wpOp_plainK rfl rfl (fun K HK=>?_)
      (try dsimp only)
      go_simp
      refine HK.out _ _ ⟨(fun j=>if j=22 then v 10 else v j),?_,okS3 (hV.out) 22 (by unfold puP;decide) _,hA.out,hB.out,fun e=>Bool.noConfusion (show true=false from e),fun _=>⟨rfl,hf10⟩,e23.out,g23.out,d10.out,d21.out,hF.out⟩
      simp only [hv]
      rfl
     ·have hf10:=he 21 (by kernel_rfl)
      clear he
      refine wpOp_plainK rfl rfl (fun K HK=>?_)
      (try dsimp only)
      go_simp
      refine HK.out _ _ ⟨(fun j=>if j=23 then v 21 else v j),?_,okS3 (hV.out) 23 (by unfold puP;decide) _,hA.out,hB.out,e22.out,g22.out,fun e=>Bool.noConfusion (show true=false from e),fun _=>⟨rfl,hf10⟩,d10.out,d21.out,hF.out⟩
      simp only [hv]
      rfl
    ·intro f a w hall hI
     obtain ⟨v,rfl,hV,hA,hB,e22,g22,e23,g23,d10,d21,hF⟩:=hI
     have r22:v 22=v 10:=(g22 (hall 22 (by decide))).1
     have r23:v 23=v 21:=(g23 (hall 23 (by decide))).1
     obtain ⟨ga,-,xa,-,-,-,ya,-,-,-⟩:=hA
     obtain ⟨gb,-,xb,-,-,-,yb,-,-,-⟩:=hB
     obtain ⟨-,rowa⟩:=xa (hall 7 (by decide))
     obtain ⟨owna,bla⟩:=ya (hall 10 (by decide))
     obtain ⟨ownb,blb⟩:=yb (hall 21 (by decide))
     dsimp only
     rw [r22,r23]
     generalize v 10=va at *
     generalize v 21=vb at *
     clear hV e22 g22 e23 g23 d10 d21 xa xb ya yb hall r22 r23
     obtain ⟨Aa,ca,ea,-,-,-⟩:=owna.form
     obtain ⟨Ab,cbb,eb,-,-,-⟩:=ownb.form
     rw [List.length_append,HLA.out] at ea
     rw [List.length_append,HLB.out] at eb
     have ea':va=.slice Aa (k+1) ca:=ea
     have eb':vb=.slice Ab (k+1) cbb:=eb
     clear ea eb
     subst ea' eb'
     have OA:=Lib.hid owna
     have OB:=Lib.hid ownb
     have BA:=Lib.hid bla
     have BB:=Lib.hid blb
     have RA:=Lib.hid rowa
     have HFW:=Lib.hid hF
     clear owna ownb bla blb rowa hF
     generalize v 0=y0;generalize v 1=y1;generalize v 2=y2;generalize v 3=y3;generalize v 4=y4;generalize v 5=y5;generalize v 6=y6;generalize v 7=y7;generalize v 8=y8;generalize v 9=y9;generalize v 11=y11;generalize v 12=y12;generalize v 13=y13;generalize v 14=y14;generalize v 15=y15;generalize v 16=y16;generalize v 17=y17;generalize v 18=y18;generalize v 19=y19;generalize v 20=y20
     clear val hv
     go_wp2_with fail
     go_roundw
     case rel =>
      refine ⟨k+1,_,_,Aa,Ab,ca,cbb,by omega,by go_num,rfl,rfl,OA.out,OB.out,(show PutsL _ _ _ _ from ?_),HBW.out.trans (HFW.out.below (fun g e=>e.elim (fun e=>(World.ownsRow.lt HO4.out g e).1) (fun e=>(World.ownsRow.lt HO5.out g e).1)) hsz)⟩
      rw [putsV_take HX.out,HCC.out]
      have hTT:TT wr (T7 T (.slice A4 k c4) (.slice A5 k c5)) (T7 T (.slice Aa (k+1) ca) (.slice Ab (k+1) cbb)):=by
       rintro g (h | h | h)
       ·exact .inl (.inl h)
       ·rcases BA.out with e | ⟨k',e,hz⟩
        ·exact .inl (.inr (.inl (e ▸ h)))
        ·rw [e] at h;injection h with h;exact .inr (by omega)
       ·rcases BB.out with e | ⟨k',e,hz⟩
        ·exact .inl (.inr (.inr (e ▸ h)))
        ·rw [e] at h;injection h with h;exact .inr (by omega)
      have hrow:RowAt w (T7 T (.slice Aa (k+1) ca) (.slice Ab (k+1) cbb)) (some ⟨ga,0,none⟩) 256 (fillB cc):=⟨List.length_replicate,fun _=>⟨ga,0,rfl,fun h=>by
       rcases h with h | h | h
       ·have:=(World.ownsRow.lt RA.out ga rfl).1;exact HT.out ga (by omega) h
       ·exact own_ne RA.out OA.out (by decide) ga rfl h
       ·exact own_ne RA.out OB.out (by decide) ga rfl h,(World.ownsRow.lt RA.out ga rfl).2⟩,ownB.rd RA.out⟩
      exact (HPL.out.fr (HFW.out.mono (fun g h=>.inr h)) hTT).snoc hrow
     case measure=>simp [intOf];omega
   ·have e0:(0:Int)=(cc.toNat:Int):=by rw [← HCC.out,List.getD_eq_getElem?_getD,List.getElem?_eq_none (by omega)];rfl
    have E0:Hid (Value.int .u8 0=.int .u8 (cc.toNat:Int)):=(show _=_ by rw [e0])
    clear e0
    go_upto_region 9 with fail
    rw [E0.out]
    clear E0
    obtain ⟨val,hval⟩:∃ val:Nat→Value,(fun i=>match i with | 0=>.slice A4 k c4 | 1=>.pointer (some ⟨sb,0,none⟩) | 2=>.slice (some ⟨ba,oa,none⟩) n1 c1 | 3=>.int .i64 (k:Int) | 4=>.pointer (some ⟨ba,oa+k,none⟩) | 5=>.int .i64 key | 6=>.int .u8 (cc.toNat:Int) | 11=>.slice A5 k c5 | 12=>.pointer (some ⟨sb,0,none⟩) | 13=>.slice (some ⟨ba,oa,none⟩) n1 c1 | 14=>.int .i64 (k:Int) | 15=>.pointer (some ⟨ba,oa+k,none⟩) | 16=>.int .i64 key | 17=>.int .u8 (cc.toNat:Int) | _=>undef)=val:=⟨_,rfl⟩
    have hv:∀ i,val i=(fun i=>match i with | 0=>.slice A4 k c4 | 1=>.pointer (some ⟨sb,0,none⟩) | 2=>.slice (some ⟨ba,oa,none⟩) n1 c1 | 3=>.int .i64 (k:Int) | 4=>.pointer (some ⟨ba,oa+k,none⟩) | 5=>.int .i64 key | 6=>.int .u8 (cc.toNat:Int) | 11=>.slice A5 k c5 | 12=>.pointer (some ⟨sb,0,none⟩) | 13=>.slice (some ⟨ba,oa,none⟩) n1 c1 | 14=>.int .i64 (k:Int) | 15=>.pointer (some ⟨ba,oa+k,none⟩) | 16=>.int .i64 key | 17=>.int .u8 (cc.toNat:Int) | _=>undef) i:=fun i=>by rw [hval]
    clear hval
    refine wp_region_inv2 (by kernel_rfl) (by kernel_rfl) (puInv (fun v=>⟨#[.agg #[.slice (some ⟨ba,oa,none⟩) n1 c1,.slice A2 n2 c2],.pointer (some ⟨sb,0,none⟩),.slice none 0 0,.slice none 0 0,v 22,v 23,.int .i64 (k:Int),.int .u8 (cc.toNat:Int),.int .i64 (k:Int),.pointer (some ⟨sb,0,none⟩),.slice (some ⟨ba,oa,none⟩) n1 c1,.int .i64 (n1:Int),.bool true,u13,u14,.int .i64 (k:Int),.pointer (some ⟨sb,1,none⟩),.slice A2 n2 c2,.int .i64 (n2:Int),.bool false,u20,u21,u22,u23,u24,v 0,v 1,v 2,v 3,v 4,v 5,v 6,v 7,v 8,v 9,v 10,v 11,v 12,v 13,v 14,v 15,v 16,v 17,v 18,v 19,v 20,v 21,undef,undef],[]⟩) val (UB2 (.slice A4 k c4) (.slice A5 k c5)) wr.heap.size (sb+1) (.slice A4 k c4) (.slice A5 k c5) la lb key (fillB cc) wr) ?_ ?_ ?_
    ·exact ⟨(fun i=>match i with | 22=>.slice A4 k c4 | 23=>.slice A5 k c5 | 0=>u25 | 1=>u26 | 2=>u27 | 3=>u28 | 4=>u29 | 5=>u30 | 6=>u31 | 7=>u32 | 8=>u33 | 9=>u34 | 10=>u35 | 11=>u36 | 12=>u37 | 13=>u38 | 14=>u39 | 15=>u40 | 16=>u41 | 17=>u42 | 18=>u43 | 19=>u44 | 20=>u45 | 21=>u46 | _=>undef),rfl,(fun j _ h=>by cases h),⟨0,0,(fun h=>by cases h),(fun h=>by cases h),(fun h=>by cases h),(fun _=>HO4.out),(fun h=>by cases h),(fun h=>by cases h),(fun h=>by cases h),(fun h=>by cases h)⟩,⟨0,0,(fun h=>by cases h),(fun h=>by cases h),(fun h=>by cases h),(fun _=>HO5.out),(fun h=>by cases h),(fun h=>by cases h),(fun h=>by cases h),(fun h=>by cases h)⟩,(fun _=>rfl),(fun h=>by cases h),(fun _=>rfl),(fun h=>by cases h),(fun h=>by cases h),(fun h=>by cases h),(Fr.refl _ _).drew⟩
    ·intro f a w i hi0 hf he hI
     have hi:i < 24:=hi0
     clear hi0
     obtain ⟨v,rfl,hV,hA,hB,e22,g22,e23,g23,d10,d21,hF⟩:=hI
     have hz:wr.heap.size≤w.heap.size:=hF.size
     replace hV:=Lib.hid hV
     replace hA:=Lib.hid hA
     replace hB:=Lib.hid hB
     replace e22:=Lib.hid e22
     replace g22:=Lib.hid g22
     replace e23:=Lib.hid e23
     replace g23:=Lib.hid g23
     replace d10:=Lib.hid d10
     replace d21:=Lib.hid d21
     replace hF:=Lib.hid hF
     have hi':i=0∨i=1∨i=2∨i=3∨i=4∨i=5∨i=6∨i=7∨i=8∨i=9∨i=10∨i=11∨i=12∨i=13∨i=14∨i=15∨i=16∨i=17∨i=18∨i=19∨i=20∨i=21∨i=22∨i=23:=by omega
     clear hi
     rcases hi' with rfl | rfl | rfl | rfl | rfl | rfl | rfl | rfl | rfl | rfl | rfl | rfl | rfl | rfl | rfl | rfl | rfl | rfl | rfl | rfl | rfl | rfl | rfl | rfl
     ·have rr:v 22=.slice A4 k c4:=e22.out (by cases hh:f 22 with | false=>rfl | true=>exact Bool.noConfusion (show true=false from (d10.out (g22.out hh).2).symm.trans hf))
      clear he
      (try dsimp only)
      rw [rr]
      refine wpOp_plainK rfl rfl (fun K HK=>?_)
      (try dsimp only)
      go_simp
      refine HK.out _ _ ⟨(fun j=>if j=0 then val 0 else (fun j=>if j=22 then .slice A4 k c4 else v j) j),?_,okU3 (okX3 (hV.out) (by unfold puP;decide) _) 0,hA.out,hB.out,fun _=>rfl,fun e=>by have:=g22.out e;exact ⟨rr.symm.trans this.1,this.2⟩,e23.out,g23.out,fun _=>rfl,d21.out,hF.out⟩
      simp only [hv]
      rfl
     ·clear he
      (try dsimp only)
      refine wpOp_plainK rfl rfl (fun K HK=>?_)
      (try dsimp only)
      go_simp
      refine HK.out _ _ ⟨(fun j=>if j=1 then val 1 else v j),?_,okU3 (hV.out) 1,hA.out,hB.out,e22.out,g22.out,e23.out,g23.out,d10.out,d21.out,hF.out⟩
      simp only [hv]
      rfl
     ·have r1:v 1=.pointer (some ⟨sb,0,none⟩):=(hV.out 1 (by unfold puP;decide) (he 1 (by kernel_rfl))).trans (hv 1)
      have q0:=(Arr.fr HAR.out hF.out (HNU.out _ (Nat.lt_succ_self sb))).cell (k:=0) rfl
      clear he
      (try dsimp only)
      rw [r1]
      clear r1
      refine wpOp_plainK rfl rfl (fun K HK=>?_)
      (try dsimp only)
      go_simp
      refine HK.out _ _ ⟨(fun j=>if j=2 then val 2 else (fun j=>if j=1 then val 1 else v j) j),?_,okU3 (okD3 (hV.out) 1) 2,hA.out,hB.out,e22.out,g22.out,e23.out,g23.out,d10.out,d21.out,hF.out⟩
      simp only [hv]
      rfl
     ·clear he
      (try dsimp only)
      refine wpOp_plainK rfl rfl (fun K HK=>?_)
      (try dsimp only)
      go_simp
      refine HK.out _ _ ⟨(fun j=>if j=3 then val 3 else v j),?_,okU3 (hV.out) 3,hA.out,hB.out,e22.out,g22.out,e23.out,g23.out,d10.out,d21.out,hF.out⟩
      simp only [hv]
      rfl
     ·have r2:v 2=.slice (some ⟨ba,oa,none⟩) n1 c1:=(hV.out 2 (by unfold puP;decide) (he 2 (by kernel_rfl))).trans (hv 2)
      have r3:v 3=.int .i64 (k:Int):=(hV.out 3 (by unfold puP;decide) (he 3 (by kernel_rfl))).trans (hv 3)
      clear he
      (try dsimp only)
      rw [r2,r3]
      clear r2 r3
      refine wpOp_plainK rfl rfl (fun K HK=>?_)
      (try dsimp only)
      go_simp
      refine HK.out _ _ ⟨(fun j=>if j=4 then val 4 else (fun j=>if j=3 then val 3 else (fun j=>if j=2 then val 2 else v j) j) j),?_,okU3 (okD3 (okD3 (hV.out) 2) 3) 4,hA.out,hB.out,e22.out,g22.out,e23.out,g23.out,d10.out,d21.out,hF.out⟩
      simp only [hv]
      rfl
     ·have r4:v 4=.pointer (some ⟨ba,oa+k,none⟩):=(hV.out 4 (by unfold puP;decide) (he 4 (by kernel_rfl))).trans (hv 4)
      have q1:=(World.cell?_of_block (w:=wr) (w':=w) (a:=⟨ba,oa+k,none⟩) (hF.out.block ba (Nat.lt_of_lt_of_le (Nat.lt_succ_of_lt hba) hsz) (HNU.out ba (Nat.lt_succ_of_lt hba)))).trans k1
      clear he
      (try dsimp only)
      rw [r4]
      clear r4
      refine wpOp_plainK rfl rfl (fun K HK=>?_)
      (try dsimp only)
      go_simp
      refine HK.out _ _ ⟨(fun j=>if j=5 then val 5 else (fun j=>if j=4 then val 4 else v j) j),?_,okU3 (okD3 (hV.out) 4) 5,hA.out,hB.out,e22.out,g22.out,e23.out,g23.out,d10.out,d21.out,hF.out⟩
      simp only [hv]
      rfl
     ·clear he
      (try dsimp only)
      refine wpOp_plainK rfl rfl (fun K HK=>?_)
      (try dsimp only)
      go_simp
      refine HK.out _ _ ⟨(fun j=>if j=6 then val 6 else v j),?_,okU3 (hV.out) 6,hA.out,hB.out,e22.out,g22.out,e23.out,g23.out,d10.out,d21.out,hF.out⟩
      simp only [hv]
      rfl
     ·have r6:v 6=.int .u8 (cc.toNat:Int):=(hV.out 6 (by unfold puP;decide) (he 6 (by kernel_rfl))).trans (hv 6)
      have hff:f 7=false:=hf
      have hcall:=filled_any cc w
      clear he
      (try dsimp only)
      rw [r6]
      clear r6
      refine wpOp_plainK rfl rfl (fun K HK=>?_)
      (try dsimp only)
      go_simp
      go_at_call 25
      (with_reducible refine hcall.mono ?_)
      rintro e w' ⟨g,rfl,ho,hb⟩
      go_simp
      have hro:ownB w' wr.heap.size (.slice (some ⟨g,0,none⟩) 256 256) (fillB cc):=ownB.mono ho hz
      have hc:=hA.out
      rw [hff] at hc
      refine HK.out _ _ ⟨(fun j=>if j=7 then .slice (some ⟨g,0,none⟩) 256 256 else (fun j=>if j=6 then val 6 else v j) j),?_,okS3 (okD3 (hV.out) 6) 7 (by unfold puP;decide) _,hc.s7 hb HUZ.out hro,hB.out.later hb HUZ.out,e22.out,g22.out,e23.out,g23.out,d10.out,d21.out,hF.out.trans (Fr.of _ hb)⟩
      simp only [hv]
      rfl
     ·have r5:v 5=.int .i64 key:=(hV.out 5 (by unfold puP;decide) (he 5 (by kernel_rfl))).trans (hv 5)
      have hff:f 8=false:=hf
      have hc:=hA.out
      rw [he 7 (by kernel_rfl)] at hc
      obtain ⟨g,rr,hk⟩:=hc.at7
      have hk:=hk true hff
      have hf7:=he 7 (by kernel_rfl)
      clear he hc
      (try dsimp only)
      rw [r5,rr]
      refine wpOp_plainK rfl rfl (fun K HK=>?_)
      (try dsimp only)
      go_simp
      refine HK.out _ _ ⟨(fun j=>if j=8 then .agg #[.int .i64 key,.slice (some ⟨g,0,none⟩) 256 256] else if j=7 then .slice (some ⟨g,0,none⟩) 256 256 else (fun j=>if j=5 then val 5 else v j) j),?_,okS3 (okX3 (okD3 (hV.out) 5) (by unfold puP;decide) _) 8 (by unfold puP;decide) _,(by show ChW _ _ _ _ _ _ _ _ (f 7) true _ _ _ _ _ _;rw [hf7];exact hk),hB.out,e22.out,g22.out,e23.out,g23.out,d10.out,d21.out,hF.out⟩
      simp only [hv]
      rfl
     ·have hff:f 9=false:=hf
      have hc:=hA.out
      rw [he 8 (by kernel_rfl)] at hc
      obtain ⟨g,rr,hk⟩:=hc.at8 HUZ.out hz hff
      have hf8:=he 8 (by kernel_rfl)
      clear he hc
      (try dsimp only)
      rw [rr]
      refine wpOp_plainK rfl rfl (fun K HK=>?_)
      (try dsimp only)
      go_simp
      have hb:Below w.heap.size w (w.alloc (.cells #[.int .i64 key,.slice (some ⟨g,0,none⟩) 256 256] 56)):=(Below.refl _ _).alloc (Nat.le_refl _) _
      refine HK.out _ _ ⟨(fun j=>if j=9 then .slice (some ⟨w.heap.size,0,none⟩) 1 1 else if j=8 then .agg #[.int .i64 key,.slice (some ⟨g,0,none⟩) 256 256] else v j),?_,okS3 (okX3 (hV.out) (by unfold puP;decide) _) 9 (by unfold puP;decide) _,(by show ChW _ _ _ _ _ _ _ _ _ (f 8) true _ _ _ _ _;rw [hf8];exact hk),hB.out.later hb HUZ.out,e22.out,g22.out,e23.out,g23.out,d10.out,d21.out,hF.out.trans (Fr.of _ hb)⟩
      simp only [hv]
      rfl
     ·have r0:v 0=.slice A4 k c4:=(hV.out 0 (by unfold puP;decide) (he 0 (by kernel_rfl))).trans (hv 0)
      have hff:f 10=false:=hf
      have hc:=hA.out
      rw [he 9 (by kernel_rfl),hff] at hc
      obtain ⟨g,hh,rr,hown,hrd,hk⟩:=hc.at9 HUZ.out
      have hf9:=he 9 (by kernel_rfl)
      have hf0:=he 0 (by kernel_rfl)
      clear he hc
      (try dsimp only)
      rw [r0,rr]
      refine wpOp_appendW rfl rfl (.tmp 25) (.tmp 34) rfl (sb+1) (.slice A4 k c4) _ rfl hown _ 1 1 _ _ rfl hrd (HLNW.out) (Nat.le_trans hsz hz) (fun v' w' ho hg hb ha=>?_)
      have hVV:∀ g,(Value.slice A4 k c4).ownBlock=some g→UB2 (.slice A4 k c4) (.slice A5 k c5) g:=fun g e=>Or.inl e
      have hFF:Fr (UB2 (.slice A4 k c4) (.slice A5 k c5)) w w':=Fr.gro2 hg hVV
      refine ⟨(fun j=>if j=10 then v' else if j=9 then .slice (some ⟨hh,0,none⟩) 1 1 else (fun j=>if j=0 then val 0 else v j) j),?_,okS3 (okX3 (okD3 (hV.out) 0) (by unfold puP;decide) _) 10 (by unfold puP;decide) _,(by show ChW _ _ _ _ _ _ _ _ _ _ (f 9) true _ _ _ _;rw [hf9];exact hk _ _ ho hFF ha hz),hB.out.grow hg hVV HUZ.out (fun g e1 e2=>HDJ.out g e2 e1),e22.out,fun e=>Bool.noConfusion (show true=false from (g22.out e).2.symm.trans hff),e23.out,g23.out,fun _=>hf0,d21.out,hF.out.trans hFF⟩
      simp only [hv]
      rfl
     ·have rr:v 23=.slice A5 k c5:=e23.out (by cases hh:f 23 with | false=>rfl | true=>exact Bool.noConfusion (show true=false from (d21.out (g23.out hh).2).symm.trans hf))
      clear he
      (try dsimp only)
      rw [rr]
      refine wpOp_plainK rfl rfl (fun K HK=>?_)
      (try dsimp only)
      go_simp
      refine HK.out _ _ ⟨(fun j=>if j=11 then val 11 else (fun j=>if j=23 then .slice A5 k c5 else v j) j),?_,okU3 (okX3 (hV.out) (by unfold puP;decide) _) 11,hA.out,hB.out,e22.out,g22.out,fun _=>rfl,fun e=>by have:=g23.out e;exact ⟨rr.symm.trans this.1,this.2⟩,d10.out,fun _=>rfl,hF.out⟩
      simp only [hv]
      rfl
     ·clear he
      (try dsimp only)
      refine wpOp_plainK rfl rfl (fun K HK=>?_)
      (try dsimp only)
      go_simp
      refine HK.out _ _ ⟨(fun j=>if j=12 then val 12 else v j),?_,okU3 (hV.out) 12,hA.out,hB.out,e22.out,g22.out,e23.out,g23.out,d10.out,d21.out,hF.out⟩
      simp only [hv]
      rfl
     ·have r12:v 12=.pointer (some ⟨sb,0,none⟩):=(hV.out 12 (by unfold puP;decide) (he 12 (by kernel_rfl))).trans (hv 12)
      have q0:=(Arr.fr HAR.out hF.out (HNU.out _ (Nat.lt_succ_self sb))).cell (k:=0) rfl
      clear he
      (try dsimp only)
      rw [r12]
      clear r12
      refine wpOp_plainK rfl rfl (fun K HK=>?_)
      (try dsimp only)
      go_simp
      refine HK.out _ _ ⟨(fun j=>if j=13 then val 13 else (fun j=>if j=12 then val 12 else v j) j),?_,okU3 (okD3 (hV.out) 12) 13,hA.out,hB.out,e22.out,g22.out,e23.out,g23.out,d10.out,d21.out,hF.out⟩
      simp only [hv]
      rfl
     ·clear he
      (try dsimp only)
      refine wpOp_plainK rfl rfl (fun K HK=>?_)
      (try dsimp only)
      go_simp
      refine HK.out _ _ ⟨(fun j=>if j=14 then val 14 else v j),?_,okU3 (hV.out) 14,hA.out,hB.out,e22.out,g22.out,e23.out,g23.out,d10.out,d21.out,hF.out⟩
      simp only [hv]
      rfl
     ·have r13:v 13=.slice (some ⟨ba,oa,none⟩) n1 c1:=(hV.out 13 (by unfold puP;decide) (he 13 (by kernel_rfl))).trans (hv 13)
      have r14:v 14=.int .i64 (k:Int):=(hV.out 14 (by unfold puP;decide) (he 14 (by kernel_rfl))).trans (hv 14)
      clear he
      (try dsimp only)
      rw [r13,r14]
      clear r13 r14
      refine wpOp_plainK rfl rfl (fun K HK=>?_)
      (try dsimp only)
      go_simp
      refine HK.out _ _ ⟨(fun j=>if j=15 then val 15 else (fun j=>if j=14 then val 14 else (fun j=>if j=13 then val 13 else v j) j) j),?_,okU3 (okD3 (okD3 (hV.out) 13) 14) 15,hA.out,hB.out,e22.out,g22.out,e23.out,g23.out,d10.out,d21.out,hF.out⟩
      simp only [hv]
      rfl
     ·have r15:v 15=.pointer (some ⟨ba,oa+k,none⟩):=(hV.out 15 (by unfold puP;decide) (he 15 (by kernel_rfl))).trans (hv 15)
      have q1:=(World.cell?_of_block (w:=wr) (w':=w) (a:=⟨ba,oa+k,none⟩) (hF.out.block ba (Nat.lt_of_lt_of_le (Nat.lt_succ_of_lt hba) hsz) (HNU.out ba (Nat.lt_succ_of_lt hba)))).trans k1
      clear he
      (try dsimp only)
      rw [r15]
      clear r15
      refine wpOp_plainK rfl rfl (fun K HK=>?_)
      (try dsimp only)
      go_simp
      refine HK.out _ _ ⟨(fun j=>if j=16 then val 16 else (fun j=>if j=15 then val 15 else v j) j),?_,okU3 (okD3 (hV.out) 15) 16,hA.out,hB.out,e22.out,g22.out,e23.out,g23.out,d10.out,d21.out,hF.out⟩
      simp only [hv]
      rfl
     ·clear he
      (try dsimp only)
      refine wpOp_plainK rfl rfl (fun K HK=>?_)
      (try dsimp only)
      go_simp
      refine HK.out _ _ ⟨(fun j=>if j=17 then val 17 else v j),?_,okU3 (hV.out) 17,hA.out,hB.out,e22.out,g22.out,e23.out,g23.out,d10.out,d21.out,hF.out⟩
      simp only [hv]
      rfl
     ·have r17:v 17=.int .u8 (cc.toNat:Int):=(hV.out 17 (by unfold puP;decide) (he 17 (by kernel_rfl))).trans (hv 17)
      have hff:f 18=false:=hf
      have hcall:=filled_any cc w
      clear he
      (try dsimp only)
      rw [r17]
      clear r17
      refine wpOp_plainK rfl rfl (fun K HK=>?_)
      (try dsimp only)
      go_simp
      go_at_call 25
      (with_reducible refine hcall.mono ?_)
      rintro e w' ⟨g,rfl,ho,hb⟩
      go_simp
      have hro:ownB w' wr.heap.size (.slice (some ⟨g,0,none⟩) 256 256) (fillB cc):=ownB.mono ho hz
      have hc:=hB.out
      rw [hff] at hc
      refine HK.out _ _ ⟨(fun j=>if j=18 then .slice (some ⟨g,0,none⟩) 256 256 else (fun j=>if j=17 then val 17 else v j) j),?_,okS3 (okD3 (hV.out) 17) 18 (by unfold puP;decide) _,hA.out.later hb HUZ.out,hc.s7 hb HUZ.out hro,e22.out,g22.out,e23.out,g23.out,d10.out,d21.out,hF.out.trans (Fr.of _ hb)⟩
      simp only [hv]
      rfl
     ·have r16:v 16=.int .i64 key:=(hV.out 16 (by unfold puP;decide) (he 16 (by kernel_rfl))).trans (hv 16)
      have hff:f 19=false:=hf
      have hc:=hB.out
      rw [he 18 (by kernel_rfl)] at hc
      obtain ⟨g,rr,hk⟩:=hc.at7
      have hk:=hk true hff
      have hf7:=he 18 (by kernel_rfl)
      clear he hc
      (try dsimp only)
      rw [r16,rr]
      refine wpOp_plainK rfl rfl (fun K HK=>?_)
      (try dsimp only)
      go_simp
      refine HK.out _ _ ⟨(fun j=>if j=19 then .agg #[.int .i64 key,.slice (some ⟨g,0,none⟩) 256 256] else if j=18 then .slice (some ⟨g,0,none⟩) 256 256 else (fun j=>if j=16 then val 16 else v j) j),?_,okS3 (okX3 (okD3 (hV.out) 16) (by unfold puP;decide) _) 19 (by unfold puP;decide) _,hA.out,(by show ChF _ _ _ _ _ _ _ _ (f 18) true _ _ _ _ _ _;rw [hf7];exact hk),e22.out,g22.out,e23.out,g23.out,d10.out,d21.out,hF.out⟩
      simp only [hv]
      rfl
     ·have hff:f 20=false:=hf
      have hc:=hB.out
      rw [he 19 (by kernel_rfl)] at hc
      obtain ⟨g,rr,hk⟩:=hc.at8 HUZ.out hz hff
      have hf8:=he 19 (by kernel_rfl)
      clear he hc
      (try dsimp only)
      rw [rr]
      refine wpOp_plainK rfl rfl (fun K HK=>?_)
      (try dsimp only)
      go_simp
      have hb:Below w.heap.size w (w.alloc (.cells #[.int .i64 key,.slice (some ⟨g,0,none⟩) 256 256] 74)):=(Below.refl _ _).alloc (Nat.le_refl _) _
      refine HK.out _ _ ⟨(fun j=>if j=20 then .slice (some ⟨w.heap.size,0,none⟩) 1 1 else if j=19 then .agg #[.int .i64 key,.slice (some ⟨g,0,none⟩) 256 256] else v j),?_,okS3 (okX3 (hV.out) (by unfold puP;decide) _) 20 (by unfold puP;decide) _,hA.out.later hb HUZ.out,(by show ChF _ _ _ _ _ _ _ _ _ (f 19) true _ _ _ _ _;rw [hf8];exact hk),e22.out,g22.out,e23.out,g23.out,d10.out,d21.out,hF.out.trans (Fr.of _ hb)⟩
      simp only [hv]
      rfl
     ·have r11:v 11=.slice A5 k c5:=(hV.out 11 (by unfold puP;decide) (he 11 (by kernel_rfl))).trans (hv 11)
      have hff:f 21=false:=hf
      have hc:=hB.out
      rw [he 20 (by kernel_rfl),hff] at hc
      obtain ⟨g,hh,rr,hown,hrd,hk⟩:=hc.at9 HUZ.out
      have hf9:=he 20 (by kernel_rfl)
      have hf0:=he 11 (by kernel_rfl)
      clear he hc
      (try dsimp only)
      rw [r11,rr]
      refine wpOp_appendF rfl rfl (.tmp 36) (.tmp 45) rfl (sb+1) (.slice A5 k c5) _ rfl hown _ 1 1 _ _ rfl hrd (HLNF.out) (Nat.le_trans hsz hz) (fun v' w' ho hg hb ha=>?_)
      have hVV:∀ g,(Value.slice A5 k c5).ownBlock=some g→UB2 (.slice A4 k c4) (.slice A5 k c5) g:=fun g e=>Or.inr e
      have hFF:Fr (UB2 (.slice A4 k c4) (.slice A5 k c5)) w w':=Fr.gro2 hg hVV
      refine ⟨(fun j=>if j=21 then v' else if j=20 then .slice (some ⟨hh,0,none⟩) 1 1 else (fun j=>if j=11 then val 11 else v j) j),?_,okS3 (okX3 (okD3 (hV.out) 11) (by unfold puP;decide) _) 21 (by unfold puP;decide) _,hA.out.grow hg hVV HUZ.out HDJ.out,(by show ChF _ _ _ _ _ _ _ _ _ _ (f 20) true _ _ _ _;rw [hf9];exact hk _ _ ho hFF ha hz),e22.out,g22.out,e23.out,fun e=>Bool.noConfusion (show true=false from (g23.out e).2.symm.trans hff),d10.out,fun _=>hf0,hF.out.trans hFF⟩
      simp only [hv]
      rfl
     ·have hf10:=he 10 (by kernel_rfl)
      clear he
      refine wpOp_plainK rfl rfl (fun K HK=>?_)
      (try dsimp only)
      go_simp
      refine HK.out _ _ ⟨(fun j=>if j=22 then v 10 else v j),?_,okS3 (hV.out) 22 (by unfold puP;decide) _,hA.out,hB.out,fun e=>Bool.noConfusion (show true=false from e),fun _=>⟨rfl,hf10⟩,e23.out,g23.out,d10.out,d21.out,hF.out⟩
      simp only [hv]
      rfl
     ·have hf10:=he 21 (by kernel_rfl)
      clear he
      refine wpOp_plainK rfl rfl (fun K HK=>?_)
      (try dsimp only)
      go_simp
      refine HK.out _ _ ⟨(fun j=>if j=23 then v 21 else v j),?_,okS3 (hV.out) 23 (by unfold puP;decide) _,hA.out,hB.out,e22.out,g22.out,fun e=>Bool.noConfusion (show true=false from e),fun _=>⟨rfl,hf10⟩,d10.out,d21.out,hF.out⟩
      simp only [hv]
      rfl
    ·intro f a w hall hI
     obtain ⟨v,rfl,hV,hA,hB,e22,g22,e23,g23,d10,d21,hF⟩:=hI
     have r22:v 22=v 10:=(g22 (hall 22 (by decide))).1
     have r23:v 23=v 21:=(g23 (hall 23 (by decide))).1
     obtain ⟨ga,-,xa,-,-,-,ya,-,-,-⟩:=hA
     obtain ⟨gb,-,xb,-,-,-,yb,-,-,-⟩:=hB
     obtain ⟨-,rowa⟩:=xa (hall 7 (by decide))
     obtain ⟨owna,bla⟩:=ya (hall 10 (by decide))
     obtain ⟨ownb,blb⟩:=yb (hall 21 (by decide))
     dsimp only
     rw [r22,r23]
     generalize v 10=va at *
     generalize v 21=vb at *
     clear hV e22 g22 e23 g23 d10 d21 xa xb ya yb hall r22 r23
     obtain ⟨Aa,ca,ea,-,-,-⟩:=owna.form
     obtain ⟨Ab,cbb,eb,-,-,-⟩:=ownb.form
     rw [List.length_append,HLA.out] at ea
     rw [List.length_append,HLB.out] at eb
     have ea':va=.slice Aa (k+1) ca:=ea
     have eb':vb=.slice Ab (k+1) cbb:=eb
     clear ea eb
     subst ea' eb'
     have OA:=Lib.hid owna
     have OB:=Lib.hid ownb
     have BA:=Lib.hid bla
     have BB:=Lib.hid blb
     have RA:=Lib.hid rowa
     have HFW:=Lib.hid hF
     clear owna ownb bla blb rowa hF
     generalize v 0=y0;generalize v 1=y1;generalize v 2=y2;generalize v 3=y3;generalize v 4=y4;generalize v 5=y5;generalize v 6=y6;generalize v 7=y7;generalize v 8=y8;generalize v 9=y9;generalize v 11=y11;generalize v 12=y12;generalize v 13=y13;generalize v 14=y14;generalize v 15=y15;generalize v 16=y16;generalize v 17=y17;generalize v 18=y18;generalize v 19=y19;generalize v 20=y20
     clear val hv
     go_wp2_with fail
     go_roundw
     case rel =>
      refine ⟨k+1,_,_,Aa,Ab,ca,cbb,by omega,by go_num,rfl,rfl,OA.out,OB.out,(show PutsL _ _ _ _ from ?_),HBW.out.trans (HFW.out.below (fun g e=>e.elim (fun e=>(World.ownsRow.lt HO4.out g e).1) (fun e=>(World.ownsRow.lt HO5.out g e).1)) hsz)⟩
      rw [putsV_take HX.out,HCC.out]
      have hTT:TT wr (T7 T (.slice A4 k c4) (.slice A5 k c5)) (T7 T (.slice Aa (k+1) ca) (.slice Ab (k+1) cbb)):=by
       rintro g (h | h | h)
       ·exact .inl (.inl h)
       ·rcases BA.out with e | ⟨k',e,hz⟩
        ·exact .inl (.inr (.inl (e ▸ h)))
        ·rw [e] at h;injection h with h;exact .inr (by omega)
       ·rcases BB.out with e | ⟨k',e,hz⟩
        ·exact .inl (.inr (.inr (e ▸ h)))
        ·rw [e] at h;injection h with h;exact .inr (by omega)
      have hrow:RowAt w (T7 T (.slice Aa (k+1) ca) (.slice Ab (k+1) cbb)) (some ⟨ga,0,none⟩) 256 (fillB cc):=⟨List.length_replicate,fun _=>⟨ga,0,rfl,fun h=>by
       rcases h with h | h | h
       ·have:=(World.ownsRow.lt RA.out ga rfl).1;exact HT.out ga (by omega) h
       ·exact own_ne RA.out OA.out (by decide) ga rfl h
       ·exact own_ne RA.out OB.out (by decide) ga rfl h,(World.ownsRow.lt RA.out ga rfl).2⟩,ownB.rd RA.out⟩
      exact (HPL.out.fr (HFW.out.mono (fun g h=>.inr h)) hTT).snoc hrow
     case measure=>simp [intOf];omega
  ·obtain rfl:k=n1:=by omega
   have hall:(putsV ats cs).take k=putsV ats cs:=List.take_of_length_le (by rw [putsV_len,hl1];exact Nat.le_refl _)
   rw [hall] at HPL
   have hlk:la.length=k:=by obtain ⟨_,_,e,-⟩:=HO4.out.form;injection e with _ e _;exact e.symm
   have hc4:k≤c4:=by
    obtain ⟨_,c9,e,-,hc,-⟩:=HO4.out.form
    injection e with _ _ e3
    rw [hlk] at hc
    omega
   clear hall
   go_wp2_with fail
   go_ret2
   exact ⟨A4,c4,.slice A5 k c5,rfl,(HPL.out.sub (fun g hg=>.inl hg)).at HO4.out (fun g hg=>HT.out g (by omega)),hc4,HB1.out.trans (HBW.out.mono (Nat.le_succ sb))⟩
end Go.Proofs.Ytdoanopeejeeiaa

