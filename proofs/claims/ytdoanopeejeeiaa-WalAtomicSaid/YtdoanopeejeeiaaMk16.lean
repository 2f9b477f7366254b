/- XPng0 -/
import Derived.Test.YtdoanopeejeeiaaMk01
import Derived.Lib.ConvBytes
namespace Go.Proofs.Ytdoanopeejeeiaa
set_option linter.all false
open Go.RowKit
theorem storeCells_mark (P:Program) (g o:Nat) (t:TypeId) (fz:Nat × Nat):∀ (vs:List Value) (i:Nat) (cur:Array Value) (w:World),w.heap[g]?=some (.cells cur t fz)→(fz=(0,0)∨o+i+vs.length≤fz.1)→o+i+vs.length≤cur.size→(∀ v ∈ vs,v.oneCell'=true) →
  (storeCells ⟨g,o,none⟩ vs i).run P w=.ok () (w.setRow g (cur.toList.take (o+i) ++ vs ++ cur.toList.drop (o+i+vs.length)).toArray)
 | [],i,cur,w,hg,_,_,_=>by
  simp only [storeCells,List.append_nil,List.length_nil,Nat.add_zero,List.take_append_drop,Array.toArray_toList]
  rw [setRow_self w g cur t fz hg]
  rfl
 | v :: rest,i,cur,w,hg,hfz,hl,h1=>by
  have hi:o+i < cur.size:=by simp at hl;omega
  have hadd:(⟨g,o,none⟩:Addr).add i=⟨g,o+i,none⟩:=by unfold Addr.add;split <;> simp_all
  have hcell:w.cell? ⟨g,o+i,none⟩=some cur[o+i]:=by simp [World.cell?,hg,hi]
  have hfro:w.frozen? ⟨g,o+i,none⟩=false:=by
   rcases hfz with rfl | hfz
   ·simp [World.frozen?,hg]
   ·obtain ⟨lo,hi'⟩:=fz
    simp only [World.frozen?,hg,Bool.and_eq_false_iff,decide_eq_false_iff_not]
    left
    simp only [List.length_cons] at hfz
    omega
  have hst:(store ((⟨g,o,none⟩:Addr).add i) v).run P w=.ok () (w.setRow g (cur.setIfInBounds (o+i) v)):=by
   rw [hadd,run_store P w _ v _ (h1 v (by simp)),hcell]
   simp [hfro,setCell_eq_setRow w g (o+i) cur t fz v hg]
  have ih:=storeCells_mark P g o t fz rest (i+1) (cur.setIfInBounds (o+i) v) (w.setRow g (cur.setIfInBounds (o+i) v)) (setRow_heap w g cur _ t _ hg) (by rcases hfz with h | h;exact .inl h;exact .inr (by simp at h;omega)) (by simp at hl ⊢;omega) (fun x hx=>h1 x (by simp [hx]))
  simp only [storeCells,Sem.run_bind,hst,Result.andThen_ok,ih,setRow_setRow]
  congr 3
  have e:=list_seg_step cur.toList (o+i) v rest (by simp at hl ⊢;omega)
  simpa [Array.toList_setIfInBounds,Nat.add_assoc] using e
theorem rd_row {w:World} {g n:Nat} {cs:Array Value} {t:TypeId} {fz:Nat × Nat} {xs:List UInt8} (h:w.heap[g]?=some (.cells cs t fz)) (hx:cs.toList.take n=cb xs) (hn:xs.length=n):RdB w (g+1) (some ⟨g,0,none⟩) n xs:=by
 refine ⟨by rw [cb_length,hn,Nat.mul_one],fun _=>⟨g,0,rfl,Nat.lt_succ_self g,fun j u hu=>?_⟩⟩
 rw [Nat.zero_add,cell_of_row w g j cs t fz h]
 rw [← hx,List.getElem?_take] at hu
 split at hu
 ·simpa using hu
 ·cases hu
/-- A slice from a row's beginning on, of which at most a mark beyond its end is frozen. -/
def RowM (w:World) (g n cap:Nat) (xs:List UInt8):Prop:=∃ cur fz,w.heap[g]?=some (.cells cur 5 fz)∧(fz=(0,0)∨cap≤fz.1)∧cur.size=cap∧n≤cap∧xs.length=n∧cur.toList.take n=cb xs
theorem RowM.rd {w:World} {g n cap:Nat} {xs:List UInt8} (h:RowM w g n cap xs):RdB w (g+1) (some ⟨g,0,none⟩) n xs:=by
 obtain ⟨cur,fz,hg,_,_,_,hl,ht⟩:=h
 exact rd_row hg ht hl
theorem RowM.lt {w:World} {g n cap:Nat} {xs:List UInt8} (h:RowM w g n cap xs):g < w.heap.size:=by
 obtain ⟨cur,fz,hg,_⟩:=h
 exact (Array.getElem?_eq_some_iff.1 hg).1
theorem RowM.keep {w w':World} {g n cap:Nat} {xs:List UInt8} (h:RowM w g n cap xs) (hb:w'.heap[g]?=w.heap[g]?):RowM w' g n cap xs:=by
 obtain ⟨cur,fz,hg,r⟩:=h
 exact ⟨cur,fz,hb.trans hg,r⟩
theorem RowM.later {w w':World} {g n cap:Nat} {xs:List UInt8} (h:RowM w g n cap xs) (hb:Below w.heap.size w w'):RowM w' g n cap xs:=h.keep (hb.block g h.lt)
theorem RowM.len {w:World} {g n cap:Nat} {xs:List UInt8} (h:RowM w g n cap xs):xs.length=n:=by
 obtain ⟨_,_,_,_,_,_,hl,_⟩:=h
 exact hl
set_option maxRecDepth 100000 in
theorem run_append_mark (w:World) (t2:TypeId) (g n cap:Nat) (xs:List UInt8) (h:RowM w g n cap xs)
  (B m c:Nat) (A:Option Addr) (news:List UInt8) (hr:RdB w B A m news) (hb:n+m≤140737488355328) :
  ∃ b c' w',(Builtin.append_ #[36,36] t2 #[.slice (some ⟨g,0,none⟩) n cap,.slice A m c]).run Try.prog w=.ok (.slice (some ⟨b,0,none⟩) (n+m) c') w'∧RowM w' b (n+m) c' (xs ++ news)∧w.grownBy w' (some g)∧(b=g∨b=w.heap.size):=by
 have hrow:=h
 obtain ⟨cur,fz,hg,hfz,hcs,hn,hxl,hxs⟩:=h
 obtain ⟨i0,hi,hz0,hz1,hz2⟩:=info_parts Try.info_u8
 have hl:=hr.len
 subst hl
 have hlx:(cb xs).length=n:=by rw [cb_length];exact hxl
 rcases A with _ | ad
 ·have hne:news=[]:=by
   rcases Nat.eq_zero_or_pos news.length with h0 | h0
   ·exact List.eq_nil_of_length_eq_zero h0
   ·obtain ⟨b,o,h,_⟩:=hr.2 h0
    cases h
  subst hne
  refine ⟨g,cap,w,?_,by rw [List.append_nil];exact hrow,World.grownBy.refl w _,.inl rfl⟩
  simp [Builtin.append_,run_underlying Try.underlying36,sizeOf,typeInfo,hi,Builtin.lenOf,Builtin.firstCells,hn,storeCells]
 ·have hcells:∀ j u,(cb news)[j]?=some u→w.cell? (ad.add j)=some u:=by
   intro j u hu
   rcases Nat.eq_zero_or_pos news.length with h0 | h0
   ·have hne:news=[]:=List.eq_nil_of_length_eq_zero h0
    subst hne
    simp [cb] at hu
   ·obtain ⟨b,o,h,_,hc⟩:=hr.2 h0
    injection h with h
    subst h
    rw [add_none]
    exact hc j u hu
  have hnl:(cb news).length=news.length:=cb_length news
  by_cases hroom:n+news.length≤cap
  ·have hf:=run_firstCells_some (P:=Try.prog) w i0.size news.length ad news.length c (cb news) (by rw [hz1,hnl,Nat.mul_one]) hcells
   have hst:=storeCells_mark Try.prog g (n * i0.size) 5 fz (cb news) 0 cur w hg (by rcases hfz with h | h;exact .inl h;exact .inr (by rw [hz1,hnl];omega)) (by rw [hz1,hnl];omega) (cb_one _)
   simp only [Nat.add_zero] at hst
   refine ⟨g,cap,w.setRow g (cur.toList.take (n * i0.size) ++ cb news ++ cur.toList.drop (n * i0.size+(cb news).length)).toArray,?_,?_,⟨rfl,rfl,rfl,by simp,fun k _ hk=>setRow_other w g k _ (fun e=>hk (by rw [e]))⟩,.inl rfl⟩
   ·simp [Builtin.append_,run_underlying Try.underlying36,sizeOf,typeInfo,hi,Builtin.lenOf,hroom,hf,Addr.add_lit,hst]
   ·refine ⟨_,fz,setRow_heap w g cur _ _ _ hg,hfz,?_,hroom,by rw [List.length_append,hxl],?_⟩
    ·simp only [List.size_toArray,List.length_append,List.length_take,List.length_drop,Array.length_toList,hz1,hnl]
     omega
    rw [hz1,Nat.mul_one,hxs]
    show ((cb xs ++ cb news) ++ _).take (n+news.length)=cb (xs ++ news)
    rw [cb_append,← hlx,← hnl,← List.length_append]
    exact List.take_left
  ·have holds:∀ j u,(cb xs)[j]?=some u→w.cell? ((⟨g,0,none⟩:Addr).add j)=some u:=fun j u hu=>by
    obtain ⟨b,o,e,_,hc⟩:=(rd_row hg hxs hxl).2 (by
     have:=(List.getElem?_eq_some_iff.1 hu).1
     omega)
    injection e with e
    injection e with e1 e2
    subst e1 e2
    rw [add_none]
    exact hc j u hu
   have hr2:=run_append_grow (P:=Try.prog) w 36 t2 5 i0 _ Try.underlying36 hi hz0 ⟨g,0,none⟩ n cap (cb xs) (by rw [hz1,hlx,Nat.mul_one]) holds ad news.length c (cb news) (by rw [hz1,hnl,Nat.mul_one]) hcells (by omega) (by omega) (growslice_fits (by omega) (by rw [hz2];omega))
   refine ⟨_,_,_,hr2,?_,⟨rfl,rfl,rfl,by simp,fun k hk _=>heap_alloc_old w.drew _ hk⟩,.inr rfl⟩
   have hge:=grownCap_ge w (n+news.length) cap 5
   refine ⟨_,_,heap_alloc_new w.drew _,.inl rfl,?_,hge,by rw [List.length_append,hxl],?_⟩
   ·have hz3:(Value.int IntKind.u8 0).cells.size=1:=rfl
    simp only [Array.size_append,List.size_toArray,size_zeroCells,hz3,hlx,hnl]
    omega
   rw [Array.toList_append,Array.toList_append]
   show ((cb xs ++ cb news) ++ _).take (n+news.length)=cb (xs ++ news)
   rw [cb_append,← hlx,← hnl,← List.length_append]
   exact List.take_left
/-- A string's bytes as a row. -/
theorem conv_row (w:World) (S:ByteArray) :
  ∃ cap w',(convert 9 36 (.string S)).run Try.prog w=.ok (.slice (some ⟨w.heap.size,0,none⟩) S.size cap) w'∧Below w.heap.size w w'∧w'.heap.size=w.heap.size+1∧RowM w' w.heap.size S.size cap S.data.toList:=by
 have hge:S.size≤grownCap w S.size 0 5:=grownCap_ge w S.size 0 _
 have hsz:(Lib.bytesCells w 5 S).size=grownCap w S.size 0 5:=by
  simp [Lib.bytesCells]
  show S.size+_=_
  omega
 refine ⟨grownCap w S.size 0 5,Lib.bytesWorld w 5 S,Lib.run_convert_string_bytes w 9 36 5 S Try.underlying9 Try.underlying36 Try.underlying5,?_,Lib.bytesWorld_size w _ S,_,_,Lib.bytesWorld_at_new w _ S,.inr (by rw [hsz];exact Nat.le_refl _),hsz,hge,Array.length_toList,?_⟩
 ·exact ⟨rfl,rfl,rfl,by rw [Lib.bytesWorld_size];omega,fun k hk=>Lib.bytesWorld_at_old w _ S k hk⟩
 ·simp [Lib.bytesCells,cb]
theorem wpList_appendM {w:World} {ops:Array Oper} {rest:List Oper} {o:Oper} {a:Act} {Q:Exit→Act→World→Prop} (hgd:o.guard=none) (s x:Operand)
  (ho:o.op=.call { callee:=.builtin .append,args:=#[s,x],argTypes:=#[36,36] })
  (g n cap:Nat) (xs:List UInt8) (hs:a.eval s=.slice (some ⟨g,0,none⟩) n cap) (hrow:RowM w g n cap xs)
  (B m c:Nat) (A:Option Addr) (news:List UInt8) (hx:a.eval x=.slice A m c) (hr:RdB w B A m news) (hb:n+m≤140737488355328)
  (h:∀ b c' w',RowM w' b (n+m) c' (xs ++ news)→w.grownBy w' (some g)→(b=g∨b=w.heap.size)→wpList Try.prog ops Q rest (a.put o.dst (.slice (some ⟨b,0,none⟩) (n+m) c')) w') :
  wpList Try.prog ops Q (o :: rest) a w:=by
 refine wpList_plain hgd fun K hK=>?_
 obtain ⟨b,c',w',hrun,h2,h3,h4⟩:=run_append_mark w o.type g n cap xs hrow B m c A news hr hb
 unfold Oper.wp execOp
 simp only [ho,resolve,invoke,builtin,Sem.run_bind,Sem.run_pure,Result.andThen_ok,List.map_toArray,List.map_cons,List.map_nil,hs,hx,hrun]
 exact hK _ _ (h b c' w' h2 h3 h4)
/-- A row beside one that grows. -/
theorem ownB.beside {w w':World} {base lo hi g:Nat} {p:Value} {bs:List UInt8} (h:ownB w base p bs) (hp:∀ k,p.ownBlock=some k→lo≤k∧k < hi) (hg:w.grownBy w' (some g)) (hv:g < lo∨hi≤g):ownB w' base p bs:=by
 refine World.ownsRow.kept h hg ?_
 cases e:p.ownBlock with
 | none=>exact .inl rfl
 | some k =>
  refine .inr (fun e2=>?_)
  injection e2 with e2
  have h1:=hp k e
  omega
theorem RowM.beside {w w':World} {b n cap g:Nat} {xs:List UInt8} (h:RowM w b n cap xs) (hg:w.grownBy w' (some g)) (hv:b ≠ g):RowM w' b n cap xs:=h.keep (hg.block b h.lt (fun e=>by injection e with e;exact hv e))
end Go.Proofs.Ytdoanopeejeeiaa

