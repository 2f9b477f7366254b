/- XOpenS XOpenZ -/
import Derived.Test.YtdoanopeejeeiaaMk42
import Derived.Test.YtdoanopeejeeiaaMk12
namespace Go.Proofs.Ytdoanopeejeeiaa
set_option linter.all false
open Go.ChangeShapes Go.WideShapes Go.ChangeAt Go.RowKit
theorem wf_rng {n:Int} (h:(Lit.int .i64 n).wf=true):-9223372036854775808≤n∧n≤9223372036854775807:=by
 simp [Lit.wf,IntKind.min,IntKind.max,IntKind.bits,IntKind.signed] at h
 omega
theorem open_intw {H:Type} {enc:TypeId × Value→H} {W:World} {sp:Nat→Bool} {held:Bool} {a:Option Addr} {n c:Nat} {d:DataW H} {p:List MemPlace}
  (h:DataW.Trod enc Try.prog W 0 sp held 35 (.slice a n c) d p):∃ l,RdI W W.heap.size a n l∧n≤c∧c≤maxLen∧∀ x ∈ l,-9223372036854775808≤x∧x≤9223372036854775807:=by
 obtain ⟨fuel,hf⟩:=h
 rcases open_ints Try.underlying35 Try.underlying3 (by kernel_rfl) hf with ⟨hcs,_⟩ | ⟨x,l,cc,zs,hcs,_,hl,hm,hz,_,hcell,hwz⟩
 ·simp [Value.cells] at hcs
  obtain ⟨rfl,rfl,rfl⟩:=hcs
  exact ⟨[],Rd.none_,by omega,by simp,fun x hx=>by cases hx⟩
 ·simp [Value.cells] at hcs
  obtain ⟨rfl,rfl,rfl⟩:=hcs
  have hzn:n≤zs.length:=by rw [hz];split <;> omega
  refine ⟨zs.take n,⟨by simp [cI];omega,fun hn=>?_⟩,hl,hm,fun x hx=>wf_rng (hwz x (List.mem_of_mem_take hx))⟩
  have h0:=hcell 0 (by omega)
  obtain ⟨b,o,spot⟩:=x
  have hspot:spot=none:=by simpa [Addr.add] using World.cell?_spot h0
  subst hspot
  refine ⟨b,o,rfl,?_,fun j u hu=>?_⟩
  ·have:=block_lt_of_cell h0
   simpa [add_none] using this
  ·have hj:j < n:=by
    have:=(List.getElem?_eq_some_iff.1 hu).1
    simp [cI] at this
    omega
   have h1:=hcell j (by omega)
   rw [add_none] at h1
   rw [h1]
   simp [cI,hj] at hu
   obtain ⟨y,hy,rfl⟩:=hu
   rw [List.getD_eq_getElem?_getD,hy]
   rfl
theorem two_set:Try.prog.cellsOf 38=2:=by kernel_rfl
theorem cells2_of {w:World} {base:Nat} {a:Addr} {cs:List Value} (h:w.cells? base a 2=some cs):∃ c0 c1,cs=[c0,c1]∧w.cell? a=some c0∧w.cell? (a.add 1)=some c1:=by
 obtain ⟨_,hlen,hc⟩:=World.cells?_some h
 match cs,hlen with
 | [c0,c1],_ =>
  have h0:=hc 0 (by omega)
  have h1:=hc 1 (by omega)
  exact ⟨_,_,rfl,by simpa [Addr.add] using h0,by simpa using h1⟩
theorem set_cells {H:Type} {enc:TypeId × Value→H} {W:World} {sp:Nat→Bool} {held:Bool} {fuel:Nat} {c0 c1:Value} {x:DataW H × List MemPlace}
  (h:DataW.trod enc Try.prog W 0 sp held fuel 38 [c0,c1]=some x) :
  ∃ (y:ST) (ats:List Int) (cs:Bs),c0=.slice y.1.1 y.1.2.1 y.1.2.2∧c1=.slice y.2.1 y.2.2.1 y.2.2.2∧RdI W W.heap.size y.1.1 y.1.2.1 ats∧RdB W W.heap.size y.2.1 y.2.2.1 cs∧∀ x ∈ ats,-9223372036854775808≤x∧x≤9223372036854775807:=by
 obtain ⟨xs,n,rfl,hx,hcl,hlen,hg⟩:=DataW.trod_struct Try.underlying38 h
 have h0:=hg 0 _ rfl
 have h1:=hg 1 _ rfl
 have hl:xs.length=2:=hlen
 have e1:Try.prog.cellsOf 35=1:=by kernel_rfl
 have e4:Try.prog.cellsOf 36=1:=by kernel_rfl
 simp only [List.getElem_toArray,List.getElem_cons_zero,List.getElem_cons_succ,e1,e4,List.drop_succ_cons,List.drop_zero,List.take_succ_cons,List.take_zero] at h0 h1
 rw [List.getElem?_eq_getElem (by omega)] at h0 h1
 have hs0:∃ A n c,c0=.slice A n c:=by
  rcases open_ints Try.underlying35 Try.underlying3 (by kernel_rfl) h0 with ⟨hcs,_⟩ | ⟨x,l,cc,zs,hcs,_⟩
  ·injection hcs with hcs;exact ⟨_,_,_,hcs⟩
  ·injection hcs with hcs;exact ⟨_,_,_,hcs⟩
 have hs1:∃ A n c,c1=.slice A n c:=by
  rcases open_ints Try.underlying36 Try.underlying5 (by kernel_rfl) h1 with ⟨hcs,_⟩ | ⟨x,l,cc,zs,hcs,_⟩
  ·injection hcs with hcs;exact ⟨_,_,_,hcs⟩
  ·injection hcs with hcs;exact ⟨_,_,_,hcs⟩
 obtain ⟨A1,n1,k1,rfl⟩:=hs0
 obtain ⟨A2,n2,k2,rfl⟩:=hs1
 obtain ⟨ats,hr1,-,-,hw⟩:=open_intw ⟨_,h0⟩
 obtain ⟨cs,hr2,-,-⟩:=open_bytes ⟨_,h1⟩
 exact ⟨((A1,n1,k1),(A2,n2,k2)),ats,cs,rfl,rfl,hr1,hr2,hw⟩
theorem open_sets {H:Type} {enc:TypeId × Value→H} {W:World} {sp:Nat→Bool} {held:Bool} {a:Option Addr} {n c:Nat} {d:DataW H} {p:List MemPlace}
  (h:DataW.Trod enc Try.prog W 0 sp held 22 (.slice a n c) d p):∃ l,RdSets W W.heap.size a n l∧n≤c∧c≤maxLen:=by
 obtain ⟨fuel,hf⟩:=h
 rcases Go.Deep.open_slice Try.underlying22 hf with ⟨hcs,_⟩ | ⟨x,l,cc,m,k,D,Pl,hcs,_,hl,hm,hmm,_,hx⟩
 ·simp [Value.cells] at hcs
  obtain ⟨rfl,rfl,rfl⟩:=hcs
  exact ⟨[],⟨[],Rd.none_,rfl,fun i ats cs e=>by simp at e⟩,by omega,by simp⟩
 ·simp [Value.cells] at hcs
  obtain ⟨rfl,rfl,rfl⟩:=hcs
  have hnm:n≤m:=by rw [hmm];split <;> omega
  rw [two_set] at hx
  have each:∀ i,i < n→∃ y:ST × (List Int × Bs),W.cell? (x.add (i * 2))=some (.slice y.1.1.1 y.1.1.2.1 y.1.1.2.2)∧W.cell? ((x.add (i * 2)).add 1)=some (.slice y.1.2.1 y.1.2.2.1 y.1.2.2.2)∧RdI W W.heap.size y.1.1.1 y.1.1.2.1 y.2.1∧RdB W W.heap.size y.1.2.1 y.1.2.2.1 y.2.2∧∀ x ∈ y.2.1,-9223372036854775808≤x∧x≤9223372036854775807:=by
   intro i hi
   obtain ⟨cs',h1,h2⟩:=hx i (by omega)
   obtain ⟨c0,c1,rfl,k0,k1⟩:=cells2_of h1
   obtain ⟨y,ats,cs,rfl,rfl,q1,q2,q3⟩:=set_cells h2
   exact ⟨(y,(ats,cs)),k0,k1,q1,q2,q3⟩
  obtain ⟨Y,hY⟩:=Go.Deep.choose_lt (α:=ST × (List Int × Bs)) (p:=fun i y=>W.cell? (x.add (i * 2))=some (.slice y.1.1.1 y.1.1.2.1 y.1.1.2.2)∧W.cell? ((x.add (i * 2)).add 1)=some (.slice y.1.2.1 y.1.2.2.1 y.1.2.2.2)∧RdI W W.heap.size y.1.1.1 y.1.1.2.1 y.2.1∧RdB W W.heap.size y.1.2.1 y.1.2.2.1 y.2.2∧∀ x ∈ y.2.1,-9223372036854775808≤x∧x≤9223372036854775807) each
  refine ⟨(List.range n).map fun i=>(Y i).2,⟨(List.range n).map fun i=>(Y i).1,⟨by rw [cA_length];simp,fun hn=>?_⟩,by simp,fun i ats cs e=>?_⟩,hl,hm⟩
  ·have hn':0 < n:=hn
   obtain ⟨b,o,spot⟩:=x
   have hc0:=(hY 0 hn').1
   have hspot:spot=none:=by simpa [Addr.add] using World.cell?_spot hc0
   subst hspot
   refine ⟨b,o,rfl,?_,fun j u hu=>?_⟩
   ·have:=block_lt_of_cell hc0
    simpa [add_none] using this
   ·have hj:=(List.getElem?_eq_some_iff.1 hu).1
    rw [cA_length] at hj
    have hq:j / 2 < n:=by simp at hj;omega
    have hg:=cA_get ((List.range n).map fun i=>(Y i).1) (j / 2) (j % 2) (by simpa using hq) (by omega)
    rw [show j / 2 * 2+j % 2=j by omega,hu] at hg
    obtain ⟨g0,g1,-⟩:=hY (j / 2) hq
    rw [add_none] at g0 g1
    rw [add_none] at g1
    have he:((List.range n).map fun i=>(Y i).1)[j / 2]'(by simpa using hq)=(Y (j / 2)).1:=by simp
    rw [he] at hg
    rcases Nat.mod_two_eq_zero_or_one j with h2 | h2
    ·rw [h2] at hg
     injection hg with hg
     rw [hg]
     rw [show o+j=o+j / 2 * 2 by omega]
     exact g0
    ·rw [h2] at hg
     injection hg with hg
     rw [hg]
     rw [show o+j=o+j / 2 * 2+1 by omega]
     exact g1
  ·have hi:=(List.getElem?_eq_some_iff.1 e).1
   have hi2:i < n:=by simpa using hi
   rw [List.getElem?_map,List.getElem?_range hi2] at e
   injection e with e
   have e':(Y i).2=(ats,cs):=e
   obtain ⟨-,-,q1,q2,q3⟩:=hY i hi2
   rw [e'] at q1 q2 q3
   refine ⟨(Y i).1.1.1,(Y i).1.1.2.1,(Y i).1.1.2.2,(Y i).1.2.1,(Y i).1.2.2.1,(Y i).1.2.2.2,?_,q1,q2,q3⟩
   rw [List.getElem?_map,List.getElem?_range hi2]
   rfl
end Go.Proofs.Ytdoanopeejeeiaa

/- A set as an argument. -/
namespace Go.Proofs.Ytdoanopeejeeiaa
set_option linter.all false
open Go.ChangeShapes Go.WideShapes Go.ChangeAt Go.RowKit
theorem open_set {H:Type} {enc:TypeId × Value→H} {W:World} {r:Reach} {b0:Nat} {sp:Nat→Bool} {held:Bool} {v:Value} {d:DataW H} {p:List MemPlace}
  (hv:Value.okWide Try.prog W r b0 38 v) (h:DataW.Trod enc Try.prog W 0 sp held 38 v d p) :
  ∃ (A1:Option Addr) (n1 c1:Nat) (A2:Option Addr) (n2 c2:Nat) (ats:List Int) (cs:Bs),v=.agg #[.slice A1 n1 c1,.slice A2 n2 c2]∧RdI W W.heap.size A1 n1 ats∧RdB W W.heap.size A2 n2 cs∧∀ x ∈ ats,-9223372036854775808≤x∧x≤9223372036854775807:=by
 obtain ⟨cs,rfl,hsz⟩:=okWide_struct Try.underlying38 hv
 rw [two_set] at hsz
 obtain ⟨l⟩:=cs
 match l,hsz with
 | [c0,c1],_ =>
  obtain ⟨fuel,hf⟩:=h
  obtain ⟨y,ats,bs,rfl,rfl,q1,q2,q3⟩:=set_cells (c0:=c0) (c1:=c1) (by simpa [Value.cells] using hf)
  exact ⟨_,_,_,_,_,_,ats,bs,rfl,q1,q2,q3⟩
end Go.Proofs.Ytdoanopeejeeiaa

