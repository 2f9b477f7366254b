/- Merged: Huff3, Huff4, HuffP. -/
import Derived.Test.YteoolehdomjkkaaGreatMd04
/- huff: merged. -/
namespace Go.Proofs.YteoolehdomjkkaaGreat
set_option linter.all false
open Go.RowKit
theorem mrgBy_nil {α:Type} {wt:α→Int} (a b:List α) (h:a=[]∨b=[]):mrgBy wt a b=a ++ b:=by
 rcases h with rfl | rfl
 ·rw [mrgBy,List.nil_append]
 ·cases a with
  | nil=>rw [mrgBy,List.nil_append]
  | cons x r=>rw [mrgBy,List.append_nil]
theorem mrgBy_lt {α:Type} {wt:α→Int} {x y:α} {r s:List α} (h:wt y < wt x):mrgBy wt (x :: r) (y :: s)=y :: mrgBy wt (x :: r) s:=by rw [mrgBy,if_pos h]
theorem mrgBy_ge {α:Type} {wt:α→Int} {x y:α} {r s:List α} (h:¬ wt y < wt x):mrgBy wt (x :: r) (y :: s)=x :: mrgBy wt r (y :: s):=by rw [mrgBy,if_neg h]
theorem mrgBy_len {α:Type} {wt:α→Int} (a b:List α):(mrgBy wt a b).length=a.length+b.length:=by
 fun_induction mrgBy wt a b with
 | case1=>simp
 | case2=>simp
 | case3 _ _ _ _ _ ih=>simp [ih];omega
 | case4 _ _ _ _ _ ih=>simp [ih];omega
theorem mrgBy_mem {α:Type} {wt:α→Int} (a b:List α) (z:α):z ∈ mrgBy wt a b ↔ z ∈ a∨z ∈ b:=by
 fun_induction mrgBy wt a b with
 | case1=>simp
 | case2=>simp
 | case3 _ _ _ _ _ ih=>grind
 | case4 _ _ _ _ _ ih=>grind
theorem mrgBy_map {α β:Type} (f:α→β) (wt:β→Int) (a b:List α):(mrgBy (fun x=>wt (f x)) a b).map f=mrgBy wt (a.map f) (b.map f):=by
 fun_induction mrgBy (fun x=>wt (f x)) a b with
 | case1=>simp [mrgBy]
 | case2=>simp [mrgBy]
 | case3 _ _ _ _ h ih=>rw [List.map_cons,ih,List.map_cons,List.map_cons,mrgBy_lt h] <;> rfl
 | case4 _ _ _ _ h ih=>rw [List.map_cons,ih,List.map_cons,List.map_cons,mrgBy_ge h] <;> rfl
def slen:Value→Nat
 | .slice _ k _=>k
 | _=>0
theorem slen_slice (A:Option Addr) (k c:Nat):slen (.slice A k c)=k:=rfl
theorem rdp_any {w:World} {B n:Nat} {A A':Option Addr} {zs:List MP} (h:RdP w B A n zs) (hn:n=0):RdP w B A' n zs:=by
 subst hn
 have:zs=[]:=List.eq_nil_of_length_eq_zero h.len
 subst this
 exact RdP.nil_
/-- The first element of a slice, and the rest. -/
theorem RdP.uncons {w:World} {B n:Nat} {A:Option Addr} {zs:List MP} (h:RdP w B A n zs) (hn:0 < n):∃ b o z r,A=some ⟨b,o,none⟩∧b < B∧zs=z :: r∧w.cell? ⟨b,o,none⟩=some (.pointer (some ⟨z.1,0,none⟩))∧RdP w B (some ⟨b,o+1,none⟩) (n - 1) r:=by
 obtain ⟨b,o,z,rfl,hb,HX,e⟩:=h.one hn
 have hl:=h.len
 cases zs with
 | nil=>simp at hl;omega
 | cons z' r =>
  have:z'=z:=by have:=HX;simpa [Hid] using this
  subst this
  have hr:=h.cut (k:=1) (m:=n - 1) (by omega) (A':=some ⟨b,o+1,none⟩) (fun _=>by simp [add_none])
  simp at hl
  rw [List.drop_one,List.tail_cons,List.take_of_length_le (by omega)] at hr
  exact ⟨b,o,z',r,rfl,hb,rfl,e,hr⟩
set_option maxRecDepth 100000 in
set_option maxHeartbeats 3200000 in
theorem merged_any (S:Nat→Prop) (B n m ca cb:Nat) (A A':Option Addr) (zs1 zs2:List MP) (w:World) (h1:RdP w B A n zs1) (h2:RdP w B A' m zs2) (hnc:n≤ca) (hmc:m≤cb) (hca:ca≤maxLen) (hcb:cb≤maxLen) (hB1:B≤w.heap.size) (hn:n+m≤1099511627776)
  (hM:∀ z,z ∈ zs1∨z ∈ zs2→w.cell? ⟨z.1,0,none⟩=some (.int .i64 z.2.w)) :
  Calls Tryz.prog 157 #[.slice A n ca,.slice A' m cb] w fun e w'=>∃ A' n' c' zs',e=.returned (.slice A' n' c')∧n'=zs'.length∧ownP w' w.heap.size (.slice A' n' c') zs' ∧
   zs'=mrgBy mw zs1 zs2∧Below w.heap.size w w':=by
 have hB:=Below.refl w.heap.size w
 have H1:=Lib.hid h1
 have H2:=Lib.hid h2
 have HM:=Lib.hid hM
 unfold maxLen at hca hcb
 clear h1 h2 hM
 go_enter Tryz.func157,Tryz.ntmps157
 go_wp2
 go_loopw [0,1,5] (fun va vb v wr=>∃ (A1 A2:Option Addr) (n1 n2 c1 c2:Nat) (as_ bs out:List MP),va=.slice A1 n1 c1∧vb=.slice A2 n2 c2∧n1≤c1∧n2≤c2∧c1≤2 ^ 63 - 1∧c2≤2 ^ 63 - 1∧out.length+n1+n2≤n+m∧Hid (RdP w B A1 n1 as_)∧Hid (RdP w B A2 n2 bs) ∧
   Hid (∀ z,z ∈ as_∨z ∈ bs→z ∈ zs1∨z ∈ zs2)∧Hid (out ++ mrgBy mw as_ bs=mrgBy mw zs1 zs2)∧Hid (ownP wr w.heap.size v out)∧Below w.heap.size w wr)
  (fun va vb _ _=>slen va+slen vb)
 case atStart=>exact ⟨A,A',n,m,ca,cb,zs1,zs2,[],rfl,rfl,hnc,hmc,hca,hcb,by simp,H1,H2,(show ∀ z,_ from fun z h=>h),rfl,ownP.nil_ _ _,hB⟩
 case round =>
  clear hB
  obtain ⟨A1,A2,n1,n2,c1,c2,as_,bs,out,rfl,rfl,l1,l2,l3,l4,hsum,R1,R2,HS,HZ,HO,hB⟩:=hrel
  have hsz:=hB.size
  by_cases hlt:0 < n1∧0 < n2
  ·obtain ⟨g1,g2⟩:=hlt
   obtain ⟨b,o,x,at_,rfl,hb,rfl,e1,R1'⟩:=R1.out.uncons g1
   obtain ⟨b',o',y,bt,rfl,hb',rfl,e2,R2'⟩:=R2.out.uncons g2
   have f1:wr.cell? ⟨b,o,none⟩=some (.pointer (some ⟨x.1,0,none⟩)):=(hB.cell (p:=⟨b,o,none⟩) (by show b < _;omega)).trans e1
   have f2:wr.cell? ⟨b',o',none⟩=some (.pointer (some ⟨y.1,0,none⟩)):=(hB.cell (p:=⟨b',o',none⟩) (by show b' < _;omega)).trans e2
   have wx0:=HM.out x (HS.out x (by simp))
   have wy0:=HM.out y (HS.out y (by simp))
   have wx:wr.cell? ⟨x.1,0,none⟩=some (.int .i64 x.2.w):=(hB.cell (p:=⟨x.1,0,none⟩) (block_lt_of_cell (a:=⟨x.1,0,none⟩) wx0)).trans wx0
   have wy:wr.cell? ⟨y.1,0,none⟩=some (.int .i64 y.2.w):=(hB.cell (p:=⟨y.1,0,none⟩) (block_lt_of_cell (a:=⟨y.1,0,none⟩) wy0)).trans wy0
   have HR1:=Lib.hid R1'
   have HR2:=Lib.hid R2'
   have d1:decide ((n1:Int) > 0)=true:=decide_eq_true (by omega)
   have d2:decide ((n2:Int) > 0)=true:=decide_eq_true (by omega)
   clear e1 e2 wx0 wy0 R1' R2'
   by_cases hlt:y.2.w < x.2.w
   ·have HZ2:Hid ((out ++ [y]) ++ mrgBy mw (x :: at_) bt=mrgBy mw zs1 zs2):=(show _=_ by rw [← HZ.out,mrgBy_lt (wt:=mw) hlt];simp)
    have HBB:=Lib.hid (fun k:Nat=>(bdrewN hB (k+1)).alloc (o:=.cells #[.pointer (some ⟨y.1,0,none⟩)] 194) hsz)
    go_wp2_with fail
    go_quiet (fail)
    by_cases hc:c2=1
    ·obtain rfl:n2=1:=by omega
     subst hc
     go_wp2_with fail
     go_region_law (go_must (refine step_appendP rfl (.tmp 27) (.tmp 31) rfl w.heap.size u5 out rfl ((ownP.drewN HO.out (nq+1)).alloc _) _ 1 1 _ [y] rfl (rd_oneP (wr.drewN (nq+1)) y) (by omega) (by simp;omega) ?_;intro v' w2 ho hg hb2 hv;have HO2:=Lib.hid ho;have HB2:=Lib.hid hb2;clear ho hg hb2 hv))
     all_goals
      go_simp
      go_wp2_with fail
      go_roundw
      case rel=>exact ⟨some ⟨b,o,none⟩,some ⟨b',o',none⟩,n1,0,c1,0,x :: at_,bt,out ++ [y],rfl,rfl,l1,by omega,l3,by omega,by simp;omega,R1,(show RdP _ _ _ _ _ from rdp_any HR2.out (by omega)),(show ∀ z,_ from fun z hz=>HS.out z (by rcases hz with hz | hz <;> simp_all)),HZ2,HO2,(HBB.out nq).trans HB2.out⟩
      case measure=>simp only [slen_slice];omega
    ·have k1:(1:Int)≤(n2:Int):=by omega
     go_wp2_with fail
     go_region_law (go_must (refine step_appendP rfl (.tmp 27) (.tmp 31) rfl w.heap.size u5 out rfl ((ownP.drewN HO.out (nq+1)).alloc _) _ 1 1 _ [y] rfl (rd_oneP (wr.drewN (nq+1)) y) (by omega) (by simp;omega) ?_;intro v' w2 ho hg hb2 hv;have HO2:=Lib.hid ho;have HB2:=Lib.hid hb2;clear ho hg hb2 hv))
     all_goals
      go_simp
      go_wp2_with fail
      go_roundw
      case rel=>exact ⟨some ⟨b,o,none⟩,some ⟨b',o'+1,none⟩,n1,n2 - 1,c1,c2 - 1,x :: at_,bt,out ++ [y],rfl,rfl,l1,by omega,l3,by omega,by simp;omega,R1,HR2,(show ∀ z,_ from fun z hz=>HS.out z (by rcases hz with hz | hz <;> simp_all)),HZ2,HO2,(HBB.out nq).trans HB2.out⟩
      case measure=>simp only [slen_slice];omega
   ·have HZ2:Hid ((out ++ [x]) ++ mrgBy mw at_ (y :: bt)=mrgBy mw zs1 zs2):=(show _=_ by rw [← HZ.out,mrgBy_ge (wt:=mw) hlt];simp)
    have HBB:=Lib.hid (fun k:Nat=>(bdrewN hB (k+1)).alloc (o:=.cells #[.pointer (some ⟨x.1,0,none⟩)] 194) hsz)
    go_wp2_with fail
    go_quiet (fail)
    by_cases hc:c1=1
    ·obtain rfl:n1=1:=by omega
     subst hc
     go_wp2_with fail
     go_region_law (go_must (refine step_appendP rfl (.tmp 35) (.tmp 39) rfl w.heap.size u5 out rfl ((ownP.drewN HO.out (nq+1)).alloc _) _ 1 1 _ [x] rfl (rd_oneP (wr.drewN (nq+1)) x) (by omega) (by simp;omega) ?_;intro v' w2 ho hg hb2 hv;have HO2:=Lib.hid ho;have HB2:=Lib.hid hb2;clear ho hg hb2 hv))
     all_goals
      go_simp
      go_wp2_with fail
      go_roundw
      case rel=>exact ⟨some ⟨b,o,none⟩,some ⟨b',o',none⟩,0,n2,0,c2,at_,y :: bt,out ++ [x],rfl,rfl,by omega,l2,by omega,l4,by simp;omega,(show RdP _ _ _ _ _ from rdp_any HR1.out (by omega)),R2,(show ∀ z,_ from fun z hz=>HS.out z (by rcases hz with hz | hz <;> simp_all)),HZ2,HO2,(HBB.out nq).trans HB2.out⟩
      case measure=>simp only [slen_slice];omega
    ·have k1:(1:Int)≤(n1:Int):=by omega
     go_wp2_with fail
     go_region_law (go_must (refine step_appendP rfl (.tmp 35) (.tmp 39) rfl w.heap.size u5 out rfl ((ownP.drewN HO.out (nq+1)).alloc _) _ 1 1 _ [x] rfl (rd_oneP (wr.drewN (nq+1)) x) (by omega) (by simp;omega) ?_;intro v' w2 ho hg hb2 hv;have HO2:=Lib.hid ho;have HB2:=Lib.hid hb2;clear ho hg hb2 hv))
     all_goals
      go_simp
      go_wp2_with fail
      go_roundw
      case rel=>exact ⟨some ⟨b,o+1,none⟩,some ⟨b',o',none⟩,n1 - 1,n2,c1 - 1,c2,at_,y :: bt,out ++ [x],rfl,rfl,by omega,l2,by omega,l4,by simp;omega,HR1,R2,(show ∀ z,_ from fun z hz=>HS.out z (by rcases hz with hz | hz <;> simp_all)),HZ2,HO2,(HBB.out nq).trans HB2.out⟩
      case measure=>simp only [slen_slice];omega
  ·have HE:Hid (out ++ as_ ++ bs=mrgBy mw zs1 zs2):=(show _=_ by
    rw [← HZ.out,mrgBy_nil]
    ·simp
    ·have h1:=R1.out.len
     have h2:=R2.out.len
     by_cases hh:0 < n1
     ·exact .inr (List.eq_nil_of_length_eq_zero (by omega))
     ·exact .inl (List.eq_nil_of_length_eq_zero (by omega)))
   have L1:=Lib.hid R1.out.len
   have L2:=Lib.hid R2.out.len
   by_cases g1:0 < n1 <;> by_cases g2:0 < n2 <;> (first | (exfalso;omega) | skip)
   all_goals
    go_wp2_with (first
     | (at_builtin;(refine wpList_appendP rfl (.tmp 43) (.tmp 44) rfl w.heap.size u5 out rfl HO.out B n1 c1 A1 as_ rfl (R1.out.blw (hB.mono hB1)) (by omega) hsz ?_;intro v' w2 ho hg hb2 hv;have HO2:=Lib.hid ho;have HB2:=Lib.hid (hB.trans hb2);clear ho hg hb2 hv))
     | (at_builtin;(refine wpList_appendP rfl (.tmp 45) (.tmp 46) rfl w.heap.size v' (out ++ as_) rfl HO2.out B n2 c2 A2 bs rfl (R2.out.blw (HB2.out.mono hB1)) (by have:=L1.out;simp;omega) HB2.out.size ?_;intro v4 w4 ho hg hb2 hv;have HO4:=Lib.hid ho;have HB4:=Lib.hid (HB2.out.trans hb2);clear ho hg hb2 hv)))
    obtain ⟨A9,c9,rfl,h91,h92,h93⟩:=HO4.out.form
    go_ret
    exact ⟨A9,_,c9,_,rfl,rfl,HO4.out,HE.out,HB4.out⟩
end Go.Proofs.YteoolehdomjkkaaGreat

/- huff: counts. -/
namespace Go.Proofs.YteoolehdomjkkaaGreat
set_option linter.all false
open Go.RowKit
def Sg (hi g:Nat):Nat→Prop:=fun b=>b < hi∧b ≠ g
theorem isM.gro {hi g:Nat} {w w':World} {a:Nat} {t:Mem} (h:isM w (Sg hi g) a t) (hg:w.grownBy w' (some g)) (hh:hi≤w.heap.size):isM w' (Sg hi g) a t :=
 h.keep (fun p hp=>World.cell?_of_block (hg.block p.block (by have:=hp.1;omega) (fun e=>hp.2 (by injection e)))) (fun _ h=>h)
theorem grown_trans {w w' w'':World} {row:Option Nat} (h:w.grownBy w' row) (k:w'.grownBy w'' row):w.grownBy w'' row :=
 ⟨k.os.trans h.os,k.tape.trans h.tape,k.output.trans h.output,Nat.le_trans h.size k.size,fun i hi hne=>(k.block i (Nat.lt_of_lt_of_le hi h.size) hne).trans (h.block i hi hne)⟩
theorem bump_len (xs:List Int) (p:Nat):(bump xs p).length=xs.length:=by simp [bump]
theorem bumps_len (xs:List Int) (ps:List Nat):(bumps xs ps).length=xs.length:=by
 induction ps generalizing xs with
 | nil=>rfl
 | cons p ps ih=>unfold bumps at ih ⊢;rw [List.foldl_cons,ih,bump_len]
theorem bumps_append (xs:List Int) (ps qs:List Nat):bumps xs (ps ++ qs)=bumps (bumps xs ps) qs:=by unfold bumps;rw [List.foldl_append]
theorem bump_rng {xs:List Int} {p:Nat} {M:Int} (h:∀ x ∈ xs,0≤x∧x≤M) (hM:0≤M):∀ x ∈ bump xs p,0≤x∧x≤M+1:=by
 intro x hx
 unfold bump at hx
 rcases List.mem_or_eq_of_mem_set hx with hx | rfl
 ·have:=h x hx;omega
 ·rw [List.getD_eq_getElem?_getD]
  cases he:xs[p]? with
  | none=>simp;omega
  | some y =>
   have:=h y (List.mem_of_getElem? he)
   simp
   omega
theorem bumps_rng {xs:List Int} {ps:List Nat} {M:Int} (h:∀ x ∈ xs,0≤x∧x≤M) (hM:0≤M):∀ x ∈ bumps xs ps,0≤x∧x≤M+ps.length:=by
 induction ps generalizing xs M with
 | nil=>intro x hx;have:=h x hx;simp;omega
 | cons p ps ih =>
  intro x hx
  have:=ih (bump_rng (p:=p) h hM) (by omega) x (by unfold bumps at hx ⊢;rwa [List.foldl_cons] at hx)
  simp at this ⊢
  omega
set_option maxRecDepth 100000 in
set_option maxHeartbeats 3200000 in
theorem counts_any (base g n c hi:Nat) (hn:n≤1099511627776):∀ (t:Mem) (a:Nat) (xs:List Int) (M:Int) (w:World),isM w (Sg hi g) a t→hi≤w.heap.size→ownI w base (.slice (some ⟨g,0,none⟩) n c) xs→n=xs.length →
  (∀ p ∈ t.items,p < n)→(∀ x ∈ xs,0≤x∧x≤M)→0≤M→M+t.items.length≤1099511627776 →
  Calls Tryz.prog 159 #[.pointer (some ⟨a,0,none⟩),.slice (some ⟨g,0,none⟩) n c] w fun e w'=>e=.returned (.tuple #[])∧ownI w' base (.slice (some ⟨g,0,none⟩) n c) (bumps xs t.items)∧w.grownBy w' (some g):=by
 intro t
 induction t with
 | leaf x p =>
  intro a xs M w h hh ho hl hp hx hM0 hM
  obtain ⟨sa,c0,c1,c2⟩:=h
  have hpn:p < n:=hp p (by simp [Mem.items])
  have e0:=ho.cell hl (k:=p) (by omega)
  have f0:=ho.frozen hl p
  have hxb:=hx (xs[p]'(by omega)) (List.getElem_mem _)
  have hs:=ho.store hl p (xs[p]'(by omega)+1)
  have HB:Hid (bumps xs (Mem.leaf x p).items=xs.set p (xs[p]'(by omega)+1)):=(show _=_ by
   show bump xs p=_
   unfold bump
   rw [List.getD_eq_getElem?_getD,List.getElem?_eq_getElem (by omega)]
   rfl)
  generalize xs[p]'(by omega)=y at *
  have HS:=Lib.hid hs
  have hM1:M+1≤1099511627776:=by simpa [Mem.items] using hM
  clear hs ho hl hp hx hM
  have c3:(w.setCell ⟨g,p,none⟩ (.int .i64 (y+1))).cell? ⟨a,2,none⟩=some (.slice none 0 0):=(World.cell?_setCell_other w ⟨g,p,none⟩ ⟨a,2,none⟩ _ (by intro e;injection e with e;exact sa.2 e.symm)).trans c2
  have HG:=Lib.hid (grown_setCell (g:=g) (k:=p) (grown_refl0 w (some g)) (.int .i64 (y+1)))
  go_enter Tryz.func159,Tryz.ntmps159
  go_wp2
  refine wp_loop_rounds 1 ?_
  rw [rounds_succ]
  go_wp2
  go_end0
  exact ⟨rfl,by rw [HB.out];exact HS.out,HG.out⟩
 | node l r ihl ihr =>
  intro a xs M w h hh ho hl hp hx hM0 hM
  obtain ⟨_,c0,c1,gp,o,cp,x,y,c2,sg,_,_,d0,d1,hml,hmr⟩:=h
  have hil:(Mem.node l r).items=l.items ++ r.items:=rfl
  rw [hil] at hp hM ⊢
  rw [List.length_append] at hM
  have HL:=Lib.hid (ihl x xs M w hml hh ho hl (fun p h=>hp p (List.mem_append_left _ h)) hx hM0 (by omega))
  have HR:=Lib.hid (fun (w':World) (hg:w.grownBy w' (some g)) (ho':ownI w' base (.slice (some ⟨g,0,none⟩) n c) (bumps xs l.items)) =>
   ihr y (bumps xs l.items) (M+l.items.length) w' (hmr.gro hg hh) (Nat.le_trans hh hg.size) ho' (by rw [bumps_len];exact hl) (fun p h=>hp p (List.mem_append_right _ h)) (bumps_rng hx hM0) (by omega) (by omega))
  have HK:=Lib.hid (fun (w':World) (hg:w.grownBy w' (some g))=>(⟨(World.cell?_of_block (hg.block gp (by have:=sg.1;omega) (fun e=>sg.2 (by injection e)))).trans d0,(World.cell?_of_block (hg.block gp (by have:=sg.1;omega) (fun e=>sg.2 (by injection e)))).trans d1⟩:w'.cell? ⟨gp,o,none⟩=some (.pointer (some ⟨x,0,none⟩))∧w'.cell? ⟨gp,o+1,none⟩=some (.pointer (some ⟨y,0,none⟩))))
  have HB:=Lib.hid (bumps_append xs l.items r.items)
  clear ihl ihr hml hmr ho hl hp hx hM hil
  go_enter Tryz.func159,Tryz.ntmps159
  go_wp2
  refine wp_loop_rounds 3 ?_
  rw [rounds_succ]
  go_wp2_with (go_at_call 159;(with_reducible refine HL.out.mono ?_);go_must (rintro e w1 ⟨rfl,ho1,hg1⟩;have HO1:=Lib.hid ho1;have HG1:=Lib.hid hg1;obtain ⟨k0,k1⟩:=HK.out w1 hg1;clear ho1 hg1))
  rw [rounds_succ]
  go_wp2_with (go_at_call 159;(with_reducible refine (HR.out _ HG1.out HO1.out).mono ?_);go_must (rintro e w2 ⟨rfl,ho2,hg2⟩;have HO2:=Lib.hid ho2;have HG2:=Lib.hid (grown_trans HG1.out hg2);clear ho2 hg2))
  rw [rounds_succ]
  go_wp2
  go_end0
  exact ⟨rfl,by rw [HB.out];exact HO2.out,HG2.out⟩
end Go.Proofs.YteoolehdomjkkaaGreat

/- huff: plain facts on items and packages. -/
namespace Go.Proofs.YteoolehdomjkkaaGreat
set_option linter.all false
theorem leaves_mem {ws:List Int} {t:Mem} (h:t ∈ leaves ws):∃ (p:Nat) (hp:p < ws.length),t=.leaf ws[p] p∧0 < ws[p]:=by
 unfold leaves at h
 rw [List.mem_filterMap] at h
 obtain ⟨⟨x,k⟩,hx,he⟩:=h
 obtain ⟨hk,hx'⟩:=List.mem_zipIdx' hx
 simp only at he
 rw [hx'] at he
 split at he
 ·rename_i h0
  injection he with he
  exact ⟨k,hk,he.symm,h0⟩
 ·cases he
theorem packs_len (l:List Mem):(packs l).length=l.length / 2:=by
 fun_induction packs l with
 | case1 a b r ih=>simp [ih];omega
 | case2 l h =>
  match l,h with
  | [],_=>rfl
  | [x],_=>simp
  | a :: b :: r,h=>exact absurd rfl (h a b r)
theorem packs_mem {l:List Mem} {t:Mem} (h:t ∈ packs l):∃ a b,t=.node a b∧a ∈ l∧b ∈ l:=by
 fun_induction packs l with
 | case1 a b r ih =>
  rcases List.mem_cons.1 h with rfl | h
  ·exact ⟨a,b,rfl,by simp,by simp⟩
  ·obtain ⟨x,y,e,hx,hy⟩:=ih h
   exact ⟨x,y,e,by simp [hx],by simp [hy]⟩
 | case2=>cases h
theorem pmL_len (first:List Mem) (k:Nat):(pmL first (k+1)).length=first.length+(pmL first k).length / 2:=by
 rw [pmL,mrgBy_len,packs_len]
theorem pm_long (first:List Mem):∀ k,2 * first.length * 2 ^ k < (pmL first k).length * 2 ^ k+first.length+2 ^ k:=by
 intro k
 induction k with
 | zero=>simp [pmL];omega
 | succ k ih =>
  rw [pmL_len,Nat.pow_succ]
  generalize (pmL first k).length=L at *
  generalize first.length=n at *
  have hp:0 < 2 ^ k:=Nat.two_pow_pos k
  generalize 2 ^ k=q at *
  have h1:L≤2 * (L / 2)+1:=by omega
  have h2:L * q≤(2 * (L / 2)+1) * q:=Nat.mul_le_mul_right _ h1
  generalize L / 2=d at *
  have e1:(2 * d+1) * q=2 * (d * q)+q:=by rw [Nat.add_mul,Nat.one_mul,Nat.mul_assoc]
  have e2:(n+d) * (q * 2)=2 * (n * q)+2 * (d * q):=by rw [← Nat.mul_assoc,Nat.add_mul,Nat.mul_comm _ 2,Nat.mul_add]
  have e3:2 * n * (q * 2)=4 * (n * q):=by rw [← Nat.mul_assoc,Nat.mul_assoc 2 n q,Nat.mul_comm _ 2,← Nat.mul_assoc]
  have e4:2 * n * q=2 * (n * q):=Nat.mul_assoc _ _ _
  rw [e1] at h2
  rw [e4] at ih
  rw [e2,e3]
  omega
theorem pm_enough (first:List Mem) (k:Nat) (h:first.length≤2 ^ (k+1)):2 * first.length - 2≤(pmL first k).length:=by
 have:=pm_long first k
 rw [Nat.pow_succ] at h
 generalize (pmL first k).length=L at *
 generalize first.length=n at *
 have hp:0 < 2 ^ k:=Nat.two_pow_pos k
 generalize 2 ^ k=q at *
 apply Classical.byContradiction
 intro hc
 have h1:L+3≤2 * n:=by omega
 have h2:(L+3) * q≤2 * n * q:=Nat.mul_le_mul_right _ h1
 rw [Nat.add_mul] at h2
 omega
theorem pm_all {P:Nat→Mem→Prop} {first:List Mem} (h0:∀ k,∀ t ∈ first,P k t) (h1:∀ k a b,P k a→P k b→P (k+1) (.node a b)):∀ k,∀ t ∈ pmL first k,P k t:=by
 intro k
 induction k with
 | zero=>exact h0 0
 | succ k ih =>
  intro t ht
  rw [pmL,mrgBy_mem] at ht
  rcases ht with ht | ht
  ·exact h0 _ t ht
  ·obtain ⟨a,b,rfl,ha,hb⟩:=packs_mem ht
   exact h1 k a b (ih a ha) (ih b hb)
theorem pm_weight {first:List Mem} (h:∀ t ∈ first,0≤t.w∧t.w≤1073741824) (k:Nat):∀ t ∈ pmL first k,0≤t.w∧t.w≤1073741824 * 2 ^ k:=by
 refine pm_all (P:=fun k t=>0≤t.w∧t.w≤1073741824 * 2 ^ k) (fun k t ht=>?_) (fun k a b ha hb=>?_) k
 ·have:=h t ht
  have hp:(1:Int)≤2 ^ k:=by
   have:(0:Int) < 2 ^ k:=Int.pow_pos (by decide)
   omega
  omega
 ·simp only [Mem.w,Int.pow_succ] at *
  omega
theorem pm_weight15 {first:List Mem} (h:∀ t ∈ first,0≤t.w∧t.w≤1073741824) {k:Nat} (hk:k≤15):∀ t ∈ pmL first k,0≤t.w∧t.w≤1125899906842624:=fun t ht=>by
 have h1:=pm_weight h k t ht
 have h2:(2:Int) ^ k≤2 ^ 15:=by
  have:=Nat.pow_le_pow_right (show 1≤2 by decide) hk
  exact_mod_cast this
 omega
theorem pm_places {first:List Mem} {n:Nat} (h:∀ t ∈ first,∀ p ∈ t.items,p < n) (k:Nat):∀ t ∈ pmL first k,∀ p ∈ t.items,p < n:=by
 refine pm_all (P:=fun _ t=>∀ p ∈ t.items,p < n) (fun k t ht=>h t ht) (fun k a b ha hb p hp=>?_) k
 rcases List.mem_append.1 hp with hp | hp
 ·exact ha p hp
 ·exact hb p hp
theorem pm_sizes {first:List Mem} (h:∀ t ∈ first,t.items.length≤1) (k:Nat):∀ t ∈ pmL first k,t.items.length≤2 ^ k:=by
 refine pm_all (P:=fun k t=>t.items.length≤2 ^ k) (fun k t ht=>?_) (fun k a b ha hb=>?_) k
 ·have:=h t ht
  have:=Nat.two_pow_pos k
  omega
 ·show (a.items ++ b.items).length≤_
  rw [List.length_append,Nat.pow_succ]
  omega
theorem flat_len {l:List Mem} {M:Nat} (h:∀ t ∈ l,t.items.length≤M):(l.flatMap Mem.items).length≤l.length * M:=by
 induction l with
 | nil=>simp
 | cons x r ih =>
  rw [List.flatMap_cons,List.length_append,List.length_cons,Nat.add_mul,Nat.one_mul]
  have:=h x (by simp)
  have:=ih (fun t ht=>h t (by simp [ht]))
  omega
theorem stab_mem {α:Type} {wt:α→Int} {l:List α} {x:α}:x ∈ stab wt l ↔ x ∈ l:=(stab_ss l).2.mem x
theorem wrongH_false {ws:List Int} {most:Int} (h:wrongH ws most=false):1≤ws.length∧ws.length≤300∧1≤most∧most≤15∧(∀ x ∈ ws,0≤x∧x≤1073741824)∧(leaves ws).length≤2 ^ most.toNat:=by
 unfold wrongH at h
 simp only [Bool.or_eq_false_iff,decide_eq_false_iff_not] at h
 obtain ⟨⟨⟨⟨⟨h1,h2⟩,h3⟩,h4⟩,h5⟩,h6⟩:=h
 refine ⟨by omega,by omega,by omega,by omega,?_,by rw [leaves_length];omega⟩
 intro x hx
 unfold badW at h5
 rw [List.any_eq_false] at h5
 have:=h5 x hx
 simp only [Bool.or_eq_true,decide_eq_true_eq] at this
 omega
theorem leaves_w {ws:List Int} (h:∀ x ∈ ws,0≤x∧x≤1073741824):∀ t ∈ leaves ws,0≤t.w∧t.w≤1073741824:=fun t ht=>by
 obtain ⟨p,hp,rfl,_⟩:=leaves_mem ht
 exact h _ (List.getElem_mem hp)
theorem leaves_p {ws:List Int}:∀ t ∈ leaves ws,∀ p ∈ t.items,p < ws.length:=fun t ht p hp=>by
 obtain ⟨q,hq,rfl,_⟩:=leaves_mem ht
 have:p=q:=by simpa [Mem.items] using hp
 omega
theorem leaves_s {ws:List Int}:∀ t ∈ leaves ws,t.items.length≤1:=fun t ht=>by
 obtain ⟨q,hq,rfl,_⟩:=leaves_mem ht
 simp [Mem.items]
end Go.Proofs.YteoolehdomjkkaaGreat
