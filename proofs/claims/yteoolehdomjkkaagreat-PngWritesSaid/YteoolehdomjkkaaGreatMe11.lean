/- XHuff4 -/
import Derived.Test.YteoolehdomjkkaaGreatMe10
namespace Go.Proofs.YteoolehdomjkkaaGreat
set_option linter.all false
open Go.RowKit
def Sg (hi g:Nat):Nat→Prop:=fun b=>b < hi∧b ≠ g
theorem isM.gro {hi g:Nat} {w w':World} {a:Nat} {t:Mem} (h:isM w (Sg hi g) a t) (hg:w.grownBy w' (some g)) (hh:hi≤w.heap.size):isM w' (Sg hi g) a t :=
 h.keep (fun p hp=>World.cell?_of_block (hg.block p.block (by have:=hp.1;omega) (fun e=>hp.2 (by injection e)))) (fun _ h=>h)
theorem grown_trans {w w' w'':World} {row:Option Nat} (h:w.grownBy w' row) (k:w'.grownBy w'' row):w.grownBy w'' row :=
 ⟨k.os.trans h.os,k.tape.trans h.tape,k.output.trans h.output,Nat.le_trans h.size k.size,fun i hi hne=>(k.block i (Nat.lt_of_lt_of_le hi h.size) hne).trans (h.block i hi hne)⟩
theorem bump_len (xs:List Int) (p:Nat):(bump xs p).length=xs.length:=by simp [bump]
theorem bumps_len (xs:List Int) (ps:List Nat):(bumps xs ps).length=xs.length:=by
 induction ps generalizing xs with
 | nil=>rfl
 | cons p ps ih=>unfold bumps at ih ⊢;rw [List.foldl_cons,ih,bump_len]
theorem bumps_append (xs:List Int) (ps qs:List Nat):bumps xs (ps ++ qs)=bumps (bumps xs ps) qs:=by unfold bumps;rw [List.foldl_append]
theorem bump_rng {xs:List Int} {p:Nat} {M:Int} (h:∀ x ∈ xs,0≤x∧x≤M) (hM:0≤M):∀ x ∈ bump xs p,0≤x∧x≤M+1:=by
 intro x hx
 unfold bump at hx
 rcases List.mem_or_eq_of_mem_set hx with hx | rfl
 ·have:=h x hx;omega
 ·rw [List.getD_eq_getElem?_getD]
  cases he:xs[p]? with
  | none=>simp;omega
  | some y =>
   have:=h y (List.mem_of_getElem? he)
   simp
   omega
theorem bumps_rng {xs:List Int} {ps:List Nat} {M:Int} (h:∀ x ∈ xs,0≤x∧x≤M) (hM:0≤M):∀ x ∈ bumps xs ps,0≤x∧x≤M+ps.length:=by
 induction ps generalizing xs M with
 | nil=>intro x hx;have:=h x hx;simp;omega
 | cons p ps ih =>
  intro x hx
  have:=ih (bump_rng (p:=p) h hM) (by omega) x (by unfold bumps at hx ⊢;rwa [List.foldl_cons] at hx)
  simp at this ⊢
  omega
set_option maxRecDepth 100000 in
set_option maxHeartbeats 3200000 in
theorem counts_any (base g n c hi:Nat) (hn:n≤1099511627776):∀ (t:Mem) (a:Nat) (xs:List Int) (M:Int) (w:World),isM w (Sg hi g) a t→hi≤w.heap.size→ownI w base (.slice (some ⟨g,0,none⟩) n c) xs→n=xs.length →
  (∀ p ∈ t.items,p < n)→(∀ x ∈ xs,0≤x∧x≤M)→0≤M→M+t.items.length≤1099511627776 →
  Calls Tryz.prog 159 #[.pointer (some ⟨a,0,none⟩),.slice (some ⟨g,0,none⟩) n c] w fun e w'=>e=.returned (.tuple #[])∧ownI w' base (.slice (some ⟨g,0,none⟩) n c) (bumps xs t.items)∧w.grownBy w' (some g):=by
 intro t
 induction t with
 | leaf x p =>
  intro a xs M w h hh ho hl hp hx hM0 hM
  obtain ⟨sa,c0,c1,c2⟩:=h
  have hpn:p < n:=hp p (by simp [Mem.items])
  have e0:=ho.cell hl (k:=p) (by omega)
  have f0:=ho.frozen hl p
  have hxb:=hx (xs[p]'(by omega)) (List.getElem_mem _)
  have hs:=ho.store hl p (xs[p]'(by omega)+1)
  have HB:Hid (bumps xs (Mem.leaf x p).items=xs.set p (xs[p]'(by omega)+1)):=(show _=_ by
   show bump xs p=_
   unfold bump
   rw [List.getD_eq_getElem?_getD,List.getElem?_eq_getElem (by omega)]
   rfl)
  generalize xs[p]'(by omega)=y at *
  have HS:=Lib.hid hs
  have hM1:M+1≤1099511627776:=by simpa [Mem.items] using hM
  clear hs ho hl hp hx hM
  have c3:(w.setCell ⟨g,p,none⟩ (.int .i64 (y+1))).cell? ⟨a,2,none⟩=some (.slice none 0 0):=(World.cell?_setCell_other w ⟨g,p,none⟩ ⟨a,2,none⟩ _ (by intro e;injection e with e;exact sa.2 e.symm)).trans c2
  have HG:=Lib.hid (grown_setCell (g:=g) (k:=p) (grown_refl0 w (some g)) (.int .i64 (y+1)))
  go_enter Tryz.func159,Tryz.ntmps159
  go_wp2
  refine wp_loop_rounds 1 ?_
  rw [rounds_succ]
  go_wp2
  go_end0
  exact ⟨rfl,by rw [HB.out];exact HS.out,HG.out⟩
 | node l r ihl ihr =>
  intro a xs M w h hh ho hl hp hx hM0 hM
  obtain ⟨_,c0,c1,gp,o,cp,x,y,c2,sg,_,_,d0,d1,hml,hmr⟩:=h
  have hil:(Mem.node l r).items=l.items ++ r.items:=rfl
  rw [hil] at hp hM ⊢
  rw [List.length_append] at hM
  have HL:=Lib.hid (ihl x xs M w hml hh ho hl (fun p h=>hp p (List.mem_append_left _ h)) hx hM0 (by omega))
  have HR:=Lib.hid (fun (w':World) (hg:w.grownBy w' (some g)) (ho':ownI w' base (.slice (some ⟨g,0,none⟩) n c) (bumps xs l.items)) =>
   ihr y (bumps xs l.items) (M+l.items.length) w' (hmr.gro hg hh) (Nat.le_trans hh hg.size) ho' (by rw [bumps_len];exact hl) (fun p h=>hp p (List.mem_append_right _ h)) (bumps_rng hx hM0) (by omega) (by omega))
  have HK:=Lib.hid (fun (w':World) (hg:w.grownBy w' (some g))=>(⟨(World.cell?_of_block (hg.block gp (by have:=sg.1;omega) (fun e=>sg.2 (by injection e)))).trans d0,(World.cell?_of_block (hg.block gp (by have:=sg.1;omega) (fun e=>sg.2 (by injection e)))).trans d1⟩:w'.cell? ⟨gp,o,none⟩=some (.pointer (some ⟨x,0,none⟩))∧w'.cell? ⟨gp,o+1,none⟩=some (.pointer (some ⟨y,0,none⟩))))
  have HB:=Lib.hid (bumps_append xs l.items r.items)
  clear ihl ihr hml hmr ho hl hp hx hM hil
  go_enter Tryz.func159,Tryz.ntmps159
  go_wp2
  refine wp_loop_rounds 3 ?_
  rw [rounds_succ]
  go_wp2_with (go_at_call 159;(with_reducible refine HL.out.mono ?_);go_must (rintro e w1 ⟨rfl,ho1,hg1⟩;have HO1:=Lib.hid ho1;have HG1:=Lib.hid hg1;obtain ⟨k0,k1⟩:=HK.out w1 hg1;clear ho1 hg1))
  rw [rounds_succ]
  go_wp2_with (go_at_call 159;(with_reducible refine (HR.out _ HG1.out HO1.out).mono ?_);go_must (rintro e w2 ⟨rfl,ho2,hg2⟩;have HO2:=Lib.hid ho2;have HG2:=Lib.hid (grown_trans HG1.out hg2);clear ho2 hg2))
  rw [rounds_succ]
  go_wp2
  go_end0
  exact ⟨rfl,by rw [HB.out];exact HO2.out,HG2.out⟩
end Go.Proofs.YteoolehdomjkkaaGreat

