/- XDisk5 -/
import Derived.Test.YtdoanopeejeeiaaMk07
namespace Go.Proofs.Ytdoanopeejeeiaa
set_option linter.all false
open Go.RowKit Go.Maps
def readV (s:Dk) (k:Int):Bs:=if wrongD s k=0 then getS s.now k.toNat else []
set_option maxRecDepth 100000 in
theorem readD_any (lo d:Nat) (h:Hn) (s:Dk) (k:Int) (w:World) (H:DkOk w lo d h s) :
  Calls Try.prog 29 #[.pointer (some ⟨d,0,none⟩),.int .i64 k] w fun e w'=>∃ A n c,e=.returned (.tuple #[.slice A n c,.int .i64 (wrongD s k)])∧n=(readV s k).length∧n≤c∧c≤maxLen∧ownB w' w.heap.size (.slice A n c) (readV s k)∧Below w.heap.size w w':=by
 have HW:=Lib.hid (wrongD_any lo d h s k w H.arr)
 have c1:=H.arr.cell (k:=1) rfl
 by_cases h0:wrongD s k=0
 ·have hk:0≤k∧k < s.n∧s.down=false:=by
   unfold wrongD at h0
   by_cases hd:s.down=true
   ·rw [if_pos hd] at h0;cases h0
   ·rw [if_neg hd] at h0
    by_cases hk:k < 0∨(s.n:Int)≤k
    ·rw [if_pos hk] at h0;cases h0
    ·exact ⟨by omega,by omega,by simpa using hd⟩
  obtain ⟨q,rfl⟩:=Int.eq_ofNat_of_zero_le hk.1
  have HA:=Lib.hid (secAt_any h.nb q (h.T d) s.now w (H.now.sub (h.TS d)) (by have:=H.size;omega) H.fresh)
  have hv:readV s (q:Int)=getS s.now q:=by unfold readV;rw [if_pos h0];rfl
  rw [hv]
  rw [h0] at HW ⊢
  clear H h0 hk hv
  go_enter Try.func29,Try.ntmps29
  go_wp2_with (first
   | (go_at_call 46;(with_reducible refine HW.out.mono ?_);go_must (rintro e w1 ⟨rfl,rfl⟩))
   | (go_at_call 47;(with_reducible refine HA.out.mono ?_);go_must (rintro e w1 ⟨u,rfl,ho,hs,hlo,hb⟩)))
  go_ret2
  exact ⟨_,_,_,rfl,hs.1.symm,hs.2.1,hs.2.2.1,ho,hb⟩
 ·have hv:readV s k=[]:=by unfold readV;rw [if_neg h0]
  rw [hv]
  have hb:(wrongD s k != 0)=true:=by simpa using h0
  generalize wrongD s k=E at *
  clear H
  go_enter Try.func29,Try.ntmps29
  go_wp2_with (go_at_call 46;(with_reducible refine HW.out.mono ?_);go_must (rintro e w1 ⟨rfl,rfl⟩))
  go_ret2
  exact ⟨_,_,_,rfl,rfl,Nat.le_refl _,by simp,ownB.nil_ _ _,Below.refl _ _⟩
/-- A new disk. -/
def newD (n:Nat):Dk:=⟨n,fun _=>none,fun _=>none,[],0,0,[],false⟩
set_option maxRecDepth 100000 in
theorem newD_bad (n:Int) (w:World) (hn:n < 4∨4096 < n) :
  Calls Try.prog 7 #[.int .i64 n] w fun e w'=>e=.returned (.tuple #[.pointer none,.int .i64 1])∧w=w':=by
 by_cases h:n < 4
 ·have t1:decide (n < (4:Int))=true:=decide_eq_true h
  go_enter Try.func7,Try.ntmps7
  go_wp2_with fail
  go_ret2
  exact ⟨rfl,rfl⟩
 ·have t1:decide (n < (4:Int))=false:=decide_eq_false h
  have t2:decide (n > (4096:Int))=true:=decide_eq_true (by omega)
  go_enter Try.func7,Try.ntmps7
  go_wp2_with fail
  go_ret2
  exact ⟨rfl,rfl⟩
set_option maxRecDepth 100000 in
theorem newD_any (n:Nat) (w:World) (h1:4≤n) (h2:n≤4096) :
  Calls Try.prog 7 #[.int .i64 (n:Int)] w fun e w'=>∃ d h,e=.returned (.tuple #[.pointer (some ⟨d,0,none⟩),.int .i64 0])∧DkOk w' w.heap.size d h (newD n)∧(∀ g,¬ h.U g)∧Below w.heap.size w w':=by
 have t1:decide ((n:Int) < 4)=false:=decide_eq_false (by omega)
 have t2:decide ((n:Int) > 4096)=false:=decide_eq_false (by omega)
 have hmm:=@run_makeMap Try.prog
 go_enter Try.func7,Try.ntmps7
 go_wp2_with fail
 go_ret2
 refine ⟨w.heap.size+1+1,⟨w.heap.size,w.heap.size+1,none,0,0,[],none,0,0,fun _=>False⟩,rfl,?_,fun _ h=>h,?_⟩
 ·have b1:=heap_alloc_old (w.alloc (.map #[] 0)) (.map #[] 0) (show w.heap.size < (w.alloc (.map #[] 0)).heap.size by simp)
  have m1:=(isMap.made w).keep b1
  have m2:=isMap.made (w.alloc (.map #[] 0))
  have sz1:(w.alloc (.map #[] 0)).heap.size=w.heap.size+1:=by simp
  rw [sz1] at m2
  generalize hw2:(w.alloc (.map #[] 0)).alloc (.map #[] 0)=w2 at *
  have sz2:w2.heap.size=w.heap.size+1+1:=by rw [← hw2];simp
  have arr:=Arr.new w2 (Hn.cells ⟨w.heap.size,w.heap.size+1,none,0,0,[],none,0,0,fun _=>False⟩ (newD n)) 61
  rw [sz2] at arr
  refine ⟨arr,(show w.heap.size+1+1 ≠ w.heap.size by omega),(show w.heap.size+1+1 ≠ w.heap.size+1 by omega),(show w.heap.size ≠ w.heap.size+1 by omega),by omega,Nat.le_refl _,(show w.heap.size≤w.heap.size+1 by omega),(fun g e=>by cases e),?_,?_,ownH.nil_ _ _,PR.nil _ _,RowAt.nil _ _,⟨h1,h2⟩⟩
  ·exact ⟨_,m1.keep (heap_alloc_old w2 _ (by rw [sz2];show w.heap.size < _;omega)),fun _ _=>rfl,fun _ _ e=>by cases e⟩
  ·exact ⟨_,m2.keep (heap_alloc_old w2 _ (by rw [sz2];show w.heap.size+1 < _;omega)),fun _ _=>rfl,fun _ _ e=>by cases e⟩
 ·exact (((Below.refl _ w).alloc (Nat.le_refl _) _).alloc (by simp) _).alloc (by simp;omega) _
/-- A row of one byte. -/
def fillB (c:UInt8):Bs:=List.replicate 256 c
set_option maxRecDepth 100000 in
theorem filled_any (c:UInt8) (w:World) :
  Calls Try.prog 25 #[.int .u8 (c.toNat:Int)] w fun e w'=>∃ g,e=.returned (.slice (some ⟨g,0,none⟩) 256 256)∧ownB w' w.heap.size (.slice (some ⟨g,0,none⟩) 256 256) (fillB c)∧Below w.heap.size w w':=by
 go_enter Try.func25,Try.ntmps25
 go_wp2_with (at_make;refine wpList_makeB rfl _ _ rfl 256 _ rfl rfl rfl (by omega) ?_;intro w2 hown hb1 hsz)
 go_loopw [4] (fun vi wr=>∃ k:Nat,k≤256∧vi=.int .i64 k∧Hid (ownB wr w.heap.size (.slice (some ⟨w.heap.size,0,none⟩) 256 256) (List.replicate k c ++ List.replicate (256 - k) 0))∧Hid (Below w.heap.size w wr)) (fun vi _=>256 - (intOf vi).toNat)
 case atStart=>exact ⟨0,Nat.zero_le _,rfl,hown,hb1⟩
 case round =>
  obtain ⟨k,hk,rfl,HO,HB⟩:=hrel
  by_cases hlt:k < 256
  ·have hfr:=HO.out.frozen (by simp;omega) k
   obtain ⟨v0,hc0⟩:=HO.out.cell' (by simp;omega) (k:=k) (by simp;omega)
   have HO2:=Lib.hid (HO.out.store (by simp;omega) k c)
   have HB2:=Lib.hid (HB.out.setCell (p:=⟨w.heap.size,k,none⟩) (Nat.le_refl _) (.int .u8 (c.toNat:Int)))
   clear HO HB
   go_wp2_with fail
   go_roundw
   case rel =>
    refine ⟨k+1,by omega,by go_num,?_,HB2.out⟩
    have e:(List.replicate k c ++ List.replicate (256 - k) 0).set k c=List.replicate (k+1) c ++ List.replicate (256 - (k+1)) 0:=by
     rw [List.set_append_right _ _ (by simp)]
     rw [show 256 - k=(256 - (k+1))+1 by omega,List.replicate_succ,List.length_replicate,Nat.sub_self,List.set_cons_zero,List.replicate_succ' ,List.append_assoc]
     rfl
    rw [← e]
    exact HO2.out
   case measure=>simp [intOf];omega
  ·obtain rfl:k=256:=by omega
   go_wp2_with fail
   go_ret
   refine ⟨_,rfl,?_,HB.out⟩
   have:=HO.out
   simpa [fillB] using this
end Go.Proofs.Ytdoanopeejeeiaa

