/- Merged: Next, Next5, HuffReads, HuffBackP, PutP. -/
import Derived.Lib.LazyBuf
import Derived.Test.YteoolehdomjkkaaGreatMd11
/- Decoders: a code read. -/
namespace Go.Proofs.YteoolehdomjkkaaGreat
set_option linter.all false
open Go.RowKit
theorem get1_any {B g n c P:Nat} {A:Option Addr} {bs:List UInt8} {w:World} (h:Arr w g (rdr A n c P)) (hr:RdB w B A n bs) (hg:B≤g) (hn:n≤1099511627776) (hfit:P+1≤8 * n) :
  Calls Tryz.prog 143 #[.pointer (some ⟨g,0,none⟩),.int .i64 1] w fun e w'=>e=.returned (.tuple #[.int .u32 (bitAt bs P:Nat),.int .i64 0])∧Arr w' g (rdr A n c (P+1))∧w.grownBy w' (some g):=by
 have:=get_any B g n c P 1 A bs w h hr hg hn (by omega) (by omega) hfit
 rw [getV_one] at this
 exact this
theorem get1_short {g n c P:Nat} {A:Option Addr} {w:World} (h:Arr w g (rdr A n c P)) (hn:n≤1099511627776) (hP:P≤8 * n) (hfit:8 * n < P+1) :
  Calls Tryz.prog 143 #[.pointer (some ⟨g,0,none⟩),.int .i64 1] w fun e w'=>e=.returned (.tuple #[.int .u32 0,.int .i64 2])∧w.grownBy w' none :=
 get_short g n c P 1 A w h hn hP (by omega) hfit
theorem getR1_any {B g n c P:Nat} {A:Option Addr} {bs:List UInt8} {w:World} (h:Arr w g (rdr A n c P)) (hr:RdB w B A n bs) (hg:B≤g) (hn:n≤1099511627776) (hfit:P+1≤8 * n) :
  Calls Tryz.prog 165 #[.pointer (some ⟨g,0,none⟩),.int .i64 1] w fun e w'=>e=.returned (.tuple #[.int .u32 (bitAt bs P:Nat),.int .i64 0])∧Arr w' g (rdr A n c (P+1))∧w.grownBy w' (some g):=by
 have:=getR_any B g n c P 1 A bs w h hr hg hn (by omega) (by omega) hfit
 rw [getV_one] at this
 exact this
theorem getR1_short {g n c P:Nat} {A:Option Addr} {w:World} (h:Arr w g (rdr A n c P)) (hn:n≤1099511627776) (hP:P≤8 * n) (hfit:8 * n < P+1) :
  Calls Tryz.prog 165 #[.pointer (some ⟨g,0,none⟩),.int .i64 1] w fun e w'=>e=.returned (.tuple #[.int .u32 0,.int .i64 2])∧w.grownBy w' none :=
 getR_short g n c P 1 A w h hn hP (by omega) hfit
def NextPost (ls:List Int) (bs:List UInt8) (A:Option Addr) (n c P gr:Nat) (w:World) (e:Ending) (w':World):Prop :=
 e=.returned (.tuple #[.int .i64 (nx ls bs 15 1 0 P).1,.int .i64 (nx ls bs 15 1 0 P).2.1])∧Arr w' gr (rdr A n c (nx ls bs 15 1 0 P).2.2)∧w.grownBy w' (some gr)
theorem nextPost {ls:List Int} {bs:List UInt8} {A:Option Addr} {n c P gr:Nat} {w w':World} {e:Ending} {R:Int × Int × Nat} (h:R=nx ls bs 15 1 0 P)
  (h1:e=.returned (.tuple #[.int .i64 R.1,.int .i64 R.2.1])) (h2:Arr w' gr (rdr A n c R.2.2)) (h3:w.grownBy w' (some gr)):NextPost ls bs A n c P gr w e w':=by
 subst h
 exact ⟨h1,h2,h3⟩
theorem pow_step {v t V b:Nat} (h:v < 2 ^ (t - 1)) (h1:1≤t) (h2:t≤15) (hb:b < 2) (hV:v * 2+b=V):V < 2 ^ t∧V≤32768∧v < 65536:=by
 have e:2 ^ t=2 ^ (t - 1) * 2:=by rw [← Nat.pow_succ];congr 1;omega
 have e2:2 ^ (t - 1)≤2 ^ 14:=Nat.pow_le_pow_right (by decide) (by omega)
 omega
end Go.Proofs.YteoolehdomjkkaaGreat

/- The document's decoders. -/
namespace Go.Proofs.YteoolehdomjkkaaGreat
set_option linter.all false
open Go.RowKit
theorem plc_empty {ls:List Int} {t:Nat} (h1:1≤t) (h:∀ (k:Nat) (x:Int),ls[k]?=some x→¬ 0 < x) (k:Nat):plc ls t k=[]:=by
 cases e:plc ls t k with
 | nil=>rfl
 | cons a r =>
  obtain ⟨p,-,-,hp,-⟩:=plc_of (ls:=ls) (t:=t) (i:=0) (x:=a) k (by rw [e];rfl)
  exact absurd (show (0:Int) < (t:Int) by omega) (h p _ hp)
theorem allP_empty {ls:List Int} (h:∀ (k:Nat) (x:Int),ls[k]?=some x→¬ 0 < x) (l:Nat):allP ls l=[]:=by
 induction l with
 | zero=>rfl
 | succ l ih=>rw [allP,ih,plc_empty (by omega) h];rfl
theorem codesL_at {ls:List Int} {i:Nat} {y:Nat × Int} (h:(codesL ls)[i]?=some y):y=codeAt ls i:=by
 unfold codesL at h
 rw [List.getElem?_map] at h
 cases hr:(List.range ls.length)[i]? with
 | none=>rw [hr] at h;cases h
 | some j =>
  obtain ⟨hj,e⟩:=List.getElem?_eq_some_iff.1 hr
  rw [List.getElem_range] at e
  rw [hr] at h
  injection h with h
  rw [← h,e]
theorem codesL_len (ls:List Int):(codesL ls).length=ls.length:=by simp [codesL]
/-- The document's decoder, below B. -/
def Dec5 (w:World) (B g:Nat) (ls:List Int):Prop:=∃ A c,Arr w g [.slice A ls.length c]∧RdD w B A ls.length (codesL ls)∧g < B
theorem Dec5.blw {w w':World} {B g:Nat} {ls:List Int} (h:Dec5 w B g ls) (hb:Below B w w'):Dec5 w' B g ls:=by
 obtain ⟨A,c,h1,h2,h3⟩:=h
 exact ⟨A,c,h1.blw hb h3,h2.blw hb,h3⟩
theorem Dec5.more {w:World} {B B' g:Nat} {ls:List Int} (h:Dec5 w B g ls) (hB:B≤B'):Dec5 w B' g ls:=by
 obtain ⟨A,c,h1,h2,h3⟩:=h
 exact ⟨A,c,h1,h2.more hB,by omega⟩
end Go.Proofs.YteoolehdomjkkaaGreat

/- HuffReads: any lengths, any bytes: what is read, up to the first error. -/
namespace Go.Proofs.YteoolehdomjkkaaGreat
set_option linter.all false
open Go.RowKit
theorem cloneB2_any (B n c:Nat) (A:Option Addr) (bs:List UInt8) (w:World) (h:RdB w B A n bs) (hm:n≤1099511627776) :
  Calls Tryz.prog 114 #[.slice A n c] w fun e w'=>∃ v,e=.returned v∧ownB w' w.heap.size v bs∧Below w.heap.size w w':=by
 have kn:=fun w=>Go.run_eql_slice_nil (P:=Tryz.prog) w 24 _ A n c Tryz.underlying24
 cases A with
 | none =>
  have h0:bs=[]:=by
   cases bs with
   | nil=>rfl
   | cons x l=>have h2:=h.len;obtain ⟨b,o,e,_⟩:=h.at_ (by rw [← h2];simp);cases e
  subst h0
  have hn:n=0:=by have:=h.len;simpa using this.symm
  subst hn
  go_enter Tryz.func114,Tryz.ntmps114
  go_wp2
  go_ret
  exact ⟨_,rfl,ownB.nil_ _ _,Below.refl _ _⟩
 | some a =>
  go_enter Tryz.func114,Tryz.ntmps114
  go_wp2_with (at_builtin;go_loud (refine wpList_appendB rfl (.tmp 5) (.tmp 6) rfl w.heap.size _ [] rfl (own_lit w [] (by simp)) w.heap.size n c (some a) bs rfl (Rd.alloc (Rd.here h) (Nat.le_refl _) _) (by simp;omega) (by simp) ?_);intro v1 w1 hown hg hb hat)
  go_ret
  exact ⟨_,rfl,hown,((Below.refl w.heap.size w).alloc (Nat.le_refl _) _).trans (hb)⟩
theorem newReader_any (B n c:Nat) (A:Option Addr) (bs:List UInt8) (w:World) (h:RdB w B A n bs) (hm:n≤1099511627776) :
  Calls Tryz.prog 95 #[.slice A n c] w fun e w'=>∃ g A' c',e=.returned (.pointer (some ⟨g,0,none⟩))∧w.heap.size≤g∧g < w'.heap.size∧Arr w' g (rdr A' n c' 0)∧RdB w' g A' n bs∧Below w.heap.size w w':=by
 have HC:=Lib.hid (cloneB2_any B n c A bs w h hm)
 have hl:=h.len
 clear h
 go_enter Tryz.func95,Tryz.ntmps95
 go_wp2_with (go_at_call 114;(with_reducible refine HC.out.mono ?_);go_must (rintro e w1 ⟨v,rfl,ho,hb⟩;obtain ⟨A1,c1,rfl,hr,-,-⟩:=ho.form;rw [hl] at hr ⊢;have HR:=Lib.hid hr;have HB:=Lib.hid hb;clear ho hr hb))
 go_ret
 exact ⟨_,A1,c1,rfl,HB.out.size,by simp,Arr.new w1 (rdr A1 n c1 0) _,Rd.alloc HR.out (Nat.le_refl _) _,HB.out.alloc HB.out.size _⟩
theorem at_any (g P:Nat) (w:World) (h:w.cell? ⟨g,1,none⟩=some (.int .i64 (P:Int))) :
  Calls Tryz.prog 101 #[.pointer (some ⟨g,0,none⟩)] w fun e w'=>e=.returned (.int .i64 (P:Int))∧w=w':=by
 go_enter Tryz.func101,Tryz.ntmps101
 go_wp2_with fail
 go_ret
 exact ⟨rfl,rfl⟩
end Go.Proofs.YteoolehdomjkkaaGreat

/- HuffBack: places written and read, plainly. -/
namespace Go.Proofs.YteoolehdomjkkaaGreat
set_option linter.all false
open Go.RowKit
theorem wbytes_any (g:Nat) (pv:Value) (bs:List UInt8) (L:List Nat) (w:World) (h:Wr w g pv bs L) (hb:L.length≤1000000) :
  Calls Tryz.prog 63 #[.pointer (some ⟨g,0,none⟩)] w fun e w'=>∃ v,e=.returned v∧ownB w' w.heap.size v bs∧Below w.heap.size w w':=by
 obtain ⟨h1,h2,h3⟩:=h
 obtain ⟨A,c,rfl,hr,-,-⟩:=h2.form
 have c0:=h1.cell (k:=0) rfl
 have HC:=Lib.hid (cloneB2_any w.heap.size bs.length c A bs w hr (by have:=h3.1;omega))
 clear h1 h2 h3 hr
 go_enter Tryz.func63,Tryz.ntmps63
 go_wp2_with (go_at_call 114;(with_reducible refine HC.out.mono ?_);go_must (rintro e w1 ⟨v,rfl,ho,hb⟩))
 go_ret
 exact ⟨_,rfl,ho,hb⟩
theorem Wr.drew {w:World} {g:Nat} {pv:Value} {bs:List UInt8} {L:List Nat} (h:Wr w g pv bs L):Wr w.drew g pv bs L:=⟨h.1.drew,h.2.1.drew,h.2.2⟩
theorem Wr.drewN {w:World} {g:Nat} {pv:Value} {bs:List UInt8} {L:List Nat} (h:Wr w g pv bs L) (q:Nat):Wr (w.drewN q) g pv bs L:=⟨h.1.drewN q,h.2.1.drewN q,h.2.2⟩
/-- Two rows in unlike blocks. -/
def Dis (a b:Value):Prop:=∀ k,a.ownBlock=some k→b.ownBlock ≠ some k
theorem ownI.same {w w':World} {base:Nat} {v:Value} {l:List Int} (h:ownI w base v l) (hb:∀ k,v.ownBlock=some k→w'.heap[k]?=w.heap[k]?):ownI w' base v l:=by
 refine ⟨h.1,?_⟩
 rcases h.2 with hn | ⟨g,cap,cur,rfl,hbg,hg,rest⟩
 ·exact .inl hn
 ·exact .inr ⟨g,cap,cur,rfl,hbg,(hb g rfl).trans hg,rest⟩
theorem ownI.wr {w w':World} {g:Nat} {pv pv' v:Value} {l:List Int} (h:ownI w (g+1) v l) (hf:WrFr w w' g pv pv') (hd:Dis pv v):ownI w' (g+1) v l :=
 h.same fun k hk=>hf.block k (World.ownsRow.lt h k hk).2 (by have:=(World.ownsRow.lt h k hk).1;omega) (fun e=>hd k e hk)
theorem Dis.wr {w w':World} {g:Nat} {pv pv' v:Value} {l:List Int} (h:ownI w (g+1) v l) (hf:WrFr w w' g pv pv') (hd:Dis pv v):Dis pv' v:=by
 intro k hk hv
 rcases hf.own with e | ⟨j,hj,e⟩
 ·exact hd k (e.symm.trans hk) hv
 ·rw [e] at hk
  injection hk with hk
  have:=(World.ownsRow.lt h k hv).2
  omega
/-- The writer while another row grows. -/
theorem Wr.gro {w w':World} {g:Nat} {pv v:Value} {bs:List UInt8} {L:List Nat} {l:List Int} (o:Obj) (h:Wr w g pv bs L) (hv:ownI w (g+1) v l) (hd:Dis pv v) (hg:(w.alloc o).grownBy w' v.ownBlock):Wr w' g pv bs L:=by
 obtain ⟨h1,h2,h3⟩:=h
 refine ⟨?_,?_,h3⟩
 ·have hl:=(h1.alloc o).lt
  obtain ⟨t,h1⟩:=h1.alloc o
  exact ⟨t,(hg.block g hl (fun e=>by have:=(World.ownsRow.lt hv g e.symm).1;omega)).trans h1⟩
 ·refine ownB.kept (h2.alloc o) hg ?_
  cases e:pv.ownBlock with
  | none=>exact .inl rfl
  | some k=>exact .inr (fun e2=>hd k e e2.symm)
theorem Dis.gro {w:World} {g:Nat} {pv v v':Value} {bs:List UInt8} {L:List Nat} (o:Obj) (h:Wr w g pv bs L) (hd:Dis pv v) (hat:v'.ownBlock=v.ownBlock∨v'.ownBlock=some (w.alloc o).heap.size):Dis pv v':=by
 intro k hk hv
 rcases hat with e | e
 ·exact hd k hk (e.symm.trans hv)
 ·rw [e] at hv
  injection hv with hv
  have:=(World.ownsRow.lt h.2.1 k hk).2
  simp at hv
  omega
end Go.Proofs.YteoolehdomjkkaaGreat

/- Writers of bits: numbers put the least bit first, alignment, plainly. -/
namespace Go.Proofs.YteoolehdomjkkaaGreat
set_option linter.all false
open Go.RowKit
/-- The first k bits of a number, the least first. -/
def lsb (v:Nat):Nat→List Nat
 | 0=>[]
 | k+1=>lsb v k ++ [v / 2 ^ k % 2]
theorem lsb_len (v k:Nat):(lsb v k).length=k:=by
 induction k with
 | zero=>rfl
 | succ k ih=>rw [lsb,List.length_append,ih];rfl
/-- Bits up to the next whole byte. -/
def alignL (L:List Nat):List Nat:=L ++ List.replicate (8 * ((L.length+7) / 8) - L.length) 0
theorem alignL_len (L:List Nat):(alignL L).length=8 * ((L.length+7) / 8):=by
 unfold alignL
 rw [List.length_append,List.length_replicate]
 omega
theorem getD_pad (L:List Nat) (k p:Nat):(L ++ List.replicate k 0).getD p 0=L.getD p 0:=by
 rw [List.getD_eq_getElem?_getD,List.getD_eq_getElem?_getD,List.getElem?_append]
 split
 ·rfl
 ·rw [List.getElem?_eq_none (l:=L) (by omega),List.getElem?_replicate]
  split <;> rfl
theorem WB.align {bs:List UInt8} {L:List Nat} (h:WB bs L):WB bs (alignL L):=by
 refine ⟨?_,fun p=>?_⟩
 ·rw [alignL_len,h.1];omega
 ·rw [h.2 p];unfold alignL;rw [getD_pad]
/-- Bits are bytes in one way. -/
theorem WB.uniq {bs cs:List UInt8} {L:List Nat} (h:WB bs L) (k:WB cs L):bs=cs:=by
 have hl:bs.length=cs.length:=h.1.trans k.1.symm
 apply List.ext_getElem hl
 intro i h1 h2
 have key:∀ t,t < 8→bs[i].toNat / 2 ^ t % 2=cs[i].toNat / 2 ^ t % 2:=by
  intro t ht
  have e:=(h.2 (8 * i+t)).trans (k.2 (8 * i+t)).symm
  unfold bitAt at e
  rw [show (8 * i+t) / 8=i by omega,show (8 * i+t) % 8=t by omega,List.getD_eq_getElem?_getD,List.getD_eq_getElem?_getD,List.getElem?_eq_getElem h1,List.getElem?_eq_getElem h2] at e
  exact e
 have a:=key 0 (by omega);have b:=key 1 (by omega);have c:=key 2 (by omega);have d:=key 3 (by omega)
 have e:=key 4 (by omega);have f:=key 5 (by omega);have g:=key 6 (by omega);have i8:=key 7 (by omega)
 have x1:=bs[i].toNat_lt
 have x2:=cs[i].toNat_lt
 apply UInt8.toNat_inj.1
 generalize bs[i].toNat=x at *
 generalize cs[i].toNat=y at *
 clear key h k hl h1 h2
 simp only [Nat.reducePow] at a b c d e f g i8 x1 x2
 omega
theorem codeAt_ok {ls:List Int} (hbad:badL ls=false) (hk:krN ls≤32768) (p:Nat) (hp:p < ls.length):∃ t:Nat,t≤15∧(codeAt ls p).2=(t:Int)∧(codeAt ls p).1 < 2 ^ t:=by
 have hx:ls[p]?=some ls[p]:=List.getElem?_eq_getElem hp
 obtain ⟨x0,x1⟩:=good_at hbad hx
 obtain ⟨t,ht⟩:=Int.eq_ofNat_of_zero_le x0
 rw [ht] at hx
 by_cases h0:0 < t
 ·have hc:=codeAt_pos hx h0
  have hh:Hit ls t (fst ls t+cnt (ls.take p) t) p:=⟨hx,rfl⟩
  have h15:t≤15:=by rw [ht] at x1;omega
  exact ⟨t,h15,by rw [hc],by rw [hc];exact Nat.lt_of_lt_of_le (hit_bound h0 hh).2 (fst_pow ls hbad hk t h15)⟩
 ·have hc:=codeAt_zero hx (by omega)
  exact ⟨0,by omega,by rw [hc];rfl,by rw [hc];decide⟩
/-- A row beside a writer that was there ahead of it. -/
theorem Dis.new {w:World} {base b2:Nat} {pv v:Value} {bs:List UInt8} (h:ownB w base pv bs) (hv:∀ k,v.ownBlock=some k→b2≤k) (hb:w.heap.size≤b2):Dis pv v:=by
 intro k hk hv2
 have h1:=hv k hv2
 have h2:=(World.ownsRow.lt h k hk).2
 omega
theorem ownC.wr {w w':World} {g:Nat} {pv pv' v:Value} {l:List (Nat × Int)} (h:ownC w (g+1) v l) (hf:WrFr w w' g pv pv') (hd:Dis pv v):ownC w' (g+1) v l:=by
 have hb:∀ k,v.ownBlock=some k→w'.heap[k]?=w.heap[k]?:=fun k hk=>hf.block k (World.ownsRow.lt h k hk).2 (by have:=(World.ownsRow.lt h k hk).1;omega) (fun e=>hd k e hk)
 refine ⟨h.1,?_⟩
 rcases h.2 with hn | ⟨g,cap,cur,rfl,hbg,hg,rest⟩
 ·exact .inl hn
 ·exact .inr ⟨g,cap,cur,rfl,hbg,(hb g rfl).trans hg,rest⟩
end Go.Proofs.YteoolehdomjkkaaGreat
