/- XPc5 XPc6 XPc7 XPc8 -/
import Derived.Test.YtebbdifhiihfkaaGreatDoorMh07
import Derived.Test.YtebbdifhiihfkaaGreatDoorMh06
import Derived.Deep.RegionHeld3
import Derived.StillTailTactics
namespace Go.Proofs.YtebbdifhiihfkaaGreatDoor
set_option linter.all false
open Go.RowKit
abbrev CQ:=List UInt8 × Option Addr × Nat × Nat
/-- Bytes that lie beside block T. -/
def DAt (w:World) (T:Option Nat) (A:Option Addr) (bs:List UInt8):Prop :=
 RdB w w.heap.size A bs.length bs∧∃ g,A=some ⟨g,0,none⟩∧g < w.heap.size∧some g ≠ T
theorem DAt.grow {w w':World} {T T':Option Nat} {A:Option Addr} {bs:List UInt8} (h:DAt w T A bs) (hs:w.heap.size≤w'.heap.size) (hb:∀ b,b < w.heap.size→some b ≠ T→w'.heap[b]?=w.heap[b]?) (hT:∀ b,b < w.heap.size→some b ≠ T→some b ≠ T'):DAt w' T' A bs:=by
 obtain ⟨⟨h1,h2⟩,g,rfl,hg,hne⟩:=h
 refine ⟨⟨h1,fun hn=>?_⟩,g,rfl,Nat.lt_of_lt_of_le hg hs,hT g hg hne⟩
 obtain ⟨b,o,e,hlt,hc⟩:=h2 hn
 injection e with e
 injection e with e1 e2
 subst e1 e2
 refine ⟨g,0,rfl,Nat.lt_of_lt_of_le hg hs,fun j u hu=>?_⟩
 rw [World.cell?_of_block (w:=w) (w':=w') (a:=⟨g,0+j,none⟩) (hb g hg hne)]
 exact hc j u hu
theorem DAt.gro {w w':World} {T T':Option Nat} {A:Option Addr} {bs:List UInt8} (h:DAt w T A bs) (hg:w.grownBy w' T) (ht:T'=T∨T'=some w.heap.size):DAt w' T' A bs :=
 h.grow hg.size (fun b hb hne=>hg.block b hb hne) (fun b hb hne=>by
  rcases ht with rfl | rfl
  ·exact hne
  ·intro e;injection e with e;omega)
theorem DAt.later {w w':World} {T:Option Nat} {A:Option Addr} {bs:List UInt8} (h:DAt w T A bs) (hb:Below w.heap.size w w'):DAt w' T A bs :=
 h.grow hb.size (fun b hlt _=>hb.block b hlt) (fun _ _ h=>h)
theorem DAt.new {w w':World} {T:Option Nat} {A:Option Addr} {c:Nat} {bs:List UInt8} (h:ownB w' w.heap.size (.slice A bs.length c) bs) (hn:(Value.slice A bs.length c).ownBlock ≠ none) (hT:∀ g,T=some g→g < w.heap.size):DAt w' T A bs:=by
 refine ⟨h.rd,?_⟩
 rcases h.2 with ⟨e,_⟩ | ⟨g,cap,cur,e,hg,_⟩
 ·rw [e] at hn;exact absurd rfl hn
 ·injection e with e1 e2 e3
  subst e1
  have hlt:=(World.ownsRow.lt h g rfl).2
  exact ⟨g,rfl,hlt,fun e=>by have:=hT g e.symm;omega⟩
/-- What a row of chunks reads, the data beside block T. -/
def CR (w:World) (T:Option Nat) (l:List CQ) (p:List CK):Prop :=
 l.length=p.length∧∀ (i:Nat) k d,p[i]?=some (k,d)→∃ A c,l[i]?=some (k,A,d.length,c)∧d.length≤c∧DAt w T A d
theorem CR.nil (w:World) (T:Option Nat):CR w T [] []:=⟨rfl,fun i k d e=>by simp at e⟩
theorem CR.gro {w w':World} {T T':Option Nat} {l:List CQ} {p:List CK} (h:CR w T l p) (hg:w.grownBy w' T) (ht:T'=T∨T'=some w.heap.size):CR w' T' l p :=
 ⟨h.1,fun i k d e=>by
  obtain ⟨A,c,h1,h2,h3⟩:=h.2 i k d e
  exact ⟨A,c,h1,h2,h3.gro hg ht⟩⟩
theorem CR.later {w w':World} {T:Option Nat} {l:List CQ} {p:List CK} (h:CR w T l p) (hb:Below w.heap.size w w'):CR w' T l p :=
 ⟨h.1,fun i k d e=>by
  obtain ⟨A,c,h1,h2,h3⟩:=h.2 i k d e
  exact ⟨A,c,h1,h2,h3.later hb⟩⟩
theorem CR.alloc {w:World} {T:Option Nat} {l:List CQ} {p:List CK} (h:CR w T l p) (o:Obj):CR (w.alloc o) T l p:=h.later ((Below.refl w.heap.size w).alloc (Nat.le_refl _) o)
theorem CR.snoc {w:World} {T:Option Nat} {l:List CQ} {p:List CK} (h:CR w T l p) {k d:List UInt8} {A:Option Addr} {c:Nat} (hd:DAt w T A d) (hc:d.length≤c):CR w T (l ++ [(k,A,d.length,c)]) (p ++ [(k,d)]):=by
 refine ⟨by simp [h.1],fun i kk d2 e=>?_⟩
 by_cases hi:i < p.length
 ·rw [List.getElem?_append_left hi] at e
  obtain ⟨A2,c2,h2,h3⟩:=h.2 i kk d2 e
  exact ⟨A2,c2,by rw [List.getElem?_append_left (by rw [h.1];exact hi)];exact h2,h3⟩
 ·rw [List.getElem?_append_right (by omega)] at e
  have hi2:i - p.length=0:=by
   refine Decidable.byContradiction fun hne=>?_
   rw [List.getElem?_eq_none (by simp;omega)] at e
   cases e
  rw [hi2] at e
  simp only [List.getElem?_cons_zero,Option.some.injEq,Prod.mk.injEq] at e
  obtain ⟨rfl,rfl⟩:=e
  refine ⟨A,c,?_,hc,hd⟩
  rw [List.getElem?_append_right (by rw [h.1];omega),h.1,hi2]
  rfl
/-- One chunk of a row. -/
theorem CR.one {w:World} {T:Option Nat} {l:List CQ} {p:List CK} (h:CR w T l p) {i:Nat} (hi:i < p.length):∃ k d A c,p[i]?=some (k,d)∧l[i]?=some (k,A,d.length,c)∧d.length≤c∧RdB w w.heap.size A d.length d:=by
 obtain ⟨⟨k,d⟩,e⟩:∃ x,p[i]?=some x:=⟨_,List.getElem?_eq_getElem hi⟩
 obtain ⟨A,c,h1,h2,h3⟩:=h.2 i k d e
 exact ⟨k,d,A,c,e,h1,h2,h3.1⟩
theorem CR.take {w:World} {T:Option Nat} {l:List CQ} {p:List CK} (h:CR w T l p) (n:Nat):CR w T (l.take n) (p.take n):=by
 refine ⟨by rw [List.length_take,List.length_take,h.1],fun i k d e=>?_⟩
 rw [List.getElem?_take] at e
 split at e
 ·rename_i hi
  obtain ⟨A,c,h1,h2⟩:=h.2 i k d e
  exact ⟨A,c,by rw [List.getElem?_take,if_pos hi];exact h1,h2⟩
 ·cases e
end Go.Proofs.YtebbdifhiihfkaaGreatDoor

/- png: all chunks of a file. -/
namespace Go.Proofs.YtebbdifhiihfkaaGreatDoor
set_option linter.all false
open Go.RowKit
theorem CR.any {w:World} {T:Option Nat} {l:List CQ} {p:List CK} (h:CR w T l p):CR w none l p :=
 ⟨h.1,fun i k d e=>by
  obtain ⟨A,c,h1,h2,h3,g,h4,h5,-⟩:=h.2 i k d e
  exact ⟨A,c,h1,h2,h3,g,h4,h5,fun e=>by cases e⟩⟩
set_option maxRecDepth 100000 in
theorem prefix_any (B n c B' m c':Nat) (A A':Option Addr) (xs ys:List UInt8) (w:World) (h:RdB w B A n xs) (h':RdB w B' A' m ys) (hc:n≤c) :
  Calls Tryz.prog 20 #[.slice A n c,.slice A' m c'] w fun e w'=>e=.returned (.bool (xs.take m == ys))∧w=w':=by
 have hl:=h.len
 have hl':=h'.len
 by_cases hm:m≤n
 ·have hmi:(m:Int)≤(n:Int):=by omega
  have hmc:(m:Int)≤(c:Int):=by omega
  have hmc2:m≤c:=by omega
  have HE:=Lib.hid (fun c3=>equal_any B m c3 B' m c' A A' (xs.take m) ys w (RdB.pre h hm) h')
  clear hl hl'
  go_enter Tryz.func20,Tryz.ntmps20
  go_wp2_with (go_at_call 47;(with_reducible refine (HE.out _).mono ?_);go_must (rintro e w1 ⟨rfl,rfl⟩))
  go_ret
  exact ⟨rfl,rfl⟩
 ·have hmi:¬ (m:Int)≤(n:Int):=by omega
  have e:(xs.take m == ys)=false:=by
   rw [beq_eq_false_iff_ne]
   intro e
   have:=congrArg List.length e
   rw [List.length_take] at this
   omega
  rw [e]
  clear e hl hl'
  go_enter Tryz.func20,Tryz.ntmps20
  go_wp2_with fail
  go_ret
  exact ⟨rfl,rfl⟩
def ChPost (bs:List UInt8) (w:World) (e:Ending) (w':World):Prop :=
 ∃ A n c l,e=.returned (.tuple #[.slice A n c,.int .i64 ((chunksP bs).1:Int)])∧RdQ w' w'.heap.size A n l∧CR w' none l (chunksP bs).2∧n≤c∧Below w.heap.size w w'
set_option maxRecDepth 100000 in
set_option maxHeartbeats 6400000 in
theorem chunks_any (B n c:Nat) (A:Option Addr) (bs:List UInt8) (w:World) (h:RdB w B A n bs) (hB:B≤w.heap.size) (hc:n≤c) (hn:n≤1000000) :
  Calls Tryz.prog 9 #[.slice A n c] w fun e w'=>ChPost bs w e w':=by
 have hl:=h.len
 have kc:=conv_const
 have HB1:=Lib.hid ((Below.refl w.heap.size w).alloc (Nat.le_refl _) (.cells #[.int .u8 137,.int .u8 80,.int .u8 78,.int .u8 71,.int .u8 13,.int .u8 10,.int .u8 26,.int .u8 10] 5 (8,9)))
 have HP:=Lib.hid (prefix_any B n c (w.heap.size+1) 8 8 A (some ⟨w.heap.size,0,none⟩) bs markL (w.alloc (.cells (cb markL).toArray 5 (8,9))) (Rd.alloc h hB _) (rd_lit w 5 (8,9) markL) hc)
 have hcm:(cb markL).toArray=#[.int .u8 137,.int .u8 80,.int .u8 78,.int .u8 71,.int .u8 13,.int .u8 10,.int .u8 26,.int .u8 10]:=rfl
 rw [hcm] at HP
 clear hcm
 obtain ⟨w1,hw1⟩:∃ w1,w.alloc (.cells #[.int .u8 137,.int .u8 80,.int .u8 78,.int .u8 71,.int .u8 13,.int .u8 10,.int .u8 26,.int .u8 10] 5 (8,9))=w1:=⟨_,rfl⟩
 rw [hw1] at HB1 HP
 have HR:=Lib.hid h
 have HBB:=Lib.hid hB
 have HLL:=Lib.hid hl
 clear h hB hl
 by_cases hm:bs.take 8=markL
 ·have hmk:(bs.take 8 == markL)=true:=by rw [hm];exact beq_self_eq_true _
  rw [hmk] at HP
  have HCP:Hid (chunksP bs=ckF bs n 8 []):=(show _=_ by unfold chunksP;rw [if_pos hm,HLL.out])
  have h8:8≤n:=by rw [← HLL.out];exact mark_len hm
  clear hm hmk
  go_enter Tryz.func9,Tryz.ntmps9
  go_wp2_with (go_at_call 20;(with_reducible refine HP.out.mono ?_);go_must (rintro e w2 ⟨rfl,rfl⟩))
  clear hw1 HP kc
  go_loopw [4,5] (fun vl va wr=>∃ (k f:Nat) (acc:List CK) (lc:List CQ),k≤n∧va=.int .i64 (k:Int)∧Hid (ckF bs n 8 []=ckF bs f k acc)∧Hid (n≤k+f)∧Hid (ownQ wr w.heap.size vl lc)∧Hid (CR wr vl.ownBlock lc acc)∧Hid (Below w.heap.size w wr)∧Hid (totC acc≤k)) (fun _ va _=>n - (intOf va).toNat)
  case atStart=>exact ⟨8,n,[],[],h8,rfl,rfl,(show n≤8+n by omega),ownQ.nil_ _ _,CR.nil _ _,HB1.out,(show 0≤8 by omega)⟩
  case round =>
   clear HB1
   obtain ⟨k,f,acc,lc,hk,rfl,HE,HF,HO,HCR,HB,HT⟩:=hrel
   have hz:=HB.out.size
   have HRr:=Lib.hid (RdB.blw HR.out (HB.out.mono HBB.out))
   have hBr:B≤wr.heap.size:=Nat.le_trans HBB.out hz
   by_cases hlt:k < n
   ·have hlti:(k:Int) < (n:Int):=by omega
    have hltb:k < bs.length:=by rw [HLL.out];exact hlt
    obtain ⟨f,rfl⟩:∃ g,f=g+1:=⟨f - 1,by have:=HF.out;omega⟩
    by_cases h0:nxE bs k=0
    ·have HST:=Lib.hid (ckF_go (f:=f) hltb h0 acc)
     obtain ⟨z1,z2,z3,z4⟩:=nxE_zero h0
     have hdl:=(nx_good h0).2
     rw [HLL.out] at z3
     have HNX:=Lib.hid (next_ok B n c k A bs wr HRr.out hBr hc hn z1 z2 z3 z4)
     have hll:lc.length≤1000000:=by have h1:=HCR.out.1;have h2:=totC_len acc;have h3:=HT.out;omega
     have HT2:Hid (totC (acc ++ [(nxK bs k,nxD bs k)])≤k+(nxL bs k+12)):=(show _≤_ by
      rw [totC_app]
      show totC acc+((nxD bs k).length+12+0)≤_
      have:=HT.out
      omega)
     have hDL:=Lib.hid hdl
     obtain ⟨Al,cl,rfl,-,-,-⟩:=HO.out.form
     clear h0 z1 z2 z4 hltb hdl
     have HDT:Hid (∀ g,(Value.slice Al lc.length cl).ownBlock=some g→g < wr.heap.size):=(show ∀ g,_ from fun g hg=>(World.ownsRow.lt HO.out g hg).2)
     generalize nxL bs k=L at *
     generalize nxK bs k=kk at *
     generalize nxD bs k=dd at *
     have hw2:IntKind.i64.wrap ((k:Int)+((L:Int)+12))=(k:Int)+((L:Int)+12):=by rw [show (k:Int)+((L:Int)+12)=((k+(L+12):Nat):Int) by omega];exact wrap_i64_lt _ (by omega)
     have hk2:k+(L+12)≤n:=by omega
     have HK2:Hid ((k:Int)+((L:Int)+12)=((k+(L+12):Nat):Int)):=(show _=_ by omega)
     clear z3
     go_wp2_with (first
      | (go_at_call 21;(with_reducible refine HNX.out.mono ?_);go_must (rintro e w5 ⟨v5,rfl,ho5,hb5,hn5⟩;obtain ⟨A5,c5,rfl,-,hc5,-⟩:=ho5.form;have HC5:=Lib.hid hc5;have HD5:=Lib.hid (DAt.new ho5 hn5 HDT.out);have hz5:=hb5.size;have HCR5:=Lib.hid (((HCR.out.later hb5).alloc (.cells #[.string ⟨kk.toArray⟩,.slice A5 dd.length c5] 33)).alloc (.cells #[.string ⟨kk.toArray⟩,.slice A5 dd.length c5] 33));have HO5:=Lib.hid (ownQ.alloc (ownQ.alloc (HO.out.later hb5) (.cells #[.string ⟨kk.toArray⟩,.slice A5 dd.length c5] 33)) (.cells #[.string ⟨kk.toArray⟩,.slice A5 dd.length c5] 33));have HB5:=Lib.hid (((HB.out.trans (hb5.mono hz)).alloc (Nat.le_trans hz hz5) (.cells #[.string ⟨kk.toArray⟩,.slice A5 dd.length c5] 33)).alloc (by rw [World.size_alloc];omega) (.cells #[.string ⟨kk.toArray⟩,.slice A5 dd.length c5] 33));have HLQ:Hid (RdQ ((w5.alloc (.cells #[.string ⟨kk.toArray⟩,.slice A5 dd.length c5] 33)).alloc (.cells #[.string ⟨kk.toArray⟩,.slice A5 dd.length c5] 33)) (w5.heap.size+1+1) (some ⟨w5.heap.size+1,0,none⟩) 1 [(kk,A5,dd.length,c5)]):=(show RdQ _ _ _ _ _ from (by have:=rd_oneQ (w5.alloc (.cells #[.string ⟨kk.toArray⟩,.slice A5 dd.length c5] 33)) (kk,A5,dd.length,c5) 33 (0,0);rw [World.size_alloc] at this;exact this));have hz6:w.heap.size≤((w5.alloc (.cells #[.string ⟨kk.toArray⟩,.slice A5 dd.length c5] 33)).alloc (.cells #[.string ⟨kk.toArray⟩,.slice A5 dd.length c5] 33)).heap.size:=(by rw [World.size_alloc,World.size_alloc];omega);clear ho5 hb5 hn5 hc5))
      | (at_builtin;(refine wpList_appendQ rfl (.tmp 28) (.tmp 30) rfl w.heap.size (.slice Al lc.length cl) lc rfl HO5.out _ 1 1 (some ⟨w5.heap.size+1,0,none⟩) [(kk,A5,dd.length,c5)] rfl HLQ.out (by omega) hz6 ?_;intro v7 w7 ho7 hg7 hb7 hat7;have HO7:=Lib.hid ho7;have HG7:=Lib.hid hg7;have HB7:=Lib.hid (HB5.out.trans hb7);have HAT7:=Lib.hid hat7;clear ho7 hg7 hb7 hat7)))
     go_roundw
     case rel =>
      refine ⟨k+(L+12),f,acc ++ [(kk,dd)],lc ++ [(kk,A5,dd.length,c5)],hk2,?_,HE.out.trans HST.out,(show n≤k+(L+12)+f by have:=HF.out;omega),HO7.out,?_,HB7.out,HT2.out⟩
      ·first | rfl | (rw [HK2.out]) | go_num
      ·exact CR.gro ((HCR5.out).snoc (DAt.later (DAt.later HD5.out ((Below.refl _ _).alloc (Nat.le_refl _) _)) ((Below.refl _ _).alloc (Nat.le_refl _) _)) HC5.out) HG7.out HAT7.out
     case measure=>simp [intOf];omega
    ·have HST:=Lib.hid (ckF_bad (f:=f) hltb h0 acc)
     have HNX:=Lib.hid (next_bad B n c k A bs wr HRr.out hBr hc hn hlt h0)
     have hne:((nxE bs k:Int) != 0)=true:=by rw [bne_iff_ne];omega
     clear h0 hltb
     generalize nxE bs k=E at *
     go_wp2_with (go_at_call 21;(with_reducible refine HNX.out.mono ?_);go_must (rintro e w5 ⟨rfl,hb5⟩;have HB5:=Lib.hid ((HB.out.trans (hb5.mono hz)).alloc (Nat.le_trans hz hb5.size) (.cells #[.string ⟨#[]⟩,.slice none 0 0] 33));clear hb5))
     go_ret2
     unfold ChPost
     rw [HCP.out,HE.out,HST.out]
     exact ⟨none,0,0,[],rfl,RdQ.nil_,CR.nil _ _,Nat.le_refl _,HB5.out⟩
   ·have hlti:¬ (k:Int) < (n:Int):=by omega
    have HST:=Lib.hid (ckF_end (bs:=bs) (k:=k) (by rw [HLL.out];exact hlt) acc f)
    obtain ⟨Al,cl,rfl,hrl,hcl,-⟩:=HO.out.form
    have HRL:=Lib.hid hrl
    have HCL:=Lib.hid hcl
    clear hrl hcl
    go_wp2_with fail
    go_ret2
    unfold ChPost
    rw [HCP.out,HE.out,HST.out]
    exact ⟨Al,lc.length,cl,lc,rfl,HRL.out,HCR.out.any,HCL.out,HB.out⟩
 ·have hmk:(bs.take 8 == markL)=false:=by rw [beq_eq_false_iff_ne];exact hm
  rw [hmk] at HP
  have HCP:Hid (chunksP bs=(4,[])):=(show _=_ by unfold chunksP;rw [if_neg hm])
  clear hm hmk
  go_enter Tryz.func9,Tryz.ntmps9
  go_wp2_with (go_at_call 20;(with_reducible refine HP.out.mono ?_);go_must (rintro e w2 ⟨rfl,rfl⟩))
  go_ret2
  unfold ChPost
  rw [HCP.out]
  exact ⟨none,0,0,[],rfl,RdQ.nil_,CR.nil _ _,Nat.le_refl _,HB1.out⟩
end Go.Proofs.YtebbdifhiihfkaaGreatDoor

/- png: how chunks stand. -/
namespace Go.Proofs.YtebbdifhiihfkaaGreatDoor
set_option linter.all false
open Go.RowKit
set_option maxRecDepth 100000 in
theorem known_any (k:List UInt8) (w:World):Calls Tryz.prog 53 #[.string ⟨k.toArray⟩] w fun e w'=>e=.returned (.bool (knownB k))∧w=w':=by
 go_enter Tryz.func53,Tryz.ntmps53
 go_wp2_with fail
 all_goals go_ret
 all_goals refine ⟨?_,rfl⟩
 all_goals unfold knownB IHDR PLTE IDAT IEND
 all_goals first
  | rfl
  | (simp [*];done)
theorem CR.kinds {w:World} {T:Option Nat} {l:List CQ} {p:List CK} (h:CR w T l p):l.map (fun x=>x.1)=p.map (fun x=>x.1):=by
 apply List.ext_getElem?
 intro i
 rw [List.getElem?_map,List.getElem?_map]
 by_cases hi:i < p.length
 ·obtain ⟨k,d,A,c,h1,h2,-⟩:=h.one hi
  rw [h1,h2]
  rfl
 ·have:=h.1
  rw [List.getElem?_eq_none (by omega),List.getElem?_eq_none (by omega)]
  rfl
def stopQ (x:CQ):Bool:=x.1 == PLTE || x.1 == IDAT
def isQ (x:CQ):Bool:=x.1 == IDAT
def lastQ (l:List CQ):Bool:=match l.getLast? with | some x=>isQ x | none=>true
theorem any_kinds (f:List UInt8→Bool):∀ {l:List CQ} {p:List CK},l.map (fun x=>x.1)=p.map (fun x=>x.1)→l.any (fun x=>f x.1)=p.any (fun x=>f x.1)
 | [],[],_=>rfl
 | [],y :: p,h=>by cases h
 | x :: l,[],h=>by cases h
 | x :: l,y :: p,h=>by
  rw [List.map_cons,List.map_cons] at h
  injection h with h1 h2
  rw [List.any_cons,List.any_cons,any_kinds f h2,h1]
theorem last_kinds {l:List CQ} {p:List CK} (h:l.map (fun x=>x.1)=p.map (fun x=>x.1)):lastQ l=lastD p:=by
 have e:(l.map (fun x=>x.1)).getLast?=(p.map (fun x=>x.1)).getLast?:=by rw [h]
 rw [List.getLast?_map,List.getLast?_map] at e
 unfold lastQ lastD
 cases h1:l.getLast? with
 | none =>
  rw [h1] at e
  cases h2:p.getLast? with
  | none=>rfl
  | some y=>rw [h2] at e;cases e
 | some x =>
  rw [h1] at e
  cases h2:p.getLast? with
  | none=>rw [h2] at e;cases e
  | some y =>
   rw [h2] at e
   have e:x.1=y.1:=by injection e
   show isQ x=isD y
   unfold isQ isD
   rw [e]
theorem any_step {α:Type} (f:α→Bool) {l:List α} {k:Nat} {x:α} (h:l[k]?=some x):(l.take (k+1)).any f=((l.take k).any f || f x):=by
 rw [List.take_add_one,h,List.any_append]
 simp
theorem any_at {α:Type} (f:α→Bool) {l:List α} {k:Nat} {x:α} (h:l[k]?=some x) (hx:f x=true):l.any f=true:=by
 rw [List.any_eq_true]
 exact ⟨x,List.mem_of_getElem? h,hx⟩
set_option maxRecDepth 100000 in
theorem palette_any (B n c n2 c2:Nat) (A A2:Option Addr) (l:List CQ) (k:List UInt8) (col:UInt8) (w:World) (h:RdQ w B A n l) (hB:B≤w.heap.size) (hn:n≤1000000) (hn2:n2≤1000000) :
  Calls Tryz.prog 51 #[.slice A n c,.agg #[.string ⟨k.toArray⟩,.slice A2 n2 c2],.int .u8 (col.toNat:Int)] w fun e w'=>e=.returned (.bool (!l.any stopQ && decide (0 < n2∧n2 % 3=0∧n2≤768∧col ≠ 0∧col ≠ 4)))∧Below w.heap.size w w':=by
 have hl:=h.len
 obtain ⟨V,hV⟩:∃ V,(!l.any stopQ && decide (0 < n2∧n2 % 3=0∧n2≤768∧col ≠ 0∧col ≠ 4))=V:=⟨_,rfl⟩
 have HV:=Lib.hid hV
 rw [hV]
 clear hV
 obtain ⟨w1,hw1⟩:∃ w1,w.alloc (.cells #[.string ⟨k.toArray⟩,.slice A2 n2 c2] 33)=w1:=⟨_,rfl⟩
 obtain ⟨bk,hbk⟩:∃ b,w.heap.size=b:=⟨_,rfl⟩
 have HA1:Hid (Arr w1 bk [.string ⟨k.toArray⟩,.slice A2 n2 c2]):=(show Arr _ _ _ by rw [← hw1,← hbk];exact Arr.new w [.string ⟨k.toArray⟩,.slice A2 n2 c2] _)
 have HR1:Hid (RdQ w1 B A n l):=(show RdQ _ _ _ _ _ by rw [← hw1];exact RdQ.alloc h hB _)
 have HB1:Hid (Below bk w w1):=(show Below _ _ _ by rw [← hw1,← hbk];exact (Below.refl w.heap.size w).alloc (Nat.le_refl _) _)
 have hz1:bk+1≤w1.heap.size:=by rw [← hw1,World.size_alloc,hbk];exact Nat.le_refl _
 rw [hbk] at hB
 have HLL:=Lib.hid hl
 clear h hl
 go_enter Tryz.func51,Tryz.ntmps51
 simp only [hw1,hbk]
 go_wp2_with fail
 clear hw1
 go_loopw [11] (fun vi wr=>∃ i:Nat,i≤n∧vi=.int .i64 (i:Int)∧Hid ((l.take i).any stopQ=false)∧Hid (Below (bk+1) w1 wr)) (fun vi _=>n - (intOf vi).toNat)
 case atStart=>exact ⟨0,Nat.zero_le _,rfl,rfl,Below.refl _ _⟩
 case round =>
  obtain ⟨i,hi,rfl,HN,HB⟩:=hrel
  have hz:=HB.out.size
  by_cases hlt:i < n
  ·have hlti:(i:Int) < (n:Int):=by omega
   have HR:Hid (RdQ wr B A n l):=(show RdQ _ _ _ _ _ from HR1.out.blw (HB.out.mono (by omega)))
   obtain ⟨b,o,x,rfl,hb,HX,e1,e2⟩:=HR.out.one hlt
   have HS:=Lib.hid (any_step stopQ HX.out)
   obtain ⟨xk,xA,xn,xc⟩:=x
   dsimp only at e1 e2
   have hi2:IntKind.i64.wrap ((i:Int)+1)=(i:Int)+1:=by rw [show (i:Int)+1=((i+1:Nat):Int) by omega];exact wrap_i64_lt _ (by omega)
   cases hst:stopQ (xk,xA,xn,xc) with
   | true =>
    have HE:Hid (V=false):=(show _=_ from HV.out.symm.trans (by rw [any_at stopQ HX.out hst];rfl))
    clear HX HR
    have hcs:xk=PLTE∨(¬ xk=PLTE∧xk=IDAT):=by
     unfold stopQ at hst
     simp only [Bool.or_eq_true,beq_iff_eq] at hst
     rcases hst with e | e
     ·exact .inl e
     ·by_cases e2:xk=PLTE
      ·exact .inl e2
      ·exact .inr ⟨e2,e⟩
    clear hst
    have hbw:bk≤wr.heap.size:=by omega
    have HBW:=Lib.hid ((HB1.out.trans (HB.out.mono (Nat.le_succ bk))).alloc hbw (.cells #[.string ⟨xk.toArray⟩,.slice xA xn xc] 33))
    unfold PLTE IDAT at hcs
    rcases hcs with rfl | ⟨h1,rfl⟩
    ·go_wp2_with fail
     go_ret
     rw [HE.out]
     exact ⟨rfl,HBW.out⟩
    ·go_wp2_with fail
     go_ret
     rw [HE.out]
     exact ⟨rfl,HBW.out⟩
   | false =>
    rw [hst,HN.out] at HS
    have HS2:Hid ((l.take (i+1)).any stopQ=false):=(show _=_ from HS.out)
    have h1:(xk == [80,76,84,69])=false:=(Bool.or_eq_false_iff.1 hst).1
    have h2:(xk == [73,68,65,84])=false:=(Bool.or_eq_false_iff.1 hst).2
    clear HX HS HR hst
    go_wp2_with fail
    go_roundw
    case rel=>exact ⟨i+1,by omega,by go_num,HS2,HB.out.alloc (by omega) _⟩
    case measure=>simp [intOf];omega
  ·obtain rfl:i=n:=by omega
   have hlti:¬ (i:Int) < (i:Int):=by omega
   have hE0:=HN.out
   rw [List.take_of_length_le (Nat.le_of_eq HLL.out)] at hE0
   have HE:=Lib.hid hE0
   clear hE0
   have HA:=Lib.hid (HA1.out.blw HB.out (Nat.lt_succ_self bk))
   have a0:=HA.out.cell (k:=0) rfl
   have a1:=HA.out.cell (k:=1) rfl
   have HBW:=Lib.hid (HB1.out.trans (HB.out.mono (Nat.le_succ bk)))
   obtain ⟨r,hr⟩:∃ r,n2 % 3=r:=⟨_,rfl⟩
   have hrm:(n2:Int).tmod 3=(r:Int):=by rw [← hr];rfl
   have hrm2:(n2:Int) % 3=(r:Int):=by omega
   have hrw:IntKind.i64.wrap (r:Int)=(r:Int):=wrap_i64_lt _ (by omega)
   have HRQ:=Lib.hid hr
   have HC0:Hid (col.toNat=0→col=0):=(show _→_ from fun e=>UInt8.toNat.inj e)
   have HC4:Hid (col.toNat=4→col=4):=(show _→_ from fun e=>UInt8.toNat.inj e)
   clear HN HR1 hr
   by_cases t1:0 < n2
   ·have t1i:(0:Int) < (n2:Int):=by omega
    by_cases t2:r=0
    ·have t2i:((r:Int) == 0)=true:=by rw [t2];rfl
     by_cases t3:n2≤768
     ·have t3i:(n2:Int)≤768:=by omega
      by_cases t4:col.toNat=0
      ·have t4i:((col.toNat:Int) != 0)=false:=by rw [t4];rfl
       go_wp2_with fail
       go_ret
       obtain rfl:V=false:=HV.out.symm.trans (by rw [HE.out];exact decide_eq_false (fun ⟨g1,g2,g3,g4,g5⟩=>g4 (HC0.out t4)))
       exact ⟨rfl,HBW.out⟩
      ·have t4i:((col.toNat:Int) != 0)=true:=by rw [bne_iff_ne];omega
       by_cases t5:col.toNat=4
       ·have t5i:((col.toNat:Int) != 4)=false:=by rw [t5];rfl
        go_wp2_with fail
        go_ret
        obtain rfl:V=false:=HV.out.symm.trans (by rw [HE.out];exact decide_eq_false (fun ⟨g1,g2,g3,g4,g5⟩=>g5 (HC4.out t5)))
        exact ⟨rfl,HBW.out⟩
       ·have t5i:((col.toNat:Int) != 4)=true:=by rw [bne_iff_ne];omega
        go_wp2_with fail
        go_ret
        obtain rfl:V=true:=HV.out.symm.trans (by rw [HE.out];exact decide_eq_true ⟨t1,by have:=HRQ.out;omega,t3,fun e=>t4 (by rw [e];rfl),fun e=>t5 (by rw [e];rfl)⟩)
        exact ⟨rfl,HBW.out⟩
     ·have t3i:¬ (n2:Int)≤768:=by omega
      go_wp2_with fail
      go_ret
      obtain rfl:V=false:=HV.out.symm.trans (by rw [HE.out];exact decide_eq_false (fun ⟨g1,g2,g3,g4,g5⟩=>t3 g3))
      exact ⟨rfl,HBW.out⟩
    ·have t2i:((r:Int) == 0)=false:=by rw [beq_eq_false_iff_ne];omega
     go_wp2_with fail
     go_ret
     obtain rfl:V=false:=HV.out.symm.trans (by rw [HE.out];exact decide_eq_false (fun ⟨g1,g2,g3,g4,g5⟩=>t2 (HRQ.out.symm.trans g2)))
     exact ⟨rfl,HBW.out⟩
   ·have t1i:¬ (0:Int) < (n2:Int):=by omega
    go_wp2_with fail
    go_ret
    obtain rfl:V=false:=HV.out.symm.trans (by rw [HE.out];exact decide_eq_false (fun ⟨g1,g2,g3,g4,g5⟩=>t1 g1))
    exact ⟨rfl,HBW.out⟩
set_option maxRecDepth 100000 in
theorem together_any (B n c:Nat) (A:Option Addr) (l:List CQ) (w:World) (h:RdQ w B A n l) (hB:B≤w.heap.size) (hn:n≤1000000) :
  Calls Tryz.prog 52 #[.slice A n c] w fun e w'=>e=.returned (.bool (!l.any isQ || lastQ l))∧Below w.heap.size w w':=by
 have hl:=h.len
 obtain ⟨V,hV⟩:∃ V,(!l.any isQ || lastQ l)=V:=⟨_,rfl⟩
 have HV:=Lib.hid hV
 rw [hV]
 clear hV
 have HR0:=Lib.hid h
 have HLL:=Lib.hid hl
 clear h hl
 go_enter Tryz.func52,Tryz.ntmps52
 go_wp2_with fail
 go_loopw [7] (fun vi wr=>∃ i:Nat,i≤n∧vi=.int .i64 (i:Int)∧Hid ((l.take i).any isQ=false)∧Hid (Below w.heap.size w wr)) (fun vi _=>n - (intOf vi).toNat)
 case atStart=>exact ⟨0,Nat.zero_le _,rfl,rfl,Below.refl _ _⟩
 case round =>
  obtain ⟨i,hi,rfl,HN,HB⟩:=hrel
  have hz:=HB.out.size
  by_cases hlt:i < n
  ·have hlti:(i:Int) < (n:Int):=by omega
   have HR:Hid (RdQ wr B A n l):=(show RdQ _ _ _ _ _ from HR0.out.blw (HB.out.mono hB))
   obtain ⟨b,o,x,rfl,hb,HX,e1,e2⟩:=HR.out.one hlt
   obtain ⟨b',o',y,hbo,-,HY,f1,f2⟩:=HR.out.one (k:=n - 1) (by omega)
   injection hbo with hbo
   injection hbo with q1 q2
   subst q1 q2
   have HS:=Lib.hid (any_step isQ HX.out)
   obtain ⟨xk,xA,xn,xc⟩:=x
   obtain ⟨yk,yA,yn,yc⟩:=y
   dsimp only at e1 e2 f1 f2
   have hi2:IntKind.i64.wrap ((i:Int)+1)=(i:Int)+1:=by rw [show (i:Int)+1=((i+1:Nat):Int) by omega];exact wrap_i64_lt _ (by omega)
   have hm1:IntKind.i64.wrap ((n:Int) - 1)=((n - 1:Nat):Int):=by rw [show (n:Int) - 1=((n - 1:Nat):Int) by omega];exact wrap_i64_lt _ (by omega)
   have hm2:n - 1 < n:=by omega
   have hm3:((n - 1:Nat):Int) < (n:Int):=by omega
   have hbn:b < wr.heap.size:=by omega
   cases hst:isQ (xk,xA,xn,xc) with
   | true =>
    have hly:l.getLast?=some (yk,yA,yn,yc):=by rw [List.getLast?_eq_getElem?,HLL.out];exact HY.out
    have HE:Hid (V=(yk == [73,68,65,84])):=(show _=_ by
     rw [← HV.out,any_at isQ HX.out hst]
     unfold lastQ
     rw [hly]
     rfl)
    have hx1:xk=[73,68,65,84]:=by unfold isQ at hst;exact eq_of_beq hst
    clear HX HR hst HY hly HS
    generalize n - 1=m at *
    subst hx1
    have HBW:=Lib.hid (HB.out.alloc hz (.cells #[.string ⟨#[73,68,65,84]⟩,.slice xA xn xc] 33))
    by_cases hy:yk=[73,68,65,84]
    ·subst hy
     go_wp2_with fail
     go_ret
     rw [HE.out]
     exact ⟨rfl,HBW.out⟩
    ·go_wp2_with fail
     go_ret
     rw [HE.out]
     exact ⟨by first | rfl | simp [hy],HBW.out⟩
   | false =>
    rw [hst,HN.out] at HS
    have HS2:Hid ((l.take (i+1)).any isQ=false):=(show _=_ from HS.out)
    have h2:(xk == [73,68,65,84])=false:=hst
    clear HX HS HR hst HY f1 f2
    go_wp2_with fail
    go_roundw
    case rel=>exact ⟨i+1,by omega,by go_num,HS2,HB.out.alloc hz _⟩
    case measure=>simp [intOf];omega
  ·obtain rfl:i=n:=by omega
   have hlti:¬ (i:Int) < (i:Int):=by omega
   have HE:Hid (V=true):=(show _=_ by
    have:=HN.out
    rw [List.take_of_length_le (Nat.le_of_eq HLL.out)] at this
    rw [← HV.out,this]
    rfl)
   go_wp2_with fail
   go_ret
   rw [HE.out]
   exact ⟨rfl,HB.out⟩
end Go.Proofs.YtebbdifhiihfkaaGreatDoor

/- png: do chunks stand as they may? -/
namespace Go.Proofs.YtebbdifhiihfkaaGreatDoor
set_option linter.all false
open Go.RowKit
theorem badB_H (p:List CK) (col:UInt8) (i:Nat) (d:List UInt8):badB p col i (IHDR,d)=(decide (0 < i) || decide (i+1=p.length)):=by
 have h1:(IHDR == IHDR)=true:=rfl
 have h2:(IHDR == PLTE)=false:=rfl
 have h3:(IHDR == IDAT)=false:=rfl
 have h4:(IHDR == IEND)=false:=rfl
 have h5:knownB IHDR=true:=rfl
 unfold badB
 simp only [h1,h2,h3,h4,h5]
 cases decide (0 < i) <;> cases decide (i+1=p.length) <;> rfl
theorem badB_P (p:List CK) (col:UInt8) (i:Nat) (d:List UInt8):badB p col i (PLTE,d)=(!palB (p.take i) d col || decide (i+1=p.length)):=by
 have h1:(PLTE == IHDR)=false:=rfl
 have h2:(PLTE == PLTE)=true:=rfl
 have h3:(PLTE == IDAT)=false:=rfl
 have h4:(PLTE == IEND)=false:=rfl
 have h5:knownB PLTE=true:=rfl
 unfold badB
 simp only [h1,h2,h3,h4,h5]
 cases palB (p.take i) d col <;> cases decide (i+1=p.length) <;> rfl
theorem badB_D (p:List CK) (col:UInt8) (i:Nat) (d:List UInt8):badB p col i (IDAT,d)=(!togB (p.take i) || decide (i+1=p.length)):=by
 have h1:(IDAT == IHDR)=false:=rfl
 have h2:(IDAT == PLTE)=false:=rfl
 have h3:(IDAT == IDAT)=true:=rfl
 have h4:(IDAT == IEND)=false:=rfl
 have h5:knownB IDAT=true:=rfl
 unfold badB
 simp only [h1,h2,h3,h4,h5]
 cases togB (p.take i) <;> cases decide (i+1=p.length) <;> rfl
theorem badB_E (p:List CK) (col:UInt8) (i:Nat) (d:List UInt8):badB p col i (IEND,d)=(!decide (i+1=p.length) || decide (0 < d.length)):=by
 have h1:(IEND == IHDR)=false:=rfl
 have h2:(IEND == PLTE)=false:=rfl
 have h3:(IEND == IDAT)=false:=rfl
 have h4:(IEND == IEND)=true:=rfl
 have h5:knownB IEND=true:=rfl
 unfold badB
 simp only [h1,h2,h3,h4,h5]
 cases decide (i+1=p.length) <;> cases decide (0 < d.length) <;> rfl
theorem badB_O (p:List CK) (col:UInt8) (i:Nat) (k d:List UInt8) (h1:(k == IHDR)=false) (h2:(k == PLTE)=false) (h3:(k == IDAT)=false) (h4:(k == IEND)=false):badB p col i (k,d)=(decide (i+1=p.length) || decide ((k.getD 0 0).toNat≤90)):=by
 have h5:knownB k=false:=by unfold knownB;rw [h1,h2,h3,h4];rfl
 unfold badB
 simp only [h1,h2,h3,h4,h5]
 cases decide (i+1=p.length) <;> cases decide (0 < d.length) <;> cases decide ((k.getD 0 0).toNat≤90) <;> rfl
theorem palB_eq (p:List CK) (d:List UInt8) (col:UInt8):palB p d col=(!p.any stopB && decide (0 < d.length∧d.length % 3=0∧d.length≤768∧col ≠ 0∧col ≠ 4)):=rfl
def SdPost (p:List CK) (w:World) (e:Ending) (w':World):Prop:=∃ b,e=.returned (.bool b)∧(b=true ↔ SoundP p)∧Below w.heap.size w w'
set_option maxRecDepth 100000 in
set_option maxHeartbeats 12800000 in
theorem sound_any (B n c:Nat) (A:Option Addr) (l:List CQ) (p:List CK) (w:World) (h:RdQ w B A n l) (hp:CR w none l p) (hB:B≤w.heap.size) (hc:n≤c) (hn:n≤1000000) (hg:∀ x ∈ p,GoodC x) (hdm:∀ x ∈ p,x.2.length≤1000000) :
  Calls Tryz.prog 26 #[.slice A n c] w fun e w'=>SdPost p w e w':=by
 have hl:=h.len
 have hpl:l.length=p.length:=hp.1
 rcases Nat.eq_zero_or_pos n with rfl | hn0
 ·have HNS:Hid (¬ SoundP p):=(show ¬ _ from fun hs=>by have:=hs.1;omega)
  clear h hp hl hpl
  go_enter Tryz.func26,Tryz.ntmps26
  go_wp2_with fail
  go_ret
  unfold SdPost
  exact ⟨_,rfl,⟨fun h=>(by cases h),fun h=>absurd h HNS.out⟩,Below.refl _ _⟩
 ·obtain ⟨b,o,x0,rfl,hb,HX0,e1,e2⟩:=h.one (k:=0) hn0
  obtain ⟨k0,d0,A0,c0,hp0,hl0,hc0,hr0⟩:=hp.one (i:=0) (by omega)
  have hx0:x0=(k0,A0,d0.length,c0):=by have:=HX0.out.symm.trans hl0;injection this
  subst hx0
  simp only [Nat.zero_mul,Nat.add_zero] at e1 e2
  have hn0i:((n:Int) == 0)=false:=by rw [beq_eq_false_iff_ne];omega
  have hgd0:p.getD 0 ([],[])=(k0,d0):=by rw [List.getD_eq_getElem?_getD,hp0];rfl
  have hhd:hdCk p=d0:=by unfold hdCk;rw [hgd0]
  have hn0j:(0:Int) < (n:Int):=by omega
  by_cases hk0:k0=IHDR
  ·have hk0':k0=[73,72,68,82]:=hk0
   subst hk0'
   by_cases hd0:d0.length=13
   ·have hd0i:((d0.length:Int) != 13)=false:=by rw [hd0];rfl
    have HD0:=Lib.hid hd0
    rw [hd0] at hr0 e2
    have HR0:=Lib.hid hr0
    have HL0:Hid (l[0]?=some ([73,72,68,82],A0,13,c0)):=(show _=_ by rw [hl0,hd0])
    have HRW:=Lib.hid h
    have HCR:=Lib.hid hp
    have HG:=Lib.hid hg
    have HDM:=Lib.hid hdm
    have HSP:Hid (SoundP p ↔ ((∀ i x,p[i]?=some x→badB p (d0.getD 9 0) i x=false)∧p.any isD=true)):=(show _ ↔ _ by
     have hcl:colCk p=d0.getD 9 0:=by unfold colCk;rw [hhd]
     unfold SoundP
     rw [hgd0,hhd,hcl]
     exact ⟨fun h=>⟨h.2.2.2.1,h.2.2.2.2⟩,fun h=>⟨by omega,rfl,hd0,h.1,h.2⟩⟩)
    have HPL:Hid (p.length=n):=(show _=_ by omega)
    clear HX0 hp0 hl0 hc0 hr0 hp hg hdm hhd hgd0 hk0 hd0 hl hpl h
    obtain ⟨b0,o0,col,rfl,hb0,HCL,e9⟩:=HR0.out.byte (k:=9) (by omega)
    have HCOL:Hid (d0.getD 9 0=col):=(show _=_ by rw [List.getD_eq_getElem?_getD,HCL.out];rfl)
    rw [HCOL.out] at HSP
    have HE9:=Lib.hid e9
    clear HCL
    go_enter Tryz.func26,Tryz.ntmps26
    go_wp2_with fail
    clear e1 e2 e9
    go_loopw [27,3] (fun vi vd wr=>∃ (i:Nat) (dt:Bool),i≤n∧vi=.int .i64 (i:Int)∧vd=.bool dt∧Hid ((p.take i).any isD=dt)∧Hid (∀ j x,j < i→p[j]?=some x→badB p col j x=false)∧Hid (Below w.heap.size w wr)) (fun vi _ _=>n - (intOf vi).toNat)
    case atStart=>exact ⟨0,false,Nat.zero_le _,rfl,rfl,rfl,(fun j x hj=>absurd hj (Nat.not_lt_zero _)),Below.refl _ _⟩
    case round =>
     obtain ⟨i,dt,hi,rfl,rfl,HDT,HOK,HB⟩:=hrel
     have hz:=HB.out.size
     by_cases hlt:i < n
     ·have hlti:(i:Int) < (n:Int):=by omega
      have HR:Hid (RdQ wr B (some ⟨b,o,none⟩) n l):=(show RdQ _ _ _ _ _ from HRW.out.blw (HB.out.mono hB))
      obtain ⟨b',o',x,hbo,-,HX,e1,e2⟩:=HR.out.one hlt
      injection hbo with hbo
      injection hbo with q1 q2
      subst q1 q2
      obtain ⟨xk,xd,xA,xc,hpi,hli,-,-⟩:=HCR.out.one (i:=i) (by have:=HPL.out;omega)
      have hx:x=(xk,xA,xd.length,xc):=by have:=HX.out.symm.trans hli;injection this
      subst hx
      have hgx:=HG.out _ (List.mem_of_getElem? hpi)
      have hdx:xd.length≤1000000:=HDM.out _ (List.mem_of_getElem? hpi)
      have HPI:=Lib.hid hpi
      have HTK:Hid (RdQ wr B (some ⟨b,o,none⟩) i (l.take i)):=(show RdQ _ _ _ _ _ by have:=RdQ.cut HR.out (k:=0) (m:=i) (by omega) (A':=some ⟨b,o,none⟩) (fun _=>by simp [Addr.add]);simpa using this)
      have HKT:Hid ((l.take i).map (fun x=>x.1)=(p.take i).map (fun x=>x.1)):=(show _=_ from (HCR.out.take i).kinds)
      have HN1:=Lib.hid (any_step isD hpi)
      have hk4:xk.length=4:=hgx.1
      clear HX hpi hli hgx HR
      dsimp only at e1 e2
      have hi2:IntKind.i64.wrap ((i:Int)+1)=(i:Int)+1:=by rw [show (i:Int)+1=((i+1:Nat):Int) by omega];exact wrap_i64_lt _ (by omega)
      obtain ⟨m,hm⟩:∃ m,n - 1=m:=⟨_,rfl⟩
      have hm1:IntKind.i64.wrap ((n:Int) - 1)=(m:Int):=by rw [show (n:Int) - 1=(m:Int) by omega];exact wrap_i64_lt _ (by omega)
      have HM:=Lib.hid hm
      clear hm
      obtain ⟨wq,hwq⟩:∃ wq,wr.alloc (.cells #[.string ⟨xk.toArray⟩,.slice xA xd.length xc] 33)=wq:=⟨_,rfl⟩
      obtain ⟨bq,hbq⟩:∃ bq,wr.heap.size=bq:=⟨_,rfl⟩
      have HAQ:Hid (Arr wq bq [.string ⟨xk.toArray⟩,.slice xA xd.length xc]):=(show Arr _ _ _ by rw [← hwq,← hbq];exact Arr.new wr [.string ⟨xk.toArray⟩,.slice xA xd.length xc] _)
      have HWQ:Hid (Below wr.heap.size wr wq):=(show Below _ _ _ by rw [← hwq];exact (Below.refl wr.heap.size wr).alloc (Nat.le_refl _) _)
      have hzq:bq+1=wq.heap.size:=by rw [← hwq,World.size_alloc,hbq]
      have HBQ:Hid (Below w.heap.size w wq):=(show Below _ _ _ from HB.out.trans (HWQ.out.mono hz))
      have q0:=HAQ.out.cell (k:=0) rfl
      have q1:=HAQ.out.cell (k:=1) rfl
      have HTQ:Hid (RdQ wq B (some ⟨b,o,none⟩) i (l.take i)):=(show RdQ _ _ _ _ _ from HTK.out.blw (HWQ.out.mono (by omega)))
      have hBq:B≤wq.heap.size:=by omega
      clear HTK HWQ
      by_cases hkH:xk=IHDR
      ·have e:xk=[73,72,68,82]:=hkH
       subst e
       clear hkH
       have HKN:=Lib.hid (known_any [73,72,68,82])
       rw [show knownB [73,72,68,82]=true from rfl] at HKN
       by_cases hi0:0 < i
       ·have hi0i:(0:Int) < (i:Int):=by omega
        have HBD:Hid (badB p col i ([73,72,68,82],xd)=true):=(show _=_ by exact (badB_H p col i xd).trans (by rw [decide_eq_true hi0];rfl))
        clear HDT HOK HN1
        go_wp2_with fail
        go_ret
        unfold SdPost
        refine ⟨false,rfl,⟨fun h=>(by cases h),fun h=>?_⟩,(by first | exact HBQ.out | exact bdrewN HBQ.out _)⟩
        have h2:=(HSP.out.1 h).1 i _ HPI.out
        rw [HBD.out] at h2
        cases h2
       ·have hi0i:¬ (0:Int) < (i:Int):=by omega
        by_cases hL:n=i+1
        ·have HL:=Lib.hid (show i+1=p.length by have h1:=HM.out;have h2:=HPL.out;omega)
         have hlast:((i:Int) == (m:Int))=true:=by rw [beq_iff_eq];have:=HM.out;omega
         clear hL
         have HBD:Hid (badB p col i ([73,72,68,82],xd)=true):=(show _=_ by exact (badB_H p col i xd).trans (by rw [decide_eq_true HL.out,Bool.or_true]))
         clear HDT HOK HN1
         go_upto_region 9 with fail
         go_quiet (fail)
         go_wp2_with fail
         go_ret
         unfold SdPost
         refine ⟨false,rfl,⟨fun h=>(by cases h),fun h=>?_⟩,(by first | exact HBQ.out | exact bdrewN HBQ.out _)⟩
         have h2:=(HSP.out.1 h).1 i _ HPI.out
         rw [HBD.out] at h2
         cases h2
        ·have HL:=Lib.hid (show ¬ i+1=p.length by have h1:=HM.out;have h2:=HPL.out;omega)
         have hlast:((i:Int) == (m:Int))=false:=by rw [beq_eq_false_iff_ne];have:=HM.out;omega
         have HBD:Hid (badB p col i ([73,72,68,82],xd)=false):=(show _=_ by exact (badB_H p col i xd).trans (by rw [decide_eq_false HL.out,decide_eq_false hi0];rfl))
         have HOK2:Hid (∀ j x,j < i+1→p[j]?=some x→badB p col j x=false):=(show ∀ j x,_ from fun j x hj hx=>by
          by_cases e:j=i
          ·subst e
           have h3:=HPI.out.symm.trans hx
           injection h3 with h3
           rw [← h3]
           exact HBD.out
          ·exact HOK.out j x (by omega) hx)
         have HN2:Hid ((p.take (i+1)).any isD=dt):=(show _=_ by rw [HN1.out,HDT.out];exact Bool.or_false _)
         clear HOK HBD HDT HN1
         cases dt <;>
          ·go_upto_region 9 with fail
           go_quiet (fail)
           go_wp2_with (go_at_call 53;(with_reducible refine (HKN.out _).mono ?_);go_must (rintro e w8 ⟨rfl,rfl⟩))
           go_roundw
           case rel=>exact ⟨i+1,_,by omega,by go_num,rfl,HN2.out,HOK2.out,(show Below _ _ _ by first | exact HBQ.out | exact bdrewN HBQ.out _)⟩
           case measure=>simp [intOf];omega
      ·by_cases hkP:xk=PLTE
       ·have e:xk=[80,76,84,69]:=hkP
        subst e
        clear hkP hkH
        have HKN:=Lib.hid (known_any [80,76,84,69])
        rw [show knownB [80,76,84,69]=true from rfl] at HKN
        have HPA:=Lib.hid (palette_any B i c xd.length xc (some ⟨b,o,none⟩) xA (l.take i) [80,76,84,69] col wq.drew HTQ.out hBq (by omega) hdx)
        obtain ⟨pv,hpv⟩:∃ pv,palB (p.take i) xd col=pv:=⟨_,rfl⟩
        have hpv2:(!(l.take i).any stopQ && decide (0 < xd.length∧xd.length % 3=0∧xd.length≤768∧col ≠ 0∧col ≠ 4))=pv:=by
         rw [← hpv,palB_eq]
         have:=any_kinds (fun k=>k == PLTE || k == IDAT) HKT.out
         rw [show (l.take i).any stopQ=(p.take i).any stopB from this]
        rw [hpv2] at HPA
        have HPV:=Lib.hid hpv
        have HRQ0:Hid (RdQ wq B (some ⟨b,o,none⟩) n l):=(show RdQ _ _ _ _ _ from HRW.out.blw (HBQ.out.mono hB))
        obtain ⟨b2,o2,x2,hbo2,-,HX2,g1,g2⟩:=HRQ0.out.one (k:=0) hn0
        injection hbo2 with hbo2
        injection hbo2 with q3 q4
        subst q3 q4
        have hx2:x2=([73,72,68,82],some ⟨b0,o0,none⟩,13,c0):=by have:=HX2.out.symm.trans HL0.out;injection this
        subst hx2
        simp only [Nat.zero_mul,Nat.add_zero] at g2
        have g9:=bsame HBQ.out hb0 HE9.out
        have hic:(i:Int)≤(c:Int):=by omega
        have hic2:i≤c:=by omega
        have h9l:(9:Int) < 13:=by omega
        clear hpv hpv2 HX2 HRQ0 g1
        cases pv with
        | false =>
         have HBD:Hid (badB p col i ([80,76,84,69],xd)=true):=(show _=_ by exact (badB_P p col i xd).trans (by rw [HPV.out];rfl))
         clear HDT HOK HN1
         go_upto_region 9 with fail
         go_still_tail 14,(by kernel_rfl)
         go_wp2_with (go_at_call 51;(with_reducible refine HPA.out.mono ?_);go_must (rintro e w7 ⟨rfl,hb7⟩;replace hb7:Below wq.heap.size wq w7:=⟨hb7.os,hb7.tape,hb7.output,hb7.size,hb7.block⟩;have HA7:=Lib.hid (HAQ.out.later hb7);have r0:=HA7.out.cell (k:=0) rfl;have r1:=HA7.out.cell (k:=1) rfl;have HB7:=Lib.hid (HBQ.out.trans (hb7.mono (by have:=HBQ.out.size;exact this)));clear hb7))
         go_ret
         unfold SdPost
         refine ⟨false,rfl,⟨fun h=>(by cases h),fun h=>?_⟩,(by first | exact HB7.out | exact bdrewN HB7.out _)⟩
         have h2:=(HSP.out.1 h).1 i _ HPI.out
         rw [HBD.out] at h2
         cases h2
        | true =>
         by_cases hL:n=i+1
         ·have HL:=Lib.hid (show i+1=p.length by have h1:=HM.out;have h2:=HPL.out;omega)
          have hlast:((i:Int) == (m:Int))=true:=by rw [beq_iff_eq];have:=HM.out;omega
          clear hL
          have HBD:Hid (badB p col i ([80,76,84,69],xd)=true):=(show _=_ by exact (badB_P p col i xd).trans (by rw [decide_eq_true HL.out,Bool.or_true]))
          clear HDT HOK HN1
          go_upto_region 9 with fail
          go_still_tail 14,(by kernel_rfl)
          go_wp2_with (go_at_call 51;(with_reducible refine HPA.out.mono ?_);go_must (rintro e w7 ⟨rfl,hb7⟩;replace hb7:Below wq.heap.size wq w7:=⟨hb7.os,hb7.tape,hb7.output,hb7.size,hb7.block⟩;have HA7:=Lib.hid (HAQ.out.later hb7);have r0:=HA7.out.cell (k:=0) rfl;have r1:=HA7.out.cell (k:=1) rfl;have HB7:=Lib.hid (HBQ.out.trans (hb7.mono (by have:=HBQ.out.size;exact this)));clear hb7))
          go_ret
          unfold SdPost
          refine ⟨false,rfl,⟨fun h=>(by cases h),fun h=>?_⟩,(by first | exact HB7.out | exact bdrewN HB7.out _)⟩
          have h2:=(HSP.out.1 h).1 i _ HPI.out
          rw [HBD.out] at h2
          cases h2
         ·have HL:=Lib.hid (show ¬ i+1=p.length by have h1:=HM.out;have h2:=HPL.out;omega)
          have hlast:((i:Int) == (m:Int))=false:=by rw [beq_eq_false_iff_ne];have:=HM.out;omega
          have HBD:Hid (badB p col i ([80,76,84,69],xd)=false):=(show _=_ by exact (badB_P p col i xd).trans (by rw [decide_eq_false HL.out,HPV.out];rfl))
          have HOK2:Hid (∀ j x,j < i+1→p[j]?=some x→badB p col j x=false):=(show ∀ j x,_ from fun j x hj hx=>by
           by_cases e:j=i
           ·subst e
            have h3:=HPI.out.symm.trans hx
            injection h3 with h3
            rw [← h3]
            exact HBD.out
           ·exact HOK.out j x (by omega) hx)
          have HN2:Hid ((p.take (i+1)).any isD=dt):=(show _=_ by rw [HN1.out,HDT.out];exact Bool.or_false _)
          clear HOK HBD HDT HN1
          cases dt <;>
           ·go_upto_region 9 with fail
            go_still_tail 14,(by kernel_rfl)
            go_wp2_with (first
             | (go_at_call 51;(with_reducible refine HPA.out.mono ?_);go_must (rintro e w7 ⟨rfl,hb7⟩;replace hb7:Below wq.heap.size wq w7:=⟨hb7.os,hb7.tape,hb7.output,hb7.size,hb7.block⟩;have HA7:=Lib.hid (HAQ.out.later hb7);have r0:=HA7.out.cell (k:=0) rfl;have r1:=HA7.out.cell (k:=1) rfl;have HB7:=Lib.hid (HBQ.out.trans (hb7.mono (by have:=HBQ.out.size;exact this)));clear hb7))
             | (go_at_call 53;(with_reducible refine (HKN.out _).mono ?_);go_must (rintro e w8 ⟨rfl,rfl⟩)))
            go_roundw
            case rel=>exact ⟨i+1,_,by omega,by go_num,rfl,HN2.out,HOK2.out,(show Below _ _ _ by first | exact HB7.out | exact bdrewN HB7.out _)⟩
            case measure=>simp [intOf];omega
       ·by_cases hkD:xk=IDAT
        ·have e:xk=[73,68,65,84]:=hkD
         subst e
         clear hkD hkP hkH
         have HKN:=Lib.hid (known_any [73,68,65,84])
         rw [show knownB [73,68,65,84]=true from rfl] at HKN
         have HTG:=Lib.hid (fun q=>together_any B i c (some ⟨b,o,none⟩) (l.take i) (wq.drewN q) HTQ.out hBq (by omega))
         obtain ⟨tv,htv⟩:∃ tv,togB (p.take i)=tv:=⟨_,rfl⟩
         have htv2:(!(l.take i).any isQ || lastQ (l.take i))=tv:=by
          rw [← htv,last_kinds HKT.out]
          have:=any_kinds (fun k=>k == IDAT) HKT.out
          rw [show (l.take i).any isQ=(p.take i).any isD from this]
          rfl
         rw [htv2] at HTG
         have HTV:=Lib.hid htv
         have hic:(i:Int)≤(c:Int):=by omega
         have hic2:i≤c:=by omega
         clear htv htv2
         cases tv with
         | false =>
          have HBD:Hid (badB p col i ([73,68,65,84],xd)=true):=(show _=_ by exact (badB_D p col i xd).trans (by rw [HTV.out];rfl))
          clear HDT HOK HN1
          go_upto_region 9 with fail
          go_quiet (fail)
          go_wp2_with (go_at_call 52;(with_reducible refine (HTG.out _).mono ?_);go_must (rintro e w7 ⟨rfl,hb7⟩;replace hb7:Below wq.heap.size wq w7:=⟨hb7.os,hb7.tape,hb7.output,hb7.size,hb7.block⟩;have HA7:=Lib.hid (HAQ.out.later hb7);have r0:=HA7.out.cell (k:=0) rfl;have r1:=HA7.out.cell (k:=1) rfl;have HB7:=Lib.hid (HBQ.out.trans (hb7.mono (by have:=HBQ.out.size;exact this)));clear hb7))
          go_ret
          unfold SdPost
          refine ⟨false,rfl,⟨fun h=>(by cases h),fun h=>?_⟩,(by first | exact HB7.out | exact bdrewN HB7.out _)⟩
          have h2:=(HSP.out.1 h).1 i _ HPI.out
          rw [HBD.out] at h2
          cases h2
         | true =>
          by_cases hL:n=i+1
          ·have HL:=Lib.hid (show i+1=p.length by have h1:=HM.out;have h2:=HPL.out;omega)
           have hlast:((i:Int) == (m:Int))=true:=by rw [beq_iff_eq];have:=HM.out;omega
           clear hL
           have HBD:Hid (badB p col i ([73,68,65,84],xd)=true):=(show _=_ by exact (badB_D p col i xd).trans (by rw [decide_eq_true HL.out,Bool.or_true]))
           clear HDT HOK HN1
           go_upto_region 9 with fail
           go_quiet (fail)
           go_wp2_with (go_at_call 52;(with_reducible refine (HTG.out _).mono ?_);go_must (rintro e w7 ⟨rfl,hb7⟩;replace hb7:Below wq.heap.size wq w7:=⟨hb7.os,hb7.tape,hb7.output,hb7.size,hb7.block⟩;have HA7:=Lib.hid (HAQ.out.later hb7);have r0:=HA7.out.cell (k:=0) rfl;have r1:=HA7.out.cell (k:=1) rfl;have HB7:=Lib.hid (HBQ.out.trans (hb7.mono (by have:=HBQ.out.size;exact this)));clear hb7))
           go_ret
           unfold SdPost
           refine ⟨false,rfl,⟨fun h=>(by cases h),fun h=>?_⟩,(by first | exact HB7.out | exact bdrewN HB7.out _)⟩
           have h2:=(HSP.out.1 h).1 i _ HPI.out
           rw [HBD.out] at h2
           cases h2
          ·have HL:=Lib.hid (show ¬ i+1=p.length by have h1:=HM.out;have h2:=HPL.out;omega)
           have hlast:((i:Int) == (m:Int))=false:=by rw [beq_eq_false_iff_ne];have:=HM.out;omega
           have HBD:Hid (badB p col i ([73,68,65,84],xd)=false):=(show _=_ by exact (badB_D p col i xd).trans (by rw [decide_eq_false HL.out,HTV.out];rfl))
           have HOK2:Hid (∀ j x,j < i+1→p[j]?=some x→badB p col j x=false):=(show ∀ j x,_ from fun j x hj hx=>by
            by_cases e:j=i
            ·subst e
             have h3:=HPI.out.symm.trans hx
             injection h3 with h3
             rw [← h3]
             exact HBD.out
            ·exact HOK.out j x (by omega) hx)
           have HN2:Hid ((p.take (i+1)).any isD=true):=(show _=_ by rw [HN1.out,HDT.out];exact Bool.or_true _)
           clear HOK HBD HDT HN1
           cases dt <;>
            ·go_upto_region 9 with fail
             go_quiet (fail)
             go_wp2_with (first
              | (go_at_call 52;(with_reducible refine (HTG.out _).mono ?_);go_must (rintro e w7 ⟨rfl,hb7⟩;replace hb7:Below wq.heap.size wq w7:=⟨hb7.os,hb7.tape,hb7.output,hb7.size,hb7.block⟩;have HA7:=Lib.hid (HAQ.out.later hb7);have r0:=HA7.out.cell (k:=0) rfl;have r1:=HA7.out.cell (k:=1) rfl;have HB7:=Lib.hid (HBQ.out.trans (hb7.mono (by have:=HBQ.out.size;exact this)));clear hb7))
              | (go_at_call 53;(with_reducible refine (HKN.out _).mono ?_);go_must (rintro e w8 ⟨rfl,rfl⟩)))
             go_roundw
             case rel=>exact ⟨i+1,_,by omega,by go_num,rfl,HN2.out,HOK2.out,(show Below _ _ _ by first | exact HB7.out | exact bdrewN HB7.out _)⟩
             case measure=>simp [intOf];omega
        ·by_cases hkE:xk=IEND
         ·have e:xk=[73,69,78,68]:=hkE
          subst e
          clear hkE hkD hkP hkH
          have HKN:=Lib.hid (known_any [73,69,78,68])
          rw [show knownB [73,69,78,68]=true from rfl] at HKN
          by_cases hL:n=i+1
          ·have HL:=Lib.hid (show i+1=p.length by have h1:=HM.out;have h2:=HPL.out;omega)
           have hlast:((i:Int) == (m:Int))=true:=by rw [beq_iff_eq];have:=HM.out;omega
           clear hL
           by_cases hd:0 < xd.length
           ·have hdi:(0:Int) < (xd.length:Int):=by omega
            have HBD:Hid (badB p col i ([73,69,78,68],xd)=true):=(show _=_ by exact (badB_E p col i xd).trans (by rw [decide_eq_true hd,Bool.or_true]))
            clear HDT HOK HN1
            go_upto_region 9 with fail
            go_quiet (fail)
            go_wp2_with fail
            go_ret
            unfold SdPost
            refine ⟨false,rfl,⟨fun h=>(by cases h),fun h=>?_⟩,(by first | exact HBQ.out | exact bdrewN HBQ.out _)⟩
            have h2:=(HSP.out.1 h).1 i _ HPI.out
            rw [HBD.out] at h2
            cases h2
           ·have hdi:¬ (0:Int) < (xd.length:Int):=by omega
            have HBD:Hid (badB p col i ([73,69,78,68],xd)=false):=(show _=_ by exact (badB_E p col i xd).trans (by rw [decide_eq_true HL.out,decide_eq_false hd];rfl))
            have HOK2:Hid (∀ j x,j < i+1→p[j]?=some x→badB p col j x=false):=(show ∀ j x,_ from fun j x hj hx=>by
             by_cases e:j=i
             ·subst e
              have h3:=HPI.out.symm.trans hx
              injection h3 with h3
              rw [← h3]
              exact HBD.out
             ·exact HOK.out j x (by omega) hx)
            have HN2:Hid ((p.take (i+1)).any isD=dt):=(show _=_ by rw [HN1.out,HDT.out];exact Bool.or_false _)
            clear HOK HBD HDT HN1
            cases dt <;>
             ·go_upto_region 9 with fail
              go_quiet (fail)
              go_wp2_with (go_at_call 53;(with_reducible refine (HKN.out _).mono ?_);go_must (rintro e w8 ⟨rfl,rfl⟩))
              go_roundw
              case rel=>exact ⟨i+1,_,by omega,by go_num,rfl,HN2.out,HOK2.out,(show Below _ _ _ by first | exact HBQ.out | exact bdrewN HBQ.out _)⟩
              case measure=>simp [intOf];omega
          ·have HL:=Lib.hid (show ¬ i+1=p.length by have h1:=HM.out;have h2:=HPL.out;omega)
           have hlast:((i:Int) == (m:Int))=false:=by rw [beq_eq_false_iff_ne];have:=HM.out;omega
           have HBD:Hid (badB p col i ([73,69,78,68],xd)=true):=(show _=_ by exact (badB_E p col i xd).trans (by rw [decide_eq_false HL.out];rfl))
           clear HDT HOK HN1
           go_upto_region 9 with fail
           go_quiet (fail)
           go_wp2_with fail
           go_ret
           unfold SdPost
           refine ⟨false,rfl,⟨fun h=>(by cases h),fun h=>?_⟩,(by first | exact HBQ.out | exact bdrewN HBQ.out _)⟩
           have h2:=(HSP.out.1 h).1 i _ HPI.out
           rw [HBD.out] at h2
           cases h2
         ·have k1:(xk == [73,72,68,82])=false:=by rw [beq_eq_false_iff_ne];exact hkH
          have k2:(xk == [80,76,84,69])=false:=by rw [beq_eq_false_iff_ne];exact hkP
          have k3:(xk == [73,68,65,84])=false:=by rw [beq_eq_false_iff_ne];exact hkD
          have k4:(xk == [73,69,78,68])=false:=by rw [beq_eq_false_iff_ne];exact hkE
          clear hkE hkD hkP hkH
          have HKN:=Lib.hid (known_any xk)
          rw [show knownB xk=false by unfold knownB IHDR PLTE IDAT IEND;rw [k1,k2,k3,k4];rfl] at HKN
          have HBO:=badB_O p col i xk xd k1 k2 k3 k4
          have hsz:0 < (⟨xk.toArray⟩:ByteArray).size:=by show 0 < xk.toArray.size;rw [List.size_toArray];omega
          have hg0:xk.getD 0 0=(⟨xk.toArray⟩:ByteArray)[0]:=by rw [List.getD_eq_getElem?_getD,List.getElem?_eq_getElem (by omega)];show xk[0]=xk.toArray[0];rw [List.getElem_toArray]
          rw [hg0] at HBO
          replace HBO:=Lib.hid HBO
          clear hg0
          have HN3:Hid ((false || isD (xk,xd))=false):=(show _=_ from k3)
          have HN4:Hid (isD (xk,xd)=false):=(show _=_ from k3)
          by_cases hL:n=i+1
          ·have HL:=Lib.hid (show i+1=p.length by have h1:=HM.out;have h2:=HPL.out;omega)
           have hlast:((i:Int) == (m:Int))=true:=by rw [beq_iff_eq];have:=HM.out;omega
           clear hL
           have HBD:Hid (badB p col i (xk,xd)=true):=(show _=_ by exact HBO.out.trans (by rw [decide_eq_true HL.out];rfl))
           clear HDT HOK HN1
           go_upto_region 9 with fail
           go_quiet (fail)
           go_wp2_with fail
           go_ret
           unfold SdPost
           refine ⟨false,rfl,⟨fun h=>(by cases h),fun h=>?_⟩,(by first | exact HBQ.out | exact bdrewN HBQ.out _)⟩
           have h2:=(HSP.out.1 h).1 i _ HPI.out
           rw [HBD.out] at h2
           cases h2
          ·have HL:=Lib.hid (show ¬ i+1=p.length by have h1:=HM.out;have h2:=HPL.out;omega)
           have hlast:((i:Int) == (m:Int))=false:=by rw [beq_eq_false_iff_ne];have:=HM.out;omega
           by_cases hch:((⟨xk.toArray⟩:ByteArray)[0]).toNat≤90
           ·have hchi:(((⟨xk.toArray⟩:ByteArray)[0]).toNat:Int)≤90:=by omega
            have HBD:Hid (badB p col i (xk,xd)=true):=(show _=_ by exact HBO.out.trans (by rw [decide_eq_true hch,Bool.or_true]))
            clear HDT HOK HN1
            go_upto_region 9 with fail
            go_quiet (fail)
            go_wp2_with (go_at_call 53;(with_reducible refine (HKN.out _).mono ?_);go_must (rintro e w8 ⟨rfl,rfl⟩))
            go_ret
            unfold SdPost
            refine ⟨false,rfl,⟨fun h=>(by cases h),fun h=>?_⟩,(by first | exact HBQ.out | exact bdrewN HBQ.out _)⟩
            have h2:=(HSP.out.1 h).1 i _ HPI.out
            rw [HBD.out] at h2
            cases h2
           ·have hchi:¬ (((⟨xk.toArray⟩:ByteArray)[0]).toNat:Int)≤90:=by omega
            have HBD:Hid (badB p col i (xk,xd)=false):=(show _=_ by exact HBO.out.trans (by rw [decide_eq_false HL.out,decide_eq_false hch];rfl))
            have HOK2:Hid (∀ j x,j < i+1→p[j]?=some x→badB p col j x=false):=(show ∀ j x,_ from fun j x hj hx=>by
             by_cases e:j=i
             ·subst e
              have h3:=HPI.out.symm.trans hx
              injection h3 with h3
              rw [← h3]
              exact HBD.out
             ·exact HOK.out j x (by omega) hx)
            have HN2:Hid ((p.take (i+1)).any isD=dt):=(show _=_ by rw [HN1.out,HDT.out];rw [HN4.out];exact Bool.or_false _)
            clear HOK HBD HDT HN1
            cases dt <;>
             ·go_upto_region 9 with fail
              go_quiet (fail)
              go_wp2_with (go_at_call 53;(with_reducible refine (HKN.out _).mono ?_);go_must (rintro e w8 ⟨rfl,rfl⟩))
              go_roundw
              case rel=>exact ⟨i+1,_,by omega,by go_num,rfl,HN2.out,HOK2.out,(show Below _ _ _ by first | exact HBQ.out | exact bdrewN HBQ.out _)⟩
              case measure=>simp [intOf];omega
     ·obtain rfl:i=n:=by omega
      have hlti:¬ (i:Int) < (i:Int):=by omega
      have hdd:=HDT.out
      rw [List.take_of_length_le (Nat.le_of_eq HPL.out)] at hdd
      have HDD:=Lib.hid hdd
      clear hdd
      go_wp2_with fail
      go_ret
      unfold SdPost
      refine ⟨dt,rfl,?_,HB.out⟩
      rw [HSP.out,HDD.out]
      exact ⟨fun e=>⟨fun j x hx=>HOK.out j x (by have h1:=(List.getElem?_eq_some_iff.1 hx).1;have h2:=HPL.out;omega) hx,e⟩,fun e=>e.2⟩
   ·have hd0i:((d0.length:Int) != 13)=true:=by rw [bne_iff_ne];omega
    have HNS:Hid (¬ SoundP p):=(show ¬ _ from fun hs=>hd0 (by have:=hs.2.2.1;rw [hhd] at this;exact this))
    clear h hp hl hpl hg hdm hp0 hl0 HX0 hr0 hgd0 hhd hk0
    go_enter Tryz.func26,Tryz.ntmps26
    go_wp2_with fail
    go_ret
    unfold SdPost
    exact ⟨_,rfl,⟨fun h=>(by cases h),fun h=>absurd h HNS.out⟩,Below.refl _ _⟩
  ·have hk1:(k0 != [73,72,68,82])=true:=by rw [bne_iff_ne];exact hk0
   have hk2:(k0 == [73,72,68,82])=false:=by rw [beq_eq_false_iff_ne];exact hk0
   have HNS:Hid (¬ SoundP p):=(show ¬ _ from fun hs=>hk0 (by have:=hs.2.1;rw [hgd0] at this;exact this))
   clear h hp hl hpl hg hdm hp0 hl0 HX0 hr0 hgd0 hhd hk0
   go_enter Tryz.func26,Tryz.ntmps26
   go_wp2_with fail
   go_ret
   unfold SdPost
   exact ⟨_,rfl,⟨fun h=>(by cases h),fun h=>absurd h HNS.out⟩,Below.refl _ _⟩
end Go.Proofs.YtebbdifhiihfkaaGreatDoor

