/- XWlj XWlk XWll -/
import Derived.Test.YtdoanopeejeeiaaMk40
namespace Go.Proofs.Ytdoanopeejeeiaa
set_option linter.all false
open Go.RowKit Go.Maps
end Go.Proofs.Ytdoanopeejeeiaa

/- wal's statements: what the chapter's examples fix. -/
namespace Go.Proofs.Ytdoanopeejeeiaa
set_option linter.all false
open Go.RowKit Go.Maps
theorem At.newD (N:Nat):At (newD N) (fun _=>zeros):=⟨rfl,fun _=>rfl,fun _=>rfl⟩
/-- A disk that was formatted. -/
theorem fmt_log {s:Dk} {f:SF} {N ring:Nat} (h1:1≤ring) (h2:ring+4≤N):LogA (layL f [(0,headB ring 1 0),(1,zeros)]) N ring 1 0 :=
 ⟨rfl,.inl rfl,h1,h2,h1,Nat.le_refl _⟩
/-- Four puts that lie in a row of their own. -/
theorem puts4 {w:World} {T:Nat→Prop} (hT:∀ g,w.heap.size≤g→¬ T g) (k1 k2 k3 k4:Int) {A1 A2 A3 A4:Option Addr} {c1 c2 c3 c4:Nat} {b1 b2 b3 b4:Bs} (h1:RowAt w T A1 256 b1) (h2:RowAt w T A2 256 b2) (h3:RowAt w T A3 256 b3) (h4:RowAt w T A4 256 b4) :
  PutsAt (w.alloc (.cells #[.int .i64 k1,.slice A1 256 c1,.int .i64 k2,.slice A2 256 c2,.int .i64 k3,.slice A3 256 c3,.int .i64 k4,.slice A4 256 c4] 56)) T (some ⟨w.heap.size,0,none⟩) 4 [(k1,b1),(k2,b2),(k3,b3),(k4,b4)]:=by
 have hb:Below w.heap.size w (w.alloc (.cells #[.int .i64 k1,.slice A1 256 c1,.int .i64 k2,.slice A2 256 c2,.int .i64 k3,.slice A3 256 c3,.int .i64 k4,.slice A4 256 c4] 56)):=(Below.refl _ _).alloc (Nat.le_refl _) _
 refine ⟨[(k1,A1,256,c1),(k2,A2,256,c2),(k3,A3,256,c3),(k4,A4,256,c4)],fun _=>⟨_,_,rfl,hT _ (Nat.le_refl _),by rw [World.size_alloc];exact Nat.lt_succ_self _⟩,?_,rfl,fun i q b e=>?_⟩
 ·refine ⟨rfl,fun _=>⟨_,_,rfl,by rw [World.size_alloc];exact Nat.lt_succ_self _,fun j u hu=>?_⟩⟩
  rw [Nat.zero_add,cell_of_row _ _ _ _ _ _ (heap_alloc_new w _)]
  simpa [cW,eW] using hu
 ·match i with
  | 0 =>
   injection e with e
   injection e with e1 e2
   subst e1 e2
   exact ⟨_,c1,rfl,h1.later hb⟩
  | 1 =>
   injection e with e
   injection e with e1 e2
   subst e1 e2
   exact ⟨_,c2,rfl,h2.later hb⟩
  | 2 =>
   injection e with e
   injection e with e1 e2
   subst e1 e2
   exact ⟨_,c3,rfl,h3.later hb⟩
  | 3 =>
   injection e with e
   injection e with e1 e2
   subst e1 e2
   exact ⟨_,c4,rfl,h4.later hb⟩
  | i+4=>simp at e
/-- The first of some puts. -/
theorem PutsAt.take {w:World} {T:Nat→Prop} {A:Option Addr} {n:Nat} {ps:List (Int × Bs)} (h:PutsAt w T A n ps) (m:Nat) (hm:m≤n):PutsAt w T A m (ps.take m):=by
 have hn:=h.len
 obtain ⟨l,h1,h2,h3,h4⟩:=h
 refine ⟨l.take m,fun h0=>h1 (by omega),?_,by rw [List.length_take,List.length_take,h3],fun i k b e=>?_⟩
 ·have:=RdW.cut h2 (k:=0) (m:=m) (A':=A) (by omega) (fun h0=>by
   obtain ⟨g,o,e,-⟩:=h1 (by omega)
   rw [e]
   simp [Addr.add])
  simpa using this
 ·rw [List.getElem?_take] at e
  by_cases hi:i < m
  ·rw [if_pos hi] at e
   obtain ⟨B,c,e1,e2⟩:=h4 i k b e
   exact ⟨B,c,by rw [List.getElem?_take,if_pos hi];exact e1,e2⟩
  ·rw [if_neg hi] at e;cases e
def P4:List (Nat × Bs):=[(6,fillB 1),(7,fillB 2),(8,fillB 3),(9,fillB 4)]
theorem fillB_len (c:UInt8):(fillB c).length=256:=List.length_replicate
theorem P4_may:mayV (2+4) 16 4 (ips (P4.take 3))=0:=by decide
theorem P4_no:mayV (2+4) 16 4 (ips P4)=9:=by decide
theorem P4_good:GoodP 16 4 (P4.take 3) :=
 ⟨by decide,by decide,by decide,fun x hx=>by
  simp only [P4,List.take_succ_cons,List.take_zero,List.mem_cons,List.not_mem_nil,or_false] at hx
  rcases hx with rfl | rfl | rfl <;> exact ⟨by decide,by decide,fillB_len _⟩,by decide⟩
end Go.Proofs.Ytdoanopeejeeiaa

/- wal's statements: first. -/
namespace Go.Proofs.Ytdoanopeejeeiaa
set_option linter.all false
open Go.RowKit Go.Maps
theorem PutsAt.sub {w:World} {T S:Nat→Prop} {A:Option Addr} {n:Nat} {ps:List (Int × Bs)} (h:PutsAt w S A n ps) (hT:∀ g,T g→S g):PutsAt w T A n ps:=by
 obtain ⟨l,h1,h2,h3,h4⟩:=h
 exact ⟨l,fun hn=>by obtain ⟨g,o,e,hg,hlt⟩:=h1 hn;exact ⟨g,o,e,fun h=>hg (hT _ h),hlt⟩,h2,h3,fun i k b e=>by obtain ⟨B,c,e1,e2⟩:=h4 i k b e;exact ⟨B,c,e1,e2.sub hT⟩⟩
set_option maxRecDepth 100000 in
set_option maxHeartbeats 12800000 in
theorem first15_any (w:World):Calls Try.prog 6 #[] w fun e w'=>e=.returned (.bool true)∧Below w.heap.size w w':=by
 have HN:Hid (Calls Try.prog 7 #[.int .i64 16] w fun e w'=>∃ d h,e=.returned (.tuple #[.pointer (some ⟨d,0,none⟩),.int .i64 0])∧DkOk w' w.heap.size d h (newD 16)∧(∀ g,¬ h.U g)∧Below w.heap.size w w'):=(show Calls _ _ _ _ _ from newD_any 16 w (by decide) (by decide))
 have HF1:Hid (∀ w,Calls Try.prog 25 #[.int .u8 1] w fun e w'=>∃ g,e=.returned (.slice (some ⟨g,0,none⟩) 256 256)∧ownB w' w.heap.size (.slice (some ⟨g,0,none⟩) 256 256) (fillB 1)∧Below w.heap.size w w'):=(show ∀ w,_ from fun w=>filled_any 1 w)
 have HF2:Hid (∀ w,Calls Try.prog 25 #[.int .u8 2] w fun e w'=>∃ g,e=.returned (.slice (some ⟨g,0,none⟩) 256 256)∧ownB w' w.heap.size (.slice (some ⟨g,0,none⟩) 256 256) (fillB 2)∧Below w.heap.size w w'):=(show ∀ w,_ from fun w=>filled_any 2 w)
 have HF3:Hid (∀ w,Calls Try.prog 25 #[.int .u8 3] w fun e w'=>∃ g,e=.returned (.slice (some ⟨g,0,none⟩) 256 256)∧ownB w' w.heap.size (.slice (some ⟨g,0,none⟩) 256 256) (fillB 3)∧Below w.heap.size w w'):=(show ∀ w,_ from fun w=>filled_any 3 w)
 have HF4:Hid (∀ w,Calls Try.prog 25 #[.int .u8 4] w fun e w'=>∃ g,e=.returned (.slice (some ⟨g,0,none⟩) 256 256)∧ownB w' w.heap.size (.slice (some ⟨g,0,none⟩) 256 256) (fillB 4)∧Below w.heap.size w w'):=(show ∀ w,_ from fun w=>filled_any 4 w)
 have HFM:Hid (∀ lo d h w,DkOk w lo d h (newD 16)→lo≤w.heap.size→(∀ g,¬ h.U g)→Calls Try.prog 8 #[.pointer (some ⟨d,0,none⟩),.int .i64 4] w fun e w'=>∃ s' h',e=.returned (.int .i64 0)∧s'.n=16∧s'.mask=[]∧s'.writes≤2∧s'.falls=0∧s'.down=false∧At s' (layL (fun _=>zeros) [(0,headB 4 1 0),(1,zeros)])∧DkOk w' lo d h' s'∧Fr (h.T d) w w'∧TT w (h.T d) (h'.T d)∧h'.U=h.U):=(show ∀ lo d h w,_ from fun lo d h w H hlo hU=>by
  refine (formatW_ok lo d h (newD 16) (fun _=>zeros) 4 w H hlo (At.newD 16) rfl (by decide) (by decide) (Nat.zero_le _) (Nat.zero_le _) (Nat.zero_le _) (fun g _=>hU g)).mono ?_
  rintro e w' ⟨E,s',h',rfl,r,H',F,T,U⟩
  obtain ⟨hf0,rfl⟩:=r.falls rfl
  obtain ⟨-,hd,ha⟩:=r.res.resolve_right (fun h=>absurd h.1 (by decide))
  exact ⟨s',h',rfl,r.n,r.mask,r.writes,hf0,hd,ha,H',F,T,U⟩)
 go_enter Try.func6,Try.ntmps6
 go_upto_region 7 with (first
  | (go_at_call 7;(with_reducible refine HN.out.mono ?_);go_must (rintro e w1 ⟨d,h1,rfl,H1,U1,hb1⟩;have HH1:=Lib.hid H1;have HB1:=Lib.hid hb1;have HFM1:=Lib.hid (HFM.out _ d h1 w1 H1 hb1.size U1);have HU1:=Lib.hid U1;clear H1 hb1 U1))
  | (go_at_call 8;(with_reducible refine HFM1.out.mono ?_);go_must (rintro e w2 ⟨s2,h2,rfl,n2,m2,wr2,f2,d2,a2,H2,F2,T2,U2⟩;have HB2:Hid (Below w.heap.size w w2):=(show Below _ _ _ from HB1.out.trans (F2.bel HH1.out));have HO:=Lib.hid (openA_any _ d h2 s2 _ 4 1 0 w2 H2 a2 d2 (by rw [n2];exact fmt_log (s:=s2) (f:=fun _=>zeros) (by decide) (by decide)) (by decide));have HN2:=Lib.hid n2;have HM2:=Lib.hid m2;have HW2:=Lib.hid wr2;have HF0:=Lib.hid f2;have HD2:=Lib.hid d2;have HA2:=Lib.hid a2;clear n2 m2 wr2 f2 d2 a2 H2 F2 T2 U2))
  | (go_at_call 9;(with_reducible refine HO.out.mono ?_);go_must (rintro e w3 ⟨l,h3,rfl,L3,-,hl3,hb3⟩;have hll:w.heap.size≤l:=(Nat.le_trans HB2.out.size hl3);have HL3:=Lib.hid L3;have HB3:=Lib.hid (HB2.out.trans (hb3.mono HB2.out.size));clear L3 hb3)))
 have hz3:=HB3.out.size
 obtain ⟨S,hS⟩:∃ S:Nat→Prop,S=fun g=>h3.T d g∨g=l:=⟨_,rfl⟩
 have HS:=Lib.hid hS
 have HFR:Hid (∀ g,w3.heap.size≤g→¬ S g):=(show ∀ g,_ from fun g hg e=>by
  rw [hS] at e
  rcases e with e | e
  ·exact HL3.out.dk.fresh g hg e
  ·have:=HL3.out.lg.lt;omega)
 clear hS
 go_upto_region 8 with (first
  | (go_at_call 25;(with_reducible refine (HF1.out _).mono ?_);go_must (rintro e w4 ⟨g1,rfl,ho,hb⟩;have R1:=Lib.hid (RowAt.own2 (T:=S) ho (fun z hz=>HFR.out z hz));have B4:=Lib.hid hb;clear ho hb))
  | (go_at_call 25;(with_reducible refine (HF2.out _).mono ?_);go_must (rintro e w5 ⟨g2,rfl,ho,hb⟩;have hz4:=B4.out.size;have R2:=Lib.hid (RowAt.own2 (T:=S) ho (fun z hz=>HFR.out z (by omega)));have R12:=Lib.hid (R1.out.later hb);have B5:=Lib.hid (B4.out.trans (hb.mono hz4));clear ho hb))
  | (go_at_call 25;(with_reducible refine (HF3.out _).mono ?_);go_must (rintro e w6 ⟨g3,rfl,ho,hb⟩;have hz5:=B5.out.size;have R3:=Lib.hid (RowAt.own2 (T:=S) ho (fun z hz=>HFR.out z (by omega)));have R13:=Lib.hid (R12.out.later hb);have R23:=Lib.hid (R2.out.later hb);have B6:=Lib.hid (B5.out.trans (hb.mono hz5));clear ho hb))
  | (go_at_call 25;(with_reducible refine (HF4.out _).mono ?_);go_must (rintro e w7 ⟨g4,rfl,ho,hb⟩;have hz6:=B6.out.size;have R4:=Lib.hid (RowAt.own2 (T:=S) ho (fun z hz=>HFR.out z (by omega)));have R14:=Lib.hid (R13.out.later hb);have R24:=Lib.hid (R23.out.later hb);have R34:=Lib.hid (R3.out.later hb);have B7:=Lib.hid (B6.out.trans (hb.mono hz6));clear ho hb)))
 have hz7:=B7.out.size
 have HPT:=Lib.hid (puts4 (w:=w7) (T:=S) (fun g hg=>HFR.out g (by omega)) 6 7 8 9 (c1:=256) (c2:=256) (c3:=256) (c4:=256) R14.out R24.out R34.out R4.out)
 have HBW:Hid (Below w3.heap.size w3 (w7.alloc (.cells #[.int .i64 6,.slice (some ⟨g1,0,none⟩) 256 256,.int .i64 7,.slice (some ⟨g2,0,none⟩) 256 256,.int .i64 8,.slice (some ⟨g3,0,none⟩) 256 256,.int .i64 9,.slice (some ⟨g4,0,none⟩) 256 256] 56))):=(show Below _ _ _ from B7.out.alloc hz7 _)
 have hzp:w7.heap.size=w7.heap.size:=rfl
 generalize hW:w7.alloc (.cells #[.int .i64 6,.slice (some ⟨g1,0,none⟩) 256 256,.int .i64 7,.slice (some ⟨g2,0,none⟩) 256 256,.int .i64 8,.slice (some ⟨g3,0,none⟩) 256 256,.int .i64 9,.slice (some ⟨g4,0,none⟩) 256 256] 56)=W at *
 generalize hpb:w7.heap.size=pb at *
 have HLW:=Lib.hid (HL3.out.later HBW.out)
 have HP4:Hid (PutsAt W S (some ⟨pb,0,none⟩) 4 (ips P4)):=(show PutsAt _ _ _ _ _ from HPT.out)
 have hzw:=HBW.out.size
 have HC1:=commit_go w.heap.size d l h3 s2 _ 4 1 0 (some ⟨pb,0,none⟩) 3 4 (P4.take 3) W HLW.out (by omega) ((HP4.out.sub (fun g hg=>by rw [HS.out];exact .inl hg)).take 3 (by decide)) (by decide) HA2.out HD2.out (by rw [HN2.out];exact fmt_log (s:=s2) (f:=fun _=>zeros) (by decide) (by decide)) (by rw [HN2.out];exact P4_good) (by rw [HN2.out];exact P4_may) (by decide) (by rw [HF0.out];exact Nat.zero_le _) (by have:=HW2.out;omega) (by rw [HM2.out];exact Nat.zero_le _)
 unfold ComPost at HC1
 have HC1:=Lib.hid HC1
 clear hW hpb hzp HPT HF1 HF2 HF3 HF4 HFM HN HO HFM1
 go_wp2_with (first
  | (go_at_call 14;(with_reducible refine HC1.out.mono ?_);go_must (rintro e w8 ⟨E,s8,h8,rfl,r8,H8,L8,F8,T8,U8⟩;obtain rfl:=r8.2.1 HF0.out;have L8:=L8 rfl;have HL8:Hid (LgOk w8 w.heap.size d l h8 s8 4 2 (posN 4 0 3)):=(show LgOk _ _ _ _ _ _ _ _ _ from L8);have HP8:=Lib.hid (HP4.out.fr (T':=S) (by rw [HS.out];exact F8) (TT.refl _ _));have n8:s8.n=16:=r8.1.n.trans HN2.out;have HC2:=commit_no w.heap.size d l h8 s8 4 2 (posN 4 0 3) S (some ⟨pb,0,none⟩) 4 4 (ips P4) w8 L8 HP8.out (by decide) (by decide) (by decide) (Or.inl (by rw [n8,P4_no];decide));rw [n8,P4_no] at HC2;have HC2:=Lib.hid HC2;have HB8:Hid (Below w.heap.size w w8):=(show Below _ _ _ from (HB3.out.trans (HBW.out.mono hz3)).trans (F8.below (fun g hg=>hg.elim (fun e=>(HLW.out.dk.Tlt g e).1) (fun e=>by omega)) (by omega)));clear r8 H8 L8 F8 T8 U8))
  | (go_at_call 14;(with_reducible refine HC2.out.mono ?_);go_must (rintro e w9 ⟨rfl,hb9⟩;have HL9:=Lib.hid (HL8.out.later hb9);have HB9:=Lib.hid (HB8.out.trans (hb9.mono HB8.out.size));have HHM:=Lib.hid (homeW_any w9 d l 4 2 _ HL9.out.lg (by decide));have HSQ:=Lib.hid (seqW_any w9 d l 4 2 _ HL9.out.lg);clear hb9))
  | (go_at_call 10;(with_reducible refine HHM.out.mono ?_);go_must (rintro e w10 ⟨rfl,rfl⟩))
  | (go_at_call 12;(with_reducible refine HSQ.out.mono ?_);go_must (rintro e w10 ⟨rfl,rfl⟩)))
 go_ret
 exact ⟨rfl,HB9.out⟩
end Go.Proofs.Ytdoanopeejeeiaa

