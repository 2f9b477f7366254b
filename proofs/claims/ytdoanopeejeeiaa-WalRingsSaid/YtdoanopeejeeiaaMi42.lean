/- XWlj XWlk -/
import Derived.Test.YtdoanopeejeeiaaMi41
namespace Go.Proofs.Ytdoanopeejeeiaa
set_option linter.all false
open Go.RowKit Go.Maps
set_option maxRecDepth 100000 in
set_option maxHeartbeats 12800000 in
theorem mayS_any (A1 A2:Option Addr) (n1 n2 c1 c2 home N:Nat) (ats:List Int) (cs:Bs) (w:World) (h1:RdI w w.heap.size A1 n1 ats) (hn1:n1≤1000) :
  Calls Try.prog 17 #[.agg #[.slice A1 n1 c1,.slice A2 n2 c2],.int .i64 (home:Int),.int .i64 (N:Int)] w fun e w'=>e=.returned (.bool (okAll home N (putsV ats cs)))∧Below w.heap.size w w':=by
 obtain ⟨w1,hw1⟩:∃ w1,w.alloc (.cells #[.slice A1 n1 c1,.slice A2 n2 c2] 38)=w1:=⟨_,rfl⟩
 have HB1:Hid (Below w.heap.size w w1):=(show Below _ _ _ by rw [← hw1];exact (Below.refl w.heap.size w).alloc (Nat.le_refl _) _)
 have HA:=Arr.new w [.slice A1 n1 c1,.slice A2 n2 c2] 38
 rw [show (List.toArray [Value.slice A1 n1 c1,Value.slice A2 n2 c2])=#[.slice A1 n1 c1,.slice A2 n2 c2] from rfl,hw1] at HA
 have c0:=HA.cell (k:=0) rfl
 have HR1:=Lib.hid (RdI.later h1 HB1.out)
 have hl1:=h1.len
 obtain ⟨ps,hps⟩:∃ ps,putsV ats cs=ps:=⟨_,rfl⟩
 have hpl:ps.length=n1:=by rw [← hps,putsV_len,hl1]
 have HGT:Hid (∀ i k,ats[i]?=some k→∃ b,ps[i]?=some (k,b)):=(show ∀ i k,_ from fun i k h=>by rw [← hps];exact ⟨_,putsV_get h⟩)
 rw [hps]
 clear h1 HA hps
 go_enter Try.func17,Try.ntmps17
 (try simp only [hw1])
 go_wp2_with fail
 go_loopw [7] (fun vi wr=>∃ k:Nat,k≤n1∧vi=.int .i64 (k:Int)∧Hid (∀ i x,i < k→ps[i]?=some x→okAt home N ps i x.1=true)∧Hid (Below w1.heap.size w1 wr)) (fun vi _=>n1 - (intOf vi).toNat)
 case atStart=>exact ⟨0,Nat.zero_le _,rfl,(fun i x hi=>absurd hi (Nat.not_lt_zero _)),Below.refl _ _⟩
 case round =>
  obtain ⟨k,hk,rfl,HOK,HB⟩:=hrel
  have j0:=cell_later c0 HB.out
  have HBF:=Lib.hid (HB1.out.trans (HB.out.mono HB1.out.size))
  by_cases hlt:k < n1
  ·obtain ⟨ba,oa,key,rfl,hba,HX,k1⟩:=RdI.one (RdI.later HR1.out HB.out) hlt
   obtain ⟨bs,hps⟩:=HGT.out k key HX.out
   have HPS:=Lib.hid hps
   have HNO:=Lib.hid (fun h:okAt home N ps k key=false=>okAll_no hps h)
   clear hps
   by_cases hlo:key < (home:Int)
   ·have HV:Hid (okAll home N ps=false):=(show _=_ from HNO.out (by unfold okAt;rw [decide_eq_false (fun e=>by omega)];rfl))
    go_wp2_with fail
    go_ret
    exact ⟨by rw [HV.out];rfl,HBF.out⟩
   ·by_cases hhi:(N:Int)≤key
    ·have HV:Hid (okAll home N ps=false):=(show _=_ from HNO.out (by unfold okAt;rw [decide_eq_false (fun e=>by omega)];rfl))
     go_wp2_with fail
     go_ret
     exact ⟨by rw [HV.out];rfl,HBF.out⟩
    ·have dh:decide ((N:Int)≤key)=false:=decide_eq_false hhi
     have hin:(home:Int)≤key∧key < (N:Int):=by omega
     obtain ⟨wo,rfl⟩:∃ wo:World,wo=wr:=⟨_,rfl⟩
     go_wp2_with fail
     go_loopw [8] (fun vj wr=>∃ j:Nat,j≤k∧vj=.int .i64 (j:Int)∧Hid (anyK ps j key=false)∧Hid (Below wo.heap.size wo wr)) (fun vj _=>k - (intOf vj).toNat)
     case atStart=>exact ⟨0,Nat.zero_le _,rfl,(show _=_ from rfl),Below.refl _ _⟩
     case round =>
      obtain ⟨j,hj,rfl,HA,HB2⟩:=hrel
      have i0:=cell_later j0 HB2.out
      have hkk:=cell_later k1 HB2.out
      by_cases hjk:j < k
      ·obtain ⟨ba2,oa2,q,hA,-,HY,hqq⟩:=RdI.one (RdI.later (RdI.later HR1.out HB.out) HB2.out) (show j < n1 by omega)
       injection hA with hA
       injection hA with e1 e2
       subst e1 e2
       obtain ⟨bs2,hps2⟩:=HGT.out j q HY.out
       have HSU:=Lib.hid (anyK_succ key hps2)
       have HLE:=Lib.hid (fun h:(q == key)=true=>anyK_le (m:=k) hps2 hjk h)
       clear hps2
       cases hq:(q == key) with
       | true =>
        have HV:Hid (okAll home N ps=false):=(show _=_ from HNO.out (by unfold okAt;rw [HLE.out hq];simp))
        have hqe:q=key:=eq_of_beq hq
        subst hqe
        clear hq
        go_upto_region 9 with fail
        go_region
        all_goals
         go_wp2_with fail
         go_ret
         exact ⟨by rw [HV.out];rfl,(HBF.out.trans (HB2.out.mono HBF.out.size)).drew⟩
       | false =>
        have HH:Hid (anyK ps (j+1) key=false):=(show _=_ by rw [HSU.out,HA.out];exact hq)
        have hqe:¬ q=key:=by simpa using hq
        go_upto_region 9 with fail
        go_region
        all_goals
         go_wp2_with fail
         go_roundw
         case rel=>exact ⟨j+1,by omega,by go_num,HH,HB2.out.drew⟩
         case measure=>simp [intOf];omega
      ·obtain rfl:j=k:=by omega
       go_wp2_with fail
       go_roundw
       case rel =>
        refine ⟨j+1,by omega,by go_num,(show ∀ i x,_ from fun i x hi hx=>?_),HB.out.trans (HB2.out.mono HB.out.size)⟩
        by_cases e:i=j
        ·subst e
         have:=HPS.out
         rw [hx] at this
         injection this with this
         subst this
         unfold okAt
         rw [HA.out,decide_eq_true hin]
         rfl
        ·exact HOK.out i x (by omega) hx
       case measure=>simp [intOf];omega
  ·obtain rfl:k=n1:=by omega
   have HV:Hid (okAll home N ps=true):=(show _=_ from okAll_yes (fun i x hx=>HOK.out i x (by have:=(List.getElem?_eq_some_iff.1 hx).1;omega) hx))
   go_wp2_with fail
   go_ret
   exact ⟨by rw [HV.out];rfl,HBF.out⟩
end Go.Proofs.Ytdoanopeejeeiaa

/- wal's statements: what the chapter's examples fix. -/
namespace Go.Proofs.Ytdoanopeejeeiaa
set_option linter.all false
open Go.RowKit Go.Maps
theorem At.newD (N:Nat):At (newD N) (fun _=>zeros):=⟨rfl,fun _=>rfl,fun _=>rfl⟩
/-- A disk that was formatted. -/
theorem fmt_log {s:Dk} {f:SF} {N ring:Nat} (h1:1≤ring) (h2:ring+4≤N):LogA (layL f [(0,headB ring 1 0),(1,zeros)]) N ring 1 0 :=
 ⟨rfl,.inl rfl,h1,h2,h1,Nat.le_refl _⟩
/-- Four puts that lie in a row of their own. -/
theorem puts4 {w:World} {T:Nat→Prop} (hT:∀ g,w.heap.size≤g→¬ T g) (k1 k2 k3 k4:Int) {A1 A2 A3 A4:Option Addr} {c1 c2 c3 c4:Nat} {b1 b2 b3 b4:Bs} (h1:RowAt w T A1 256 b1) (h2:RowAt w T A2 256 b2) (h3:RowAt w T A3 256 b3) (h4:RowAt w T A4 256 b4) :
  PutsAt (w.alloc (.cells #[.int .i64 k1,.slice A1 256 c1,.int .i64 k2,.slice A2 256 c2,.int .i64 k3,.slice A3 256 c3,.int .i64 k4,.slice A4 256 c4] 56)) T (some ⟨w.heap.size,0,none⟩) 4 [(k1,b1),(k2,b2),(k3,b3),(k4,b4)]:=by
 have hb:Below w.heap.size w (w.alloc (.cells #[.int .i64 k1,.slice A1 256 c1,.int .i64 k2,.slice A2 256 c2,.int .i64 k3,.slice A3 256 c3,.int .i64 k4,.slice A4 256 c4] 56)):=(Below.refl _ _).alloc (Nat.le_refl _) _
 refine ⟨[(k1,A1,256,c1),(k2,A2,256,c2),(k3,A3,256,c3),(k4,A4,256,c4)],fun _=>⟨_,_,rfl,hT _ (Nat.le_refl _),by rw [World.size_alloc];exact Nat.lt_succ_self _⟩,?_,rfl,fun i q b e=>?_⟩
 ·refine ⟨rfl,fun _=>⟨_,_,rfl,by rw [World.size_alloc];exact Nat.lt_succ_self _,fun j u hu=>?_⟩⟩
  rw [Nat.zero_add,cell_of_row _ _ _ _ _ _ (heap_alloc_new w _)]
  simpa [cW,eW] using hu
 ·match i with
  | 0 =>
   injection e with e
   injection e with e1 e2
   subst e1 e2
   exact ⟨_,c1,rfl,h1.later hb⟩
  | 1 =>
   injection e with e
   injection e with e1 e2
   subst e1 e2
   exact ⟨_,c2,rfl,h2.later hb⟩
  | 2 =>
   injection e with e
   injection e with e1 e2
   subst e1 e2
   exact ⟨_,c3,rfl,h3.later hb⟩
  | 3 =>
   injection e with e
   injection e with e1 e2
   subst e1 e2
   exact ⟨_,c4,rfl,h4.later hb⟩
  | i+4=>simp at e
/-- The first of some puts. -/
theorem PutsAt.take {w:World} {T:Nat→Prop} {A:Option Addr} {n:Nat} {ps:List (Int × Bs)} (h:PutsAt w T A n ps) (m:Nat) (hm:m≤n):PutsAt w T A m (ps.take m):=by
 have hn:=h.len
 obtain ⟨l,h1,h2,h3,h4⟩:=h
 refine ⟨l.take m,fun h0=>h1 (by omega),?_,by rw [List.length_take,List.length_take,h3],fun i k b e=>?_⟩
 ·have:=RdW.cut h2 (k:=0) (m:=m) (A':=A) (by omega) (fun h0=>by
   obtain ⟨g,o,e,-⟩:=h1 (by omega)
   rw [e]
   simp [Addr.add])
  simpa using this
 ·rw [List.getElem?_take] at e
  by_cases hi:i < m
  ·rw [if_pos hi] at e
   obtain ⟨B,c,e1,e2⟩:=h4 i k b e
   exact ⟨B,c,by rw [List.getElem?_take,if_pos hi];exact e1,e2⟩
  ·rw [if_neg hi] at e;cases e
def P4:List (Nat × Bs):=[(6,fillB 1),(7,fillB 2),(8,fillB 3),(9,fillB 4)]
theorem fillB_len (c:UInt8):(fillB c).length=256:=List.length_replicate
theorem P4_may:mayV (2+4) 16 4 (ips (P4.take 3))=0:=by decide
theorem P4_no:mayV (2+4) 16 4 (ips P4)=9:=by decide
theorem P4_good:GoodP 16 4 (P4.take 3) :=
 ⟨by decide,by decide,by decide,fun x hx=>by
  simp only [P4,List.take_succ_cons,List.take_zero,List.mem_cons,List.not_mem_nil,or_false] at hx
  rcases hx with rfl | rfl | rfl <;> exact ⟨by decide,by decide,fillB_len _⟩,by decide⟩
end Go.Proofs.Ytdoanopeejeeiaa

