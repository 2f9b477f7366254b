/- XWlb -/
import Derived.Test.YtdoanopeejeeiaaMk30
namespace Go.Proofs.Ytdoanopeejeeiaa
set_option linter.all false
open Go.RowKit Go.Maps
/-- Is a place named by one of the first puts? -/
def anyK (ps:List (Int × Bs)) (m:Nat) (p:Int):Bool:=(ps.take m).any fun x=>x.1 == p
theorem anyK_succ {ps:List (Int × Bs)} {k:Nat} {x:Int × Bs} (p:Int) (h:ps[k]?=some x):anyK ps (k+1) p=(anyK ps k p || x.1 == p):=by
 unfold anyK
 rw [List.take_add_one,h,List.any_append]
 simp
theorem anyK_le {ps:List (Int × Bs)} {k m:Nat} {x:Int × Bs} {p:Int} (h:ps[k]?=some x) (hk:k < m) (he:(x.1 == p)=true):anyK ps m p=true:=by
 unfold anyK
 rw [List.any_eq_true]
 exact ⟨x,List.mem_of_getElem? (i:=k) (by rw [List.getElem?_take,if_pos hk];exact h),he⟩
/-- May a put stand where it stands? -/
def okAt (home N:Nat) (ps:List (Int × Bs)) (i:Nat) (k:Int):Bool:=decide ((home:Int)≤k∧k < (N:Int)) && !anyK ps i k
def okAll (home N:Nat) (ps:List (Int × Bs)):Bool:=(List.range ps.length).all fun i=>match ps[i]? with | some x=>okAt home N ps i x.1 | none=>true
theorem okAll_no {home N:Nat} {ps:List (Int × Bs)} {i:Nat} {x:Int × Bs} (h:ps[i]?=some x) (hf:okAt home N ps i x.1=false):okAll home N ps=false:=by
 unfold okAll
 rw [List.all_eq_false]
 refine ⟨i,List.mem_range.2 (List.getElem?_eq_some_iff.1 h).1,?_⟩
 rw [h]
 simp [hf]
theorem okAll_yes {home N:Nat} {ps:List (Int × Bs)} (h:∀ i x,ps[i]?=some x→okAt home N ps i x.1=true):okAll home N ps=true:=by
 unfold okAll
 rw [List.all_eq_true]
 intro i hi
 cases e:ps[i]? with
 | none=>rfl
 | some x=>exact h i x e
theorem okAll_at {home N:Nat} {ps:List (Int × Bs)} (h:okAll home N ps=true) {i:Nat} {x:Int × Bs} (hx:ps[i]?=some x):okAt home N ps i x.1=true:=by
 unfold okAll at h
 rw [List.all_eq_true] at h
 have:=h i (List.mem_range.2 (List.getElem?_eq_some_iff.1 hx).1)
 rw [hx] at this
 exact this
def mayV (home N ring:Nat) (ps:List (Int × Bs)):Int:=if okAll home N ps=true then (if ring < needN ps.length then 9 else 0) else 1
theorem mayc_any (q p:Int) (B:Option Addr) (n c pb:Nat) (w:World) (hc:w.cell? ⟨pb,0,none⟩=some (.int .i64 p)) :
  Calls Try.prog 54 #[.agg #[.int .i64 q,.slice B n c],.pointer (some ⟨pb,0,none⟩)] w fun e w'=>e=.returned (.bool (q == p))∧Below w.heap.size w w':=by
 have hl:pb < w.heap.size:=block_lt_of_cell hc
 have hne:¬ pb=w.heap.size:=by omega
 go_enter Try.func54,Try.ntmps54
 go_wp2_with fail
 go_ret
 exact ⟨rfl,(Below.refl _ _).alloc (Nat.le_refl _) _⟩
set_option maxRecDepth 100000 in
set_option maxHeartbeats 3200000 in
theorem index_any (T:Nat→Prop) (A:Option Addr) (n m c pb:Nat) (p:Int) (ps:List (Int × Bs)) (w:World) (HP:PutsAt w T A n ps) (hm:m≤n) (hn:n≤100000) (hc:w.cell? ⟨pb,0,none⟩=some (.int .i64 p)) :
  Calls Try.prog 59 #[.slice A m c,.func (.func 54) #[] #[.pointer (some ⟨pb,0,none⟩)]] w fun e w'=>∃ z:Int,e=.returned (.int .i64 z)∧Hid (decide (0≤z)=anyK ps m p)∧Below w.heap.size w w':=by
 have HL:=Lib.hid HP.len
 have HQ:=Lib.hid HP
 have HC:=Lib.hid hc
 clear HP hc
 go_enter Try.func59,Try.ntmps59
 go_wp2_with fail
 go_loopw [8] (fun i wr=>∃ k:Nat,k≤m∧i=.int .i64 k∧Hid (anyK ps k p=false)∧Hid (Below w.heap.size w wr)) (fun i _=>m - (intOf i).toNat)
 case atStart=>exact ⟨0,Nat.zero_le _,rfl,(show _=_ from rfl),Below.refl _ _⟩
 case round =>
  obtain ⟨k,hk,rfl,HA,HB⟩:=hrel
  by_cases hlt:k < m
  ·obtain ⟨⟨q,bs⟩,hx⟩:∃ x,ps[k]?=some x:=⟨_,List.getElem?_eq_getElem (show k < ps.length by rw [HL.out];omega)⟩
   obtain ⟨b,o,B,cc,rfl,hbl,e1,e2,-⟩:=HQ.out.get hx
   have k1:=cell_later e1 HB.out
   have k2:=cell_later e2 HB.out
   have HCL:=Lib.hid (mayc_any q p B 256 cc pb wr (cell_later HC.out HB.out))
   have HSU:=Lib.hid (anyK_succ p hx)
   have HHI:=Lib.hid (fun h:(q == p)=true=>anyK_le (m:=m) hx hlt h)
   clear hx e1 e2
   cases hq:(q == p) with
   | true =>
    rw [hq] at HCL
    have HH:=Lib.hid (HHI.out hq)
    clear hq
    go_wp2_with (go_at_call 54;(with_reducible refine HCL.out.mono ?_);go_must (rintro e w1 ⟨rfl,hb1⟩;have HB1:=Lib.hid (HB.out.trans (hb1.mono HB.out.size));clear hb1))
    go_ret
    exact ⟨_,rfl,(show _=_ by rw [HH.out];simp),HB1.out⟩
   | false =>
    rw [hq] at HCL
    have HH:Hid (anyK ps (k+1) p=false):=(show _=_ by rw [HSU.out,HA.out];exact hq)
    clear hq
    go_wp2_with (go_at_call 54;(with_reducible refine HCL.out.mono ?_);go_must (rintro e w1 ⟨rfl,hb1⟩;have HB1:=Lib.hid (HB.out.trans (hb1.mono HB.out.size));clear hb1))
    go_roundw
    case rel=>exact ⟨k+1,by omega,by go_num,HH,HB1⟩
    case measure=>simp [intOf];omega
  ·obtain rfl:k=m:=by omega
   go_wp2_with fail
   go_ret
   exact ⟨_,rfl,(show _=_ by rw [HA.out];simp),HB.out⟩
theorem contains_any (T:Nat→Prop) (A:Option Addr) (n m c pb:Nat) (p:Int) (ps:List (Int × Bs)) (w:World) (HP:PutsAt w T A n ps) (hm:m≤n) (hn:n≤100000) (hc:w.cell? ⟨pb,0,none⟩=some (.int .i64 p)) :
  Calls Try.prog 53 #[.slice A m c,.func (.func 54) #[] #[.pointer (some ⟨pb,0,none⟩)]] w fun e w'=>e=.returned (.bool (anyK ps m p))∧Below w.heap.size w w':=by
 have H:=Lib.hid (index_any T A n m c pb p ps w HP hm hn hc)
 clear HP hm hc
 go_enter Try.func53,Try.ntmps53
 go_wp2_with (go_at_call 59;(with_reducible refine H.out.mono ?_);go_must (rintro e w1 ⟨z,rfl,hz,hb⟩))
 go_ret
 exact ⟨ret_boolD hz.out,hb⟩
set_option maxRecDepth 100000 in
set_option maxHeartbeats 12800000 in
theorem mayW_any (lo d l:Nat) (h:Hn) (s:Dk) (ring seq pos:Nat) (T:Nat→Prop) (A:Option Addr) (n c:Nat) (ps:List (Int × Bs)) (w:World) (H:LgOk w lo d l h s ring seq pos) (HP:PutsAt w T A n ps) (hc:n≤c) (hn:n≤1000) (hr:ring≤5000) :
  Calls Try.prog 35 #[.pointer (some ⟨l,0,none⟩),.slice A n c] w fun e w'=>e=.returned (.int .i64 (mayV (2+ring) s.n ring ps))∧Below w.heap.size w w':=by
 have hpl:=HP.len
 have HPL:=Lib.hid hpl
 have HQ:=Lib.hid HP
 have HL:=Lib.hid H
 have HND:=Lib.hid (fun v w=>needW_any v n (by omega) w)
 have c1:=H.lg.cell (k:=1) rfl
 have HHM:=Lib.hid (fun (w':World) (hb:Below w.heap.size w w') (q:Int) (b:Bool) hbb=>homeP_any w' lo d l ring seq pos h s q (H.lg.later hb) (H.dk.later hb).arr hr b hbb)
 have HHT:=Lib.hid (fun (w':World) (hb:Below w.heap.size w w') (m pb:Nat) (p:Int) (hm:m≤n) hcc=>contains_any T A n m c pb p ps w' (HP.fr (Fr.of _ hb) (TT.refl _ _)) hm (by omega) hcc)
 have hmf:∀ (fn:Fn) (first cap:Array Value) (w:World),(Instr.makeFunc fn first cap).run Try.prog w=.ok (.func fn first cap) w:=fun _ _ _ _=>rfl
 clear H HP hpl
 go_enter Try.func35,Try.ntmps35
 go_wp2_with fail
 go_loopw [11] (fun vi wr=>∃ k:Nat,k≤n∧vi=.int .i64 k∧Hid (Below w.heap.size w wr)∧Hid (∀ i x,i < k→ps[i]?=some x→okAt (2+ring) s.n ps i x.1=true)) (fun vi _=>n - (intOf vi).toNat)
 case atStart=>exact ⟨0,Nat.zero_le _,rfl,Below.refl _ _,fun i x hi=>absurd hi (Nat.not_lt_zero _)⟩
 case round =>
  obtain ⟨k,hk,rfl,HB,HOK⟩:=hrel
  have hsz:=HB.out.size
  by_cases hlt:k < n
  ·obtain ⟨⟨q,bs⟩,hx⟩:∃ x,ps[k]?=some x:=⟨_,List.getElem?_eq_getElem (show k < ps.length by rw [HPL.out];exact hlt)⟩
   obtain ⟨b,o,B,cc,rfl,hbl,e1,e2,-⟩:=HQ.out.get hx
   have k1:=cell_later e1 HB.out
   have k2:=cell_later e2 HB.out
   have hB5:Below w.heap.size w (wr.alloc (.cells #[.int .i64 q,.slice B 256 cc] 56)):=HB.out.alloc hsz _
   have n0:(wr.alloc (.cells #[.int .i64 q,.slice B 256 cc] 56)).cell? ⟨wr.heap.size,0,none⟩=some (.int .i64 q):=by
    rw [cell_of_row _ _ _ _ _ _ (heap_alloc_new wr _)];rfl
   obtain ⟨bk,hbk⟩:∃ bk,decide (((2+ring:Nat):Int)≤q∧q < (s.n:Int))=bk:=⟨_,rfl⟩
   have HHK:=Lib.hid (HHM.out _ hB5 q bk hbk.symm)
   obtain ⟨ck,hck⟩:∃ ck,anyK ps k q=ck:=⟨_,rfl⟩
   have HCK:=HHT.out _ hB5 k wr.heap.size q (by omega) n0
   rw [hck] at HCK
   have HCK:=Lib.hid HCK
   have HOA:Hid (okAt (2+ring) s.n ps k q=(bk && !ck)):=(show _=_ by unfold okAt;rw [hbk,hck])
   have HNO:=Lib.hid (fun h:okAt (2+ring) s.n ps k q=false=>okAll_no hx h)
   have HX:=Lib.hid hx
   clear hx e1 e2 hbk hck
   have hkc:(k:Int)≤(c:Int):=by omega
   cases bk with
   | false =>
    have HV:Hid (mayV (2+ring) s.n ring ps=1):=(show _=_ by unfold mayV;rw [HNO.out HOA.out];rfl)
    go_wp2_with (first
     | (go_at_call 52;(with_reducible refine HHK.out.mono ?_);go_must (rintro e w1 ⟨rfl,rfl⟩)))
    go_ret
    exact ⟨by rw [HV.out];rfl,hB5⟩
   | true =>
    cases ck with
    | true =>
     have HV:Hid (mayV (2+ring) s.n ring ps=1):=(show _=_ by unfold mayV;rw [HNO.out HOA.out];rfl)
     go_wp2_with (first
      | (go_at_call 52;(with_reducible refine HHK.out.mono ?_);go_must (rintro e w1 ⟨rfl,rfl⟩))
      | (go_at_call 53;(with_reducible refine HCK.out.mono ?_);go_must (rintro e w1 ⟨rfl,hb1⟩;have HB1:=Lib.hid (hB5.trans (hb1.mono hB5.size));clear hb1)))
     go_ret
     exact ⟨by rw [HV.out];rfl,HB1.out⟩
    | false =>
     go_wp2_with (first
      | (go_at_call 52;(with_reducible refine HHK.out.mono ?_);go_must (rintro e w1 ⟨rfl,rfl⟩))
      | (go_at_call 53;(with_reducible refine HCK.out.mono ?_);go_must (rintro e w1 ⟨rfl,hb1⟩;have HB1:=Lib.hid (hB5.trans (hb1.mono hB5.size));clear hb1)))
     go_roundw
     case rel =>
      refine ⟨k+1,by omega,by go_num,HB1,(show ∀ i x,_ from fun i x hi hx=>?_)⟩
      by_cases e:i=k
      ·subst e
       have:=HX.out
       rw [hx] at this
       injection this with this
       subst this
       exact HOA.out
      ·exact HOK.out i x (by omega) hx
     case measure=>simp [intOf];omega
  ·obtain rfl:k=n:=by omega
   have HOK2:Hid (okAll (2+ring) s.n ps=true):=(show _=_ from okAll_yes (fun i x hx=>HOK.out i x (by have:=(List.getElem?_eq_some_iff.1 hx).1;have:=HPL.out;omega) hx))
   have HB0:=HB
   clear HOK HB hsz HHM HHT
   obtain ⟨wo,rfl⟩:∃ wo:World,wo=wr:=⟨_,rfl⟩
   go_wp2_with fail
   go_loopw [31] (fun vi wr=>∃ j:Nat,j≤k∧vi=.int .i64 j∧Hid (Below w.heap.size w wr)) (fun vi _=>k - (intOf vi).toNat)
   case atStart=>exact ⟨0,Nat.zero_le _,rfl,HB0⟩
   case round =>
    obtain ⟨j,hj,rfl,HB⟩:=hrel
    have hsz:=HB.out.size
    by_cases hlt:j < k
    ·obtain ⟨⟨q,bs⟩,hx⟩:∃ x,ps[j]?=some x:=⟨_,List.getElem?_eq_getElem (show j < ps.length by rw [HPL.out];exact hlt)⟩
     obtain ⟨b,o,B,cc,rfl,hbl,e1,e2,-⟩:=HQ.out.get hx
     have k1:=cell_later e1 HB.out
     have k2:=cell_later e2 HB.out
     have hB5:Below w.heap.size w (wr.alloc (.cells #[.int .i64 q,.slice B 256 cc] 56)):=HB.out.alloc hsz _
     clear hx e1 e2
     go_wp2_with fail
     go_roundw
     case rel=>exact ⟨j+1,by omega,by go_num,hB5⟩
     case measure=>simp [intOf];omega
    ·obtain rfl:j=k:=by omega
     have cr1:=cell_later c1 HB.out
     go_upto_region 13 with fail
     by_cases hle:ring < needN j
     ·have HV:Hid (mayV (2+ring) s.n ring ps=9):=(show _=_ by unfold mayV;rw [if_pos HOK2.out,HPL.out,if_pos hle])
      obtain ⟨m,hm⟩:∃ m,needN j=m:=⟨_,rfl⟩
      rw [hm] at HND hle
      clear hm
      have hdm:decide (ring < m)=true:=by simpa using hle
      have hdmi:decide ((ring:Int) < (m:Int))=true:=by simpa using hle
      go_cut [48] (fun v wx=>v=.bool true∧wx=wr.drew)
      case first =>
       go_region_with (first
        | (go_at_call 16;(with_reducible refine (HND.out _ _).mono ?_);go_must (rintro e w1 ⟨rfl,rfl⟩)))
       all_goals
        go_wp2_with fail
        go_meet
        case rel=>exact ⟨by first | rfl | rw [hdm] | rw [hdmi],rfl⟩
      case rest =>
      obtain ⟨rfl,rfl⟩:=hcut
      go_wp2_with fail
      go_ret
      exact ⟨by rw [HV.out];rfl,HB.out.drew⟩
     ·have HV:Hid (mayV (2+ring) s.n ring ps=0):=(show _=_ by unfold mayV;rw [if_pos HOK2.out,HPL.out,if_neg hle])
      obtain ⟨m,hm⟩:∃ m,needN j=m:=⟨_,rfl⟩
      rw [hm] at HND hle
      clear hm
      have hdm:decide (ring < m)=false:=by simpa using hle
      have hdmi:decide ((ring:Int) < (m:Int))=false:=by simpa using hle
      go_cut [48] (fun v wx=>v=.bool false∧wx=wr.drew)
      case first =>
       go_region_with (first
        | (go_at_call 16;(with_reducible refine (HND.out _ _).mono ?_);go_must (rintro e w1 ⟨rfl,rfl⟩)))
       all_goals
        go_wp2_with fail
        go_meet
        case rel=>exact ⟨by first | rfl | rw [hdm] | rw [hdmi],rfl⟩
      case rest =>
      obtain ⟨rfl,rfl⟩:=hcut
      go_wp2_with fail
      go_ret
      exact ⟨by rw [HV.out];rfl,HB.out.drew⟩
end Go.Proofs.Ytdoanopeejeeiaa

