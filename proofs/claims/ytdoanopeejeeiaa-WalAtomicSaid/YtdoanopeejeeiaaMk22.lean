/- XWl3 -/
import Derived.Test.YtdoanopeejeeiaaMk18
import Derived.Test.YtdoanopeejeeiaaMk19
import Derived.Test.YtdoanopeejeeiaaMk21
namespace Go.Proofs.Ytdoanopeejeeiaa
set_option linter.all false
open Go.RowKit Go.Maps
/-- Puts that lie in a row, where a disk's own blocks are not. -/
def PutsAt (w:World) (T:Nat→Prop) (A:Option Addr) (n:Nat) (ps:List (Int × Bs)):Prop :=
 ∃ l:List PT,(0 < n→∃ g o,A=some ⟨g,o,none⟩∧¬ T g∧g < w.heap.size)∧RdW w w.heap.size A n l∧l.length=ps.length∧∀ (i:Nat) (k:Int) (bs:Bs),ps[i]?=some (k,bs)→∃ (B:Option Addr) (c:Nat),l[i]?=some ((k,B,256,c):PT)∧RowAt w T B 256 bs
def ips (ps:List (Nat × Bs)):List (Int × Bs):=ps.map fun x=>((x.1:Int),x.2)
theorem ips_get {ps:List (Nat × Bs)} {i k:Nat} {bs:Bs} (h:ps[i]?=some (k,bs)):(ips ps)[i]?=some ((k:Int),bs):=by unfold ips;rw [List.getElem?_map,h];rfl
theorem PutsAt.len {w:World} {T:Nat→Prop} {A:Option Addr} {n:Nat} {ps:List (Int × Bs)} (h:PutsAt w T A n ps):ps.length=n:=by
 obtain ⟨l,-,h2,h3,-⟩:=h
 rw [← h3,h2.len]
theorem PutsAt.fr {w w':World} {T T':Nat→Prop} {A:Option Addr} {n:Nat} {ps:List (Int × Bs)} (h:PutsAt w T A n ps) (k:Fr T w w') (hT:TT w T T'):PutsAt w' T' A n ps:=by
 obtain ⟨l,h1,h2,h3,h4⟩:=h
 refine ⟨l,fun hn=>?_,?_,h3,fun i q bs e=>?_⟩
 ·obtain ⟨g,o,rfl,hg,hlt⟩:=h1 hn
  exact ⟨g,o,rfl,hT.not hg hlt,Nat.lt_of_lt_of_le hlt k.size⟩
 ·refine ⟨h2.1,fun hn=>?_⟩
  obtain ⟨g,o,e0,hg,hlt⟩:=h1 (by have:=h2.1;omega)
  obtain ⟨b,o2,e,hb,hc⟩:=h2.2 hn
  rw [e0] at e
  injection e with e
  injection e with e1 e2
  subst e1 e2
  exact ⟨g,o,e0,Nat.lt_of_lt_of_le hlt k.size,fun j u hu=>by
   rw [World.cell?_of_block (w:=w) (w':=w') (a:=⟨g,o+j,none⟩) (k.block g hlt hg)]
   exact hc j u hu⟩
 ·obtain ⟨B,c,e1,e2⟩:=h4 i q bs e
  exact ⟨B,c,e1,e2.fr k hT⟩
theorem PutsAt.get {w:World} {T:Nat→Prop} {A:Option Addr} {n:Nat} {ps:List (Int × Bs)} (h:PutsAt w T A n ps) {k:Nat} {q:Int} {bs:Bs} (e:ps[k]?=some (q,bs)) :
  ∃ b o B c,A=some ⟨b,o,none⟩∧b < w.heap.size∧w.cell? ⟨b,o+k * 2,none⟩=some (.int .i64 q)∧w.cell? ⟨b,o+k * 2+1,none⟩=some (.slice B 256 c)∧RowAt w T B 256 bs:=by
 have hn:=h.len
 obtain ⟨l,h1,h2,h3,h4⟩:=h
 have hk:k < n:=by have:=(List.getElem?_eq_some_iff.1 e).1;omega
 obtain ⟨B,c,e1,e2⟩:=h4 k q bs e
 obtain ⟨b,o,x,hA,hb,hx,c1,c2⟩:=h2.one hk
 have hx2:=hx.out
 rw [e1] at hx2
 injection hx2 with hx2
 subst hx2
 exact ⟨b,o,B,c,hA,hb,c1,c2,e2⟩
theorem wrF_step {s:Dk} {l:List (Nat × Bs)} {k q:Nat} {bs:Bs} (h:l[k]?=some (q,bs)) (hp:s.pend=[]) (hd:s.down=false) (hk:s.falls=0∨k < s.falls) :
  wrF (wrK s l k) q bs=if s.falls=k+1 then (12,wrFall s l k) else (0,wrK s l (k+1)):=by
 have ht:l.take (k+1)=l.take k ++ [(q,bs)]:=by rw [List.take_add_one,h];rfl
 unfold wrF
 by_cases hf:s.falls=k+1
 ·have h1:(wrK s l k).falls=1:=by show s.falls - k=1;omega
  rw [if_pos h1,if_pos hf]
  unfold crashS wrK wrFall
  simp only [hd,hp,List.nil_append,ht]
  rfl
 ·have h1:¬ (wrK s l k).falls=1:=by show ¬ s.falls - k=1;omega
  rw [if_neg h1,if_neg hf]
  have e1:updR (layF s.now (l.take k)) q bs=layF s.now (l.take (k+1)):=(layF_snoc s.now h).symm
  unfold wrK
  simp only [hp,List.nil_append,e1,← ht]
  congr 2
set_option maxRecDepth 100000 in
set_option maxHeartbeats 6400000 in
theorem writes_any (lo d:Nat) (h:Hn) (s:Dk) (f:SF) (ps:List (Nat × Bs)) (A:Option Addr) (n c:Nat) (w:World) (H:DkOk w lo d h s) (hlo:lo≤w.heap.size) (hat:At s f) (hdn:s.down=false) (hps:PutsAt w (h.T d) A n (ips ps)) (hk:∀ x ∈ ps,x.1 < s.n)
  (hfew:ps.length≤1000) (hf:s.falls≤9223372036854775807) (hwr:s.writes≤900000000) (hmk:s.mask.length≤1000000) (hU:∀ g,w.heap.size≤g→¬ h.U g) :
  Calls Try.prog 27 #[.pointer (some ⟨d,0,none⟩),.slice A n c] w fun e w'=>∃ E s' h',e=.returned (.int .i64 E)∧WrRes s f ps E s'∧DkOk w' lo d h' s'∧Fr (h.T d) w w'∧TT w (h.T d) (h'.T d)∧h'.U=h.U:=by
 have hpn:ps.length=n:=by have:=hps.len;unfold ips at this;rw [List.length_map] at this;exact this
 have HP:=Lib.hid hps
 have HK:=Lib.hid hk
 have HAT:=Lib.hid hat
 have HLO:=Lib.hid hlo
 have HH:=Lib.hid H
 have HDN:=Lib.hid hdn
 have HUU:=Lib.hid hU
 have HMK:=Lib.hid hmk
 have HFL:=Lib.hid hf
 have HWR:=Lib.hid hwr
 have HPN:=Lib.hid hpn
 have HPD:=Lib.hid hat.pend
 have hn:n≤1000:=by omega
 have h0:wrK s ps 0=s:=by have hp:=hat.pend;unfold wrK;cases s;dsimp only at hp;subst hp;simp [layF]
 have H0:Hid (DkOk w lo d h (wrK s ps 0)):=(show DkOk _ _ _ _ _ by rw [h0];exact H)
 clear H hps hk hat hlo hdn hU hmk hf hwr hpn hfew h0
 go_enter Try.func27,Try.ntmps27
 go_wp2_with fail
 go_loopw [10] (fun vi wr=>∃ (k:Nat) (h1:Hn),k≤n∧vi=.int .i64 k∧Hid (DkOk wr lo d h1 (wrK s ps k))∧Hid (Fr (h.T d) w wr)∧Hid (TT w (h.T d) (h1.T d))∧Hid (h1.U=h.U)∧Hid (s.falls=0∨k < s.falls)) (fun vi _=>n - (intOf vi).toNat)
 case atStart=>exact ⟨0,h,Nat.zero_le _,rfl,H0,Fr.refl _ _,TT.refl _ _,rfl,(show _∨_ from by omega)⟩
 case round =>
  obtain ⟨k,h1,hk,rfl,HD,HF,HT,HU1,HNF⟩:=hrel
  by_cases hlt:k < n
  ·obtain ⟨⟨q,bs⟩,hb⟩:∃ x,ps[k]?=some x:=⟨_,List.getElem?_eq_getElem (show k < ps.length by rw [HPN.out];exact hlt)⟩
   obtain ⟨b,o,B,cc,rfl,hbl,e1,e2,hrow⟩:=(HP.out.fr HF.out HT.out).get (ips_get hb)
   have hq:=HK.out (q,bs) (List.mem_of_getElem? hb)
   have HST:=Lib.hid (wrF_step hb HPD.out HDN.out HNF.out)
   have HW:=writeF_any lo d h1 (wrK s ps k) q cc B bs (wr.alloc (.cells #[.int .i64 (q:Int),.slice B 256 cc] 56)) (HD.out.later ((Below.refl _ _).alloc (Nat.le_refl _) _)) hq HDN.out (by rw [World.size_alloc];have:=HLO.out;have:=HF.out.size;omega) (hrow.later ((Below.refl _ _).alloc (Nat.le_refl _) _))
    (by show s.falls - k≤_;have:=HFL.out;omega) (by show s.writes+k≤_;have:=HWR.out;omega) (by show (s.pend ++ ps.take k).length≤_;rw [HPD.out,List.nil_append,List.length_take];omega) HMK.out (fun g hg=>by rw [HU1.out];exact HUU.out g (by rw [World.size_alloc] at hg;have:=HF.out.size;omega))
   clear hrow hb hq
   by_cases hfall:s.falls=k+1
   ·rw [HST.out,if_pos hfall] at HW
    have HW:=Lib.hid HW
    go_wp2_with (go_at_call 42;(with_reducible refine HW.out.mono ?_);go_must (rintro e w6 ⟨rfl,h6,H6,F6,T6,U6⟩;have HH6:=Lib.hid H6;have HF6:=Lib.hid F6;have HT6:=Lib.hid T6;have HU6:=Lib.hid U6;clear H6 F6 T6 U6))
    go_ret
    have hk2:k < ps.length:=by rw [HPN.out];exact hlt
    exact ⟨12,_,h6,rfl,WrRes.fall HAT.out ps hk2 (by omega),HH6.out,(HF.out.alloc _).trans2 HT.out HF6.out,HT.out.trans HT6.out (by rw [World.size_alloc];have:=HF.out.size;omega),HU6.out.trans HU1.out⟩
   ·rw [HST.out,if_neg hfall] at HW
    have HW:=Lib.hid HW
    go_wp2_with (go_at_call 42;(with_reducible refine HW.out.mono ?_);go_must (rintro e w6 ⟨rfl,h6,H6,F6,T6,U6⟩;have HH6:=Lib.hid H6;have HF6:=Lib.hid F6;have HT6:=Lib.hid T6;have HU6:=Lib.hid U6;clear H6 F6 T6 U6))
    go_roundw
    case rel =>
     exact ⟨k+1,h6,by omega,by go_num,HH6,(HF.out.alloc _).trans2 HT.out HF6.out,HT.out.trans HT6.out (by rw [World.size_alloc];have:=HF.out.size;omega),HU6.out.trans HU1.out,(show _∨_ from by have:=HNF.out;omega)⟩
    case measure=>simp [intOf];omega
  ·obtain rfl:k=n:=by omega
   have HFS:=Lib.hid (flushD_any lo d h1 (wrK s ps k) wr HD.out (by show (s.pend ++ ps.take k).length≤_;rw [HPD.out,List.nil_append,List.length_take];omega))
   have HE:Hid (flushS (wrK s ps k)=wrAll s ps):=(show _=_ by rw [← HPN.out];exact wrK_flush HPD.out HDN.out)
   rw [HE.out,show (wrK s ps k).down=false from HDN.out] at HFS
   go_wp2_with (go_at_call 43;(with_reducible refine HFS.out.mono ?_);go_must (rintro e w6 ⟨rfl,h6,H6,F6,T6,U6⟩;have HH6:=Lib.hid H6;have HF6:=Lib.hid F6;have HT6:=Lib.hid T6;have HU6:=Lib.hid U6;clear H6 F6 T6 U6))
   go_ret
   exact ⟨0,_,h6,rfl,WrRes.all HAT.out HDN.out ps,HH6.out,HF.out.trans2 HT.out HF6.out,HT.out.trans HT6.out HF.out.size,HU6.out.trans HU1.out⟩
end Go.Proofs.Ytdoanopeejeeiaa

