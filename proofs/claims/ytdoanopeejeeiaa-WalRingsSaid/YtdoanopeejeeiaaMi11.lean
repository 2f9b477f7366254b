/- XDisk9 XDisk10 -/
import Derived.Test.YtdoanopeejeeiaaMi10
import Derived.Deep.CutRange
namespace Go.Proofs.Ytdoanopeejeeiaa
set_option linter.all false
open Go.RowKit Go.Maps
def goodT (s:Dk) (k at_:Int):Prop:=0≤k∧k < s.n∧0≤at_∧at_ < 2048∧s.pend=[]
instance (s:Dk) (k at_:Int):Decidable (goodT s k at_):=by unfold goodT;exact inferInstance
end Go.Proofs.Ytdoanopeejeeiaa

/- A disk: a bit of a mask, Crash, Reboot. -/
namespace Go.Proofs.Ytdoanopeejeeiaa
set_option linter.all false
open Go.RowKit Go.Maps
theorem ret_boolD {a b:Bool} (h:a=b):Ending.returned (.bool a)=.returned (.bool b):=by rw [h]
/-- A bit of a mask. -/
def bitB (m:Bs) (i:Nat):Bool:=decide (i / 8 < m.length) && ((m.getD (i / 8) 0).toNat / 2 ^ (i % 8) % 2 == 1)
theorem and_bit1 (x:UInt8) (t:Nat):bits .and .u8 ((x.toNat:Int) / 2 ^ t) 1=((x.toNat / 2 ^ t % 2:Nat):Int):=by
 have e:(x.toNat:Int) / 2 ^ t=((x.toNat / 2 ^ t:Nat):Int):=by push_cast;rfl
 have hl:x.toNat / 2 ^ t < 256:=Nat.lt_of_le_of_lt (Nat.div_le_self _ _) x.toNat_lt
 rw [e,show (1:Int)=((1:Nat):Int) from rfl,u8_and_nat _ _ hl (by decide),Nat.and_one_is_mod]
set_option maxRecDepth 100000 in
theorem bitD_any (B n c i:Nat) (A:Option Addr) (m:Bs) (w:World) (h:RdB w B A n m) (hn:n≤1099511627776) (hi:i≤1000000) :
  Calls Try.prog 40 #[.slice A n c,.int .i64 (i:Int)] w fun e w'=>e=.returned (.bool (bitB m i))∧w=w':=by
 have hl:=h.len
 obtain ⟨p,hp⟩:∃ p,p=i / 8:=⟨_,rfl⟩
 obtain ⟨t,ht⟩:∃ t,t=i % 8:=⟨_,rfl⟩
 have hq1:(i:Int).tdiv 8=(p:Int):=by rw [hp];rfl
 have hq2:(i:Int).tmod 8=(t:Int):=by rw [ht];rfl
 have ht2:t < 8:=by omega
 have hp3:p≤1000000:=by omega
 by_cases hlt:p < n
 ·obtain ⟨b,o,x,rfl,hb,HX,e1⟩:=h.byte hlt
  have hB:bitB m i=(x.toNat / 2 ^ t % 2 == 1):=by
   unfold bitB
   rw [← hp,← ht,List.getD_eq_getElem?_getD,HX.out,hl,decide_eq_true hlt,Bool.true_and]
   rfl
  rw [hB]
  have t1:decide ((p:Int) < (n:Int))=true:=decide_eq_true (by omega)
  have HAB:=Lib.hid (and_bit1 x t)
  have hy:x.toNat / 2 ^ t % 2 < 2:=Nat.mod_lt _ (by decide)
  generalize x.toNat / 2 ^ t % 2=y at *
  clear hB hp ht HX h hl
  go_enter Try.func40,Try.ntmps40
  go_wp2_with fail
  go_ret
  refine ⟨ret_boolD ?_,rfl⟩
  rw [HAB.out]
  match y,hy with
  | 0,_=>rfl
  | 1,_=>rfl
 ·have hB:bitB m i=false:=by
   unfold bitB
   rw [← hp,hl,decide_eq_false hlt,Bool.false_and]
  rw [hB]
  have t1:decide ((p:Int) < (n:Int))=false:=decide_eq_false (by omega)
  clear hB hp ht h hl
  go_enter Try.func40,Try.ntmps40
  go_wp2_with fail
  go_ret
  exact ⟨rfl,rfl⟩
/-- Some of the changes, as a mask tells, laid upon sectors. -/
def layM (m:Bs) (f:Nat→Option Bs) (p:List (Nat × Bs)):Nat→Nat→Option Bs
 | 0=>f
 | k+1=>match p[k]? with
  | some x=>if bitB m k then updR (layM m f p k) x.1 x.2 else layM m f p k
  | none=>layM m f p k
theorem layM_step {m:Bs} {f:Nat→Option Bs} {p:List (Nat × Bs)} {k kk:Nat} {bs:Bs} (h:p[k]?=some (kk,bs)):layM m f p (k+1)=if bitB m k then updR (layM m f p k) kk bs else layM m f p k:=by
 show (match p[k]? with | some x=>if bitB m k then updR (layM m f p k) x.1 x.2 else layM m f p k | none=>layM m f p k)=_
 rw [h]
def crashS (s:Dk) (m:Bs):Dk:=if s.down then s else { s with now:=layM m s.dur s.pend s.pend.length,dur:=layM m s.dur s.pend s.pend.length,pend:=[],down:=true }
/-- The map that is now is another one. -/
theorem DkOk.renew {w w5:World} {lo d:Nat} {h:Hn} {s:Dk} (k:DkOk w lo d h s) (hb:Below w.heap.size w w5) (nb':Nat) (hnb:w.heap.size≤nb') (hlo:lo≤w.heap.size) {r:Nat→Option (Nat × Nat)} (hm:isMap w5 nb' r)
  (hr:∀ k,s.dur k=none→r k=none) (hs:∀ k bs,s.dur k=some bs→∃ v,r k=some v∧SecAt w (h.S d) v bs) (hnot:∀ g,h.T d g→g < w.heap.size) :
  DkOk (w5.setCell ⟨d,1,none⟩ (.map (some nb'))) lo d { h with nb:=nb' } { s with now:=s.dur }∧Fr (h.T d) w (w5.setCell ⟨d,1,none⟩ (.map (some nb')))∧TT w (h.T d) (Hn.T { h with nb:=nb' } d):=by
 have hTT:TT w (h.T d) (Hn.T { h with nb:=nb' } d):=by
  rintro g (e | e | e | e)
  ·exact .inl (.inl e)
  ·exact .inr (by have e2:g=nb':=e;omega)
  ·exact .inl (.inr (.inr (.inl e)))
  ·exact .inl (.inr (.inr (.inr e)))
 have hF:Fr (h.T d) w (w5.setCell ⟨d,1,none⟩ (.map (some nb'))):=(Fr.of _ hb).setCell (p:=⟨d,1,none⟩) (.inl rfl) _
 have hdl:=k.arr.lt
 have hdb:=k.dur.lt
 have hblk:∀ g,g < w.heap.size→g ≠ d→(w5.setCell ⟨d,1,none⟩ (.map (some nb'))).heap[g]?=w.heap[g]?:=fun g hg hne=>(Below.heap_setCell _ _ _ _ hne).trans (hb.block g hg)
 refine ⟨⟨(k.arr.later hb).set 1 _,(show d ≠ nb' by omega),k.ne2,(show nb' ≠ h.db by omega),k.lo1,(show lo≤nb' by omega),k.lo3,fun g e=>?_,?_,k.dur.fr hF.S (Hn.tts hTT rfl) (hblk _ hdb (fun e=>k.ne2 e.symm)),?_,k.pr.fr hF.S (Hn.tts hTT rfl),k.mask.fr hF.S (Hn.tts hTT rfl),k.size⟩,hF,hTT⟩
 ·have h1:=k.pne g e
  have h2:=hnot g (.inr (.inr (.inr e)))
  exact ⟨h1.1,(show g ≠ nb' by omega),h1.2.2⟩
 ·refine ⟨r,hm.keep (Below.heap_setCell _ _ _ _ (show nb' ≠ d by omega)),hr,fun k' bs e=>?_⟩
  obtain ⟨v,e1,e2⟩:=hs k' bs e
  exact ⟨v,e1,e2.fr hF.S (Hn.tts hTT rfl)⟩
 ·exact (k.own.later hb).far (fun e=>(k.pne _ e).1 rfl) 1 _
end Go.Proofs.Ytdoanopeejeeiaa

