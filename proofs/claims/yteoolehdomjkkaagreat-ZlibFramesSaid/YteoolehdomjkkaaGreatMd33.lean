/- Merged: Rx, Zb, Unp, Unp2, Unp3. -/
import Derived.Test.YteoolehdomjkkaaGreatMd28
import Derived.Test.YteoolehdomjkkaaGreatMd26
import Derived.Test.YteoolehdomjkkaaGreatMd32
import Derived.Test.YteoolehdomjkkaaGreatMd25
import Derived.Test.YteoolehdomjkkaaGreatMd31
/- flate: more bytes behind, more room: the same comes out, plainly. -/
namespace Go.Proofs.YteoolehdomjkkaaGreat
set_option linter.all false
section
variable {bs more : List UInt8} {most most' : Int}
/-- How far a reader comes: within the bytes. -/
theorem nextP_fit2 {s:RS} {ls:List Int} (h:s.p≤8 * bs.length):(nextP bs ls s).2.p≤8 * bs.length:=by
 unfold nextP
 split
 ·exact (nx_le ls bs 15 1 0 s.p h).1
 ·exact h
theorem copyP_fit {s:RS} {q:Nat} {dl:Option (List Int)} (h:s.p≤8 * bs.length):(copyP bs most s q dl).p≤8 * bs.length:=by
 have h1:(getP bs s (lenOf (q - 257)).2).2.p≤8 * bs.length:=getP_fit h
 unfold copyP
 split
 ·rw [fail_p];exact h
 ·split
  ·cases dl with
   | none =>
    show (RS.fail _ 1).p≤_
    rw [fail_p];exact h1
   | some ds =>
    rw [cpB]
    split
    ·rw [fail_p];exact nextP_fit2 h1
    ·rw [copiesP_p];exact getP_fit (nextP_fit2 h1)
  ·exact h1
theorem toksF_fit {ll:List Int} {dl:Option (List Int)}:∀ (f:Nat) {s:RS},s.p≤8 * bs.length→(toksF bs most ll dl f s).p≤8 * bs.length
 | 0,s,h=>h
 | f+1,s,h=>by
  have h1:(nextP bs ll s).2.p≤8 * bs.length:=nextP_fit2 h
  rw [toksF]
  split
  ·split
   ·split
    ·exact h1
    ·split
     ·exact toksF_fit f (by rw [givesP_p];exact h1)
     ·exact toksF_fit f (copyP_fit h1)
   ·exact h1
  ·exact h
theorem plnF_fit:∀ (k:Nat) {s:RS},s.p≤8 * bs.length→(plnF bs most k s).p≤8 * bs.length
 | 0,s,h=>h
 | k+1,s,h=>by
  rw [plnF]
  split
  ·split
   ·exact plnF_fit k (by rw [givesP_p];exact getP_fit h)
   ·exact getP_fit h
  ·exact h
theorem plainP_fit {s:RS} (h:s.p≤8 * bs.length):(plainP bs most s).p≤8 * bs.length:=by
 have h0:(pl0 s).p≤8 * bs.length:=by show 8 * ((s.p+7) / 8)≤_;omega
 have h1:(pl2 bs s).p≤8 * bs.length:=getP_fit (getP_fit h0)
 have h2:(pl3 bs s).p=(pl2 bs s).p:=by
  unfold pl3
  split
  ·exact fail_p _ _
  ·rfl
 exact plnF_fit _ (by rw [h2];exact h1)
theorem lenRd_fit:∀ (ks:List Nat) (l:List Int) {s:RS},s.p≤8 * bs.length→(lenRd bs ks l s).2.p≤8 * bs.length
 | [],l,s,h=>h
 | k :: ks,l,s,h=>lenRd_fit ks _ (getP_fit h)
theorem listF_fit {ls:List Int} {all:Nat}:∀ (f:Nat) (l:List Int) {s:RS},s.p≤8 * bs.length→(listF bs ls all f l s).2.p≤8 * bs.length
 | 0,l,s,h=>h
 | f+1,l,s,h=>by
  have h1:(nextP bs ls s).2.p≤8 * bs.length:=nextP_fit2 h
  have rp:∀ (x:Int) (k m:Nat),(listF bs ls all f (repP l x k all (getP bs (nextP bs ls s).2 m).2).1 (repP l x k all (getP bs (nextP bs ls s).2 m).2).2).2.p≤8 * bs.length:=fun x k m=>listF_fit f _ (by rw [repP_p];exact getP_fit h1)
  rw [listF]
  split
  ·split
   ·split
    ·exact listF_fit f _ h1
    ·split
     ·split
      ·show (RS.fail _ 4).p≤_
       rw [fail_p];exact h1
      ·exact rp _ _ _
     ·split
      ·exact rp _ _ _
      ·exact rp _ _ _
   ·exact h1
  ·exact h
theorem ownLs_fit {s:RS} (h:s.p≤8 * bs.length):(ownLs bs s).2.p≤8 * bs.length:=by
 have hA:(hdA bs s).p≤8 * bs.length:=by
  unfold hdA
  split
  ·rw [fail_p];exact getP_fit h
  ·exact getP_fit h
 have hB:(hdB bs s).p≤8 * bs.length:=by
  unfold hdB
  split
  ·rw [fail_p];exact getP_fit hA
  ·exact getP_fit hA
 have hL:(hdL bs s).2.p≤8 * bs.length:=lenRd_fit _ _ (getP_fit hB)
 unfold ownLs
 cases decD (hdL bs s).1 (hdL bs s).2 with
 | none =>
  show (decP _ _ _).p≤_
  rw [decP_p];exact hL
 | some ls=>exact listF_fit _ [] (by rw [decP_p];exact hL)
theorem rownP_fit {f:Nat} {s:RS} (h:s.p≤8 * bs.length):(rownP bs most f s).p≤8 * bs.length:=by
 have h1:=ownLs_fit h
 unfold rownP ownT
 split
 ·split
  ·exact toksF_fit f (by rw [own3_p];exact h1)
  ·rw [own3_p];exact h1
 ·exact h1
theorem kindP_fit {f k:Nat} {s:RS} (h:s.p≤8 * bs.length):(kindP bs most f k s).p≤8 * bs.length:=by
 unfold kindP
 split
 ·exact plainP_fit h
 ·split
  ·exact toksF_fit f h
  ·split
   ·exact rownP_fit h
   ·rw [fail_p];exact h
theorem blkP_fit {f:Nat} {s:RS} (h:s.p≤8 * bs.length):(blkP bs most f s).p≤8 * bs.length:=kindP_fit (getP_fit (getP_fit h))
theorem infF_fit {f:Nat}:∀ (k:Nat) {s:RS},s.p≤8 * bs.length→(infF bs most f k s).p≤8 * bs.length
 | 0,s,h=>h
 | k+1,s,h=>by
  rw [infF]
  split
  ·split
   ·exact infF_fit k (blkP_fit h)
   ·exact blkP_fit h
  ·exact h
theorem infS_fit:(infS bs most).p≤8 * bs.length:=infF_fit _ (Nat.zero_le _)
/-- What is read lies within. -/
theorem infF_le {f:Nat}:∀ (k:Nat) (s:RS),(s.out.length:Int)≤most→((infF bs most f k s).out.length:Int)≤most
 | 0,s,h=>h
 | k+1,s,h=>by
  have hb:((blkP bs most f s).out.length:Int)≤most:=kindP_le (by rw [blk2_out];exact h)
  rw [infF]
  split
  ·split
   ·exact infF_le k _ hb
   ·exact hb
  ·exact h
theorem infS_le (h0:0≤most):((infS bs most).out.length:Int)≤most:=infF_le _ _ (by show (((0:Nat)):Int)≤most;exact h0)
end
end Go.Proofs.YteoolehdomjkkaaGreat

/- flate: what Inflate says of what Deflate gives, plainly. -/
namespace Go.Proofs.YteoolehdomjkkaaGreat
set_option linter.all false
theorem inflP_ok {bs:List UInt8} {most:Int} (h1:0≤most) (h2:most≤40000) (h:(infS bs most).e=0):inflP bs most=((infS bs most).out,((infS bs most).p+7) / 8,0):=by
 unfold inflP
 rw [if_neg (by omega),if_pos h]
theorem inflP_zero {bs:List UInt8} {most:Int} (h:(inflP bs most).2.2=0):0≤most∧most≤40000∧(infS bs most).e=0:=by
 unfold inflP at h
 split at h
 ·exact absurd (show (1:Int)=0 from h) (by decide)
 ·split at h
  ·rename_i h1 h2
   exact ⟨by omega,by omega,h2⟩
  ·rename_i h2
   exact absurd h h2
/-- What is read lies within, and a block at least is read. -/
theorem inflP_rng {bs:List UInt8} {most:Int} (h:(inflP bs most).2.2=0):1≤(inflP bs most).2.1∧(inflP bs most).2.1≤bs.length∧(((inflP bs most).1.length:Nat):Int)≤most:=by
 obtain ⟨h1,h2,h3⟩:=inflP_zero h
 rw [inflP_ok h1 h2 h3]
 have hf:(infS bs most).p≤8 * bs.length:=infS_fit
 refine ⟨?_,?_,infS_le h1⟩
 ·show 1≤((infS bs most).p+7) / 8
  have key:∀ k f (s:RS),s.e=0→(infF bs most f (k+1) s).e=0→s.p+3≤(infF bs most f (k+1) s).p:=fun k f=>by
   induction k with
   | zero =>
    intro s he hh
    rw [infF,if_pos he] at hh ⊢
    split at hh
    ·rename_i h0
     rw [if_pos h0]
     exact blkP_p hh
    ·rename_i h0
     rw [if_neg h0]
     exact blkP_p hh
   | succ k ih =>
    intro s he hh
    rw [infF,if_pos he] at hh ⊢
    split at hh
    ·rename_i h0
     rw [if_pos h0]
     have hb:(blkP bs most f s).e=0:=Decidable.byContradiction fun hn=>by
      rw [infF_err hn] at hh
      exact hn hh
     have:=ih _ hb hh
     have:=blkP_p hb
     omega
    ·rename_i h0
     rw [if_neg h0]
     exact blkP_p hh
  have:=key (8 * bs.length) (8 * bs.length+1) ⟨0,[],0⟩ rfl h3
  have h5:0+3≤(infS bs most).p:=this
  omega
 ·show ((infS bs most).p+7) / 8≤bs.length
  omega
end Go.Proofs.YteoolehdomjkkaaGreat

/- zlib: a frame read, plainly. -/
namespace Go.Proofs.YteoolehdomjkkaaGreat
set_option linter.all false
/-- May two bytes not begin a frame? -/
def hdBad (n:Nat):Prop:=¬ n / 256 % 16=8∨7 < n / 4096∨¬ n % 31=0∨¬ n / 32 % 2=0
instance (n:Nat):Decidable (hdBad n):=by unfold hdBad;infer_instance
def hdV (bs:List UInt8):Nat:=beV (bs.take 2)
def sumV (bs:List UInt8) (u:Nat):Nat:=beV ((bs.drop (2+u)).take 4)
def unpkP (bs:List UInt8) (most:Int):List UInt8 × Nat × Int :=
 if bs.length < 2 then ([],0,2) else if hdBad (hdV bs) then ([],0,4) else
 if (inflP (bs.drop 2) most).2.2=0 then
  (if bs.length < 2+(inflP (bs.drop 2) most).2.1+4 then ([],0,2) else if sumV bs (inflP (bs.drop 2) most).2.1=adler (inflP (bs.drop 2) most).1 then ((inflP (bs.drop 2) most).1,2+(inflP (bs.drop 2) most).2.1+4,0) else ([],0,5))
 else ([],0,(inflP (bs.drop 2) most).2.2)
def wholP (bs:List UInt8) (most:Int):List UInt8 × Int :=
 if (unpkP bs most).2.2=0 then (if (unpkP bs most).2.1 < bs.length then ([],3) else ((unpkP bs most).1,0)) else ([],(unpkP bs most).2.2)
theorem beV_two {bs:List UInt8} (h:2≤bs.length):hdV bs < 65536:=by
 have:=beV_lt bs 2 h
 exact this
theorem sumV_lt {bs:List UInt8} {u:Nat} (h:2+u+4≤bs.length):sumV bs u < 4294967296:=by
 have:=beV_lt (bs.drop (2+u)) 4 (by rw [List.length_drop];omega)
 exact this
theorem unpk_hd {bs:List UInt8} {most:Int} (h2:2≤bs.length) (h:hdBad (hdV bs)):¬ (unpkP bs most).2.2=0:=by
 unfold unpkP
 rw [if_neg (by omega),if_pos h]
 exact (show ¬ (4:Int)=0 by decide)
end Go.Proofs.YteoolehdomjkkaaGreat

/- zlib: Unpack and Whole, whatever comes. -/
namespace Go.Proofs.YteoolehdomjkkaaGreat
set_option linter.all false
open Go.RowKit
theorem and32 (N:Nat):N &&& 32=N / 32 % 2 * 32:=by
 refine Nat.eq_of_testBit_eq fun i=>?_
 rw [Nat.testBit_and,show (32:Nat)=2 ^ 5 from rfl,Nat.testBit_two_pow]
 by_cases h5:5=i
 ·subst h5
  rw [Nat.testBit_eq_decide_div_mod_eq]
  rcases Nat.mod_two_eq_zero_or_one (N / 2 ^ 5) with h | h
  ·rw [h];simp
  ·rw [h];decide
 ·rcases Nat.mod_two_eq_zero_or_one (N / 2 ^ 5) with h | h
  ·rw [h];simp [h5]
  ·rw [h,Nat.one_mul,Nat.testBit_two_pow]
   simp [h5]
set_option maxRecDepth 100000 in
set_option maxHeartbeats 6400000 in
theorem unpack_any (B n c:Nat) (A:Option Addr) (bs:List UInt8) (most:Int) (w:World) (h:RdB w B A n bs) (hB:B≤w.heap.size) (hc:n≤c) (hn:n≤1000000) :
  Calls Tryz.prog 34 #[.slice A n c,.int .i64 most] w fun e w'=>∃ v,e=.returned (.tuple #[v,.int .i64 ((unpkP bs most).2.1:Int),.int .i64 (unpkP bs most).2.2])∧ownB w' w.heap.size v (unpkP bs most).1∧Below w.heap.size w w':=by
 have hl:=h.len
 have HR:=Lib.hid h
 have HRB:=Lib.hid (readBig_any B n c A bs 0 2 w h hc (by omega))
 by_cases h2:bs.length < 2
 ·have hP:unpkP bs most=([],0,2):=if_pos h2
  rw [hP]
  have hr:rdR beV bs 0 2=(0,2):=by unfold rdR;rw [if_neg (by omega),if_pos (by omega)]
  rw [hr] at HRB
  clear h hP hr
  go_enter Tryz.func34,Tryz.ntmps34
  go_wp2_with (go_at_call 76;(with_reducible refine HRB.out.mono ?_);go_must (rintro e w1 ⟨rfl,rfl⟩))
  go_ret3
  exact ⟨_,rfl,ownB.nil_ _ _,Below.refl _ _⟩
 ·have hr:rdR beV bs 0 2=((hdV bs:Int),0):=by
   unfold rdR
   rw [if_neg (by omega),if_neg (by omega)]
   rfl
  rw [hr] at HRB
  have hv:=beV_two (bs:=bs) (by omega)
  have hP:unpkP bs most=if hdBad (hdV bs) then ([],0,4) else
   if (inflP (bs.drop 2) most).2.2=0 then
    (if bs.length < 2+(inflP (bs.drop 2) most).2.1+4 then ([],0,2) else if sumV bs (inflP (bs.drop 2) most).2.1=adler (inflP (bs.drop 2) most).1 then ((inflP (bs.drop 2) most).1,2+(inflP (bs.drop 2) most).2.1+4,0) else ([],0,5))
   else ([],0,(inflP (bs.drop 2) most).2.2):=if_neg h2
  rw [hP]
  have hbd:hdBad (hdV bs) ↔ (¬ hdV bs / 256 % 16=8∨7 < hdV bs / 4096∨¬ hdV bs % 31=0∨¬ hdV bs / 32 % 2=0):=Iff.rfl
  clear hP hr
  generalize hdV bs=N at *
  have q1:(N:Int) / 256=((N / 256:Nat):Int):=by omega
  have q2:(N:Int) / 4096=((N / 4096:Nat):Int):=by omega
  have q3:(N:Int).tmod 31=((N % 31:Nat):Int):=rfl
  have q3b:(N:Int) % 31=((N % 31:Nat):Int):=by omega
  have q4:bits .and .i64 ((N / 256:Nat):Int) 15=((N / 256 % 16:Nat):Int):=by
   have:=i64_and_nat (N / 256) 15 (by omega) (by omega)
   rw [show (15:Nat)=2 ^ 4 - 1 from rfl,Nat.and_two_pow_sub_one_eq_mod] at this
   exact this
  have q5:bits .and .i64 (N:Int) 32=((N / 32 % 2 * 32:Nat):Int):=by
   have:=i64_and_nat N 32 (by omega) (by omega)
   rw [and32 N] at this
   exact this
  obtain ⟨n1,hn1⟩:∃ x,N / 256=x:=⟨_,rfl⟩
  obtain ⟨n2,hn2⟩:∃ x,N / 256 % 16=x:=⟨_,rfl⟩
  obtain ⟨n3,hn3⟩:∃ x,N / 4096=x:=⟨_,rfl⟩
  obtain ⟨n4,hn4⟩:∃ x,N % 31=x:=⟨_,rfl⟩
  obtain ⟨n5,hn5⟩:∃ x,N / 32 % 2 * 32=x:=⟨_,rfl⟩
  have hbd2:hdBad N ↔ (¬ n2=8∨7 < n3∨¬ n4=0∨¬ n5=0):=by rw [hbd];omega
  rw [hn1] at q1
  rw [hn2,hn1] at q4
  rw [hn3] at q2
  rw [hn4] at q3 q3b
  rw [hn5] at q5
  have w3:IntKind.i64.wrap (n4:Int)=(n4:Int):=wrap_i64_lt n4 (by omega)
  clear hbd hn1 hn2 hn3 hn4 hn5 h
  by_cases hbad:hdBad N
  ·rw [if_pos hbad]
   have hb:=hbd2.1 hbad
   clear hbd2 hbad
   have key:(((n2:Int) != 8)=true)∨(((n2:Int) != 8)=false∧(7:Int) < (n3:Int))∨(((n2:Int) != 8)=false∧¬ (7:Int) < (n3:Int)∧((n4:Int) != 0)=true)∨(((n2:Int) != 8)=false∧¬ (7:Int) < (n3:Int)∧((n4:Int) != 0)=false∧((n5:Int) != 0)=true):=by
    rw [bne_iff_ne,bne_iff_ne,bne_iff_ne,bne_eq_false_iff_eq,bne_eq_false_iff_eq]
    omega
   clear hb
   rcases key with k1 | ⟨k1,k2⟩ | ⟨k1,k2,k3⟩ | ⟨k1,k2,k3,k4⟩ <;>
    ·go_enter Tryz.func34,Tryz.ntmps34
     go_wp2_with (go_at_call 76;(with_reducible refine HRB.out.mono ?_);go_must (rintro e w1 ⟨rfl,rfl⟩))
     go_ret3
     exact ⟨_,rfl,ownB.nil_ _ _,Below.refl _ _⟩
  ·rw [if_neg hbad]
   obtain ⟨k1,k2,k3,k4⟩:((n2:Int) != 8)=false∧¬ (7:Int) < (n3:Int)∧((n4:Int) != 0)=false∧((n5:Int) != 0)=false:=by
    rw [bne_eq_false_iff_eq,bne_eq_false_iff_eq,bne_eq_false_iff_eq]
    have:=mt hbd2.2 hbad
    omega
   clear hbd2 hbad
   obtain ⟨b,o,rfl,-,-⟩:=HR.out.at_ (show 0 < n by omega)
   have h2n:(2:Int)≤(n:Int):=by omega
   have hrd2:RdB w B (some ⟨b,o+2,none⟩) (n - 2) (bs.drop 2):=by
    have h1:=RdB.cut HR.out (k:=2) (m:=n - 2) (by omega) (A':=some ⟨b,o+2,none⟩) (fun _=>by simp [Addr.add])
    rwa [List.take_of_length_le (by rw [List.length_drop];omega)] at h1
   have HI:=Lib.hid (inflate_all B (n - 2) (c - 2) (some ⟨b,o+2,none⟩) (bs.drop 2) most w hrd2 hB (by omega))
   have HI0:Hid (n=2→Calls Tryz.prog 55 #[.slice (some ⟨b,o,none⟩) 0 0,.int .i64 most] w fun e w'=>∃ v,e=.returned (.tuple #[v,.int .i64 ((inflP (bs.drop 2) most).2.1:Int),.int .i64 (inflP (bs.drop 2) most).2.2])∧ownB w' w.heap.size v (inflP (bs.drop 2) most).1∧Below w.heap.size w w'):=(show _→_ from fun hn2=>by
    have e:bs.drop 2=[]:=List.drop_eq_nil_of_le (by omega)
    rw [e]
    exact inflate_all B 0 0 (some ⟨b,o,none⟩) [] most w rdB_nil0 hB (by omega))
   have HIR:Hid ((inflP (bs.drop 2) most).2.2=0→(inflP (bs.drop 2) most).2.1+2≤n∧(inflP (bs.drop 2) most).1.length≤40000):=(show _→_ from fun h=>by
    have h1:=inflP_rng h
    have h3:=inflP_zero h
    rw [List.length_drop] at h1
    omega)
   have HRB2:=Lib.hid (fun (k:Int) w1 (h:RdB w1 B (some ⟨b,o,none⟩) n bs)=>readBig_any B n c (some ⟨b,o,none⟩) bs k 4 w1 h hc (by omega))
   obtain ⟨⟨xs,u,E⟩,hI⟩:∃ I,inflP (bs.drop 2) most=I:=⟨_,rfl⟩
   rw [hI] at HI HI0 HIR ⊢
   replace HIR:Hid (E=0→u+2≤n∧xs.length≤40000):=HIR
   have hcn:(2:Int)≤(c:Int):=by omega
   have hc2:2≤c:=by omega
   clear hI hrd2
   show Calls _ _ _ _ (fun e w'=>∃ v,e=.returned (.tuple #[v,.int .i64 (((if E=0 then (if bs.length < 2+u+4 then ([],0,2) else if sumV bs u=adler xs then (xs,2+u+4,0) else ([],0,5)) else ([],0,E)):List UInt8 × Nat × Int).2.1:Int),.int .i64 ((if E=0 then (if bs.length < 2+u+4 then ([],0,2) else if sumV bs u=adler xs then (xs,2+u+4,0) else ([],0,5)) else ([],0,E)):List UInt8 × Nat × Int).2.2])∧ownB w' w.heap.size v ((if E=0 then (if bs.length < 2+u+4 then ([],0,2) else if sumV bs u=adler xs then (xs,2+u+4,0) else ([],0,5)) else ([],0,E)):List UInt8 × Nat × Int).1∧Below w.heap.size w w')
   by_cases hE:E=0
   ·rw [if_pos hE]
    have dE:(E != 0)=false:=by rw [hE];rfl
    obtain ⟨hu,hxl⟩:=HIR.out hE
    have hk:(2:Int)+(u:Int)=((2+u:Nat):Int):=by omega
    obtain ⟨K,hK⟩:∃ K,2+u=K:=⟨_,rfl⟩
    rw [hK] at hk
    have hr0:∀ h:bs.length < K+4,rdR beV bs (K:Int) 4=(0,2):=fun h=>by unfold rdR;rw [if_neg (by omega),if_pos (by omega)]
    have hr1:∀ h:¬ bs.length < K+4,rdR beV bs (K:Int) 4=((sumV bs u:Int),0):=fun h=>by
     unfold rdR sumV
     rw [if_neg (by omega),if_neg (by omega),Int.toNat_natCast,hK]
     rfl
    have HRK:=Lib.hid (HRB2.out (K:Int))
    rw [hK]
    clear HRB2 HIR
    by_cases h4:bs.length < K+4
    ·rw [if_pos h4]
     rw [hr0 h4] at HRK
     clear hr0 hr1
     by_cases hcc:c=2
     ·subst hcc
      obtain rfl:n=2:=by omega
      have HI00:=Lib.hid (HI0.out rfl)
      clear HI0
      go_enter Tryz.func34,Tryz.ntmps34
      go_wp2_with (first
       | (go_at_call 76;(with_reducible refine HRB.out.mono ?_);go_must (rintro e w1 ⟨rfl,rfl⟩))
       | (go_at_call 55;(with_reducible refine HI00.out.mono ?_);go_must (rintro e w2 ⟨v2,rfl,ho2,hb2⟩;obtain ⟨A2,c2,rfl,-,-,-⟩:=ho2.form;have HB2:=Lib.hid hb2;have HRK2:=Lib.hid (HRK.out w2 (HR.out.blw (hb2.mono hB)));clear ho2 hb2))
       | (go_at_call 76;(with_reducible refine HRK2.out.mono ?_);go_must (rintro e w3 ⟨rfl,rfl⟩)))
      go_ret3
      exact ⟨_,rfl,ownB.nil_ _ _,HB2.out⟩
     ·clear HI0
      go_enter Tryz.func34,Tryz.ntmps34
      go_wp2_with (first
       | (go_at_call 76;(with_reducible refine HRB.out.mono ?_);go_must (rintro e w1 ⟨rfl,rfl⟩))
       | (go_at_call 55;(with_reducible refine HI.out.mono ?_);go_must (rintro e w2 ⟨v2,rfl,ho2,hb2⟩;obtain ⟨A2,c2,rfl,-,-,-⟩:=ho2.form;have HB2:=Lib.hid hb2;have HRK2:=Lib.hid (HRK.out w2 (HR.out.blw (hb2.mono hB)));clear ho2 hb2))
       | (go_at_call 76;(with_reducible refine HRK2.out.mono ?_);go_must (rintro e w3 ⟨rfl,rfl⟩)))
      go_ret3
      exact ⟨_,rfl,ownB.nil_ _ _,HB2.out⟩
    ·rw [if_neg h4]
     rw [hr1 h4] at HRK
     have hs:=sumV_lt (bs:=bs) (u:=u) (by omega)
     have ha:=adler_lt xs
     have hsw:IntKind.u32.wrap (sumV bs u:Int)=(sumV bs u:Int):=by show (sumV bs u:Int) % 4294967296=_;omega
     have hK4:(K:Int)+4=((K+4:Nat):Int):=by omega
     obtain ⟨K4,hK4e⟩:∃ x,K+4=x:=⟨_,rfl⟩
     rw [hK4e] at hK4 ⊢
     clear hr0 hr1
     generalize sumV bs u=s at *
     by_cases hsum:s=adler xs
     ·rw [if_pos hsum]
      have dS:((s:Int) != (adler xs:Int))=false:=by rw [hsum];exact bne_self_eq_false _
      have HAD:=Lib.hid (fun A2 c2 w2 w1 (h:RdB w1 w2 A2 xs.length xs)=>adler_any w2 xs.length c2 A2 xs w1 h (by omega))
      generalize adler xs=ad at *
      clear hsum
      go_enter Tryz.func34,Tryz.ntmps34
      go_wp2_with (first
       | (go_at_call 76;(with_reducible refine HRB.out.mono ?_);go_must (rintro e w1 ⟨rfl,rfl⟩))
       | (go_at_call 55;(with_reducible refine HI.out.mono ?_);go_must (rintro e w2 ⟨v2,rfl,ho2,hb2⟩;obtain ⟨A2,c2,rfl,-,-,-⟩:=ho2.form;have HO2:=Lib.hid ho2;have HB2:=Lib.hid hb2;have HRK2:=Lib.hid (HRK.out w2 (HR.out.blw (hb2.mono hB)));have HAD2:=Lib.hid (HAD.out A2 c2 w2.heap.size w2 (ownB.rd ho2));clear ho2 hb2))
       | (go_at_call 76;(with_reducible refine HRK2.out.mono ?_);go_must (rintro e w3 ⟨rfl,rfl⟩))
       | (go_at_call 73;(with_reducible refine HAD2.out.mono ?_);go_must (rintro e w4 ⟨rfl,rfl⟩)))
      go_ret3
      exact ⟨_,rfl,HO2.out,HB2.out⟩
     ·rw [if_neg hsum]
      have dS:((s:Int) != (adler xs:Int))=true:=by rw [bne_iff_ne];omega
      have HAD:=Lib.hid (fun A2 c2 w2 w1 (h:RdB w1 w2 A2 xs.length xs)=>adler_any w2 xs.length c2 A2 xs w1 h (by omega))
      generalize adler xs=ad at *
      clear hsum
      go_enter Tryz.func34,Tryz.ntmps34
      go_wp2_with (first
       | (go_at_call 76;(with_reducible refine HRB.out.mono ?_);go_must (rintro e w1 ⟨rfl,rfl⟩))
       | (go_at_call 55;(with_reducible refine HI.out.mono ?_);go_must (rintro e w2 ⟨v2,rfl,ho2,hb2⟩;obtain ⟨A2,c2,rfl,-,-,-⟩:=ho2.form;have HB2:=Lib.hid hb2;have HRK2:=Lib.hid (HRK.out w2 (HR.out.blw (hb2.mono hB)));have HAD2:=Lib.hid (HAD.out A2 c2 w2.heap.size w2 (ownB.rd ho2));clear ho2 hb2))
       | (go_at_call 76;(with_reducible refine HRK2.out.mono ?_);go_must (rintro e w3 ⟨rfl,rfl⟩))
       | (go_at_call 73;(with_reducible refine HAD2.out.mono ?_);go_must (rintro e w4 ⟨rfl,rfl⟩)))
      go_ret3
      exact ⟨_,rfl,ownB.nil_ _ _,HB2.out⟩
   ·rw [if_neg hE]
    have dE:(E != 0)=true:=by rw [bne_iff_ne];exact hE
    by_cases hcc:c=2
    ·subst hcc
     obtain rfl:n=2:=by omega
     have HI00:=Lib.hid (HI0.out rfl)
     clear HI0
     go_enter Tryz.func34,Tryz.ntmps34
     go_wp2_with (first
      | (go_at_call 76;(with_reducible refine HRB.out.mono ?_);go_must (rintro e w1 ⟨rfl,rfl⟩))
      | (go_at_call 55;(with_reducible refine HI00.out.mono ?_);go_must (rintro e w2 ⟨v2,rfl,ho2,hb2⟩;obtain ⟨A2,c2,rfl,-,-,-⟩:=ho2.form;have HB2:=Lib.hid hb2;clear ho2 hb2)))
     go_ret3
     exact ⟨_,rfl,ownB.nil_ _ _,HB2.out⟩
    ·clear HI0
     go_enter Tryz.func34,Tryz.ntmps34
     go_wp2_with (first
      | (go_at_call 76;(with_reducible refine HRB.out.mono ?_);go_must (rintro e w1 ⟨rfl,rfl⟩))
      | (go_at_call 55;(with_reducible refine HI.out.mono ?_);go_must (rintro e w2 ⟨v2,rfl,ho2,hb2⟩;obtain ⟨A2,c2,rfl,-,-,-⟩:=ho2.form;have HB2:=Lib.hid hb2;clear ho2 hb2)))
     go_ret3
     exact ⟨_,rfl,ownB.nil_ _ _,HB2.out⟩
end Go.Proofs.YteoolehdomjkkaaGreat

/- zlib: Whole, whatever comes. -/
namespace Go.Proofs.YteoolehdomjkkaaGreat
set_option linter.all false
open Go.RowKit
theorem unpk_rng {bs:List UInt8} {most:Int} (h:(unpkP bs most).2.2=0):(unpkP bs most).2.1≤bs.length∧(unpkP bs most).1.length≤40000∧(((unpkP bs most).1.length:Nat):Int)≤most:=by
 unfold unpkP at h ⊢
 split at h
 ·exact absurd (show (2:Int)=0 from h) (by decide)
 ·rename_i h1
  rw [if_neg h1]
  split at h
  ·exact absurd (show (4:Int)=0 from h) (by decide)
  ·rename_i h2
   rw [if_neg h2]
   split at h
   ·rename_i h3
    rw [if_pos h3]
    split at h
    ·exact absurd (show (2:Int)=0 from h) (by decide)
    ·rename_i h4
     rw [if_neg h4]
     split at h
     ·rename_i h5
      rw [if_pos h5]
      have g1:=inflP_rng h3
      have g2:=inflP_zero h3
      exact ⟨by show 2+(inflP (bs.drop 2) most).2.1+4≤_;omega,by show (inflP (bs.drop 2) most).1.length≤_;omega,by show (((inflP (bs.drop 2) most).1.length:Nat):Int)≤_;omega⟩
     ·exact absurd (show (5:Int)=0 from h) (by decide)
   ·rename_i h3
    exact absurd h h3
set_option maxRecDepth 100000 in
set_option maxHeartbeats 3200000 in
theorem whole_any (B n c:Nat) (A:Option Addr) (bs:List UInt8) (most:Int) (w:World) (h:RdB w B A n bs) (hB:B≤w.heap.size) (hc:n≤c) (hn:n≤1000000) :
  Calls Tryz.prog 36 #[.slice A n c,.int .i64 most] w fun e w'=>∃ v,e=.returned (.tuple #[v,.int .i64 (wholP bs most).2])∧ownB w' w.heap.size v (wholP bs most).1∧Below w.heap.size w w':=by
 have hl:=h.len
 have HU:=Lib.hid (unpack_any B n c A bs most w h hB hc hn)
 have hP:wholP bs most=if (unpkP bs most).2.2=0 then (if (unpkP bs most).2.1 < bs.length then ([],3) else ((unpkP bs most).1,0)) else ([],(unpkP bs most).2.2):=rfl
 have hrg:=unpk_rng (bs:=bs) (most:=most)
 rw [hP]
 clear h hP
 obtain ⟨⟨xs,u,E⟩,hI⟩:∃ I,unpkP bs most=I:=⟨_,rfl⟩
 rw [hI] at HU hrg ⊢
 clear hI
 replace hrg:E=0→u≤bs.length∧xs.length≤40000∧((xs.length:Nat):Int)≤most:=hrg
 show Calls _ _ _ _ (fun e w'=>∃ v,e=.returned (.tuple #[v,.int .i64 ((if E=0 then (if u < bs.length then ([],3) else (xs,0)) else ([],E)):List UInt8 × Int).2])∧ownB w' w.heap.size v ((if E=0 then (if u < bs.length then ([],3) else (xs,0)) else ([],E)):List UInt8 × Int).1∧Below w.heap.size w w')
 by_cases hE:E=0
 ·rw [if_pos hE]
  have dE:(E != 0)=false:=by rw [hE];rfl
  by_cases hu:u < bs.length
  ·rw [if_pos hu]
   have hui:(u:Int) < (n:Int):=by omega
   clear hrg
   go_enter Tryz.func36,Tryz.ntmps36
   go_wp2_with (go_at_call 34;(with_reducible refine HU.out.mono ?_);go_must (rintro e w2 ⟨v2,rfl,ho2,hb2⟩;obtain ⟨A2,c2,rfl,-,-,-⟩:=ho2.form;have HB2:=Lib.hid hb2;clear ho2 hb2))
   go_ret2
   exact ⟨_,rfl,ownB.nil_ _ _,HB2.out⟩
  ·rw [if_neg hu]
   have hui:¬ (u:Int) < (n:Int):=by omega
   clear hrg
   go_enter Tryz.func36,Tryz.ntmps36
   go_wp2_with (go_at_call 34;(with_reducible refine HU.out.mono ?_);go_must (rintro e w2 ⟨v2,rfl,ho2,hb2⟩;obtain ⟨A2,c2,rfl,-,-,-⟩:=ho2.form;have HO2:=Lib.hid ho2;have HB2:=Lib.hid hb2;clear ho2 hb2))
   go_ret2
   exact ⟨_,rfl,HO2.out,HB2.out⟩
 ·rw [if_neg hE]
  have dE:(E != 0)=true:=by rw [bne_iff_ne];exact hE
  go_enter Tryz.func36,Tryz.ntmps36
  go_wp2_with (go_at_call 34;(with_reducible refine HU.out.mono ?_);go_must (rintro e w2 ⟨v2,rfl,ho2,hb2⟩;obtain ⟨A2,c2,rfl,-,-,-⟩:=ho2.form;have HB2:=Lib.hid hb2;clear ho2 hb2))
  go_ret2
  exact ⟨_,rfl,ownB.nil_ _ _,HB2.out⟩
end Go.Proofs.YteoolehdomjkkaaGreat
