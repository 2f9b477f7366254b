/- XKraft XCodeP XCode1 -/
import Derived.Test.YtebbdifhiihfkaaGreatDoorMh05
import Derived.Test.YtebbdifhiihfkaaGreatDoorMh02
namespace Go.Proofs.YtebbdifhiihfkaaGreatDoor
set_option linter.all false
open Go.RowKit
def krN (ls:List Int):Nat:=(ls.map fun x=>if 0 < x then 2 ^ (15 - x.toNat) else 0).sum
def badL (ls:List Int):Bool:=ls.any fun x=>decide (x < 0) || decide (15 < x)
def krE (ls:List Int):Int:=if 300 < ls.length∨badL ls=true then 1 else 0
def krV (ls:List Int):Int:=if 300 < ls.length∨badL ls=true then 0 else krN ls
theorem krN_snoc {ls:List Int} {k:Nat} {x:Int} (h:ls[k]?=some x):krN (ls.take (k+1))=krN (ls.take k)+if 0 < x then 2 ^ (15 - x.toNat) else 0:=by
 obtain ⟨hk,rfl⟩:=List.getElem?_eq_some_iff.1 h
 rw [List.take_succ_eq_append_getElem hk]
 unfold krN
 rw [List.map_append,List.sum_append]
 simp
theorem badL_snoc {ls:List Int} {k:Nat} {x:Int} (h:ls[k]?=some x):badL (ls.take (k+1))=(badL (ls.take k) || (decide (x < 0) || decide (15 < x))):=by
 obtain ⟨hk,rfl⟩:=List.getElem?_eq_some_iff.1 h
 rw [List.take_succ_eq_append_getElem hk]
 unfold badL
 rw [List.any_append]
 simp
theorem badL_of {ls:List Int} {k:Nat} {x:Int} (h:ls[k]?=some x) (hb:x < 0∨15 < x):badL ls=true:=by
 unfold badL
 rw [List.any_eq_true]
 exact ⟨x,List.mem_of_getElem? h,by simpa using hb⟩
theorem krN_le (ls:List Int):krN ls≤ls.length * 32768:=by
 unfold krN
 induction ls with
 | nil=>simp
 | cons x r ih =>
  simp only [List.map_cons,List.sum_cons,List.length_cons]
  have:(if 0 < x then 2 ^ (15 - x.toNat) else 0)≤32768:=by
   split
   ·exact Nat.le_trans (Nat.pow_le_pow_right (by decide) (Nat.sub_le 15 _)) (by decide)
   ·omega
  omega
theorem shr15 (t:Nat) (h1:1≤t) (h2:t≤15):(32768:Int) / 2 ^ t=((2 ^ (15 - t):Nat):Int)∧2 ^ (15 - t)≤32768:=by
 have:∀ t,t≤15→(32768:Int) / 2 ^ t=((2 ^ (15 - t):Nat):Int)∧2 ^ (15 - t)≤32768:=by decide
 exact this t h2
theorem kr_wrap (q t:Nat) (hq:q≤300 * 32768) (h:2 ^ (15 - t)≤32768):wrap64 ((q:Int)+2 ^ (15 - t))=((q+2 ^ (15 - t):Nat):Int):=by
 rw [show ((2:Int) ^ (15 - t))=((2 ^ (15 - t):Nat):Int) by push_cast;rfl]
 generalize 2 ^ (15 - t)=u at *
 rw [wrap64_id _ (by omega) (by omega)]
 omega
set_option maxRecDepth 100000 in
set_option maxHeartbeats 1600000 in
theorem kraft_any (B n c:Nat) (A:Option Addr) (ls:List Int) (w:World) (h:RdI w B A n ls) (hn:n≤1099511627776) :
  Calls Tryz.prog 161 #[.slice A n c] w fun e w'=>e=.returned (.tuple #[.int .i64 (krV ls),.int .i64 (krE ls)])∧w=w':=by
 have hl:=h.len
 by_cases hgood:n≤300
 ·have H:=Lib.hid h
  have HL:=Lib.hid hl
  clear h hl
  go_enter Tryz.func161,Tryz.ntmps161
  go_wp2
  go_loop [12,4] (fun i p=>∃ k:Nat,k≤n∧i=.int .i64 k∧p=.int .i64 (krN (ls.take k):Nat)∧Hid (badL (ls.take k)=false)) (fun i _=>n - (intOf i).toNat)
  case atStart=>exact ⟨0,Nat.zero_le _,rfl,rfl,rfl⟩
  case round =>
   obtain ⟨k,hk,rfl,rfl,HB⟩:=hrel
   have pl:krN (ls.take k)≤300 * 32768:=Nat.le_trans (krN_le _) (Nat.mul_le_mul_right _ (by simp;omega))
   by_cases hlt:k < n
   ·obtain ⟨b,o,x,rfl,hb,HX,e1⟩:=H.out.one hlt
    have HP:=Lib.hid (krN_snoc HX.out)
    have HQ:=Lib.hid (badL_snoc HX.out)
    by_cases hbad:x < 0∨15 < x
    ·have HT:Hid (krV ls=0∧krE ls=1):=(show _∧_ by have:=badL_of HX.out hbad;unfold krV krE;rw [if_pos (.inr this),if_pos (.inr this)];exact ⟨rfl,rfl⟩)
     rcases hbad with hx | hx
     ·go_wp2
      go_ret2
      exact ⟨ret_tup2 (by rw [HT.out.1];rfl) (by rw [HT.out.2];rfl),rfl⟩
     ·have hx':¬ x < 0:=by omega
      go_wp2
      go_ret2
      exact ⟨ret_tup2 (by rw [HT.out.1];rfl) (by rw [HT.out.2];rfl),rfl⟩
    ·have hx1:0≤x:=by omega
     have hx2:x≤15:=by omega
     have HB2:Hid (badL (ls.take (k+1))=false):=(show _=_ by rw [HQ.out,HB.out,decide_eq_false (show ¬ x < 0 by omega),decide_eq_false (show ¬ 15 < x by omega)];rfl)
     clear hbad
     by_cases hp:0 < x
     ·obtain ⟨t,rfl⟩:=Int.eq_ofNat_of_zero_le hx1
      have HP2:Hid (krN (ls.take (k+1))=krN (ls.take k)+2 ^ (15 - t)):=(show _=_ by rw [HP.out,if_pos hp];simp)
      obtain ⟨hs,hs2⟩:=shr15 t (by omega) (by omega)
      generalize krN (ls.take k)=q at *
      have HW:=Lib.hid (kr_wrap q t (by omega) hs2)
      clear hs2
      go_wp2
      go_round
      case rel=>exact ⟨k+1,by omega,by go_num,by rw [HP2.out,HW.out],HB2⟩
      case measure=>simp [intOf];omega
     ·have HP2:Hid (krN (ls.take (k+1))=krN (ls.take k)):=(show _=_ by rw [HP.out,if_neg hp];rfl)
      generalize krN (ls.take k)=q at *
      go_wp2
      go_round
      case rel=>exact ⟨k+1,by omega,by go_num,by rw [HP2.out],HB2⟩
      case measure=>simp [intOf];omega
   ·obtain rfl:k=n:=by omega
    have HT:Hid (krV ls=krN (ls.take k)∧krE ls=0):=(show _∧_ by
     have e:ls.take k=ls:=List.take_of_length_le (by rw [HL.out];exact Nat.le_refl _)
     have hb:=HB.out
     rw [e] at hb ⊢
     have:¬ (300 < ls.length∨badL ls=true):=by
      rw [hb,HL.out]
      rintro (h | h)
      ·omega
      ·cases h
     unfold krV krE
     rw [if_neg this,if_neg this]
     exact ⟨rfl,rfl⟩)
    generalize krN (ls.take k)=q at *
    go_wp2
    go_ret2
    exact ⟨ret_tup2 (by rw [HT.out.1];rfl) (by rw [HT.out.2];rfl),rfl⟩
 ·have HT:Hid (krV ls=0∧krE ls=1):=(show _∧_ by unfold krV krE;rw [if_pos (.inl (by omega)),if_pos (.inl (by omega))];exact ⟨rfl,rfl⟩)
  clear h hl
  go_enter Tryz.func161,Tryz.ntmps161
  go_wp2
  go_ret2
  exact ⟨ret_tup2 (by rw [HT.out.1];rfl) (by rw [HT.out.2];rfl),rfl⟩
end Go.Proofs.YtebbdifhiihfkaaGreatDoor

/- huff: the first codes of lengths, plainly. -/
namespace Go.Proofs.YtebbdifhiihfkaaGreatDoor
set_option linter.all false
/-- How many lengths are n. -/
def cnt (ls:List Int) (n:Nat):Nat:=ls.count (n:Int)
def cz (ls:List Int):Nat→Nat
 | 0=>0
 | n+1=>cnt ls (n+1)
/-- The first code of a length. -/
def fst (ls:List Int):Nat→Nat
 | 0=>0
 | n+1=>2 * (fst ls n+cz ls n)
/-- How much of all codes lengths up to n take. -/
def upto (ls:List Int):Nat→Nat
 | 0=>0
 | n+1=>upto ls n+cnt ls (n+1) * 2 ^ (15 - (n+1))
theorem upto_cons (x:Int) (r:List Int) (n:Nat):upto (x :: r) n=upto r n+if 1≤x∧x≤n then 2 ^ (15 - x.toNat) else 0:=by
 induction n with
 | zero =>
  rw [if_neg (by omega)]
  rfl
 | succ n ih =>
  rw [upto,upto,ih]
  clear ih
  unfold cnt
  rw [List.count_cons]
  generalize upto r n=a
  generalize r.count ((n+1:Nat):Int)=c
  by_cases h:x=((n+1:Nat):Int)
  ·subst h
   rw [if_neg (show ¬ (1≤((n+1:Nat):Int)∧((n+1:Nat):Int)≤n) by omega),if_pos (show 1≤((n+1:Nat):Int)∧((n+1:Nat):Int)≤((n+1:Nat):Int) by omega),if_pos (by simp),Nat.add_mul,Int.toNat_natCast]
   omega
  ·have hb:(x == ((n+1:Nat):Int))=false:=beq_eq_false_iff_ne.2 h
   rw [hb,if_neg (show ¬ (false=true) by decide),Nat.add_zero]
   by_cases h1:1≤x∧x≤n
   ·rw [if_pos h1,if_pos (show 1≤x∧x≤((n+1:Nat):Int) by omega)]
    omega
   ·rw [if_neg h1,if_neg (show ¬ (1≤x∧x≤((n+1:Nat):Int)) by omega)]
    omega
theorem upto_all (ls:List Int) (h:badL ls=false):upto ls 15=krN ls:=by
 induction ls with
 | nil=>rfl
 | cons x r ih =>
  unfold badL at h ih
  rw [List.any_cons,Bool.or_eq_false_iff] at h
  simp only [Bool.or_eq_false_iff,decide_eq_false_iff_not] at h
  rw [upto_cons,ih h.2]
  unfold krN
  rw [List.map_cons,List.sum_cons]
  by_cases hx:0 < x
  ·rw [if_pos (show 1≤x∧x≤((15:Nat):Int) by omega),if_pos hx];exact Nat.add_comm _ _
  ·rw [if_neg (show ¬ (1≤x∧x≤((15:Nat):Int)) by omega),if_neg hx];exact Nat.add_comm _ _
theorem upto_mono (ls:List Int) {m n:Nat} (h:m≤n):upto ls m≤upto ls n:=by
 induction h with
 | refl=>exact Nat.le_refl _
 | step _ ih=>rw [upto];omega
set_option maxRecDepth 10000 in
theorem fst_upto (ls:List Int):∀ n,n≤14→fst ls (n+1) * 2 ^ (14 - n)=upto ls n:=by
 intro n
 induction n with
 | zero=>intro _;simp [fst,cz,upto]
 | succ n ih =>
  intro hn
  rw [upto,← ih (by omega),fst,cz]
  have e:14 - n=(14 - (n+1))+1:=by omega
  have e2:15 - (n+1)=14 - n:=by omega
  rw [e2,e,Nat.pow_succ]
  generalize 2 ^ (14 - (n+1))=u
  generalize fst ls (n+1)=f
  generalize cnt ls (n+1)=c
  rw [Nat.mul_comm u 2,← Nat.mul_assoc,← Nat.mul_assoc,← Nat.add_mul]
  congr 1
  omega
theorem fst_all (ls:List Int) (n:Nat) (hn:n≤15):(fst ls n+cz ls n) * 2 ^ (15 - n)=upto ls n:=by
 cases n with
 | zero=>simp [fst,cz,upto]
 | succ n =>
  have:=fst_upto ls n (by omega)
  rw [upto,← this,cz,Nat.add_mul,show 15 - (n+1)=14 - n by omega]
theorem fst_bound (ls:List Int) (h:badL ls=false) (hk:krN ls≤32768) (n:Nat) (hn:n≤15):(fst ls n+cz ls n) * 2 ^ (15 - n)≤32768:=by
 rw [fst_all ls n hn]
 exact Nat.le_trans (upto_mono ls hn) (by rw [upto_all ls h];exact hk)
theorem fst_pow (ls:List Int) (h:badL ls=false) (hk:krN ls≤32768) (n:Nat) (hn:n≤15):fst ls n+cz ls n≤2 ^ n:=by
 have h1:=fst_bound ls h hk n hn
 have h2:(32768:Nat)=2 ^ n * 2 ^ (15 - n):=by rw [← Nat.pow_add,show n+(15 - n)=15 by omega]
 rw [h2] at h1
 exact Nat.le_of_mul_le_mul_right h1 (Nat.two_pow_pos _)
theorem fst_small (ls:List Int) (h:badL ls=false) (hk:krN ls≤32768) (n:Nat) (hn:n≤15):fst ls n+cz ls n≤32768 :=
 Nat.le_trans (fst_pow ls h hk n hn) (Nat.pow_le_pow_right (by decide) hn)
/-- The codes of lengths: the i-th one. -/
def codeAt (ls:List Int) (i:Nat):Nat × Int:=if 0 < ls.getD i 0 then (fst ls (ls.getD i 0).toNat+cnt (ls.take i) (ls.getD i 0).toNat,ls.getD i 0) else (0,0)
def codesL (ls:List Int):List (Nat × Int):=(List.range ls.length).map (codeAt ls)
end Go.Proofs.YtebbdifhiihfkaaGreatDoor

/- huff: begins. -/
namespace Go.Proofs.YtebbdifhiihfkaaGreatDoor
set_option linter.all false
open Go.RowKit
def cU (l:List Nat):List Value:=l.map fun (x:Nat)=>Value.int .u32 (x:Int)
def cntL (ls:List Int):List Int:=(List.range 16).map fun n=>(cnt ls n:Int)
def cntZ (ls:List Int):List Int:=(cntL ls).set 0 0
def nextL (ls:List Int) (j:Nat):List Nat:=(List.range 16).map fun n=>if n < j then fst ls n else 0
theorem cntL_step {ls:List Int} {k t:Nat} (h:ls[k]?=some (t:Int)) (ht:t < 16):cntL (ls.take (k+1))=(cntL (ls.take k)).set t ((cnt (ls.take k) t:Int)+1):=by
 obtain ⟨hk,hx⟩:=List.getElem?_eq_some_iff.1 h
 rw [List.take_succ_eq_append_getElem hk,hx]
 unfold cntL cnt
 apply List.ext_getElem?
 intro j
 rw [List.getElem?_set]
 by_cases hj:j < 16
 ·rw [List.getElem?_map,List.getElem?_map,List.getElem?_range hj]
  by_cases e:t=j
  ·subst e
   rw [if_pos rfl,if_pos (by simp;omega)]
   simp [List.count_append]
  ·rw [if_neg e]
   have:¬ (t:Int)=(j:Int):=by omega
   simp [List.count_append,List.count_cons,this]
 ·rw [List.getElem?_eq_none (by simp;omega)]
  by_cases e:t=j
  ·omega
  ·rw [if_neg e,List.getElem?_eq_none (by simp;omega)]
theorem cntL_get (ls:List Int) {t:Nat} (ht:t < 16):(cI (cntL ls))[t]?=some (.int .i64 (cnt ls t:Int)):=by
 simp [cI,cntL,ht]
theorem cntZ_get (ls:List Int) {t:Nat} (ht:t < 16):(cI (cntZ ls))[t]?=some (.int .i64 (cz ls t:Int)):=by
 unfold cntZ cntL cI
 rw [List.getElem?_map,List.getElem?_set]
 cases t with
 | zero=>simp [cz]
 | succ n =>
  rw [if_neg (by omega),List.getElem?_map,List.getElem?_range ht]
  rfl
theorem nextL_get (ls:List Int) (j:Nat) {t:Nat} (ht:t < 16):(cU (nextL ls j))[t]?=some (.int .u32 ((if t < j then fst ls t else 0:Nat):Int)):=by
 simp [cU,nextL,ht]
theorem nextL_step (ls:List Int) {j:Nat} (hj:j < 16):cU (nextL ls (j+1))=(cU (nextL ls j)).set j (.int .u32 (fst ls j:Int)):=by
 unfold cU nextL
 apply List.ext_getElem?
 intro i
 rw [List.getElem?_set]
 by_cases hi:i < 16
 ·rw [List.getElem?_map,List.getElem?_map,List.getElem?_map,List.getElem?_map,List.getElem?_range hi]
  by_cases e:j=i
  ·subst e
   rw [if_pos rfl,if_pos (by simp;omega)]
   simp
  ·rw [if_neg e]
   by_cases e2:i < j
   ·simp [e2,show i < j+1 by omega]
   ·simp [e2,show ¬ i < j+1 by omega]
 ·rw [List.getElem?_eq_none (by simp;omega)]
  by_cases e:j=i
  ·omega
  ·rw [if_neg e,List.getElem?_eq_none (by simp;omega)]
theorem cI_set (l:List Int) (t:Nat) (x:Int):(cI l).set t (.int .i64 x)=cI (l.set t x):=by simp [cI,List.map_set]
theorem cnt_le (ls:List Int) (t:Nat):cnt ls t≤ls.length:=List.count_le_length
theorem Arr.new1 (w:World) (o:Obj) (cs:List Value) (t:TypeId):Arr ((w.alloc o).alloc (.cells cs.toArray t)) (w.heap.size+1) cs:=by
 have:=Arr.new (w.alloc o) cs t
 rw [World.size_alloc] at this
 exact this
theorem Arr.new2 (w:World) (o o':Obj) (cs:List Value) (t:TypeId):Arr (((w.alloc o).alloc o').alloc (.cells cs.toArray t)) (w.heap.size+1+1) cs:=by
 have:=Arr.new1 (w.alloc o) o' cs t
 rw [World.size_alloc] at this
 exact this
theorem cU_one (l:List Nat):∀ v ∈ cU l,v.oneCell'=true:=by
 intro u hu
 simp only [cU,List.mem_map] at hu
 obtain ⟨b,_,rfl⟩:=hu
 rfl
theorem Tryz.size_u16:(Tryz.prog.info? 219).map (·.size)=some 16:=by kernel_rfl
theorem Tryz.size_i16:(Tryz.prog.info? 220).map (·.size)=some 16:=by kernel_rfl
theorem good_at {ls:List Int} (h:badL ls=false) {k:Nat} {x:Int} (hx:ls[k]?=some x):0≤x∧x≤15:=by
 unfold badL at h
 rw [List.any_eq_false] at h
 have:=h x (List.mem_of_getElem? hx)
 simp only [Bool.or_eq_true,decide_eq_true_eq] at this
 omega
set_option maxRecDepth 100000 in
set_option maxHeartbeats 3200000 in
theorem begins_any (B n c:Nat) (A:Option Addr) (ls:List Int) (w:World) (h:RdI w B A n ls) (hB1:B≤w.heap.size) (hn:n≤300) (hb:badL ls=false) (hk:krN ls≤32768) :
  Calls Tryz.prog 168 #[.slice A n c] w fun e w'=>e=.returned (.tuple #[.agg (cU (nextL ls 16)).toArray,.agg (cI (cntZ ls)).toArray])∧Below w.heap.size w w':=by
 have H:=Lib.hid h
 have HL:=Lib.hid h.len
 have HBAD:=Lib.hid hb
 have HK:=Lib.hid hk
 clear h hb hk
 go_enter Tryz.func168,Tryz.ntmps168
 go_wp2
 have HA2:=Lib.hid (((Arr.new w (cU (List.replicate 16 0)) 219).alloc (.cells (cI (List.replicate 16 0)).toArray 220)).alloc (.cells (cI (List.replicate 16 0)).toArray 220))
 have HA3:=Lib.hid ((Arr.new1 w (.cells (cU (List.replicate 16 0)).toArray 219) (cI (List.replicate 16 0)) 220).alloc (.cells (cI (List.replicate 16 0)).toArray 220))
 have HA4:=Lib.hid (Arr.new2 w (.cells (cU (List.replicate 16 0)).toArray 219) (.cells (cI (List.replicate 16 0)).toArray 220) (cI (List.replicate 16 0)) 220)
 have HB0:=Lib.hid ((((Below.refl w.heap.size w).alloc (Nat.le_refl _) (.cells (cU (List.replicate 16 0)).toArray 219)).alloc (by simp) (.cells (cI (List.replicate 16 0)).toArray 220)).alloc (by simp;omega) (.cells (cI (List.replicate 16 0)).toArray 220))
 go_loopw [12] (fun i wr=>∃ k:Nat,k≤n∧i=.int .i64 k∧Hid (Arr wr w.heap.size (cU (List.replicate 16 0)))∧Hid (Arr wr (w.heap.size+1) (cI (List.replicate 16 0)))∧Hid (Arr wr (w.heap.size+1+1) (cI (cntL (ls.take k))))∧wr.heap.size=w.heap.size+1+1+1∧Hid (Below w.heap.size w wr))
  (fun i _=>n - (intOf i).toNat)
 case atStart=>exact ⟨0,Nat.zero_le _,rfl,HA2,HA3,HA4,by simp,HB0⟩
 case round =>
  clear HA2 HA3 HA4 HB0
  obtain ⟨k,hk,rfl,HA2,HA3,HA4,hsz,HB⟩:=hrel
  by_cases hlt:k < n
  ·obtain ⟨b,o,x,rfl,hb,HX,e1⟩:=(H.out.blw (HB.out.mono hB1)).one hlt
   obtain ⟨x0,x1⟩:=good_at HBAD.out HX.out
   obtain ⟨t,rfl⟩:=Int.eq_ofNat_of_zero_le x0
   have ht:t < 16:=by omega
   have c4:=HA4.out.cell (cntL_get (ls.take k) ht)
   have f4:=HA4.out.frozen t
   have hc:cnt (ls.take k) t≤300:=Nat.le_trans (cnt_le _ _) (by simp;omega)
   have HST:=Lib.hid (cntL_step HX.out ht)
   have HS:=Lib.hid (HA4.out.set t (.int .i64 ((cnt (ls.take k) t:Int)+1)))
   generalize cnt (ls.take k) t=q at *
   have HB2:=Lib.hid (HB.out.setCell (p:=⟨w.heap.size+1+1,t,none⟩) (by show w.heap.size≤w.heap.size+1+1;omega) (.int .i64 ((q:Int)+1)))
   have HA22:=Lib.hid (HA2.out.far (p:=⟨w.heap.size+1+1,t,none⟩) (by show w.heap.size+1+1 ≠ w.heap.size;omega) (.int .i64 ((q:Int)+1)))
   have HA32:=Lib.hid (HA3.out.far (p:=⟨w.heap.size+1+1,t,none⟩) (by show w.heap.size+1+1 ≠ w.heap.size+1;omega) (.int .i64 ((q:Int)+1)))
   have hx16:(t:Int) < 16:=by omega
   go_wp2
   go_roundw
   case rel=>exact ⟨k+1,by omega,by go_num,HA22,HA32,(show Arr _ _ _ by rw [HST.out,← cI_set];exact HS.out),by simp;exact hsz,HB2⟩
   case measure=>simp [intOf];omega
  ·obtain rfl:k=n:=by omega
   have HE:Hid (ls.take k=ls):=(show _=_ from List.take_of_length_le (by rw [HL.out];exact Nat.le_refl _))
   have HC:=Lib.hid (HA4.out.set 0 (.int .i64 0))
   have c4:=HA4.out.cell (cntL_get (ls.take k) (t:=0) (by omega))
   have f4:=HA4.out.frozen 0
   have HC2:=Lib.hid (show Arr ((wr.setCell ⟨w.heap.size+1+1,0,none⟩ (.int .i64 0)).alloc (.cells (cU (List.replicate 16 0)).toArray 219)) (w.heap.size+1+1) (cI (cntZ ls)) from by
    have:=HC.out.alloc (.cells (cU (List.replicate 16 0)).toArray 219)
    rw [HE.out,cI_set] at this
    exact this)
   have HN2:=Lib.hid (show Arr ((wr.setCell ⟨w.heap.size+1+1,0,none⟩ (.int .i64 0)).alloc (.cells (cU (List.replicate 16 0)).toArray 219)) (w.heap.size+1+1+1) (cU (nextL ls 1)) from by
    have:=Arr.new (wr.setCell ⟨w.heap.size+1+1,0,none⟩ (.int .i64 0)) (cU (List.replicate 16 0)) 219
    rw [show (wr.setCell ⟨w.heap.size+1+1,0,none⟩ (.int .i64 0)).heap.size=w.heap.size+1+1+1 by simp;exact hsz] at this
    have e:cU (nextL ls 1)=cU (List.replicate 16 0):=rfl
    rw [e]
    exact this)
   have HA22:=Lib.hid ((HA2.out.far (p:=⟨w.heap.size+1+1,0,none⟩) (by show w.heap.size+1+1 ≠ w.heap.size;omega) (.int .i64 0)).alloc (.cells (cU (List.replicate 16 0)).toArray 219))
   have HA32:=Lib.hid ((HA3.out.far (p:=⟨w.heap.size+1+1,0,none⟩) (by show w.heap.size+1+1 ≠ w.heap.size+1;omega) (.int .i64 0)).alloc (.cells (cU (List.replicate 16 0)).toArray 219))
   have HB2:=Lib.hid ((HB.out.setCell (p:=⟨w.heap.size+1+1,0,none⟩) (by show w.heap.size≤w.heap.size+1+1;omega) (.int .i64 0)).alloc (by simp;omega) (.cells (cU (List.replicate 16 0)).toArray 219))
   clear HA2 HA3 HA4 HB HC
   go_wp2
   go_loopw [9,8] (fun vi vc wr=>∃ q:Nat,q≤15∧vi=.int .i64 ((q:Int)+1)∧vc=.int .u32 (fst ls q:Nat)∧Hid (Arr wr w.heap.size (cU (List.replicate 16 0)))∧Hid (Arr wr (w.heap.size+1) (cI (List.replicate 16 0)))∧Hid (Arr wr (w.heap.size+1+1) (cI (cntZ ls)))∧Hid (Arr wr (w.heap.size+1+1+1) (cU (nextL ls (q+1))))∧Hid (Below w.heap.size w wr))
    (fun vi _ _=>17 - (intOf vi).toNat)
   case atStart=>exact ⟨0,by omega,rfl,rfl,HA22,HA32,HC2,HN2,HB2⟩
   case round =>
    clear HA22 HA32 HC2 HN2 HB2
    obtain ⟨q,hq,rfl,rfl,HA2,HA3,HC,HN,HB⟩:=hrel
    by_cases hlt:q < 15
    ·have c5:=HC.out.cell (cntZ_get ls (t:=q) (by omega))
     have c7:=HN.out.cell (nextL_get ls (q+1) (t:=q+1) (by omega))
     rw [if_neg (by omega)] at c7
     have f7:=HN.out.frozen (q+1)
     have hfs:=fst_small ls HBAD.out HK.out q (by omega)
     have HFS:Hid (fst ls (q+1)=2 * (fst ls q+cz ls q)):=(show _=_ from rfl)
     have HN2:=Lib.hid (show Arr (wr.setCell ⟨w.heap.size+1+1+1,q+1,none⟩ (.int .u32 (((fst ls q:Int)+(cz ls q:Int)) * 2))) (w.heap.size+1+1+1) (cU (nextL ls (q+1+1))) from by
      rw [nextL_step ls (j:=q+1) (by omega)]
      have e:((fst ls (q+1):Nat):Int)=((fst ls q:Int)+(cz ls q:Int)) * 2:=by rw [fst];omega
      rw [e]
      exact HN.out.set (q+1) _)
     generalize fst ls q=f at *
     generalize cz ls q=z at *
     have g1:((q:Int)+1).toNat=q+1:=by omega
     have HA22:=Lib.hid (fun v=>HA2.out.far (p:=⟨w.heap.size+1+1+1,q+1,none⟩) (by show w.heap.size+1+1+1 ≠ w.heap.size;omega) v)
     have HA32:=Lib.hid (fun v=>HA3.out.far (p:=⟨w.heap.size+1+1+1,q+1,none⟩) (by show w.heap.size+1+1+1 ≠ w.heap.size+1;omega) v)
     have HC2:=Lib.hid (fun v=>HC.out.far (p:=⟨w.heap.size+1+1+1,q+1,none⟩) (by show w.heap.size+1+1+1 ≠ w.heap.size+1+1;omega) v)
     have HB2:=Lib.hid (fun v=>HB.out.setCell (p:=⟨w.heap.size+1+1+1,q+1,none⟩) (by show w.heap.size≤w.heap.size+1+1+1;omega) v)
     clear HA2 HA3 HC HN HB
     go_wp2
     go_roundw
     case rel=>exact ⟨q+1,by omega,by go_num,by rw [HFS.out];first | go_num | (congr 1;omega),HA22.out _,HA32.out _,HC2.out _,HN2,HB2.out _⟩
     case measure=>simp [intOf];omega
    ·obtain rfl:q=15:=by omega
     clear hlt
     go_wp2_with fail
     refine wp_region_any (by kernel_rfl) ?_
     change wpAny _ _ _ _ _ _ _ (World.drew _)
     refine wpAny_ready (rs:=[0,1]) (by kernel_rfl) (by simp) ?_
     refine AllReady.cons rfl (fun K hK=>?_) (AllReady.cons rfl (fun K hK=>?_) AllReady.nil)
     ·refine step_load_row rfl 219 (.tmp 7) rfl (w.heap.size+1+1+1) (cU (nextL ls 16)) rfl HN.out _ Tryz.underlying219 rfl (Tryz.size_u16.trans (by simp [cU,nextL])) ?_
      go_simp
      refine hK _ _ ?_
      clear hK K
      refine wpAny_ready (rs:=[1,2]) (by kernel_rfl) (by simp) ?_
      refine AllReady.cons rfl (fun K hK=>?_) (AllReady.cons rfl (fun K hK=>?_) AllReady.nil)
      ·refine step_load_row rfl 220 (.tmp 4) rfl (w.heap.size+1+1) (cI (cntZ ls)) rfl HC.out _ Tryz.underlying220 rfl (Tryz.size_i16.trans (by simp [cI,cntZ,cntL])) ?_
       go_simp
       refine hK _ _ ?_
       clear hK K
       refine wpAny_ready (rs:=[2]) (by kernel_rfl) (by simp) ?_
       refine AllReady.cons rfl (fun K hK=>?_) AllReady.nil
       ·refine step_store_row rfl 219 (.tmp 2) (.tmp 38) rfl w.heap.size (cU (List.replicate 16 0)) (cU (nextL ls 16)) rfl rfl HA2.out (Tryz.size_u16.trans (by simp [cU,nextL])) (by simp [cU,nextL]) (cU_one _) ?_
        go_simp
        refine hK _ _ ?_
        clear hK K
        refine wpAny_ready (rs:=[3]) (by kernel_rfl) (by simp) ?_
        refine AllReady.cons rfl (fun K hK=>?_) AllReady.nil
        ·refine step_store_row rfl 220 (.tmp 3) (.tmp 39) rfl (w.heap.size+1) (cI (List.replicate 16 0)) (cI (cntZ ls)) rfl rfl (HA3.out.farRow (by omega) _) (Tryz.size_i16.trans (by simp [cI,cntZ,cntL])) (by simp [cI,cntZ,cntL]) (cI_one _) ?_
         go_simp
         refine hK _ _ ?_
         clear hK K
         refine wpAny_done (by kernel_rfl) ?_ _
         go_wp2_with fail
         exact bodyPost_ret (v:=.tuple #[.agg (cU (nextL ls 16)).toArray,.agg (cI (cntZ ls)).toArray]) (results_cell2 rfl _ _ w.heap.size (w.heap.size+1) (cU (nextL ls 16)) (cI (cntZ ls)) _ _ rfl rfl ((HA2.out.drew.row _).farRow (by omega) _) ((HA3.out.drew.farRow (by omega) _).row _) Tryz.underlying219 rfl (Tryz.size_u16.trans (by simp [cU,nextL])) Tryz.underlying220 rfl (Tryz.size_i16.trans (by simp [cI,cntZ,cntL]))) rfl ⟨rfl,below_setRow (below_setRow (bdrewN HB.out 1) (Nat.le_refl _) _) (by omega) _⟩
      ·refine step_store_row rfl 219 (.tmp 2) (.tmp 38) rfl w.heap.size (cU (List.replicate 16 0)) (cU (nextL ls 16)) rfl rfl HA2.out (Tryz.size_u16.trans (by simp [cU,nextL])) (by simp [cU,nextL]) (cU_one _) ?_
       go_simp
       refine hK _ _ ?_
       clear hK K
       refine wpAny_ready (rs:=[1]) (by kernel_rfl) (by simp) ?_
       refine AllReady.cons rfl (fun K hK=>?_) AllReady.nil
       ·refine step_load_row rfl 220 (.tmp 4) rfl (w.heap.size+1+1) (cI (cntZ ls)) rfl (HC.out.farRow (by omega) _) _ Tryz.underlying220 rfl (Tryz.size_i16.trans (by simp [cI,cntZ,cntL])) ?_
        go_simp
        refine hK _ _ ?_
        clear hK K
        refine wpAny_ready (rs:=[3]) (by kernel_rfl) (by simp) ?_
        refine AllReady.cons rfl (fun K hK=>?_) AllReady.nil
        ·refine step_store_row rfl 220 (.tmp 3) (.tmp 39) rfl (w.heap.size+1) (cI (List.replicate 16 0)) (cI (cntZ ls)) rfl rfl (HA3.out.farRow (by omega) _) (Tryz.size_i16.trans (by simp [cI,cntZ,cntL])) (by simp [cI,cntZ,cntL]) (cI_one _) ?_
         go_simp
         refine hK _ _ ?_
         clear hK K
         refine wpAny_done (by kernel_rfl) ?_ _
         go_wp2_with fail
         exact bodyPost_ret (v:=.tuple #[.agg (cU (nextL ls 16)).toArray,.agg (cI (cntZ ls)).toArray]) (results_cell2 rfl _ _ w.heap.size (w.heap.size+1) (cU (nextL ls 16)) (cI (cntZ ls)) _ _ rfl rfl ((HA2.out.drew.row _).farRow (by omega) _) ((HA3.out.drew.farRow (by omega) _).row _) Tryz.underlying219 rfl (Tryz.size_u16.trans (by simp [cU,nextL])) Tryz.underlying220 rfl (Tryz.size_i16.trans (by simp [cI,cntZ,cntL]))) rfl ⟨rfl,below_setRow (below_setRow (bdrewN HB.out 1) (Nat.le_refl _) _) (by omega) _⟩
     ·refine step_load_row rfl 220 (.tmp 4) rfl (w.heap.size+1+1) (cI (cntZ ls)) rfl HC.out _ Tryz.underlying220 rfl (Tryz.size_i16.trans (by simp [cI,cntZ,cntL])) ?_
      go_simp
      refine hK _ _ ?_
      clear hK K
      refine wpAny_ready (rs:=[0]) (by kernel_rfl) (by simp) ?_
      refine AllReady.cons rfl (fun K hK=>?_) AllReady.nil
      ·refine step_load_row rfl 219 (.tmp 7) rfl (w.heap.size+1+1+1) (cU (nextL ls 16)) rfl HN.out _ Tryz.underlying219 rfl (Tryz.size_u16.trans (by simp [cU,nextL])) ?_
       go_simp
       refine hK _ _ ?_
       clear hK K
       refine wpAny_ready (rs:=[2]) (by kernel_rfl) (by simp) ?_
       refine AllReady.cons rfl (fun K hK=>?_) AllReady.nil
       ·refine step_store_row rfl 219 (.tmp 2) (.tmp 38) rfl w.heap.size (cU (List.replicate 16 0)) (cU (nextL ls 16)) rfl rfl HA2.out (Tryz.size_u16.trans (by simp [cU,nextL])) (by simp [cU,nextL]) (cU_one _) ?_
        go_simp
        refine hK _ _ ?_
        clear hK K
        refine wpAny_ready (rs:=[3]) (by kernel_rfl) (by simp) ?_
        refine AllReady.cons rfl (fun K hK=>?_) AllReady.nil
        ·refine step_store_row rfl 220 (.tmp 3) (.tmp 39) rfl (w.heap.size+1) (cI (List.replicate 16 0)) (cI (cntZ ls)) rfl rfl (HA3.out.farRow (by omega) _) (Tryz.size_i16.trans (by simp [cI,cntZ,cntL])) (by simp [cI,cntZ,cntL]) (cI_one _) ?_
         go_simp
         refine hK _ _ ?_
         clear hK K
         refine wpAny_done (by kernel_rfl) ?_ _
         go_wp2_with fail
         exact bodyPost_ret (v:=.tuple #[.agg (cU (nextL ls 16)).toArray,.agg (cI (cntZ ls)).toArray]) (results_cell2 rfl _ _ w.heap.size (w.heap.size+1) (cU (nextL ls 16)) (cI (cntZ ls)) _ _ rfl rfl ((HA2.out.drew.row _).farRow (by omega) _) ((HA3.out.drew.farRow (by omega) _).row _) Tryz.underlying219 rfl (Tryz.size_u16.trans (by simp [cU,nextL])) Tryz.underlying220 rfl (Tryz.size_i16.trans (by simp [cI,cntZ,cntL]))) rfl ⟨rfl,below_setRow (below_setRow (bdrewN HB.out 1) (Nat.le_refl _) _) (by omega) _⟩
end Go.Proofs.YtebbdifhiihfkaaGreatDoor

