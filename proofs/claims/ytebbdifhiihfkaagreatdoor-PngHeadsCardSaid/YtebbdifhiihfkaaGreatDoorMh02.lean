/- XRef XPc1 XPc2 XFilt1 -/
import Derived.Test.YtebbdifhiihfkaaGreatDoorMh01
import Derived.Lib.LazyBuf
namespace Go.Proofs.YtebbdifhiihfkaaGreatDoor
set_option linter.all false
open Go.RowKit
/-- CopyBytes. -/
theorem copyB_any (B n c:Nat) (A:Option Addr) (bs:List UInt8) (w:World) (h:RdB w B A n bs) (hm:n≤140737488355328) :
  Calls Tryz.prog 8 #[.slice A n c] w fun e w'=>∃ v,e=.returned v∧ownB w' w.heap.size v bs∧Below w.heap.size w w':=by
 go_enter Tryz.func8,Tryz.ntmps8
 go_wp2_with (at_builtin;go_loud (refine wpList_appendB rfl (.tmp 3) (.tmp 4) rfl w.heap.size _ [] rfl (own_lit w [] (by simp)) w.heap.size n c A bs rfl (Rd.alloc (Rd.here h) (Nat.le_refl _) _) (by simp;omega) (by simp) ?_);intro v1 w1 hown hg hb hat)
 go_ret
 exact ⟨_,rfl,by simpa using hown,((Below.refl _ _).alloc (Nat.le_refl _) _).trans hb⟩
end Go.Proofs.YtebbdifhiihfkaaGreatDoor

/- png: letters, a clone of bytes, a beginning. -/
namespace Go.Proofs.YtebbdifhiihfkaaGreatDoor
set_option linter.all false
open Go.RowKit
/-- Is it a letter? -/
def letB (c:UInt8):Bool:=(decide (97≤c.toNat) && decide (c.toNat≤122)) || (decide (65≤c.toNat) && decide (c.toNat≤90))
set_option maxRecDepth 100000 in
theorem letter_any (c:UInt8) (w:World):Calls Tryz.prog 79 #[.int .u8 (c.toNat:Int)] w fun e w'=>e=.returned (.bool (letB c))∧w=w':=by
 unfold letB
 obtain ⟨x,hx⟩:∃ x,c.toNat=x:=⟨_,rfl⟩
 rw [hx]
 clear hx
 by_cases h1:97≤x
 ·have h1i:(97:Int)≤(x:Int):=by omega
  by_cases h2:x≤122
  ·have h2i:(x:Int)≤122:=by omega
   go_enter Tryz.func79,Tryz.ntmps79
   go_wp2_with fail
   go_ret
   exact ⟨by simp [h1,h2],rfl⟩
  ·have h2i:¬ (x:Int)≤122:=by omega
   have h3i:(65:Int)≤(x:Int):=by omega
   have h4i:¬ (x:Int)≤90:=by omega
   go_enter Tryz.func79,Tryz.ntmps79
   go_wp2_with fail
   go_ret
   exact ⟨by simp [h1,h2];omega,rfl⟩
 ·have h1i:¬ (97:Int)≤(x:Int):=by omega
  by_cases h3:65≤x
  ·have h3i:(65:Int)≤(x:Int):=by omega
   by_cases h4:x≤90
   ·have h4i:(x:Int)≤90:=by omega
    go_enter Tryz.func79,Tryz.ntmps79
    go_wp2_with fail
    go_ret
    exact ⟨by simp [h1,h3,h4],rfl⟩
   ·have h4i:¬ (x:Int)≤90:=by omega
    go_enter Tryz.func79,Tryz.ntmps79
    go_wp2_with fail
    go_ret
    exact ⟨by simp [h1,h3,h4],rfl⟩
  ·have h3i:¬ (65:Int)≤(x:Int):=by omega
   go_enter Tryz.func79,Tryz.ntmps79
   go_wp2_with fail
   go_ret
   exact ⟨by simp [h1,h3],rfl⟩
set_option maxRecDepth 100000 in
theorem clone_any (B n c:Nat) (A:Option Addr) (bs:List UInt8) (w:World) (h:RdB w B A n bs) (hB:B≤w.heap.size) (hm:n≤140737488355328) :
  Calls Tryz.prog 49 #[.slice A n c] w fun e w'=>∃ v,e=.returned v∧ownB w' w.heap.size v bs∧Below w.heap.size w w':=by
 have hl:=h.len
 cases A with
 | none =>
  have hb:bs=[]:=by
   rcases Nat.eq_zero_or_pos n with h0 | h0
   ·exact List.eq_nil_of_length_eq_zero (by omega)
   ·obtain ⟨b,o,e,-⟩:=h.2 h0
    cases e
  subst hb
  have hq:=fun w=>Go.run_eql_slice_nil (P:=Tryz.prog) w 22 5 none n c Tryz.underlying22
  go_enter Tryz.func49,Tryz.ntmps49
  go_wp2_with fail
  go_ret
  exact ⟨_,rfl,ownB.nil_ _ _,Below.refl _ _⟩
 | some a =>
  have hq:=fun w=>Go.run_eql_slice_nil (P:=Tryz.prog) w 22 5 (some a) n c Tryz.underlying22
  go_enter Tryz.func49,Tryz.ntmps49
  go_wp2_with (at_builtin;go_loud (refine wpList_appendB rfl (.tmp 5) (.tmp 6) rfl w.heap.size _ [] rfl (own_lit w [] (by simp)) w.heap.size n c (some a) bs rfl (Rd.alloc (Rd.here h) (Nat.le_refl _) _) (by simp;omega) (by simp) ?_);intro v1 w1 hown hg hb hat)
  go_ret
  exact ⟨_,rfl,by simpa using hown,((Below.refl _ _).alloc (Nat.le_refl _) _).trans hb⟩
set_option maxRecDepth 100000 in
theorem cloneS_any (B n c:Nat) (a:Addr) (bs:List UInt8) (w:World) (h:RdB w B (some a) n bs) (hB:B≤w.heap.size) (hm:n≤140737488355328) :
  Calls Tryz.prog 49 #[.slice (some a) n c] w fun e w'=>∃ v,e=.returned v∧ownB w' w.heap.size v bs∧Below w.heap.size w w'∧v.ownBlock ≠ none:=by
 have hl:=h.len
 have hq:=fun w=>Go.run_eql_slice_nil (P:=Tryz.prog) w 22 5 (some a) n c Tryz.underlying22
 go_enter Tryz.func49,Tryz.ntmps49
 go_wp2_with (at_builtin;go_loud (refine wpList_appendB rfl (.tmp 5) (.tmp 6) rfl w.heap.size _ [] rfl (own_lit w [] (by simp)) w.heap.size n c (some a) bs rfl (Rd.alloc (Rd.here h) (Nat.le_refl _) _) (by simp;omega) (by simp) ?_);intro v1 w1 hown hg hb hat;have HAT:Hid (v1.ownBlock=some w.heap.size∨v1.ownBlock=some (w.alloc (.cells #[] 5)).heap.size):=(show _∨_ from hat);clear hat)
 go_ret
 refine ⟨_,rfl,by simpa using hown,((Below.refl _ _).alloc (Nat.le_refl _) _).trans hb,fun e=>?_⟩
 have e:v1.ownBlock=none:=e
 rcases HAT.out with h1 | h1
 ·rw [e] at h1;cases h1
 ·rw [e] at h1;cases h1
set_option maxRecDepth 100000 in
theorem equal_any (B n c B' n' c':Nat) (A A':Option Addr) (xs ys:List UInt8) (w:World) (h:RdB w B A n xs) (h':RdB w B' A' n' ys) :
  Calls Tryz.prog 47 #[.slice A n c,.slice A' n' c'] w fun e w'=>e=.returned (.bool (xs == ys))∧w=w':=by
 have k1:=run_strB h (c:=c)
 have k2:=run_strB h' (c:=c')
 go_enter Tryz.func47,Tryz.ntmps47
 go_wp2_with fail
 go_ret
 exact ⟨rfl,rfl⟩
end Go.Proofs.YtebbdifhiihfkaaGreatDoor

/- png: a kind's letters; how a file begins. -/
namespace Go.Proofs.YtebbdifhiihfkaaGreatDoor
set_option linter.all false
open Go.RowKit
set_option maxRecDepth 100000 in
theorem letters_any (S:ByteArray) (w:World) (hsz:S.size≤140737488355328):Calls Tryz.prog 48 #[.string S] w fun e w'=>e=.returned (.bool (S.data.toList.all letB))∧w=w':=by
 obtain ⟨V,hV⟩:∃ V,S.data.toList.all letB=V:=⟨_,rfl⟩
 have HV:=Lib.hid hV
 rw [hV]
 clear hV
 go_enter Tryz.func48,Tryz.ntmps48
 go_wp2_with fail
 go_loopw [6] (fun vk wr=>∃ k:Nat,k≤S.size∧vk=.int .i64 (k:Int)∧Hid ((S.data.toList.take k).all letB=true)∧Hid (w=wr)) (fun vk _=>S.size - (intOf vk).toNat)
 case atStart=>exact ⟨0,Nat.zero_le _,rfl,rfl,rfl⟩
 case round =>
  obtain ⟨k,hk,rfl,HT,HW⟩:=hrel
  have hln:S.data.toList.length=S.size:=by rw [Array.length_toList];rfl
  have hk9:IntKind.i64.wrap ((k:Int)+1)=(k:Int)+1:=by rw [show (k:Int)+1=((k+1:Nat):Int) by omega];exact wrap_i64_lt _ (by omega)
  by_cases hlt:k < S.size
  ·have hlti:(k:Int) < (S.size:Int):=by omega
   have hge:S.data.toList[k]?=some S[k]:=by rw [List.getElem?_eq_getElem (by omega),Array.getElem_toList];rfl
   have htk:S.data.toList.take (k+1)=S.data.toList.take k ++ [S[k]]:=by rw [List.take_add_one,hge];rfl
   have HLE:=Lib.hid (fun w=>letter_any S[k] w)
   cases hb:letB S[k] with
   | true =>
    rw [hb] at HLE
    have HT2:Hid ((S.data.toList.take (k+1)).all letB=true):=(show _=_ by rw [htk,List.all_append,HT.out];simp [hb])
    clear hge htk hb hln
    go_wp2_with (go_at_call 79;(with_reducible refine (HLE.out _).mono ?_);go_must (rintro e w2 ⟨rfl,rfl⟩))
    go_roundw
    case rel=>exact ⟨k+1,by omega,by go_num,HT2,HW⟩
    case measure=>simp [intOf];omega
   | false =>
    rw [hb] at HLE
    have HF:Hid (S.data.toList.all letB=false):=(show _=_ by
     rw [← List.take_append_drop (k+1) S.data.toList,htk,List.all_append,List.all_append]
     simp [hb])
    clear hge htk hb hln
    go_wp2_with (go_at_call 79;(with_reducible refine (HLE.out _).mono ?_);go_must (rintro e w2 ⟨rfl,rfl⟩))
    go_ret
    obtain rfl:V=false:=HV.out.symm.trans HF.out
    exact ⟨rfl,HW.out⟩
  ·have hlti:¬ (k:Int) < (S.size:Int):=by omega
   obtain rfl:k=S.size:=by omega
   have HT2:Hid (S.data.toList.all letB=true):=(show _=_ by have:=HT.out;rwa [List.take_of_length_le (by omega)] at this)
   clear hln
   go_wp2_with fail
   go_ret
   obtain rfl:V=true:=HV.out.symm.trans HT2.out
   exact ⟨rfl,HW.out⟩
end Go.Proofs.YtebbdifhiihfkaaGreatDoor

/- filt: the nearest of three, what is wrong, a byte's guess; here and in the reference. -/
namespace Go.Proofs.YtebbdifhiihfkaaGreatDoor
set_option linter.all false
open Go.RowKit
theorem fret_int {k:IntKind} {a b:Int} (h:a=b):Ending.returned (.int k a)=.returned (.int k b):=by rw [h]
def dist (a b:Int):Int:=if a≤b then b - a else a - b
def paeth (a b c:Int):Int :=
 if dist (a+b - c) a≤dist (a+b - c) b∧dist (a+b - c) a≤dist (a+b - c) c then a else if dist (a+b - c) b≤dist (a+b - c) c then b else c
theorem paeth_one (a b c:Int):paeth a b c=a∨paeth a b c=b∨paeth a b c=c:=by unfold paeth;split <;> (try split) <;> simp
theorem away_any (a b:Int) (w:World) (h1:-1000≤a∧a≤1000) (h2:-1000≤b∧b≤1000) :
  Calls Tryz.prog 163 #[.int .i64 a,.int .i64 b] w fun e w'=>e=.returned (.int .i64 (dist a b))∧w=w':=by
 obtain ⟨h1,h3⟩:=h1
 obtain ⟨h2,h4⟩:=h2
 go_enter Tryz.func163,Tryz.ntmps163
 go_wp2
 all_goals (go_ret;exact ⟨fret_int (by unfold dist;split <;> omega),rfl⟩)
set_option maxRecDepth 100000 in
set_option maxHeartbeats 800000 in
theorem paeth_any (a b c:Int) (w:World) (h1:0≤a∧a≤255) (h2:0≤b∧b≤255) (h3:0≤c∧c≤255) :
  Calls Tryz.prog 135 #[.int .i64 a,.int .i64 b,.int .i64 c] w fun e w'=>e=.returned (.int .i64 (paeth a b c))∧w=w':=by
 obtain ⟨a1,a2⟩:=h1
 obtain ⟨b1,b2⟩:=h2
 obtain ⟨c1,c2⟩:=h3
 go_enter Tryz.func135,Tryz.ntmps135
 go_wp2_with (go_at_call 163;refine (away_any _ _ _ (by omega) (by omega)).mono ?_;rintro e w' ⟨rfl,rfl⟩)
 all_goals (go_ret;exact ⟨fret_int (by unfold paeth;split <;> (try split) <;> (first | rfl | (exfalso;omega))),rfl⟩)
def wrongV (kind bpp:Int) (n n':Nat):Int:=if kind < 0∨4 < kind∨bpp < 1∨8 < bpp then 1 else if n ≠ 0∧n ≠ n' then 4 else 0
theorem fwrong_any (kind bpp:Int) (n c n' c':Nat) (A A':Option Addr) (w:World) :
  Calls Tryz.prog 107 #[.int .i64 kind,.int .i64 bpp,.slice A n c,.slice A' n' c'] w fun e w' =>
   e=.returned (.int .i64 (wrongV kind bpp n n'))∧w=w':=by
 by_cases h1:n=0
 ·subst h1
  go_enter Tryz.func107,Tryz.ntmps107
  go_wp2
  all_goals (go_ret;exact ⟨fret_int (by unfold wrongV;split <;> (try split) <;> (first | rfl | (exfalso;omega))),rfl⟩)
 ·have d1:((n:Int) != 0)=true:=by rw [bne_iff_ne];omega
  by_cases h2:n=n'
  ·subst h2
   go_enter Tryz.func107,Tryz.ntmps107
   go_wp2
   all_goals (go_ret;exact ⟨fret_int (by unfold wrongV;split <;> (try split) <;> (first | rfl | (exfalso;omega))),rfl⟩)
  ·have d2:((n:Int) != n')=true:=by rw [bne_iff_ne];omega
   go_enter Tryz.func107,Tryz.ntmps107
   go_wp2
   all_goals (go_ret;exact ⟨fret_int (by unfold wrongV;split <;> (try split) <;> (first | rfl | (exfalso;omega))),rfl⟩)
def gAt (l:List UInt8) (i:Int):Int:=if 0≤i then ((l.getD i.toNat 0).toNat:Int) else 0
theorem gAt_neg (l:List UInt8) {i:Int} (h:i < 0):gAt l i=0:=if_neg (by omega)
theorem gAt_some (l:List UInt8) {i:Nat} {x:UInt8} (h:l[i]?=some x):gAt l i=x.toNat:=by
 unfold gAt
 rw [if_pos (by omega),Int.toNat_natCast,List.getD,h];rfl
theorem gAt_past (l:List UInt8) {i:Nat} (h:l.length≤i):gAt l i=0:=by
 unfold gAt
 rw [if_pos (by omega),Int.toNat_natCast,List.getD,List.getElem?_eq_none h];rfl
theorem gAt_rng (l:List UInt8) (i:Int):0≤gAt l i∧gAt l i≤255:=by
 unfold gAt
 split
 ·have:=(l.getD i.toNat 0).toNat_lt;omega
 ·omega
theorem byteAt_any (B n c:Nat) (A:Option Addr) (bs:List UInt8) (i:Int) (w:World) (h:RdB w B A n bs) :
  Calls Tryz.prog 134 #[.slice A n c,.int .i64 i] w fun e w'=>e=.returned (.int .i64 (gAt bs i))∧w=w':=by
 obtain rfl:=h.len
 by_cases h1:i < 0
 ·have d1:decide (i < 0)=true:=by simpa using h1
  rw [gAt_neg bs h1]
  go_enter Tryz.func134,Tryz.ntmps134
  go_wp2
  go_ret
  exact ⟨rfl,rfl⟩
 ·have d1:decide (i < 0)=false:=by simpa using h1
  obtain ⟨i,rfl⟩:=Int.eq_ofNat_of_zero_le (by omega:0≤i)
  by_cases h2:i < bs.length
  ·have d2:decide (bs.length≤i)=false:=by simp;omega
   obtain ⟨b,o,x,rfl,_,hx,cx⟩:=h.byte h2
   have x8:=x.toNat_lt
   rw [gAt_some bs hx.out]
   clear hx
   go_enter Tryz.func134,Tryz.ntmps134
   go_wp2
   go_ret
   exact ⟨rfl,rfl⟩
  ·have d2:decide (bs.length≤i)=true:=by simp;omega
   rw [gAt_past bs (by omega)]
   go_enter Tryz.func134,Tryz.ntmps134
   go_wp2
   go_ret
   exact ⟨rfl,rfl⟩
/-- What a kind makes of the three neighbours. -/
def gss (kind a b c:Int):Int:=if kind=1 then a else if kind=2 then b else if kind=3 then (a+b) / 2 else if kind=4 then paeth a b c else 0
theorem gss_rng (kind a b c:Int) (h1:0≤a∧a≤255) (h2:0≤b∧b≤255) (h3:0≤c∧c≤255):0≤gss kind a b c∧gss kind a b c≤255:=by
 unfold gss
 have:=paeth_one a b c
 split
 ·exact h1
 ·split
  ·exact h2
  ·split
   ·omega
   ·split
    ·rcases this with e | e | e <;> rw [e] <;> assumption
    ·omega
def gB (kind bpp i:Int) (prev row:List UInt8):UInt8:=UInt8.ofNat (gss kind (gAt row (i - bpp)) (gAt prev i) (gAt prev (i - bpp))).toNat
theorem gB_val (kind bpp i:Int) (prev row:List UInt8):((gB kind bpp i prev row).toNat:Int)=gss kind (gAt row (i - bpp)) (gAt prev i) (gAt prev (i - bpp)):=by
 have h:=gss_rng kind _ _ _ (gAt_rng row (i - bpp)) (gAt_rng prev i) (gAt_rng prev (i - bpp))
 unfold gB
 rw [UInt8.toNat_ofNat']
 omega
set_option maxRecDepth 100000 in
set_option maxHeartbeats 1600000 in
theorem guess_any (kind bpp i:Int) (B n c B' n' c':Nat) (A A':Option Addr) (prev row:List UInt8) (w:World) (hp:RdB w B A n prev) (hr:RdB w B' A' n' row)
  (h1:1≤bpp∧bpp≤8) (h2:0≤i∧i≤1000000) :
  Calls Tryz.prog 108 #[.int .i64 kind,.int .i64 bpp,.int .i64 i,.slice A n c,.slice A' n' c'] w fun e w'=>e=.returned (.int .u8 (gB kind bpp i prev row).toNat)∧w=w':=by
 have hg:=gss_rng kind _ _ _ (gAt_rng row (i - bpp)) (gAt_rng prev i) (gAt_rng prev (i - bpp))
 have h3:=gAt_rng row (i - bpp)
 have h4:=gAt_rng prev i
 have h5:=gAt_rng prev (i - bpp)
 have HG:=Lib.hid (gB_val kind bpp i prev row)
 have HA:=Lib.hid (fun (w:World) (hp:RdB w B A n prev)=>byteAt_any B n c A prev (i - bpp) w hp)
 obtain ⟨b1,b2⟩:=h1
 obtain ⟨i1,i2⟩:=h2
 go_enter Tryz.func108,Tryz.ntmps108
 go_wp2_with (first
  | (go_at_call 134;(with_reducible refine (byteAt_any _ _ _ _ _ _ _ hr).mono ?_);rintro e w' ⟨rfl,rfl⟩)
  | (go_at_call 134;(with_reducible refine (byteAt_any _ _ _ _ _ _ _ hp).mono ?_);rintro e w' ⟨rfl,rfl⟩)
  | (go_at_call 135;refine (paeth_any _ _ _ _ h3 h4 h5).mono ?_;rintro e w' ⟨rfl,rfl⟩))
 all_goals
  go_ret
  refine ⟨fret_int ?_,rfl⟩
  rw [HG.out]
  clear HG HA hg
  simp only [beq_iff_eq,beq_eq_false_iff_ne,ne_eq] at *
  simp [gss, *]
 rcases paeth_one (gAt row (i - bpp)) (gAt prev i) (gAt prev (i - bpp)) with e | e | e <;> rw [e] <;> omega
end Go.Proofs.YtebbdifhiihfkaaGreatDoor

