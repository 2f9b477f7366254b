/- XWl1 -/
import Derived.Test.YtdoanopeejeeiaaMk17
namespace Go.Proofs.Ytdoanopeejeeiaa
set_option linter.all false
open Go.RowKit
set_option maxRecDepth 100000 in
set_option maxHeartbeats 3200000 in
theorem sector_any (S:ByteArray) (ts J:Bs) (b o n c:Nat) (w:World) (hS:S.data.toList=ts) (ht:ts.length≤50) (hJ:J.length≤200)
  (HJ:∀ w',Below w.heap.size w w'→Calls Try.prog 57 #[.slice (some ⟨b,o,none⟩) n c,.slice none 0 0] w' fun e w''=>∃ g c',e=.returned (.slice (some ⟨g,0,none⟩) J.length c')∧RdB w'' (g+1) (some ⟨g,0,none⟩) J.length J∧Below w'.heap.size w' w'') :
  Calls Try.prog 44 #[.string S,.slice (some ⟨b,o,none⟩) n c] w fun e w'=>∃ g c',e=.returned (.slice (some ⟨g,0,none⟩) 256 c')∧w.heap.size≤g∧RdB w' (g+1) (some ⟨g,0,none⟩) 256 (fillS (ts ++ J))∧Below w.heap.size w w':=by
 obtain ⟨cap,w2,hconv,hb2,hz2,hrow2⟩:=conv_row w S
 have hSz:S.size=ts.length:=by show S.data.size=_;rw [← Array.length_toList,hS]
 rw [hSz] at hconv hrow2
 rw [hS] at hrow2
 obtain ⟨k0,hk0⟩:∃ k,ts.length=k:=⟨_,rfl⟩
 obtain ⟨j,hj⟩:∃ k,J.length=k:=⟨_,rfl⟩
 rw [hk0] at hconv hrow2 ht
 rw [hj] at HJ hJ
 obtain ⟨K,hK⟩:∃ K,k0+j=K:=⟨_,rfl⟩
 obtain ⟨Z,hZ⟩:∃ Z,256 - K=Z:=⟨_,rfl⟩
 have hFL:Hid (ts ++ J ++ List.replicate Z 0=fillS (ts ++ J)):=(show _=_ by unfold fillS;rw [List.length_append,hk0,hj,hK,hZ])
 have HB2:=Lib.hid hb2
 have hzs:=hb2.size
 have HW2:=Lib.hid hrow2
 have HJ2:=Lib.hid (HJ w2 hb2)
 have hsub:(256:Int) - (K:Int)=(Z:Int):=by omega
 have hKZ:K+Z=256:=by omega
 clear hb2 hrow2 HJ hS hSz hk0 hj
 go_enter Try.func44,Try.ntmps44
 go_wp2_with (first
  | (go_at_call 57;(with_reducible refine HJ2.out.mono ?_);go_must (rintro e w3 ⟨g3,c3,rfl,hr3,hb3⟩;have HR3:=Lib.hid hr3;have HW3:=Lib.hid (HW2.out.later hb3);have hz3:=hb3.size;have HB3:=Lib.hid (HB2.out.trans (hb3.mono hzs));clear hr3 hb3))
  | (at_builtin;(refine wpList_appendM rfl (.tmp 7) (.tmp 9) rfl w.heap.size k0 cap ts rfl HW3.out (g3+1) j c3 (some ⟨g3,0,none⟩) J rfl HR3.out (by omega) ?_;intro b4 c4 w4 hr4 hg4 ha4;simp only [hK] at hr4 ⊢;have HR4:=Lib.hid hr4;have hz4:=hg4.size;have hq4:w.heap.size≤b4:=(by omega);have HB4:Hid (Below w.heap.size w w4):=(show Below _ _ _ from Below.grown HB3.out hg4 (by omega) (fun k hk=>by injection hk with hk;omega));clear hr4 hg4 ha4))
  | (at_builtin;(refine wpList_appendZ rfl (.tmp 11) (.tmp 14) rfl b4 K c4 (ts ++ J) rfl HR4.out Z rfl (by omega) ?_;intro b5 c5 w5 hr5 hg5 ha5;simp only [hKZ] at hr5 ⊢;have HR5:=Lib.hid hr5;have hz5:=hg5.size;have hq5:w.heap.size≤b5:=(by omega);have HB5:Hid (Below w.heap.size w w5):=(show Below _ _ _ from Below.grown HB4.out hg5 (by omega) (fun k hk=>by injection hk with hk;omega));clear hr5 hg5 ha5)))
 go_ret
 exact ⟨b5,c5,rfl,hq5,by rw [← hFL.out];exact HR5.out.rd,HB5.out⟩
theorem bigW_any (x W:Nat) (Wi:Int) (hWi:Wi=(W:Int)) (h1:1≤W) (h2:W≤6) (hx:x < 256 ^ W) (w:World):Calls Try.prog 45 #[.int .i64 (x:Int),.int .i64 Wi] w fun e w'=>∃ A c,e=.returned (.slice A W c)∧RdB w' w'.heap.size A W (beB x W)∧Below w.heap.size w w':=by
 have hn:numOk (x:Int) (W:Int):=by
  refine ⟨by omega,by omega,by omega,?_⟩
  rw [Int.toNat_natCast]
  have e:(2:Int) ^ (8 * W)=((256 ^ W:Nat):Int):=by rw [show (256:Nat)=2 ^ 8 by rfl,← Nat.pow_mul];push_cast;rfl
  rw [e]
  have:(x:Int) / ((256 ^ W:Nat):Int)=((x / 256 ^ W:Nat):Int):=by rw [Int.natCast_ediv]
  rw [this,Nat.div_eq_of_lt hx]
  exact Int.le_refl _
 have hk:beR (x:Int) (W:Int)=(beB x W,0):=by
  unfold beR
  rw [if_pos hn]
  rfl
 have HB:=big_any (x:Int) (W:Int) w
 rw [hk,← hWi] at HB
 have HB:=Lib.hid HB
 clear hk hWi hn
 have hl:=beB_len x W
 generalize beB x W=bs at *
 go_enter Try.func45,Try.ntmps45
 go_wp2_with (go_at_call 58;(with_reducible refine HB.out.mono ?_);go_must (rintro e w1 ⟨v1,rfl,ho1,hb1⟩;have HO1:=Lib.hid ho1;have HB1:=Lib.hid hb1;clear ho1 hb1))
 go_ret
 obtain ⟨A1,c1,e1,hr,-,-⟩:=HO1.out.form
 rw [hl] at e1 hr
 subst e1
 exact ⟨A1,c1,rfl,Rd.here hr,HB1.out⟩
theorem nilHolds (w:World):Lib.HoldsBytes w (.slice none 0 0) []:=⟨none,0,rfl,fun _=>rfl,fun a h=>by cases h⟩
theorem cell_later {w w':World} {b o:Nat} {v:Value} (h:w.cell? ⟨b,o,none⟩=some v) (hb:Below w.heap.size w w'):w'.cell? ⟨b,o,none⟩=some v:=by
 have hl:=block_lt_of_cell h
 unfold World.cell? at h ⊢
 rw [hb.block b hl]
 exact h
theorem join3 (b n1 n2 n3 c1 c2 c3:Nat) (A1 A2 A3:Option Addr) (l1 l2 l3:Bs) (w:World) (k1:w.cell? ⟨b,0,none⟩=some (.slice A1 n1 c1)) (k2:w.cell? ⟨b,1,none⟩=some (.slice A2 n2 c2)) (k3:w.cell? ⟨b,2,none⟩=some (.slice A3 n3 c3))
  (h1:RdB w w.heap.size A1 n1 l1) (h2:RdB w w.heap.size A2 n2 l2) (h3:RdB w w.heap.size A3 n3 l3) (hl:(l1 ++ (l2 ++ l3)).length≤200) :
  ∀ w',Below w.heap.size w w'→Calls Try.prog 57 #[.slice (some ⟨b,0,none⟩) 3 3,.slice none 0 0] w' fun e w''=>∃ g c',e=.returned (.slice (some ⟨g,0,none⟩) (l1 ++ (l2 ++ l3)).length c')∧RdB w'' (g+1) (some ⟨g,0,none⟩) (l1 ++ (l2 ++ l3)).length (l1 ++ (l2 ++ l3))∧Below w'.heap.size w' w'':=by
 intro w' hb
 have hj:Lib.join [l1,l2,l3] []=l1 ++ (l2 ++ l3):=by simp [Lib.join,List.intercalate]
 have hlen:Lib.lens [l1,l2,l3]≤200:=by simp [Lib.lens] at hl ⊢;omega
 have hP:Lib.PartsAt w' ⟨b,0,none⟩ [.slice A1 n1 c1,.slice A2 n2 c2,.slice A3 n3 c3] [l1,l2,l3]:=by
  refine ⟨rfl,fun i v hv=>?_,fun i v l hv hl=>?_⟩
  ·rw [add_none,Nat.zero_add]
   match i with
   | 0=>injection hv with hv;subst hv;exact cell_later k1 hb
   | 1=>injection hv with hv;subst hv;exact cell_later k2 hb
   | 2=>injection hv with hv;subst hv;exact cell_later k3 hb
   | i+3=>simp at hv
  ·match i with
   | 0=>injection hv with hv;injection hl with hl;subst hv hl;exact holdsB (RdB.later h1 hb)
   | 1=>injection hv with hv;injection hl with hl;subst hv hl;exact holdsB (RdB.later h2 hb)
   | 2=>injection hv with hv;injection hl with hl;subst hv hl;exact holdsB (RdB.later h3 hb)
   | i+3=>simp at hv
 have:=Any.bytes_Join_many laysJ14 b 0 3 3 _ _ (.slice none 0 0) [] w' rfl (by decide) hP (Nat.le_refl _) (nilHolds w') (by decide) (by simp;omega)
 refine this.mono ?_
 rintro e w'' ⟨v,rfl,hf,hb2⟩
 rw [hj] at hf
 obtain ⟨g,c,rfl,-,-,hr⟩:=freshRd hf
 exact ⟨g,c,rfl,hr,hb2⟩
theorem join1 (b n1 c1:Nat) (A1:Option Addr) (l1:Bs) (w:World) (k1:w.cell? ⟨b,0,none⟩=some (.slice A1 n1 c1)) (h1:RdB w w.heap.size A1 n1 l1) (h0:0 < n1) (hl:l1.length≤200) :
  ∀ w',Below w.heap.size w w'→Calls Try.prog 57 #[.slice (some ⟨b,0,none⟩) 1 1,.slice none 0 0] w' fun e w''=>∃ g c',e=.returned (.slice (some ⟨g,0,none⟩) l1.length c')∧RdB w'' (g+1) (some ⟨g,0,none⟩) l1.length l1∧Below w'.heap.size w' w'':=by
 intro w' hb
 have hlen:=h1.len
 subst hlen
 have hr:=RdB.later h1 hb
 obtain ⟨g,o,rfl,-,hc⟩:=hr.2 h0
 have:=Any.bytes_Join_one laysJ14 b 0 1 ⟨g,o,none⟩ c1 l1 (.slice none 0 0) w' (cell_later k1 hb) (fun i x hx=>by
  rw [add_none]
  exact hc i (.int .u8 (x.toNat:Int)) (by simp [cb,hx])) h0 (by omega)
 refine this.mono ?_
 rintro e w'' ⟨v,rfl,hf,hb2⟩
 obtain ⟨g,c,rfl,-,-,hr⟩:=freshRd hf
 exact ⟨g,c,rfl,hr,hb2⟩
theorem rdB_al {w:World} {A:Option Addr} {n:Nat} {bs:List UInt8} (h:RdB w w.heap.size A n bs) (o:Obj):RdB (w.alloc o) (w.alloc o).heap.size A n bs:=Rd.here (Rd.alloc h (Nat.le_refl _) o)
theorem cell_new3 (w:World) (v1 v2 v3:Value) (t:TypeId):(w.alloc (.cells #[v1,v2,v3] t)).cell? ⟨w.heap.size,0,none⟩=some v1∧(w.alloc (.cells #[v1,v2,v3] t)).cell? ⟨w.heap.size,1,none⟩=some v2∧(w.alloc (.cells #[v1,v2,v3] t)).cell? ⟨w.heap.size,2,none⟩=some v3:=by
 have h:=heap_alloc_new w (.cells #[v1,v2,v3] t)
 refine ⟨?_,?_,?_⟩ <;> rw [cell_of_row _ _ _ _ _ _ h] <;> rfl
set_option maxRecDepth 100000 in
set_option maxHeartbeats 3200000 in
theorem headW_any (X Y Z:Nat) (hX:X < 256 ^ 2) (hY:Y < 256 ^ 6) (hZ:Z < 256 ^ 2) (w:World) :
  Calls Try.prog 28 #[.int .i64 (X:Int),.int .i64 (Y:Int),.int .i64 (Z:Int)] w fun e w'=>∃ g c',e=.returned (.slice (some ⟨g,0,none⟩) 256 c')∧w.heap.size≤g∧RdB w' (g+1) (some ⟨g,0,none⟩) 256 (headB X Y Z)∧Below w.heap.size w w':=by
 have HX:=Lib.hid (fun w=>bigW_any X 2 2 rfl (by decide) (by decide) hX w)
 have HY:=Lib.hid (fun w=>bigW_any Y 6 6 rfl (by decide) (by decide) hY w)
 have HZ:=Lib.hid (fun w=>bigW_any Z 2 2 rfl (by decide) (by decide) hZ w)
 have HFB:Hid (fillS ([65,81] ++ (beB X 2 ++ (beB Y 6 ++ beB Z 2)))=headB X Y Z):=(show _=_ from rfl)
 have hlX:=beB_len X 2
 have hlY:=beB_len Y 6
 have hlZ:=beB_len Z 2
 generalize headB X Y Z=R at *
 generalize beB X 2=bx at *
 generalize beB Y 6=bY at *
 generalize beB Z 2=bz at *
 have HL:Hid ((bx ++ (bY ++ bz)).length≤200):=(show _≤_ by simp only [List.length_append,hlX,hlY,hlZ];decide)
 clear hX hY hZ hlX hlY hlZ
 have hB0:=Lib.hid (Below.refl w.heap.size w)
 go_enter Try.func28,Try.ntmps28
 go_wp2_with (first
  | (go_at_call 44;(with_reducible refine (sector_any _ [65,81] (bx ++ (bY ++ bz)) w3.heap.size 0 3 3 _ rfl (by decide) HL.out (join3 w3.heap.size 2 6 2 c1 c2 c3 A1 A2 A3 bx bY bz _ (cell_new3 _ _ _ _ _).1 (cell_new3 _ _ _ _ _).2.1 (cell_new3 _ _ _ _ _).2.2 HR1A.out HR2A.out HR3A.out HL.out)).mono ?_);go_must (rintro e w5 ⟨g5,c5,rfl,hg5,hr5,hb5⟩;have HR5:=Lib.hid hr5;have HG5:=Lib.hid hg5;have HB5:=Lib.hid hb5;clear hr5 hg5 hb5))
  | (go_at_call 45;(with_reducible refine (HX.out _).mono ?_);go_must (rintro e w1 ⟨A1,c1,rfl,hr1,hb1⟩;have HR1:=Lib.hid hr1;have HB1:=Lib.hid hb1;clear hr1 hb1))
  | (go_at_call 45;(with_reducible refine (HY.out _).mono ?_);go_must (rintro e w2 ⟨A2,c2,rfl,hr2,hb2⟩;have HR2:=Lib.hid hr2;have HR12:=Lib.hid (RdB.later HR1.out hb2);have HB2:=Lib.hid (HB1.out.trans (hb2.mono HB1.out.size));clear hr2 hb2))
  | (go_at_call 45;(with_reducible refine (HZ.out _).mono ?_);go_must (rintro e w3 ⟨A3,c3,rfl,hr3,hb3⟩;have HB3:=Lib.hid (HB2.out.trans (hb3.mono HB2.out.size));have HR1A:=Lib.hid (rdB_al (RdB.later HR12.out hb3) (.cells #[.slice A1 2 c1,.slice A2 6 c2,.slice A3 2 c3] 36));have HR2A:=Lib.hid (rdB_al (RdB.later HR2.out hb3) (.cells #[.slice A1 2 c1,.slice A2 6 c2,.slice A3 2 c3] 36));have HR3A:=Lib.hid (rdB_al hr3 (.cells #[.slice A1 2 c1,.slice A2 6 c2,.slice A3 2 c3] 36));clear hr3 hb3)))
 go_ret
 have hz:=HB3.out.size
 have hz2:=HG5.out
 rw [World.size_alloc] at hz2
 exact ⟨g5,c5,rfl,by omega,by rw [← HFB.out];exact HR5.out,(HB3.out.alloc hz _).trans (HB5.out.mono (by rw [World.size_alloc];omega))⟩
set_option maxRecDepth 100000 in
set_option maxHeartbeats 3200000 in
theorem markW_any (X Y Z:Nat) (hX:X < 256 ^ 6) (hY:Y < 256 ^ 2) (hZ:Z < 256 ^ 2) (w:World) :
  Calls Try.prog 37 #[.int .i64 (X:Int),.int .i64 (Y:Int),.int .i64 (Z:Int)] w fun e w'=>∃ g c',e=.returned (.slice (some ⟨g,0,none⟩) 256 c')∧w.heap.size≤g∧RdB w' (g+1) (some ⟨g,0,none⟩) 256 (markB X Y Z)∧Below w.heap.size w w':=by
 have HX:=Lib.hid (fun w=>bigW_any X 6 6 rfl (by decide) (by decide) hX w)
 have HY:=Lib.hid (fun w=>bigW_any Y 2 2 rfl (by decide) (by decide) hY w)
 have HZ:=Lib.hid (fun w=>bigW_any Z 2 2 rfl (by decide) (by decide) hZ w)
 have HFB:Hid (fillS ([65,67] ++ (beB X 6 ++ (beB Y 2 ++ beB Z 2)))=markB X Y Z):=(show _=_ from rfl)
 have hlX:=beB_len X 6
 have hlY:=beB_len Y 2
 have hlZ:=beB_len Z 2
 generalize markB X Y Z=R at *
 generalize beB X 6=bx at *
 generalize beB Y 2=bY at *
 generalize beB Z 2=bz at *
 have HL:Hid ((bx ++ (bY ++ bz)).length≤200):=(show _≤_ by simp only [List.length_append,hlX,hlY,hlZ];decide)
 clear hX hY hZ hlX hlY hlZ
 have hB0:=Lib.hid (Below.refl w.heap.size w)
 go_enter Try.func37,Try.ntmps37
 go_wp2_with (first
  | (go_at_call 44;(with_reducible refine (sector_any _ [65,67] (bx ++ (bY ++ bz)) w3.heap.size 0 3 3 _ rfl (by decide) HL.out (join3 w3.heap.size 6 2 2 c1 c2 c3 A1 A2 A3 bx bY bz _ (cell_new3 _ _ _ _ _).1 (cell_new3 _ _ _ _ _).2.1 (cell_new3 _ _ _ _ _).2.2 HR1A.out HR2A.out HR3A.out HL.out)).mono ?_);go_must (rintro e w5 ⟨g5,c5,rfl,hg5,hr5,hb5⟩;have HR5:=Lib.hid hr5;have HG5:=Lib.hid hg5;have HB5:=Lib.hid hb5;clear hr5 hg5 hb5))
  | (go_at_call 45;(with_reducible refine (HX.out _).mono ?_);go_must (rintro e w1 ⟨A1,c1,rfl,hr1,hb1⟩;have HR1:=Lib.hid hr1;have HB1:=Lib.hid hb1;clear hr1 hb1))
  | (go_at_call 45;(with_reducible refine (HY.out _).mono ?_);go_must (rintro e w2 ⟨A2,c2,rfl,hr2,hb2⟩;have HR2:=Lib.hid hr2;have HR12:=Lib.hid (RdB.later HR1.out hb2);have HB2:=Lib.hid (HB1.out.trans (hb2.mono HB1.out.size));clear hr2 hb2))
  | (go_at_call 45;(with_reducible refine (HZ.out _).mono ?_);go_must (rintro e w3 ⟨A3,c3,rfl,hr3,hb3⟩;have HB3:=Lib.hid (HB2.out.trans (hb3.mono HB2.out.size));have HR1A:=Lib.hid (rdB_al (RdB.later HR12.out hb3) (.cells #[.slice A1 6 c1,.slice A2 2 c2,.slice A3 2 c3] 36));have HR2A:=Lib.hid (rdB_al (RdB.later HR2.out hb3) (.cells #[.slice A1 6 c1,.slice A2 2 c2,.slice A3 2 c3] 36));have HR3A:=Lib.hid (rdB_al hr3 (.cells #[.slice A1 6 c1,.slice A2 2 c2,.slice A3 2 c3] 36));clear hr3 hb3)))
 go_ret
 have hz:=HB3.out.size
 have hz2:=HG5.out
 rw [World.size_alloc] at hz2
 exact ⟨g5,c5,rfl,by omega,by rw [← HFB.out];exact HR5.out,(HB3.out.alloc hz _).trans (HB5.out.mono (by rw [World.size_alloc];omega))⟩
end Go.Proofs.Ytdoanopeejeeiaa

