/- XWl4 -/
import Derived.Test.YtdoanopeejeeiaaMk22
import Derived.Deep.RegionHeld3
namespace Go.Proofs.Ytdoanopeejeeiaa
set_option linter.all false
open Go.RowKit Go.Maps
/-- A log's block. -/
def lgC (d ring seq pos:Nat):List Value:=[.pointer (some ⟨d,0,none⟩),.int .i64 (ring:Int),.int .i64 (seq:Int),.int .i64 (pos:Int)]
theorem sectorsD_any (w:World) (lo d:Nat) (h:Hn) (s:Dk) (H:Arr w d (h.cells s)) :
  Calls Try.prog 34 #[.pointer (some ⟨d,0,none⟩)] w fun e w'=>e=.returned (.int .i64 (s.n:Int))∧w=w':=by
 have c0:=H.cell (k:=0) rfl
 clear H
 go_enter Try.func34,Try.ntmps34
 go_wp2_with fail
 go_ret
 exact ⟨rfl,rfl⟩
theorem wrongW_any (w:World) (lo d:Nat) (h:Hn) (s:Dk) (ring:Int) (H:Arr w d (h.cells s)) (hs:s.n≤4096) (b:Bool) (hb:b=decide (ring < 1∨(s.n:Int) - 4 < ring)) :
  Calls Try.prog 26 #[.pointer (some ⟨d,0,none⟩),.int .i64 ring] w fun e w'=>e=.returned (.bool b)∧w=w':=by
 have HS:=Lib.hid (sectorsD_any w lo d h s H)
 clear H
 obtain ⟨N,hN⟩:∃ N,s.n=N:=⟨_,rfl⟩
 rw [hN] at HS hs hb
 clear hN
 by_cases h1:ring < 1
 ·obtain rfl:b=true:=by rw [hb];exact decide_eq_true (.inl h1)
  clear hb
  go_enter Try.func26,Try.ntmps26
  go_wp2_with (go_at_call 34;(with_reducible refine HS.out.mono ?_);go_must (rintro e w1 ⟨rfl,rfl⟩))
  go_ret
  exact ⟨rfl,rfl⟩
 ·by_cases h2:(N:Int) - 4 < ring
  ·obtain rfl:b=true:=by rw [hb];exact decide_eq_true (.inr h2)
   clear hb
   go_enter Try.func26,Try.ntmps26
   go_wp2_with (go_at_call 34;(with_reducible refine HS.out.mono ?_);go_must (rintro e w1 ⟨rfl,rfl⟩))
   go_ret
   exact ⟨rfl,rfl⟩
  ·obtain rfl:b=false:=by rw [hb];exact decide_eq_false (by omega)
   clear hb
   have d2:decide ((N:Int) - 4 < ring)=false:=decide_eq_false h2
   go_enter Try.func26,Try.ntmps26
   go_wp2_with (go_at_call 34;(with_reducible refine HS.out.mono ?_);go_must (rintro e w1 ⟨rfl,rfl⟩))
   go_ret
   exact ⟨rfl,rfl⟩
theorem needW_any (v:Value) (n:Nat) (hn:n≤100000) (w:World):Calls Try.prog 16 #[v,.int .i64 (n:Int)] w fun e w'=>e=.returned (.int .i64 (needN n:Int))∧w=w':=by
 by_cases h0:n=0
 ·subst h0
  go_enter Try.func16,Try.ntmps16
  go_wp2_with fail
  go_ret
  exact ⟨rfl,rfl⟩
 ·obtain ⟨m,rfl⟩:∃ m,n=m+1:=⟨n - 1,by omega⟩
  have HN:Hid (((needN (m+1):Nat):Int)=(m:Int)+1+(m:Int) / 64+1):=(show _=_ by unfold needN;rw [if_neg (by omega),Nat.add_sub_cancel];omega)
  have hsub:((m+1:Nat):Int) - 1=(m:Int):=by omega
  have hd:(m:Int).tdiv 64=(m:Int) / 64:=Int.tdiv_eq_ediv_of_nonneg (by omega)
  have hpos:¬ ((m+1:Nat):Int) < 1:=by omega
  go_enter Try.func16,Try.ntmps16
  go_wp2_with fail
  go_ret
  refine ⟨?_,rfl⟩
  rw [HN.out]
  first | rfl | (congr 2;omega) | (congr 3;omega)
theorem seqW_any (w:World) (d l ring seq pos:Nat) (H:Arr w l (lgC d ring seq pos)):Calls Try.prog 12 #[.pointer (some ⟨l,0,none⟩)] w fun e w'=>e=.returned (.int .i64 (seq:Int))∧w=w':=by
 have c0:=H.cell (k:=2) rfl
 clear H
 go_enter Try.func12,Try.ntmps12
 go_wp2_with fail
 go_ret
 exact ⟨rfl,rfl⟩
theorem homeW_any (w:World) (d l ring seq pos:Nat) (H:Arr w l (lgC d ring seq pos)) (hr:ring≤5000):Calls Try.prog 10 #[.pointer (some ⟨l,0,none⟩)] w fun e w'=>e=.returned (.int .i64 ((2+ring:Nat):Int))∧w=w':=by
 have c0:=H.cell (k:=1) rfl
 clear H
 have h2:((2+ring:Nat):Int)=2+(ring:Int):=by omega
 go_enter Try.func10,Try.ntmps10
 go_wp2_with fail
 go_ret
 exact ⟨by rw [h2];rfl,rfl⟩
theorem inW_any (w:World) (d l ring seq pos i:Nat) (H:Arr w l (lgC d ring seq pos)) (hr:ring≤5000) (hr1:1≤ring) (hp:pos < ring) (hi:i≤5000):Calls Try.prog 55 #[.pointer (some ⟨l,0,none⟩),.int .i64 (i:Int)] w fun e w'=>e=.returned (.int .i64 (inN ring pos i:Int))∧w'=w.drew:=by
 have c0:=H.cell (k:=1) rfl
 have c1:=H.cell (k:=3) rfl
 clear H
 obtain ⟨R,hR⟩:∃ R,(pos+i) % ring=R:=⟨_,rfl⟩
 have hRl:R < ring:=by rw [← hR];exact Nat.mod_lt _ hr1
 have HI:Hid (((inN ring pos i:Nat):Int)=2+(R:Int)):=(show _=_ by unfold inN;rw [hR];omega)
 have hrem:((pos:Int)+(i:Int)).tmod (ring:Int)=(R:Int):=by
  rw [Int.tmod_eq_emod_of_nonneg (by omega),← hR,Int.natCast_emod,Int.natCast_add]
 have hz:((ring:Int) == 0)=false:=beq_eq_false_iff_ne.2 (by omega)
 have hz2:¬ (ring:Int)=0:=by omega
 go_enter Try.func55,Try.ntmps55
 go_upto_region 1 with fail
 go_region
 all_goals
  go_wp2_with fail
  go_ret
  refine ⟨?_,rfl⟩
  rw [HI.out]
  rfl
theorem homeP_any (w:World) (lo d l ring seq pos:Nat) (h:Hn) (s:Dk) (at_:Int) (H:Arr w l (lgC d ring seq pos)) (HD:Arr w d (h.cells s)) (hr:ring≤5000) (b:Bool) (hb:b=decide (((2+ring:Nat):Int)≤at_∧at_ < (s.n:Int))) :
  Calls Try.prog 52 #[.pointer (some ⟨l,0,none⟩),.int .i64 at_] w fun e w'=>e=.returned (.bool b)∧w=w':=by
 have HS:=Lib.hid (sectorsD_any w lo d h s HD)
 have HH:=Lib.hid (homeW_any w d l ring seq pos H hr)
 have c0:=H.cell (k:=0) rfl
 clear H HD
 obtain ⟨N,hN⟩:∃ N,s.n=N:=⟨_,rfl⟩
 obtain ⟨Q,hQ⟩:∃ Q,2+ring=Q:=⟨_,rfl⟩
 rw [hN] at HS hb
 rw [hQ] at HH hb
 clear hN hQ
 by_cases h1:(Q:Int)≤at_
 ·by_cases h2:at_ < (N:Int)
  ·obtain rfl:b=true:=by rw [hb];exact decide_eq_true ⟨h1,h2⟩
   clear hb
   go_enter Try.func52,Try.ntmps52
   go_wp2_with (first | (go_at_call 34;(with_reducible refine HS.out.mono ?_);go_must (rintro e w1 ⟨rfl,rfl⟩)) | (go_at_call 10;(with_reducible refine HH.out.mono ?_);go_must (rintro e w1 ⟨rfl,rfl⟩)))
   go_ret
   exact ⟨rfl,rfl⟩
  ·obtain rfl:b=false:=by rw [hb];exact decide_eq_false (fun e=>h2 e.2)
   clear hb
   have d2:decide (at_ < (N:Int))=false:=decide_eq_false h2
   go_enter Try.func52,Try.ntmps52
   go_wp2_with (first | (go_at_call 34;(with_reducible refine HS.out.mono ?_);go_must (rintro e w1 ⟨rfl,rfl⟩)) | (go_at_call 10;(with_reducible refine HH.out.mono ?_);go_must (rintro e w1 ⟨rfl,rfl⟩)))
   go_ret
   exact ⟨rfl,rfl⟩
 ·obtain rfl:b=false:=by rw [hb];exact decide_eq_false (fun e=>h1 e.1)
  clear hb
  go_enter Try.func52,Try.ntmps52
  go_wp2_with (first | (go_at_call 34;(with_reducible refine HS.out.mono ?_);go_must (rintro e w1 ⟨rfl,rfl⟩)) | (go_at_call 10;(with_reducible refine HH.out.mono ?_);go_must (rintro e w1 ⟨rfl,rfl⟩)))
  go_ret
  exact ⟨rfl,rfl⟩
end Go.Proofs.Ytdoanopeejeeiaa

