/- XWli -/
import Derived.Test.YtdoanopeejeeiaaMk39
namespace Go.Proofs.Ytdoanopeejeeiaa
set_option linter.all false
open Go.RowKit Go.Maps
/-- Sectors behind a change. -/
def appl1 (home:Nat) (ls:List Bs) (x:Int × Bs):List Bs:=if 0≤x.1 - (home:Int)∧x.1 - (home:Int) < (ls.length:Int) then ls.set (x.1 - (home:Int)).toNat x.2 else ls
def appl (home:Nat) (ls:List Bs) (ps:List (Int × Bs)):List Bs:=ps.foldl (appl1 home) ls
theorem appl1_len (home:Nat) (ls:List Bs) (x:Int × Bs):(appl1 home ls x).length=ls.length:=by unfold appl1;split <;> simp
theorem appl_len (home:Nat):∀ (ps:List (Int × Bs)) (ls:List Bs),(appl home ls ps).length=ls.length
 | [],_=>rfl
 | x :: ps,ls=>by show (appl home (appl1 home ls x) ps).length=_;rw [appl_len home ps,appl1_len]
theorem appl_take {home:Nat} {ls:List Bs} {ps:List (Int × Bs)} {k:Nat} {x:Int × Bs} (h:ps[k]?=some x):appl home ls (ps.take (k+1))=appl1 home (appl home ls (ps.take k)) x:=by
 rw [List.take_add_one,h]
 unfold appl
 rw [List.foldl_append]
 rfl
theorem SecR.set {w:World} {T:Nat→Prop} {l:List SL} {ls:List Bs} (h:SecR w T l ls) (k:Nat) {B:Option Addr} {c:Nat} {b:Bs} (hr:RowAt w T B 256 b):SecR w T (l.set k (B,256,c)) (ls.set k b):=by
 refine ⟨by simp [h.1],fun i x e=>?_⟩
 by_cases hi:k=i
 ·subst hi
  have hk:k < ls.length:=by have:=(List.getElem?_eq_some_iff.1 e).1;rw [List.length_set] at this;exact this
  rw [List.getElem?_set_self hk] at e
  injection e with e
  subst e
  exact ⟨B,c,by rw [List.getElem?_set_self (by rw [h.1];exact hk)],hr⟩
 ·rw [List.getElem?_set_ne hi] at e
  obtain ⟨B',c',e1,e2⟩:=h.2 i x e
  exact ⟨B',c',by rw [List.getElem?_set_ne hi];exact e1,e2⟩
theorem SecR.t6 {w wr:World} {T:Nat→Prop} {l:List SL} {ls:List Bs} {v:Value} {l2:List SL} (h:SecR w T l ls) (ho:ownY wr w.heap.size v l2):SecR w (T6 T v) l ls :=
 ⟨h.1,fun i b e=>by
  obtain ⟨B,c,e1,q1,q2,q3⟩:=h.2 i b e
  refine ⟨B,c,e1,q1,fun hn=>?_,q3⟩
  obtain ⟨g,o,e,hg,hlt⟩:=q2 hn
  refine ⟨g,o,e,fun h=>?_,hlt⟩
  rcases h with h | h
  ·exact hg h
  ·have:=(World.ownsRow.lt ho g h).1
   omega⟩
set_option maxRecDepth 100000 in
set_option maxHeartbeats 12800000 in
theorem applied_any (T:Nat→Prop) (A A1 A2:Option Addr) (n c n1 n2 c1 c2 home:Nat) (ls:List Bs) (ats:List Int) (cs:Bs) (w:World) (h:SecL w T A n ls) (h1:RdI w w.heap.size A1 n1 ats) (h2:RdB w w.heap.size A2 n2 cs) (hn:n≤5000) (hn0:1≤n) (hn1:n1≤1000) (hh:home≤5000) (hT:∀ g,w.heap.size≤g→¬ T g) (hats:∀ x ∈ ats,-9223372036854775808≤x∧x≤9223372036854775807) :
  Calls Try.prog 15 #[.slice A n c,.int .i64 (home:Int),.agg #[.slice A1 n1 c1,.slice A2 n2 c2]] w fun e w'=>∃ A' c',e=.returned (.slice A' n c')∧SecL w' T A' n (appl home ls (putsV ats cs))∧Below w.heap.size w w':=by
 obtain ⟨w1,hw1⟩:∃ w1,w.alloc (.cells #[.slice A1 n1 c1,.slice A2 n2 c2] 38)=w1:=⟨_,rfl⟩
 have HB1:Hid (Below w.heap.size w w1):=(show Below _ _ _ by rw [← hw1];exact (Below.refl w.heap.size w).alloc (Nat.le_refl _) _)
 have HA:=Arr.new w [.slice A1 n1 c1,.slice A2 n2 c2] 38
 rw [show (List.toArray [Value.slice A1 n1 c1,Value.slice A2 n2 c2])=#[.slice A1 n1 c1,.slice A2 n2 c2] from rfl,hw1] at HA
 have c0:=HA.cell (k:=0) rfl
 have cx1:=HA.cell (k:=1) rfl
 have hl:=h.len
 have HS1:=Lib.hid (h.later HB1.out)
 have HR1:=Lib.hid (RdI.later h1 HB1.out)
 have HR2:=Lib.hid (RdB.later h2 HB1.out)
 have HT:=Lib.hid hT
 have HATS:=Lib.hid hats
 have hl1:=h1.len
 clear h h1 h2 hT HA hats
 go_enter Try.func15,Try.ntmps15
 (try simp only [hw1])
 obtain ⟨lp,hp1,hp2,hp3⟩:=HS1.out
 have HP1:=Lib.hid hp2
 have HP3:=Lib.hid hp3
 have hlp:lp.length=n:=hp2.len
 clear hp1 hp2 hp3
 go_upto_region 2 with (at_builtin;(refine wpList_appendY rfl (.tmp 12) (.tmp 13) rfl w1.heap.size (.slice (some ⟨w1.heap.size,0,none⟩) 0 0) [] rfl (show ownY (w1.alloc (.cells #[] 36)) _ _ _ from own_litY w1 [] (by decide)) _ n c A lp rfl (Rd.alloc HP1.out (Nat.le_refl _) _) (by simp;omega) (by rw [World.size_alloc];exact Nat.le_succ _) ?_;intro v8 w8 ho8 hg8 hb8 ha8;rw [List.nil_append] at ho8;have HB8:Hid (Below w1.heap.size w1 w8):=(show Below _ _ _ from ((Below.refl _ _).alloc (Nat.le_refl _) _).trans hb8);obtain ⟨A8,c8,e8,-,-,-⟩:=ho8.form;rw [hlp] at e8;subst e8;obtain ⟨-,g8,rfl,hg8a,hg8b⟩:=ho8.pos hn0;have HO8:=Lib.hid ho8;clear ho8 hg8 hb8 ha8))
 have hz8:=HB8.out.size
 have hTv:∀ g,w8.heap.size≤g→¬ T6 T (.slice (some ⟨g8,0,none⟩) n c8) g:=T6.newY HO8.out (fun g hg=>HT.out g (Nat.le_trans HB1.out.size hg)) hz8
 have HPU:=Lib.hid (puts_any (T6 T (.slice (some ⟨g8,0,none⟩) n c8)) A1 A2 n1 n2 c1 c2 ats cs w8 (RdI.later HR1.out HB8.out) (RdB.later HR2.out HB8.out) hn1 hTv)
 have k0:=cell_later c0 HB8.out
 have kx1:=cell_later cx1 HB8.out
 clear hTv c0 cx1
 go_wp2_with (go_at_call 13;(with_reducible refine HPU.out.mono ?_);go_must (rintro e w9 ⟨A9,c9,v9,rfl,hp9,hc9,hb9⟩;have HP9:=Lib.hid hp9;have HB9:=Lib.hid hb9;clear hp9 hb9))
 have HO9:=Lib.hid (HO8.out.later HB9.out)
 have HS9:=Lib.hid (((HP3.out.t6 HO8.out).later HB8.out).later HB9.out)
 have HX9:=Lib.hid (HB1.out.trans ((HB8.out.trans (HB9.out.mono hz8)).mono HB1.out.size))
 go_loopw [10] (fun vi wr=>∃ (k:Nat) (lq:List SL),k≤n1∧vi=.int .i64 (k:Int)∧Hid (ownY wr w1.heap.size (.slice (some ⟨g8,0,none⟩) n c8) lq)∧Hid (SecR wr (T6 T (.slice (some ⟨g8,0,none⟩) n c8)) lq (appl home ls ((putsV ats cs).take k)))∧Hid (Fr (fun g=>g=g8) w9 wr)) (fun vi _=>n1 - (intOf vi).toNat)
 case atStart=>exact ⟨0,lp,Nat.zero_le _,rfl,HO9,HS9,Fr.refl _ _⟩
 case round =>
  obtain ⟨k,lq,hk,rfl,HO,HS,HF⟩:=hrel
  by_cases hlt:k < n1
  ·obtain ⟨key,hkey⟩:∃ x,ats[k]?=some x:=⟨_,List.getElem?_eq_getElem (show k < ats.length by rw [hl1];exact hlt)⟩
   have hx:=putsV_get (cs:=cs) hkey
   obtain ⟨bs,hbs⟩:∃ b,fillB (cs.getD k 0)=b:=⟨_,rfl⟩
   rw [hbs] at hx
   have HFM:=Lib.hid (HF.out.mono (T':=T6 T (.slice (some ⟨g8,0,none⟩) n c8)) (fun g e=>.inr (by subst e;rfl)))
   obtain ⟨b,o,B,cc,rfl,hbl,k1,k2,hrw⟩:=(HP9.out.fr HFM.out (TT.refl _ _)).get hx
   have HRW:=Lib.hid hrw
   have HTK:=Lib.hid (appl_take (home:=home) (ls:=ls) hx)
   have hrng:=HATS.out key (List.mem_of_getElem? hkey)
   have hal:(appl home ls ((putsV ats cs).take k)).length=n:=by rw [appl_len,hl]
   have hql:lq.length=n:=by rw [HS.out.1,hal]
   clear hx hkey hbs hrw
   by_cases hin:0≤key - (home:Int)∧key - (home:Int) < (n:Int)
   ·obtain ⟨q,hq⟩:∃ q:Nat,key - (home:Int)=(q:Int):=⟨(key - (home:Int)).toNat,by omega⟩
    have hqn:q < n:=by omega
    have hqw:IntKind.i64.wrap (q:Int)=(q:Int):=wrap_i64_lt q (by omega)
    have HA1:Hid (appl1 home (appl home ls ((putsV ats cs).take k)) (key,bs)=(appl home ls ((putsV ats cs).take k)).set q bs):=(show _=_ by
     unfold appl1
     rw [hal,if_pos hin]
     show List.set _ (key - (home:Int)).toNat bs=_
     rw [hq]
     rfl)
    have m1:=ownY.frozen HO.out (by rw [hql]) q
    have m2:=ownY.cell HO.out (by rw [hql]) (k:=q) (by omega)
    go_wp2_with fail
    go_roundw
    case rel =>
     refine ⟨k+1,lq.set q (B,256,cc),by omega,by go_num,?_,(show SecR _ _ _ _ from ?_),HF.out.trans (Fr.setCell (T:=fun g=>g=g8) (p:=⟨g8,q,none⟩) (Fr.refl _ _) rfl _)⟩
     ·exact ownY.store HO.out (by rw [hql]) q (B,256,cc)
     ·rw [HTK.out,HA1.out]
      have F1:Fr (T6 T (.slice (some ⟨g8,0,none⟩) n c8)) wr (wr.setCell ⟨g8,q,none⟩ (.slice B 256 cc)):=(Fr.refl _ _).setCell (p:=⟨g8,q,none⟩) (.inr rfl) _
      exact (HS.out.fr F1 (TT.refl _ _)).set q (HRW.out.fr F1 (TT.refl _ _))
    case measure=>simp [intOf];omega
   ·have HA1:Hid (appl1 home (appl home ls ((putsV ats cs).take k)) (key,bs)=appl home ls ((putsV ats cs).take k)):=(show _=_ by
     unfold appl1
     rw [hal,if_neg hin])
    obtain ⟨D,hD⟩:∃ D,IntKind.i64.wrap (key - (home:Int))=D:=⟨_,rfl⟩
    have hDn:¬ (0≤D∧D < (n:Int)):=by
     rw [IntKind.wrap_i64] at hD
     omega
    by_cases hD0:0≤D
    ·have hD1:¬ D < (n:Int):=fun h=>hDn ⟨hD0,h⟩
     have dd:decide (D < (n:Int))=false:=decide_eq_false hD1
     go_wp2_with fail
     go_roundw
     case rel=>exact ⟨k+1,lq,by omega,by go_num,HO,(show SecR _ _ _ _ by rw [HTK.out,HA1.out];exact HS.out),HF⟩
     case measure=>simp [intOf];omega
    ·have dd:decide (0≤D)=false:=decide_eq_false hD0
     go_wp2_with fail
     go_roundw
     case rel=>exact ⟨k+1,lq,by omega,by go_num,HO,(show SecR _ _ _ _ by rw [HTK.out,HA1.out];exact HS.out),HF⟩
     case measure=>simp [intOf];omega
  ·obtain rfl:k=n1:=by omega
   have hall:(putsV ats cs).take k=putsV ats cs:=List.take_of_length_le (by rw [putsV_len,hl1];exact Nat.le_refl _)
   rw [hall] at HS
   clear hall
   go_wp2_with fail
   go_ret
   exact ⟨some ⟨g8,0,none⟩,c8,rfl,(HS.out.sub (fun g hg=>.inl hg)).at HO.out (fun g hg=>HT.out g (Nat.le_trans HB1.out.size hg)),HX9.out.trans (HF.out.below (fun g e=>by subst e;exact Nat.le_trans HB1.out.size hg8a) HX9.out.size)⟩
end Go.Proofs.Ytdoanopeejeeiaa

