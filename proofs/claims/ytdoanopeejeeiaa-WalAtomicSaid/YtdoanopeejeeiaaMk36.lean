/- XWlf -/
import Derived.Test.YtdoanopeejeeiaaMk34
import Derived.Test.YtdoanopeejeeiaaMk35
namespace Go.Proofs.Ytdoanopeejeeiaa
set_option linter.all false
open Go.RowKit Go.Maps
/-- What rows of sectors hold. -/
def SecR (w:World) (T:Nat→Prop) (l:List SL) (ls:List Bs):Prop :=
 l.length=ls.length∧∀ (i:Nat) (b:Bs),ls[i]?=some b→∃ (B:Option Addr) (c:Nat),l[i]?=some ((B,256,c):SL)∧RowAt w T B 256 b
theorem SecR.fr {w w':World} {T T':Nat→Prop} {l:List SL} {ls:List Bs} (h:SecR w T l ls) (k:Fr T w w') (hT:TT w T T'):SecR w' T' l ls :=
 ⟨h.1,fun i b e=>by
  obtain ⟨B,c,e1,e2⟩:=h.2 i b e
  exact ⟨B,c,e1,e2.fr k hT⟩⟩
theorem SecR.later {w w':World} {T:Nat→Prop} {l:List SL} {ls:List Bs} (h:SecR w T l ls) (hb:Below w.heap.size w w'):SecR w' T l ls:=h.fr (Fr.of _ hb) (TT.refl _ _)
theorem SecR.sub {w:World} {T S:Nat→Prop} {l:List SL} {ls:List Bs} (h:SecR w S l ls) (hT:∀ g,T g→S g):SecR w T l ls :=
 ⟨h.1,fun i b e=>by
  obtain ⟨B,c,e1,e2⟩:=h.2 i b e
  exact ⟨B,c,e1,e2.sub hT⟩⟩
theorem SecR.nil (w:World) (T:Nat→Prop):SecR w T [] []:=⟨rfl,fun i b e=>by simp at e⟩
theorem SecR.snoc {w:World} {T:Nat→Prop} {l:List SL} {ls:List Bs} (h:SecR w T l ls) {B:Option Addr} {c:Nat} {b:Bs} (hr:RowAt w T B 256 b):SecR w T (l ++ [(B,256,c)]) (ls ++ [b]):=by
 refine ⟨by simp [h.1],fun i x e=>?_⟩
 rcases Nat.lt_trichotomy i ls.length with hi | hi | hi
 ·rw [List.getElem?_append_left hi] at e
  obtain ⟨B',c',e1,e2⟩:=h.2 i x e
  exact ⟨B',c',by rw [List.getElem?_append_left (by rw [h.1];exact hi)];exact e1,e2⟩
 ·subst hi
  rw [List.getElem?_append_right (Nat.le_refl _),Nat.sub_self] at e
  injection e with e
  subst e
  exact ⟨B,c,by rw [← h.1,List.getElem?_append_right (Nat.le_refl _),Nat.sub_self];rfl,hr⟩
 ·rw [List.getElem?_eq_none (by simp;omega)] at e
  cases e
/-- Sectors that lie in a row, where some blocks are not. -/
def SecL (w:World) (T:Nat→Prop) (A:Option Addr) (n:Nat) (ls:List Bs):Prop :=
 ∃ l:List SL,(0 < n→∃ g o,A=some ⟨g,o,none⟩∧¬ T g∧g < w.heap.size)∧RdY w w.heap.size A n l∧SecR w T l ls
theorem SecL.len {w:World} {T:Nat→Prop} {A:Option Addr} {n:Nat} {ls:List Bs} (h:SecL w T A n ls):ls.length=n:=by
 obtain ⟨l,-,h2,h3⟩:=h
 rw [← h3.1,h2.len]
theorem SecL.fr {w w':World} {T T':Nat→Prop} {A:Option Addr} {n:Nat} {ls:List Bs} (h:SecL w T A n ls) (k:Fr T w w') (hT:TT w T T'):SecL w' T' A n ls:=by
 obtain ⟨l,h1,h2,h3⟩:=h
 refine ⟨l,fun hn=>?_,?_,h3.fr k hT⟩
 ·obtain ⟨g,o,rfl,hg,hlt⟩:=h1 hn
  exact ⟨g,o,rfl,hT.not hg hlt,Nat.lt_of_lt_of_le hlt k.size⟩
 ·refine ⟨h2.1,fun hn=>?_⟩
  obtain ⟨g,o,e0,hg,hlt⟩:=h1 (by have:=h2.1;omega)
  obtain ⟨b,o2,e,hb,hc⟩:=h2.2 hn
  rw [e0] at e
  injection e with e
  injection e with e1 e2
  subst e1 e2
  exact ⟨g,o,e0,Nat.lt_of_lt_of_le hlt k.size,fun j u hu=>by
   rw [World.cell?_of_block (w:=w) (w':=w') (a:=⟨g,o+j,none⟩) (k.block g hlt hg)]
   exact hc j u hu⟩
theorem SecL.later {w w':World} {T:Nat→Prop} {A:Option Addr} {n:Nat} {ls:List Bs} (h:SecL w T A n ls) (hb:Below w.heap.size w w'):SecL w' T A n ls:=h.fr (Fr.of _ hb) (TT.refl _ _)
theorem SecL.sub {w:World} {T S:Nat→Prop} {A:Option Addr} {n:Nat} {ls:List Bs} (h:SecL w S A n ls) (hT:∀ g,T g→S g):SecL w T A n ls:=by
 obtain ⟨l,h1,h2,h3⟩:=h
 exact ⟨l,fun hn=>by obtain ⟨g,o,e,hg,hlt⟩:=h1 hn;exact ⟨g,o,e,fun h=>hg (hT _ h),hlt⟩,h2,h3.sub hT⟩
theorem SecL.get {w:World} {T:Nat→Prop} {A:Option Addr} {n:Nat} {ls:List Bs} (h:SecL w T A n ls) {k:Nat} {b:Bs} (e:ls[k]?=some b) :
  ∃ g o B c,A=some ⟨g,o,none⟩∧g < w.heap.size∧w.cell? ⟨g,o+k,none⟩=some (.slice B 256 c)∧RowAt w T B 256 b:=by
 have hn:=h.len
 obtain ⟨l,h1,h2,h3⟩:=h
 have hk:k < n:=by have:=(List.getElem?_eq_some_iff.1 e).1;omega
 obtain ⟨B,c,e1,e2⟩:=h3.2 k b e
 obtain ⟨g,o,x,hA,hb,hx,c1⟩:=h2.one hk
 have hx2:=hx.out
 rw [e1] at hx2
 injection hx2 with hx2
 subst hx2
 exact ⟨g,o,B,c,hA,hb,c1,e2⟩
theorem SecR.at {w:World} {T:Nat→Prop} {base n c:Nat} {A:Option Addr} {l:List SL} {ls:List Bs} (h:SecR w T l ls) (ho:ownY w base (.slice A n c) l) (hT:∀ g,base≤g→¬ T g):SecL w T A n ls:=by
 refine ⟨l,fun hn=>?_,ho.rd,h⟩
 obtain ⟨-,g,rfl,hg,hlt⟩:=ho.pos hn
 exact ⟨g,0,rfl,hT g hg,hlt⟩
theorem T6.newY {w:World} {T:Nat→Prop} {v:Value} {base:Nat} {l:List SL} (ho:ownY w base v l) (hT:∀ g,base≤g→¬ T g) (hb:base≤w.heap.size):∀ g,w.heap.size≤g→¬ T6 T v g:=fun g hg h=>by
 rcases h with h | h
 ·exact hT g (by omega) h
 ·have:=(World.ownsRow.lt ho g h).2
  omega
/-- The home sectors. -/
def homeL (f:SF) (N home:Nat):List Bs:=(List.range (N - home)).map fun i=>f (home+i)
theorem homeL_len (f:SF) (N home:Nat):(homeL f N home).length=N - home:=by simp [homeL]
theorem homeL_get (f:SF) {N home k:Nat} (h:home+k < N):(homeL f N home)[k]?=some (f (home+k)):=by
 unfold homeL
 rw [List.getElem?_map,List.getElem?_range (by omega)]
 rfl
theorem homeL_take (f:SF) {N home k:Nat} (h:home+k < N):(homeL f N home).take (k+1)=(homeL f N home).take k ++ [f (home+k)]:=by
 rw [List.take_add_one,homeL_get f h]
 rfl
set_option maxRecDepth 100000 in
set_option maxHeartbeats 6400000 in
theorem sectorsW_any (lo d home:Nat) (h:Hn) (s:Dk) (f:SF) (T:Nat→Prop) (w:World) (H:DkOk w lo d h s) (hat:At s f) (hT:∀ g,w.heap.size≤g→¬ T g) (hmk:s.mask.length≤1000000) (hh:home≤s.n) :
  Calls Try.prog 11 #[.pointer (some ⟨d,0,none⟩),.int .i64 (home:Int)] w fun e w'=>∃ A n c,e=.returned (.slice A n c)∧SecL w' T A n (homeL f s.n home)∧n≤c∧c≤maxLen∧Below w.heap.size w w':=by
 have hN:=H.size
 have HC:=Lib.hid (copyM_any lo d h s w H hmk (by rw [hat.pend];exact Nat.zero_le _))
 have HAT:=Lib.hid hat
 have HT:=Lib.hid hT
 clear H hat hT hmk
 go_enter Try.func11,Try.ntmps11
 go_upto_region 6 with (first
  | (go_at_call 33;(with_reducible refine HC.out.mono ?_);go_must (rintro e w1 ⟨h1,rfl,H1,U1,hb1⟩;have HH1:=Lib.hid H1;have HU1:=Lib.hid U1;have HB1:=Lib.hid hb1;have HRE:=Lib.hid (rebootD_any _ _ h1 s w1 H1);clear H1 U1 hb1))
  | (go_at_call 21;(with_reducible refine HRE.out.mono ?_);go_must (rintro e w2 ⟨⟨v2,rfl⟩,H2,F2⟩;have HH2:=Lib.hid H2;have HB2:Hid (Below w.heap.size w w2):=(show Below _ _ _ from HB1.out.trans (F2.bel HH1.out));clear H2 F2)))
 obtain ⟨D,hD⟩:∃ D,w.heap.size=D:=⟨_,rfl⟩
 rw [hD] at HH2 HH1
 have HAT2:Hid (At { s with down:=false } f):=(show At _ _ from ⟨HAT.out.pend,HAT.out.now,HAT.out.dur⟩)
 have HRD:=Lib.hid (fun (w':World) (hb:Below w2.heap.size w2 w') (k:Nat) (hk:k < s.n)=>secR_any D D h1 { s with down:=false } f k w' (HH2.out.later hb) HAT2.out rfl hk)
 have HSC:=Lib.hid (fun (w':World) (hb:Below w2.heap.size w2 w')=>sectorsD_any w' D D h1 { s with down:=false } (HH2.out.later hb).arr)
 have hz2:=HB2.out.size
 have HTW:Hid (∀ g,w2.heap.size≤g→¬ T g):=(show ∀ g,_ from fun g hg=>HT.out g (by omega))
 obtain ⟨N,hNe⟩:∃ N,s.n=N:=⟨_,rfl⟩
 have HSC2:Hid (∀ w',Below w2.heap.size w2 w'→Calls Try.prog 34 #[.pointer (some ⟨D,0,none⟩)] w' fun e w''=>e=.returned (.int .i64 (N:Int))∧w'=w''):=(show ∀ w',_ from by have:=HSC.out;rw [show ({ s with down:=false }:Dk).n=N from hNe] at this;exact this)
 rw [hNe] at hh hN
 have hND:=Lib.hid hNe
 simp only [hD]
 have HDE:=Lib.hid hD
 clear hD HSC HC HRE HH1 hNe
 go_wp2_with fail
 go_loopw [6,7] (fun v6 vi wr=>∃ (k i:Nat) (lp:List SL) (A6:Option Addr) (c6:Nat),home+k≤N∧Hid (i=home+k)∧vi=.int .i64 (i:Int)∧v6=.slice A6 k c6∧Hid (ownY wr w2.heap.size (.slice A6 k c6) lp)∧Hid (SecR wr (T6 T (.slice A6 k c6)) lp ((homeL f N home).take k))∧Hid (Below w2.heap.size w2 wr)) (fun _ vi _=>N - (intOf vi).toNat)
 case atStart=>exact ⟨0,home,[],none,0,hh,rfl,rfl,rfl,ownY.nil_ _ _,SecR.nil _ _,Below.refl _ _⟩
 case round =>
  obtain ⟨k,i,lp,A6,c6,hk,Hi,rfl,rfl,HO,HPL,HBW⟩:=hrel
  have hsz:=HBW.out.size
  have hi1:i≤5000:=by have:=Hi.out;omega
  have hil:lp.length=k:=by obtain ⟨_,_,e,-⟩:=HO.out.form;injection e with _ e _;exact e.symm
  have HSR:=Lib.hid (HSC2.out wr HBW.out)
  by_cases hlt:i < N
  ·have HR1:=Lib.hid (HRD.out wr HBW.out i (by rw [hND.out];exact hlt))
   have HTK:=Lib.hid (homeL_take f (N:=N) (home:=home) (k:=k) (by have:=Hi.out;omega))
   rw [← Hi.out] at HTK
   obtain ⟨b,hb⟩:∃ b,f i=b:=⟨_,rfl⟩
   rw [hb] at HTK HR1
   clear hb
   go_wp2_with (first
    | (go_at_call 34;(with_reducible refine HSR.out.mono ?_);go_must (rintro e w4 ⟨rfl,rfl⟩))
    | (go_at_call 29;(with_reducible refine HR1.out.mono ?_);go_must (rintro e w5 ⟨A5,c5,rfl,hc5,-,ho5,hb5⟩;have HROW:=Lib.hid (RowAt.own2 ho5 (fun z hz=>T6.newY HO.out HTW.out hsz z hz));have HO5:=Lib.hid (HO.out.later hb5);have HPL5:=Lib.hid (HPL.out.later hb5);have HX5:=Lib.hid (HBW.out.trans (hb5.mono hsz));have hs5:=HX5.out.size;clear ho5 hb5))
    | (at_builtin;(refine wpList_appendY rfl (.tmp 29) (.tmp 31) rfl w2.heap.size (.slice A6 k c6) lp rfl (HO5.out.alloc _) (w5.heap.size+1) 1 1 (some ⟨w5.heap.size,0,none⟩) [(A5,256,c5)] rfl (rd_oneY w5 (A5,256,c5)) (by omega) (by rw [World.size_alloc];omega) ?_;intro v8 w8 ho8 hg8 hb8 ha8;have HO8:=Lib.hid ho8;have HG8:=Lib.hid (T6.grow (T:=T) hg8 ha8);have HB8:=Lib.hid ((HX5.out.alloc hs5 _).trans hb8);obtain ⟨A8,c8,e8,-,-,-⟩:=ho8.form;rw [List.length_append,hil] at e8;have e9:v8=.slice A8 (k+1) c8:=e8;clear e8;subst e9;clear ho8 hg8 hb8 ha8)))
   go_roundw
   case rel =>
    refine ⟨k+1,i+1,_,A8,c8,(show home+(k+1)≤N by have:=Hi.out;omega),(show i+1=_ by have:=Hi.out;omega),by go_num,rfl,HO8,(show SecR _ _ _ _ from ?_),HB8⟩
    rw [HTK.out]
    exact (SecR.later (HPL5.out.snoc HROW.out) ((Below.refl _ _).alloc (Nat.le_refl _) _)).fr HG8.out.1 HG8.out.2
   case measure=>simp [intOf];omega
  ·have hall:(homeL f N home).take k=homeL f N home:=List.take_of_length_le (by rw [homeL_len];have:=Hi.out;omega)
   rw [hall] at HPL
   clear hall HRD
   go_wp2_with (first
    | (go_at_call 34;(with_reducible refine HSR.out.mono ?_);go_must (rintro e w4 ⟨rfl,rfl⟩)))
   go_ret
   obtain ⟨A9,c9,e9,-,hc1,hc2⟩:=HO.out.form
   have hfm:k≤c6∧c6≤maxLen:=by
    injection e9 with e1 e2 e3
    rw [hil] at hc1
    exact ⟨by omega,by omega⟩
   exact ⟨A6,k,c6,rfl,by rw [hND.out];exact (HPL.out.sub (fun g hg=>.inl hg)).at HO.out HTW.out,hfm.1,hfm.2,HB2.out.trans (HBW.out.mono hz2)⟩
end Go.Proofs.Ytdoanopeejeeiaa

