/- XWl7 -/
import Derived.Test.YtdoanopeejeeiaaMk25
import Derived.Test.YtdoanopeejeeiaaMk26
namespace Go.Proofs.Ytdoanopeejeeiaa
set_option linter.all false
open Go.RowKit Go.Maps
theorem rdR_in {bs:Bs} {k W:Nat} (h1:1≤W) (h2:W≤6) (hk:k+W≤bs.length):rdR beV bs (k:Int) (W:Int)=(((beV ((bs.drop k).take W):Nat):Int),0):=by
 unfold rdR
 rw [if_neg (by omega),if_neg (by omega)]
 rfl
/-- Bytes of a sector, as a number. -/
def numAt (b:Bs) (k W:Nat):Nat:=beV ((b.drop k).take W)
theorem numAt_lt (b:Bs) {k W:Nat} (h:k+W≤b.length):numAt b k W < 256 ^ W:=by
 unfold numAt
 have hl:((b.drop k).take W).length=W:=by rw [List.length_take,List.length_drop];omega
 have:=beV_lt ((b.drop k).take W) W (by omega)
 rw [List.take_of_length_le (by omega)] at this
 exact this
theorem readB_any (n c:Nat) (A:Option Addr) (bs:Bs) (k W:Nat) (ki Wi:Int) (hki:ki=(k:Int)) (hWi:Wi=(W:Int)) (w:World) (h:RdB w w.heap.size A n bs) (hc:n≤c) (hn:n≤1000000) (h1:1≤W) (h2:W≤6) (hk:k+W≤n) :
  Calls Try.prog 30 #[.slice A n c,.int .i64 ki,.int .i64 Wi] w fun e w'=>e=.returned (.tuple #[.int .i64 (numAt bs k W:Int),.int .i64 0])∧w=w':=by
 subst hki hWi
 have:=readBig_any w.heap.size n c A bs (k:Int) (W:Int) w h hc (by omega)
 rw [rdR_in h1 h2 (by have:=h.len;omega)] at this
 exact this
/-- What is known of a region's values. -/
def mkP (j:Nat):Prop:=j < 10∨j=11∨j=12∨j=13∨j=22
def mkInv (mk:(Nat→Value)→Act) (val:Nat→Value) (mb:Bs) (w0:World) (f:Nat→Bool) (a:Act) (w:World):Prop :=
 ∃ (v:Nat→Value),a=mk v∧(∀ j,mkP j→f j=true→v j=val j)∧(f 10=true→∃ g c,v 10=.slice (some ⟨g,0,none⟩) 256 c∧RdB w (g+1) (some ⟨g,0,none⟩) 256 mb)∧Below w0.heap.size w0 w
theorem okU2 {f:Nat→Bool} {P:Nat→Prop} {v val:Nat→Value} (h:∀ j,P j→f j=true→v j=val j) (i:Nat):∀ j,P j→(fun j=>if j=i then true else f j) j=true→(fun j=>if j=i then val i else v j) j=val j:=by
 intro j hp hj
 by_cases e:j=i
 ·subst e;simp
 ·simp only [if_neg e] at hj ⊢
  exact h j hp hj
theorem okD2 {f:Nat→Bool} {P:Nat→Prop} {v val:Nat→Value} (h:∀ j,P j→f j=true→v j=val j) (d:Nat):∀ j,P j→f j=true→(fun j=>if j=d then val d else v j) j=val j:=by
 intro j hp hj
 by_cases e:j=d
 ·subst e;simp
 ·simp only [if_neg e]
  exact h j hp hj
theorem okS2 {f:Nat→Bool} {P:Nat→Prop} {v val:Nat→Value} (h:∀ j,P j→f j=true→v j=val j) (i:Nat) (hi:¬ P i) (u:Value):∀ j,P j→(fun j=>if j=i then true else f j) j=true→(fun j=>if j=i then u else v j) j=val j:=by
 intro j hp hj
 by_cases e:j=i
 ·subst e;exact absurd hp hi
 ·simp only [if_neg e] at hj ⊢
  exact h j hp hj
theorem wpOp_skip {P:Program} {ops:Array Oper} {Q:Exit→Act→World→Prop} {i:Nat} {K0:Act→World→Prop} {a:Act} {w:World} {o:Oper} (ho:ops[i]?=some o) (hw:Region.wanted o (yielded ops a.tmps)=false)
  (h:K0 (a.put o.dst undef) w):wpOp P ops Q i K0 a w:=by
 unfold wpOp
 rw [ho]
 simp only [hw]
 rw [if_neg (by decide)]
 exact h
theorem okX {P:Nat→Prop} {f:Nat→Bool} {v val:Nat→Value} (h:∀ j,P j→f j=true→v j=val j) {i:Nat} (hi:¬ P i) (u:Value):∀ j,P j→f j=true→(fun j=>if j=i then u else v j) j=val j:=by
 intro j hp hj
 by_cases e:j=i
 ·subst e;exact absurd hp hi
 ·simp only [if_neg e]
  exact h j hp hj
set_option maxRecDepth 100000 in
set_option maxHeartbeats 6400000 in
theorem marked_any (lo d l:Nat) (h:Hn) (s:Dk) (f:SF) (ring seq pos:Nat) (w:World) (H:LgOk w lo d l h s ring seq pos) (hat:At s f) (hdn:s.down=false) (hr:ring≤5000) (hp:pos < ring) (hs:seq≤1000000) (M R:Nat) (hM:M=numAt (f 1) 10 2)
  (hR:R=if f 1=markB seq pos M∧needN M≤ring then M else 0) :
  Calls Try.prog 49 #[.pointer (some ⟨l,0,none⟩)] w fun e w'=>e=.returned (.tuple #[.int .i64 (R:Int),.int .i64 0])∧Below w.heap.size w w':=by
 have hN:=H.dk.size
 have hl1:=hat.len H.dk 1
 have hMl:M < 65536:=by rw [hM];exact numAt_lt (f 1) (by omega)
 have c0:=H.lg.cell (k:=0) rfl
 have c1:=H.lg.cell (k:=1) rfl
 have c2:=H.lg.cell (k:=2) rfl
 have c3:=H.lg.cell (k:=3) rfl
 have HRD:=secR_any lo d h s f 1 w H.dk hat hdn (by omega)
 rw [show ((1:Nat):Int)=1 from rfl] at HRD
 have HRD:=Lib.hid HRD
 obtain ⟨b1,hb1⟩:∃ b,f 1=b:=⟨_,rfl⟩
 rw [hb1] at HRD hl1 hM hR
 have HRB:=Lib.hid (fun (w:World) A c (h:RdB w w.heap.size A 256 b1) (hc:256≤c)=>readB_any 256 c A b1 10 2 10 2 rfl rfl w h hc (by omega) (by omega) (by omega) (by omega))
 rw [← hM] at HRB
 have HMK:=Lib.hid (fun w=>markW_any seq pos M (by omega) (by omega) (by omega) w)
 obtain ⟨mb,hmb⟩:∃ b,markB seq pos M=b:=⟨_,rfl⟩
 rw [hmb] at HMK hR
 have HND:=Lib.hid (fun v w=>needW_any v M (by omega) w)
 obtain ⟨m,hm⟩:∃ m,needN M=m:=⟨_,rfl⟩
 rw [hm] at HND hR
 have hm2:m≤100000:=by rw [← hm];unfold needN;split <;> omega
 clear H hat hb1 hmb hm hM
 by_cases heq:b1=mb
 ·subst heq
  have hbe:(b1 == b1)=true:=beq_self_eq_true b1
  by_cases hle:m≤ring
  ·obtain rfl:R=M:=by rw [hR,if_pos ⟨rfl,hle⟩]
   clear hR
   have hdc:decide (ring < m)=false:=decide_eq_false (by omega)
   go_enter Try.func49,Try.ntmps49
   go_upto_region 6 with (first
    | (go_at_call 29;(with_reducible refine HRD.out.mono ?_);go_must (rintro e w1 ⟨A1,cc1,rfl,hc1,hr1,-,hb1⟩;have HR1:=Lib.hid hr1.2.2;have HB1:=Lib.hid hb1;have k0:=cell_later c0 hb1;have k1:=cell_later c1 hb1;have k2:=cell_later c2 hb1;have k3:=cell_later c3 hb1;have HRB1:=Lib.hid (HRB.out w1 A1 cc1 hr1.2.2 hc1);clear hr1 hb1))
    | (go_at_call 30;(with_reducible refine HRB1.out.mono ?_);go_must (rintro e w2 ⟨rfl,rfl⟩)))
   go_cut [48] (fun v wx=>v=.bool false∧Hid (Below w.heap.size w wx))
   case first =>
    have hX:=Below.refl w1.heap.size w1
    go_region_held3 (fun w'=>w'.cell? ⟨l,1,none⟩=some (.int .i64 (ring:Int))∧w'.cell? ⟨l,2,none⟩=some (.int .i64 (seq:Int))∧w'.cell? ⟨l,3,none⟩=some (.int .i64 (pos:Int)))
     (first | (with_reducible exact ⟨k1,k2,k3⟩) | (with_reducible exact ⟨j1,j2,j3⟩) | go_keep)
     (first
     | (go_at_call 37;(with_reducible refine (HMK.out _).mono ?_);go_must (rintro e w5 ⟨g5,cc5,rfl,-,hr5,hb5⟩;have HB5:Below w1.heap.size w1 w5:=(by first | exact hb5 | exact bstep (Below.drew hX) hb5 (Nat.le_refl _));have j1:=cell_later k1 HB5;have j2:=cell_later k2 HB5;have j3:=cell_later k3 HB5;have HEQ:=equalW_any _ 256 cc1 _ 256 cc5 _ _ _ _ w5 (RdB.later HR1.out HB5) hr5;rw [hbe] at HEQ;have HEQ:=Lib.hid HEQ;clear hb5 hr5))
     | (go_at_call 31;(with_reducible refine HEQ.out.mono ?_);go_must (rintro e w6 ⟨rfl,rfl⟩))
     | (go_at_call 16;(with_reducible refine (HND.out _ _).mono ?_);go_must (rintro e w7 ⟨rfl,rfl⟩)))
    all_goals
     go_wp2_with fail
     go_meet
     case rel=>exact ⟨by first | rfl | rw [hdc],HB1.out.trans (HB5.mono HB1.out.size)⟩
   case rest =>
   obtain ⟨rfl,HBX⟩:=hcut
   go_wp2_with fail
   go_ret2
   exact ⟨rfl,HBX.out⟩
  ·obtain rfl:R=0:=by rw [hR,if_neg (fun e=>hle e.2)]
   clear hR
   have hdc:decide (ring < m)=true:=decide_eq_true (by omega)
   go_enter Try.func49,Try.ntmps49
   go_upto_region 6 with (first
    | (go_at_call 29;(with_reducible refine HRD.out.mono ?_);go_must (rintro e w1 ⟨A1,cc1,rfl,hc1,hr1,-,hb1⟩;have HR1:=Lib.hid hr1.2.2;have HB1:=Lib.hid hb1;have k0:=cell_later c0 hb1;have k1:=cell_later c1 hb1;have k2:=cell_later c2 hb1;have k3:=cell_later c3 hb1;have HRB1:=Lib.hid (HRB.out w1 A1 cc1 hr1.2.2 hc1);clear hr1 hb1))
    | (go_at_call 30;(with_reducible refine HRB1.out.mono ?_);go_must (rintro e w2 ⟨rfl,rfl⟩)))
   go_cut [48] (fun v wx=>v=.bool true∧Hid (Below w.heap.size w wx))
   case first =>
    have hX:=Below.refl w1.heap.size w1
    go_region_held3 (fun w'=>w'.cell? ⟨l,1,none⟩=some (.int .i64 (ring:Int))∧w'.cell? ⟨l,2,none⟩=some (.int .i64 (seq:Int))∧w'.cell? ⟨l,3,none⟩=some (.int .i64 (pos:Int)))
     (first | (with_reducible exact ⟨k1,k2,k3⟩) | (with_reducible exact ⟨j1,j2,j3⟩) | go_keep)
     (first
     | (go_at_call 37;(with_reducible refine (HMK.out _).mono ?_);go_must (rintro e w5 ⟨g5,cc5,rfl,-,hr5,hb5⟩;have HB5:Below w1.heap.size w1 w5:=(by first | exact hb5 | exact bstep (Below.drew hX) hb5 (Nat.le_refl _));have j1:=cell_later k1 HB5;have j2:=cell_later k2 HB5;have j3:=cell_later k3 HB5;have HEQ:=equalW_any _ 256 cc1 _ 256 cc5 _ _ _ _ w5 (RdB.later HR1.out HB5) hr5;rw [hbe] at HEQ;have HEQ:=Lib.hid HEQ;clear hb5 hr5))
     | (go_at_call 31;(with_reducible refine HEQ.out.mono ?_);go_must (rintro e w6 ⟨rfl,rfl⟩))
     | (go_at_call 16;(with_reducible refine (HND.out _ _).mono ?_);go_must (rintro e w7 ⟨rfl,rfl⟩)))
    all_goals
     go_wp2_with fail
     go_meet
     case rel=>exact ⟨by first | rfl | rw [hdc],HB1.out.trans (HB5.mono HB1.out.size)⟩
   case rest =>
   obtain ⟨rfl,HBX⟩:=hcut
   go_wp2_with fail
   go_ret2
   exact ⟨rfl,HBX.out⟩
 ·obtain rfl:R=0:=by rw [hR,if_neg (fun e=>heq e.1)]
  have hbe:(b1 == mb)=false:=beq_eq_false_iff_ne.2 heq
  clear hR heq
  go_enter Try.func49,Try.ntmps49
  go_upto_region 6 with (first
   | (go_at_call 29;(with_reducible refine HRD.out.mono ?_);go_must (rintro e w1 ⟨A1,cc1,rfl,hc1,hr1,-,hb1⟩;have HR1:=Lib.hid hr1.2.2;have HB1:=Lib.hid hb1;have k0:=cell_later c0 hb1;have k1:=cell_later c1 hb1;have k2:=cell_later c2 hb1;have k3:=cell_later c3 hb1;have HRB1:=Lib.hid (HRB.out w1 A1 cc1 hr1.2.2 hc1);clear hr1 hb1))
   | (go_at_call 30;(with_reducible refine HRB1.out.mono ?_);go_must (rintro e w2 ⟨rfl,rfl⟩)))
  obtain ⟨val,hval⟩:∃ val:Nat→Value,(fun i=>match i with | 0=>.slice A1 256 cc1 | 1=>.pointer (some ⟨l,0,none⟩) | 2=>.pointer (some ⟨l,0,none⟩) | 3=>.pointer (some ⟨l,2,none⟩) | 4=>.int .i64 (seq:Int) | 5=>.pointer (some ⟨l,0,none⟩) | 6=>.pointer (some ⟨l,0,none⟩) | 7=>.pointer (some ⟨l,3,none⟩) | 8=>.int .i64 (pos:Int) | 9=>.int .i64 (M:Int) | 11=>.bool false | 12=>.bool true | 13=>.bool true | 22=>.bool true | _=>undef)=val:=⟨_,rfl⟩
  have hv:∀ i,val i=(fun i=>match i with | 0=>.slice A1 256 cc1 | 1=>.pointer (some ⟨l,0,none⟩) | 2=>.pointer (some ⟨l,0,none⟩) | 3=>.pointer (some ⟨l,2,none⟩) | 4=>.int .i64 (seq:Int) | 5=>.pointer (some ⟨l,0,none⟩) | 6=>.pointer (some ⟨l,0,none⟩) | 7=>.pointer (some ⟨l,3,none⟩) | 8=>.int .i64 (pos:Int) | 9=>.int .i64 (M:Int) | 11=>.bool false | 12=>.bool true | 13=>.bool true | 22=>.bool true | _=>undef) i:=fun i=>by rw [hval]
  clear hval
  refine wp_region_inv2 (by kernel_rfl) (by kernel_rfl) (mkInv (fun v=>⟨#[.pointer (some ⟨l,0,none⟩),undef,.int .i64 0,.int .i64 0,.slice A1 256 cc1,.int .i64 0,.int .i64 10,.int .i64 (M:Int),.int .i64 0,.tuple #[.slice A1 256 cc1,.int .i64 0],.pointer (some ⟨l,0,none⟩),.pointer (some ⟨l,0,none⟩),.pointer (some ⟨l,0,none⟩),.pointer (some ⟨d,0,none⟩),.tuple #[.slice A1 256 cc1,.int .i64 0],.slice A1 256 cc1,.int .i64 0,.int .i64 0,.bool false,undef,.tuple #[.int .i64 (M:Int),.int .i64 0],.slice A1 256 cc1,.int .i64 10,.tuple #[.int .i64 (M:Int),.int .i64 0],.int .i64 (M:Int),.int .i64 0,v 0,v 1,v 2,v 3,v 4,v 5,v 6,v 7,v 8,v 9,v 10,v 11,v 12,v 13,v 14,v 15,v 16,v 17,v 18,v 19,v 20,v 21,v 22,undef],[]⟩) val mb w1) ?_ ?_ ?_
  ·exact ⟨fun _=>undef,rfl,(fun j _ h=>by cases h),(fun h=>by cases h),(Below.refl _ _).drew⟩
  ·intro f a w i hi0 hf he hI
   have hi:i < 23:=hi0
   clear hi0
   obtain ⟨v,rfl,hV,hM10,hB⟩:=hI
   have hV:=Lib.hid hV
   have hM10:=Lib.hid hM10
   have hi':i=0∨i=1∨i=2∨i=3∨i=4∨i=5∨i=6∨i=7∨i=8∨i=9∨i=10∨i=11∨i=12∨i=13∨i=14∨i=15∨i=16∨i=17∨i=18∨i=19∨i=20∨i=21∨i=22:=by omega
   clear hi
   rcases hi' with rfl | rfl | rfl | rfl | rfl | rfl | rfl | rfl | rfl | rfl | rfl | rfl | rfl | rfl | rfl | rfl | rfl | rfl | rfl | rfl | rfl | rfl | rfl
   ·clear he
    (try dsimp only)
    refine wpOp_wantK rfl (by rfl) (fun K HK=>?_)
    (try dsimp only)
    go_simp
    refine HK.out _ _ ⟨(fun j=>if j=0 then val 0 else v j),?_,okU2 (hV.out) 0,(fun e=>by obtain ⟨g9,c9,e1,e2⟩:=hM10.out (by simpa using e);exact ⟨g9,c9,e1,e2⟩),hB⟩
    simp only [hv]
    rfl
   ·clear he
    (try dsimp only)
    refine wpOp_wantK rfl (by rfl) (fun K HK=>?_)
    (try dsimp only)
    go_simp
    refine HK.out _ _ ⟨(fun j=>if j=1 then val 1 else v j),?_,okU2 (hV.out) 1,(fun e=>by obtain ⟨g9,c9,e1,e2⟩:=hM10.out (by simpa using e);exact ⟨g9,c9,e1,e2⟩),hB⟩
    simp only [hv]
    rfl
   ·have r1:v 1=.pointer (some ⟨l,0,none⟩):=(hV.out 1 (by unfold mkP;decide) (he 1 (by kernel_rfl))).trans (hv 1)
    clear he
    (try dsimp only)
    rw [r1]
    clear r1
    refine wpOp_wantK rfl (by rfl) (fun K HK=>?_)
    (try dsimp only)
    go_simp
    refine HK.out _ _ ⟨(fun j=>if j=2 then val 2 else (fun j=>if j=1 then val 1 else v j) j),?_,okU2 (okD2 (hV.out) 1) 2,(fun e=>by obtain ⟨g9,c9,e1,e2⟩:=hM10.out (by simpa using e);exact ⟨g9,c9,e1,e2⟩),hB⟩
    simp only [hv]
    rfl
   ·have r2:v 2=.pointer (some ⟨l,0,none⟩):=(hV.out 2 (by unfold mkP;decide) (he 2 (by kernel_rfl))).trans (hv 2)
    clear he
    (try dsimp only)
    rw [r2]
    clear r2
    refine wpOp_wantK rfl (by rfl) (fun K HK=>?_)
    (try dsimp only)
    go_simp
    refine HK.out _ _ ⟨(fun j=>if j=3 then val 3 else (fun j=>if j=2 then val 2 else v j) j),?_,okU2 (okD2 (hV.out) 2) 3,(fun e=>by obtain ⟨g9,c9,e1,e2⟩:=hM10.out (by simpa using e);exact ⟨g9,c9,e1,e2⟩),hB⟩
    simp only [hv]
    rfl
   ·have r3:v 3=.pointer (some ⟨l,2,none⟩):=(hV.out 3 (by unfold mkP;decide) (he 3 (by kernel_rfl))).trans (hv 3)
    have q:=cell_later k2 hB
    clear he
    (try dsimp only)
    rw [r3]
    clear r3
    refine wpOp_wantK rfl (by rfl) (fun K HK=>?_)
    (try dsimp only)
    go_simp
    refine HK.out _ _ ⟨(fun j=>if j=4 then val 4 else (fun j=>if j=3 then val 3 else v j) j),?_,okU2 (okD2 (hV.out) 3) 4,(fun e=>by obtain ⟨g9,c9,e1,e2⟩:=hM10.out (by simpa using e);exact ⟨g9,c9,e1,e2⟩),hB⟩
    simp only [hv]
    rfl
   ·clear he
    (try dsimp only)
    refine wpOp_wantK rfl (by rfl) (fun K HK=>?_)
    (try dsimp only)
    go_simp
    refine HK.out _ _ ⟨(fun j=>if j=5 then val 5 else v j),?_,okU2 (hV.out) 5,(fun e=>by obtain ⟨g9,c9,e1,e2⟩:=hM10.out (by simpa using e);exact ⟨g9,c9,e1,e2⟩),hB⟩
    simp only [hv]
    rfl
   ·have r5:v 5=.pointer (some ⟨l,0,none⟩):=(hV.out 5 (by unfold mkP;decide) (he 5 (by kernel_rfl))).trans (hv 5)
    clear he
    (try dsimp only)
    rw [r5]
    clear r5
    refine wpOp_wantK rfl (by rfl) (fun K HK=>?_)
    (try dsimp only)
    go_simp
    refine HK.out _ _ ⟨(fun j=>if j=6 then val 6 else (fun j=>if j=5 then val 5 else v j) j),?_,okU2 (okD2 (hV.out) 5) 6,(fun e=>by obtain ⟨g9,c9,e1,e2⟩:=hM10.out (by simpa using e);exact ⟨g9,c9,e1,e2⟩),hB⟩
    simp only [hv]
    rfl
   ·have r6:v 6=.pointer (some ⟨l,0,none⟩):=(hV.out 6 (by unfold mkP;decide) (he 6 (by kernel_rfl))).trans (hv 6)
    clear he
    (try dsimp only)
    rw [r6]
    clear r6
    refine wpOp_wantK rfl (by rfl) (fun K HK=>?_)
    (try dsimp only)
    go_simp
    refine HK.out _ _ ⟨(fun j=>if j=7 then val 7 else (fun j=>if j=6 then val 6 else v j) j),?_,okU2 (okD2 (hV.out) 6) 7,(fun e=>by obtain ⟨g9,c9,e1,e2⟩:=hM10.out (by simpa using e);exact ⟨g9,c9,e1,e2⟩),hB⟩
    simp only [hv]
    rfl
   ·have r7:v 7=.pointer (some ⟨l,3,none⟩):=(hV.out 7 (by unfold mkP;decide) (he 7 (by kernel_rfl))).trans (hv 7)
    have q:=cell_later k3 hB
    clear he
    (try dsimp only)
    rw [r7]
    clear r7
    refine wpOp_wantK rfl (by rfl) (fun K HK=>?_)
    (try dsimp only)
    go_simp
    refine HK.out _ _ ⟨(fun j=>if j=8 then val 8 else (fun j=>if j=7 then val 7 else v j) j),?_,okU2 (okD2 (hV.out) 7) 8,(fun e=>by obtain ⟨g9,c9,e1,e2⟩:=hM10.out (by simpa using e);exact ⟨g9,c9,e1,e2⟩),hB⟩
    simp only [hv]
    rfl
   ·clear he
    (try dsimp only)
    refine wpOp_wantK rfl (by rfl) (fun K HK=>?_)
    (try dsimp only)
    go_simp
    refine HK.out _ _ ⟨(fun j=>if j=9 then val 9 else v j),?_,okU2 (hV.out) 9,(fun e=>by obtain ⟨g9,c9,e1,e2⟩:=hM10.out (by simpa using e);exact ⟨g9,c9,e1,e2⟩),hB⟩
    simp only [hv]
    rfl
   ·have r4:v 4=.int .i64 (seq:Int):=(hV.out 4 (by unfold mkP;decide) (he 4 (by kernel_rfl))).trans (hv 4)
    have r8:v 8=.int .i64 (pos:Int):=(hV.out 8 (by unfold mkP;decide) (he 8 (by kernel_rfl))).trans (hv 8)
    have r9:v 9=.int .i64 (M:Int):=(hV.out 9 (by unfold mkP;decide) (he 9 (by kernel_rfl))).trans (hv 9)
    have hfal:f 10=false:=hf
    clear he
    (try dsimp only)
    rw [r4,r8,r9]
    clear r4 r8 r9
    refine wpOp_wantK rfl (by rfl) (fun K HK=>?_)
    (try dsimp only)
    go_simp
    go_at_call 37
    (with_reducible refine (HMK.out _).mono ?_)
    rintro e w' ⟨g5,c5,rfl,-,hr5,hb5⟩
    go_simp
    refine HK.out _ _ ⟨(fun j=>if j=10 then .slice (some ⟨g5,0,none⟩) 256 c5 else (fun j=>if j=9 then val 9 else (fun j=>if j=8 then val 8 else (fun j=>if j=4 then val 4 else v j) j) j) j),?_,okS2 (okD2 (okD2 (okD2 (hV.out) 4) 8) 9) 10 (by unfold mkP;decide) _,(fun _=>⟨g5,c5,rfl,hr5⟩),hB.trans (hb5.mono hB.size)⟩
    simp only [hv]
    rfl
   ·have r0:v 0=.slice A1 256 cc1:=(hV.out 0 (by unfold mkP;decide) (he 0 (by kernel_rfl))).trans (hv 0)
    obtain ⟨g5,c5,r10,hr5⟩:=hM10.out (he 10 (by kernel_rfl))
    have HEQ:=equalW_any _ 256 cc1 _ 256 c5 _ _ _ _ w (RdB.blw HR1.out hB) hr5
    rw [hbe] at HEQ
    have HEQ:=Lib.hid HEQ
    clear he
    (try dsimp only)
    rw [r0,r10]
    clear r0
    refine wpOp_wantK rfl (by rfl) (fun K HK=>?_)
    (try dsimp only)
    go_simp
    go_at_call 31
    (with_reducible refine HEQ.out.mono ?_)
    rintro e w' ⟨rfl,rfl⟩
    go_simp
    refine HK.out _ _ ⟨(fun j=>if j=10 then .slice (some ⟨g5,0,none⟩) 256 c5 else (fun j=>if j=11 then val 11 else (fun j=>if j=0 then val 0 else v j) j) j),?_,okX (okU2 (okD2 (hV.out) 0) 11) (by unfold mkP;decide) _,(fun _=>⟨g5,c5,rfl,hr5⟩),hB⟩
    simp only [hv]
    rfl
   ·have r11:v 11=.bool false:=(hV.out 11 (by unfold mkP;decide) (he 11 (by kernel_rfl))).trans (hv 11)
    clear he
    (try dsimp only)
    rw [r11]
    clear r11
    refine wpOp_wantK rfl (by rfl) (fun K HK=>?_)
    (try dsimp only)
    go_simp
    refine HK.out _ _ ⟨(fun j=>if j=12 then val 12 else (fun j=>if j=11 then val 11 else v j) j),?_,okU2 (okD2 (hV.out) 11) 12,(fun e=>by obtain ⟨g9,c9,e1,e2⟩:=hM10.out (by simpa using e);exact ⟨g9,c9,e1,e2⟩),hB⟩
    simp only [hv]
    rfl
   ·have r12:v 12=.bool true:=(hV.out 12 (by unfold mkP;decide) (he 12 (by kernel_rfl))).trans (hv 12)
    clear he
    (try dsimp only)
    rw [r12]
    clear r12
    refine wpOp_wantK rfl (by rfl) (fun K HK=>?_)
    (try dsimp only)
    go_simp
    refine HK.out _ _ ⟨(fun j=>if j=13 then val 13 else (fun j=>if j=12 then val 12 else v j) j),?_,okU2 (okD2 (hV.out) 12) 13,(fun e=>by obtain ⟨g9,c9,e1,e2⟩:=hM10.out (by simpa using e);exact ⟨g9,c9,e1,e2⟩),hB⟩
    simp only [hv]
    rfl
   ·have r13:v 13=.bool true:=(hV.out 13 (by unfold mkP;decide) (he 13 (by kernel_rfl))).trans (hv 13)
    clear he
    (try dsimp only)
    rw [r13]
    clear r13
    refine wpOp_skip rfl (by rfl) ?_
    refine ⟨(fun j=>if j=14 then undef else (fun j=>if j=13 then val 13 else v j) j),?_,okS2 (okD2 (hV.out) 13) 14 (by unfold mkP;decide) _,(fun e=>by obtain ⟨g9,c9,e1,e2⟩:=hM10.out (by simpa using e);exact ⟨g9,c9,e1,e2⟩),hB⟩
    simp only [hv]
    rfl
   ·have r13:v 13=.bool true:=(hV.out 13 (by unfold mkP;decide) (he 13 (by kernel_rfl))).trans (hv 13)
    clear he
    (try dsimp only)
    rw [r13]
    clear r13
    refine wpOp_skip rfl (by rfl) ?_
    refine ⟨(fun j=>if j=15 then undef else (fun j=>if j=13 then val 13 else v j) j),?_,okS2 (okD2 (hV.out) 13) 15 (by unfold mkP;decide) _,(fun e=>by obtain ⟨g9,c9,e1,e2⟩:=hM10.out (by simpa using e);exact ⟨g9,c9,e1,e2⟩),hB⟩
    simp only [hv]
    rfl
   ·have r13:v 13=.bool true:=(hV.out 13 (by unfold mkP;decide) (he 13 (by kernel_rfl))).trans (hv 13)
    clear he
    (try dsimp only)
    rw [r13]
    clear r13
    refine wpOp_skip rfl (by rfl) ?_
    refine ⟨(fun j=>if j=16 then undef else (fun j=>if j=13 then val 13 else v j) j),?_,okS2 (okD2 (hV.out) 13) 16 (by unfold mkP;decide) _,(fun e=>by obtain ⟨g9,c9,e1,e2⟩:=hM10.out (by simpa using e);exact ⟨g9,c9,e1,e2⟩),hB⟩
    simp only [hv]
    rfl
   ·have r13:v 13=.bool true:=(hV.out 13 (by unfold mkP;decide) (he 13 (by kernel_rfl))).trans (hv 13)
    clear he
    (try dsimp only)
    rw [r13]
    clear r13
    refine wpOp_skip rfl (by rfl) ?_
    refine ⟨(fun j=>if j=17 then undef else (fun j=>if j=13 then val 13 else v j) j),?_,okS2 (okD2 (hV.out) 13) 17 (by unfold mkP;decide) _,(fun e=>by obtain ⟨g9,c9,e1,e2⟩:=hM10.out (by simpa using e);exact ⟨g9,c9,e1,e2⟩),hB⟩
    simp only [hv]
    rfl
   ·have r13:v 13=.bool true:=(hV.out 13 (by unfold mkP;decide) (he 13 (by kernel_rfl))).trans (hv 13)
    clear he
    (try dsimp only)
    rw [r13]
    clear r13
    refine wpOp_skip rfl (by rfl) ?_
    refine ⟨(fun j=>if j=18 then undef else (fun j=>if j=13 then val 13 else v j) j),?_,okS2 (okD2 (hV.out) 13) 18 (by unfold mkP;decide) _,(fun e=>by obtain ⟨g9,c9,e1,e2⟩:=hM10.out (by simpa using e);exact ⟨g9,c9,e1,e2⟩),hB⟩
    simp only [hv]
    rfl
   ·have r13:v 13=.bool true:=(hV.out 13 (by unfold mkP;decide) (he 13 (by kernel_rfl))).trans (hv 13)
    clear he
    (try dsimp only)
    rw [r13]
    clear r13
    refine wpOp_skip rfl (by rfl) ?_
    refine ⟨(fun j=>if j=19 then undef else (fun j=>if j=13 then val 13 else v j) j),?_,okS2 (okD2 (hV.out) 13) 19 (by unfold mkP;decide) _,(fun e=>by obtain ⟨g9,c9,e1,e2⟩:=hM10.out (by simpa using e);exact ⟨g9,c9,e1,e2⟩),hB⟩
    simp only [hv]
    rfl
   ·have r13:v 13=.bool true:=(hV.out 13 (by unfold mkP;decide) (he 13 (by kernel_rfl))).trans (hv 13)
    clear he
    (try dsimp only)
    rw [r13]
    clear r13
    refine wpOp_skip rfl (by rfl) ?_
    refine ⟨(fun j=>if j=20 then undef else (fun j=>if j=13 then val 13 else v j) j),?_,okS2 (okD2 (hV.out) 13) 20 (by unfold mkP;decide) _,(fun e=>by obtain ⟨g9,c9,e1,e2⟩:=hM10.out (by simpa using e);exact ⟨g9,c9,e1,e2⟩),hB⟩
    simp only [hv]
    rfl
   ·have r13:v 13=.bool true:=(hV.out 13 (by unfold mkP;decide) (he 13 (by kernel_rfl))).trans (hv 13)
    clear he
    (try dsimp only)
    rw [r13]
    clear r13
    refine wpOp_skip rfl (by rfl) ?_
    refine ⟨(fun j=>if j=21 then undef else (fun j=>if j=13 then val 13 else v j) j),?_,okS2 (okD2 (hV.out) 13) 21 (by unfold mkP;decide) _,(fun e=>by obtain ⟨g9,c9,e1,e2⟩:=hM10.out (by simpa using e);exact ⟨g9,c9,e1,e2⟩),hB⟩
    simp only [hv]
    rfl
   ·have r13:v 13=.bool true:=(hV.out 13 (by unfold mkP;decide) (he 13 (by kernel_rfl))).trans (hv 13)
    clear he
    (try dsimp only)
    rw [r13]
    clear r13
    refine wpOp_wantK rfl (by rfl) (fun K HK=>?_)
    (try dsimp only)
    go_simp
    refine HK.out _ _ ⟨(fun j=>if j=22 then val 22 else (fun j=>if j=13 then val 13 else v j) j),?_,okU2 (okD2 (hV.out) 13) 22,(fun e=>by obtain ⟨g9,c9,e1,e2⟩:=hM10.out (by simpa using e);exact ⟨g9,c9,e1,e2⟩),hB⟩
    simp only [hv]
    rfl
  ·intro f a w hall hI
   obtain ⟨v,rfl,hV,hM10,hB⟩:=hI
   have e22:v 22=.bool true:=(hV 22 (by unfold mkP;decide) (hall 22 (by decide))).trans (hv 22)
   have HBZ:=Lib.hid (HB1.out.trans (hB.mono HB1.out.size))
   dsimp only
   rw [e22]
   clear hV e22 hall hM10
   go_wp2_with fail
   go_ret2
   exact ⟨rfl,HBZ.out⟩
end Go.Proofs.Ytdoanopeejeeiaa

