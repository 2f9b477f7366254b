/- XPh8 XPh9 XPha -/
import Derived.Test.YteoolehdomjkkaaGreatMe52
import Derived.Test.YteoolehdomjkkaaGreatMe53
import Derived.Test.YteoolehdomjkkaaGreatMe38
namespace Go.Proofs.YteoolehdomjkkaaGreat
set_option linter.all false
open Go.RowKit
theorem rdB_far {w w':World} {B n:Nat} {A:Option Addr} {l:List UInt8} {row:Option Nat} (h:RdB w B A n l) (hg:w.grownBy w' row) (hB:B≤w.heap.size) (hA:∀ a,A=some a→row ≠ some a.block):RdB w' B A n l :=
 ⟨h.1,fun hn=>by
  obtain ⟨b,o,e,hb,hc⟩:=h.2 hn
  refine ⟨b,o,e,hb,fun j u hu=>?_⟩
  exact (World.cell?_of_block (hg.block b (by omega) (fun e'=>hA _ e e'.symm))).trans (hc j u hu)⟩
theorem wpOp_appendB {w:World} {ops:Array Oper} {i:Nat} {o:Oper} {a:Act} {K:Act→World→Prop} {Q:Exit→Act→World→Prop} (hi:ops[i]?=some o) (hgd:o.guard=none) (s x:Operand)
  (ho:o.op=.call { callee:=.builtin .append,args:=#[s,x],argTypes:=#[24,24] })
  (base:Nat) (v:Value) (bs:List UInt8) (hs:a.eval s=v) (hown:ownB w base v bs) (B m c:Nat) (A:Option Addr) (news:List UInt8) (hx:a.eval x=.slice A m c) (hr:RdB w B A m news)
  (hb:bs.length+m≤140737488355328) (hbase:base≤w.heap.size)
  (h:∀ v' w',ownB w' base v' (bs ++ news)→w.grownBy w' v.ownBlock→Below base w w'→K (a.put o.dst v') w') :
  wpOp Tryz.prog ops Q i K a w:=wpOp_plain hi hgd (by
 have h1:=step_appendB (E:=False) (Q:=Q) (ops:=ops) hgd s x ho base v bs hs hown B m c A news hx hr hb hbase (fun v' w' a b c _=>h v' w' a b c)
 have hw:Region.wanted o (yielded ops a.tmps)=true:=by simp [Region.wanted,hgd]
 rwa [if_pos hw] at h1)
theorem cellB {w w':World} {b i:Nat} {v:Value} (hb:Below w.heap.size w w') (h:w.cell? ⟨b,i,none⟩=some v):w'.cell? ⟨b,i,none⟩=some v:=(hb.cell (p:=⟨b,i,none⟩) (block_lt_of_cell (a:=⟨b,i,none⟩) h)).trans h
theorem ownB.apartB {w:World} {base g:Nat} {v:Value} {bs:List UInt8} (h:ownB w base v bs) (hg:g < base∨w.heap.size≤g):v.ownBlock ≠ some g:=by
 intro e
 have:=World.ownsRow.lt h g e
 omega
theorem litT (a b c d e:UInt8) (w:World):RdB (w.alloc (.cells #[.int .u8 (a.toNat:Int),.int .u8 (b.toNat:Int),.int .u8 (c.toNat:Int),.int .u8 (d.toNat:Int),.int .u8 (e.toNat:Int)] 5)) (w.alloc (.cells #[.int .u8 (a.toNat:Int),.int .u8 (b.toNat:Int),.int .u8 (c.toNat:Int),.int .u8 (d.toNat:Int),.int .u8 (e.toNat:Int)] 5)).heap.size (some ⟨w.heap.size,0,none⟩) 5 [a,b,c,d,e]:=by
 rw [World.size_alloc]
 exact rd_lit w 5 (0,0) [a,b,c,d,e]
def gInv (mk:(Nat→Value)→Act) (W H C D la g z:Nat) (bw bh T:List UInt8) (w0:World) (f:Nat→Bool) (a:Act) (w:World):Prop :=
 ∃ (L M:Nat) (v:Nat→Value),a=mk v ∧
  (f 0=true→v 22=.pointer (some ⟨g,0,none⟩)) ∧
  (f 1=true→v 23=.int .i64 (W:Int)) ∧
  (f 2=true→f 6=false→ownB w z (v 24) bw) ∧
  (f 3=true→v 25=.pointer (some ⟨g,1,none⟩)) ∧
  (f 4=true→v 26=.int .i64 (H:Int)) ∧
  (f 5=true→f 6=false→∃ A c,v 27=.slice A 4 c∧RdB w w.heap.size A 4 bh) ∧
  (f 6=true→f 19=false→ownB w z (v 28) (bw ++ bh)) ∧
  (f 7=true→v 29=.pointer (some ⟨g,3,none⟩)) ∧
  (f 8=true→v 30=.int .i64 (D:Int)) ∧
  (f 9=true→v 31=.int .u8 ((UInt8.ofNat D).toNat:Int)) ∧
  (f 10=true→v 32=.slice (some ⟨L,0,none⟩) 4 4∧L < w.heap.size∧(f 15=false→w.cell? ⟨L,C - 1,none⟩=some (.int .u8 ((colV C).toNat:Int)))) ∧
  (f 11=true→v 33=.pointer (some ⟨g,2,none⟩)) ∧
  (f 12=true→v 34=.int .i64 (C:Int)) ∧
  (f 13=true→v 35=.int .i64 ((C - 1:Nat):Int)) ∧
  (f 14=true→v 36=.pointer (some ⟨L,C - 1,none⟩)∧f 10=true) ∧
  (f 15=true→v 37=.int .u8 ((colV C).toNat:Int)) ∧
  (f 16=true→v 38=.int .i64 (la:Int)) ∧
  (f 17=true→v 39=.int .u8 ((UInt8.ofNat la).toNat:Int)) ∧
  (f 18=true→v 40=.slice (some ⟨M,0,none⟩) 5 5∧M < w.heap.size∧(f 19=false→RdB w w.heap.size (some ⟨M,0,none⟩) 5 T)) ∧
  (f 19=true→ownB w z (v 41) (bw ++ bh ++ T)) ∧
  (f 20=true→ownB w z (v 11) (bw ++ bh ++ T)) ∧
  (f 2=true→f 6=false→f 10=true→(v 24).ownBlock ≠ some L) ∧
  (f 2=true→f 6=false→f 18=true→(v 24).ownBlock ≠ some M) ∧
  (f 18=true→f 15=true)∧(f 19=true→f 6=true)∧(f 20=true→f 19=true)∧Below z w0 w
set_option maxRecDepth 100000 in
theorem magic9_any (w:World):Calls Tryz.prog 88 #[] w fun e w'=>∃ v,e=.returned v∧ownB w' w.heap.size v [137,80,78,71,13,10,26,10]∧Below w.heap.size w w':=by
 have HO:=Lib.hid (own_lit w [137,80,78,71,13,10,26,10] (by decide))
 go_enter Tryz.func88,Tryz.ntmps88
 go_wp2_with fail
 go_ret
 exact ⟨_,rfl,HO.out,(Below.refl w.heap.size w).alloc (Nat.le_refl _) _⟩
set_option maxRecDepth 100000 in
set_option maxHeartbeats 12800000 in
theorem file9_any (W H C D la m c B n cn:Nat) (A A':Option Addr) (rs:List UInt8) (w:World) (h:RdB w B A' n rs) (hB:B≤w.heap.size) (hn:n≤40000) (hW:W≤256) (hH:H≤256) (hC:1≤C∧C≤4) (hD:D=8∨D=16) (hla:la=0∨la=1) :
  Calls Tryz.prog 45 #[.agg #[.int .i64 (W:Int),.int .i64 (H:Int),.int .i64 (C:Int),.int .i64 (D:Int),.slice A m c],.int .i64 (la:Int),.slice A' n cn] w fun e w'=>∃ v l,e=.returned (.tuple #[v,.int .i64 0])∧ownB w' w.heap.size v l∧FileI (hdrL W H C D (UInt8.ofNat la)) rs l∧Below w.heap.size w w':=by
 have hrl:=h.len
 have HBW:=Lib.hid (fun w=>big9_any W (by omega) w)
 have HBH:=Lib.hid (fun w=>big9_any H (by omega) w)
 have hwl:(beB W 4).length=4:=beB_len _ _
 have hhl:(beB H 4).length=4:=beB_len _ _
 have HHD:Hid (hdrL W H C D (UInt8.ofNat la)=beB W 4 ++ beB H 4 ++ [UInt8.ofNat D,colV C,0,0,UInt8.ofNat la]):=(show _=_ from rfl)
 generalize hdrL W H C D (UInt8.ofNat la)=HD0 at *
 generalize beB W 4=bw at *
 generalize beB H 4=bh at *
 have HWL:=Lib.hid hwl
 have HHL:=Lib.hid hhl
 clear hwl hhl
 obtain ⟨bk,hbk⟩:∃ b,w.heap.size=b:=⟨_,rfl⟩
 obtain ⟨w1,hw1⟩:∃ w1,w.alloc (.cells #[.int .i64 (W:Int),.int .i64 (H:Int),.int .i64 (C:Int),.int .i64 (D:Int),.slice A m c] 26)=w1:=⟨_,rfl⟩
 have HA1:Hid (Arr w1 bk [.int .i64 (W:Int),.int .i64 (H:Int),.int .i64 (C:Int),.int .i64 (D:Int),.slice A m c]):=(show Arr _ _ _ by rw [← hw1,← hbk];exact Arr.new w [.int .i64 (W:Int),.int .i64 (H:Int),.int .i64 (C:Int),.int .i64 (D:Int),.slice A m c] _)
 have HB1:Hid (Below bk w w1):=(show Below _ _ _ by rw [← hw1,← hbk];exact (Below.refl w.heap.size w).alloc (Nat.le_refl _) _)
 have hz1:w1.heap.size=bk+1:=by rw [← hw1,World.size_alloc,hbk]
 have HPK:=Lib.hid (packK5_any B n cn A' rs w1 (by rw [← hw1];exact Rd.alloc h hB _) (by omega) hn)
 have HC5:=Lib.hid (colour_cell · C hC)
 clear h
 go_enter Tryz.func45,Tryz.ntmps45
 simp only [hw1,hbk]
 go_upto_region 5 with (go_at_call 33;(with_reducible refine HPK.out.mono ?_);go_must (rintro e w2 ⟨v2,zl,rfl,ho2,hz2,hb2⟩;have hzl:=hz2.len;obtain ⟨A2,c2,hv2,hr2,-,-⟩:=ho2.form;obtain ⟨n2,hn2⟩:∃ L,zl.length=L:=⟨_,rfl⟩;rw [hn2] at hv2 hr2;subst hv2;have HD2:=Lib.hid hr2;have HA2:=Lib.hid (HA1.out.later hb2);have a0:=HA2.out.cell (k:=0) rfl;have a1:=HA2.out.cell (k:=1) rfl;have a2:=HA2.out.cell (k:=2) rfl;have a3:=HA2.out.cell (k:=3) rfl;have hs2:=hb2.size;have HB2:=Lib.hid (HB1.out.trans (hb2.mono (by omega)));have HZ2:=Lib.hid hz2;have hnn:n2≤50000:=(by omega);clear ho2 hz2 hb2 hr2))
 clear a0 a1 a2 a3
 have HAs:Hid (Arr (w2.alloc (.cells #[.int .i64 (W:Int),.int .i64 (H:Int),.int .i64 (C:Int),.int .i64 (D:Int)] 23)) w2.heap.size [.int .i64 (W:Int),.int .i64 (H:Int),.int .i64 (C:Int),.int .i64 (D:Int)]):=(show Arr _ _ _ from Arr.new w2 [.int .i64 (W:Int),.int .i64 (H:Int),.int .i64 (C:Int),.int .i64 (D:Int)] _)
 have HDs:=Lib.hid (Rd.alloc HD2.out (Nat.le_refl _) (.cells #[.int .i64 (W:Int),.int .i64 (H:Int),.int .i64 (C:Int),.int .i64 (D:Int)] 23))
 have HBs:=Lib.hid (HB2.out.alloc (by omega) (.cells #[.int .i64 (W:Int),.int .i64 (H:Int),.int .i64 (C:Int),.int .i64 (D:Int)] 23))
 have hzs:(w2.alloc (.cells #[.int .i64 (W:Int),.int .i64 (H:Int),.int .i64 (C:Int),.int .i64 (D:Int)] 23)).heap.size=w2.heap.size+1:=World.size_alloc _ _
 generalize w2.alloc (.cells #[.int .i64 (W:Int),.int .i64 (H:Int),.int .i64 (C:Int),.int .i64 (D:Int)] 23)=w3 at *
 obtain ⟨g,hg⟩:∃ g,w2.heap.size=g:=⟨_,rfl⟩
 simp only [hg] at HAs HDs hzs ⊢
 obtain ⟨z,hz⟩:∃ z,w3.heap.size=z:=⟨_,rfl⟩
 have hzg:z=g+1:=by omega
 have hgz:g < z:=by omega
 have hbz:bk+1≤z:=by omega
 have HC5z:Hid ((w3.alloc (.cells #[.int .u8 0,.int .u8 4,.int .u8 2,.int .u8 6] 5)).cell? ⟨z,C - 1,none⟩=some (.int .u8 ((colV C).toNat:Int))):=(show _=_ by rw [← hz];exact HC5.out w3)
 have s0:=HAs.out.cell (k:=0) rfl
 have s1:=HAs.out.cell (k:=1) rfl
 have s2:=HAs.out.cell (k:=2) rfl
 have s3:=HAs.out.cell (k:=3) rfl
 have HGZ:=Lib.hid hgz
 have HZE:=Lib.hid hz
 clear hzg hzs hw1 hg hz
 go_cut [11] (fun v wc=>Hid (ownB wc z v (bw ++ bh ++ [UInt8.ofNat D,colV C,0,0,UInt8.ofNat la]))∧Hid (Below z w3 wc))
 case first =>
  have HDD:IntKind.u8.wrap (D:Int)=((UInt8.ofNat D).toNat:Int):=(by rcases hD with rfl | rfl <;> rfl)
  have HLL:IntKind.u8.wrap (la:Int)=((UInt8.ofNat la).toNat:Int):=(by rcases hla with rfl | rfl <;> rfl)
  have HTL:=Lib.hid (litT (UInt8.ofNat D) (colV C) 0 0 (UInt8.ofNat la))
  have HDD':=Lib.hid HDD
  have HLL':=Lib.hid HLL
  have S0:=Lib.hid s0
  have S1:=Lib.hid s1
  have S2:=Lib.hid s2
  have S3:=Lib.hid s3
  have HBS:Hid (bw.length+4≤140737488355328∧(bw ++ bh).length+5≤140737488355328):=(show _∧_ by rw [List.length_append,HWL.out,HHL.out];decide)
  have HHC:=Lib.hid hC
  clear HDD HLL s0 s1 s2 s3 HC5z HPK HA1 HA2 HAs hC hD hla hrl hB hn hW hH hz1 hs2 hnn hzl hbk hn2 hbz hgz HHD
  refine wp_region_inv2 (by kernel_rfl) (by kernel_rfl) (gInv (fun v=>⟨#[.agg #[.int .i64 (W:Int),.int .i64 (H:Int),.int .i64 (C:Int),.int .i64 (D:Int),.slice A m c],.int .i64 (la:Int),.slice A' n cn,.pointer (some ⟨bk,0,none⟩),undef,undef,.slice none 0 0,.int .i64 0,.slice A2 n2 c2,.int .i64 0,.pointer (some ⟨g,0,none⟩),v 11,.tuple #[.slice A2 n2 c2,.int .i64 0],.slice A' n cn,.tuple #[.slice A2 n2 c2,.int .i64 0],.slice A2 n2 c2,.int .i64 0,.int .i64 0,.bool false,undef,.pointer (some ⟨bk,0,none⟩),.agg #[.int .i64 (W:Int),.int .i64 (H:Int),.int .i64 (C:Int),.int .i64 (D:Int)],v 22,v 23,v 24,v 25,v 26,v 27,v 28,v 29,v 30,v 31,v 32,v 33,v 34,v 35,v 36,v 37,v 38,v 39,v 40,v 41,undef,undef,undef,undef,undef,undef,undef,undef,undef,undef],[]⟩) W H C D la g z bw bh [UInt8.ofNat D,colV C,0,0,UInt8.ofNat la] w3) ?_ ?_ ?_
  ·refine ⟨0,0,fun _=>undef,rfl,(fun h=>by cases h),(fun h=>by cases h),(fun h=>by cases h),(fun h=>by cases h),(fun h=>by cases h),(fun h=>by cases h),(fun h=>by cases h),(fun h=>by cases h),(fun h=>by cases h),(fun h=>by cases h),(fun h=>by cases h),(fun h=>by cases h),(fun h=>by cases h),(fun h=>by cases h),(fun h=>by cases h),(fun h=>by cases h),(fun h=>by cases h),(fun h=>by cases h),(fun h=>by cases h),(fun h=>by cases h),(fun h=>by cases h),(fun h=>by cases h),(fun h=>by cases h),(fun h=>by cases h),(fun h=>by cases h),(fun h=>by cases h),(Below.refl z w3).drew⟩
  ·intro f a w i hi0 hf he hI
   have hi:i < 21:=hi0
   clear hi0
   obtain ⟨L,M,v,rfl,p0,p1,p2,p3,p4,p5,p6,p7,p8,p9,p10,p11,p12,p13,p14,p15,p16,p17,p18,p19,p20,q1,q2,d18,d19,d20,hB⟩:=hI
   have hz0:z≤w.heap.size:=(by rw [← HZE.out];exact hB.size)
   replace p0:=Lib.hid p0
   replace p1:=Lib.hid p1
   replace p2:=Lib.hid p2
   replace p3:=Lib.hid p3
   replace p4:=Lib.hid p4
   replace p5:=Lib.hid p5
   replace p6:=Lib.hid p6
   replace p7:=Lib.hid p7
   replace p8:=Lib.hid p8
   replace p9:=Lib.hid p9
   replace p10:=Lib.hid p10
   replace p11:=Lib.hid p11
   replace p12:=Lib.hid p12
   replace p13:=Lib.hid p13
   replace p14:=Lib.hid p14
   replace p15:=Lib.hid p15
   replace p16:=Lib.hid p16
   replace p17:=Lib.hid p17
   replace p18:=Lib.hid p18
   replace p19:=Lib.hid p19
   replace p20:=Lib.hid p20
   replace q1:=Lib.hid q1
   replace q2:=Lib.hid q2
   replace d18:=Lib.hid d18
   replace d19:=Lib.hid d19
   replace d20:=Lib.hid d20
   replace hB:=Lib.hid hB
   replace hz0:=Lib.hid hz0
   have hi':i=0∨i=1∨i=2∨i=3∨i=4∨i=5∨i=6∨i=7∨i=8∨i=9∨i=10∨i=11∨i=12∨i=13∨i=14∨i=15∨i=16∨i=17∨i=18∨i=19∨i=20:=by omega
   clear hi
   rcases hi' with rfl | rfl | rfl | rfl | rfl | rfl | rfl | rfl | rfl | rfl | rfl | rfl | rfl | rfl | rfl | rfl | rfl | rfl | rfl | rfl | rfl
   ·clear he
    refine wpOp_plainK rfl rfl (fun K HK=>?_)
    dsimp only
    go_simp
    exact HK.out _ _ ⟨L,M,(fun k=>if k=22 then .pointer (some ⟨g,0,none⟩) else v k),rfl,fun _=>rfl,p1.out,p2.out,p3.out,p4.out,p5.out,p6.out,p7.out,p8.out,p9.out,p10.out,p11.out,p12.out,p13.out,p14.out,p15.out,p16.out,p17.out,p18.out,p19.out,p20.out,q1.out,q2.out,d18.out,d19.out,d20.out,hB.out⟩
   ·have f0:f 0=true:=he 0 (by kernel_rfl)
    have r0:=p0.out f0
    have cc:=cell_blw hB.out HGZ.out S0.out
    clear he
    refine wpOp_plainK rfl rfl (fun K HK=>?_)
    dsimp only
    rw [r0]
    clear r0
    go_simp
    exact HK.out _ _ ⟨L,M,(fun k=>if k=23 then .int .i64 (W:Int) else (fun k=>if k=22 then .pointer (some ⟨g,0,none⟩) else v k) k),rfl,fun _=>rfl,fun _=>rfl,p2.out,p3.out,p4.out,p5.out,p6.out,p7.out,p8.out,p9.out,p10.out,p11.out,p12.out,p13.out,p14.out,p15.out,p16.out,p17.out,p18.out,p19.out,p20.out,q1.out,q2.out,d18.out,d19.out,d20.out,hB.out⟩
   ·have f1:f 1=true:=he 1 (by kernel_rfl)
    have r1:=p1.out f1
    clear he
    refine wpOp_plainK rfl rfl (fun K HK=>?_)
    dsimp only
    rw [r1]
    clear r1
    go_simp
    go_at_call 87
    (with_reducible refine (HBW.out _).mono ?_)
    rintro e w' ⟨v1,rfl,ho,hb⟩
    go_simp
    exact HK.out _ _ ⟨L,M,(fun k=>if k=24 then v1 else (fun k=>if k=23 then .int .i64 (W:Int) else v k) k),rfl,p0.out,fun _=>rfl,fun _ _=>ho.mono hz0.out,p3.out,p4.out,fun h h6=>(p5.out h h6).elim fun A e1=>e1.elim fun c e2=>⟨A,c,e2.1,RdB.later e2.2 hb⟩,fun h h6=>ownB.later (p6.out h h6) hb,p7.out,p8.out,p9.out,fun h=>⟨(p10.out h).1,Nat.lt_of_lt_of_le (p10.out h).2.1 hb.size,fun h15=>cellB hb ((p10.out h).2.2 h15)⟩,p11.out,p12.out,p13.out,p14.out,p15.out,p16.out,p17.out,fun h=>⟨(p18.out h).1,Nat.lt_of_lt_of_le (p18.out h).2.1 hb.size,fun h19=>RdB.later ((p18.out h).2.2 h19) hb⟩,fun h=>ownB.later (p19.out h) hb,fun h=>ownB.later (p20.out h) hb,fun _ _ h10=>ownB.apartB ho (Or.inl (p10.out h10).2.1),fun _ _ h18=>ownB.apartB ho (Or.inl (p18.out h18).2.1),d18.out,d19.out,d20.out,hB.out.trans (hb.mono hz0.out)⟩
   ·clear he
    refine wpOp_plainK rfl rfl (fun K HK=>?_)
    dsimp only
    go_simp
    exact HK.out _ _ ⟨L,M,(fun k=>if k=25 then .pointer (some ⟨g,1,none⟩) else v k),rfl,p0.out,p1.out,p2.out,fun _=>rfl,p4.out,p5.out,p6.out,p7.out,p8.out,p9.out,p10.out,p11.out,p12.out,p13.out,p14.out,p15.out,p16.out,p17.out,p18.out,p19.out,p20.out,q1.out,q2.out,d18.out,d19.out,d20.out,hB.out⟩
   ·have f3:f 3=true:=he 3 (by kernel_rfl)
    have r3:=p3.out f3
    have cc:=cell_blw hB.out HGZ.out S1.out
    clear he
    refine wpOp_plainK rfl rfl (fun K HK=>?_)
    dsimp only
    rw [r3]
    clear r3
    go_simp
    exact HK.out _ _ ⟨L,M,(fun k=>if k=26 then .int .i64 (H:Int) else (fun k=>if k=25 then .pointer (some ⟨g,1,none⟩) else v k) k),rfl,p0.out,p1.out,p2.out,fun _=>rfl,fun _=>rfl,p5.out,p6.out,p7.out,p8.out,p9.out,p10.out,p11.out,p12.out,p13.out,p14.out,p15.out,p16.out,p17.out,p18.out,p19.out,p20.out,q1.out,q2.out,d18.out,d19.out,d20.out,hB.out⟩
   ·have f4:f 4=true:=he 4 (by kernel_rfl)
    have r4:=p4.out f4
    clear he
    refine wpOp_plainK rfl rfl (fun K HK=>?_)
    dsimp only
    rw [r4]
    clear r4
    go_simp
    go_at_call 87
    (with_reducible refine (HBH.out _).mono ?_)
    rintro e w' ⟨v1,rfl,ho,hb⟩
    obtain ⟨A4,c4,rfl,hr4,-,-⟩:=ho.form
    rw [HHL.out] at hr4 ⊢
    go_simp
    exact HK.out _ _ ⟨L,M,(fun k=>if k=27 then .slice A4 4 c4 else (fun k=>if k=26 then .int .i64 (H:Int) else v k) k),rfl,p0.out,p1.out,fun h h6=>ownB.later (p2.out h h6) hb,p3.out,fun _=>rfl,fun _ _=>⟨A4,c4,rfl,hr4⟩,fun h h6=>ownB.later (p6.out h h6) hb,p7.out,p8.out,p9.out,fun h=>⟨(p10.out h).1,Nat.lt_of_lt_of_le (p10.out h).2.1 hb.size,fun h15=>cellB hb ((p10.out h).2.2 h15)⟩,p11.out,p12.out,p13.out,p14.out,p15.out,p16.out,p17.out,fun h=>⟨(p18.out h).1,Nat.lt_of_lt_of_le (p18.out h).2.1 hb.size,fun h19=>RdB.later ((p18.out h).2.2 h19) hb⟩,fun h=>ownB.later (p19.out h) hb,fun h=>ownB.later (p20.out h) hb,q1.out,q2.out,d18.out,d19.out,d20.out,hB.out.trans (hb.mono hz0.out)⟩
   ·have f2:f 2=true:=he 2 (by kernel_rfl)
    have f5:f 5=true:=he 5 (by kernel_rfl)
    have hown:=p2.out f2 hf
    obtain ⟨A4,c4,e4,r4⟩:=p5.out f5 hf
    clear he
    refine wpOp_appendB rfl rfl (.tmp 24) (.tmp 27) rfl z (v 24) bw rfl hown w.heap.size 4 c4 A4 bh e4 r4 HBS.out.1 hz0.out (fun v' w' ho hg hb=>?_)
    exact ⟨L,M,(fun k=>if k=28 then v' else v k),rfl,p0.out,p1.out,fun _ h6=>Bool.noConfusion (show true=false from h6),p3.out,p4.out,fun _ h6=>Bool.noConfusion (show true=false from h6),fun _ _=>ho,p7.out,p8.out,p9.out,fun h=>⟨(p10.out h).1,Nat.lt_of_lt_of_le (p10.out h).2.1 hb.size,fun h15=>(hg.cell_far ⟨L,C - 1,none⟩ (p10.out h).2.1 (fun q=>q1.out f2 hf h q.symm)).trans ((p10.out h).2.2 h15)⟩,p11.out,p12.out,p13.out,p14.out,p15.out,p16.out,p17.out,fun h=>⟨(p18.out h).1,Nat.lt_of_lt_of_le (p18.out h).2.1 hb.size,fun h19=>Rd.here (rdB_far ((p18.out h).2.2 h19) hg (Nat.le_refl _) (fun a ea=>by injection ea with ea;subst ea;exact q2.out f2 hf h))⟩,fun h=>Bool.noConfusion (show true=false from (d19.out h).symm.trans (hf)),fun h=>Bool.noConfusion (show true=false from (d19.out (d20.out h)).symm.trans (hf)),fun _ h6 _=>Bool.noConfusion (show true=false from h6),fun _ h6 _=>Bool.noConfusion (show true=false from h6),d18.out,fun _=>rfl,d20.out,hB.out.trans hb⟩
   ·clear he
    refine wpOp_plainK rfl rfl (fun K HK=>?_)
    dsimp only
    go_simp
    exact HK.out _ _ ⟨L,M,(fun k=>if k=29 then .pointer (some ⟨g,3,none⟩) else v k),rfl,p0.out,p1.out,p2.out,p3.out,p4.out,p5.out,p6.out,fun _=>rfl,p8.out,p9.out,p10.out,p11.out,p12.out,p13.out,p14.out,p15.out,p16.out,p17.out,p18.out,p19.out,p20.out,q1.out,q2.out,d18.out,d19.out,d20.out,hB.out⟩
   ·have f7:f 7=true:=he 7 (by kernel_rfl)
    have r7:=p7.out f7
    have cc:=cell_blw hB.out HGZ.out S3.out
    clear he
    refine wpOp_plainK rfl rfl (fun K HK=>?_)
    dsimp only
    rw [r7]
    clear r7
    go_simp
    exact HK.out _ _ ⟨L,M,(fun k=>if k=30 then .int .i64 (D:Int) else (fun k=>if k=29 then .pointer (some ⟨g,3,none⟩) else v k) k),rfl,p0.out,p1.out,p2.out,p3.out,p4.out,p5.out,p6.out,fun _=>rfl,fun _=>rfl,p9.out,p10.out,p11.out,p12.out,p13.out,p14.out,p15.out,p16.out,p17.out,p18.out,p19.out,p20.out,q1.out,q2.out,d18.out,d19.out,d20.out,hB.out⟩
   ·have f8:f 8=true:=he 8 (by kernel_rfl)
    have r8:=p8.out f8
    have HW:=HDD'.out
    clear he
    refine wpOp_plainK rfl rfl (fun K HK=>?_)
    dsimp only
    rw [r8]
    clear r8
    go_simp
    exact HK.out _ _ ⟨L,M,(fun k=>if k=31 then .int .u8 ((UInt8.ofNat D).toNat:Int) else (fun k=>if k=30 then .int .i64 (D:Int) else v k) k),rfl,p0.out,p1.out,p2.out,p3.out,p4.out,p5.out,p6.out,p7.out,fun _=>rfl,fun _=>rfl,p10.out,p11.out,p12.out,p13.out,p14.out,p15.out,p16.out,p17.out,p18.out,p19.out,p20.out,q1.out,q2.out,d18.out,d19.out,d20.out,hB.out⟩
   ·clear he
    refine wpOp_plainK rfl rfl (fun K HK=>?_)
    dsimp only
    go_simp
    have hb:Below w.heap.size w (w.alloc (.cells #[.int .u8 0,.int .u8 4,.int .u8 2,.int .u8 6] 5)):=(Below.refl w.heap.size w).alloc (Nat.le_refl _) _
    exact HK.out _ _ ⟨w.heap.size,M,(fun k=>if k=32 then .slice (some ⟨w.heap.size,0,none⟩) 4 4 else v k),rfl,p0.out,p1.out,fun h h6=>ownB.later (p2.out h h6) hb,p3.out,p4.out,fun h h6=>(p5.out h h6).elim fun A e1=>e1.elim fun c e2=>⟨A,c,e2.1,RdB.later e2.2 hb⟩,fun h h6=>ownB.later (p6.out h h6) hb,p7.out,p8.out,p9.out,fun _=>⟨rfl,(by rw [World.size_alloc];exact Nat.lt_succ_self _),fun _=>HC5.out w⟩,p11.out,p12.out,p13.out,fun h=>Bool.noConfusion (show true=false from ((p14.out h).2).symm.trans (hf)),p15.out,p16.out,p17.out,fun h=>⟨(p18.out h).1,Nat.lt_of_lt_of_le (p18.out h).2.1 hb.size,fun h19=>RdB.later ((p18.out h).2.2 h19) hb⟩,fun h=>ownB.later (p19.out h) hb,fun h=>ownB.later (p20.out h) hb,fun h2 h6 _=>ownB.apartB (p2.out h2 h6) (Or.inr (Nat.le_refl _)),q2.out,d18.out,d19.out,d20.out,hB.out.trans (hb.mono hz0.out)⟩
   ·clear he
    refine wpOp_plainK rfl rfl (fun K HK=>?_)
    dsimp only
    go_simp
    exact HK.out _ _ ⟨L,M,(fun k=>if k=33 then .pointer (some ⟨g,2,none⟩) else v k),rfl,p0.out,p1.out,p2.out,p3.out,p4.out,p5.out,p6.out,p7.out,p8.out,p9.out,p10.out,fun _=>rfl,p12.out,p13.out,p14.out,p15.out,p16.out,p17.out,p18.out,p19.out,p20.out,q1.out,q2.out,d18.out,d19.out,d20.out,hB.out⟩
   ·have f11:f 11=true:=he 11 (by kernel_rfl)
    have r11:=p11.out f11
    have cc:=cell_blw hB.out HGZ.out S2.out
    clear he
    refine wpOp_plainK rfl rfl (fun K HK=>?_)
    dsimp only
    rw [r11]
    clear r11
    go_simp
    exact HK.out _ _ ⟨L,M,(fun k=>if k=34 then .int .i64 (C:Int) else (fun k=>if k=33 then .pointer (some ⟨g,2,none⟩) else v k) k),rfl,p0.out,p1.out,p2.out,p3.out,p4.out,p5.out,p6.out,p7.out,p8.out,p9.out,p10.out,fun _=>rfl,fun _=>rfl,p13.out,p14.out,p15.out,p16.out,p17.out,p18.out,p19.out,p20.out,q1.out,q2.out,d18.out,d19.out,d20.out,hB.out⟩
   ·have f12:f 12=true:=he 12 (by kernel_rfl)
    have r12:=p12.out f12
    clear he
    refine wpOp_plainK rfl rfl (fun K HK=>?_)
    dsimp only
    rw [r12]
    clear r12
    rcases (show C=1∨C=2∨C=3∨C=4 by have:=HHC.out;omega) with rfl | rfl | rfl | rfl
    ·go_simp;exact HK.out _ _ ⟨L,M,(fun k=>if k=35 then .int .i64 (((1:Nat) - 1:Nat):Int) else (fun k=>if k=34 then .int .i64 ((1:Nat):Int) else v k) k),rfl,p0.out,p1.out,p2.out,p3.out,p4.out,p5.out,p6.out,p7.out,p8.out,p9.out,p10.out,p11.out,fun _=>rfl,fun _=>rfl,p14.out,p15.out,p16.out,p17.out,p18.out,p19.out,p20.out,q1.out,q2.out,d18.out,d19.out,d20.out,hB.out⟩
    ·go_simp;exact HK.out _ _ ⟨L,M,(fun k=>if k=35 then .int .i64 (((2:Nat) - 1:Nat):Int) else (fun k=>if k=34 then .int .i64 ((2:Nat):Int) else v k) k),rfl,p0.out,p1.out,p2.out,p3.out,p4.out,p5.out,p6.out,p7.out,p8.out,p9.out,p10.out,p11.out,fun _=>rfl,fun _=>rfl,p14.out,p15.out,p16.out,p17.out,p18.out,p19.out,p20.out,q1.out,q2.out,d18.out,d19.out,d20.out,hB.out⟩
    ·go_simp;exact HK.out _ _ ⟨L,M,(fun k=>if k=35 then .int .i64 (((3:Nat) - 1:Nat):Int) else (fun k=>if k=34 then .int .i64 ((3:Nat):Int) else v k) k),rfl,p0.out,p1.out,p2.out,p3.out,p4.out,p5.out,p6.out,p7.out,p8.out,p9.out,p10.out,p11.out,fun _=>rfl,fun _=>rfl,p14.out,p15.out,p16.out,p17.out,p18.out,p19.out,p20.out,q1.out,q2.out,d18.out,d19.out,d20.out,hB.out⟩
    ·go_simp;exact HK.out _ _ ⟨L,M,(fun k=>if k=35 then .int .i64 (((4:Nat) - 1:Nat):Int) else (fun k=>if k=34 then .int .i64 ((4:Nat):Int) else v k) k),rfl,p0.out,p1.out,p2.out,p3.out,p4.out,p5.out,p6.out,p7.out,p8.out,p9.out,p10.out,p11.out,fun _=>rfl,fun _=>rfl,p14.out,p15.out,p16.out,p17.out,p18.out,p19.out,p20.out,q1.out,q2.out,d18.out,d19.out,d20.out,hB.out⟩
   ·have f10:f 10=true:=he 10 (by kernel_rfl)
    have f13:f 13=true:=he 13 (by kernel_rfl)
    have r10:=p10.out f10
    have r13:=p13.out f13
    clear he
    refine wpOp_plainK rfl rfl (fun K HK=>?_)
    dsimp only
    rw [r10.1,r13]
    clear r10 r13
    rcases (show C=1∨C=2∨C=3∨C=4 by have:=HHC.out;omega) with rfl | rfl | rfl | rfl
    ·go_simp;exact HK.out _ _ ⟨L,M,(fun k=>if k=36 then .pointer (some ⟨L,(1:Nat) - 1,none⟩) else (fun k=>if k=35 then .int .i64 (((1:Nat) - 1:Nat):Int) else (fun k=>if k=32 then .slice (some ⟨L,0,none⟩) 4 4 else v k) k) k),rfl,p0.out,p1.out,p2.out,p3.out,p4.out,p5.out,p6.out,p7.out,p8.out,p9.out,fun h=>⟨rfl,(p10.out h).2.1,(p10.out h).2.2⟩,p11.out,p12.out,fun _=>rfl,fun _=>⟨rfl,f10⟩,p15.out,p16.out,p17.out,p18.out,p19.out,p20.out,q1.out,q2.out,d18.out,d19.out,d20.out,hB.out⟩
    ·go_simp;exact HK.out _ _ ⟨L,M,(fun k=>if k=36 then .pointer (some ⟨L,(2:Nat) - 1,none⟩) else (fun k=>if k=35 then .int .i64 (((2:Nat) - 1:Nat):Int) else (fun k=>if k=32 then .slice (some ⟨L,0,none⟩) 4 4 else v k) k) k),rfl,p0.out,p1.out,p2.out,p3.out,p4.out,p5.out,p6.out,p7.out,p8.out,p9.out,fun h=>⟨rfl,(p10.out h).2.1,(p10.out h).2.2⟩,p11.out,p12.out,fun _=>rfl,fun _=>⟨rfl,f10⟩,p15.out,p16.out,p17.out,p18.out,p19.out,p20.out,q1.out,q2.out,d18.out,d19.out,d20.out,hB.out⟩
    ·go_simp;exact HK.out _ _ ⟨L,M,(fun k=>if k=36 then .pointer (some ⟨L,(3:Nat) - 1,none⟩) else (fun k=>if k=35 then .int .i64 (((3:Nat) - 1:Nat):Int) else (fun k=>if k=32 then .slice (some ⟨L,0,none⟩) 4 4 else v k) k) k),rfl,p0.out,p1.out,p2.out,p3.out,p4.out,p5.out,p6.out,p7.out,p8.out,p9.out,fun h=>⟨rfl,(p10.out h).2.1,(p10.out h).2.2⟩,p11.out,p12.out,fun _=>rfl,fun _=>⟨rfl,f10⟩,p15.out,p16.out,p17.out,p18.out,p19.out,p20.out,q1.out,q2.out,d18.out,d19.out,d20.out,hB.out⟩
    ·go_simp;exact HK.out _ _ ⟨L,M,(fun k=>if k=36 then .pointer (some ⟨L,(4:Nat) - 1,none⟩) else (fun k=>if k=35 then .int .i64 (((4:Nat) - 1:Nat):Int) else (fun k=>if k=32 then .slice (some ⟨L,0,none⟩) 4 4 else v k) k) k),rfl,p0.out,p1.out,p2.out,p3.out,p4.out,p5.out,p6.out,p7.out,p8.out,p9.out,fun h=>⟨rfl,(p10.out h).2.1,(p10.out h).2.2⟩,p11.out,p12.out,fun _=>rfl,fun _=>⟨rfl,f10⟩,p15.out,p16.out,p17.out,p18.out,p19.out,p20.out,q1.out,q2.out,d18.out,d19.out,d20.out,hB.out⟩
   ·have f14:f 14=true:=he 14 (by kernel_rfl)
    have r14:=p14.out f14
    have cc:=(p10.out (p14.out f14).2).2.2 hf
    clear he
    refine wpOp_plainK rfl rfl (fun K HK=>?_)
    dsimp only
    rw [r14.1]
    clear r14
    go_simp
    exact HK.out _ _ ⟨L,M,(fun k=>if k=37 then .int .u8 ((colV C).toNat:Int) else (fun k=>if k=36 then .pointer (some ⟨L,C - 1,none⟩) else v k) k),rfl,p0.out,p1.out,p2.out,p3.out,p4.out,p5.out,p6.out,p7.out,p8.out,p9.out,fun h=>⟨(p10.out h).1,(p10.out h).2.1,fun h15=>Bool.noConfusion (show true=false from h15)⟩,p11.out,p12.out,p13.out,fun h=>⟨rfl,(p14.out h).2⟩,fun _=>rfl,p16.out,p17.out,p18.out,p19.out,p20.out,q1.out,q2.out,fun _=>rfl,d19.out,d20.out,hB.out⟩
   ·clear he
    refine wpOp_plainK rfl rfl (fun K HK=>?_)
    dsimp only
    go_simp
    exact HK.out _ _ ⟨L,M,(fun k=>if k=38 then .int .i64 (la:Int) else v k),rfl,p0.out,p1.out,p2.out,p3.out,p4.out,p5.out,p6.out,p7.out,p8.out,p9.out,p10.out,p11.out,p12.out,p13.out,p14.out,p15.out,fun _=>rfl,p17.out,p18.out,p19.out,p20.out,q1.out,q2.out,d18.out,d19.out,d20.out,hB.out⟩
   ·have f16:f 16=true:=he 16 (by kernel_rfl)
    have r16:=p16.out f16
    have HW:=HLL'.out
    clear he
    refine wpOp_plainK rfl rfl (fun K HK=>?_)
    dsimp only
    rw [r16]
    clear r16
    go_simp
    exact HK.out _ _ ⟨L,M,(fun k=>if k=39 then .int .u8 ((UInt8.ofNat la).toNat:Int) else (fun k=>if k=38 then .int .i64 (la:Int) else v k) k),rfl,p0.out,p1.out,p2.out,p3.out,p4.out,p5.out,p6.out,p7.out,p8.out,p9.out,p10.out,p11.out,p12.out,p13.out,p14.out,p15.out,fun _=>rfl,fun _=>rfl,p18.out,p19.out,p20.out,q1.out,q2.out,d18.out,d19.out,d20.out,hB.out⟩
   ·have f9:f 9=true:=he 9 (by kernel_rfl)
    have f15:f 15=true:=he 15 (by kernel_rfl)
    have f17:f 17=true:=he 17 (by kernel_rfl)
    have r9:=p9.out f9
    have r15:=p15.out f15
    have r17:=p17.out f17
    clear he
    refine wpOp_plainK rfl rfl (fun K HK=>?_)
    dsimp only
    rw [r9,r15,r17]
    clear r9 r15 r17
    go_simp
    have hb:Below w.heap.size w (w.alloc (.cells #[.int .u8 ((UInt8.ofNat D).toNat:Int),.int .u8 ((colV C).toNat:Int),.int .u8 0,.int .u8 0,.int .u8 ((UInt8.ofNat la).toNat:Int)] 5)):=(Below.refl w.heap.size w).alloc (Nat.le_refl _) _
    exact HK.out _ _ ⟨L,w.heap.size,(fun k=>if k=40 then .slice (some ⟨w.heap.size,0,none⟩) 5 5 else (fun k=>if k=39 then .int .u8 ((UInt8.ofNat la).toNat:Int) else (fun k=>if k=37 then .int .u8 ((colV C).toNat:Int) else (fun k=>if k=31 then .int .u8 ((UInt8.ofNat D).toNat:Int) else v k) k) k) k),rfl,p0.out,p1.out,fun h h6=>ownB.later (p2.out h h6) hb,p3.out,p4.out,fun h h6=>(p5.out h h6).elim fun A e1=>e1.elim fun c e2=>⟨A,c,e2.1,RdB.later e2.2 hb⟩,fun h h6=>ownB.later (p6.out h h6) hb,p7.out,p8.out,fun _=>rfl,fun h=>⟨(p10.out h).1,Nat.lt_of_lt_of_le (p10.out h).2.1 hb.size,fun h15=>cellB hb ((p10.out h).2.2 h15)⟩,p11.out,p12.out,p13.out,p14.out,fun _=>rfl,p16.out,fun _=>rfl,fun _=>⟨rfl,(by rw [World.size_alloc];exact Nat.lt_succ_self _),fun _=>HTL.out w⟩,fun h=>ownB.later (p19.out h) hb,fun h=>ownB.later (p20.out h) hb,q1.out,fun h2 h6 _=>ownB.apartB (p2.out h2 h6) (Or.inr (Nat.le_refl _)),fun _=>f15,d19.out,d20.out,hB.out.trans (hb.mono hz0.out)⟩
   ·have f6:f 6=true:=he 6 (by kernel_rfl)
    have f18:f 18=true:=he 18 (by kernel_rfl)
    have hown:=p6.out f6 hf
    have r18:=p18.out f18
    clear he
    refine wpOp_appendB rfl rfl (.tmp 28) (.tmp 40) rfl z (v 28) (bw ++ bh) rfl hown w.heap.size 5 5 (some ⟨M,0,none⟩) _ r18.1 (r18.2.2 hf) HBS.out.2 hz0.out (fun v' w' ho hg hb=>?_)
    exact ⟨L,M,(fun k=>if k=41 then v' else v k),rfl,p0.out,p1.out,fun _ h6=>Bool.noConfusion (show true=false from (f6).symm.trans (h6)),p3.out,p4.out,fun _ h6=>Bool.noConfusion (show true=false from (f6).symm.trans (h6)),fun _ h19=>Bool.noConfusion (show true=false from h19),p7.out,p8.out,p9.out,fun h=>⟨(p10.out h).1,Nat.lt_of_lt_of_le (p10.out h).2.1 hb.size,fun h15=>Bool.noConfusion (show true=false from (d18.out f18).symm.trans (h15))⟩,p11.out,p12.out,p13.out,p14.out,p15.out,p16.out,p17.out,fun h=>⟨(p18.out h).1,Nat.lt_of_lt_of_le (p18.out h).2.1 hb.size,fun h19=>Bool.noConfusion (show true=false from h19)⟩,fun _=>ho,fun h=>Bool.noConfusion (show true=false from (d20.out h).symm.trans (hf)),q1.out,q2.out,d18.out,fun _=>f6,fun _=>rfl,hB.out.trans hb⟩
   ·have f19:f 19=true:=he 19 (by kernel_rfl)
    clear he
    refine wpOp_plainK rfl rfl (fun K HK=>?_)
    dsimp only
    go_simp
    exact HK.out _ _ ⟨L,M,(fun k=>if k=11 then v 41 else v k),rfl,p0.out,p1.out,p2.out,p3.out,p4.out,p5.out,p6.out,p7.out,p8.out,p9.out,p10.out,p11.out,p12.out,p13.out,p14.out,p15.out,p16.out,p17.out,p18.out,p19.out,fun _=>p19.out f19,q1.out,q2.out,d18.out,d19.out,fun _=>f19,hB.out⟩
  ·intro f a w' hf hI
   obtain ⟨L,M,v,rfl,p0,p1,p2,p3,p4,p5,p6,p7,p8,p9,p10,p11,p12,p13,p14,p15,p16,p17,p18,p19,p20,q1,q2,d18,d19,d20,hB⟩:=hI
   have r20:=Lib.hid (p20 (hf 20 (by decide)))
   have HBE:=Lib.hid hB
   clear p0 p1 p2 p3 p4 p5 p6 p7 p8 p9 p10 p11 p12 p13 p14 p15 p16 p17 p18 p19 p20 q1 q2 d18 d19 d20 hB hf
   go_wp2_with fail
   go_meet
   case rel=>exact ⟨r20,HBE⟩
 case rest =>
  obtain ⟨ho11,hb11⟩:=hcut
  have hl11:(bw ++ bh ++ [UInt8.ofNat D,colV C,0,0,UInt8.ofNat la]).length=13:=by rw [List.length_append,List.length_append,HWL.out,HHL.out];rfl
  obtain ⟨hd,hhd⟩:∃ hd,bw ++ bh ++ [UInt8.ofNat D,colV C,0,0,UInt8.ofNat la]=hd:=⟨_,rfl⟩
  rw [hhd] at ho11 hl11 HHD
  obtain ⟨A11,c11,hv11,hr11,-,-⟩:=ho11.out.form
  rw [hl11] at hv11 hr11
  subst hv11
  have hzc:z≤wc.heap.size:=by have:=hb11.out.size;have:=HZE.out;omega
  have HDc:=Lib.hid (RdB.blw HDs.out (hb11.out.mono (Nat.le_of_lt hgz)))
  have HBc:=Lib.hid (HBs.out.trans (hb11.out.mono (by omega)))
  have HR11:=Lib.hid hr11
  have hd1:(chP [73,72,68,82] hd).length=25:=by unfold chP;rw [List.length_append,List.length_append,List.length_append,beB_len,beB_len,hl11];rfl
  have hd2:(chP [73,68,65,84] zl).length=n2+12:=by unfold chP;rw [List.length_append,List.length_append,List.length_append,beB_len,beB_len,hn2];show 4+(4+n2)+4=_;omega
  have hd3:(chP [73,69,78,68] []).length=12:=by unfold chP;rw [List.length_append,List.length_append,List.length_append,beB_len,beB_len];rfl
  have HC1:=Lib.hid (fun w (h:RdB w w.heap.size A11 13 hd)=>chunk9_any w.heap.size 13 c11 A11 hd [73,72,68,82] ⟨#[73,72,68,82]⟩ w rfl rfl h (Nat.le_refl _) (by omega))
  have HC2:=Lib.hid (fun w (h:RdB w g A2 n2 zl) (hw:g≤w.heap.size)=>chunk9_any g n2 c2 A2 zl [73,68,65,84] ⟨#[73,68,65,84]⟩ w rfl rfl h hw (by omega))
  have HC3:=Lib.hid (fun w=>chunk9_any 0 0 0 none [] [73,69,78,68] ⟨#[73,69,78,68]⟩ w rfl rfl rdB_nil0 (Nat.zero_le _) (by omega))
  have HF:Hid (fileP hd zl=[137,80,78,71,13,10,26,10] ++ chP [73,72,68,82] hd ++ chP [73,68,65,84] zl ++ chP [73,69,78,68] []):=(show _=_ by unfold fileP;rw [ckL_eq,ckL_eq,ckL_eq])
  have HMG:=Lib.hid (fun w=>magic9_any w)
  obtain ⟨MG,hMG⟩:∃ l:List UInt8,[137,80,78,71,13,10,26,10]=l:=⟨_,rfl⟩
  have hml:MG.length=8:=by rw [← hMG];rfl
  rw [hMG] at HF HMG
  generalize chP [73,72,68,82] hd=D1 at *
  generalize chP [73,68,65,84] zl=D2 at *
  generalize chP [73,69,78,68] []=D3 at *
  have hq1:MG.length+25≤140737488355328:=by rw [hml];decide
  have hq2:(MG ++ D1).length+(n2+12)≤140737488355328:=by rw [List.length_append,hml,hd1];omega
  have hq3:(MG ++ D1 ++ D2).length+12≤140737488355328:=by rw [List.length_append,List.length_append,hml,hd1,hd2];omega
  have hgz':g≤z:=by omega
  have hbz':bk≤z:=by omega
  have HH1:=Lib.hid hd1
  have HH2:=Lib.hid hd2
  have HH3:=Lib.hid hd3
  clear hr11 hd1 hd2 hd3 hhd hl11 hMG hml hzl hn2 HPK HC5 HC5z HA1 HA2 HAs s0 s1 s2 s3
  go_wp2_with (first
   | (go_at_call 88;(with_reducible refine (HMG.out _).mono ?_);go_must (rintro e w12 ⟨v12,rfl,ho12,hb12⟩;have hz12:z≤w12.heap.size:=Nat.le_trans hzc hb12.size;have HO12:=Lib.hid (ho12.mono hzc);have HR12:=Lib.hid (RdB.later HR11.out hb12);have HD12:=Lib.hid (RdB.blw HDc.out (hb12.mono (Nat.le_trans hgz' hzc)));have HB12:=Lib.hid (HBc.out.trans (hb12.mono (Nat.le_trans hbz' hzc)));clear ho12 hb12))
   | (go_at_call 89;(with_reducible refine (HC1.out _ HR12.out).mono ?_);go_must (rintro e w13 ⟨v13,rfl,ho13,hb13⟩;obtain ⟨A13,c13,hv13,hr13,-,-⟩:=ho13.form;rw [HH1.out] at hv13 hr13;subst hv13;have HR13:=Lib.hid hr13;have hz13:z≤w13.heap.size:=Nat.le_trans hz12 hb13.size;have HO13:=Lib.hid (ownB.later HO12.out hb13);have HD13:=Lib.hid (RdB.blw HD12.out (hb13.mono (Nat.le_trans hgz' hz12)));have HB13:=Lib.hid (HB12.out.trans (hb13.mono (Nat.le_trans hbz' hz12)));clear ho13 hb13 hr13))
   | (at_builtin;(refine wpList_appendB rfl (.tmp 42) (.tmp 44) rfl z v12 MG rfl HO13.out _ 25 c13 A13 D1 rfl HR13.out hq1 hz13 ?_;intro v14 w14 ho14 hg14 hb14 ha14;have HO14:=Lib.hid ho14;have hz14:z≤w14.heap.size:=Nat.le_trans hz13 hb14.size;have HD14:=Lib.hid (RdB.blw HD13.out (hb14.mono hgz'));have HC24:=Lib.hid (HC2.out w14 HD14.out (Nat.le_trans hgz' hz14));have HB14:=Lib.hid (HB13.out.trans (hb14.mono hbz'));clear ho14 hg14 hb14 ha14))
   | (go_at_call 89;(with_reducible refine HC24.out.mono ?_);go_must (rintro e w15 ⟨v15,rfl,ho15,hb15⟩;obtain ⟨A15,c15,hv15,hr15,-,-⟩:=ho15.form;rw [HH2.out] at hv15 hr15;subst hv15;have HR15:=Lib.hid hr15;have hz15:z≤w15.heap.size:=Nat.le_trans hz14 hb15.size;have HO15:=Lib.hid (ownB.later HO14.out hb15);have HB15:=Lib.hid (HB14.out.trans (hb15.mono (Nat.le_trans hbz' hz14)));clear ho15 hb15 hr15))
   | (at_builtin;(refine wpList_appendB rfl (.tmp 45) (.tmp 47) rfl z v14 (MG ++ D1) rfl HO15.out _ (n2+12) c15 A15 D2 rfl HR15.out hq2 hz15 ?_;intro v16 w16 ho16 hg16 hb16 ha16;have HO16:=Lib.hid ho16;have hz16:z≤w16.heap.size:=Nat.le_trans hz15 hb16.size;have HB16:=Lib.hid (HB15.out.trans (hb16.mono hbz'));clear ho16 hg16 hb16 ha16))
   | (go_at_call 89;(with_reducible refine (HC3.out w16).mono ?_);go_must (rintro e w17 ⟨v17,rfl,ho17,hb17⟩;obtain ⟨A17,c17,hv17,hr17,-,-⟩:=ho17.form;rw [HH3.out] at hv17 hr17;subst hv17;have HR17:=Lib.hid hr17;have hz17:z≤w17.heap.size:=Nat.le_trans hz16 hb17.size;have HO17:=Lib.hid (ownB.later HO16.out hb17);have HB17:=Lib.hid (HB16.out.trans (hb17.mono (Nat.le_trans hbz' hz16)));clear ho17 hb17 hr17))
   | (at_builtin;(refine wpList_appendB rfl (.tmp 48) (.tmp 49) rfl z v16 (MG ++ D1 ++ D2) rfl HO17.out _ 12 c17 A17 D3 rfl HR17.out hq3 hz17 ?_;intro v18 w18 ho18 hg18 hb18 ha18;have HO18:=Lib.hid ho18;have HB18:=Lib.hid (HB17.out.trans (hb18.mono hbz'));clear ho18 hg18 hb18 ha18)))
  go_ret2
  refine ⟨v18,_,rfl,HO18.out.mono hbz',⟨zl,HZ2.out,?_⟩,HB18.out⟩
  rw [HHD.out,HF.out]
end Go.Proofs.YteoolehdomjkkaaGreat

/- png: the document's picture written. -/
namespace Go.Proofs.YteoolehdomjkkaaGreat
set_option linter.all false
open Go.RowKit
theorem file90_any (W H C D m c B n cn:Nat) (A A':Option Addr) (rs:List UInt8) (w:World) (h:RdB w B A' n rs) (hB:B≤w.heap.size) (hn:n≤40000) (hW:W≤256) (hH:H≤256) (hC:1≤C∧C≤4) (hD:D=8∨D=16) :
  Calls Tryz.prog 45 #[.agg #[.int .i64 (W:Int),.int .i64 (H:Int),.int .i64 (C:Int),.int .i64 (D:Int),.slice A m c],.int .i64 0,.slice A' n cn] w fun e w'=>∃ v l,e=.returned (.tuple #[v,.int .i64 0])∧ownB w' w.heap.size v l∧FileI (hdrL W H C D 0) rs l∧Below w.heap.size w w' :=
 file9_any W H C D 0 m c B n cn A A' rs w h hB hn hW hH hC hD (.inl rfl)
theorem file91_any (W H C D m c B n cn:Nat) (A A':Option Addr) (rs:List UInt8) (w:World) (h:RdB w B A' n rs) (hB:B≤w.heap.size) (hn:n≤40000) (hW:W≤256) (hH:H≤256) (hC:1≤C∧C≤4) (hD:D=8∨D=16) :
  Calls Tryz.prog 45 #[.agg #[.int .i64 (W:Int),.int .i64 (H:Int),.int .i64 (C:Int),.int .i64 (D:Int),.slice A m c],.int .i64 1,.slice A' n cn] w fun e w'=>∃ v l,e=.returned (.tuple #[v,.int .i64 0])∧ownB w' w.heap.size v l∧FileI (hdrL W H C D 1) rs l∧Below w.heap.size w w' :=
 file9_any W H C D 1 m c B n cn A A' rs w h hB hn hW hH hC hD (.inr rfl)
set_option maxRecDepth 100000 in
theorem png9_bad (s:Sh) (m c:Nat) (A:Option Addr) (w:World) (hm:s.mayR m=false) :
  Calls Tryz.prog 14 #[.agg #[.int .i64 s.w,.int .i64 s.h,.int .i64 s.c,.int .i64 s.d,.slice A m c]] w fun e w'=>e=.returned (.tuple #[.slice none 0 0,.int .i64 4])∧Below w.heap.size w w':=by
 obtain ⟨W,H,C,D⟩:=s
 show Calls _ _ #[.agg #[.int .i64 W,.int .i64 H,.int .i64 C,.int .i64 D,.slice A m c]] w _
 have HMY:=Lib.hid (fun w=>may9_any ⟨W,H,C,D⟩ A m c w)
 rw [hm] at HMY
 dsimp only [Sh.r] at HMY
 go_enter Tryz.func14,Tryz.ntmps14
 go_wp2_with (go_at_call 44;(with_reducible refine (HMY.out _).mono ?_);go_must (rintro e w2 ⟨rfl,hb2⟩;have HB2:=Lib.hid (bxd hb2);clear hb2))
 go_ret2
 exact ⟨rfl,HB2.out⟩
set_option maxRecDepth 100000 in
theorem lace9_bad (s:Sh) (m c:Nat) (A:Option Addr) (w:World) (hm:s.mayR m=false) :
  Calls Tryz.prog 16 #[.agg #[.int .i64 s.w,.int .i64 s.h,.int .i64 s.c,.int .i64 s.d,.slice A m c]] w fun e w'=>e=.returned (.tuple #[.slice none 0 0,.int .i64 4])∧Below w.heap.size w w':=by
 obtain ⟨W,H,C,D⟩:=s
 show Calls _ _ #[.agg #[.int .i64 W,.int .i64 H,.int .i64 C,.int .i64 D,.slice A m c]] w _
 have HMY:=Lib.hid (fun w=>may9_any ⟨W,H,C,D⟩ A m c w)
 rw [hm] at HMY
 dsimp only [Sh.r] at HMY
 go_enter Tryz.func16,Tryz.ntmps16
 go_wp2_with (go_at_call 44;(with_reducible refine (HMY.out _).mono ?_);go_must (rintro e w2 ⟨rfl,hb2⟩;have HB2:=Lib.hid (bxd hb2);clear hb2))
 go_ret2
 exact ⟨rfl,HB2.out⟩
set_option maxRecDepth 100000 in
set_option maxHeartbeats 6400000 in
theorem png9_any (W H C D K m c B:Nat) (A:Option Addr) (bs:List UInt8) (w:World) (hs:PS W H C D K) (hz:H * (W * K)≤16384) (h:RdB w B A m bs) (hB:B≤w.heap.size) (hm:m=H * (W * K)) (hcap:m≤c) :
  Calls Tryz.prog 14 #[.agg #[.int .i64 (W:Int),.int .i64 (H:Int),.int .i64 (C:Int),.int .i64 (D:Int),.slice A m c]] w fun e w'=>∃ v l,e=.returned (.tuple #[v,.int .i64 0])∧ownB w' w.heap.size v l∧FileI (hdrL W H C D 0) (flF K (W * K) bs H) l∧Below w.heap.size w w':=by
 obtain ⟨w1,hw1⟩:∃ w1,w.alloc (.cells #[.int .i64 (W:Int),.int .i64 (H:Int),.int .i64 (C:Int),.int .i64 (D:Int),.slice A m c] 26)=w1:=⟨_,rfl⟩
 obtain ⟨bk,hbk⟩:∃ b,w.heap.size=b:=⟨_,rfl⟩
 have HA1:Hid (Arr w1 bk [.int .i64 (W:Int),.int .i64 (H:Int),.int .i64 (C:Int),.int .i64 (D:Int),.slice A m c]):=(show Arr _ _ _ by rw [← hw1,← hbk];exact Arr.new w [.int .i64 (W:Int),.int .i64 (H:Int),.int .i64 (C:Int),.int .i64 (D:Int),.slice A m c] _)
 have HR1:Hid (RdB w1 B A m bs):=(show RdB _ _ _ _ _ by rw [← hw1];exact Rd.alloc h hB _)
 have HB1:Hid (Below bk w w1):=(show Below _ _ _ by rw [← hw1,← hbk];exact (Below.refl w.heap.size w).alloc (Nat.le_refl _) _)
 have hz1:w1.heap.size=bk+1:=by rw [← hw1,World.size_alloc,hbk]
 have HMY:=Lib.hid (fun w=>may9_any ⟨W,H,C,D⟩ A m c w)
 have hmr:=hs.mayR hz
 rw [← hm] at hmr
 rw [hmr] at HMY
 dsimp only [Sh.r] at HMY
 have hlen:=h.len
 have hfl:(flF K (W * K) bs H).length≤20000:=by
  rw [flF_len hs.k1 hs.k8 H (by rw [hlen,hm];exact Nat.le_refl _),Nat.mul_add,Nat.mul_one]
  have:=hs.h2
  omega
 have HFI:=Lib.hid (fun w2 (h:RdB w2 B A m bs) (hB:B≤w2.heap.size)=>rows9_any W H C D K m c B A bs w2 hs.nums hs.k h hB hm hcap (by omega))
 have HFL:=Lib.hid (fun w3 A3 n3 c3 rs (h:RdB w3 w3.heap.size A3 n3 rs) (hn:n3≤40000)=>file90_any W H C D m c w3.heap.size n3 c3 A A3 rs w3 h (Nat.le_refl _) hn hs.w2 hs.h2 ⟨hs.c1,hs.c2⟩ hs.d)
 generalize flF K (W * K) bs H=F at *
 have HFN:=Lib.hid hfl
 have a0:=HA1.out.cell (k:=0) rfl
 have a1:=HA1.out.cell (k:=1) rfl
 have a2:=HA1.out.cell (k:=2) rfl
 have a3:=HA1.out.cell (k:=3) rfl
 have a4:=HA1.out.cell (k:=4) rfl
 clear h hm hs hz hmr hlen hfl
 rw [hbk] at hB
 go_enter Tryz.func14,Tryz.ntmps14
 simp only [hw1,hbk]
 go_upto_region 3 with (go_at_call 44;(with_reducible refine (HMY.out _).mono ?_);go_must (rintro e w2 ⟨rfl,hb2⟩;have HA2:=Lib.hid (HA1.out.later hb2);have hz2:=hb2.size;have HR2:=Lib.hid (RdB.blw HR1.out (hb2.mono (by omega)));have HB2:=Lib.hid (HB1.out.trans (hb2.mono (by omega)));clear hb2 a0 a1 a2 a3 a4))
 have HFI2:=Lib.hid (HFI.out w2.drew HR2.out (show B≤w2.heap.size by omega))
 have HAd:Hid (Arr w2.drew bk [.int .i64 (W:Int),.int .i64 (H:Int),.int .i64 (C:Int),.int .i64 (D:Int),.slice A m c]):=HA2.out
 have b0:=HAd.out.cell (k:=0) rfl
 have b1:=HAd.out.cell (k:=1) rfl
 have b2:=HAd.out.cell (k:=2) rfl
 have b3:=HAd.out.cell (k:=3) rfl
 have b4:=HAd.out.cell (k:=4) rfl
 have hbz:bk≤w2.drew.heap.size:=by show bk≤w2.heap.size;omega
 have HBd:Hid (Below bk w w2.drew):=(show Below _ _ _ from Below.drew HB2.out)
 have HZ:=Lib.hid hbz
 clear HR1 HR2 HA1 HA2 HB1 HB2 hw1
 go_region_held3 (fun w'=>w'.cell? ⟨bk,0,none⟩=some (.int .i64 (W:Int))∧w'.cell? ⟨bk,1,none⟩=some (.int .i64 (H:Int))∧w'.cell? ⟨bk,2,none⟩=some (.int .i64 (C:Int))∧w'.cell? ⟨bk,3,none⟩=some (.int .i64 (D:Int))∧w'.cell? ⟨bk,4,none⟩=some (.slice A m c))
  (first | (with_reducible exact ⟨b0,b1,b2,b3,b4⟩) | (with_reducible exact ⟨d0,d1,d2,d3,d4⟩) | (with_reducible exact ⟨e0,e1,e2,e3,e4⟩) | go_keep)
  (first
  | (go_at_call 46;(with_reducible refine HFI2.out.mono ?_);go_must (rintro e w3 ⟨v3,rfl,ho3,hb3⟩;obtain ⟨A3,c3,rfl,hr3,hc3,-⟩:=ho3.form;have HA3:=Lib.hid (HAd.out.later hb3);have HFL3:=Lib.hid (HFL.out w3 A3 F.length c3 F hr3 (Nat.le_trans HFN.out (by decide)));have d0:=HA3.out.cell (k:=0) rfl;have d1:=HA3.out.cell (k:=1) rfl;have d2:=HA3.out.cell (k:=2) rfl;have d3:=HA3.out.cell (k:=3) rfl;have d4:=HA3.out.cell (k:=4) rfl;have HB3:=Lib.hid (HBd.out.trans (hb3.mono hbz));have hz3:bk≤w3.heap.size:=Nat.le_trans hbz hb3.size;clear ho3 hb3 hr3))
  | (go_at_call 45;(with_reducible refine HFL3.out.mono ?_);go_must (rintro e w4 ⟨v4,l,rfl,ho4,hi4,hb4⟩;have HA4:=Lib.hid (HA3.out.later hb4);have e0:=HA4.out.cell (k:=0) rfl;have e1:=HA4.out.cell (k:=1) rfl;have e2:=HA4.out.cell (k:=2) rfl;have e3:=HA4.out.cell (k:=3) rfl;have e4:=HA4.out.cell (k:=4) rfl;have HO4:=Lib.hid (ho4.mono hz3);have HI4:=Lib.hid hi4;have HB4:=Lib.hid (HB3.out.trans (hb4.mono hz3));clear ho4 hb4 hi4)))
 all_goals
  go_wp2_with fail
  go_ret2
  exact ⟨v4,l,rfl,HO4.out,HI4.out,HB4.out⟩
end Go.Proofs.YteoolehdomjkkaaGreat

/- png: the document's picture written in passes. -/
namespace Go.Proofs.YteoolehdomjkkaaGreat
set_option linter.all false
open Go.RowKit
set_option maxRecDepth 100000 in
set_option maxHeartbeats 6400000 in
theorem lace9_any (W H C D K m c B:Nat) (A:Option Addr) (bs:List UInt8) (w:World) (hs:PS W H C D K) (hz:H * (W * K)≤16384) (h:RdB w B A m bs) (hB:B≤w.heap.size) (hm:m=H * (W * K)) (hcap:m≤c) :
  Calls Tryz.prog 16 #[.agg #[.int .i64 (W:Int),.int .i64 (H:Int),.int .i64 (C:Int),.int .i64 (D:Int),.slice A m c]] w fun e w'=>∃ v l,e=.returned (.tuple #[v,.int .i64 0])∧ownB w' w.heap.size v l∧FileI (hdrL W H C D 1) (lcF W H K bs 7) l∧Below w.heap.size w w':=by
 obtain ⟨F7,hF7⟩:∃ F,lcF W H K bs 7=F:=⟨_,rfl⟩
 have HF7:=Lib.hid hF7
 rw [hF7]
 clear hF7
 obtain ⟨w1,hw1⟩:∃ w1,w.alloc (.cells #[.int .i64 (W:Int),.int .i64 (H:Int),.int .i64 (C:Int),.int .i64 (D:Int),.slice A m c] 26)=w1:=⟨_,rfl⟩
 obtain ⟨bk,hbk⟩:∃ b,w.heap.size=b:=⟨_,rfl⟩
 have HA1:Hid (Arr w1 bk [.int .i64 (W:Int),.int .i64 (H:Int),.int .i64 (C:Int),.int .i64 (D:Int),.slice A m c]):=(show Arr _ _ _ by rw [← hw1,← hbk];exact Arr.new w [.int .i64 (W:Int),.int .i64 (H:Int),.int .i64 (C:Int),.int .i64 (D:Int),.slice A m c] _)
 have HR1:Hid (RdB w1 B A m bs):=(show RdB _ _ _ _ _ by rw [← hw1];exact Rd.alloc h hB _)
 have HB1:Hid (Below bk w w1):=(show Below _ _ _ by rw [← hw1,← hbk];exact (Below.refl w.heap.size w).alloc (Nat.le_refl _) _)
 have hz1:w1.heap.size=bk+1:=by rw [← hw1,World.size_alloc,hbk]
 have HMY:=Lib.hid (fun w=>may9_any ⟨W,H,C,D⟩ A m c w)
 have hmr:=hs.mayR hz
 rw [← hm] at hmr
 rw [hmr] at HMY
 dsimp only [Sh.r] at HMY
 have hlen:=h.len
 have HLEN:Hid (bs.length=H * (W * K)):=(show _=_ by rw [hlen,hm])
 have HS:=Lib.hid hs
 have HZZ:=Lib.hid hz
 have hm1:1≤m:=by
  rw [hm]
  exact Nat.mul_le_mul hs.h1 (Nat.mul_le_mul hs.w1 hs.k1)
 have HPK:=Lib.hid (fun k pw ph w2 (h:RdB w2 B A m bs) (hB:B≤w2.heap.size) (h1:1≤k) (h7:k≤7) (hpe:passW W H k=pw) (hpf:passH W H k=ph)=>pass9s_any W H C D K m c B pw ph k A bs w2 hs hz h hB hm hm1 hcap ⟨h1,h7⟩ (by rw [← hpe];exact (pass_le W H k hs.w2 hs.h2).1) (by rw [← hpf];exact (pass_le W H k hs.w2 hs.h2).2.1) hpe hpf (by rw [← hpe];exact pass_in.1) (by rw [← hpf];exact pass_in.2))
 have HFL:=Lib.hid (fun w3 A3 n3 c3 rs (h:RdB w3 w3.heap.size A3 n3 rs) (hn:n3≤40000)=>file91_any W H C D m c w3.heap.size n3 c3 A A3 rs w3 h (Nat.le_refl _) hn hs.w2 hs.h2 ⟨hs.c1,hs.c2⟩ hs.d)
 have a0:=HA1.out.cell (k:=0) rfl
 have a1:=HA1.out.cell (k:=1) rfl
 have a2:=HA1.out.cell (k:=2) rfl
 have a3:=HA1.out.cell (k:=3) rfl
 have a4:=HA1.out.cell (k:=4) rfl
 clear h hs hz hmr hlen hm
 rw [hbk] at hB
 go_enter Tryz.func16,Tryz.ntmps16
 simp only [hw1,hbk]
 go_wp2_with (go_at_call 44;(with_reducible refine (HMY.out _).mono ?_);go_must (rintro e w2 ⟨rfl,hb2⟩;have HA2:=Lib.hid (HA1.out.later hb2);have hz2:=hb2.size;have HR2:=Lib.hid (RdB.blw HR1.out (hb2.mono (by omega)));have HB2:=Lib.hid (HB1.out.trans (hb2.mono (by omega)));clear hb2 a0 a1 a2 a3 a4))
 clear hw1 HA1 HR1 HB1
 have HO0:=Lib.hid (ownB.nil_ w2 (bk+1))
 have HZ0:Hid (bk+1≤w2.heap.size):=(show _≤_ by omega)
 go_loopw [5,4] (fun vk vo wr=>∃ (q:Nat),1≤q∧q≤8∧vk=.int .i64 q∧Hid (ownB wr (bk+1) vo (lcF W H K bs (q - 1)))∧Hid (Arr wr bk [.int .i64 (W:Int),.int .i64 (H:Int),.int .i64 (C:Int),.int .i64 (D:Int),.slice A m c])∧Hid (RdB wr B A m bs)∧Hid (Below bk w wr)∧Hid (bk+1≤wr.heap.size)) (fun vk _ _=>9 - (intOf vk).toNat)
 case atStart=>exact ⟨1,by omega,by omega,rfl,HO0,HA2,HR2,HB2,HZ0⟩
 case round =>
  clear HA2 HR2 HB2 HO0 HZ0
  obtain ⟨q,hq1,hq8,rfl,HO,HA,HR,HB,HZ⟩:=hrel
  have hz3:=HZ.out
  have e0:=HA.out.cell (k:=0) rfl
  have e1:=HA.out.cell (k:=1) rfl
  have e2:=HA.out.cell (k:=2) rfl
  have e3:=HA.out.cell (k:=3) rfl
  have e4:=HA.out.cell (k:=4) rfl
  obtain ⟨k,hk1⟩:∃ k,q - 1=k:=⟨_,rfl⟩
  have HK1:Hid (q=k+1):=(show _=_ by omega)
  rw [hk1] at HO
  clear hk1
  by_cases hlt:q≤7
  ·have hlti:(q:Int)≤7:=by omega
   have hq7:q≤7:=by omega
   have hqw:IntKind.i64.wrap ((q:Int)+1)=(q:Int)+1:=by rw [show (q:Int)+1=((q+1:Nat):Int) by omega];exact wrap_i64_lt _ (by omega)
   by_cases hpw:passW W H q=0
   ·have HLC:Hid (lcF W H K bs q=lcF W H K bs k):=(show _=_ by rw [HK1.out,lcF,← HK1.out,if_pos hpw,List.append_nil])
    have HS1:=Lib.hid (HPK.out q (passW W H q) (passH W H q) wr HR.out (by omega) hq1 hq7 rfl rfl)
    generalize pkJ W K bs (gT q).1.1 (gT q).1.2 (gT q).2.1 (gT q).2.2 (passW W H q) (passH W H q)=px at *
    generalize passW W H q=pw at *
    generalize passH W H q=ph at *
    obtain ⟨Ao,co,rfl,-,-,-⟩:=HO.out.form
    obtain ⟨Fn,hFn⟩:∃ L,(lcF W H K bs k).length=L:=⟨_,rfl⟩
    rw [hFn] at HO
    simp only [hFn]
    have hp0:decide (0 < pw)=false:=decide_eq_false (by omega)
    have hp0i:decide ((0:Int) < (pw:Int))=false:=decide_eq_false (by omega)
    clear hFn hpw
    go_wp2_with (go_at_call 49;(with_reducible refine HS1.out.mono ?_);go_must (rintro e w3 ⟨A5,n5,c5,rfl,ho5,hb3⟩;clear ho5;have HA3:=Lib.hid (HA.out.later hb3);have HR3:=Lib.hid (RdB.blw HR.out (hb3.mono (by omega)));have HO3:=Lib.hid (HO.out.later hb3);have HB3:=Lib.hid (HB.out.trans (hb3.mono (by omega)));have hz4:=hb3.size;clear hb3))
    have HOc:Hid (ownB (w3.alloc (.cells #[.int .i64 (pw:Int),.int .i64 (ph:Int),.int .i64 (C:Int),.int .i64 (D:Int)] 23)) (bk+1) (Value.slice Ao Fn co) (lcF W H K bs k)):=(show ownB _ _ _ _ from ownB.alloc HO3.out _)
    have HAc:Hid (Arr (w3.alloc (.cells #[.int .i64 (pw:Int),.int .i64 (ph:Int),.int .i64 (C:Int),.int .i64 (D:Int)] 23)) bk [.int .i64 (W:Int),.int .i64 (H:Int),.int .i64 (C:Int),.int .i64 (D:Int),.slice A m c]):=(show Arr _ _ _ from HA3.out.alloc _)
    have HBq:Below (bk+1) w3 (w3.alloc (.cells #[.int .i64 (pw:Int),.int .i64 (ph:Int),.int .i64 (C:Int),.int .i64 (D:Int)] 23)):=(Below.refl (bk+1) w3).alloc (by omega) _
    have HRc:Hid (RdB (w3.alloc (.cells #[.int .i64 (pw:Int),.int .i64 (ph:Int),.int .i64 (C:Int),.int .i64 (D:Int)] 23)) B A m bs):=(show RdB _ _ _ _ _ from RdB.blw HR3.out (HBq.mono (by omega)))
    have HBc:Hid (Below bk w (w3.alloc (.cells #[.int .i64 (pw:Int),.int .i64 (ph:Int),.int .i64 (C:Int),.int .i64 (D:Int)] 23))):=(show Below _ _ _ from HB3.out.trans (HBq.mono (by omega)))
    have HZc:Hid (bk+1≤(w3.alloc (.cells #[.int .i64 (pw:Int),.int .i64 (ph:Int),.int .i64 (C:Int),.int .i64 (D:Int)] 23)).heap.size):=(show _≤_ from Nat.le_trans (by omega) HBq.size)
    clear HBq
    have HOq:Hid (ownB (w3.alloc (.cells #[.int .i64 (pw:Int),.int .i64 (ph:Int),.int .i64 (C:Int),.int .i64 (D:Int)] 23)) (bk+1) (.slice Ao Fn co) (lcF W H K bs (q+1 - 1))):=(show ownB _ _ _ _ by rw [Nat.add_sub_cancel,HLC.out];exact HOc.out)
    go_roundw
    case rel=>exact ⟨q+1,by omega,by omega,by go_num,HOq,HAc,HRc,HBc,HZc⟩
    case measure=>simp [intOf];omega
   ·have hpp:=pass_le W H q HS.out.w2 HS.out.h2
    have hpw1:1≤passW W H q:=by omega
    have hph1:1≤passH W H q:=by
     have h1:¬ passH W H q=0:=fun e=>hpw (hpp.2.2.2 e)
     omega
    have hps:=HS.out.pass hpw1 hpp.1 hph1 hpp.2.1
    have hpl:=pkJ_len (K:=K) HLEN.out (pass_in (W:=W) (H:=H) (k:=q)).1 (passH W H q) (pass_in (W:=W) (H:=H) (k:=q)).2
    have HLC:Hid (lcF W H K bs q=lcF W H K bs k ++ flF K (passW W H q * K) (pkJ W K bs (gT q).1.1 (gT q).1.2 (gT q).2.1 (gT q).2.2 (passW W H q) (passH W H q)) (passH W H q)):=(show _=_ by rw [HK1.out,lcF,← HK1.out,if_neg hpw])
    have hfl2:=lcF_le HS.out HLEN.out HZZ.out (k:=q) (by omega)
    rw [HLC.out,List.length_append] at hfl2
    have hpm:passH W H q * (passW W H q * K)≤1000000:=by
     have h1:=Nat.mul_le_mul hpp.2.1 (Nat.mul_le_mul hpp.1 HS.out.k8)
     omega
    have HFI:=Lib.hid (fun m' c' B' A' w2 (h:RdB w2 B' A' m' (pkJ W K bs (gT q).1.1 (gT q).1.2 (gT q).2.1 (gT q).2.2 (passW W H q) (passH W H q))) (hB:B'≤w2.heap.size) (hc:m'≤c')=>rows9_any (passW W H q) (passH W H q) C D K m' c' B' A' _ w2 hps.nums HS.out.k h hB (h.len.symm.trans hpl) hc (by rw [h.len.symm.trans hpl];exact hpm))
    have HS1:=Lib.hid (HPK.out q (passW W H q) (passH W H q) wr HR.out (by omega) hq1 hq7 rfl rfl)
    generalize flF K (passW W H q * K) (pkJ W K bs (gT q).1.1 (gT q).1.2 (gT q).2.1 (gT q).2.2 (passW W H q) (passH W H q)) (passH W H q)=F2 at *
    generalize pkJ W K bs (gT q).1.1 (gT q).1.2 (gT q).2.1 (gT q).2.2 (passW W H q) (passH W H q)=px at *
    generalize passW W H q=pw at *
    generalize passH W H q=ph at *
    obtain ⟨Ao,co,rfl,-,-,-⟩:=HO.out.form
    obtain ⟨Fn,hFn⟩:∃ L,(lcF W H K bs k).length=L:=⟨_,rfl⟩
    rw [hFn] at HO hfl2
    simp only [hFn]
    have HFN:=Lib.hid hFn
    have hp0:decide (0 < pw)=true:=decide_eq_true hpw1
    have hp0i:decide ((0:Int) < (pw:Int))=true:=decide_eq_true (by omega)
    clear hps hpl hpm hpp hpw hFn
    go_upto_region 9 with (first
     | (go_at_call 49;(with_reducible refine HS1.out.mono ?_);go_must (rintro e w3 ⟨A5,n5,c5,rfl,ho5,hb3⟩;obtain ⟨A6,c6,hv5,hr5,hc5,-⟩:=ho5.form;injection hv5 with q1 q2 q3;subst q1 q2 q3;have HR5:=Lib.hid hr5;clear hr5 ho5;have HA3:=Lib.hid (HA.out.later hb3);have HR3:=Lib.hid (RdB.blw HR.out (hb3.mono (by omega)));have HO3:=Lib.hid (HO.out.later hb3);have HB3:=Lib.hid (HB.out.trans (hb3.mono (by omega)));have hz4:=hb3.size;clear hb3)))
    have HOc:Hid (ownB (w3.alloc (.cells #[.int .i64 (pw:Int),.int .i64 (ph:Int),.int .i64 (C:Int),.int .i64 (D:Int)] 23)) (bk+1) (Value.slice Ao Fn co) (lcF W H K bs k)):=(show ownB _ _ _ _ from ownB.alloc HO3.out _)
    have HAc:Hid (Arr (w3.alloc (.cells #[.int .i64 (pw:Int),.int .i64 (ph:Int),.int .i64 (C:Int),.int .i64 (D:Int)] 23)) bk [.int .i64 (W:Int),.int .i64 (H:Int),.int .i64 (C:Int),.int .i64 (D:Int),.slice A m c]):=(show Arr _ _ _ from HA3.out.alloc _)
    have HBq:Below (bk+1) w3 (w3.alloc (.cells #[.int .i64 (pw:Int),.int .i64 (ph:Int),.int .i64 (C:Int),.int .i64 (D:Int)] 23)):=(Below.refl (bk+1) w3).alloc (by omega) _
    have HRc:Hid (RdB (w3.alloc (.cells #[.int .i64 (pw:Int),.int .i64 (ph:Int),.int .i64 (C:Int),.int .i64 (D:Int)] 23)) B A m bs):=(show RdB _ _ _ _ _ from RdB.blw HR3.out (HBq.mono (by omega)))
    have HBc:Hid (Below bk w (w3.alloc (.cells #[.int .i64 (pw:Int),.int .i64 (ph:Int),.int .i64 (C:Int),.int .i64 (D:Int)] 23))):=(show Below _ _ _ from HB3.out.trans (HBq.mono (by omega)))
    have HZc:Hid (bk+1≤(w3.alloc (.cells #[.int .i64 (pw:Int),.int .i64 (ph:Int),.int .i64 (C:Int),.int .i64 (D:Int)] 23)).heap.size):=(show _≤_ from Nat.le_trans (by omega) HBq.size)
    have HPc:Hid (Arr (w3.alloc (.cells #[.int .i64 (pw:Int),.int .i64 (ph:Int),.int .i64 (C:Int),.int .i64 (D:Int)] 23)) w3.heap.size [.int .i64 (pw:Int),.int .i64 (ph:Int),.int .i64 (C:Int),.int .i64 (D:Int)]):=(show Arr _ _ _ from Arr.new w3 [.int .i64 (pw:Int),.int .i64 (ph:Int),.int .i64 (C:Int),.int .i64 (D:Int)] 23)
    have HX5:Hid (RdB (w3.alloc (.cells #[.int .i64 (pw:Int),.int .i64 (ph:Int),.int .i64 (C:Int),.int .i64 (D:Int)] 23)) w3.heap.size A5 px.length px):=(show RdB _ _ _ _ _ from Rd.alloc HR5.out (Nat.le_refl _) _)
    have HXZ:Hid (w3.heap.size≤(w3.alloc (.cells #[.int .i64 (pw:Int),.int .i64 (ph:Int),.int .i64 (C:Int),.int .i64 (D:Int)] 23)).heap.size):=(show _≤_ by rw [World.size_alloc];omega)
    clear HR5
    clear HBq HA3 HR3 HO3 HB3
    generalize w3.alloc (.cells #[.int .i64 (pw:Int),.int .i64 (ph:Int),.int .i64 (C:Int),.int .i64 (D:Int)] 23)=wq at *
    generalize w3.heap.size=G at *
    have hzq:=HZc.out
    have HFI5:=Lib.hid (HFI.out _ _ _ _ wq HX5.out HXZ.out hc5)
    have d0:=HAc.out.cell (k:=0) rfl
    have d1:=HAc.out.cell (k:=1) rfl
    have d2:=HAc.out.cell (k:=2) rfl
    have d3:=HAc.out.cell (k:=3) rfl
    have d4:=HAc.out.cell (k:=4) rfl
    have p0:=HPc.out.cell (k:=0) rfl
    have p1:=HPc.out.cell (k:=1) rfl
    have p2:=HPc.out.cell (k:=2) rfl
    have p3:=HPc.out.cell (k:=3) rfl
    go_wp2_with (first
     | (go_at_call 46;(with_reducible refine HFI5.out.mono ?_);go_must (rintro e w6 ⟨v6,rfl,ho6,hb6⟩;obtain ⟨A7,c7,rfl,hr6,-,-⟩:=ho6.form;have hz6:=hb6.size;have HO6:=Lib.hid (HOc.out.later hb6);have HA6:=Lib.hid (HAc.out.later hb6);have HR6:=Lib.hid (RdB.blw HRc.out (hb6.mono (by omega)));have HB6:=Lib.hid (HBc.out.trans (hb6.mono (by omega)));have HF6:=Lib.hid hr6;have hq9:bk+1≤w6.heap.size:=(by omega);clear ho6 hb6 hr6))
     | (at_builtin;(refine wpList_appendB rfl (.tmp 24) (.tmp 27) rfl (bk+1) (.slice Ao Fn co) (lcF W H K bs k) rfl HO6.out _ F2.length c7 A7 F2 rfl HF6.out (by rw [HFN.out];omega) hq9 ?_;intro v7 w7 ho7 hg7 hb7 ha7;rw [← HLC.out] at ho7;have HA7:=Lib.hid (HA6.out.blw hb7 (by omega));have HR7:=Lib.hid (RdB.blw HR6.out (hb7.mono (by omega)));have HB7:=Lib.hid (HB6.out.trans (hb7.mono (by omega)));have HO7:Hid (ownB w7 (bk+1) v7 (lcF W H K bs (q+1 - 1))):=(show ownB _ _ _ _ by rw [Nat.add_sub_cancel];exact ho7);have HZ7:Hid (bk+1≤w7.heap.size):=(Nat.le_trans hq9 hb7.size);clear ho7 hg7 hb7 ha7)))
    go_roundw
    case rel=>exact ⟨q+1,by omega,by omega,by go_num,HO7,HA7,HR7,HB7,HZ7⟩
    case measure=>simp [intOf];omega
  ·have hfl:=lcF_le HS.out HLEN.out HZZ.out (k:=k) (by have:=HK1.out;omega)
   have HFE:Hid (lcF W H K bs k=F7):=(show _=_ by
    obtain rfl:k=7:=by have:=HK1.out;omega
    exact HF7.out)
   rw [HFE.out] at HO hfl
   have hlti:¬ (q:Int)≤7:=by omega
   obtain ⟨A3,c3,rfl,hr3,hc3,-⟩:=HO.out.form
   have HFL3:=Lib.hid (HFL.out wr A3 F7.length c3 F7 hr3 (by omega))
   clear hr3
   go_wp2_with (go_at_call 45;(with_reducible refine HFL3.out.mono ?_);go_must (rintro e w4 ⟨v4,l,rfl,ho4,hi4,hb4⟩;have HO4:=Lib.hid (ho4.mono (show bk≤wr.heap.size by omega));have HI4:=Lib.hid hi4;have HB4:=Lib.hid (HB.out.trans (hb4.mono (by omega)));clear ho4 hb4 hi4))
   go_ret2
   exact ⟨v4,l,rfl,HO4.out,HI4.out,HB4.out⟩
end Go.Proofs.YteoolehdomjkkaaGreat

