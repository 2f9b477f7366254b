/- XLz1 XLz2 XLz3 -/
import Derived.Test.YtebbdifhiihfkaaGreatDoorMh25
import Derived.Test.YtebbdifhiihfkaaGreatDoorMh05
import Derived.Test.YtebbdifhiihfkaaGreatDoorMh26
namespace Go.Proofs.YtebbdifhiihfkaaGreatDoor
set_option linter.all false
open Go.RowKit
set_option maxRecDepth 100000 in
set_option maxHeartbeats 1600000 in
theorem common_any (B n c i k:Nat) (A:Option Addr) (bs:List UInt8) (w:World) (h:RdB w B A n bs) (hik:i≤k) (hkn:k≤n) (hn:n≤40000) :
  Calls Tryz.prog 166 #[.slice A n c,.int .i64 (i:Int),.int .i64 (k:Int)] w fun e w'=>e=.returned (.int .i64 ((comP bs i k:Nat):Int))∧∃ q,w'=w.drewN q:=by
 have HR:=Lib.hid h
 have hl:=h.len
 have HC0:Hid (comF bs i k (258 - 0) 0=comP bs i k):=(show _=_ from rfl)
 clear h
 go_enter Tryz.func166,Tryz.ntmps166
 go_wp2_with fail
 go_loopw [7] (fun vm wr=>∃ m:Nat,m≤258∧vm=.int .i64 m∧Hid (comF bs i k (258 - m) m=comP bs i k)∧Hid (∃ q,wr=w.drewN q)) (fun vm _=>258 - (intOf vm).toNat)
 case atStart=>exact ⟨0,by omega,rfl,HC0,(show ∃ q,_ from ⟨0,rfl⟩)⟩
 case round =>
  clear HC0
  obtain ⟨m,hm,rfl,HC,HW⟩:=hrel
  have HRr:Hid (RdB wr B A n bs):=(show RdB _ _ _ _ _ by obtain ⟨q,rfl⟩:=HW.out;exact Rd.drewN HR.out q)
  have HWN:∀ nq,Hid (∃ q,wr.drewN nq=w.drewN q):=fun nq=>(show ∃ q,_ by obtain ⟨q,rfl⟩:=HW.out;exact ⟨q+nq,by rw [World.drewN_drewN]⟩)
  have HS:Hid (m < 258→comF bs i k (258 - m) m=if k+m < bs.length∧bs.getD (i+m) 0=bs.getD (k+m) 0 then comF bs i k (258 - (m+1)) (m+1) else m):=(show _→_ from fun h=>by rw [show 258 - m=(258 - (m+1))+1 by omega];rfl)
  have hs1:IntKind.i64.wrap ((k:Int)+(m:Int))=((k+m:Nat):Int):=by have:=wrap_i64_lt (k+m) (by omega);simpa using this
  have hs2:IntKind.i64.wrap ((i:Int)+(m:Int))=((i+m:Nat):Int):=by have:=wrap_i64_lt (i+m) (by omega);simpa using this
  by_cases h1:m < 258
  ·have h1i:(m:Int) < 258:=by omega
   by_cases h2:k+m < n
   ·have h2i:(k:Int)+(m:Int) < (n:Int):=by omega
    have h3i:(i:Int)+(m:Int) < (n:Int):=by omega
    obtain ⟨b,o,x,rfl,hb,HX,e1⟩:=HRr.out.byte (k:=i+m) (by omega)
    obtain ⟨b2,o2,y,hA2,hb2,HY,e2⟩:=HRr.out.byte (k:=k+m) h2
    injection hA2 with hA2
    injection hA2 with hA2 hA3
    subst hA2 hA3
    have HS2:=Lib.hid (HS.out h1)
    rw [getD_at HX.out,getD_at HY.out] at HS2
    have x8:=x.toNat_lt
    have y8:=y.toNat_lt
    obtain ⟨p,hp⟩:∃ p,i+m=p:=⟨_,rfl⟩
    obtain ⟨r,hr⟩:∃ r,k+m=r:=⟨_,rfl⟩
    have hp2:(i:Int)+(m:Int)=(p:Int):=by omega
    have hr2:(k:Int)+(m:Int)=(r:Int):=by omega
    have hp3:(p:Int) < (n:Int):=by omega
    have hr3:(r:Int) < (n:Int):=by omega
    have hpn:p < n:=by omega
    have hrn:r < n:=by omega
    have hb3:k+m < bs.length:=by omega
    rw [hp] at e1 hs2
    rw [hr] at e2 hs1
    by_cases hxy:x=y
    ·have d1:((x.toNat:Int) == (y.toNat:Int))=true:=by rw [hxy];exact beq_self_eq_true _
     rw [if_pos ⟨hb3,hxy⟩,HC.out] at HS2
     clear HX HY HS
     go_wp2_with fail
     go_quiet (fail)
     go_wp2_with fail
     go_roundw
     case rel=>exact ⟨m+1,by omega,by go_num,HS2.out.symm,HWN _⟩
     case measure=>simp [intOf];omega
    ·have d1:((x.toNat:Int) == (y.toNat:Int))=false:=beq_eq_false_iff_ne.2 (fun e=>hxy (UInt8.toNat_inj.1 (by omega)))
     rw [if_neg (fun e=>hxy e.2),HC.out] at HS2
     clear HX HY HS
     go_wp2_with fail
     go_quiet (fail)
     go_wp2_with fail
     go_ret
     exact ⟨by rw [HS2.out];rfl,(HWN _).out⟩
   ·have h2i:¬ (k:Int)+(m:Int) < (n:Int):=by omega
    have HS2:=Lib.hid (HS.out h1)
    rw [if_neg (fun e=>h2 (hl ▸ e.1)),HC.out] at HS2
    obtain ⟨r,hr⟩:∃ r,k+m=r:=⟨_,rfl⟩
    have hr2:(k:Int)+(m:Int)=(r:Int):=by omega
    have hr3:¬ (r:Int) < (n:Int):=by omega
    have hrn:¬ r < n:=by omega
    have hrn2:n≤r:=by omega
    have hr4:decide ((r:Int) < (n:Int))=false:=decide_eq_false hr3
    rw [hr] at hs1
    clear HS hs2
    go_wp2_with fail
    go_quiet (fail)
    go_wp2_with fail
    go_ret
    exact ⟨by rw [HS2.out];rfl,(HWN _).out⟩
  ·obtain rfl:m=258:=by omega
   have h1i:¬ (258:Int) < 258:=by omega
   have HS2:Hid (comP bs i k=258):=(show _=_ by rw [← HC.out];rfl)
   clear HS
   go_wp2_with fail
   go_quiet (fail)
   go_wp2_with fail
   go_ret
   exact ⟨by rw [HS2.out];rfl,(HWN _).out⟩
end Go.Proofs.YtebbdifhiihfkaaGreatDoor

/- lz: the places of all three bytes: the next place added. -/
namespace Go.Proofs.YtebbdifhiihfkaaGreatDoor
set_option linter.all false
open Go.RowKit
theorem isM3.far {w:World} {b m:Nat} {f:UInt8 × UInt8 × UInt8→Nat} (h:isM3 w b m f) {p:Addr} (hp:p.block ≠ b) (v:Value):isM3 (w.setCell p v) b m f:=h.keep (Below.heap_setCell _ _ _ _ (fun e=>hp e.symm))
theorem isM3.alloc {w:World} {b m:Nat} {f:UInt8 × UInt8 × UInt8→Nat} (h:isM3 w b m f) (o:Obj):isM3 (w.alloc o) b m f:=h.keep (heap_alloc_old w o h.lt)
theorem isM3.more {w:World} {b m m':Nat} {f:UInt8 × UInt8 × UInt8→Nat} (h:isM3 w b m f) (hm:m≤m'):isM3 w b m' f:=by
 obtain ⟨D,h,h2⟩:=h
 exact ⟨D,h.mono hm,h2⟩
/-- Of a block c the map and the places. -/
structure Ch (w:World) (c m i:Nat) (vp:Value) (bs:List UInt8):Prop where
 arr:Arr w c [.map (some m),vp]
 map:isM3 w m i (lastP bs i)
 own:ownI w (c+1) vp (prevL bs i)
 lt:m < c
section
variable {w w' : World} {c m i : Nat} {vp : Value} {bs : List UInt8}
theorem Ch.drewN (h:Ch w c m i vp bs) (q:Nat):Ch (w.drewN q) c m i vp bs:=⟨h.arr.drewN q,h.map.keep rfl,h.own.drewN q,h.lt⟩
theorem Ch.alloc (h:Ch w c m i vp bs) (o:Obj):Ch (w.alloc o) c m i vp bs:=⟨h.arr.alloc o,h.map.alloc o,ownI.alloc h.own o,h.lt⟩
end
theorem last_past {bs:List UInt8} {i:Nat} (h:bs.length < i+3):lastP bs (i+1)=lastP bs i:=by
 funext t
 show (if i+3≤bs.length∧tri bs i=t then i+1 else lastP bs i t)=_
 rw [if_neg (by omega)]
theorem last_upd {bs:List UInt8} {i:Nat} (h:i+3≤bs.length):lastP bs (i+1)=updT (lastP bs i) (tri bs i) (i+1):=by
 funext t
 show (if i+3≤bs.length∧tri bs i=t then i+1 else lastP bs i t)=if tri bs i=t then i+1 else lastP bs i t
 by_cases e:tri bs i=t
 ·rw [if_pos ⟨h,e⟩,if_pos e]
 ·rw [if_neg (fun a=>e a.2),if_neg e]
set_option maxRecDepth 100000 in
set_option maxHeartbeats 3200000 in
theorem adds_short (B n c0 c m i:Nat) (A:Option Addr) (bs:List UInt8) (vp:Value) (w:World) (h:Ch w c m i vp bs) (hr:RdB w B A n bs) (hB:B≤m) (hi:i < n) (hn:n≤40000) (hi3:n < i+3) :
  Calls Tryz.prog 145 #[.pointer (some ⟨c,0,none⟩),.slice A n c0] w fun e w'=>e=.returned (.tuple #[])∧∃ vp',Ch w' c m (i+1) vp' bs∧RFr w w' c m vp vp':=by
 have hf:=h.own.form
 rw [prevL_len] at hf
 obtain ⟨Ap,cp,rfl,-,-,-⟩:=hf
 have H:=Lib.hid h
 have e0:=h.arr.cell (k:=0) rfl
 have e1:=h.arr.cell (k:=1) rfl
 have f1:=h.arr.frozen 1
 have hcw:=h.arr.lt
 have hmw:=h.map.lt
 have hmc:=h.lt
 have hl:=hr.len
 have hi3i:(n:Int) < (i:Int)+3:=by omega
 have HPV:Hid (prevL bs i ++ [0]=prevL bs (i+1)):=(show _=_ by rw [prevL_snoc];unfold prevP;rw [if_pos (by omega)];rfl)
 have HLS:Hid (lastP bs (i+1)=lastP bs i):=(show _=_ from last_past (by omega))
 have HPL:=Lib.hid (prevL_len bs i)
 clear h hr
 go_enter Tryz.func145,Tryz.ntmps145
 go_wp2_with (at_builtin;go_must (refine wpList_appendI rfl (.tmp 20) (.tmp 21) rfl (c+1) _ (prevL bs i) rfl (ownI.alloc H.out.own _) (w.heap.size+1) 1 1 (some ⟨w.heap.size,0,none⟩) [0] rfl (rd_oneI w 0) (by rw [HPL.out];omega) (by rw [World.size_alloc];omega) ?_;intro v1 w3 hown hgb hbl hat;rw [HPV.out] at hown;obtain ⟨A3,c3,rfl,hr3,-,-⟩:=hown.form;clear hr3;have HF3:=Lib.hid (show RFr w w3 c m (.slice Ap i cp) (.slice A3 (prevL bs (i+1)).length c3) from RFr.grown _ hgb hat);have HA3:=Lib.hid (show Arr w3 c [.map (some m),.slice Ap i cp] from (H.out.arr.alloc _).blw hbl (by omega));have HM3:=Lib.hid (show isM3 w3 m i (lastP bs i) from H.out.map.keep ((hbl.block m (by omega)).trans (heap_alloc_old w _ hmw)));have HO3:=Lib.hid hown;have e31:=HA3.out.cell (k:=1) rfl;have f31:=HA3.out.frozen 1;have hcw3:=HA3.out.lt;clear hown hgb hbl hat))
 (try simp only [Exit.inBlock,Exit.then])
 first | (refine bodyPost_ret (results_none rfl _ _ _) rfl ?_) | (refine bodyPost_end (results_none rfl _ _ _) rfl ?_)
 refine ⟨rfl,_,⟨HA3.out.set 1 _,?_,ownI.far HO3.out (ownI.ne HO3.out (by omega)) 1 _,hmc⟩,HF3.out.set1 1 _⟩
 rw [HLS.out]
 exact (HM3.out.far (by show c ≠ m;omega) _).more (Nat.le_succ i)
set_option maxRecDepth 100000 in
set_option maxHeartbeats 3200000 in
theorem adds_full (B n c0 c m i:Nat) (A:Option Addr) (bs:List UInt8) (vp:Value) (w:World) (h:Ch w c m i vp bs) (hr:RdB w B A n bs) (hB:B≤m) (hi:i < n) (hn:n≤40000) (hcap:n≤c0) (hi3:i+3≤n) :
  Calls Tryz.prog 145 #[.pointer (some ⟨c,0,none⟩),.slice A n c0] w fun e w'=>e=.returned (.tuple #[])∧∃ vp',Ch w' c m (i+1) vp' bs∧RFr w w' c m vp vp':=by
 have hf:=h.own.form
 rw [prevL_len] at hf
 obtain ⟨Ap,cp,rfl,-,-,-⟩:=hf
 have H:=Lib.hid h
 have e0:=h.arr.cell (k:=0) rfl
 have e1:=h.arr.cell (k:=1) rfl
 have f1:=h.arr.frozen 1
 have hcw:=h.arr.lt
 have hmw:=h.map.lt
 have hmc:=h.lt
 have hl:=hr.len
 obtain ⟨b,o,rfl,hb,hcell⟩:=hr.at_ (by omega)
 have k0:=hcell i (by omega)
 have k1:=hcell (i+1) (by omega)
 have k2:=hcell (i+2) (by omega)
 rw [← Nat.add_assoc] at k1 k2
 have HT:Hid (tri bs i=(bs[i],bs[i+1],bs[i+2])):=(show _=_ by unfold tri;rw [getD_at (List.getElem?_eq_getElem (by omega)),getD_at (List.getElem?_eq_getElem (by omega)),getD_at (List.getElem?_eq_getElem (by omega))])
 generalize bs[i]=x at *
 generalize bs[i+1]=y at *
 generalize bs[i+2]=z at *
 have hi3i:¬ (n:Int) < (i:Int)+3:=by omega
 have hi4:(0:Int)≤(i:Int)+3∧(i:Int)+3≤(c0:Int):=by omega
 have hi5:¬ c0=i:=by omega
 have HPV:Hid (prevL bs i ++ [((lastP bs i (x,y,z):Nat):Int)]=prevL bs (i+1)):=(show _=_ by rw [prevL_snoc];unfold prevP;rw [if_neg (by omega),HT.out])
 have HLS:Hid (lastP bs (i+1)=updT (lastP bs i) (x,y,z) (i+1)):=(show _=_ by rw [last_upd (by omega),HT.out])
 have HPL:=Lib.hid (prevL_len bs i)
 have hat:∀ (w:World) (a:Option Addr) (l c:Nat),3≤l→(Instr.arrayAt 217 (.slice a l c)).run Tryz.prog w=.ok (.pointer a) w:=fun w a l c hl=>run_arrayAt w 217 _ 3 a l c Tryz.underlying217 hl
 clear h hr hcell
 go_enter Tryz.func145,Tryz.ntmps145
 go_upto_region 4 with (simp only [hat])
 generalize hw1:w.alloc _=w1
 obtain ⟨k5,hk5⟩:∃ b,w.heap.size=b:=⟨_,rfl⟩
 simp only [hk5]
 have HCH:Hid (Ch w1 c m i (.slice Ap i cp) bs):=(show Ch _ _ _ _ _ _ by rw [← hw1];exact H.out.alloc _)
 have HK:Hid (Arr w1 k5 [.int .u8 (x.toNat:Int),.int .u8 (y.toNat:Int),.int .u8 (z.toNat:Int)]):=(show Arr _ _ _ by rw [← hw1,← hk5];exact Arr.new w [.int .u8 (x.toNat:Int),.int .u8 (y.toNat:Int),.int .u8 (z.toNat:Int)] _)
 have HFW:Hid (RFr w w1 c m (.slice Ap i cp) (.slice Ap i cp)):=(show RFr _ _ _ _ _ _ by rw [← hw1];exact RFr.ofB ((Below.refl w.heap.size w).alloc (Nat.le_refl _) _) _ _ _)
 have hsz1:w1.heap.size=k5+1:=by rw [← hw1,World.size_alloc,hk5]
 have hck:c < k5:=by omega
 have HPB:Hid (∀ q,(Value.slice Ap i cp).ownBlock=some q→q < k5):=(show ∀ q,_ from fun q hq=>by have:=(World.ownsRow.lt H.out.own q hq).2;omega)
 clear hw1 e0 e1 f1 k0 k1 k2 hat hk5 H
 have e0:=HCH.out.arr.cell (k:=0) rfl
 have e1:=HCH.out.arr.cell (k:=1) rfl
 have k0:=HK.out.cell (k:=0) rfl
 have k1:=HK.out.cell (k:=1) rfl
 have k2:=HK.out.cell (k:=2) rfl
 have HMD:Hid (isM3 w1.drew m i (lastP bs i)):=(show isM3 _ _ _ _ from HCH.out.map)
 have hq1:(prevL bs i).length+1≤1099511627776:=by rw [HPL.out];omega
 have hckN:¬ c=k5:=by omega
 have hc1:c < w1.heap.size:=by omega
 have hc1N:¬ c=w1.heap.size:=by omega
 have hk1:k5 < w1.heap.size:=by omega
 have hk1N:¬ k5=w1.heap.size:=by omega
 generalize hL:lastP bs i (x,y,z)=L at *
 have hrun:(Instr.lookup 179 (.map (some m)) (.agg #[.int .u8 (x.toNat:Int),.int .u8 (y.toNat:Int),.int .u8 (z.toNat:Int)]) false).run Tryz.prog w1.drew=.ok (.int .i64 (L:Int)) w1.drew:=by rw [← hL];exact HMD.out.look (x,y,z)
 clear hL
 have HOD:Hid (ownI (w1.alloc (.cells #[Value.int .i64 (L:Int)] 3)).drew (c+1) (.slice Ap i cp) (prevL bs i)):=(show ownI _ _ _ _ from HCH.out.own.alloc _)
 have HRD:Hid (RdI (w1.alloc (.cells #[Value.int .i64 (L:Int)] 3)).drew (k5+1+1) (some ⟨k5+1,0,none⟩) 1 [(L:Int)]):=(show RdI _ _ _ _ _ by have:=rd_oneI w1 (L:Int);rw [hsz1] at this;exact this)
 have HAD:Hid (Arr (w1.alloc (.cells #[Value.int .i64 (L:Int)] 3)).drew c [.map (some m),.slice Ap i cp]):=(show Arr _ _ _ from HCH.out.arr.alloc _)
 have HND:Hid (isM3 (w1.alloc (.cells #[Value.int .i64 (L:Int)] 3)).drew m i (lastP bs i)):=(show isM3 _ _ _ _ from HCH.out.map.alloc _)
 have HKD:Hid (Arr (w1.alloc (.cells #[Value.int .i64 (L:Int)] 3)).drew k5 [.int .u8 (x.toNat:Int),.int .u8 (y.toNat:Int),.int .u8 (z.toNat:Int)]):=(show Arr _ _ _ from HK.out.alloc _)
 have hq2:c+1≤(w1.alloc (.cells #[Value.int .i64 (L:Int)] 3)).drew.heap.size:=by show c+1≤(w1.alloc _).heap.size;rw [World.size_alloc];omega
 have hq3:k5 < (w1.alloc (.cells #[Value.int .i64 (L:Int)] 3)).drew.heap.size:=by show k5 < (w1.alloc _).heap.size;rw [World.size_alloc];omega
 have hq4:(Value.slice Ap i cp).ownBlock ≠ some k5:=fun e=>absurd (HPB.out _ e) (Nat.lt_irrefl _)
 have HGR:Hid (∀ (w3:World) (v:Value),(w1.alloc (.cells #[Value.int .i64 (L:Int)] 3)).drew.grownBy w3 (Value.slice Ap i cp).ownBlock→(v.ownBlock=(Value.slice Ap i cp).ownBlock∨v.ownBlock=some (w1.alloc (.cells #[Value.int .i64 (L:Int)] 3)).drew.heap.size)→RFr w w3 c m (.slice Ap i cp) v):=(show ∀ w3 v,_ from fun w3 v hg ha=>RFr.trans HFW.out (by
  have h:=RFr.grown (r:=c) (g:=m) (w:=w1.drew) (.cells #[Value.int .i64 (L:Int)] 3) hg ha
  exact ⟨h.os,h.tape,h.output,h.size,h.block,h.own⟩))
 go_cut [5] (fun v wc=>v=.pointer (some ⟨k5,0,none⟩)∧∃ vp',Hid (Arr wc k5 [.int .u8 (x.toNat:Int),.int .u8 (y.toNat:Int),.int .u8 (z.toNat:Int)])∧Hid (Arr wc c [.map (some m),vp'])∧Hid (isM3 wc m i (lastP bs i))∧Hid (ownI wc (c+1) vp' (prevL bs (i+1)))∧Hid (RFr w wc c m (.slice Ap i cp) vp'))
 case first =>
  go_region_law (first
   | (refine step_appendI rfl (.tmp 36) (.tmp 43) rfl (c+1) _ (prevL bs i) rfl HOD.out (k5+1+1) 1 1 (some ⟨k5+1,0,none⟩) [(L:Int)] rfl HRD.out hq1 hq2 ?_;intro v1 w3 hown hgb hbl hat;rw [HPV.out] at hown;obtain ⟨A3,c3,rfl,hr3,-,-⟩:=hown.form;clear hr3;have HF3:=Lib.hid (HGR.out w3 _ hgb hat);have HA3:=Lib.hid (HAD.out.blw hbl (Nat.lt_succ_self c));have HM3:=Lib.hid (HND.out.keep (hbl.block m (Nat.lt_succ_of_lt hmc)));have HK3:=Lib.hid (show Arr w3 k5 [.int .u8 (x.toNat:Int),.int .u8 (y.toNat:Int),.int .u8 (z.toNat:Int)] from by obtain ⟨ty,hty⟩:=HKD.out;exact ⟨ty,(hgb.block k5 hq3 (fun e=>hq4 e.symm)).trans hty⟩);have HO3:=Lib.hid hown;have e31:=HA3.out.cell (k:=1) rfl;have f31:=HA3.out.frozen 1;have hcw3:=HA3.out.lt;clear hown hgb hbl hat))
  all_goals
   go_wp2_with fail
   go_meet
   case rel=>exact ⟨rfl,_,HK3.out.far (p:=⟨c,1,none⟩) hckN _,HA3.out.set 1 _,HM3.out.far (p:=⟨c,1,none⟩) (fun e=>by have:c=m:=e;omega) _,ownI.far HO3.out (ownI.ne HO3.out (Nat.lt_succ_self c)) 1 _,HF3.out.set1 1 _⟩
 case rest =>
  obtain ⟨rfl,vp',HKC,HAC,HMC,HOC,HFC⟩:=hcut
  clear hrun HOD HRD HAD HND HKD hq2 hq3 hq4 HGR HMD HCH HK HFW e0 e1 k0 k1 k2 hq1
  have e0:=HAC.out.cell (k:=0) rfl
  have k0:=HKC.out.cell (k:=0) rfl
  have k1:=HKC.out.cell (k:=1) rfl
  have k2:=HKC.out.cell (k:=2) rfl
  have HMD:Hid (isM3 wc.drew m i (lastP bs i)):=(show isM3 _ _ _ _ from HMC.out)
  have hq1:i≤1000000:=by omega
  have hq2:IntKind.i64.wrap ((i:Int)+1)=(i:Int)+1:=(by have:=wrap_i64_lt (i+1) (by omega);simpa using this)
  obtain ⟨w8,hrun0,hm8,hg8⟩:=HMD.out.store hq1 (x,y,z) (i+1)
  have hrun:(Instr.mapUpdate 179 (.map (some m)) (.agg #[.int .u8 (x.toNat:Int),.int .u8 (y.toNat:Int),.int .u8 (z.toNat:Int)]) (.int .i64 ((i:Int)+1))).run Tryz.prog wc.drew=.ok () w8:=hrun0
  have HM8:=Lib.hid hm8
  have HG8:Hid (wc.grownBy w8 (some m)):=(show World.grownBy _ _ _ from ⟨hg8.os,hg8.tape,hg8.output,hg8.size,hg8.block⟩)
  clear hrun0 hm8 hg8
  go_upto_region 5 with fail
  go_region_law (fail)
  all_goals
   go_wp2_with fail
   (try simp only [Exit.inBlock,Exit.then])
   first | (refine bodyPost_ret (results_none rfl _ _ _) rfl ?_) | (refine bodyPost_end (results_none rfl _ _ _) rfl ?_)
   have hm8:=HM8.out
   have hg8:=HG8.out
   rw [← HLS.out] at hm8
   refine ⟨rfl,vp',⟨HAC.out.gro hg8 (by omega),hm8,World.ownsRow.kept HOC.out hg8 ?_,hmc⟩,RFr.trans HFC.out (RFr.ofG hg8 c vp')⟩
   have:=ownI.ne HOC.out (show m < c+1 by omega)
   exact .inr this
theorem adds_any (B n c0 c m i:Nat) (A:Option Addr) (bs:List UInt8) (vp:Value) (w:World) (h:Ch w c m i vp bs) (hr:RdB w B A n bs) (hB:B≤m) (hi:i < n) (hn:n≤40000) (hcap:n≤c0) :
  Calls Tryz.prog 145 #[.pointer (some ⟨c,0,none⟩),.slice A n c0] w fun e w'=>e=.returned (.tuple #[])∧∃ vp',Ch w' c m (i+1) vp' bs∧RFr w w' c m vp vp':=by
 by_cases h3:i+3≤n
 ·exact adds_full B n c0 c m i A bs vp w h hr hB hi hn hcap h3
 ·exact adds_short B n c0 c m i A bs vp w h hr hB hi hn (by omega)
end Go.Proofs.YtebbdifhiihfkaaGreatDoor

/- lz: the match at a place. -/
namespace Go.Proofs.YtebbdifhiihfkaaGreatDoor
set_option linter.all false
open Go.RowKit
theorem matF_stop {b:List UInt8} {at_ f p best dist:Nat} (h:p=0∨32768 < at_ - (p - 1)):matF b at_ f p best dist=(best,dist):=by
 cases f with
 | zero=>rfl
 | succ f=>exact if_pos h
theorem matF_more {b:List UInt8} {at_ f p best dist:Nat} (h:¬ (p=0∨32768 < at_ - (p - 1))):matF b at_ (f+1) p best dist=if best < comP b (p - 1) at_ then matF b at_ f (prevP b (p - 1)) (comP b (p - 1) at_) (at_ - (p - 1)) else matF b at_ f (prevP b (p - 1)) best dist:=if_neg h
set_option maxRecDepth 100000 in
set_option maxHeartbeats 3200000 in
theorem match_any (B n c0 c m i:Nat) (A:Option Addr) (bs:List UInt8) (vp:Value) (w:World) (h:Ch w c m i vp bs) (hr:RdB w B A n bs) (hi:i < n) (hn:n≤40000) (hcap:n≤c0) :
  Calls Tryz.prog 144 #[.pointer (some ⟨c,0,none⟩),.slice A n c0,.int .i64 (i:Int)] w fun e w'=>e=.returned (.tuple #[.int .i64 ((matP bs i).1:Int),.int .i64 ((matP bs i).2:Int)])∧∃ q,w'=w.drewN q:=by
 have hf:=h.own.form
 rw [prevL_len] at hf
 obtain ⟨Ap,cp,rfl,-,-,-⟩:=hf
 have H:=Lib.hid h
 have HR:=Lib.hid hr
 have e0:=h.arr.cell (k:=0) rfl
 have e1:=h.arr.cell (k:=1) rfl
 have hl:=hr.len
 by_cases hi3:i+3≤n
 ·obtain ⟨b,o,rfl,hb,hcell⟩:=hr.at_ (by omega)
  have k0:=hcell i (by omega)
  have k1:=hcell (i+1) (by omega)
  have k2:=hcell (i+2) (by omega)
  rw [← Nat.add_assoc] at k1 k2
  have HT:Hid (tri bs i=(bs[i],bs[i+1],bs[i+2])):=(show _=_ by unfold tri;rw [getD_at (List.getElem?_eq_getElem (by omega)),getD_at (List.getElem?_eq_getElem (by omega)),getD_at (List.getElem?_eq_getElem (by omega))])
  have HLP:=Lib.hid (lastP_le bs (tri bs i) i).1
  have HMP:Hid (matP bs i=matF bs i (64 - 0) (lastP bs i (tri bs i)) 0 0):=(show _=_ by unfold matP;rw [if_neg (by omega)])
  rw [HT.out] at HLP HMP
  generalize bs[i]=x at *
  generalize bs[i+1]=y at *
  generalize bs[i+2]=z at *
  have hi3i:¬ (n:Int) < (i:Int)+3:=by omega
  have HM:=Lib.hid (h.drewN 1).map
  obtain ⟨s,hs⟩:∃ s,i+3=s:=⟨_,rfl⟩
  have hs2:(i:Int)+3=(s:Int):=by omega
  have hs3:IntKind.i64.wrap ((i:Int)+3)=(s:Int):=by rw [hs2];exact wrap_i64_lt s (by omega)
  have hs10:IntKind.i64.wrap (s:Int)=(s:Int):=wrap_i64_lt s (by omega)
  have hs4:s≤n:=by omega
  have hs5:s - i=3:=by omega
  have hs6:i≤s:=by omega
  clear h hr hcell
  go_enter Tryz.func144,Tryz.ntmps144
  go_upto_region 4 with fail
  generalize hL:lastP bs i (x,y,z)=L at *
  have hrun:(Instr.lookup 179 (.map (some m)) (.agg #[.int .u8 (x.toNat:Int),.int .u8 (y.toNat:Int),.int .u8 (z.toNat:Int)]) false).run Tryz.prog w.drew=.ok (.int .i64 (L:Int)) w.drew:=by rw [← hL];exact HM.out.look (x,y,z)
  have hat:∀ (w:World) (a:Option Addr) (l c:Nat),3≤l→(Instr.arrayAt 217 (.slice a l c)).run Tryz.prog w=.ok (.pointer a) w:=fun w a l c hl=>run_arrayAt w 217 _ 3 a l c Tryz.underlying217 hl
  have hat3:=hat w.drew (some ⟨b,o+i,none⟩) 3 (c0 - i) (Nat.le_refl _)
  have hs7:0≤(s:Int)∧(s:Int)≤(c0:Int):=by omega
  have hs8:¬ c0=i:=by omega
  have hs9:s≤c0:=by omega
  clear hL hat
  go_cut [8,9,10] (fun v1 v2 v3 wc=>v1=.int .i64 0∧v2=.int .i64 0∧v3=.int .i64 (L:Int)∧Hid (∃ q,wc=w.drewN q))
  case first =>
   go_region_law (fail)
   all_goals
    go_wp2_with fail
    go_meet
    case rel=>exact ⟨rfl,rfl,rfl,(show ∃ q,_ from ⟨1,rfl⟩)⟩
  case rest =>
   obtain ⟨rfl,rfl,rfl,HW0⟩:=hcut
   have HC0:Hid (matF bs i (64 - 0) L 0 0=matP bs i):=(show _=_ from HMP.out.symm)
   have hL0:=HLP.out
   clear hrun hat3 hs3 hs7 hs8 hs9 hs10 HM HMP k0 k1 k2 HT
   go_wp2_with fail
   go_loopw [29,10,8,9] (fun vj vq vb vd wr=>∃ (j p best dist:Nat),j≤64∧vj=.int .i64 j∧vq=.int .i64 p∧vb=.int .i64 best∧vd=.int .i64 dist∧p≤i∧best≤258∧dist≤40000∧Hid (matF bs i (64 - j) p best dist=matP bs i)∧Hid (∃ q,wr=w.drewN q)) (fun vj _ _ _ _=>64 - (intOf vj).toNat)
   case atStart=>exact ⟨0,L,0,0,by omega,rfl,rfl,rfl,rfl,hL0,by omega,by omega,HC0,HW0⟩
   case round =>
    clear HC0 HW0 hL0
    obtain ⟨j,p,best,dist,hj,rfl,rfl,rfl,rfl,hp,hbe,hdi,HC,HW⟩:=hrel
    by_cases h1:j < 64
    ·have h1i:(j:Int) < 64:=by omega
     by_cases hp0:p=0
     ·have d1:((p:Int) == 0)=true:=by rw [hp0];rfl
      have HS2:Hid (matP bs i=(best,dist)):=(show _=_ by rw [← HC.out,matF_stop (.inl hp0)])
      go_wp2_with fail
      go_ret2
      exact ⟨by rw [HS2.out];rfl,HW.out⟩
     ·have d1:((p:Int) == 0)=false:=beq_eq_false_iff_ne.2 (by omega)
      obtain ⟨P,hP⟩:∃ P,p - 1=P:=⟨_,rfl⟩
      have hP2:(p:Int) - 1=(P:Int):=by omega
      have hPi:P < i:=by omega
      obtain ⟨D,hD⟩:∃ D,i - P=D:=⟨_,rfl⟩
      have hD2:(i:Int) - (P:Int)=(D:Int):=by omega
      have hDn:D≤40000:=by omega
      by_cases h3:32768 < D
      ·have h3i:(32768:Int) < (D:Int):=by omega
       have HS2:Hid (matP bs i=(best,dist)):=(show _=_ by rw [← HC.out,matF_stop (.inr (by omega))])
       go_wp2_with fail
       go_ret2
       exact ⟨by rw [HS2.out];rfl,HW.out⟩
      ·have h3i:¬ (32768:Int) < (D:Int):=by omega
       obtain ⟨-,g,rfl,-,-⟩:=H.out.own.pos (by omega)
       have hgc:=H.out.own.cell (by rw [prevL_len]) (k:=P) (by rw [prevL_len];exact hPi)
       have hgv:(prevL bs i)[P]'(by rw [prevL_len];exact hPi)=((prevP bs P:Nat):Int):=by
        have:=prevL_get bs hPi
        rw [List.getElem?_eq_getElem (by rw [prevL_len];exact hPi)] at this
        injection this
       rw [hgv] at hgc
       have hN:=(prevP_le bs P).1
       have HS:Hid (matF bs i (64 - j) p best dist=if best < comP bs P i then matF bs i (64 - (j+1)) (prevP bs P) (comP bs P i) D else matF bs i (64 - (j+1)) (prevP bs P) best dist):=(show _=_ by rw [show 64 - j=(64 - (j+1))+1 by omega,matF_more (by omega),hP,hD])
       rw [HC.out] at HS
       have HCM:=Lib.hid (fun (w':World) (h:RdB w' B (some ⟨b,o,none⟩) n bs)=>common_any B n c0 P i (some ⟨b,o,none⟩) bs w' h (by omega) (by omega) hn)
       have hC:=(comP_le bs P i (by omega)).1
       generalize prevP bs P=N at *
       generalize comP bs P i=C at *
       have HRr:Hid (RdB wr B (some ⟨b,o,none⟩) n bs):=(show RdB _ _ _ _ _ by obtain ⟨q,rfl⟩:=HW.out;exact Rd.drewN HR.out q)
       have HFA:Hid (∀ w',(∃ q,w'=wr.drewN q)→w'.cell? ⟨c,1,none⟩=some (.slice (some ⟨g,0,none⟩) i cp)∧w'.cell? ⟨g,P,none⟩=some (.int .i64 (N:Int))∧∃ q,w'=w.drewN q):=(show ∀ w',_ by
        obtain ⟨q0,rfl⟩:=HW.out
        rintro w' ⟨q,rfl⟩
        exact ⟨e1,hgc,q0+q,by rw [World.drewN_drewN]⟩)
       clear hgc hgv hD hP
       by_cases hCb:best < C
       ·have hCi:(best:Int) < (C:Int):=by omega
        rw [if_pos hCb] at HS
        go_wp2_with ((go_at_call 166;(with_reducible refine (HCM.out _ HRr.out).mono ?_);go_must (rintro e w5 ⟨rfl,hq5⟩;obtain ⟨c15,r15,hw5⟩:=HFA.out w5 hq5;have HW5:=Lib.hid hw5;clear hq5 hw5)))
        go_roundw
        case rel=>exact ⟨j+1,N,C,D,by omega,by go_num,rfl,rfl,rfl,by omega,hC,hDn,HS.out.symm,HW5⟩
        case measure=>simp [intOf];omega
       ·have hCi:¬ (best:Int) < (C:Int):=by omega
        rw [if_neg hCb] at HS
        go_wp2_with ((go_at_call 166;(with_reducible refine (HCM.out _ HRr.out).mono ?_);go_must (rintro e w5 ⟨rfl,hq5⟩;obtain ⟨c15,r15,hw5⟩:=HFA.out w5 hq5;have HW5:=Lib.hid hw5;clear hq5 hw5)))
        go_roundw
        case rel=>exact ⟨j+1,N,best,dist,by omega,by go_num,rfl,rfl,rfl,by omega,hbe,hdi,HS.out.symm,HW5⟩
        case measure=>simp [intOf];omega
    ·obtain rfl:j=64:=by omega
     have h1i:¬ (64:Int) < 64:=by omega
     have HS2:Hid (matP bs i=(best,dist)):=(show _=_ by rw [← HC.out];rfl)
     go_wp2_with fail
     go_ret2
     exact ⟨by rw [HS2.out];rfl,HW.out⟩
 ·have hi3i:(n:Int) < (i:Int)+3:=by omega
  have HMP:Hid (matP bs i=(0,0)):=(show _=_ by unfold matP;rw [if_pos (by omega)])
  clear h hr
  go_enter Tryz.func144,Tryz.ntmps144
  go_wp2_with fail
  go_ret2
  exact ⟨by rw [HMP.out];rfl,0,rfl⟩
end Go.Proofs.YtebbdifhiihfkaaGreatDoor

