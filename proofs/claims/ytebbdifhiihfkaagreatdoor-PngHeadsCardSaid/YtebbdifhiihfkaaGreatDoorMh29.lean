/- XLz4 XFirst7 XPack XPK -/
import Derived.Test.YtebbdifhiihfkaaGreatDoorMh27
import Derived.Test.YtebbdifhiihfkaaGreatDoorMh28
import Derived.Test.YtebbdifhiihfkaaGreatDoorMh26
import Derived.Test.YtebbdifhiihfkaaGreatDoorMh04
import Derived.Test.YtebbdifhiihfkaaGreatDoorMh03
namespace Go.Proofs.YtebbdifhiihfkaaGreatDoor
set_option linter.all false
open Go.RowKit
theorem Ch.grown {w w':World} {c m i:Nat} {vp:Value} {bs:List UInt8} {row:Option Nat} (h:Ch w c m i vp bs) (hg:w.grownBy w' row) (h1:row ≠ some c) (h2:row ≠ some m) (h3:vp.ownBlock=none∨vp.ownBlock ≠ row):Ch w' c m i vp bs:=by
 refine ⟨?_,h.map.keep (hg.block m h.map.lt (fun e=>h2 e.symm)),World.ownsRow.kept h.own hg h3,h.lt⟩
 have hl:=h.arr.lt
 obtain ⟨t,ht⟩:=h.arr
 exact ⟨t,(hg.block c hl (fun e=>h1 e.symm)).trans ht⟩
theorem ownK.rfr {w w':World} {r g:Nat} {pv pv' v:Value} {l:List (Nat × Nat × Nat)} (h:ownK w (r+1) v l) (hf:RFr w w' r g pv pv') (hgr:g < r) (hd:Dis pv v):ownK w' (r+1) v l:=by
 have hb:∀ k,v.ownBlock=some k→w'.heap[k]?=w.heap[k]?:=fun k hk=>by
  have:=World.ownsRow.lt h k hk
  exact hf.block k this.2 (by omega) (by omega) (fun e=>hd k e hk)
 refine ⟨h.1,?_⟩
 rcases h.2 with hn | ⟨g,cap,cur,rfl,hbg,hg,rest⟩
 ·exact .inl hn
 ·exact .inr ⟨g,cap,cur,rfl,hbg,(hb g rfl).trans hg,rest⟩
theorem Dis.rfr {w w':World} {r g:Nat} {pv pv' v:Value} (h:∀ k,v.ownBlock=some k→k < w.heap.size) (hf:RFr w w' r g pv pv') (hd:Dis pv v):Dis pv' v:=by
 intro k hk hv
 rcases hf.own with e | ⟨j,hj,e⟩
 ·exact hd k (e.symm.trans hk) hv
 ·rw [e] at hk
  injection hk with hk
  have:=h k hv
  omega
theorem Dis.app {n:Nat} {vp v v':Value} (hd:Dis vp v) (hp:∀ k,vp.ownBlock=some k→k < n) (ha:v'.ownBlock=v.ownBlock∨v'.ownBlock=some n):Dis vp v':=by
 intro k hk hv
 rcases ha with e | e
 ·exact hd k hk (e.symm.trans hv)
 ·rw [e] at hv
  injection hv with hv
  have:=hp k hk
  omega
theorem findF_at {b:List UInt8} {f i:Nat} (h:i < b.length):findF b (f+1) i=tokAt b i :: findF b f (i+stepAt b i):=if_pos h
theorem findF_past {b:List UInt8} {i:Nat} (h:b.length≤i):∀ f,findF b f i=[]
 | 0=>rfl
 | f+1=>if_neg (by omega)
theorem RFr.below3 {w w':World} {r g B:Nat} {pv pv':Value} {i:Nat} {bs:List UInt8} (hf:RFr w w' r g pv pv') (h:Ch w r g i pv bs) (hB:B≤g):Below B w w':=by
 have h1:=h.map.lt
 have h2:=h.lt
 exact hf.below (by omega) (by omega) hB (fun k hk=>by have:=(World.ownsRow.lt h.own k hk).1;omega)
theorem find_step {w w2:World} {c m i nv:Nat} {vp:Value} {Av:Option Addr} {bs:List UInt8} {D:List Tok} (h:Ch w2 c m i vp bs) (hk:ownK w2 (c+1) (.slice Av D.length nv) D) (hd:Dis vp (.slice Av D.length nv)) (hb:Below m w w2) (o1 o2:Obj) :
  ownK ((w2.alloc o1).alloc o2) (c+1) (.slice Av D.length nv) D∧c+1≤((w2.alloc o1).alloc o2).heap.size ∧
   ∀ (v5:Value) (w5:World),((w2.alloc o1).alloc o2).grownBy w5 (Value.slice Av D.length nv).ownBlock→Below (c+1) ((w2.alloc o1).alloc o2) w5→(v5.ownBlock=(Value.slice Av D.length nv).ownBlock∨v5.ownBlock=some ((w2.alloc o1).alloc o2).heap.size) →
    Ch w5 c m i vp bs∧Dis vp v5∧Below m w w5:=by
 have hc:=h.arr.lt
 have hmc:=h.lt
 have hs:=hb.size
 have hm:=h.map.lt
 have hmw:m≤w2.heap.size:=by omega
 refine ⟨(hk.alloc _).alloc _,by rw [World.size_alloc,World.size_alloc];omega,fun v5 w5 hg hb5 ha=>?_⟩
 refine ⟨((h.alloc o1).alloc o2).grown hg (ownK.ne hk (by omega)) (ownK.ne hk (by omega)) ?_,Dis.app hd (fun k hk=>?_) ha,?_⟩
 ·cases e:vp.ownBlock with
  | none=>exact .inl rfl
  | some k=>exact .inr (fun e2=>hd k e e2.symm)
 ·have:=(World.ownsRow.lt h.own k hk).2
  rw [World.size_alloc,World.size_alloc]
  omega
 ·exact ((hb.alloc hmw o1).alloc (by rw [World.size_alloc];omega) o2).trans (hb5.mono (by omega))
set_option maxRecDepth 100000 in
set_option maxHeartbeats 3200000 in
theorem find_any (B n c0:Nat) (A:Option Addr) (bs:List UInt8) (w:World) (h:RdB w B A n bs) (hB:B≤w.heap.size) (hn:n≤40000) (hcap:n≤c0) :
  Calls Tryz.prog 117 #[.slice A n c0] w (FindPost (findP bs) w):=by
 have HR:=Lib.hid h
 have hl:=h.len
 have hmm:∀ (t:TypeId) (w:World),(Instr.makeMap t none).run Tryz.prog w=.ok (.map (some w.heap.size)) (w.alloc (.map #[] 0)):=fun _ _=>rfl
 have hn4:¬ (40000:Int) < (n:Int):=by omega
 clear h
 go_enter Tryz.func117,Tryz.ntmps117
 go_wp2_with fail
 generalize hw1:(w.alloc _).alloc _=w1
 obtain ⟨m,hm⟩:∃ m,w.heap.size=m:=⟨_,rfl⟩
 obtain ⟨c,hc⟩:∃ c,w.heap.size+1=c:=⟨_,rfl⟩
 simp only [hc]
 have HC1:Hid (Ch w1 c m 0 (.slice none 0 0) bs):=(show Ch _ _ _ _ _ _ by
  rw [← hw1,← hc,← hm]
  refine ⟨?_,?_,?_,Nat.lt_succ_self _⟩
  ·have:=Arr.new (w.alloc (.map #[] 0)) [.map (some w.heap.size),.slice none 0 0] 181
   rw [World.size_alloc] at this
   exact this
  ·have e:lastP bs 0=fun _=>0:=rfl
   rw [e]
   exact (isM3.made w).alloc _
  ·exact ownI.nil_ _ _)
 have HB1:Hid (Below m w w1):=(show Below _ _ _ by rw [← hw1,← hm];exact ((Below.refl w.heap.size w).alloc (Nat.le_refl _) (.map #[] 0)).alloc (by simp) _)
 have HK1:Hid (ownK w1 (c+1) (.slice none 0 0) []):=ownK.nil_ _ _
 have HD1:Hid (Dis (.slice none 0 0) (.slice none 0 0)):=(show Dis _ _ from fun k hk=>by cases hk)
 have HE1:Hid ([] ++ findF bs n 0=findP bs):=(show _=_ by rw [← hl];rfl)
 have hmc:m < c:=by omega
 clear hw1 hmm
 rw [hm] at hB hc
 have HBB:=Lib.hid hB
 go_loopw [6,5] (fun vi vl wr=>∃ (i f:Nat) (D:List Tok) (vp:Value),i≤n∧vi=.int .i64 i∧n≤i+f∧D.length≤i∧Hid (D ++ findF bs f i=findP bs)∧Hid (Ch wr c m i vp bs)∧Hid (ownK wr (c+1) vl D)∧Hid (Dis vp vl)∧Hid (Below m w wr)) (fun vi _ _=>n - (intOf vi).toNat)
 case atStart=>exact ⟨0,n,[],.slice none 0 0,Nat.zero_le _,rfl,by omega,Nat.le_refl _,HE1,HC1,HK1,HD1,HB1⟩
 case round =>
  clear HE1 HC1 HK1 HD1 HB1
  obtain ⟨i,f,D,vp,hi,rfl,hf,hDi,HE,HC,HK,HD,HB⟩:=hrel
  obtain ⟨Av,nv,rfl,-⟩:=HK.out.form
  obtain ⟨wo,rfl⟩:∃ wo:World,wo=wr:=⟨_,rfl⟩
  by_cases hlt:i < n
  ·have hlti:(i:Int) < (n:Int):=by omega
   obtain ⟨f,rfl⟩:∃ g,f=g+1:=⟨f - 1,by omega⟩
   rw [findF_at (by omega)] at HE
   have hst:=stepAt_ok (b:=bs) (at_:=i) (by omega)
   have HSA:Hid (stepAt bs i=if (matP bs i).1=0 then 1 else (matP bs i).1):=(show _=_ from rfl)
   have HTA:Hid (tokAt bs i=if (matP bs i).1=0 then (0,0,(bs.getD i 0).toNat) else ((matP bs i).1,(matP bs i).2,0)):=(show _=_ from rfl)
   have HRo:Hid (RdB wo B A n bs):=HR.out.blw (HB.out.mono HBB.out)
   have HMA:=Lib.hid (match_any B n c0 c m i A bs vp wo HC.out HRo.out hlt hn hcap)
   have hmo:=matP_ok bs i
   generalize (matP bs i).1=a at *
   generalize (matP bs i).2=d at *
   have HX:Hid (∀ w2,(∃ q,w2=wo.drewN q)→Ch w2 c m i vp bs∧ownK w2 (c+1) (.slice Av D.length nv) D∧Below m w w2∧RdB w2 B A n bs):=(show ∀ w2,_ by
    rintro w2 ⟨q,rfl⟩
    exact ⟨HC.out.drewN q,HK.out.drewN q,bdrewN HB.out q,Rd.drewN HRo.out q⟩)
   by_cases ha:a=0
   ·have d1:((a:Int) == 0)=true:=by rw [ha];rfl
    obtain ⟨b,o,x,rfl,hb,HXX,e1⟩:=HRo.out.byte hlt
    have x8:=x.toNat_lt
    rw [if_pos ha] at HSA HTA
    rw [HSA.out,HTA.out,getD_at HXX.out] at HE
    clear hmo HSA HTA hst
    have HAP:=Lib.hid (fun w2 (h1:Ch w2 c m i vp bs) (h2:ownK w2 (c+1) (.slice Av D.length nv) D) (h3:Below m w w2)=>find_step h1 h2 HD.out h3 (.cells #[.int .i64 0,.int .i64 0,.int .i64 (x.toNat:Int)] 184) (.cells #[.int .i64 0,.int .i64 0,.int .i64 (x.toNat:Int)] 184))
    have hLn:(D ++ [(0,0,x.toNat)]).length=D.length+1:=by simp
    have hq1:D.length+1≤1099511627776:=by omega
    go_wp2_with (first
     | (go_at_call 144;(with_reducible refine HMA.out.mono ?_);go_must (rintro e w2 ⟨rfl,hq2⟩;obtain ⟨hc2,hk2,hb2,hr2⟩:=HX.out w2 hq2;have e12:w2.cell? ⟨b,o+i,none⟩=some (.int .u8 (x.toNat:Int)):=(by obtain ⟨q,rfl⟩:=hq2;exact e1);have hz2:=hb2.size;have hbw:b < w2.heap.size:=(by omega);have hbN:¬ b=w2.heap.size:=(by omega);obtain ⟨hk3,hz3,hn3⟩:=HAP.out w2 hc2 hk2 hb2;have HK3:=Lib.hid hk3;have HN3:=Lib.hid hn3;have HR3:Hid (RdK ((w2.alloc (.cells #[.int .i64 0,.int .i64 0,.int .i64 (x.toNat:Int)] 184)).alloc (.cells #[.int .i64 0,.int .i64 0,.int .i64 (x.toNat:Int)] 184)) (w2.heap.size+1+1) (some ⟨w2.heap.size+1,0,none⟩) 1 [(0,0,x.toNat)]):=(show RdK _ _ _ _ _ by have:=rd_oneK (w2.alloc (.cells #[.int .i64 0,.int .i64 0,.int .i64 (x.toNat:Int)] 184)) (0,0,x.toNat) 184 (0,0);rw [World.size_alloc] at this;exact this);clear hq2 hc2 hk2 hb2 hr2 hk3 hn3))
     | (at_builtin;go_must (refine wpList_appendK rfl (.tmp 38) (.tmp 40) rfl (c+1) (.slice Av D.length nv) D rfl HK3.out (w2.heap.size+1+1) 1 1 (some ⟨w2.heap.size+1,0,none⟩) [(0,0,x.toNat)] rfl HR3.out hq1 hz3 ?_;intro v5 w5 ho5 hg5 hb5 ha5;obtain ⟨hc5,hd5,hw5⟩:=HN3.out v5 w5 hg5 hb5 ha5;obtain ⟨A5,c5,rfl,-⟩:=ho5.form;rw [hLn] at ho5 hd5;have HC5:=Lib.hid hc5;have HD5:=Lib.hid hd5;have HB5:=Lib.hid hw5;have HK5:=Lib.hid ho5;clear ho5 hg5 hb5 ha5 hc5 hd5 hw5)))
    have HZ5:Hid (RFr w5 w5 c m vp vp):=RFr.refl _ _ _ _
    have HC50:Hid (Ch w5 c m (i+0) vp bs):=(show Ch _ _ _ _ _ _ from HC5.out)
    go_loopw [43] (fun vj wr=>∃ (j:Nat) (vq:Value),j≤1∧vj=.int .i64 j∧Hid (Ch wr c m (i+j) vq bs)∧Hid (RFr w5 wr c m vp vq)) (fun vj _=>1 - (intOf vj).toNat)
    case atStart=>exact ⟨0,vp,Nat.zero_le _,rfl,HC50,HZ5⟩
    case round =>
     clear HZ5 HC50
     obtain ⟨j,vq,hja,rfl,HCj,HFj⟩:=hrel
     have HBj:Hid (Below m w wr):=(show Below _ _ _ from HB5.out.trans (HFj.out.below3 HC5.out (Nat.le_refl _)))
     by_cases hj:j < 1
     ·have hji:(j:Int) < 1:=by omega
      have HAD:=Lib.hid (adds_any B n c0 c m (i+j) _ bs vq wr HCj.out (HR.out.blw (HBj.out.mono HBB.out)) HBB.out (by omega) hn hcap)
      go_wp2_with ((go_at_call 145;(with_reducible refine HAD.out.mono ?_);go_must (rintro e w6 ⟨rfl,vr,hc6,hf6⟩;have HC6:=Lib.hid hc6;have HF6:=Lib.hid (RFr.trans HFj.out hf6);clear hc6 hf6)))
      go_roundw
      case rel=>exact ⟨j+1,vr,by omega,by go_num,HC6,HF6⟩
      case measure=>simp [intOf];omega
     ·obtain rfl:j=1:=by omega
      have hji:¬ (1:Int) < 1:=by omega
      have hq5:=fun k hk=>(World.ownsRow.lt HK5.out k hk).2
      have HKj:=Lib.hid (ownK.rfr HK5.out HFj.out hmc HD5.out)
      have HDj:=Lib.hid (Dis.rfr hq5 HFj.out HD5.out)
      have HEj:Hid (D ++ [(0,0,x.toNat)] ++ findF bs f (i+1)=findP bs):=(show _=_ by rw [← HE.out];simp)
      clear hq5
      go_wp2_with fail
      go_roundw
      case rel=>exact ⟨i+1,by omega,by go_num,f,by omega,D ++ [(0,0,x.toNat)],by rw [hLn];omega,HEj,vq,HCj,HKj,HDj⟩
      case measure=>simp [intOf];omega
   ·have d1:((a:Int) == 0)=false:=beq_eq_false_iff_ne.2 (by omega)
    obtain ⟨g3,g4,g5,g6,g7,g8⟩:3≤a∧a≤258∧i+a≤bs.length∧1≤d∧d≤32768∧d≤i:=by rcases hmo with h | h;exact absurd h ha;exact h
    rw [if_neg ha] at HSA HTA
    rw [HSA.out,HTA.out] at HE
    clear hmo HSA HTA hst
    have HAP:=Lib.hid (fun w2 (h1:Ch w2 c m i vp bs) (h2:ownK w2 (c+1) (.slice Av D.length nv) D) (h3:Below m w w2)=>find_step h1 h2 HD.out h3 (.cells #[.int .i64 (a:Int),.int .i64 (d:Int),.int .i64 0] 184) (.cells #[.int .i64 (a:Int),.int .i64 (d:Int),.int .i64 0] 184))
    have hLn:(D ++ [(a,d,0)]).length=D.length+1:=by simp
    have hq1:D.length+1≤1099511627776:=by omega
    go_wp2_with (first
     | (go_at_call 144;(with_reducible refine HMA.out.mono ?_);go_must (rintro e w2 ⟨rfl,hq2⟩;obtain ⟨hc2,hk2,hb2,hr2⟩:=HX.out w2 hq2;obtain ⟨hk3,hz3,hn3⟩:=HAP.out w2 hc2 hk2 hb2;have HK3:=Lib.hid hk3;have HN3:=Lib.hid hn3;have HR3:Hid (RdK ((w2.alloc (.cells #[.int .i64 (a:Int),.int .i64 (d:Int),.int .i64 0] 184)).alloc (.cells #[.int .i64 (a:Int),.int .i64 (d:Int),.int .i64 0] 184)) (w2.heap.size+1+1) (some ⟨w2.heap.size+1,0,none⟩) 1 [(a,d,0)]):=(show RdK _ _ _ _ _ by have:=rd_oneK (w2.alloc (.cells #[.int .i64 (a:Int),.int .i64 (d:Int),.int .i64 0] 184)) (a,d,0) 184 (0,0);rw [World.size_alloc] at this;exact this);clear hq2 hc2 hk2 hb2 hr2 hk3 hn3))
     | (at_builtin;go_must (refine wpList_appendK rfl (.tmp 38) (.tmp 40) rfl (c+1) (.slice Av D.length nv) D rfl HK3.out (w2.heap.size+1+1) 1 1 (some ⟨w2.heap.size+1,0,none⟩) [(a,d,0)] rfl HR3.out hq1 hz3 ?_;intro v5 w5 ho5 hg5 hb5 ha5;obtain ⟨hc5,hd5,hw5⟩:=HN3.out v5 w5 hg5 hb5 ha5;obtain ⟨A5,c5,rfl,-⟩:=ho5.form;rw [hLn] at ho5 hd5;have HC5:=Lib.hid hc5;have HD5:=Lib.hid hd5;have HB5:=Lib.hid hw5;have HK5:=Lib.hid ho5;clear ho5 hg5 hb5 ha5 hc5 hd5 hw5)))
    have HZ5:Hid (RFr w5 w5 c m vp vp):=RFr.refl _ _ _ _
    have HC50:Hid (Ch w5 c m (i+0) vp bs):=(show Ch _ _ _ _ _ _ from HC5.out)
    go_loopw [43] (fun vj wr=>∃ (j:Nat) (vq:Value),j≤a∧vj=.int .i64 j∧Hid (Ch wr c m (i+j) vq bs)∧Hid (RFr w5 wr c m vp vq)) (fun vj _=>a - (intOf vj).toNat)
    case atStart=>exact ⟨0,vp,Nat.zero_le _,rfl,HC50,HZ5⟩
    case round =>
     clear HZ5 HC50
     obtain ⟨j,vq,hja,rfl,HCj,HFj⟩:=hrel
     have HBj:Hid (Below m w wr):=(show Below _ _ _ from HB5.out.trans (HFj.out.below3 HC5.out (Nat.le_refl _)))
     by_cases hj:j < a
     ·have hji:(j:Int) < (a:Int):=by omega
      have HAD:=Lib.hid (adds_any B n c0 c m (i+j) _ bs vq wr HCj.out (HR.out.blw (HBj.out.mono HBB.out)) HBB.out (by omega) hn hcap)
      go_wp2_with ((go_at_call 145;(with_reducible refine HAD.out.mono ?_);go_must (rintro e w6 ⟨rfl,vr,hc6,hf6⟩;have HC6:=Lib.hid hc6;have HF6:=Lib.hid (RFr.trans HFj.out hf6);clear hc6 hf6)))
      go_roundw
      case rel=>exact ⟨j+1,vr,by omega,by go_num,HC6,HF6⟩
      case measure=>simp [intOf];omega
     ·obtain rfl:j=a:=by omega
      have hji:¬ (j:Int) < (j:Int):=by omega
      have hq5:=fun k hk=>(World.ownsRow.lt HK5.out k hk).2
      have HKj:=Lib.hid (ownK.rfr HK5.out HFj.out hmc HD5.out)
      have HDj:=Lib.hid (Dis.rfr hq5 HFj.out HD5.out)
      have HEj:Hid (D ++ [(j,d,0)] ++ findF bs f (i+j)=findP bs):=(show _=_ by rw [← HE.out];simp)
      clear hq5
      go_wp2_with fail
      go_roundw
      case rel=>exact ⟨i+j,by omega,by go_num,f,by omega,D ++ [(j,d,0)],by rw [hLn];omega,HEj,vq,HCj,HKj,HDj⟩
      case measure=>simp [intOf];omega
  ·obtain rfl:i=n:=by omega
   have HE2:Hid (D=findP bs):=(show _=_ by rw [← HE.out,findF_past (by omega),List.append_nil])
   go_wp2_with fail
   go_ret2
   refine ⟨Av,D.length,nv,rfl,by rw [HE2.out],?_,by rw [hm];exact HB.out⟩
   rw [← HE2.out]
   exact ownK.rd HK.out
end Go.Proofs.YtebbdifhiihfkaaGreatDoor

/- flate: what the chapter's examples fix. -/
namespace Go.Proofs.YtebbdifhiihfkaaGreatDoor
set_option linter.all false
open Go.RowKit
theorem WB.of {bs:List UInt8} {L:List Nat} (hl:bs.length=(L.length+7) / 8) (h:∀ p,p < 8 * bs.length→bitAt bs p=L.getD p 0):WB bs L:=by
 refine ⟨hl,fun p=>?_⟩
 by_cases hp:p < 8 * bs.length
 ·exact h p hp
 ·unfold bitAt
  rw [List.getD_eq_getElem?_getD,List.getElem?_eq_none (by omega),List.getD_eq_getElem?_getD,List.getElem?_eq_none (by omega)]
  simp
theorem rdB_nil0 {w:World} {B:Nat} {A:Option Addr}:RdB w B A 0 []:=⟨by simp [cb],fun h=>absurd h (by omega)⟩
end Go.Proofs.YtebbdifhiihfkaaGreatDoor

/- flate and zlib: Deflate and Pack of any bytes. -/
namespace Go.Proofs.YtebbdifhiihfkaaGreatDoor
set_option linter.all false
open Go.RowKit
theorem deflate_all (B n c:Nat) (A:Option Addr) (bs:List UInt8) (w:World) (h:RdB w B A n bs) (hB:B≤w.heap.size) (hn:n≤40000) (hcap:n≤c) :
  Calls Tryz.prog 97 #[.slice A n c] w fun e w'=>∃ v bz,e=.returned (.tuple #[v,.int .i64 0])∧ownB w' w.heap.size v bz∧WB bz (deflB bs (findP bs))∧Below w.heap.size w w' :=
 deflate_any B n c A bs (findP bs) w h hB hn (find_any B n c A bs w h hB hn hcap) (findP_ok bs).1 (by have:=(findP_ok bs).2;have:=h.len;omega)
theorem best_len {bs bz:List UInt8} (hw:WB bz (deflB bs (findP bs))):bz.length≤bs.length+5:=(best_le (findP_ok bs).1 hw).2
theorem adler_lt (bs:List UInt8):adler bs < 4294967296:=by
 have h:=adP_lt bs
 have e:adler bs=(adP bs).2 * 65536+(adP bs).1:=rfl
 omega
theorem big4 {x:Nat} (h:x < 4294967296):∃ S,beR (x:Int) 4=(S,0)∧S.length=4:=by
 have hk:numOk (x:Int) 4:=⟨by omega,by omega,by omega,by show (x:Int) / 2 ^ (8 * 4)≤0;omega⟩
 exact ⟨beB x 4,by unfold beR;rw [if_pos hk];rfl,beB_len _ _⟩
/-- A frame's bytes. -/
def packL (bz S:List UInt8):List UInt8:=[120,156] ++ bz ++ S
set_option maxRecDepth 100000 in
set_option maxHeartbeats 3200000 in
theorem pack_any (B n c:Nat) (A:Option Addr) (bs S:List UInt8) (w:World) (h:RdB w B A n bs) (hB:B≤w.heap.size) (hn:n≤40000) (hcap:n≤c) (hS:beR ((adler bs:Nat):Int) 4=(S,0)) (hS4:S.length=4) :
  Calls Tryz.prog 74 #[.slice A n c] w fun e w'=>∃ v bz,e=.returned (.tuple #[v,.int .i64 0])∧ownB w' w.heap.size v (packL bz S)∧WB bz (deflB bs (findP bs))∧Below w.heap.size w w':=by
 have HD:=Lib.hid (deflate_all B n c A bs w h hB hn hcap)
 have HR:=Lib.hid h
 have hx:=adler_lt bs
 have HAD:=Lib.hid (fun w1 (h:RdB w1 B A n bs)=>adler_any B n c A bs w1 h (by omega))
 have HBG:=Lib.hid (fun w=>big_any ((adler bs:Nat):Int) 4 w)
 rw [hS] at HBG
 have hl:=h.len
 generalize adler bs=x at *
 clear h hS
 go_enter Tryz.func74,Tryz.ntmps74
 go_wp2_with (first
  | (go_at_call 97;(with_reducible refine HD.out.mono ?_);go_must (rintro e w1 ⟨v1,bz,rfl,ho1,hz1,hb1⟩;have hbz:=best_len hz1;obtain ⟨A1,c1,rfl,hr1,-,-⟩:=ho1.form;have HAD1:=Lib.hid (HAD.out w1 (HR.out.blw (hb1.mono hB)));have HR1:=Lib.hid hr1;have HB1:=Lib.hid hb1;have HZ1:=Lib.hid hz1;have hsz1:=hb1.size;clear ho1 hz1 hb1 hr1))
  | (go_at_call 86;(with_reducible refine HAD1.out.mono ?_);go_must (rintro e w2 ⟨rfl,rfl⟩))
  | (go_at_call 46;(with_reducible refine (HBG.out _).mono ?_);go_must (rintro e w3 ⟨v3,rfl,ho3,hb3⟩;obtain ⟨A3,c3,rfl,-,-,-⟩:=ho3.form;have hr3:=ownB.rd ho3;rw [hS4] at hr3;have HR3:=Lib.hid (Rd.alloc hr3 (Nat.le_refl _) (.cells #[Value.int .u8 120,Value.int .u8 156] 5));have HR13:=Lib.hid (Rd.alloc (RdB.blw HR1.out hb3) hb3.size (.cells #[Value.int .u8 120,Value.int .u8 156] 5));have hsz3:=hb3.size;have HB3:=Lib.hid (HB1.out.trans (hb3.mono hsz1));have HOL:=Lib.hid (own_lit w3 [120,156] (by decide));have hqa:w3.heap.size≤(w3.alloc (.cells #[Value.int .u8 120,Value.int .u8 156] 5)).heap.size:=alloc_le _ _;have hqb:([120,156]:List UInt8).length+bz.length≤140737488355328:=(by show 2+bz.length≤_;omega);clear ho3 hb3 hr3))
  | (at_builtin;(refine wpList_appendB rfl (.tmp 25) (.tmp 26) rfl w3.heap.size v4 ([120,156] ++ bz) rfl HO4.out _ 4 c3 A3 S rfl HR4.out hqc hqd ?_;intro v5 w5 ho5 hg5 hb5 ha5;have HB5:=Lib.hid (HB4.out.trans (hb5.mono (by omega)));have HO5:=Lib.hid (ownB.mono ho5 (by omega:w.heap.size≤w3.heap.size));clear ho5 hg5 hb5 ha5))
  | (at_builtin;(refine wpList_appendB rfl (.tmp 23) (.tmp 24) rfl w3.heap.size (.slice (some ⟨w3.heap.size,0,none⟩) 2 2) [120,156] rfl HOL.out w1.heap.size bz.length c1 A1 bz rfl HR13.out hqb hqa ?_;intro v4 w4 ho4 hg4 hb4 ha4;have hz4:=hb4.size;have hqd:w3.heap.size≤w4.heap.size:=(by omega);have hqc:(([120,156]:List UInt8) ++ bz).length+4≤140737488355328:=(by rw [List.length_append];show 2+bz.length+4≤_;omega);have HR4:=Lib.hid (Rd.below HR3.out hb4);have HB4:=Lib.hid ((HB3.out.alloc (by omega) (.cells #[Value.int .u8 120,Value.int .u8 156] 5)).trans (hb4.mono (by omega)));have HO4:=Lib.hid ho4;clear ho4 hg4 hb4 ha4)))
 go_ret2
 exact ⟨_,bz,rfl,HO5.out,HZ1.out,HB5.out⟩
end Go.Proofs.YtebbdifhiihfkaaGreatDoor

/- zlib: what a pack is. -/
namespace Go.Proofs.YtebbdifhiihfkaaGreatDoor
set_option linter.all false
open Go.RowKit
theorem packL_len0 (bz S:List UInt8):(packL bz S).length=2+bz.length+S.length:=by
 unfold packL
 rw [List.length_append,List.length_append]
 rfl
theorem big4b0 {x:Nat} {S:List UInt8} (h:x < 4294967296) (hS:beR (x:Int) 4=(S,0)):S=beB x 4:=by
 have hk:numOk (x:Int) 4:=⟨by omega,by omega,by omega,by show (x:Int) / 2 ^ (8 * 4)≤0;omega⟩
 unfold beR at hS
 rw [if_pos hk] at hS
 injection hS with hS _
 exact hS.symm
/-- A pack of bytes. -/
def PK (b l:List UInt8):Prop:=∃ bz S,l=packL bz S∧WB bz (deflB b (findP b))∧S=beB (adler b) 4
theorem PK.uniq {b l l':List UInt8} (h:PK b l) (k:PK b l'):l=l':=by
 obtain ⟨bz,S,rfl,hw,rfl⟩:=h
 obtain ⟨bz',S',rfl,hw',rfl⟩:=k
 rw [hw.uniq hw']
theorem PK.len {b l:List UInt8} (h:PK b l):l.length≤b.length+11:=by
 obtain ⟨bz,S,rfl,hw,rfl⟩:=h
 have h1:=best_len hw
 rw [packL_len0,beB_len]
 omega
theorem packK_any (B n c:Nat) (A:Option Addr) (bs:List UInt8) (w:World) (h:RdB w B A n bs) (hB:B≤w.heap.size) (hn:n≤40000) (hcap:n≤c) :
  Calls Tryz.prog 74 #[.slice A n c] w fun e w'=>∃ v l,e=.returned (.tuple #[v,.int .i64 0])∧ownB w' w.heap.size v l∧PK bs l∧Below w.heap.size w w':=by
 obtain ⟨S,hS,hS4⟩:=big4 (adler_lt bs)
 refine (pack_any B n c A bs S w h hB hn hcap hS hS4).mono ?_
 rintro e w' ⟨v,bz,he,ho,hw,hb⟩
 exact ⟨v,_,he,ho,⟨bz,S,rfl,hw,big4b0 (adler_lt bs) hS⟩,hb⟩
end Go.Proofs.YtebbdifhiihfkaaGreatDoor

