/- XHuff1 XHuff2 XHuff3 -/
import Derived.Test.YteoolehdomjkkaaGreatMe09
import Derived.Test.YteoolehdomjkkaaGreatMe05
import Derived.StillTailTactics
namespace Go.Proofs.YteoolehdomjkkaaGreat
set_option linter.all false
open Go.RowKit
theorem ret_bool {a b:Bool} (h:a=b):Ending.returned (.bool a)=.returned (.bool b):=by rw [h]
theorem posn_snoc {ws:List Int} {k:Nat} {x:Int} (h:ws[k]?=some x):posn (ws.take (k+1))=posn (ws.take k)+if 0 < x then 1 else 0:=by
 obtain ⟨hk,rfl⟩:=List.getElem?_eq_some_iff.1 h
 rw [List.take_succ_eq_append_getElem hk]
 unfold posn
 rw [List.filter_append,List.length_append]
 by_cases h:0 < ws[k] <;> simp [h]
theorem posn_le (ws:List Int):posn ws≤ws.length:=List.length_filter_le _ _
theorem badW_snoc {ws:List Int} {k:Nat} {x:Int} (h:ws[k]?=some x):badW (ws.take (k+1))=(badW (ws.take k) || (decide (x < 0) || decide (1073741824 < x))):=by
 obtain ⟨hk,rfl⟩:=List.getElem?_eq_some_iff.1 h
 rw [List.take_succ_eq_append_getElem hk]
 unfold badW
 rw [List.any_append]
 simp
theorem badW_of {ws:List Int} {k:Nat} {x:Int} (h:ws[k]?=some x) (hb:x < 0∨1073741824 < x):badW ws=true:=by
 unfold badW
 rw [List.any_eq_true]
 exact ⟨x,List.mem_of_getElem? h,by simpa using hb⟩
theorem shl_lt (q t:Nat) (h:t≤15):decide (wrap64 (2 ^ t) < (q:Int))=decide (2 ^ t < q):=by
 have e:wrap64 (2 ^ t)=((2 ^ t:Nat):Int):=by
  have h2:(2:Nat) ^ t≤2 ^ 15:=Nat.pow_le_pow_right (by omega) h
  rw [show ((2:Int) ^ t)=((2 ^ t:Nat):Int) by push_cast;rfl]
  generalize 2 ^ t=u at *
  exact wrap64_id _ (by omega) (by omega)
 rw [e]
 simp only [Int.ofNat_lt]
set_option maxRecDepth 100000 in
set_option maxHeartbeats 1600000 in
theorem wrong_any (B n c:Nat) (A:Option Addr) (ws:List Int) (most:Int) (w:World) (h:RdI w B A n ws) (hn:n≤1099511627776) :
  Calls Tryz.prog 155 #[.slice A n c,.int .i64 most] w fun e w'=>e=.returned (.bool (wrongH ws most))∧w=w':=by
 have hl:=h.len
 have hw:∀ r:Bool,wrongH ws most=r→Hid (wrongH ws most=r):=fun _ h=>h
 by_cases hgood:(1≤n∧n≤300)∧(1≤most∧most≤15)
 ·obtain ⟨⟨g1,g2⟩,g3,g4⟩:=hgood
  have HW:Hid (wrongH ws most=(badW ws || decide (2 ^ most.toNat < posn ws))):=(show _=_ by
   unfold wrongH
   rw [decide_eq_false (show ¬ ws.length < 1 by omega),decide_eq_false (show ¬ 300 < ws.length by omega),decide_eq_false (show ¬ most < 1 by omega),decide_eq_false (show ¬ 15 < most by omega)]
   simp)
  have H:=Lib.hid h
  have HL:=Lib.hid hl
  clear h hl hw
  go_enter Tryz.func155,Tryz.ntmps155
  go_wp2
  go_loop [26,5] (fun i p=>∃ k:Nat,k≤n∧i=.int .i64 k∧p=.int .i64 (posn (ws.take k):Nat)∧Hid (badW (ws.take k)=false)) (fun i _=>n - (intOf i).toNat)
  case atStart=>exact ⟨0,Nat.zero_le _,rfl,rfl,rfl⟩
  case round =>
   obtain ⟨k,hk,rfl,rfl,HB⟩:=hrel
   have pl:posn (ws.take k)≤300:=by have:=posn_le (ws.take k);have:=HL.out;simp at *;omega
   by_cases hlt:k < n
   ·obtain ⟨b,o,x,rfl,hb,HX,e1⟩:=H.out.one hlt
    have HP:=Lib.hid (posn_snoc HX.out)
    have HQ:=Lib.hid (badW_snoc HX.out)
    by_cases hbad:x < 0∨1073741824 < x
    ·have HT:Hid (wrongH ws most=true):=(show _=_ by rw [HW.out,badW_of HX.out hbad];rfl)
     rcases hbad with hx | hx
     ·go_wp2
      go_ret
      exact ⟨ret_bool HT.out.symm,rfl⟩
     ·have hx':¬ x < 0:=by omega
      go_wp2
      go_ret
      exact ⟨ret_bool HT.out.symm,rfl⟩
    ·have hx1:0≤x:=by omega
     have hx2:x≤1073741824:=by omega
     have HB2:Hid (badW (ws.take (k+1))=false):=(show _=_ by rw [HQ.out,HB.out,decide_eq_false (show ¬ x < 0 by omega),decide_eq_false (show ¬ 1073741824 < x by omega)];rfl)
     clear hbad
     by_cases hp:0 < x
     ·have HP2:Hid (posn (ws.take (k+1))=posn (ws.take k)+1):=(show _=_ by rw [HP.out,if_pos hp])
      generalize posn (ws.take k)=q at *
      go_wp2
      go_round
      case rel=>exact ⟨k+1,by omega,by go_num,by rw [HP2.out];go_num,HB2⟩
      case measure=>simp [intOf];omega
     ·have HP2:Hid (posn (ws.take (k+1))=posn (ws.take k)):=(show _=_ by rw [HP.out,if_neg hp];rfl)
      generalize posn (ws.take k)=q at *
      go_wp2
      go_round
      case rel=>exact ⟨k+1,by omega,by go_num,by rw [HP2.out],HB2⟩
      case measure=>simp [intOf];omega
   ·obtain rfl:k=n:=by omega
    have HT:Hid (wrongH ws most=decide (2 ^ most.toNat < posn (ws.take k))):=(show _=_ by
     have e:ws.take k=ws:=List.take_of_length_le (by rw [HL.out];exact Nat.le_refl _)
     rw [HW.out]
     have:=HB.out
     rw [e] at this ⊢
     rw [this];rfl)
    generalize posn (ws.take k)=q at *
    go_wp2
    go_ret
    exact ⟨ret_bool (by rw [HT.out];exact shl_lt q _ (by omega)),rfl⟩
 ·have HT:Hid (wrongH ws most=true):=(show _=_ by
   unfold wrongH
   by_cases q1:ws.length < 1
   ·simp [q1]
   by_cases q2:300 < ws.length
   ·simp [q2]
   by_cases q3:most < 1
   ·simp [q3]
   have q4:15 < most:=by omega
   simp [q4])
  clear h hl hw
  by_cases q1:n < 1
  ·go_enter Tryz.func155,Tryz.ntmps155
   go_wp2
   go_ret
   exact ⟨ret_bool HT.out.symm,rfl⟩
  by_cases q2:300 < n
  ·go_enter Tryz.func155,Tryz.ntmps155
   go_wp2
   go_ret
   exact ⟨ret_bool HT.out.symm,rfl⟩
  by_cases q3:most < 1
  ·go_enter Tryz.func155,Tryz.ntmps155
   go_wp2
   go_ret
   exact ⟨ret_bool HT.out.symm,rfl⟩
  have q4:15 < most:=by omega
  clear hgood
  go_enter Tryz.func155,Tryz.ntmps155
  go_wp2
  go_ret
  exact ⟨ret_bool HT.out.symm,rfl⟩
theorem grown_refl0 (w:World) (row:Option Nat):w.grownBy w row:=⟨rfl,rfl,rfl,Nat.le_refl _,fun _ _ _=>rfl⟩
/-- A member just laid. -/
theorem leaf_new (w:World) (lo:Nat) (v:Value) (x:Int) (p:Nat) (t:TypeId) (hv:∀ g,v.ownBlock=some g→g < w.heap.size) (hlo:lo≤w.heap.size) :
  isM (w.alloc (.cells #[.int .i64 x,.int .i64 p,.slice none 0 0] t)) (Out lo (w.alloc (.cells #[.int .i64 x,.int .i64 p,.slice none 0 0] t)) v) w.heap.size (.leaf x p):=by
 have hc:∀ i u,(#[Value.int .i64 x,.int .i64 p,.slice none 0 0]:Array Value)[i]?=some u→(w.alloc (.cells #[.int .i64 x,.int .i64 p,.slice none 0 0] t)).cell? ⟨w.heap.size,i,none⟩=some u:=fun i u h=>by
  rw [cell_of_row _ w.heap.size i _ t (0,0) (heap_alloc_new w _)]
  exact h
 exact ⟨⟨hlo,by simp,fun e=>by have:=hv _ e;omega⟩,hc 0 _ rfl,hc 1 _ rfl,hc 2 _ rfl⟩
theorem rd_oneP1 (w:World) (o:Obj) (z:MP):RdP ((w.alloc o).alloc (.cells #[.pointer (some ⟨z.1,0,none⟩)] 194)) (w.heap.size+1+1) (some ⟨w.heap.size+1,0,none⟩) 1 [z]:=by
 have h:=rd_oneP (w.alloc o) z
 rw [World.size_alloc] at h
 exact h
theorem stab_map {α β:Type} (f:α→β) (wt:β→Int) (l:List α):(stab (fun x=>wt (f x)) l).map f=stab wt (l.map f):=by
 refine SS.eq_stab ⟨?_,?_⟩
 ·unfold Srt
  rw [List.pairwise_map]
  exact (stab_ss (wt:=fun x=>wt (f x)) l).1
 ·intro v
  rw [List.filter_map,List.filter_map]
  exact congrArg (List.map f) ((stab_ss (wt:=fun x=>wt (f x)) l).2 v)
theorem items_step {ws:List Int} {k:Nat} {x:Int} (h:ws[k]?=some x):leaves (ws.take (k+1))=leaves (ws.take k) ++ if 0 < x then [.leaf x k] else []:=by
 obtain ⟨hk,rfl⟩:=List.getElem?_eq_some_iff.1 h
 rw [List.take_succ_eq_append_getElem hk,leaves_snoc]
 rw [List.length_take,Nat.min_eq_left (by omega)]
set_option maxRecDepth 100000 in
set_option maxHeartbeats 3200000 in
theorem items_any (B n c:Nat) (A:Option Addr) (ws:List Int) (w:World) (h:RdI w B A n ws) (hB1:B≤w.heap.size) (hn:n≤1099511627776) :
  Calls Tryz.prog 156 #[.slice A n c] w fun e w'=>∃ A' n' c' zs,e=.returned (.slice A' n' c')∧n'=zs.length∧ownP w' w.heap.size (.slice A' n' c') zs ∧
   zs.map Prod.snd=stab Mem.w (leaves ws)∧(∀ z ∈ zs,isM w' (Rng w.heap.size w'.heap.size) z.1 z.2)∧Below w.heap.size w w':=by
 have hB:=Below.refl w.heap.size w
 have H:=Lib.hid h
 have HL:=Lib.hid h.len
 clear h
 go_enter Tryz.func156,Tryz.ntmps156
 go_wp2
 go_loopw [8,3] (fun i v wr=>∃ (k:Nat) (zs:List MP),k≤n∧i=.int .i64 k∧zs.length≤k∧Hid (zs=[]→v=.slice none 0 0)∧Hid (ownP wr w.heap.size v zs)∧Hid (zs.map Prod.snd=leaves (ws.take k))∧Hid (∀ z ∈ zs,isM wr (Out w.heap.size wr v) z.1 z.2)∧Below w.heap.size w wr)
  (fun i _ _=>n - (intOf i).toNat)
 case atStart=>exact ⟨0,[],Nat.zero_le _,rfl,Nat.zero_le _,(fun _=>rfl),ownP.nil_ _ _,rfl,(fun z hz=>by cases hz),hB⟩
 case round =>
  clear hB
  obtain ⟨k,zs,hk,rfl,hzk,HNL,HO,HZ,HM,hB⟩:=hrel
  have hsz:=hB.size
  by_cases hlt:k < n
  ·obtain ⟨b,o,x,rfl,hb,HX,e1⟩:=(H.out.blw (hB.mono hB1)).one hlt
   have HST:=Lib.hid (items_step HX.out)
   by_cases hp:0 < x
   ·have hbz:b < wr.heap.size:=by omega
    have HO1:=Lib.hid ((HO.out.alloc (.cells #[.int .i64 x,.int .i64 k,.slice none 0 0] 193)).alloc (.cells #[.pointer (some ⟨wr.heap.size,0,none⟩)] 194))
    have hvlt:∀ g,u3.ownBlock=some g→g < wr.heap.size:=fun g hg=>(World.ownsRow.lt HO.out g hg).2
    have HN:=Lib.hid ((leaf_new wr w.heap.size u3 x k 193 hvlt hsz).alloc (.cells #[.pointer (some ⟨wr.heap.size,0,none⟩)] 194))
    have HM1:=Lib.hid (fun z hz=>((HM.out z hz).alloc (.cells #[.int .i64 x,.int .i64 k,.slice none 0 0] 193)).alloc (.cells #[.pointer (some ⟨wr.heap.size,0,none⟩)] 194))
    have HR:=Lib.hid (rd_oneP1 wr (.cells #[.int .i64 x,.int .i64 k,.slice none 0 0] 193) (wr.heap.size,Mem.leaf x k))
    clear hvlt
    have HBB:=Lib.hid ((hB.alloc hsz (.cells #[.int .i64 x,.int .i64 k,.slice none 0 0] 193)).alloc (by simp;omega) (.cells #[.pointer (some ⟨wr.heap.size,0,none⟩)] 194))
    go_wp2_with (at_builtin;go_must (refine wpList_appendP rfl (.tmp 15) (.tmp 20) rfl w.heap.size _ zs rfl HO1.out _ 1 1 _ [(wr.heap.size,Mem.leaf x k)] rfl HR.out (by omega) (by simp;omega) ?_;intro v' w2 ho hg hb2 hv;have HO2:=Lib.hid ho;have HG:=Lib.hid hg;have HV:=Lib.hid hv;have HB2:=Lib.hid (HBB.out.trans hb2);clear ho hg hb2 hv))
    go_roundw
    case rel =>
     refine ⟨k+1,zs ++ [(wr.heap.size,Mem.leaf x k)],by omega,by go_num,by simp;omega,(show _→_ from fun e=>by simp at e),HO2,(show _=_ by rw [HST.out,if_pos hp,← HZ.out];simp),?_,HB2.out⟩
     show ∀ z ∈ _,_
     intro z hz
     rcases List.mem_append.1 hz with hz | hz
     ·exact (HM1.out z hz).app HG.out HV.out
     ·have:z=(wr.heap.size,Mem.leaf x k):=by simpa using hz
      subst this
      exact HN.out.app HG.out HV.out
    case measure=>simp [intOf];omega
   ·have HST2:Hid (leaves (ws.take (k+1))=leaves (ws.take k)):=(show _=_ by rw [HST.out,if_neg hp,List.append_nil])
    go_wp2
    go_roundw
    case rel=>exact ⟨k+1,zs,by omega,by go_num,by omega,HNL,HO,(show _=_ by rw [HST2.out,HZ.out]),HM,hB⟩
    case measure=>simp [intOf];omega
  ·obtain rfl:k=n:=by omega
   have HE:Hid (zs.map Prod.snd=leaves ws):=(show _=_ by rw [HZ.out,List.take_of_length_le (by rw [HL.out];exact Nat.le_refl _)])
   by_cases hnil:zs=[]
   ·subst hnil
    have e:=HNL.out rfl
    clear HO HM HNL
    subst e
    have HO2:=Lib.hid (ownP.nil_ wr w.heap.size)
    go_wp2_with (go_at_call 182;(with_reducible refine (sort_nil _ _).mono ?_);go_must (rintro e w3 ⟨rfl,rfl⟩))
    go_ret
    exact ⟨_,_,_,[],rfl,rfl,HO2.out,by rw [← HE.out];rfl,(fun z hz=>by cases hz),hB⟩
   ·obtain ⟨A',c',rfl,hrd,hlc,hcm⟩:=HO.out.form
    obtain ⟨g,rfl⟩:∃ g,A'=some ⟨g,0,none⟩:=by
     obtain ⟨_,g,e,_,_⟩:=HO.out.pos (List.length_pos_iff.2 hnil)
     exact ⟨g,e⟩
    have HSW:Hid (SortW wr w.heap.size g zs.length c' zs wr):=(show SortW _ _ _ _ _ _ _ from ⟨HO.out,rfl,grown_refl0 _ _,fun z hz=>⟨fun e=>(HM.out z hz).root.2.2 (by rw [e];rfl),(HM.out z hz).weight⟩⟩)
    have HC:=Lib.hid (sort_any wr wr w.heap.size g zs.length c' zs HSW.out (by omega))
    have hg:w.heap.size≤g:=by
     obtain ⟨_,g',e,h1,_⟩:=HO.out.pos (List.length_pos_iff.2 hnil)
     injection e with e;injection e with e;omega
    clear hrd hlc hcm HSW
    go_wp2_with (go_at_call 182;(with_reducible refine HC.out.mono ?_);go_must (rintro e w3 ⟨rfl,hS3⟩;have HS3:=Lib.hid hS3;clear hS3))
    go_ret
    have hm:∀ z ∈ stab mw zs,isM w3 (Out w.heap.size w3 (.slice (some ⟨g,0,none⟩) zs.length c')) z.1 z.2:=fun z hz =>
     (HM.out z (((stab_ss (wt:=mw) zs).2.mem z).1 hz)).app HS3.out.gro (.inl rfl)
    exact ⟨_,_,_,stab mw zs,rfl,(stab_len zs).symm,HS3.out.own,by rw [← HE.out,stab_map],(fun z hz=>(hm z hz).rng),hB.grown HS3.out.gro hsz (fun q hq=>by injection hq with hq;omega)⟩
end Go.Proofs.YteoolehdomjkkaaGreat

/- huff: packages, merged, counts. -/
namespace Go.Proofs.YteoolehdomjkkaaGreat
set_option linter.all false
open Go.RowKit
theorem node_new (w:World) (lo B base b o c:Nat) (v:Value) (x y:MP) (t:TypeId) (h1:w.cell? ⟨b,o,none⟩=some (.pointer (some ⟨x.1,0,none⟩))) (h2:w.cell? ⟨b,o+1,none⟩=some (.pointer (some ⟨y.1,0,none⟩)))
  (hx:isM w (Rng lo B) x.1 x.2) (hy:isM w (Rng lo B) y.1 y.2) (hb:b < B) (hlb:lo≤b) (hB:B≤base) (hbase:base≤w.heap.size) (hv:∀ g,v.ownBlock=some g→base≤g∧g < w.heap.size) (hlo:lo≤w.heap.size) (hc:2≤c) (hcm:c≤maxLen) :
  isM (w.alloc (.cells #[.int .i64 (x.2.w+y.2.w),.int .i64 0,.slice (some ⟨b,o,none⟩) 2 c] t)) (Out lo (w.alloc (.cells #[.int .i64 (x.2.w+y.2.w),.int .i64 0,.slice (some ⟨b,o,none⟩) 2 c] t)) v) w.heap.size (.node x.2 y.2):=by
 have hcell:∀ i u,(#[Value.int .i64 (x.2.w+y.2.w),.int .i64 0,.slice (some ⟨b,o,none⟩) 2 c]:Array Value)[i]?=some u→(w.alloc (.cells #[.int .i64 (x.2.w+y.2.w),.int .i64 0,.slice (some ⟨b,o,none⟩) 2 c] t)).cell? ⟨w.heap.size,i,none⟩=some u:=fun i u h=>by
  rw [cell_of_row _ w.heap.size i _ t (0,0) (heap_alloc_new w _)]
  exact h
 have hin:∀ a,lo≤a→a < B→Out lo (w.alloc (.cells #[.int .i64 (x.2.w+y.2.w),.int .i64 0,.slice (some ⟨b,o,none⟩) 2 c] t)) v a:=fun a h h'=>⟨h,by simp;omega,fun e=>by have:=hv _ e;omega⟩
 exact ⟨⟨hlo,by simp,fun e=>by have:=hv _ e;omega⟩,hcell 0 _ rfl,hcell 1 _ rfl,b,o,c,x.1,y.1,hcell 2 _ rfl,hin b hlb hb,hc,hcm,
  (World.cell?_alloc_lt w _ ⟨b,o,none⟩ (by show b < _;omega)).trans h1,(World.cell?_alloc_lt w _ ⟨b,o+1,none⟩ (by show b < _;omega)).trans h2,
  hx.keep (fun p hp=>World.cell?_alloc_lt w _ p (by have:=hp.2;omega)) (fun a ha=>hin a ha.1 ha.2),hy.keep (fun p hp=>World.cell?_alloc_lt w _ p (by have:=hp.2;omega)) (fun a ha=>hin a ha.1 ha.2)⟩
theorem packs_drop {l:List Mem} {k:Nat} {x y:Mem} (h1:l[k]?=some x) (h2:l[k+1]?=some y):packs (l.drop k)=.node x y :: packs (l.drop (k+2)):=by
 obtain ⟨a1,rfl⟩:=List.getElem?_eq_some_iff.1 h1
 obtain ⟨a2,rfl⟩:=List.getElem?_eq_some_iff.1 h2
 rw [List.drop_eq_getElem_cons a1,List.drop_eq_getElem_cons a2,packs]
theorem packs_short {l:List Mem} (h:l.length≤1):packs l=[]:=by
 match l,h with
 | [],_=>rfl
 | [x],_=>rfl
set_option maxRecDepth 100000 in
set_option maxHeartbeats 3200000 in
theorem packages_any (lo B n c:Nat) (A:Option Addr) (zs:List MP) (w:World) (h:RdP w B A n zs) (hnc:n≤c) (hcm:c≤maxLen) (hB1:B≤w.heap.size) (hn:n≤1099511627776) (hA:∀ a,A=some a→lo≤a.block) (hlo:lo≤w.heap.size)
  (hM:∀ z ∈ zs,isM w (Rng lo B) z.1 z.2) (hW:∀ z ∈ zs,0≤z.2.w∧z.2.w≤1125899906842624) :
  Calls Tryz.prog 158 #[.slice A n c] w fun e w'=>∃ A' n' c' zs',e=.returned (.slice A' n' c')∧n'=zs'.length∧ownP w' w.heap.size (.slice A' n' c') zs' ∧
   zs'.map Prod.snd=packs (zs.map Prod.snd)∧(∀ z ∈ zs',isM w' (Rng lo w'.heap.size) z.1 z.2)∧Below w.heap.size w w':=by
 have hB:=Below.refl w.heap.size w
 have H:=Lib.hid h
 have HL:=Lib.hid h.len
 have HM0:=Lib.hid hM
 have HW:=Lib.hid hW
 have HA:=Lib.hid hA
 unfold maxLen at hcm
 clear h hM hW hA
 go_enter Tryz.func158,Tryz.ntmps158
 go_wp2
 go_loopw [4,3] (fun i v wr=>∃ (k:Nat) (out:List MP),i=.int .i64 k∧k≤n+1∧out.length≤k∧Hid (ownP wr w.heap.size v out)∧Hid (out.map Prod.snd ++ packs ((zs.map Prod.snd).drop k)=packs (zs.map Prod.snd))∧Hid (∀ z ∈ out,isM wr (Out lo wr v) z.1 z.2)∧Below w.heap.size w wr)
  (fun i _ _=>n+1 - (intOf i).toNat)
 case atStart=>exact ⟨0,[],rfl,Nat.zero_le _,Nat.zero_le _,ownP.nil_ _ _,rfl,(fun z hz=>by cases hz),hB⟩
 case round =>
  clear hB
  obtain ⟨k,out,rfl,hk,hok,HO,HZ,HM,hB⟩:=hrel
  have hsz:=hB.size
  by_cases hlt:k+1 < n
  ·obtain ⟨b,o,x,rfl,hb,HX,e1⟩:=(H.out.blw (hB.mono hB1)).one (show k < n by omega)
   obtain ⟨b',o',y,eA,hb',HY,e2⟩:=(H.out.blw (hB.mono hB1)).one (show k+1 < n by omega)
   injection eA with eA
   injection eA with eb eo
   subst eb eo
   have wx:=((HM0.out x (List.mem_of_getElem? HX.out)).blw (hB.mono hB1) (Nat.le_refl _)).weight
   have wy:=((HM0.out y (List.mem_of_getElem? HY.out)).blw (hB.mono hB1) (Nat.le_refl _)).weight
   obtain ⟨wx0,wx1⟩:=HW.out x (List.mem_of_getElem? HX.out)
   obtain ⟨wy0,wy1⟩:=HW.out y (List.mem_of_getElem? HY.out)
   have m1:IntKind.i64.wrap ((k:Int)+1)=(k:Int)+1:=by rw [IntKind.wrap_i64];omega
   have m2:IntKind.i64.wrap ((k:Int)+2)=(k:Int)+2:=by rw [IntKind.wrap_i64];omega
   have m3:IntKind.i64.wrap (x.2.w+y.2.w)=x.2.w+y.2.w:=by rw [IntKind.wrap_i64];omega
   have g1:((k:Int)+1).toNat=k+1:=by omega
   have g2:((k:Int)+2).toNat=k+2:=by omega
   have p1:(0:Int)≤(k:Int)+1:=by omega
   have p2:(k:Int)+1 < n:=by omega
   have p3:(k:Int) < n:=by omega
   have p4:(k:Int)+2≤c:=by omega
   have p5:(k:Int)≤(k:Int)+2:=by omega
   have p6:(0:Int)≤(k:Int)+2:=by omega
   have hck:¬ c=k:=by omega
   have e2':wr.cell? ⟨b,o+k+1,none⟩=some (.pointer (some ⟨y.1,0,none⟩)):=e2
   have HN:=Lib.hid (node_new wr lo B w.heap.size b (o+k) (c - k) u3 x y 193 e1 e2' ((HM0.out x (List.mem_of_getElem? HX.out)).blw (hB.mono hB1) (Nat.le_refl _)) ((HM0.out y (List.mem_of_getElem? HY.out)).blw (hB.mono hB1) (Nat.le_refl _)) hb (HA.out _ rfl) hB1 hsz (fun g hg=>World.ownsRow.lt HO.out g hg) (by omega) (by omega) (by unfold maxLen;omega))
   have HM1:=Lib.hid (fun z hz=>((HM.out z hz).alloc (.cells #[.int .i64 (x.2.w+y.2.w),.int .i64 0,.slice (some ⟨b,o+k,none⟩) 2 (c - k)] 193)).alloc (.cells #[.pointer (some ⟨wr.heap.size,0,none⟩)] 194))
   have HBB:=Lib.hid ((hB.alloc hsz (.cells #[.int .i64 (x.2.w+y.2.w),.int .i64 0,.slice (some ⟨b,o+k,none⟩) 2 (c - k)] 193)).alloc (by simp;omega) (.cells #[.pointer (some ⟨wr.heap.size,0,none⟩)] 194))
   have HN1:=Lib.hid (HN.out.alloc (.cells #[.pointer (some ⟨wr.heap.size,0,none⟩)] 194))
   have HPD:=Lib.hid (packs_drop (l:=zs.map Prod.snd) (k:=k) (x:=x.2) (y:=y.2) (by rw [List.getElem?_map,HX.out];rfl) (by rw [List.getElem?_map,HY.out];rfl))
   clear HN
   go_wp2_with fail
   go_region_law (go_must (refine step_appendP rfl (.tmp 12) (.tmp 36) rfl w.heap.size u3 out rfl ((ownP.drew HO.out).alloc _ |>.alloc _) _ 1 1 _ [(wr.heap.size,Mem.node x.2 y.2)] rfl (rd_oneP1 wr.drew _ (wr.heap.size,Mem.node x.2 y.2)) (by omega) (by simp;omega) ?_;intro v' w2 ho hg hb2 hv;have HO2:=Lib.hid ho;have HG:=Lib.hid hg;have HV:=Lib.hid hv;have HB2:=Lib.hid hb2;clear ho hg hb2 hv))
   all_goals
    go_wp2_with fail
    go_roundw
    case rel =>
     refine ⟨k+2,out ++ [(wr.heap.size,Mem.node x.2 y.2)],by go_num,by omega,by simp;omega,HO2,(show _=_ by rw [← HZ.out,HPD.out];simp),?_,?_⟩
     ·show ∀ z ∈ _,_
      intro z hz
      rcases List.mem_append.1 hz with hz | hz
      ·exact ((HM1.out z hz).drewO 1).app HG.out HV.out
      ·have:z=(wr.heap.size,Mem.node x.2 y.2):=by simpa using hz
       subst this
       exact (HN1.out.drewO 1).app HG.out HV.out
     ·exact (bdrewN HBB.out 1).trans HB2.out
    case measure=>simp [intOf];omega
  ·have HE:Hid (out.map Prod.snd=packs (zs.map Prod.snd)):=(show _=_ by rw [← HZ.out,packs_short (l:=(zs.map Prod.snd).drop k) (by have:=HL.out;simp;omega),List.append_nil])
   obtain ⟨A',c',rfl,hrd,hlc,hcm'⟩:=HO.out.form
   clear hrd hlc hcm'
   go_wp2_with fail
   go_ret
   exact ⟨A',out.length,c',out,rfl,rfl,HO.out,HE.out,(fun z hz=>(HM.out z hz).keep (fun _ _=>rfl) (fun b hb=>⟨hb.1,hb.2.1⟩)),hB⟩
end Go.Proofs.YteoolehdomjkkaaGreat

/- huff: merged. -/
namespace Go.Proofs.YteoolehdomjkkaaGreat
set_option linter.all false
open Go.RowKit
theorem mrgBy_nil {α:Type} {wt:α→Int} (a b:List α) (h:a=[]∨b=[]):mrgBy wt a b=a ++ b:=by
 rcases h with rfl | rfl
 ·rw [mrgBy,List.nil_append]
 ·cases a with
  | nil=>rw [mrgBy,List.nil_append]
  | cons x r=>rw [mrgBy,List.append_nil]
theorem mrgBy_lt {α:Type} {wt:α→Int} {x y:α} {r s:List α} (h:wt y < wt x):mrgBy wt (x :: r) (y :: s)=y :: mrgBy wt (x :: r) s:=by rw [mrgBy,if_pos h]
theorem mrgBy_ge {α:Type} {wt:α→Int} {x y:α} {r s:List α} (h:¬ wt y < wt x):mrgBy wt (x :: r) (y :: s)=x :: mrgBy wt r (y :: s):=by rw [mrgBy,if_neg h]
theorem mrgBy_len {α:Type} {wt:α→Int} (a b:List α):(mrgBy wt a b).length=a.length+b.length:=by
 fun_induction mrgBy wt a b with
 | case1=>simp
 | case2=>simp
 | case3 _ _ _ _ _ ih=>simp [ih];omega
 | case4 _ _ _ _ _ ih=>simp [ih];omega
theorem mrgBy_mem {α:Type} {wt:α→Int} (a b:List α) (z:α):z ∈ mrgBy wt a b ↔ z ∈ a∨z ∈ b:=by
 fun_induction mrgBy wt a b with
 | case1=>simp
 | case2=>simp
 | case3 _ _ _ _ _ ih=>grind
 | case4 _ _ _ _ _ ih=>grind
theorem mrgBy_map {α β:Type} (f:α→β) (wt:β→Int) (a b:List α):(mrgBy (fun x=>wt (f x)) a b).map f=mrgBy wt (a.map f) (b.map f):=by
 fun_induction mrgBy (fun x=>wt (f x)) a b with
 | case1=>simp [mrgBy]
 | case2=>simp [mrgBy]
 | case3 _ _ _ _ h ih=>rw [List.map_cons,ih,List.map_cons,List.map_cons,mrgBy_lt h] <;> rfl
 | case4 _ _ _ _ h ih=>rw [List.map_cons,ih,List.map_cons,List.map_cons,mrgBy_ge h] <;> rfl
def slen:Value→Nat
 | .slice _ k _=>k
 | _=>0
theorem slen_slice (A:Option Addr) (k c:Nat):slen (.slice A k c)=k:=rfl
theorem rdp_any {w:World} {B n:Nat} {A A':Option Addr} {zs:List MP} (h:RdP w B A n zs) (hn:n=0):RdP w B A' n zs:=by
 subst hn
 have:zs=[]:=List.eq_nil_of_length_eq_zero h.len
 subst this
 exact RdP.nil_
/-- The first element of a slice, and the rest. -/
theorem RdP.uncons {w:World} {B n:Nat} {A:Option Addr} {zs:List MP} (h:RdP w B A n zs) (hn:0 < n):∃ b o z r,A=some ⟨b,o,none⟩∧b < B∧zs=z :: r∧w.cell? ⟨b,o,none⟩=some (.pointer (some ⟨z.1,0,none⟩))∧RdP w B (some ⟨b,o+1,none⟩) (n - 1) r:=by
 obtain ⟨b,o,z,rfl,hb,HX,e⟩:=h.one hn
 have hl:=h.len
 cases zs with
 | nil=>simp at hl;omega
 | cons z' r =>
  have:z'=z:=by have:=HX;simpa [Hid] using this
  subst this
  have hr:=h.cut (k:=1) (m:=n - 1) (by omega) (A':=some ⟨b,o+1,none⟩) (fun _=>by simp [add_none])
  simp at hl
  rw [List.drop_one,List.tail_cons,List.take_of_length_le (by omega)] at hr
  exact ⟨b,o,z',r,rfl,hb,rfl,e,hr⟩
set_option maxRecDepth 100000 in
set_option maxHeartbeats 3200000 in
theorem merged_any (S:Nat→Prop) (B n m ca cb:Nat) (A A':Option Addr) (zs1 zs2:List MP) (w:World) (h1:RdP w B A n zs1) (h2:RdP w B A' m zs2) (hnc:n≤ca) (hmc:m≤cb) (hca:ca≤maxLen) (hcb:cb≤maxLen) (hB1:B≤w.heap.size) (hn:n+m≤1099511627776)
  (hM:∀ z,z ∈ zs1∨z ∈ zs2→w.cell? ⟨z.1,0,none⟩=some (.int .i64 z.2.w)) :
  Calls Tryz.prog 157 #[.slice A n ca,.slice A' m cb] w fun e w'=>∃ A' n' c' zs',e=.returned (.slice A' n' c')∧n'=zs'.length∧ownP w' w.heap.size (.slice A' n' c') zs' ∧
   zs'=mrgBy mw zs1 zs2∧Below w.heap.size w w':=by
 have hB:=Below.refl w.heap.size w
 have H1:=Lib.hid h1
 have H2:=Lib.hid h2
 have HM:=Lib.hid hM
 unfold maxLen at hca hcb
 clear h1 h2 hM
 go_enter Tryz.func157,Tryz.ntmps157
 go_wp2
 go_loopw [0,1,5] (fun va vb v wr=>∃ (A1 A2:Option Addr) (n1 n2 c1 c2:Nat) (as_ bs out:List MP),va=.slice A1 n1 c1∧vb=.slice A2 n2 c2∧n1≤c1∧n2≤c2∧c1≤2 ^ 63 - 1∧c2≤2 ^ 63 - 1∧out.length+n1+n2≤n+m∧Hid (RdP w B A1 n1 as_)∧Hid (RdP w B A2 n2 bs) ∧
   Hid (∀ z,z ∈ as_∨z ∈ bs→z ∈ zs1∨z ∈ zs2)∧Hid (out ++ mrgBy mw as_ bs=mrgBy mw zs1 zs2)∧Hid (ownP wr w.heap.size v out)∧Below w.heap.size w wr)
  (fun va vb _ _=>slen va+slen vb)
 case atStart=>exact ⟨A,A',n,m,ca,cb,zs1,zs2,[],rfl,rfl,hnc,hmc,hca,hcb,by simp,H1,H2,(show ∀ z,_ from fun z h=>h),rfl,ownP.nil_ _ _,hB⟩
 case round =>
  clear hB
  obtain ⟨A1,A2,n1,n2,c1,c2,as_,bs,out,rfl,rfl,l1,l2,l3,l4,hsum,R1,R2,HS,HZ,HO,hB⟩:=hrel
  have hsz:=hB.size
  by_cases hlt:0 < n1∧0 < n2
  ·obtain ⟨g1,g2⟩:=hlt
   obtain ⟨b,o,x,at_,rfl,hb,rfl,e1,R1'⟩:=R1.out.uncons g1
   obtain ⟨b',o',y,bt,rfl,hb',rfl,e2,R2'⟩:=R2.out.uncons g2
   have f1:wr.cell? ⟨b,o,none⟩=some (.pointer (some ⟨x.1,0,none⟩)):=(hB.cell (p:=⟨b,o,none⟩) (by show b < _;omega)).trans e1
   have f2:wr.cell? ⟨b',o',none⟩=some (.pointer (some ⟨y.1,0,none⟩)):=(hB.cell (p:=⟨b',o',none⟩) (by show b' < _;omega)).trans e2
   have wx0:=HM.out x (HS.out x (by simp))
   have wy0:=HM.out y (HS.out y (by simp))
   have wx:wr.cell? ⟨x.1,0,none⟩=some (.int .i64 x.2.w):=(hB.cell (p:=⟨x.1,0,none⟩) (block_lt_of_cell (a:=⟨x.1,0,none⟩) wx0)).trans wx0
   have wy:wr.cell? ⟨y.1,0,none⟩=some (.int .i64 y.2.w):=(hB.cell (p:=⟨y.1,0,none⟩) (block_lt_of_cell (a:=⟨y.1,0,none⟩) wy0)).trans wy0
   have HR1:=Lib.hid R1'
   have HR2:=Lib.hid R2'
   have d1:decide ((n1:Int) > 0)=true:=decide_eq_true (by omega)
   have d2:decide ((n2:Int) > 0)=true:=decide_eq_true (by omega)
   clear e1 e2 wx0 wy0 R1' R2'
   by_cases hlt:y.2.w < x.2.w
   ·have HZ2:Hid ((out ++ [y]) ++ mrgBy mw (x :: at_) bt=mrgBy mw zs1 zs2):=(show _=_ by rw [← HZ.out,mrgBy_lt (wt:=mw) hlt];simp)
    have HBB:=Lib.hid (fun k:Nat=>(bdrewN hB (k+1)).alloc (o:=.cells #[.pointer (some ⟨y.1,0,none⟩)] 194) hsz)
    go_wp2_with fail
    go_quiet (fail)
    by_cases hc:c2=1
    ·obtain rfl:n2=1:=by omega
     subst hc
     go_wp2_with fail
     go_region_law (go_must (refine step_appendP rfl (.tmp 27) (.tmp 31) rfl w.heap.size u5 out rfl ((ownP.drewN HO.out (nq+1)).alloc _) _ 1 1 _ [y] rfl (rd_oneP (wr.drewN (nq+1)) y) (by omega) (by simp;omega) ?_;intro v' w2 ho hg hb2 hv;have HO2:=Lib.hid ho;have HB2:=Lib.hid hb2;clear ho hg hb2 hv))
     all_goals
      go_simp
      go_wp2_with fail
      go_roundw
      case rel=>exact ⟨some ⟨b,o,none⟩,some ⟨b',o',none⟩,n1,0,c1,0,x :: at_,bt,out ++ [y],rfl,rfl,l1,by omega,l3,by omega,by simp;omega,R1,(show RdP _ _ _ _ _ from rdp_any HR2.out (by omega)),(show ∀ z,_ from fun z hz=>HS.out z (by rcases hz with hz | hz <;> simp_all)),HZ2,HO2,(HBB.out nq).trans HB2.out⟩
      case measure=>simp only [slen_slice];omega
    ·have k1:(1:Int)≤(n2:Int):=by omega
     go_wp2_with fail
     go_region_law (go_must (refine step_appendP rfl (.tmp 27) (.tmp 31) rfl w.heap.size u5 out rfl ((ownP.drewN HO.out (nq+1)).alloc _) _ 1 1 _ [y] rfl (rd_oneP (wr.drewN (nq+1)) y) (by omega) (by simp;omega) ?_;intro v' w2 ho hg hb2 hv;have HO2:=Lib.hid ho;have HB2:=Lib.hid hb2;clear ho hg hb2 hv))
     all_goals
      go_simp
      go_wp2_with fail
      go_roundw
      case rel=>exact ⟨some ⟨b,o,none⟩,some ⟨b',o'+1,none⟩,n1,n2 - 1,c1,c2 - 1,x :: at_,bt,out ++ [y],rfl,rfl,l1,by omega,l3,by omega,by simp;omega,R1,HR2,(show ∀ z,_ from fun z hz=>HS.out z (by rcases hz with hz | hz <;> simp_all)),HZ2,HO2,(HBB.out nq).trans HB2.out⟩
      case measure=>simp only [slen_slice];omega
   ·have HZ2:Hid ((out ++ [x]) ++ mrgBy mw at_ (y :: bt)=mrgBy mw zs1 zs2):=(show _=_ by rw [← HZ.out,mrgBy_ge (wt:=mw) hlt];simp)
    have HBB:=Lib.hid (fun k:Nat=>(bdrewN hB (k+1)).alloc (o:=.cells #[.pointer (some ⟨x.1,0,none⟩)] 194) hsz)
    go_wp2_with fail
    go_quiet (fail)
    by_cases hc:c1=1
    ·obtain rfl:n1=1:=by omega
     subst hc
     go_wp2_with fail
     go_region_law (go_must (refine step_appendP rfl (.tmp 35) (.tmp 39) rfl w.heap.size u5 out rfl ((ownP.drewN HO.out (nq+1)).alloc _) _ 1 1 _ [x] rfl (rd_oneP (wr.drewN (nq+1)) x) (by omega) (by simp;omega) ?_;intro v' w2 ho hg hb2 hv;have HO2:=Lib.hid ho;have HB2:=Lib.hid hb2;clear ho hg hb2 hv))
     all_goals
      go_simp
      go_wp2_with fail
      go_roundw
      case rel=>exact ⟨some ⟨b,o,none⟩,some ⟨b',o',none⟩,0,n2,0,c2,at_,y :: bt,out ++ [x],rfl,rfl,by omega,l2,by omega,l4,by simp;omega,(show RdP _ _ _ _ _ from rdp_any HR1.out (by omega)),R2,(show ∀ z,_ from fun z hz=>HS.out z (by rcases hz with hz | hz <;> simp_all)),HZ2,HO2,(HBB.out nq).trans HB2.out⟩
      case measure=>simp only [slen_slice];omega
    ·have k1:(1:Int)≤(n1:Int):=by omega
     go_wp2_with fail
     go_region_law (go_must (refine step_appendP rfl (.tmp 35) (.tmp 39) rfl w.heap.size u5 out rfl ((ownP.drewN HO.out (nq+1)).alloc _) _ 1 1 _ [x] rfl (rd_oneP (wr.drewN (nq+1)) x) (by omega) (by simp;omega) ?_;intro v' w2 ho hg hb2 hv;have HO2:=Lib.hid ho;have HB2:=Lib.hid hb2;clear ho hg hb2 hv))
     all_goals
      go_simp
      go_wp2_with fail
      go_roundw
      case rel=>exact ⟨some ⟨b,o+1,none⟩,some ⟨b',o',none⟩,n1 - 1,n2,c1 - 1,c2,at_,y :: bt,out ++ [x],rfl,rfl,by omega,l2,by omega,l4,by simp;omega,HR1,R2,(show ∀ z,_ from fun z hz=>HS.out z (by rcases hz with hz | hz <;> simp_all)),HZ2,HO2,(HBB.out nq).trans HB2.out⟩
      case measure=>simp only [slen_slice];omega
  ·have HE:Hid (out ++ as_ ++ bs=mrgBy mw zs1 zs2):=(show _=_ by
    rw [← HZ.out,mrgBy_nil]
    ·simp
    ·have h1:=R1.out.len
     have h2:=R2.out.len
     by_cases hh:0 < n1
     ·exact .inr (List.eq_nil_of_length_eq_zero (by omega))
     ·exact .inl (List.eq_nil_of_length_eq_zero (by omega)))
   have L1:=Lib.hid R1.out.len
   have L2:=Lib.hid R2.out.len
   by_cases g1:0 < n1 <;> by_cases g2:0 < n2 <;> (first | (exfalso;omega) | skip)
   all_goals
    go_wp2_with (first
     | (at_builtin;(refine wpList_appendP rfl (.tmp 43) (.tmp 44) rfl w.heap.size u5 out rfl HO.out B n1 c1 A1 as_ rfl (R1.out.blw (hB.mono hB1)) (by omega) hsz ?_;intro v' w2 ho hg hb2 hv;have HO2:=Lib.hid ho;have HB2:=Lib.hid (hB.trans hb2);clear ho hg hb2 hv))
     | (at_builtin;(refine wpList_appendP rfl (.tmp 45) (.tmp 46) rfl w.heap.size v' (out ++ as_) rfl HO2.out B n2 c2 A2 bs rfl (R2.out.blw (HB2.out.mono hB1)) (by have:=L1.out;simp;omega) HB2.out.size ?_;intro v4 w4 ho hg hb2 hv;have HO4:=Lib.hid ho;have HB4:=Lib.hid (HB2.out.trans hb2);clear ho hg hb2 hv)))
    obtain ⟨A9,c9,rfl,h91,h92,h93⟩:=HO4.out.form
    go_ret
    exact ⟨A9,_,c9,_,rfl,rfl,HO4.out,HE.out,HB4.out⟩
end Go.Proofs.YteoolehdomjkkaaGreat

