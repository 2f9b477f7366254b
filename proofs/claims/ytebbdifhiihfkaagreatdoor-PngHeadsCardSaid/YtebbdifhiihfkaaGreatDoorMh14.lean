/- XHuff1 XHuff2 XHuff3 XHuff4 XHuffP XHuff5 -/
import Derived.Test.YtebbdifhiihfkaaGreatDoorMh13
import Derived.Test.YtebbdifhiihfkaaGreatDoorMh05
import Derived.StillTailTactics
namespace Go.Proofs.YtebbdifhiihfkaaGreatDoor
set_option linter.all false
open Go.RowKit
theorem ret_bool {a b:Bool} (h:a=b):Ending.returned (.bool a)=.returned (.bool b):=by rw [h]
theorem posn_snoc {ws:List Int} {k:Nat} {x:Int} (h:ws[k]?=some x):posn (ws.take (k+1))=posn (ws.take k)+if 0 < x then 1 else 0:=by
 obtain ⟨hk,rfl⟩:=List.getElem?_eq_some_iff.1 h
 rw [List.take_succ_eq_append_getElem hk]
 unfold posn
 rw [List.filter_append,List.length_append]
 by_cases h:0 < ws[k] <;> simp [h]
theorem posn_le (ws:List Int):posn ws≤ws.length:=List.length_filter_le _ _
theorem badW_snoc {ws:List Int} {k:Nat} {x:Int} (h:ws[k]?=some x):badW (ws.take (k+1))=(badW (ws.take k) || (decide (x < 0) || decide (1073741824 < x))):=by
 obtain ⟨hk,rfl⟩:=List.getElem?_eq_some_iff.1 h
 rw [List.take_succ_eq_append_getElem hk]
 unfold badW
 rw [List.any_append]
 simp
theorem badW_of {ws:List Int} {k:Nat} {x:Int} (h:ws[k]?=some x) (hb:x < 0∨1073741824 < x):badW ws=true:=by
 unfold badW
 rw [List.any_eq_true]
 exact ⟨x,List.mem_of_getElem? h,by simpa using hb⟩
theorem shl_lt (q t:Nat) (h:t≤15):decide (wrap64 (2 ^ t) < (q:Int))=decide (2 ^ t < q):=by
 have e:wrap64 (2 ^ t)=((2 ^ t:Nat):Int):=by
  have h2:(2:Nat) ^ t≤2 ^ 15:=Nat.pow_le_pow_right (by omega) h
  rw [show ((2:Int) ^ t)=((2 ^ t:Nat):Int) by push_cast;rfl]
  generalize 2 ^ t=u at *
  exact wrap64_id _ (by omega) (by omega)
 rw [e]
 simp only [Int.ofNat_lt]
set_option maxRecDepth 100000 in
set_option maxHeartbeats 1600000 in
theorem wrong_any (B n c:Nat) (A:Option Addr) (ws:List Int) (most:Int) (w:World) (h:RdI w B A n ws) (hn:n≤1099511627776) :
  Calls Tryz.prog 172 #[.slice A n c,.int .i64 most] w fun e w'=>e=.returned (.bool (wrongH ws most))∧w=w':=by
 have hl:=h.len
 have hw:∀ r:Bool,wrongH ws most=r→Hid (wrongH ws most=r):=fun _ h=>h
 by_cases hgood:(1≤n∧n≤300)∧(1≤most∧most≤15)
 ·obtain ⟨⟨g1,g2⟩,g3,g4⟩:=hgood
  have HW:Hid (wrongH ws most=(badW ws || decide (2 ^ most.toNat < posn ws))):=(show _=_ by
   unfold wrongH
   rw [decide_eq_false (show ¬ ws.length < 1 by omega),decide_eq_false (show ¬ 300 < ws.length by omega),decide_eq_false (show ¬ most < 1 by omega),decide_eq_false (show ¬ 15 < most by omega)]
   simp)
  have H:=Lib.hid h
  have HL:=Lib.hid hl
  clear h hl hw
  go_enter Tryz.func172,Tryz.ntmps172
  go_wp2
  go_loop [26,5] (fun i p=>∃ k:Nat,k≤n∧i=.int .i64 k∧p=.int .i64 (posn (ws.take k):Nat)∧Hid (badW (ws.take k)=false)) (fun i _=>n - (intOf i).toNat)
  case atStart=>exact ⟨0,Nat.zero_le _,rfl,rfl,rfl⟩
  case round =>
   obtain ⟨k,hk,rfl,rfl,HB⟩:=hrel
   have pl:posn (ws.take k)≤300:=by have:=posn_le (ws.take k);have:=HL.out;simp at *;omega
   by_cases hlt:k < n
   ·obtain ⟨b,o,x,rfl,hb,HX,e1⟩:=H.out.one hlt
    have HP:=Lib.hid (posn_snoc HX.out)
    have HQ:=Lib.hid (badW_snoc HX.out)
    by_cases hbad:x < 0∨1073741824 < x
    ·have HT:Hid (wrongH ws most=true):=(show _=_ by rw [HW.out,badW_of HX.out hbad];rfl)
     rcases hbad with hx | hx
     ·go_wp2
      go_ret
      exact ⟨ret_bool HT.out.symm,rfl⟩
     ·have hx':¬ x < 0:=by omega
      go_wp2
      go_ret
      exact ⟨ret_bool HT.out.symm,rfl⟩
    ·have hx1:0≤x:=by omega
     have hx2:x≤1073741824:=by omega
     have HB2:Hid (badW (ws.take (k+1))=false):=(show _=_ by rw [HQ.out,HB.out,decide_eq_false (show ¬ x < 0 by omega),decide_eq_false (show ¬ 1073741824 < x by omega)];rfl)
     clear hbad
     by_cases hp:0 < x
     ·have HP2:Hid (posn (ws.take (k+1))=posn (ws.take k)+1):=(show _=_ by rw [HP.out,if_pos hp])
      generalize posn (ws.take k)=q at *
      go_wp2
      go_round
      case rel=>exact ⟨k+1,by omega,by go_num,by rw [HP2.out];go_num,HB2⟩
      case measure=>simp [intOf];omega
     ·have HP2:Hid (posn (ws.take (k+1))=posn (ws.take k)):=(show _=_ by rw [HP.out,if_neg hp];rfl)
      generalize posn (ws.take k)=q at *
      go_wp2
      go_round
      case rel=>exact ⟨k+1,by omega,by go_num,by rw [HP2.out],HB2⟩
      case measure=>simp [intOf];omega
   ·obtain rfl:k=n:=by omega
    have HT:Hid (wrongH ws most=decide (2 ^ most.toNat < posn (ws.take k))):=(show _=_ by
     have e:ws.take k=ws:=List.take_of_length_le (by rw [HL.out];exact Nat.le_refl _)
     rw [HW.out]
     have:=HB.out
     rw [e] at this ⊢
     rw [this];rfl)
    generalize posn (ws.take k)=q at *
    go_wp2
    go_ret
    exact ⟨ret_bool (by rw [HT.out];exact shl_lt q _ (by omega)),rfl⟩
 ·have HT:Hid (wrongH ws most=true):=(show _=_ by
   unfold wrongH
   by_cases q1:ws.length < 1
   ·simp [q1]
   by_cases q2:300 < ws.length
   ·simp [q2]
   by_cases q3:most < 1
   ·simp [q3]
   have q4:15 < most:=by omega
   simp [q4])
  clear h hl hw
  by_cases q1:n < 1
  ·go_enter Tryz.func172,Tryz.ntmps172
   go_wp2
   go_ret
   exact ⟨ret_bool HT.out.symm,rfl⟩
  by_cases q2:300 < n
  ·go_enter Tryz.func172,Tryz.ntmps172
   go_wp2
   go_ret
   exact ⟨ret_bool HT.out.symm,rfl⟩
  by_cases q3:most < 1
  ·go_enter Tryz.func172,Tryz.ntmps172
   go_wp2
   go_ret
   exact ⟨ret_bool HT.out.symm,rfl⟩
  have q4:15 < most:=by omega
  clear hgood
  go_enter Tryz.func172,Tryz.ntmps172
  go_wp2
  go_ret
  exact ⟨ret_bool HT.out.symm,rfl⟩
theorem grown_refl0 (w:World) (row:Option Nat):w.grownBy w row:=⟨rfl,rfl,rfl,Nat.le_refl _,fun _ _ _=>rfl⟩
/-- A member just laid. -/
theorem leaf_new (w:World) (lo:Nat) (v:Value) (x:Int) (p:Nat) (t:TypeId) (hv:∀ g,v.ownBlock=some g→g < w.heap.size) (hlo:lo≤w.heap.size) :
  isM (w.alloc (.cells #[.int .i64 x,.int .i64 p,.slice none 0 0] t)) (Out lo (w.alloc (.cells #[.int .i64 x,.int .i64 p,.slice none 0 0] t)) v) w.heap.size (.leaf x p):=by
 have hc:∀ i u,(#[Value.int .i64 x,.int .i64 p,.slice none 0 0]:Array Value)[i]?=some u→(w.alloc (.cells #[.int .i64 x,.int .i64 p,.slice none 0 0] t)).cell? ⟨w.heap.size,i,none⟩=some u:=fun i u h=>by
  rw [cell_of_row _ w.heap.size i _ t (0,0) (heap_alloc_new w _)]
  exact h
 exact ⟨⟨hlo,by simp,fun e=>by have:=hv _ e;omega⟩,hc 0 _ rfl,hc 1 _ rfl,hc 2 _ rfl⟩
theorem rd_oneP1 (w:World) (o:Obj) (z:MP):RdP ((w.alloc o).alloc (.cells #[.pointer (some ⟨z.1,0,none⟩)] 228)) (w.heap.size+1+1) (some ⟨w.heap.size+1,0,none⟩) 1 [z]:=by
 have h:=rd_oneP (w.alloc o) z
 rw [World.size_alloc] at h
 exact h
theorem stab_map {α β:Type} (f:α→β) (wt:β→Int) (l:List α):(stab (fun x=>wt (f x)) l).map f=stab wt (l.map f):=by
 refine SS.eq_stab ⟨?_,?_⟩
 ·unfold Srt
  rw [List.pairwise_map]
  exact (stab_ss (wt:=fun x=>wt (f x)) l).1
 ·intro v
  rw [List.filter_map,List.filter_map]
  exact congrArg (List.map f) ((stab_ss (wt:=fun x=>wt (f x)) l).2 v)
theorem items_step {ws:List Int} {k:Nat} {x:Int} (h:ws[k]?=some x):leaves (ws.take (k+1))=leaves (ws.take k) ++ if 0 < x then [.leaf x k] else []:=by
 obtain ⟨hk,rfl⟩:=List.getElem?_eq_some_iff.1 h
 rw [List.take_succ_eq_append_getElem hk,leaves_snoc]
 rw [List.length_take,Nat.min_eq_left (by omega)]
set_option maxRecDepth 100000 in
set_option maxHeartbeats 3200000 in
theorem items_any (B n c:Nat) (A:Option Addr) (ws:List Int) (w:World) (h:RdI w B A n ws) (hB1:B≤w.heap.size) (hn:n≤1099511627776) :
  Calls Tryz.prog 173 #[.slice A n c] w fun e w'=>∃ A' n' c' zs,e=.returned (.slice A' n' c')∧n'=zs.length∧ownP w' w.heap.size (.slice A' n' c') zs ∧
   zs.map Prod.snd=stab Mem.w (leaves ws)∧(∀ z ∈ zs,isM w' (Rng w.heap.size w'.heap.size) z.1 z.2)∧Below w.heap.size w w':=by
 have hB:=Below.refl w.heap.size w
 have H:=Lib.hid h
 have HL:=Lib.hid h.len
 clear h
 go_enter Tryz.func173,Tryz.ntmps173
 go_wp2
 go_loopw [8,3] (fun i v wr=>∃ (k:Nat) (zs:List MP),k≤n∧i=.int .i64 k∧zs.length≤k∧Hid (zs=[]→v=.slice none 0 0)∧Hid (ownP wr w.heap.size v zs)∧Hid (zs.map Prod.snd=leaves (ws.take k))∧Hid (∀ z ∈ zs,isM wr (Out w.heap.size wr v) z.1 z.2)∧Below w.heap.size w wr)
  (fun i _ _=>n - (intOf i).toNat)
 case atStart=>exact ⟨0,[],Nat.zero_le _,rfl,Nat.zero_le _,(fun _=>rfl),ownP.nil_ _ _,rfl,(fun z hz=>by cases hz),hB⟩
 case round =>
  clear hB
  obtain ⟨k,zs,hk,rfl,hzk,HNL,HO,HZ,HM,hB⟩:=hrel
  have hsz:=hB.size
  by_cases hlt:k < n
  ·obtain ⟨b,o,x,rfl,hb,HX,e1⟩:=(H.out.blw (hB.mono hB1)).one hlt
   have HST:=Lib.hid (items_step HX.out)
   by_cases hp:0 < x
   ·have hbz:b < wr.heap.size:=by omega
    have HO1:=Lib.hid ((HO.out.alloc (.cells #[.int .i64 x,.int .i64 k,.slice none 0 0] 227)).alloc (.cells #[.pointer (some ⟨wr.heap.size,0,none⟩)] 228))
    have hvlt:∀ g,u3.ownBlock=some g→g < wr.heap.size:=fun g hg=>(World.ownsRow.lt HO.out g hg).2
    have HN:=Lib.hid ((leaf_new wr w.heap.size u3 x k 227 hvlt hsz).alloc (.cells #[.pointer (some ⟨wr.heap.size,0,none⟩)] 228))
    have HM1:=Lib.hid (fun z hz=>((HM.out z hz).alloc (.cells #[.int .i64 x,.int .i64 k,.slice none 0 0] 227)).alloc (.cells #[.pointer (some ⟨wr.heap.size,0,none⟩)] 228))
    have HR:=Lib.hid (rd_oneP1 wr (.cells #[.int .i64 x,.int .i64 k,.slice none 0 0] 227) (wr.heap.size,Mem.leaf x k))
    clear hvlt
    have HBB:=Lib.hid ((hB.alloc hsz (.cells #[.int .i64 x,.int .i64 k,.slice none 0 0] 227)).alloc (by simp;omega) (.cells #[.pointer (some ⟨wr.heap.size,0,none⟩)] 228))
    go_wp2_with (at_builtin;go_must (refine wpList_appendP rfl (.tmp 15) (.tmp 20) rfl w.heap.size _ zs rfl HO1.out _ 1 1 _ [(wr.heap.size,Mem.leaf x k)] rfl HR.out (by omega) (by simp;omega) ?_;intro v' w2 ho hg hb2 hv;have HO2:=Lib.hid ho;have HG:=Lib.hid hg;have HV:=Lib.hid hv;have HB2:=Lib.hid (HBB.out.trans hb2);clear ho hg hb2 hv))
    go_roundw
    case rel =>
     refine ⟨k+1,zs ++ [(wr.heap.size,Mem.leaf x k)],by omega,by go_num,by simp;omega,(show _→_ from fun e=>by simp at e),HO2,(show _=_ by rw [HST.out,if_pos hp,← HZ.out];simp),?_,HB2.out⟩
     show ∀ z ∈ _,_
     intro z hz
     rcases List.mem_append.1 hz with hz | hz
     ·exact (HM1.out z hz).app HG.out HV.out
     ·have:z=(wr.heap.size,Mem.leaf x k):=by simpa using hz
      subst this
      exact HN.out.app HG.out HV.out
    case measure=>simp [intOf];omega
   ·have HST2:Hid (leaves (ws.take (k+1))=leaves (ws.take k)):=(show _=_ by rw [HST.out,if_neg hp,List.append_nil])
    go_wp2
    go_roundw
    case rel=>exact ⟨k+1,zs,by omega,by go_num,by omega,HNL,HO,(show _=_ by rw [HST2.out,HZ.out]),HM,hB⟩
    case measure=>simp [intOf];omega
  ·obtain rfl:k=n:=by omega
   have HE:Hid (zs.map Prod.snd=leaves ws):=(show _=_ by rw [HZ.out,List.take_of_length_le (by rw [HL.out];exact Nat.le_refl _)])
   by_cases hnil:zs=[]
   ·subst hnil
    have e:=HNL.out rfl
    clear HO HM HNL
    subst e
    have HO2:=Lib.hid (ownP.nil_ wr w.heap.size)
    go_wp2_with (go_at_call 184;(with_reducible refine (sort_nil _ _).mono ?_);go_must (rintro e w3 ⟨rfl,rfl⟩))
    go_ret
    exact ⟨_,_,_,[],rfl,rfl,HO2.out,by rw [← HE.out];rfl,(fun z hz=>by cases hz),hB⟩
   ·obtain ⟨A',c',rfl,hrd,hlc,hcm⟩:=HO.out.form
    obtain ⟨g,rfl⟩:∃ g,A'=some ⟨g,0,none⟩:=by
     obtain ⟨_,g,e,_,_⟩:=HO.out.pos (List.length_pos_iff.2 hnil)
     exact ⟨g,e⟩
    have HSW:Hid (SortW wr w.heap.size g zs.length c' zs wr):=(show SortW _ _ _ _ _ _ _ from ⟨HO.out,rfl,grown_refl0 _ _,fun z hz=>⟨fun e=>(HM.out z hz).root.2.2 (by rw [e];rfl),(HM.out z hz).weight⟩⟩)
    have HC:=Lib.hid (sort_any wr wr w.heap.size g zs.length c' zs HSW.out (by omega))
    have hg:w.heap.size≤g:=by
     obtain ⟨_,g',e,h1,_⟩:=HO.out.pos (List.length_pos_iff.2 hnil)
     injection e with e;injection e with e;omega
    clear hrd hlc hcm HSW
    go_wp2_with (go_at_call 184;(with_reducible refine HC.out.mono ?_);go_must (rintro e w3 ⟨rfl,hS3⟩;have HS3:=Lib.hid hS3;clear hS3))
    go_ret
    have hm:∀ z ∈ stab mw zs,isM w3 (Out w.heap.size w3 (.slice (some ⟨g,0,none⟩) zs.length c')) z.1 z.2:=fun z hz =>
     (HM.out z (((stab_ss (wt:=mw) zs).2.mem z).1 hz)).app HS3.out.gro (.inl rfl)
    exact ⟨_,_,_,stab mw zs,rfl,(stab_len zs).symm,HS3.out.own,by rw [← HE.out,stab_map],(fun z hz=>(hm z hz).rng),hB.grown HS3.out.gro hsz (fun q hq=>by injection hq with hq;omega)⟩
end Go.Proofs.YtebbdifhiihfkaaGreatDoor

/- huff: packages, merged, counts. -/
namespace Go.Proofs.YtebbdifhiihfkaaGreatDoor
set_option linter.all false
open Go.RowKit
theorem node_new (w:World) (lo B base b o c:Nat) (v:Value) (x y:MP) (t:TypeId) (h1:w.cell? ⟨b,o,none⟩=some (.pointer (some ⟨x.1,0,none⟩))) (h2:w.cell? ⟨b,o+1,none⟩=some (.pointer (some ⟨y.1,0,none⟩)))
  (hx:isM w (Rng lo B) x.1 x.2) (hy:isM w (Rng lo B) y.1 y.2) (hb:b < B) (hlb:lo≤b) (hB:B≤base) (hbase:base≤w.heap.size) (hv:∀ g,v.ownBlock=some g→base≤g∧g < w.heap.size) (hlo:lo≤w.heap.size) (hc:2≤c) (hcm:c≤maxLen) :
  isM (w.alloc (.cells #[.int .i64 (x.2.w+y.2.w),.int .i64 0,.slice (some ⟨b,o,none⟩) 2 c] t)) (Out lo (w.alloc (.cells #[.int .i64 (x.2.w+y.2.w),.int .i64 0,.slice (some ⟨b,o,none⟩) 2 c] t)) v) w.heap.size (.node x.2 y.2):=by
 have hcell:∀ i u,(#[Value.int .i64 (x.2.w+y.2.w),.int .i64 0,.slice (some ⟨b,o,none⟩) 2 c]:Array Value)[i]?=some u→(w.alloc (.cells #[.int .i64 (x.2.w+y.2.w),.int .i64 0,.slice (some ⟨b,o,none⟩) 2 c] t)).cell? ⟨w.heap.size,i,none⟩=some u:=fun i u h=>by
  rw [cell_of_row _ w.heap.size i _ t (0,0) (heap_alloc_new w _)]
  exact h
 have hin:∀ a,lo≤a→a < B→Out lo (w.alloc (.cells #[.int .i64 (x.2.w+y.2.w),.int .i64 0,.slice (some ⟨b,o,none⟩) 2 c] t)) v a:=fun a h h'=>⟨h,by simp;omega,fun e=>by have:=hv _ e;omega⟩
 exact ⟨⟨hlo,by simp,fun e=>by have:=hv _ e;omega⟩,hcell 0 _ rfl,hcell 1 _ rfl,b,o,c,x.1,y.1,hcell 2 _ rfl,hin b hlb hb,hc,hcm,
  (World.cell?_alloc_lt w _ ⟨b,o,none⟩ (by show b < _;omega)).trans h1,(World.cell?_alloc_lt w _ ⟨b,o+1,none⟩ (by show b < _;omega)).trans h2,
  hx.keep (fun p hp=>World.cell?_alloc_lt w _ p (by have:=hp.2;omega)) (fun a ha=>hin a ha.1 ha.2),hy.keep (fun p hp=>World.cell?_alloc_lt w _ p (by have:=hp.2;omega)) (fun a ha=>hin a ha.1 ha.2)⟩
theorem packs_drop {l:List Mem} {k:Nat} {x y:Mem} (h1:l[k]?=some x) (h2:l[k+1]?=some y):packs (l.drop k)=.node x y :: packs (l.drop (k+2)):=by
 obtain ⟨a1,rfl⟩:=List.getElem?_eq_some_iff.1 h1
 obtain ⟨a2,rfl⟩:=List.getElem?_eq_some_iff.1 h2
 rw [List.drop_eq_getElem_cons a1,List.drop_eq_getElem_cons a2,packs]
theorem packs_short {l:List Mem} (h:l.length≤1):packs l=[]:=by
 match l,h with
 | [],_=>rfl
 | [x],_=>rfl
set_option maxRecDepth 100000 in
set_option maxHeartbeats 3200000 in
theorem packages_any (lo B n c:Nat) (A:Option Addr) (zs:List MP) (w:World) (h:RdP w B A n zs) (hnc:n≤c) (hcm:c≤maxLen) (hB1:B≤w.heap.size) (hn:n≤1099511627776) (hA:∀ a,A=some a→lo≤a.block) (hlo:lo≤w.heap.size)
  (hM:∀ z ∈ zs,isM w (Rng lo B) z.1 z.2) (hW:∀ z ∈ zs,0≤z.2.w∧z.2.w≤1125899906842624) :
  Calls Tryz.prog 175 #[.slice A n c] w fun e w'=>∃ A' n' c' zs',e=.returned (.slice A' n' c')∧n'=zs'.length∧ownP w' w.heap.size (.slice A' n' c') zs' ∧
   zs'.map Prod.snd=packs (zs.map Prod.snd)∧(∀ z ∈ zs',isM w' (Rng lo w'.heap.size) z.1 z.2)∧Below w.heap.size w w':=by
 have hB:=Below.refl w.heap.size w
 have H:=Lib.hid h
 have HL:=Lib.hid h.len
 have HM0:=Lib.hid hM
 have HW:=Lib.hid hW
 have HA:=Lib.hid hA
 unfold maxLen at hcm
 clear h hM hW hA
 go_enter Tryz.func175,Tryz.ntmps175
 go_wp2
 go_loopw [4,3] (fun i v wr=>∃ (k:Nat) (out:List MP),i=.int .i64 k∧k≤n+1∧out.length≤k∧Hid (ownP wr w.heap.size v out)∧Hid (out.map Prod.snd ++ packs ((zs.map Prod.snd).drop k)=packs (zs.map Prod.snd))∧Hid (∀ z ∈ out,isM wr (Out lo wr v) z.1 z.2)∧Below w.heap.size w wr)
  (fun i _ _=>n+1 - (intOf i).toNat)
 case atStart=>exact ⟨0,[],rfl,Nat.zero_le _,Nat.zero_le _,ownP.nil_ _ _,rfl,(fun z hz=>by cases hz),hB⟩
 case round =>
  clear hB
  obtain ⟨k,out,rfl,hk,hok,HO,HZ,HM,hB⟩:=hrel
  have hsz:=hB.size
  by_cases hlt:k+1 < n
  ·obtain ⟨b,o,x,rfl,hb,HX,e1⟩:=(H.out.blw (hB.mono hB1)).one (show k < n by omega)
   obtain ⟨b',o',y,eA,hb',HY,e2⟩:=(H.out.blw (hB.mono hB1)).one (show k+1 < n by omega)
   injection eA with eA
   injection eA with eb eo
   subst eb eo
   have wx:=((HM0.out x (List.mem_of_getElem? HX.out)).blw (hB.mono hB1) (Nat.le_refl _)).weight
   have wy:=((HM0.out y (List.mem_of_getElem? HY.out)).blw (hB.mono hB1) (Nat.le_refl _)).weight
   obtain ⟨wx0,wx1⟩:=HW.out x (List.mem_of_getElem? HX.out)
   obtain ⟨wy0,wy1⟩:=HW.out y (List.mem_of_getElem? HY.out)
   have m1:IntKind.i64.wrap ((k:Int)+1)=(k:Int)+1:=by rw [IntKind.wrap_i64];omega
   have m2:IntKind.i64.wrap ((k:Int)+2)=(k:Int)+2:=by rw [IntKind.wrap_i64];omega
   have m3:IntKind.i64.wrap (x.2.w+y.2.w)=x.2.w+y.2.w:=by rw [IntKind.wrap_i64];omega
   have g1:((k:Int)+1).toNat=k+1:=by omega
   have g2:((k:Int)+2).toNat=k+2:=by omega
   have p1:(0:Int)≤(k:Int)+1:=by omega
   have p2:(k:Int)+1 < n:=by omega
   have p3:(k:Int) < n:=by omega
   have p4:(k:Int)+2≤c:=by omega
   have p5:(k:Int)≤(k:Int)+2:=by omega
   have p6:(0:Int)≤(k:Int)+2:=by omega
   have hck:¬ c=k:=by omega
   have e2':wr.cell? ⟨b,o+k+1,none⟩=some (.pointer (some ⟨y.1,0,none⟩)):=e2
   have HN:=Lib.hid (node_new wr lo B w.heap.size b (o+k) (c - k) u3 x y 227 e1 e2' ((HM0.out x (List.mem_of_getElem? HX.out)).blw (hB.mono hB1) (Nat.le_refl _)) ((HM0.out y (List.mem_of_getElem? HY.out)).blw (hB.mono hB1) (Nat.le_refl _)) hb (HA.out _ rfl) hB1 hsz (fun g hg=>World.ownsRow.lt HO.out g hg) (by omega) (by omega) (by unfold maxLen;omega))
   have HM1:=Lib.hid (fun z hz=>((HM.out z hz).alloc (.cells #[.int .i64 (x.2.w+y.2.w),.int .i64 0,.slice (some ⟨b,o+k,none⟩) 2 (c - k)] 227)).alloc (.cells #[.pointer (some ⟨wr.heap.size,0,none⟩)] 228))
   have HBB:=Lib.hid ((hB.alloc hsz (.cells #[.int .i64 (x.2.w+y.2.w),.int .i64 0,.slice (some ⟨b,o+k,none⟩) 2 (c - k)] 227)).alloc (by simp;omega) (.cells #[.pointer (some ⟨wr.heap.size,0,none⟩)] 228))
   have HN1:=Lib.hid (HN.out.alloc (.cells #[.pointer (some ⟨wr.heap.size,0,none⟩)] 228))
   have HPD:=Lib.hid (packs_drop (l:=zs.map Prod.snd) (k:=k) (x:=x.2) (y:=y.2) (by rw [List.getElem?_map,HX.out];rfl) (by rw [List.getElem?_map,HY.out];rfl))
   clear HN
   go_wp2_with fail
   go_region_law (go_must (refine step_appendP rfl (.tmp 12) (.tmp 36) rfl w.heap.size u3 out rfl ((ownP.drew HO.out).alloc _ |>.alloc _) _ 1 1 _ [(wr.heap.size,Mem.node x.2 y.2)] rfl (rd_oneP1 wr.drew _ (wr.heap.size,Mem.node x.2 y.2)) (by omega) (by simp;omega) ?_;intro v' w2 ho hg hb2 hv;have HO2:=Lib.hid ho;have HG:=Lib.hid hg;have HV:=Lib.hid hv;have HB2:=Lib.hid hb2;clear ho hg hb2 hv))
   all_goals
    go_wp2_with fail
    go_roundw
    case rel =>
     refine ⟨k+2,out ++ [(wr.heap.size,Mem.node x.2 y.2)],by go_num,by omega,by simp;omega,HO2,(show _=_ by rw [← HZ.out,HPD.out];simp),?_,?_⟩
     ·show ∀ z ∈ _,_
      intro z hz
      rcases List.mem_append.1 hz with hz | hz
      ·exact ((HM1.out z hz).drewO 1).app HG.out HV.out
      ·have:z=(wr.heap.size,Mem.node x.2 y.2):=by simpa using hz
       subst this
       exact (HN1.out.drewO 1).app HG.out HV.out
     ·exact (bdrewN HBB.out 1).trans HB2.out
    case measure=>simp [intOf];omega
  ·have HE:Hid (out.map Prod.snd=packs (zs.map Prod.snd)):=(show _=_ by rw [← HZ.out,packs_short (l:=(zs.map Prod.snd).drop k) (by have:=HL.out;simp;omega),List.append_nil])
   obtain ⟨A',c',rfl,hrd,hlc,hcm'⟩:=HO.out.form
   clear hrd hlc hcm'
   go_wp2_with fail
   go_ret
   exact ⟨A',out.length,c',out,rfl,rfl,HO.out,HE.out,(fun z hz=>(HM.out z hz).keep (fun _ _=>rfl) (fun b hb=>⟨hb.1,hb.2.1⟩)),hB⟩
end Go.Proofs.YtebbdifhiihfkaaGreatDoor

/- huff: merged. -/
namespace Go.Proofs.YtebbdifhiihfkaaGreatDoor
set_option linter.all false
open Go.RowKit
theorem mrgBy_nil {α:Type} {wt:α→Int} (a b:List α) (h:a=[]∨b=[]):mrgBy wt a b=a ++ b:=by
 rcases h with rfl | rfl
 ·rw [mrgBy,List.nil_append]
 ·cases a with
  | nil=>rw [mrgBy,List.nil_append]
  | cons x r=>rw [mrgBy,List.append_nil]
theorem mrgBy_lt {α:Type} {wt:α→Int} {x y:α} {r s:List α} (h:wt y < wt x):mrgBy wt (x :: r) (y :: s)=y :: mrgBy wt (x :: r) s:=by rw [mrgBy,if_pos h]
theorem mrgBy_ge {α:Type} {wt:α→Int} {x y:α} {r s:List α} (h:¬ wt y < wt x):mrgBy wt (x :: r) (y :: s)=x :: mrgBy wt r (y :: s):=by rw [mrgBy,if_neg h]
theorem mrgBy_len {α:Type} {wt:α→Int} (a b:List α):(mrgBy wt a b).length=a.length+b.length:=by
 fun_induction mrgBy wt a b with
 | case1=>simp
 | case2=>simp
 | case3 _ _ _ _ _ ih=>simp [ih];omega
 | case4 _ _ _ _ _ ih=>simp [ih];omega
theorem mrgBy_mem {α:Type} {wt:α→Int} (a b:List α) (z:α):z ∈ mrgBy wt a b ↔ z ∈ a∨z ∈ b:=by
 fun_induction mrgBy wt a b with
 | case1=>simp
 | case2=>simp
 | case3 _ _ _ _ _ ih=>grind
 | case4 _ _ _ _ _ ih=>grind
theorem mrgBy_map {α β:Type} (f:α→β) (wt:β→Int) (a b:List α):(mrgBy (fun x=>wt (f x)) a b).map f=mrgBy wt (a.map f) (b.map f):=by
 fun_induction mrgBy (fun x=>wt (f x)) a b with
 | case1=>simp [mrgBy]
 | case2=>simp [mrgBy]
 | case3 _ _ _ _ h ih=>rw [List.map_cons,ih,List.map_cons,List.map_cons,mrgBy_lt h] <;> rfl
 | case4 _ _ _ _ h ih=>rw [List.map_cons,ih,List.map_cons,List.map_cons,mrgBy_ge h] <;> rfl
def slen:Value→Nat
 | .slice _ k _=>k
 | _=>0
theorem slen_slice (A:Option Addr) (k c:Nat):slen (.slice A k c)=k:=rfl
theorem rdp_any {w:World} {B n:Nat} {A A':Option Addr} {zs:List MP} (h:RdP w B A n zs) (hn:n=0):RdP w B A' n zs:=by
 subst hn
 have:zs=[]:=List.eq_nil_of_length_eq_zero h.len
 subst this
 exact RdP.nil_
/-- The first element of a slice, and the rest. -/
theorem RdP.uncons {w:World} {B n:Nat} {A:Option Addr} {zs:List MP} (h:RdP w B A n zs) (hn:0 < n):∃ b o z r,A=some ⟨b,o,none⟩∧b < B∧zs=z :: r∧w.cell? ⟨b,o,none⟩=some (.pointer (some ⟨z.1,0,none⟩))∧RdP w B (some ⟨b,o+1,none⟩) (n - 1) r:=by
 obtain ⟨b,o,z,rfl,hb,HX,e⟩:=h.one hn
 have hl:=h.len
 cases zs with
 | nil=>simp at hl;omega
 | cons z' r =>
  have:z'=z:=by have:=HX;simpa [Hid] using this
  subst this
  have hr:=h.cut (k:=1) (m:=n - 1) (by omega) (A':=some ⟨b,o+1,none⟩) (fun _=>by simp [add_none])
  simp at hl
  rw [List.drop_one,List.tail_cons,List.take_of_length_le (by omega)] at hr
  exact ⟨b,o,z',r,rfl,hb,rfl,e,hr⟩
set_option maxRecDepth 100000 in
set_option maxHeartbeats 3200000 in
theorem merged_any (S:Nat→Prop) (B n m ca cb:Nat) (A A':Option Addr) (zs1 zs2:List MP) (w:World) (h1:RdP w B A n zs1) (h2:RdP w B A' m zs2) (hnc:n≤ca) (hmc:m≤cb) (hca:ca≤maxLen) (hcb:cb≤maxLen) (hB1:B≤w.heap.size) (hn:n+m≤1099511627776)
  (hM:∀ z,z ∈ zs1∨z ∈ zs2→w.cell? ⟨z.1,0,none⟩=some (.int .i64 z.2.w)) :
  Calls Tryz.prog 174 #[.slice A n ca,.slice A' m cb] w fun e w'=>∃ A' n' c' zs',e=.returned (.slice A' n' c')∧n'=zs'.length∧ownP w' w.heap.size (.slice A' n' c') zs' ∧
   zs'=mrgBy mw zs1 zs2∧Below w.heap.size w w':=by
 have hB:=Below.refl w.heap.size w
 have H1:=Lib.hid h1
 have H2:=Lib.hid h2
 have HM:=Lib.hid hM
 unfold maxLen at hca hcb
 clear h1 h2 hM
 go_enter Tryz.func174,Tryz.ntmps174
 go_wp2
 go_loopw [0,1,5] (fun va vb v wr=>∃ (A1 A2:Option Addr) (n1 n2 c1 c2:Nat) (as_ bs out:List MP),va=.slice A1 n1 c1∧vb=.slice A2 n2 c2∧n1≤c1∧n2≤c2∧c1≤2 ^ 63 - 1∧c2≤2 ^ 63 - 1∧out.length+n1+n2≤n+m∧Hid (RdP w B A1 n1 as_)∧Hid (RdP w B A2 n2 bs) ∧
   Hid (∀ z,z ∈ as_∨z ∈ bs→z ∈ zs1∨z ∈ zs2)∧Hid (out ++ mrgBy mw as_ bs=mrgBy mw zs1 zs2)∧Hid (ownP wr w.heap.size v out)∧Below w.heap.size w wr)
  (fun va vb _ _=>slen va+slen vb)
 case atStart=>exact ⟨A,A',n,m,ca,cb,zs1,zs2,[],rfl,rfl,hnc,hmc,hca,hcb,by simp,H1,H2,(show ∀ z,_ from fun z h=>h),rfl,ownP.nil_ _ _,hB⟩
 case round =>
  clear hB
  obtain ⟨A1,A2,n1,n2,c1,c2,as_,bs,out,rfl,rfl,l1,l2,l3,l4,hsum,R1,R2,HS,HZ,HO,hB⟩:=hrel
  have hsz:=hB.size
  by_cases hlt:0 < n1∧0 < n2
  ·obtain ⟨g1,g2⟩:=hlt
   obtain ⟨b,o,x,at_,rfl,hb,rfl,e1,R1'⟩:=R1.out.uncons g1
   obtain ⟨b',o',y,bt,rfl,hb',rfl,e2,R2'⟩:=R2.out.uncons g2
   have f1:wr.cell? ⟨b,o,none⟩=some (.pointer (some ⟨x.1,0,none⟩)):=(hB.cell (p:=⟨b,o,none⟩) (by show b < _;omega)).trans e1
   have f2:wr.cell? ⟨b',o',none⟩=some (.pointer (some ⟨y.1,0,none⟩)):=(hB.cell (p:=⟨b',o',none⟩) (by show b' < _;omega)).trans e2
   have wx0:=HM.out x (HS.out x (by simp))
   have wy0:=HM.out y (HS.out y (by simp))
   have wx:wr.cell? ⟨x.1,0,none⟩=some (.int .i64 x.2.w):=(hB.cell (p:=⟨x.1,0,none⟩) (block_lt_of_cell (a:=⟨x.1,0,none⟩) wx0)).trans wx0
   have wy:wr.cell? ⟨y.1,0,none⟩=some (.int .i64 y.2.w):=(hB.cell (p:=⟨y.1,0,none⟩) (block_lt_of_cell (a:=⟨y.1,0,none⟩) wy0)).trans wy0
   have HR1:=Lib.hid R1'
   have HR2:=Lib.hid R2'
   have d1:decide ((n1:Int) > 0)=true:=decide_eq_true (by omega)
   have d2:decide ((n2:Int) > 0)=true:=decide_eq_true (by omega)
   clear e1 e2 wx0 wy0 R1' R2'
   by_cases hlt:y.2.w < x.2.w
   ·have HZ2:Hid ((out ++ [y]) ++ mrgBy mw (x :: at_) bt=mrgBy mw zs1 zs2):=(show _=_ by rw [← HZ.out,mrgBy_lt (wt:=mw) hlt];simp)
    have HBB:=Lib.hid (fun k:Nat=>(bdrewN hB (k+1)).alloc (o:=.cells #[.pointer (some ⟨y.1,0,none⟩)] 228) hsz)
    go_wp2_with fail
    go_quiet (fail)
    by_cases hc:c2=1
    ·obtain rfl:n2=1:=by omega
     subst hc
     go_wp2_with fail
     go_region_law (go_must (refine step_appendP rfl (.tmp 27) (.tmp 31) rfl w.heap.size u5 out rfl ((ownP.drewN HO.out (nq+1)).alloc _) _ 1 1 _ [y] rfl (rd_oneP (wr.drewN (nq+1)) y) (by omega) (by simp;omega) ?_;intro v' w2 ho hg hb2 hv;have HO2:=Lib.hid ho;have HB2:=Lib.hid hb2;clear ho hg hb2 hv))
     all_goals
      go_simp
      go_wp2_with fail
      go_roundw
      case rel=>exact ⟨some ⟨b,o,none⟩,some ⟨b',o',none⟩,n1,0,c1,0,x :: at_,bt,out ++ [y],rfl,rfl,l1,by omega,l3,by omega,by simp;omega,R1,(show RdP _ _ _ _ _ from rdp_any HR2.out (by omega)),(show ∀ z,_ from fun z hz=>HS.out z (by rcases hz with hz | hz <;> simp_all)),HZ2,HO2,(HBB.out nq).trans HB2.out⟩
      case measure=>simp only [slen_slice];omega
    ·have k1:(1:Int)≤(n2:Int):=by omega
     go_wp2_with fail
     go_region_law (go_must (refine step_appendP rfl (.tmp 27) (.tmp 31) rfl w.heap.size u5 out rfl ((ownP.drewN HO.out (nq+1)).alloc _) _ 1 1 _ [y] rfl (rd_oneP (wr.drewN (nq+1)) y) (by omega) (by simp;omega) ?_;intro v' w2 ho hg hb2 hv;have HO2:=Lib.hid ho;have HB2:=Lib.hid hb2;clear ho hg hb2 hv))
     all_goals
      go_simp
      go_wp2_with fail
      go_roundw
      case rel=>exact ⟨some ⟨b,o,none⟩,some ⟨b',o'+1,none⟩,n1,n2 - 1,c1,c2 - 1,x :: at_,bt,out ++ [y],rfl,rfl,l1,by omega,l3,by omega,by simp;omega,R1,HR2,(show ∀ z,_ from fun z hz=>HS.out z (by rcases hz with hz | hz <;> simp_all)),HZ2,HO2,(HBB.out nq).trans HB2.out⟩
      case measure=>simp only [slen_slice];omega
   ·have HZ2:Hid ((out ++ [x]) ++ mrgBy mw at_ (y :: bt)=mrgBy mw zs1 zs2):=(show _=_ by rw [← HZ.out,mrgBy_ge (wt:=mw) hlt];simp)
    have HBB:=Lib.hid (fun k:Nat=>(bdrewN hB (k+1)).alloc (o:=.cells #[.pointer (some ⟨x.1,0,none⟩)] 228) hsz)
    go_wp2_with fail
    go_quiet (fail)
    by_cases hc:c1=1
    ·obtain rfl:n1=1:=by omega
     subst hc
     go_wp2_with fail
     go_region_law (go_must (refine step_appendP rfl (.tmp 35) (.tmp 39) rfl w.heap.size u5 out rfl ((ownP.drewN HO.out (nq+1)).alloc _) _ 1 1 _ [x] rfl (rd_oneP (wr.drewN (nq+1)) x) (by omega) (by simp;omega) ?_;intro v' w2 ho hg hb2 hv;have HO2:=Lib.hid ho;have HB2:=Lib.hid hb2;clear ho hg hb2 hv))
     all_goals
      go_simp
      go_wp2_with fail
      go_roundw
      case rel=>exact ⟨some ⟨b,o,none⟩,some ⟨b',o',none⟩,0,n2,0,c2,at_,y :: bt,out ++ [x],rfl,rfl,by omega,l2,by omega,l4,by simp;omega,(show RdP _ _ _ _ _ from rdp_any HR1.out (by omega)),R2,(show ∀ z,_ from fun z hz=>HS.out z (by rcases hz with hz | hz <;> simp_all)),HZ2,HO2,(HBB.out nq).trans HB2.out⟩
      case measure=>simp only [slen_slice];omega
    ·have k1:(1:Int)≤(n1:Int):=by omega
     go_wp2_with fail
     go_region_law (go_must (refine step_appendP rfl (.tmp 35) (.tmp 39) rfl w.heap.size u5 out rfl ((ownP.drewN HO.out (nq+1)).alloc _) _ 1 1 _ [x] rfl (rd_oneP (wr.drewN (nq+1)) x) (by omega) (by simp;omega) ?_;intro v' w2 ho hg hb2 hv;have HO2:=Lib.hid ho;have HB2:=Lib.hid hb2;clear ho hg hb2 hv))
     all_goals
      go_simp
      go_wp2_with fail
      go_roundw
      case rel=>exact ⟨some ⟨b,o+1,none⟩,some ⟨b',o',none⟩,n1 - 1,n2,c1 - 1,c2,at_,y :: bt,out ++ [x],rfl,rfl,by omega,l2,by omega,l4,by simp;omega,HR1,R2,(show ∀ z,_ from fun z hz=>HS.out z (by rcases hz with hz | hz <;> simp_all)),HZ2,HO2,(HBB.out nq).trans HB2.out⟩
      case measure=>simp only [slen_slice];omega
  ·have HE:Hid (out ++ as_ ++ bs=mrgBy mw zs1 zs2):=(show _=_ by
    rw [← HZ.out,mrgBy_nil]
    ·simp
    ·have h1:=R1.out.len
     have h2:=R2.out.len
     by_cases hh:0 < n1
     ·exact .inr (List.eq_nil_of_length_eq_zero (by omega))
     ·exact .inl (List.eq_nil_of_length_eq_zero (by omega)))
   have L1:=Lib.hid R1.out.len
   have L2:=Lib.hid R2.out.len
   by_cases g1:0 < n1 <;> by_cases g2:0 < n2 <;> (first | (exfalso;omega) | skip)
   all_goals
    go_wp2_with (first
     | (at_builtin;(refine wpList_appendP rfl (.tmp 43) (.tmp 44) rfl w.heap.size u5 out rfl HO.out B n1 c1 A1 as_ rfl (R1.out.blw (hB.mono hB1)) (by omega) hsz ?_;intro v' w2 ho hg hb2 hv;have HO2:=Lib.hid ho;have HB2:=Lib.hid (hB.trans hb2);clear ho hg hb2 hv))
     | (at_builtin;(refine wpList_appendP rfl (.tmp 45) (.tmp 46) rfl w.heap.size v' (out ++ as_) rfl HO2.out B n2 c2 A2 bs rfl (R2.out.blw (HB2.out.mono hB1)) (by have:=L1.out;simp;omega) HB2.out.size ?_;intro v4 w4 ho hg hb2 hv;have HO4:=Lib.hid ho;have HB4:=Lib.hid (HB2.out.trans hb2);clear ho hg hb2 hv)))
    obtain ⟨A9,c9,rfl,h91,h92,h93⟩:=HO4.out.form
    go_ret
    exact ⟨A9,_,c9,_,rfl,rfl,HO4.out,HE.out,HB4.out⟩
end Go.Proofs.YtebbdifhiihfkaaGreatDoor

/- huff: counts. -/
namespace Go.Proofs.YtebbdifhiihfkaaGreatDoor
set_option linter.all false
open Go.RowKit
def Sg (hi g:Nat):Nat→Prop:=fun b=>b < hi∧b ≠ g
theorem isM.gro {hi g:Nat} {w w':World} {a:Nat} {t:Mem} (h:isM w (Sg hi g) a t) (hg:w.grownBy w' (some g)) (hh:hi≤w.heap.size):isM w' (Sg hi g) a t :=
 h.keep (fun p hp=>World.cell?_of_block (hg.block p.block (by have:=hp.1;omega) (fun e=>hp.2 (by injection e)))) (fun _ h=>h)
theorem grown_trans {w w' w'':World} {row:Option Nat} (h:w.grownBy w' row) (k:w'.grownBy w'' row):w.grownBy w'' row :=
 ⟨k.os.trans h.os,k.tape.trans h.tape,k.output.trans h.output,Nat.le_trans h.size k.size,fun i hi hne=>(k.block i (Nat.lt_of_lt_of_le hi h.size) hne).trans (h.block i hi hne)⟩
theorem bump_len (xs:List Int) (p:Nat):(bump xs p).length=xs.length:=by simp [bump]
theorem bumps_len (xs:List Int) (ps:List Nat):(bumps xs ps).length=xs.length:=by
 induction ps generalizing xs with
 | nil=>rfl
 | cons p ps ih=>unfold bumps at ih ⊢;rw [List.foldl_cons,ih,bump_len]
theorem bumps_append (xs:List Int) (ps qs:List Nat):bumps xs (ps ++ qs)=bumps (bumps xs ps) qs:=by unfold bumps;rw [List.foldl_append]
theorem bump_rng {xs:List Int} {p:Nat} {M:Int} (h:∀ x ∈ xs,0≤x∧x≤M) (hM:0≤M):∀ x ∈ bump xs p,0≤x∧x≤M+1:=by
 intro x hx
 unfold bump at hx
 rcases List.mem_or_eq_of_mem_set hx with hx | rfl
 ·have:=h x hx;omega
 ·rw [List.getD_eq_getElem?_getD]
  cases he:xs[p]? with
  | none=>simp;omega
  | some y =>
   have:=h y (List.mem_of_getElem? he)
   simp
   omega
theorem bumps_rng {xs:List Int} {ps:List Nat} {M:Int} (h:∀ x ∈ xs,0≤x∧x≤M) (hM:0≤M):∀ x ∈ bumps xs ps,0≤x∧x≤M+ps.length:=by
 induction ps generalizing xs M with
 | nil=>intro x hx;have:=h x hx;simp;omega
 | cons p ps ih =>
  intro x hx
  have:=ih (bump_rng (p:=p) h hM) (by omega) x (by unfold bumps at hx ⊢;rwa [List.foldl_cons] at hx)
  simp at this ⊢
  omega
set_option maxRecDepth 100000 in
set_option maxHeartbeats 3200000 in
theorem counts_any (base g n c hi:Nat) (hn:n≤1099511627776):∀ (t:Mem) (a:Nat) (xs:List Int) (M:Int) (w:World),isM w (Sg hi g) a t→hi≤w.heap.size→ownI w base (.slice (some ⟨g,0,none⟩) n c) xs→n=xs.length →
  (∀ p ∈ t.items,p < n)→(∀ x ∈ xs,0≤x∧x≤M)→0≤M→M+t.items.length≤1099511627776 →
  Calls Tryz.prog 176 #[.pointer (some ⟨a,0,none⟩),.slice (some ⟨g,0,none⟩) n c] w fun e w'=>e=.returned (.tuple #[])∧ownI w' base (.slice (some ⟨g,0,none⟩) n c) (bumps xs t.items)∧w.grownBy w' (some g):=by
 intro t
 induction t with
 | leaf x p =>
  intro a xs M w h hh ho hl hp hx hM0 hM
  obtain ⟨sa,c0,c1,c2⟩:=h
  have hpn:p < n:=hp p (by simp [Mem.items])
  have e0:=ho.cell hl (k:=p) (by omega)
  have f0:=ho.frozen hl p
  have hxb:=hx (xs[p]'(by omega)) (List.getElem_mem _)
  have hs:=ho.store hl p (xs[p]'(by omega)+1)
  have HB:Hid (bumps xs (Mem.leaf x p).items=xs.set p (xs[p]'(by omega)+1)):=(show _=_ by
   show bump xs p=_
   unfold bump
   rw [List.getD_eq_getElem?_getD,List.getElem?_eq_getElem (by omega)]
   rfl)
  generalize xs[p]'(by omega)=y at *
  have HS:=Lib.hid hs
  have hM1:M+1≤1099511627776:=by simpa [Mem.items] using hM
  clear hs ho hl hp hx hM
  have c3:(w.setCell ⟨g,p,none⟩ (.int .i64 (y+1))).cell? ⟨a,2,none⟩=some (.slice none 0 0):=(World.cell?_setCell_other w ⟨g,p,none⟩ ⟨a,2,none⟩ _ (by intro e;injection e with e;exact sa.2 e.symm)).trans c2
  have HG:=Lib.hid (grown_setCell (g:=g) (k:=p) (grown_refl0 w (some g)) (.int .i64 (y+1)))
  go_enter Tryz.func176,Tryz.ntmps176
  go_wp2
  refine wp_loop_rounds 1 ?_
  rw [rounds_succ]
  go_wp2
  go_end0
  exact ⟨rfl,by rw [HB.out];exact HS.out,HG.out⟩
 | node l r ihl ihr =>
  intro a xs M w h hh ho hl hp hx hM0 hM
  obtain ⟨_,c0,c1,gp,o,cp,x,y,c2,sg,_,_,d0,d1,hml,hmr⟩:=h
  have hil:(Mem.node l r).items=l.items ++ r.items:=rfl
  rw [hil] at hp hM ⊢
  rw [List.length_append] at hM
  have HL:=Lib.hid (ihl x xs M w hml hh ho hl (fun p h=>hp p (List.mem_append_left _ h)) hx hM0 (by omega))
  have HR:=Lib.hid (fun (w':World) (hg:w.grownBy w' (some g)) (ho':ownI w' base (.slice (some ⟨g,0,none⟩) n c) (bumps xs l.items)) =>
   ihr y (bumps xs l.items) (M+l.items.length) w' (hmr.gro hg hh) (Nat.le_trans hh hg.size) ho' (by rw [bumps_len];exact hl) (fun p h=>hp p (List.mem_append_right _ h)) (bumps_rng hx hM0) (by omega) (by omega))
  have HK:=Lib.hid (fun (w':World) (hg:w.grownBy w' (some g))=>(⟨(World.cell?_of_block (hg.block gp (by have:=sg.1;omega) (fun e=>sg.2 (by injection e)))).trans d0,(World.cell?_of_block (hg.block gp (by have:=sg.1;omega) (fun e=>sg.2 (by injection e)))).trans d1⟩:w'.cell? ⟨gp,o,none⟩=some (.pointer (some ⟨x,0,none⟩))∧w'.cell? ⟨gp,o+1,none⟩=some (.pointer (some ⟨y,0,none⟩))))
  have HB:=Lib.hid (bumps_append xs l.items r.items)
  clear ihl ihr hml hmr ho hl hp hx hM hil
  go_enter Tryz.func176,Tryz.ntmps176
  go_wp2
  refine wp_loop_rounds 3 ?_
  rw [rounds_succ]
  go_wp2_with (go_at_call 176;(with_reducible refine HL.out.mono ?_);go_must (rintro e w1 ⟨rfl,ho1,hg1⟩;have HO1:=Lib.hid ho1;have HG1:=Lib.hid hg1;obtain ⟨k0,k1⟩:=HK.out w1 hg1;clear ho1 hg1))
  rw [rounds_succ]
  go_wp2_with (go_at_call 176;(with_reducible refine (HR.out _ HG1.out HO1.out).mono ?_);go_must (rintro e w2 ⟨rfl,ho2,hg2⟩;have HO2:=Lib.hid ho2;have HG2:=Lib.hid (grown_trans HG1.out hg2);clear ho2 hg2))
  rw [rounds_succ]
  go_wp2
  go_end0
  exact ⟨rfl,by rw [HB.out];exact HO2.out,HG2.out⟩
end Go.Proofs.YtebbdifhiihfkaaGreatDoor

/- huff: plain facts on items and packages. -/
namespace Go.Proofs.YtebbdifhiihfkaaGreatDoor
set_option linter.all false
theorem leaves_mem {ws:List Int} {t:Mem} (h:t ∈ leaves ws):∃ (p:Nat) (hp:p < ws.length),t=.leaf ws[p] p∧0 < ws[p]:=by
 unfold leaves at h
 rw [List.mem_filterMap] at h
 obtain ⟨⟨x,k⟩,hx,he⟩:=h
 obtain ⟨hk,hx'⟩:=List.mem_zipIdx' hx
 simp only at he
 rw [hx'] at he
 split at he
 ·rename_i h0
  injection he with he
  exact ⟨k,hk,he.symm,h0⟩
 ·cases he
theorem packs_len (l:List Mem):(packs l).length=l.length / 2:=by
 fun_induction packs l with
 | case1 a b r ih=>simp [ih];omega
 | case2 l h =>
  match l,h with
  | [],_=>rfl
  | [x],_=>simp
  | a :: b :: r,h=>exact absurd rfl (h a b r)
theorem packs_mem {l:List Mem} {t:Mem} (h:t ∈ packs l):∃ a b,t=.node a b∧a ∈ l∧b ∈ l:=by
 fun_induction packs l with
 | case1 a b r ih =>
  rcases List.mem_cons.1 h with rfl | h
  ·exact ⟨a,b,rfl,by simp,by simp⟩
  ·obtain ⟨x,y,e,hx,hy⟩:=ih h
   exact ⟨x,y,e,by simp [hx],by simp [hy]⟩
 | case2=>cases h
theorem pmL_len (first:List Mem) (k:Nat):(pmL first (k+1)).length=first.length+(pmL first k).length / 2:=by
 rw [pmL,mrgBy_len,packs_len]
theorem pm_long (first:List Mem):∀ k,2 * first.length * 2 ^ k < (pmL first k).length * 2 ^ k+first.length+2 ^ k:=by
 intro k
 induction k with
 | zero=>simp [pmL];omega
 | succ k ih =>
  rw [pmL_len,Nat.pow_succ]
  generalize (pmL first k).length=L at *
  generalize first.length=n at *
  have hp:0 < 2 ^ k:=Nat.two_pow_pos k
  generalize 2 ^ k=q at *
  have h1:L≤2 * (L / 2)+1:=by omega
  have h2:L * q≤(2 * (L / 2)+1) * q:=Nat.mul_le_mul_right _ h1
  generalize L / 2=d at *
  have e1:(2 * d+1) * q=2 * (d * q)+q:=by rw [Nat.add_mul,Nat.one_mul,Nat.mul_assoc]
  have e2:(n+d) * (q * 2)=2 * (n * q)+2 * (d * q):=by rw [← Nat.mul_assoc,Nat.add_mul,Nat.mul_comm _ 2,Nat.mul_add]
  have e3:2 * n * (q * 2)=4 * (n * q):=by rw [← Nat.mul_assoc,Nat.mul_assoc 2 n q,Nat.mul_comm _ 2,← Nat.mul_assoc]
  have e4:2 * n * q=2 * (n * q):=Nat.mul_assoc _ _ _
  rw [e1] at h2
  rw [e4] at ih
  rw [e2,e3]
  omega
theorem pm_enough (first:List Mem) (k:Nat) (h:first.length≤2 ^ (k+1)):2 * first.length - 2≤(pmL first k).length:=by
 have:=pm_long first k
 rw [Nat.pow_succ] at h
 generalize (pmL first k).length=L at *
 generalize first.length=n at *
 have hp:0 < 2 ^ k:=Nat.two_pow_pos k
 generalize 2 ^ k=q at *
 apply Classical.byContradiction
 intro hc
 have h1:L+3≤2 * n:=by omega
 have h2:(L+3) * q≤2 * n * q:=Nat.mul_le_mul_right _ h1
 rw [Nat.add_mul] at h2
 omega
theorem pm_all {P:Nat→Mem→Prop} {first:List Mem} (h0:∀ k,∀ t ∈ first,P k t) (h1:∀ k a b,P k a→P k b→P (k+1) (.node a b)):∀ k,∀ t ∈ pmL first k,P k t:=by
 intro k
 induction k with
 | zero=>exact h0 0
 | succ k ih =>
  intro t ht
  rw [pmL,mrgBy_mem] at ht
  rcases ht with ht | ht
  ·exact h0 _ t ht
  ·obtain ⟨a,b,rfl,ha,hb⟩:=packs_mem ht
   exact h1 k a b (ih a ha) (ih b hb)
theorem pm_weight {first:List Mem} (h:∀ t ∈ first,0≤t.w∧t.w≤1073741824) (k:Nat):∀ t ∈ pmL first k,0≤t.w∧t.w≤1073741824 * 2 ^ k:=by
 refine pm_all (P:=fun k t=>0≤t.w∧t.w≤1073741824 * 2 ^ k) (fun k t ht=>?_) (fun k a b ha hb=>?_) k
 ·have:=h t ht
  have hp:(1:Int)≤2 ^ k:=by
   have:(0:Int) < 2 ^ k:=Int.pow_pos (by decide)
   omega
  omega
 ·simp only [Mem.w,Int.pow_succ] at *
  omega
theorem pm_weight15 {first:List Mem} (h:∀ t ∈ first,0≤t.w∧t.w≤1073741824) {k:Nat} (hk:k≤15):∀ t ∈ pmL first k,0≤t.w∧t.w≤1125899906842624:=fun t ht=>by
 have h1:=pm_weight h k t ht
 have h2:(2:Int) ^ k≤2 ^ 15:=by
  have:=Nat.pow_le_pow_right (show 1≤2 by decide) hk
  exact_mod_cast this
 omega
theorem pm_places {first:List Mem} {n:Nat} (h:∀ t ∈ first,∀ p ∈ t.items,p < n) (k:Nat):∀ t ∈ pmL first k,∀ p ∈ t.items,p < n:=by
 refine pm_all (P:=fun _ t=>∀ p ∈ t.items,p < n) (fun k t ht=>h t ht) (fun k a b ha hb p hp=>?_) k
 rcases List.mem_append.1 hp with hp | hp
 ·exact ha p hp
 ·exact hb p hp
theorem pm_sizes {first:List Mem} (h:∀ t ∈ first,t.items.length≤1) (k:Nat):∀ t ∈ pmL first k,t.items.length≤2 ^ k:=by
 refine pm_all (P:=fun k t=>t.items.length≤2 ^ k) (fun k t ht=>?_) (fun k a b ha hb=>?_) k
 ·have:=h t ht
  have:=Nat.two_pow_pos k
  omega
 ·show (a.items ++ b.items).length≤_
  rw [List.length_append,Nat.pow_succ]
  omega
theorem flat_len {l:List Mem} {M:Nat} (h:∀ t ∈ l,t.items.length≤M):(l.flatMap Mem.items).length≤l.length * M:=by
 induction l with
 | nil=>simp
 | cons x r ih =>
  rw [List.flatMap_cons,List.length_append,List.length_cons,Nat.add_mul,Nat.one_mul]
  have:=h x (by simp)
  have:=ih (fun t ht=>h t (by simp [ht]))
  omega
theorem stab_mem {α:Type} {wt:α→Int} {l:List α} {x:α}:x ∈ stab wt l ↔ x ∈ l:=(stab_ss l).2.mem x
theorem wrongH_false {ws:List Int} {most:Int} (h:wrongH ws most=false):1≤ws.length∧ws.length≤300∧1≤most∧most≤15∧(∀ x ∈ ws,0≤x∧x≤1073741824)∧(leaves ws).length≤2 ^ most.toNat:=by
 unfold wrongH at h
 simp only [Bool.or_eq_false_iff,decide_eq_false_iff_not] at h
 obtain ⟨⟨⟨⟨⟨h1,h2⟩,h3⟩,h4⟩,h5⟩,h6⟩:=h
 refine ⟨by omega,by omega,by omega,by omega,?_,by rw [leaves_length];omega⟩
 intro x hx
 unfold badW at h5
 rw [List.any_eq_false] at h5
 have:=h5 x hx
 simp only [Bool.or_eq_true,decide_eq_true_eq] at this
 omega
theorem leaves_w {ws:List Int} (h:∀ x ∈ ws,0≤x∧x≤1073741824):∀ t ∈ leaves ws,0≤t.w∧t.w≤1073741824:=fun t ht=>by
 obtain ⟨p,hp,rfl,_⟩:=leaves_mem ht
 exact h _ (List.getElem_mem hp)
theorem leaves_p {ws:List Int}:∀ t ∈ leaves ws,∀ p ∈ t.items,p < ws.length:=fun t ht p hp=>by
 obtain ⟨q,hq,rfl,_⟩:=leaves_mem ht
 have:p=q:=by simpa [Mem.items] using hp
 omega
theorem leaves_s {ws:List Int}:∀ t ∈ leaves ws,t.items.length≤1:=fun t ht=>by
 obtain ⟨q,hq,rfl,_⟩:=leaves_mem ht
 simp [Mem.items]
end Go.Proofs.YtebbdifhiihfkaaGreatDoor

/- huff: Lengths. -/
namespace Go.Proofs.YtebbdifhiihfkaaGreatDoor
set_option linter.all false
open Go.RowKit
def lenE (ws:List Int) (most:Int):Int:=if wrongH ws most then 1 else 0
def lenR (ws:List Int) (most:Int):List Int:=if wrongH ws most then [] else lensOf ws most.toNat
/-- What both Lengths give. -/
def LenPost (ws:List Int) (most:Int) (w:World) (e:Ending) (w':World):Prop :=
 ∃ A n c,e=.returned (.tuple #[.slice A n c,.int .i64 (lenE ws most)])∧n=(lenR ws most).length∧ownI w' w.heap.size (.slice A n c) (lenR ws most)∧Below w.heap.size w w'
theorem ownP.lo {w:World} {base n c:Nat} {A:Option Addr} {l:List MP} (h:ownP w base (.slice A n c) l):∀ a,A=some a→base≤a.block:=by
 intro a ha
 rcases h.2 with ⟨h',_⟩ | ⟨g,cap,cur,h',hb,_⟩
 ·injection h' with h1;rw [h1] at ha;cases ha
 ·injection h' with h1
  rw [h1] at ha
  injection ha with ha
  rw [← ha]
  exact hb
theorem isM.sg {w:World} {lo hi g:Nat} {t:Mem} {a:Nat} (h:isM w (Rng lo hi) a t) (hg:g < lo):isM w (Sg hi g) a t:=h.keep (fun _ _=>rfl) (fun b hb=>⟨hb.2,by have:=hb.1;omega⟩)
theorem rdP_grown {w w':World} {B n g:Nat} {A:Option Addr} {l:List MP} (h:RdP w B A n l) (hg:w.grownBy w' (some g)) (hB:B≤w.heap.size) (hA:∀ a,A=some a→g < a.block):RdP w' B A n l :=
 ⟨h.1,fun hn=>by
  obtain ⟨b,o,e,hb,hc⟩:=h.2 hn
  refine ⟨b,o,e,hb,fun j u hu=>?_⟩
  have:=hA _ e
  refine (World.cell?_of_block (hg.block b (by omega) (fun e=>?_))).trans (hc j u hu)
  injection e with e
  have:g < b:=this
  omega⟩
theorem stab_lenM (l:List Mem):(stab Mem.w l).length=l.length:=(stab_ss l).2.length
set_option maxRecDepth 100000 in
set_option maxHeartbeats 6400000 in
theorem lengths_any (B n c:Nat) (A:Option Addr) (ws:List Int) (most:Int) (w:World) (h:RdI w B A n ws) (hB1:B≤w.heap.size) (hn:n≤1099511627776) :
  Calls Tryz.prog 153 #[.slice A n c,.int .i64 most] w (LenPost ws most w):=by
 have hl:=h.len
 cases hw:wrongH ws most with
 | true =>
  have HW:=Lib.hid (wrong_any B n c A ws most w h hn)
  rw [hw] at HW
  have HE:Hid (lenE ws most=1∧lenR ws most=[]):=(show _∧_ by unfold lenE lenR;rw [hw];exact ⟨rfl,rfl⟩)
  clear h hl hw
  go_enter Tryz.func153,Tryz.ntmps153
  go_wp2_with (go_at_call 172;(with_reducible refine HW.out.mono ?_);go_must (rintro e w1 ⟨rfl,rfl⟩))
  go_ret2
  refine ⟨none,0,0,ret_tup2 rfl (by rw [HE.out.1];rfl),by rw [HE.out.2];rfl,by rw [HE.out.2];exact ownI.nil_ _ _,Below.refl _ _⟩
 | false =>
  have HW:=Lib.hid (wrong_any B n c A ws most w h hn)
  rw [hw] at HW
  obtain ⟨q1,q2,q3,q4,q5,q6⟩:=wrongH_false hw
  obtain ⟨m,rfl⟩:=Int.eq_ofNat_of_zero_le (show 0≤most by omega)
  have HE:Hid (lenE ws (m:Int)=0∧lenR ws (m:Int)=lensOf ws m):=(show _∧_ by unfold lenE lenR;rw [hw];exact ⟨rfl,rfl⟩)
  have H:=Lib.hid h
  have HL:=Lib.hid hl
  have HQ5:=Lib.hid q5
  have HQ6:=Lib.hid (show (leaves ws).length≤2 ^ m by simpa using q6)
  have hn1:1≤n:=by omega
  have hn2:n≤300:=by omega
  have hm1:1≤m:=by omega
  have hm2:m≤15:=by omega
  have HIT:=Lib.hid (fun (w':World) (hb:Below w.heap.size w w')=>items_any w.heap.size n c A ws w' ((h.blw (hb.mono hB1)).more hB1) hb.size hn)
  have hll:(leaves ws).length≤n:=by rw [leaves_length,← hl];exact posn_le ws
  clear h hl hw q1 q2 q3 q4 q5 q6
  by_cases hone:(leaves ws).length=1
  ·have HONE:=Lib.hid hone
   clear hone hll
   go_enter Tryz.func153,Tryz.ntmps153
   go_wp2_with (first
    | (go_at_call 172;(with_reducible refine HW.out.mono ?_);go_must (rintro e w1 ⟨rfl,rfl⟩))
    | (at_make;refine wpList_makeI rfl _ _ rfl n _ rfl rfl rfl (by omega) ?_;intro w1 hown hb1 hsz;have HO:=Lib.hid hown;have HB1:=Lib.hid hb1;clear hown hb1)
    | (go_at_call 173;(with_reducible refine (HIT.out _ HB1.out).mono ?_);go_must (rintro e w2 ⟨A1,n1,c1,zs1,rfl,hn1',hz1,hmm,hi1,hb2⟩;obtain ⟨z,rfl⟩:∃ z,zs1=[z]:=List.length_eq_one_iff.1 (by have:=congrArg List.length hmm;rw [(stab_ss _).2.length,List.length_map] at this;rw [this];exact HONE.out);obtain rfl:n1=1:=hn1';obtain ⟨A9,e9,h91⟩:∃ b,A1=some ⟨b,0,none⟩∧w2.cell? ⟨b,0,none⟩=some (.pointer (some ⟨z.1,0,none⟩)):=(by obtain ⟨_,g,eg,_,_⟩:=hz1.pos (by omega);subst eg;exact ⟨g,rfl,hz1.cell rfl (k:=0) (by simp)⟩);subst e9;obtain ⟨p,x,e8,hp8⟩:∃ p x,z.2=.leaf x p∧p < n:=(by have hmem:z.2 ∈ leaves ws:=(by have:z.2 ∈ stab Mem.w (leaves ws):=(by rw [← hmm];simp);exact stab_mem.1 this);obtain ⟨p,hp,e,_⟩:=leaves_mem hmem;exact ⟨p,_,e,by rw [← HL.out];exact hp⟩);have h7:=hi1 z (by simp);rw [e8] at h7;obtain ⟨s7,c70,c71,c72⟩:=h7;have HZE:Hid (stab Mem.w (leaves ws)=[.leaf x p]):=(show _=_ by rw [← hmm,List.map_singleton,e8]);have HB2:=Lib.hid (HB1.out.trans (hb2.mono HB1.out.size));have HO2:=Lib.hid (HO.out.later hb2);have e21:=HO2.out.cell (by simp) (k:=p) (by simpa using hp8);have f21:=HO2.out.frozen (by simp) p;clear hz1 hmm hi1 hb2 e8)))
   go_ret2
   refine ⟨some ⟨w.heap.size,0,none⟩,n,n,ret_tup2 rfl (by rw [HE.out.1];rfl),?_,?_,HB2.out.setCell (Nat.le_refl _) _⟩
   ·rw [HE.out.2,lensOf,if_pos HONE.out,bumps_len,List.length_replicate,HL.out]
   ·have e5:lensOf ws m=(List.replicate n 0).set p 1:=by
     rw [lensOf,if_pos HONE.out]
     have e6:leaves ws=[.leaf x p]:=by
      obtain ⟨t,ht⟩:=List.length_eq_one_iff.1 HONE.out
      have:=HZE.out
      rw [ht] at this ⊢
      exact this
     rw [e6,HL.out]
     show (List.replicate n (0:Int)).set p ((List.replicate n (0:Int)).getD p 0+1)=_
     rw [List.getD_eq_getElem?_getD,List.getElem?_replicate]
     simp [hp8]
    rw [HE.out.2,e5]
    exact HO2.out.store (by simp) p 1
  ·have HONE:=Lib.hid hone
   clear hone
   go_enter Tryz.func153,Tryz.ntmps153
   go_wp2_with (first
    | (go_at_call 172;(with_reducible refine HW.out.mono ?_);go_must (rintro e w1 ⟨rfl,rfl⟩))
    | (at_make;refine wpList_makeI rfl _ _ rfl n _ rfl rfl rfl (by omega) ?_;intro w1 hown hb1 hsz;have HO:=Lib.hid hown;have HB1:=Lib.hid hb1;clear hown hb1)
    | (go_at_call 173;(with_reducible refine (HIT.out _ HB1.out).mono ?_);go_must (rintro e w2 ⟨A1,n1,c1,zs1,rfl,hn1',hz1,hmm,hi1,hb2⟩;have hN:n1=(leaves ws).length:=(by have:=congrArg List.length hmm;rw [(stab_ss _).2.length,List.length_map] at this;omega);have HN:=Lib.hid hN;have HZ1:=Lib.hid hz1;have HMM:=Lib.hid hmm;have HI1:=Lib.hid hi1;have hn300:n1≤300:=(by omega);have hne:n1 ≠ 1:=(by have:=HONE.out;omega);have hne':((n1:Int) == 1)=false:=(beq_eq_false_iff_ne.2 (by omega));have HB2:=Lib.hid (HB1.out.trans (hb2.mono HB1.out.size));have HBX:=Lib.hid hb2;have HO2:=Lib.hid (HO.out.later hb2);clear hn1' hz1 hmm hi1 hb2 hN)))
   have hlc:n1≤c1∧c1≤maxLen:=by
    have h1:=HZ1.out.form
    obtain ⟨_,_,e,_,h2,h3⟩:=h1
    injection e with _ e1 e2
    subst e1 e2
    exact ⟨h2,h3⟩
   obtain ⟨hlc1,hlc2⟩:=hlc
   go_loopw [34,8] (fun vi v wr=>∃ (k:Nat) (A:Option Addr) (nl cl:Nat) (zl:List MP),vi=.int .i64 k∧k≤m - 1∧v=.slice A nl cl∧nl≤cl∧cl≤maxLen∧nl≤600∧Hid (RdP wr wr.heap.size A nl zl)∧Hid (∀ a,A=some a→w1.heap.size≤a.block) ∧
     Hid (∀ z ∈ zl,isM wr (Rng w1.heap.size wr.heap.size) z.1 z.2)∧Hid (zl.map Prod.snd=pmL (stab Mem.w (leaves ws)) k)∧Below w2.heap.size w2 wr)
    (fun vi _ _=>m - (intOf vi).toNat)
   case atStart=>exact ⟨0,A1,n1,c1,zs1,rfl,by omega,rfl,hlc1,hlc2,by omega,(show RdP _ _ _ _ _ from HZ1.out.rd),(show ∀ a,_ from HZ1.out.lo),HI1,HMM,Below.refl _ _⟩
   case round =>
    obtain ⟨k,Al,nl,cl,zl,rfl,hk,rfl,hl1,hl2,hl3,HR,HA,HI,HP,hB⟩:=hrel
    by_cases hlt:k < m - 1
    ·have hltz:(k:Int) < (m:Int) - 1:=by omega
     have hW5:=pm_weight15 (first:=stab Mem.w (leaves ws)) (fun t ht=>leaves_w HQ5.out t (stab_mem.1 ht)) (k:=k) (by omega)
     have HPK:=Lib.hid (packages_any w1.heap.size wr.heap.size nl cl Al zl wr HR.out hl1 hl2 (Nat.le_refl _) (by omega) HA.out (by have:=HBX.out.size;have:=hB.size;omega) HI.out (fun z hz=>hW5 z.2 (by rw [← HP.out];exact List.mem_map_of_mem hz)))
     have HMG:=Lib.hid (fun (wp:World) (hb:Below wr.heap.size wr wp) (A':Option Addr) (n' c':Nat) (zp:List MP) (ho:ownP wp wr.heap.size (.slice A' n' c') zp) (h1:n'≤600) (h2:n'≤c'∧c'≤maxLen) (hi:∀ z ∈ zp,isM wp (Rng w1.heap.size wp.heap.size) z.1 z.2) =>
      merged_any (fun _=>True) wp.heap.size n1 n' c1 c' A1 A' zs1 zp wp (((HZ1.out.rd.blw hB).blw (hb.mono hB.size)).more (by have:=hB.size;have:=hb.size;omega)) ho.rd hlc1 h2.1 hlc2 h2.2 (Nat.le_refl _) (by omega)
       (fun z hz=>hz.elim (fun h=>(((HI1.out z h).blw hB (Nat.le_refl _)).blw hb hB.size).weight) (fun h=>(hi z h).weight)))
     clear hW5
     go_wp2_with (first
      | (go_at_call 175;(with_reducible refine HPK.out.mono ?_);go_must (rintro e wp ⟨A3,n3,c3,zs3,rfl,hn3,ho3,hp3,hi3,hb3⟩;have hl9:n3≤600:=(by have e1:=congrArg List.length hp3;rw [packs_len,List.length_map,List.length_map] at e1;have:=HR.out.len;omega);have hl8:n3≤c3∧c3≤maxLen:=(by obtain ⟨_,_,e,_,h2,h3⟩:=ho3.form;injection e with _ e1 e2;subst e1 e2;exact ⟨h2,h3⟩);have HO3:=Lib.hid ho3;have HP3:=Lib.hid hp3;have HI3:=Lib.hid hi3;have HB3:=Lib.hid hb3;have HX3:=Lib.hid (HMG.out wp hb3 A3 n3 c3 zs3 ho3 hl9 hl8 hi3);clear hn3 ho3 hp3 hi3 hb3))
      | (go_at_call 174;(with_reducible refine HX3.out.mono ?_);go_must (rintro e wq ⟨A4,n4,c4,zs4,rfl,hn4,ho4,hp4,hb4⟩;have HN4:=Lib.hid hn4;have HO4:=Lib.hid ho4;have HP4:=Lib.hid hp4;have HB4:=Lib.hid hb4;clear hn4 ho4 hp4 hb4)))
     have hsz4:=HB4.out.size
     have hsz3:=HB3.out.size
     have hsz2:=hB.size
     have hszx:=HBX.out.size
     have hpm:zs4.map Prod.snd=pmL (stab Mem.w (leaves ws)) (k+1):=by
      rw [HP4.out,show (mw:MP→Int)=fun x=>Mem.w (Prod.snd x) from rfl,mrgBy_map,HP3.out,HP.out,HMM.out]
      rfl
     have hl4:n4≤c4∧c4≤maxLen:=by
      obtain ⟨_,_,e,_,h2,h3⟩:=HO4.out.form
      injection e with _ e1 e2
      subst e1 e2
      exact ⟨h2,h3⟩
     have hn4:n4≤600:=by
      have e1:=congrArg List.length hpm
      rw [pmL_len,List.length_map,stab_lenM,← HP.out,List.length_map] at e1
      have:=HR.out.len
      have:=HN.out
      have:=HN4.out
      omega
     go_roundw
     case rel =>
      refine ⟨k+1,A4,n4,c4,zs4,by go_num,by omega,rfl,hl4.1,hl4.2,hn4,(show RdP _ _ _ _ _ from HO4.out.rd),(show ∀ a,_ from fun a ha=>by have:=HO4.out.lo a ha;omega),(show ∀ z ∈ _,_ from fun z hz=>?_),hpm,(hB.trans (HB3.out.mono hsz2)).trans (HB4.out.mono (by omega))⟩
      have hz':=hz
      rw [HP4.out,mrgBy_mem] at hz'
      rcases hz' with h | h
      ·exact ((((HI1.out z h).blw hB (Nat.le_refl _)).blw HB3.out hsz2).blw HB4.out (by omega)).more (Nat.le_refl _) (by omega)
      ·exact ((HI3.out z h).blw HB4.out (Nat.le_refl _)).more (Nat.le_refl _) hsz4
     case measure=>simp [intOf];omega
    ·have hltz:¬ (k:Int) < (m:Int) - 1:=by omega
     obtain rfl:k=m - 1:=by omega
     have hlen:2 * n1 - 2≤nl:=by
      have e1:=congrArg List.length HP.out
      rw [List.length_map,HR.out.len] at e1
      have e2:=pm_enough (stab Mem.w (leaves ws)) (m - 1) (by rw [stab_lenM,show m - 1+1=m by omega];exact HQ6.out)
      rw [stab_lenM,← e1,← HN.out] at e2
      exact e2
     obtain ⟨q,hq⟩:∃ q,q=2 * n1 - 2:=⟨_,rfl⟩
     obtain ⟨wo,rfl⟩:∃ wo:World,wo=wr:=⟨_,rfl⟩
     have HQ:Hid (q=2 * (leaves ws).length - 2):=(show _=_ by rw [hq,HN.out])
     have HOL:Hid (ownI wo w.heap.size (.slice (some ⟨w.heap.size,0,none⟩) n n) (bumps (List.replicate n 0) (((zl.map Prod.snd).take 0).flatMap Mem.items))):=(show ownI _ _ _ _ from HO2.out.later hB)
     by_cases h0:n1=0
     ·have hs0:2 * (n1:Int) - 2 < 0:=by omega
      have hs1:¬ 0≤2 * (n1:Int) - 2:=by omega
      obtain rfl:q=0:=by omega
      clear hq
      go_wp2_with fail
      go_loopw [49] (fun vi wr=>∃ j:Nat,vi=.int .i64 j∧j≤0∧Hid (ownI wr w.heap.size (.slice (some ⟨w.heap.size,0,none⟩) n n) (bumps (List.replicate n 0) (((zl.map Prod.snd).take j).flatMap Mem.items)))∧Hid (wo.grownBy wr (some w.heap.size)))
       (fun vi _=>0 - (intOf vi).toNat)
      case atStart=>exact ⟨0,rfl,Nat.zero_le _,HOL,grown_refl0 _ _⟩
      case round =>
       obtain ⟨j,rfl,hjq,HOJ,HG⟩:=hrel
       by_cases hlt2:j < 0
       ·exfalso;omega
       ·obtain rfl:j=0:=by omega
        have HF:Hid (bumps (List.replicate n 0) (((zl.map Prod.snd).take 0).flatMap Mem.items)=lensOf ws m):=(show _=_ by rw [lensOf,if_neg HONE.out,HP.out,HQ.out,HL.out])
        go_wp2_with fail
        go_ret2
        refine ⟨some ⟨w.heap.size,0,none⟩,n,n,ret_tup2 rfl (by rw [HE.out.1];rfl),?_,?_,?_⟩
        ·rw [HE.out.2,← HF.out,bumps_len,List.length_replicate]
        ·rw [HE.out.2,← HF.out];exact HOJ.out
        ·exact (HB2.out.trans (hB.mono HB2.out.size)).grown HG.out (by have:=HB2.out.size;have:=hB.size;omega) (fun g hg=>by injection hg with hg;omega)
     ·have hs1:0≤2 * (n1:Int) - 2:=by omega
      have hs2:2 * (n1:Int) - 2≤cl:=by omega
      have hs3:(2 * (n1:Int) - 2).toNat=q:=by omega
      have hs4:q≤nl:=by omega
      clear hq
      go_wp2_with fail
      go_loopw [49] (fun vi wr=>∃ j:Nat,vi=.int .i64 j∧j≤q∧Hid (ownI wr w.heap.size (.slice (some ⟨w.heap.size,0,none⟩) n n) (bumps (List.replicate n 0) (((zl.map Prod.snd).take j).flatMap Mem.items)))∧Hid (wo.grownBy wr (some w.heap.size)))
       (fun vi _=>q - (intOf vi).toNat)
      case atStart=>exact ⟨0,rfl,Nat.zero_le _,HOL,grown_refl0 _ _⟩
      case round =>
       obtain ⟨j,rfl,hjq,HOJ,HG⟩:=hrel
       by_cases hlt2:j < q
       ·obtain ⟨b,o,z,eA,hb,HX,e1⟩:=(rdP_grown HR.out HG.out (Nat.le_refl _) (fun a ha=>Nat.lt_of_lt_of_le hsz (HA.out a ha))).one (show j < nl by omega)
        have hzm:z ∈ zl:=List.mem_of_getElem? HX.out
        have htm:z.2 ∈ pmL (stab Mem.w (leaves ws)) (m - 1):=by rw [← HP.out];exact List.mem_map_of_mem hzm
        have HST:Hid ((((zl.map Prod.snd).take (j+1)).flatMap Mem.items)=(((zl.map Prod.snd).take j).flatMap Mem.items) ++ z.2.items):=(show _=_ by
         have e5:(zl.map Prod.snd)[j]?=some z.2:=by rw [List.getElem?_map,HX.out];rfl
         obtain ⟨e6,e7⟩:=List.getElem?_eq_some_iff.1 e5
         rw [List.take_succ_eq_append_getElem e6,e7,List.flatMap_append]
         simp)
        have hS1:=pm_sizes (first:=stab Mem.w (leaves ws)) (fun t ht=>leaves_s t (stab_mem.1 ht)) (m - 1)
        have hpw:2 ^ (m - 1)≤2 ^ 14:=Nat.pow_le_pow_right (by omega) (by omega)
        have hS2:=flat_len (l:=(zl.map Prod.snd).take j) (M:=2 ^ (m - 1)) (fun t ht=>hS1 t (by rw [← HP.out];exact List.mem_of_mem_take ht))
        have hS3:((zl.map Prod.snd).take j).length * 2 ^ (m - 1)≤600 * 2 ^ 14:=Nat.mul_le_mul (by simp;omega) hpw
        have hS4:=hS1 z.2 htm
        have hpp:=pm_places (first:=stab Mem.w (leaves ws)) (n:=n) (fun t ht=>by have:=leaves_p t (stab_mem.1 ht);rwa [HL.out] at this) (m - 1) z.2 htm
        have HC:=Lib.hid (counts_any w.heap.size w.heap.size n n wo.heap.size (by omega) z.2 z.1 _ ((((zl.map Prod.snd).take j).flatMap Mem.items).length:Nat) wr (((HI.out z hzm).sg hsz).gro HG.out (Nat.le_refl _)) HG.out.size HOJ.out (by rw [bumps_len,List.length_replicate]) hpp
         (fun x hx=>by have:=bumps_rng (xs:=List.replicate n 0) (M:=0) (fun y hy=>by rw [List.eq_of_mem_replicate hy];omega) (by omega) x hx;omega) (by omega) (by omega))
        clear hS1 hS2 hS3 hS4 hpw hpp htm hzm
        subst eA
        go_wp2_with (go_at_call 176;(with_reducible refine HC.out.mono ?_);go_must (rintro e w9 ⟨rfl,ho9,hg9⟩;have HO9:=Lib.hid ho9;have HG9:=Lib.hid (grown_trans HG.out hg9);clear ho9 hg9))
        go_roundw
        case rel=>exact ⟨j+1,by go_num,by omega,(show ownI _ _ _ _ by rw [HST.out,bumps_append];exact HO9.out),HG9⟩
        case measure=>simp [intOf];omega
       ·obtain rfl:j=q:=by omega
        have HF:Hid (bumps (List.replicate n 0) (((zl.map Prod.snd).take j).flatMap Mem.items)=lensOf ws m):=(show _=_ by rw [lensOf,if_neg HONE.out,HP.out,HQ.out,HL.out])
        go_wp2_with fail
        go_ret2
        refine ⟨some ⟨w.heap.size,0,none⟩,n,n,ret_tup2 rfl (by rw [HE.out.1];rfl),?_,?_,?_⟩
        ·rw [HE.out.2,← HF.out,bumps_len,List.length_replicate]
        ·rw [HE.out.2,← HF.out];exact HOJ.out
        ·exact (HB2.out.trans (hB.mono HB2.out.size)).grown HG.out (by have:=HB2.out.size;have:=hB.size;omega) (fun g hg=>by injection hg with hg;omega)
end Go.Proofs.YtebbdifhiihfkaaGreatDoor

