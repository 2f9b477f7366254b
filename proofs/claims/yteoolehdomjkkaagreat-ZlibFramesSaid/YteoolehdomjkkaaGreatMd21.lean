/- Merged: DynR, Fix5, RunR, RowN, Run5. -/
import Derived.Test.YteoolehdomjkkaaGreatMd16
import Derived.Test.YteoolehdomjkkaaGreatMd20
import Derived.Test.YteoolehdomjkkaaGreatMd14
import Derived.Test.YteoolehdomjkkaaGreatMd01
/- flate: codes of lists with zeros at the end, plainly. -/
namespace Go.Proofs.YteoolehdomjkkaaGreat
set_option linter.all false
theorem cnt_app0 (l:List Int) (m n:Nat) (h:0 < n):cnt (l ++ List.replicate m 0) n=cnt l n:=by
 unfold cnt
 rw [List.count_append,List.count_replicate,if_neg (by simp;omega),Nat.add_zero]
theorem cz_app0 (l:List Int) (m:Nat):∀ n,cz (l ++ List.replicate m 0) n=cz l n
 | 0=>rfl
 | n+1=>cnt_app0 l m (n+1) (Nat.succ_pos n)
theorem fst_app0 (l:List Int) (m:Nat):∀ n,fst (l ++ List.replicate m 0) n=fst l n
 | 0=>rfl
 | n+1=>by rw [fst,fst,fst_app0 l m n,cz_app0]
theorem codeAt_app0 {l:List Int} {m p:Nat} (h:p < l.length):codeAt (l ++ List.replicate m 0) p=codeAt l p:=by
 have e:(l ++ List.replicate m 0).getD p 0=l.getD p 0:=by
  rw [List.getD_eq_getElem?_getD,List.getD_eq_getElem?_getD,List.getElem?_append_left h]
 have e2:(l ++ List.replicate m 0).take p=l.take p:=List.take_append_of_le_length (by omega)
 unfold codeAt
 rw [e,e2,fst_app0]
theorem cutK_zero {ls:List Int} {least:Nat}:∀ k j,cutK ls least k≤j→j < k→ls.getD j 0=0
 | 0,j,_,h=>absurd h (by omega)
 | k+1,j,h1,h2=>by
  unfold cutK at h1
  split at h1
  ·rename_i e
   by_cases hj:j=k
   ·rw [hj];exact e.2
   ·exact cutK_zero k j h1 (by omega)
  ·omega
theorem cutL_app (ls:List Int) (least:Nat):ls=cutL ls least ++ List.replicate (ls.length - cutK ls least ls.length) 0:=by
 have hk:=cutK_le ls least ls.length
 have e:ls.drop (cutK ls least ls.length)=List.replicate (ls.length - cutK ls least ls.length) 0:=by
  rw [List.eq_replicate_iff]
  refine ⟨List.length_drop,fun x hx=>?_⟩
  obtain ⟨i,hi⟩:=List.getElem?_of_mem hx
  rw [List.getElem?_drop] at hi
  have hlt:=(List.getElem?_eq_some_iff.1 hi).1
  have:=cutK_zero (ls:=ls) (least:=least) ls.length (cutK ls least ls.length+i) (Nat.le_add_right _ _) hlt
  rw [List.getD_eq_getElem?_getD,hi] at this
  exact this
 rw [← e]
 unfold cutL
 rw [List.take_append_drop]
theorem code_cut {ls:List Int} {least p:Nat} (h:p < (cutL ls least).length):codeB ls p=codeB (cutL ls least) p:=by
 have e:codeAt ls p=codeAt (cutL ls least) p:=by
  have:=codeAt_app0 (m:=ls.length - cutK ls least ls.length) h
  rw [← cutL_app] at this
  exact this
 unfold codeB
 rw [e]
/-- Are all numbers 0? -/
def zeroA (l:List Int):Bool:=l.all fun x=>x == 0
def unL (ts:List Tok):List Int:=lensOf (weighL ts) 15
def unD (ts:List Tok):List Int:=if zeroA (lensOf (weighD ts) 15)=true then (lensOf (weighD ts) 15).set 0 1 else lensOf (weighD ts) 15
theorem unL_len (ts:List Tok):(unL ts).length=286:=by unfold unL;rw [lensOf_len,weighL_len]
theorem unD_len (ts:List Tok):(unD ts).length=30:=by
 unfold unD
 split
 ·rw [List.length_set,lensOf_len,weighD_len]
 ·rw [lensOf_len,weighD_len]
theorem zeroA_rep {l:List Int} (h:zeroA l=true):l=List.replicate l.length 0:=by
 rw [List.eq_replicate_iff]
 refine ⟨rfl,fun x hx=>?_⟩
 have:=List.all_eq_true.1 h x hx
 simpa using this
theorem zeroA_snoc {l:List Int} {k:Nat} {x:Int} (h:l[k]?=some x):zeroA (l.take (k+1))=(zeroA (l.take k) && (x == 0)):=by
 obtain ⟨hk,hx⟩:=List.getElem?_eq_some_iff.1 h
 unfold zeroA
 rw [List.take_succ_eq_append_getElem hk,hx,List.all_append]
 simp
theorem dynL_un (ts:List Tok):dynL ts=cutL (unL ts) 257:=rfl
theorem dynD_un (ts:List Tok):dynD ts=cutL (unD ts) 1:=by
 have hlen:(lensOf (weighD ts) 15).length=30:=by rw [lensOf_len,weighD_len]
 unfold dynD unD
 generalize lensOf (weighD ts) 15=l at *
 by_cases hz:zeroA l=true
 ·have e:=zeroA_rep hz
  rw [hlen] at e
  rw [if_pos hz,e,if_pos (by decide)]
  decide
 ·rw [if_neg hz,if_neg]
  rintro ⟨h1,h2⟩
  refine hz (List.all_eq_true.2 fun x hx=>?_)
  obtain ⟨i,hi⟩:=List.getElem?_of_mem hx
  have hlt:=(List.getElem?_eq_some_iff.1 hi).1
  have h3:l.getD i 0=0:=by
   rcases Nat.eq_zero_or_pos i with rfl | hp
   ·exact h1
   ·exact cutK_zero (least:=1) 30 i (by omega) (by omega)
  rw [List.getD_eq_getElem?_getD,hi] at h3
  have h4:x=0:=h3
  simp [h4]
theorem unL_ok (ts:List Tok):CodesOK (unL ts):=lens_ok (by omega) (by omega) (by rw [weighL_len];decide) (by rw [weighL_len];omega)
theorem unD_ok (ts:List Tok):CodesOK (unD ts):=by
 have h0:CodesOK (lensOf (weighD ts) 15):=lens_ok (by omega) (by omega) (by rw [weighD_len];decide) (by rw [weighD_len];omega)
 have hlen:(lensOf (weighD ts) 15).length=30:=by rw [lensOf_len,weighD_len]
 unfold unD
 split
 ·rename_i hz
  have e:=zeroA_rep hz
  rw [hlen] at e
  rw [e]
  exact ⟨by decide,by decide +kernel,by decide +kernel⟩
 ·exact h0
theorem un_in {ts:List Tok} (h:∀ t ∈ ts,TokOK t):∀ t ∈ ts,TokIn (unL ts) (unD ts) t:=fun t ht =>
 ⟨by rw [unL_len];exact symT_lt (h t ht),fun p hp=>by rw [unD_len];exact dstT_lt (h t ht) p hp⟩
theorem tokB_un {ts:List Tok} (h:∀ t ∈ ts,TokOK t):∀ t ∈ ts,tokB (unL ts) (unD ts) t=tokB (dynL ts) (dynD ts) t:=fun t ht=>by
 obtain ⟨h1,h2⟩:=dyn_in h t ht
 have e1:∀ p,p < (dynL ts).length→codeB (unL ts) p=codeB (dynL ts) p:=fun p hp=>by rw [dynL_un] at hp ⊢;exact code_cut hp
 have e2:∀ p,p < (dynD ts).length→codeB (unD ts) p=codeB (dynD ts) p:=fun p hp=>by rw [dynD_un] at hp ⊢;exact code_cut hp
 unfold symT at h1
 unfold dstT at h2
 unfold tokB
 by_cases h0:t.1=0
 ·rw [if_pos h0] at h1
  rw [if_pos h0,if_pos h0,e1 _ h1]
 ·rw [if_neg h0] at h1 h2
  rw [if_neg h0,if_neg h0,e1 _ h1,e2 _ (h2 _ (by simp))]
theorem toksB_un {ts:List Tok} (h:∀ t ∈ ts,TokOK t):toksB (unL ts) (unD ts) ts=toksB (dynL ts) (dynD ts) ts:=by
 have e1:codeB (unL ts) 256=codeB (dynL ts) 256:=by
  rw [dynL_un]
  refine code_cut ?_
  rw [← dynL_un]
  have:=(dynL_rng ts).1
  omega
 have key:∀ us:List Tok,(∀ t ∈ us,t ∈ ts)→us.flatMap (tokB (unL ts) (unD ts))=us.flatMap (tokB (dynL ts) (dynD ts)):=by
  intro us
  induction us with
  | nil=>intro _;rfl
  | cons t r ih =>
   intro hu
   rw [List.flatMap_cons,List.flatMap_cons,tokB_un h t (hu t (by simp)),ih (fun x hx=>hu x (by simp [hx]))]
 unfold toksB
 rw [e1,key ts (fun t ht=>ht)]
end Go.Proofs.YteoolehdomjkkaaGreat

/- flate: the document's block by the fixed codes. -/
namespace Go.Proofs.YteoolehdomjkkaaGreat
set_option linter.all false
open Go.RowKit
theorem bxN {w:World} {g b:Nat} (h1:b < w.heap.size) (h2:b ≠ g):Bx w g (.slice none 0 0) b:=⟨h1,h2,fun e=>by cases e⟩
set_option maxRecDepth 100000 in
set_option maxHeartbeats 3200000 in
theorem fixed5_any (B n c:Nat) (A:Option Addr) (ts:List Tok) (w:World) (h:RdJ w B A n ts) (hB:B≤w.heap.size) (hn:n≤40000) (hok:∀ t ∈ ts,TokOK t) (hsz:tokSize ts≤40000) :
  Calls Tryz.prog 66 #[.slice A n c] w fun e w'=>∃ g pv,e=.returned (.pointer (some ⟨g,0,none⟩))∧w.heap.size≤g∧RWr w' g pv (fixB ts)∧Below w.heap.size w w':=by
 have HR:=Lib.hid h
 have hl:=h.len
 have HFX:=Lib.hid (fixed5L_any w)
 have HMX1:Hid (∀ k,k≤n→(headL 1).length+((ts.take k).flatMap (tokB fixL fixD)).length+100≤1000000):=(show ∀ k,_ from fun k hk=>by
  have h1:=toks_size fixL_ok fixD_ok (ts:=ts.take k) (fun t ht=>⟨hok t (List.mem_of_mem_take ht),fix_in (hok t (List.mem_of_mem_take ht))⟩)
  have h2:=tokSize_take ts k
  rw [headL_len]
  omega)
 have HIN1:Hid (∀ t ∈ ts,TokOK t∧TokIn fixL fixD t):=(show ∀ t ∈ _,_ from fun t ht=>⟨hok t ht,fix_in (hok t ht)⟩)
 have HL1:=Lib.hid fixL_len
 have HL2:=Lib.hid fixD_len
 have HO1:=Lib.hid fixL_ok
 have HO2:=Lib.hid fixD_ok
 have HH0:Hid (([]:List Nat) ++ lsb 1 1=[1]):=(show _=_ by decide)
 have HH1:Hid ([1] ++ lsb 1 2=headL 1):=(show _=_ by decide)
 have HFB:Hid (headL 1 ++ toksB fixL fixD ts=fixB ts):=(show _=_ from rfl)
 clear h hok hsz
 generalize fixL=fl at *
 generalize fixD=fd at *
 generalize headL 1=H1 at *
 go_enter Tryz.func66,Tryz.ntmps66
 go_upto_region 4 with (first
  | (go_at_call 25;(with_reducible refine HFX.out.mono ?_);go_must (rintro e w1 ⟨g1,g2,rfl,hr1,hr2,hb1⟩;have HB1:=Lib.hid hb1;have hz1:=hb1.size;have HR2:=Lib.hid hr2;have HC1:=Lib.hid (codes5_ok w1.heap.size 288 288 _ fl w1 hr1 (Nat.le_refl _) (by omega) HO1.out);clear hr1 hr2 hb1))
  | (go_at_call 118;(with_reducible refine HC1.out.mono ?_);go_must (rintro e w2 ⟨ga,ca,rfl,hga,hga2,hca,hb2⟩;have HCA:=Lib.hid hca;have hz2:=hb2.size;have HB2:=Lib.hid (HB1.out.trans (hb2.mono hz1));have HC2:=Lib.hid (codes5_ok w1.heap.size 32 32 _ fd w2 (RdI.blw HR2.out hb2) hz2 (by omega) HO2.out);clear hca hb2))
  | (go_at_call 118;(with_reducible refine HC2.out.mono ?_);go_must (rintro e w3 ⟨gb,cb,rfl,hgb,hgb2,hcb,hb3⟩;have HCB:=Lib.hid hcb;have hz3:=hb3.size;have HCA3:=Lib.hid (HCA.out.later hga2 hb3);have HB3:=Lib.hid (HB2.out.trans (hb3.mono (by omega)));clear hcb hb3 HCA)))
 obtain ⟨g,hg⟩:∃ g,w3.heap.size=g:=⟨_,rfl⟩
 obtain ⟨w4,hw4⟩:∃ w4,w3.alloc (.cells #[Value.slice none 0 0] 145)=w4:=⟨_,rfl⟩
 have HW4:Hid (RWr w4 g (.slice none 0 0) []):=(show RWr _ _ _ _ by rw [← hw4,← hg];exact ⟨Arr.new w3 [.slice none 0 0] _,ownB.nil_ _ _,fun b hb=>absurd hb List.not_mem_nil⟩)
 have hb34:Below w3.heap.size w3 w4:=by rw [← hw4];exact (Below.refl _ _).alloc (Nat.le_refl _) _
 have hz4:w4.heap.size=g+1:=by rw [← hw4,World.size_alloc,hg]
 have HB4:=Lib.hid (HB3.out.trans (hb34.mono (by omega)))
 have HCA4:=Lib.hid (HCA3.out.later (by omega) hb34)
 have HCB4:=Lib.hid (HCB.out.later hgb2 hb34)
 have HXA:=Lib.hid (bxN (w:=w4) (g:=g) (b:=ga) (by omega) (by omega))
 have HXB:=Lib.hid (bxN (w:=w4) (g:=g) (b:=gb) (by omega) (by omega))
 have HP0:=Lib.hid (wputR_any g 1 1 1 1 rfl rfl _ _ w4 HW4.out (by decide) (by decide) (by decide))
 rw [HH0.out] at HP0
 have hgw:w.heap.size≤g:=by omega
 clear hb34 HCA3 HCB HB1 HB2 HB3 HC1 HC2 HFX HR2
 go_wp2_with fail
 go_wp2_with (first
  | (go_at_call 116;(with_reducible refine HP0.out.mono ?_);go_must (rintro e w5 ⟨rfl,p5,hw5,hf5⟩;have HF5:=Lib.hid hf5;have HP1:=Lib.hid (wputR_any g 1 2 1 2 rfl rfl p5 [1] w5 hw5 (by decide) (by decide) (by decide));rw [HH1.out] at HP1;clear hw5 hf5))
  | (go_at_call 116;(with_reducible refine HP1.out.mono ?_);go_must (rintro e w6 ⟨rfl,p6,hw6,hf6⟩;have HF6:=Lib.hid (HF5.out.trans hf6);have hbw6:Below w.heap.size w w6:=HB4.out.trans (HF6.out.below HB4.out.size hgw (fun k hk=>by cases hk));have HBK:=Lib.hid (block5_any B n c 288 ca 32 cb ga gb g A ts fl fd p6 H1 w6 hw6 (HR.out.blw (hbw6.mono hB)) (HCA4.out.bx HXA.out HF6.out) (HCB4.out.bx HXB.out HF6.out) (HXA.out.wr HF6.out) (HXB.out.wr HF6.out) (by omega) (fun k hk=>by have:=(World.ownsRow.lt hw6.2.1 k hk).1;omega) (by omega) HL1.out.symm HL2.out.symm HIN1.out HO1.out HO2.out (by omega) HMX1.out);clear hw6 hf6))
  | (go_at_call 119;(with_reducible refine HBK.out.mono ?_);go_must (rintro e w7 ⟨rfl,p7,hw7,hf7⟩;rw [HFB.out] at hw7;have HW7:=Lib.hid hw7;have HF7:=Lib.hid (HF6.out.trans hf7);clear hw7 hf7)))
 go_ret
 exact ⟨g,p7,rfl,hgw,HW7.out,HB4.out.trans (HF7.out.below HB4.out.size hgw (fun k hk=>by cases hk))⟩
end Go.Proofs.YteoolehdomjkkaaGreat

/- flate: the document's runs, plainly. -/
namespace Go.Proofs.YteoolehdomjkkaaGreat
set_option linter.all false
theorem zerosF_fuel:∀ f n:Nat,n≤f→zerosF f n=zerosP n:=by
 intro f
 induction f using Nat.strongRecOn with
 | ind f ih =>
  intro n hn
  unfold zerosP
  by_cases h:11≤n
  ·obtain ⟨f',rfl⟩:∃ f',f=f'+1:=⟨f - 1,by omega⟩
   obtain ⟨n',rfl⟩:∃ n',n=n'+1:=⟨n - 1,by omega⟩
   rw [zerosF_big h,zerosF_big h]
   rw [ih f' (by omega) _ (by omega)]
   by_cases e:n'=f'
   ·subst e;rw [ih n' (by omega) _ (by omega)]
   ·rw [ih n' (by omega) _ (by omega)]
  ·rw [zerosF_small h,zerosF_small h]
theorem othersF_fuel (x:Nat):∀ f n:Nat,n≤f→othersF x f n=othersF x n n:=by
 intro f
 induction f using Nat.strongRecOn with
 | ind f ih =>
  intro n hn
  by_cases h:3≤n
  ·obtain ⟨f',rfl⟩:∃ f',f=f'+1:=⟨f - 1,by omega⟩
   obtain ⟨n',rfl⟩:∃ n',n=n'+1:=⟨n - 1,by omega⟩
   rw [othersF_big h,othersF_big h]
   rw [ih f' (by omega) _ (by omega),ih n' (by omega) _ (by omega)]
  ·rw [othersF_small h,othersF_small h]
/-- What is still to be written of a run of v. -/
def restF (v n:Nat):List Sgn:=if v=0 then zerosP n else othersF v n n
theorem rest_zero (v:Nat):restF v 0=[]:=by
 unfold restF
 split <;> rfl
theorem rest_18 {n:Nat} (h:11≤n):restF 0 n=(18,min n 138 - 11,7) :: restF 0 (n - min n 138):=by
 unfold restF
 rw [if_pos rfl,if_pos rfl]
 obtain ⟨n',rfl⟩:∃ n',n=n'+1:=⟨n - 1,by omega⟩
 show zerosF (n'+1) (n'+1)=_
 rw [zerosF_big h,zerosF_fuel n' _ (by omega)]
theorem rest_17 {n:Nat} (h:3≤n) (h2:n < 11):restF 0 n=[(17,n - 3,3)]:=by
 unfold restF
 rw [if_pos rfl]
 unfold zerosP
 rw [zerosF_small (by omega)]
 exact if_pos h
theorem rest_16 {v n:Nat} (hv:¬ v=0) (h:3≤n):restF v n=(16,min n 6 - 3,2) :: restF v (n - min n 6):=by
 unfold restF
 rw [if_neg hv,if_neg hv]
 obtain ⟨n',rfl⟩:∃ n',n=n'+1:=⟨n - 1,by omega⟩
 rw [othersF_big h,othersF_fuel v n' _ (by omega)]
theorem rest_one {v n:Nat} (h1:1≤n) (h:n < 3):restF v n=(v,0,0) :: restF v (n - 1):=by
 obtain ⟨n',rfl⟩:∃ n',n=n'+1:=⟨n - 1,by omega⟩
 unfold restF
 rw [show n'+1 - 1=n' from rfl]
 split
 ·rename_i hv
  subst hv
  unfold zerosP
  rw [zerosF_small (by omega),zerosF_small (by omega)]
  unfold zTail
  rw [if_neg (by omega),if_neg (by omega)]
  rfl
 ·rw [othersF_small (by omega),othersF_small (by omega)]
  rfl
theorem run_zero (n:Nat):zerosP n=restF 0 n:=by unfold restF;rw [if_pos rfl]
theorem run_other {x:Nat} (n:Nat) (h:¬ x=0):othersP x n=(x,0,0) :: restF x (n - 1):=by unfold restF;rw [if_neg h];rfl
end Go.Proofs.YteoolehdomjkkaaGreat

/- Rows of aquref5.run: 3 cells an element. -/
namespace Go.Proofs.YteoolehdomjkkaaGreat
set_option linter.all false
open Go.RowKit
def eN (x:(Nat × Nat × Nat)):List Value:=[Value.int .i64 (x.1:Int),Value.int .i64 (x.2.2:Int),Value.int .i64 (x.2.1:Int)]
theorem eN_len (x:(Nat × Nat × Nat)):(eN x).length=3:=rfl
/-- The cells of a list. -/
def cN (l:List (Nat × Nat × Nat)):List Value:=l.flatMap eN
theorem cN_length:∀ l:List (Nat × Nat × Nat),(cN l).length=l.length * 3
 | []=>rfl
 | x :: l=>by
  have:=cN_length l
  unfold cN at this ⊢
  rw [List.flatMap_cons,List.length_append,this,eN_len,List.length_cons]
  omega
theorem cN_append (a b:List (Nat × Nat × Nat)):cN (a ++ b)=cN a ++ cN b:=by simp [cN]
theorem cN_single (x:(Nat × Nat × Nat)):cN [x]=eN x:=by simp [cN]
theorem cN_get:∀ (l:List (Nat × Nat × Nat)) (k j:Nat) (hk:k < l.length),j < 3→(cN l)[k * 3+j]?=(eN l[k])[j]?
 | x :: l,0,j,_,hj=>by
  unfold cN
  rw [List.flatMap_cons,List.getElem?_append_left (by rw [eN_len];omega)]
  simp
 | x :: l,i+1,j,hi,hj=>by
  have:=cN_get l i j (by simpa using hi) hj
  unfold cN at this ⊢
  rw [List.flatMap_cons,List.getElem?_append_right (by rw [eN_len];omega),eN_len,List.getElem_cons_succ,← this]
  congr 1
  omega
theorem cN_one (l:List (Nat × Nat × Nat)):∀ u ∈ cN l,u.oneCell'=true:=by
 intro u hu
 simp only [cN,List.mem_flatMap] at hu
 obtain ⟨x,_,hx⟩:=hu
 simp only [eN,List.mem_cons,List.not_mem_nil,or_false] at hx
 rcases hx with rfl | rfl | rfl <;> rfl
theorem cN_set (l:List (Nat × Nat × Nat)) (k:Nat) (x:(Nat × Nat × Nat)) (hk:k < l.length):cN (l.set k x)=(((cN l).set (k * 3) (Value.int .i64 (x.1:Int))).set (k * 3+1) (Value.int .i64 (x.2.2:Int))).set (k * 3+2) (Value.int .i64 (x.2.1:Int)):=by
 have e1:l=l.take k ++ l[k] :: l.drop (k+1):=by rw [← List.drop_eq_getElem_cons hk,List.take_append_drop]
 have e2:l.set k x=l.take k ++ x :: l.drop (k+1):=by rw [List.set_eq_take_append_cons_drop,if_pos hk]
 rw [e2]
 have hl:(cN (l.take k)).length=k * 3:=by rw [cN_length,List.length_take,Nat.min_eq_left (by omega)]
 have e3:cN l=cN (l.take k) ++ (eN l[k] ++ cN (l.drop (k+1))):=by
  conv=>lhs;rw [e1]
  rw [cN_append]
  simp only [cN,List.flatMap_cons]
 have e4:cN (l.take k ++ x :: l.drop (k+1))=cN (l.take k) ++ (eN x ++ cN (l.drop (k+1))):=by
  rw [cN_append]
  simp only [cN,List.flatMap_cons]
 rw [e3,e4]
 generalize cN (l.take k)=P at *
 rw [← hl]
 simp [eN,List.set_append]
theorem Tryz.info_N:(Tryz.prog.info? 155).map (fun i=>(i.zero,i.size,i.bytes))=some (some (.agg #[.int .i64 0,.int .i64 0,.int .i64 0]),3,24):=by kernel_rfl
def ownN (w:World) (base:Nat) (v:Value) (l:List (Nat × Nat × Nat)):Prop:=w.ownsRow base 155 3 v l.length (cN l)
def RdN (w:World) (B:Nat) (A:Option Addr) (n:Nat) (l:List (Nat × Nat × Nat)):Prop:=Rd w B 3 A n (cN l)
theorem RdN.len {w:World} {B n:Nat} {A:Option Addr} {l:List (Nat × Nat × Nat)} (h:RdN w B A n l):l.length=n:=by
 have:=h.1;rw [cN_length] at this;omega
theorem RdN.one {w:World} {B n:Nat} {A:Option Addr} {l:List (Nat × Nat × Nat)} (h:RdN w B A n l) {k:Nat} (hk:k < n) :
  ∃ b o x,A=some ⟨b,o,none⟩∧b < B∧Hid (l[k]?=some x)∧w.cell? ⟨b,o+k * 3,none⟩=some (Value.int .i64 (x.1:Int))∧w.cell? ⟨b,o+k * 3+1,none⟩=some (Value.int .i64 (x.2.2:Int))∧w.cell? ⟨b,o+k * 3+2,none⟩=some (Value.int .i64 (x.2.1:Int)):=by
 obtain ⟨b,o,e,hb,hc⟩:=h.2 (by omega)
 have hl:=h.len
 have hk':k < l.length:=by omega
 refine ⟨b,o,l[k],e,hb,List.getElem?_eq_getElem hk',?_,?_,?_⟩
 ·exact hc (k * 3) _ ((cN_get l k 0 hk' (by omega)).trans rfl)
 ·exact hc (k * 3+1) _ ((cN_get l k 1 hk' (by omega)).trans rfl)
 ·exact hc (k * 3+2) _ ((cN_get l k 2 hk' (by omega)).trans rfl)
theorem RdN.blw {w w':World} {B n:Nat} {A:Option Addr} {l:List (Nat × Nat × Nat)} (h:RdN w B A n l) (hb:Below B w w'):RdN w' B A n l:=Rd.below h hb
theorem RdN.more {w:World} {B B' n:Nat} {A:Option Addr} {l:List (Nat × Nat × Nat)} (h:RdN w B A n l) (hB:B≤B'):RdN w B' A n l:=Rd.more h hB
theorem RdN.here {w:World} {B n:Nat} {A:Option Addr} {l:List (Nat × Nat × Nat)} (h:RdN w B A n l):RdN w w.heap.size A n l :=
 ⟨h.1,fun hn=>by
  obtain ⟨b,o,e,hb,hc⟩:=h.2 hn
  have hl:=h.1
  exact ⟨b,o,e,block_lt_of_cell (a:=⟨b,o+0,none⟩) (hc 0 (cN l)[0] (List.getElem?_eq_getElem (by omega))),hc⟩⟩
theorem RdN.later {w w':World} {n:Nat} {A:Option Addr} {l:List (Nat × Nat × Nat)} (h:RdN w w.heap.size A n l) (hb:Below w.heap.size w w'):RdN w' w'.heap.size A n l:=RdN.here (RdN.blw h hb)
theorem RdN.alloc {w:World} {B n:Nat} {A:Option Addr} {l:List (Nat × Nat × Nat)} (h:RdN w B A n l) (hB:B≤w.heap.size) (o:Obj):RdN (w.alloc o) B A n l:=Rd.alloc h hB o
theorem RdN.nil_ {w:World} {B:Nat} {A:Option Addr}:RdN w B A 0 []:=⟨by simp [cN],fun h=>absurd h (by omega)⟩
theorem RdN.cut {w:World} {B n:Nat} {A:Option Addr} {l:List (Nat × Nat × Nat)} (h:RdN w B A n l) {k m:Nat} (hk:k+m≤n) {A':Option Addr} (hA:0 < m→A'=A.map (·.add (k * 3))) :
  RdN w B A' m ((l.drop k).take m):=by
 have:=Rd.cut h hk (A':=A') hA
 unfold RdN
 have e1:∀ (q:Nat) (l:List (Nat × Nat × Nat)),cN (l.take q)=(cN l).take (q * 3):=fun q l=>by
  rcases Nat.lt_or_ge q l.length with hq | hq
  ·conv=>rhs;rw [← List.take_append_drop q l,cN_append]
   rw [List.take_left' (by rw [cN_length,List.length_take,Nat.min_eq_left (by omega)])]
  ·rw [List.take_of_length_le hq,List.take_of_length_le (by rw [cN_length];exact Nat.mul_le_mul_right _ hq)]
 have e2:∀ (q:Nat) (l:List (Nat × Nat × Nat)),cN (l.drop q)=(cN l).drop (q * 3):=fun q l=>by
  rcases Nat.lt_or_ge q l.length with hq | hq
  ·conv=>rhs;rw [← List.take_append_drop q l,cN_append]
   rw [List.drop_left' (by rw [cN_length,List.length_take,Nat.min_eq_left (by omega)])]
  ·rw [List.drop_eq_nil_of_le hq,List.drop_eq_nil_of_le (by rw [cN_length];exact Nat.mul_le_mul_right _ hq)]
   rfl
 rw [e1,e2]
 exact this
theorem ownN.nil_ (w:World) (base:Nat):ownN w base (.slice none 0 0) []:=World.ownsRow_nil _ _ _ _
theorem ownN.mono {w:World} {base base':Nat} {v:Value} {l:List (Nat × Nat × Nat)} (h:ownN w base v l) (hb:base'≤base):ownN w base' v l:=by
 refine ⟨h.1,?_⟩
 rcases h.2 with hn | ⟨g,cap,cur,rfl,hbg,rest⟩
 ·exact .inl hn
 ·exact .inr ⟨g,cap,cur,rfl,by omega,rest⟩
theorem ownN.later {w w':World} {base:Nat} {v:Value} {l:List (Nat × Nat × Nat)} (h:ownN w base v l) (hb:Below w.heap.size w w'):ownN w' base v l :=
 Below.ownsRow h hb (fun g hg=>(World.ownsRow.lt h g hg).2)
theorem ownN.alloc {w:World} {base:Nat} {v:Value} {l:List (Nat × Nat × Nat)} (h:ownN w base v l) (o:Obj):ownN (w.alloc o) base v l:=World.ownsRow.alloc h o
theorem ownN.drew {w:World} {base:Nat} {v:Value} {l:List (Nat × Nat × Nat)} (h:ownN w base v l):ownN w.drew base v l:=h
theorem ownN.drewN {w:World} {base:Nat} {v:Value} {l:List (Nat × Nat × Nat)} (h:ownN w base v l) (n:Nat):ownN (w.drewN n) base v l:=h
theorem ownN.form {w:World} {base:Nat} {v:Value} {l:List (Nat × Nat × Nat)} (h:ownN w base v l) :
  ∃ A c,v=.slice A l.length c∧RdN w w.heap.size A l.length l∧l.length≤c∧c≤maxLen:=by
 rcases h.2 with ⟨rfl,h0⟩ | ⟨g,cap,cur,rfl,_,_,h1,h2,_⟩
 ·have:l=[]:=List.eq_nil_of_length_eq_zero h0
  subst this
  exact ⟨none,0,rfl,Rd.none_,by simp,by simp⟩
 ·exact ⟨_,_,rfl,Rd.of_own h,h1,h2⟩
theorem ownN.kept {w w':World} {base:Nat} {v:Value} {l:List (Nat × Nat × Nat)} {row:Option Nat} (h:ownN w base v l) (hg:w.grownBy w' row) (hne:v.ownBlock=none∨v.ownBlock ≠ row):ownN w' base v l :=
 World.ownsRow.kept h hg hne
theorem ownN.far {w:World} {base g:Nat} {v:Value} {l:List (Nat × Nat × Nat)} (h:ownN w base v l) (hg:v.ownBlock ≠ some g) (o:Nat) (u:Value) :
  ownN (w.setCell ⟨g,o,none⟩ u) base v l:=by
 refine ⟨h.1,?_⟩
 rcases h.2 with hn | ⟨g',cap,cur,rfl,hb,hgg,rest⟩
 ·exact .inl hn
 ·refine .inr ⟨g',cap,cur,rfl,hb,?_,rest⟩
  rw [Below.heap_setCell _ _ _ _ (by intro e;apply hg;simp [Value.ownBlock];exact e)]
  exact hgg
theorem ownN.ne {w:World} {base g:Nat} {v:Value} {l:List (Nat × Nat × Nat)} (h:ownN w base v l) (hg:g < base):v.ownBlock ≠ some g:=by
 intro e
 have:=(World.ownsRow.lt h g e).1
 omega
theorem ownN.pos {w:World} {base n c:Nat} {A:Option Addr} {l:List (Nat × Nat × Nat)} (h:ownN w base (.slice A n c) l) (hn:0 < n):n=l.length∧∃ g,A=some ⟨g,0,none⟩∧base≤g∧g < w.heap.size:=by
 rcases h.2 with ⟨h',_⟩ | ⟨g,cap,cur,h',hb,hg,_⟩
 ·injection h' with _ h2;omega
 ·injection h' with h1 h2
  exact ⟨h2,g,h1,hb,(World.ownsRow.lt h g (by rw [h1];rfl)).2⟩
theorem ownN.cell {w:World} {base g n c:Nat} {l:List (Nat × Nat × Nat)} (h:ownN w base (.slice (some ⟨g,0,none⟩) n c) l) (hn:n=l.length) {k:Nat} (hk:k < l.length) :
  w.cell? ⟨g,k * 3,none⟩=some ((fun x:(Nat × Nat × Nat)=>Value.int .i64 (x.1:Int)) l[k])∧w.cell? ⟨g,k * 3+1,none⟩=some ((fun x:(Nat × Nat × Nat)=>Value.int .i64 (x.2.2:Int)) l[k])∧w.cell? ⟨g,k * 3+2,none⟩=some ((fun x:(Nat × Nat × Nat)=>Value.int .i64 (x.2.1:Int)) l[k]):=by
 subst hn
 refine ⟨?_,?_,?_⟩
 ·exact (World.ownsRow.cellAt h (k * 3) (by have:=hk;omega)).trans ((cN_get l k 0 hk (by omega)).trans rfl)
 ·exact (World.ownsRow.cellAt h (k * 3+1) (by have:=hk;omega)).trans ((cN_get l k 1 hk (by omega)).trans rfl)
 ·exact (World.ownsRow.cellAt h (k * 3+2) (by have:=hk;omega)).trans ((cN_get l k 2 hk (by omega)).trans rfl)
theorem ownN.frozen {w:World} {base g n c:Nat} {l:List (Nat × Nat × Nat)} (h:ownN w base (.slice (some ⟨g,0,none⟩) n c) l) (hn:n=l.length) (k:Nat) :
  w.frozen? ⟨g,k,none⟩=false:=by
 subst hn
 exact World.ownsRow.frozenAt h k
theorem ownN.store {w:World} {base g n c:Nat} {l:List (Nat × Nat × Nat)} (h:ownN w base (.slice (some ⟨g,0,none⟩) n c) l) (hn:n=l.length) (k:Nat) (x:(Nat × Nat × Nat)) (hk:k < l.length) :
  ownN (((w.setCell ⟨g,k * 3,none⟩ (Value.int .i64 (x.1:Int))).setCell ⟨g,k * 3+1,none⟩ (Value.int .i64 (x.2.2:Int))).setCell ⟨g,k * 3+2,none⟩ (Value.int .i64 (x.2.1:Int))) base (.slice (some ⟨g,0,none⟩) n c) (l.set k x):=by
 subst hn
 have h0:w.ownsRow base 155 3 (.slice (some ⟨g,0,none⟩) l.length c) l.length (cN l):=h
 have h1:=(World.ownsRow.stored h0 (k * 3) (Value.int .i64 (x.1:Int))).1
 have h2:=(World.ownsRow.stored h1 (k * 3+1) (Value.int .i64 (x.2.2:Int))).1
 have h3:=(World.ownsRow.stored h2 (k * 3+2) (Value.int .i64 (x.2.1:Int))).1
 unfold ownN
 rw [List.length_set,cN_set l k x hk]
 exact h3
theorem ownN.rd {w:World} {base n c:Nat} {A:Option Addr} {l:List (Nat × Nat × Nat)} (h:ownN w base (.slice A n c) l):RdN w w.heap.size A n l:=by
 obtain ⟨A4,c4,e5,hd4,_,_⟩:=h.form
 injection e5 with e1 e2 e3
 rw [e1,e2]
 exact hd4
/-- One element that lies in a block, whole. -/
theorem rd_oneN (w:World) (x:(Nat × Nat × Nat)) (t:TypeId) (fr:Nat × Nat):RdN (w.alloc (.cells (eN x).toArray t fr)) (w.heap.size+1) (some ⟨w.heap.size,0,none⟩) 1 [x]:=by
 refine ⟨by rw [cN_length];rfl,fun _=>⟨_,_,rfl,by omega,fun j u hu=>?_⟩⟩
 rw [Nat.zero_add]
 have:=cell_of_row (w.alloc (.cells (eN x).toArray t fr)) w.heap.size j (eN x).toArray t fr (heap_alloc_new w _)
 rw [this]
 rw [cN_single] at hu
 simpa using hu
set_option maxRecDepth 100000 in
theorem run_appendN (w:World) (base:Nat) (t2:TypeId) (v:Value) (l:List (Nat × Nat × Nat)) (hown:ownN w base v l) (B m c:Nat) (A:Option Addr) (news:List (Nat × Nat × Nat)) (hr:RdN w B A m news)
  (hb:l.length+m≤1099511627776) (hbase:base≤w.heap.size) :
  ∃ v' w',(Builtin.append_ #[151,151] t2 #[v,.slice A m c]).run Tryz.prog w=.ok v' w'∧ownN w' base v' (l ++ news)∧w.grownBy w' v.ownBlock ∧
   (v'.ownBlock=v.ownBlock∨v'.ownBlock=some w.heap.size)∧(v'=.slice none 0 0 ↔ v=.slice none 0 0∧m=0):=by
 obtain ⟨i0,hi,hz0,hz1,hz2⟩:=info_parts Tryz.info_N
 have hl:=hr.len
 subst hl
 unfold ownN
 rw [List.length_append,cN_append]
 rcases A with _ | ad
 ·have hn:news=[]:=by
   rcases Nat.eq_zero_or_pos news.length with h0 | h0
   ·exact List.eq_nil_of_length_eq_zero h0
   ·obtain ⟨b,o,h,_⟩:=hr.2 h0
    cases h
  subst hn
  refine ⟨v,w,?_,by simpa [cN,ownN] using hown,World.grownBy.refl w _,.inl rfl,by simp⟩
  rcases hown.2 with ⟨rfl,h0⟩ | ⟨g,cap,cur,rfl,_,_,hnc,_⟩
  ·simp [Builtin.append_,run_underlying Tryz.underlying151,sizeOf,typeInfo,hi,Builtin.lenOf,Builtin.firstCells]
  ·simp [Builtin.append_,run_underlying Tryz.underlying151,sizeOf,typeInfo,hi,Builtin.lenOf,Builtin.firstCells,hnc,storeCells]
 ·have hcells:∀ j u,(cN news)[j]?=some u→w.cell? (ad.add j)=some u:=by
   intro j u hu
   rcases Nat.eq_zero_or_pos news.length with h0 | h0
   ·have hn:news=[]:=List.eq_nil_of_length_eq_zero h0
    subst hn
    simp [cN] at hu
   ·obtain ⟨b,o,h,_,hc⟩:=hr.2 h0
    injection h with h
    subst h
    rw [add_none]
    exact hc j u hu
  obtain ⟨v',w',hrun,h2,h3,h4,h5⟩:=run_append_own_at (P:=Tryz.prog) w base 151 t2 155 i0 _ 3 24 Tryz.underlying151 hi hz0 hz1 hz2 rfl (by omega) v l.length (cN l) hown ad news.length c (cN news) (by rw [cN_length]) hcells (cN_one _) (by unfold maxLen;omega) (by omega) hbase
  exact ⟨v',w',hrun,h2,h3,h5,h4⟩
/-- append(v, x...): v the call's own, x whatever. -/
theorem wpList_appendN {w:World} {ops:Array Oper} {rest:List Oper} {o:Oper} {a:Act} {Q:Exit→Act→World→Prop} (hgd:o.guard=none) (s x:Operand)
  (ho:o.op=.call { callee:=.builtin .append,args:=#[s,x],argTypes:=#[151,151] })
  (base:Nat) (v:Value) (l:List (Nat × Nat × Nat)) (hs:a.eval s=v) (hown:ownN w base v l) (B m c:Nat) (A:Option Addr) (news:List (Nat × Nat × Nat)) (hx:a.eval x=.slice A m c) (hr:RdN w B A m news)
  (hb:l.length+m≤1099511627776) (hbase:base≤w.heap.size)
  (h:∀ v' w',ownN w' base v' (l ++ news)→w.grownBy w' v.ownBlock→Below base w w'→(v'.ownBlock=v.ownBlock∨v'.ownBlock=some w.heap.size)→wpList Tryz.prog ops Q rest (a.put o.dst v') w') :
  wpList Tryz.prog ops Q (o :: rest) a w:=by
 refine wpList_plain hgd fun K hK=>?_
 obtain ⟨v',w',hrun,h2,h3,h4,_⟩:=run_appendN w base o.type v l hown B m c A news hr hb hbase
 unfold Oper.wp execOp
 simp only [ho,resolve,invoke,builtin,Sem.run_bind,Sem.run_pure,Result.andThen_ok,List.map_toArray,List.map_cons,List.map_nil,hs,hx,hrun]
 exact hK _ _ (h v' w' h2 h3 ((Below.refl _ _).grown h3 hbase (fun k hk=>(World.ownsRow.lt hown k hk).1)) h4)
end Go.Proofs.YteoolehdomjkkaaGreat

/- flate: the document's runs. -/
namespace Go.Proofs.YteoolehdomjkkaaGreat
set_option linter.all false
open Go.RowKit
set_option maxRecDepth 100000 in
set_option maxHeartbeats 12800000 in
theorem runs5_any (B n c:Nat) (A:Option Addr) (ls:List Int) (w:World) (h:RdI w B A n ls) (hB:B≤w.heap.size) (hn:n≤1000) (h0:∀ x ∈ ls,0≤x) :
  Calls Tryz.prog 122 #[.slice A n c] w fun e w'=>∃ v',e=.returned v'∧ownN w' w.heap.size v' (runsP ls)∧Below w.heap.size w w':=by
 have HR:=Lib.hid h
 have hl:=h.len
 have HP0:=Lib.hid h0
 have HO0:=Lib.hid (ownN.nil_ w w.heap.size)
 have HB0:=Lib.hid (Below.refl w.heap.size w)
 clear h h0
 go_enter Tryz.func122,Tryz.ntmps122
 go_wp2_with fail
 go_loopw [4,3] (fun vi vl wr=>∃ (i f:Nat) (D:List Sgn),i≤n∧vi=.int .i64 i∧n≤f+i∧D.length≤i∧Hid (D ++ runsF f (ls.drop i)=runsP ls)∧Hid (ownN wr w.heap.size vl D)∧Hid (Below w.heap.size w wr)) (fun vi _ _=>n - (intOf vi).toNat)
 case atStart=>exact ⟨0,n,[],Nat.zero_le _,rfl,Nat.le_refl _,Nat.le_refl _,(show _=_ by unfold runsP;rw [hl];rfl),HO0,HB0⟩
 case round =>
  clear HO0 HB0
  obtain ⟨i,f,D,hin,rfl,hf,hDi,HE,HO,HB1⟩:=hrel
  obtain ⟨Av,nv,rfl,-⟩:=HO.out.form
  obtain ⟨wo,rfl⟩:∃ wo:World,wo=wr:=⟨_,rfl⟩
  by_cases hlt:i < n
  ·have hlti:(i:Int) < (n:Int):=by omega
   obtain ⟨g,rfl⟩:∃ g,f=g+1:=⟨f - 1,by omega⟩
   have hil:i < ls.length:=by omega
   obtain ⟨b,o,x,e0,hb,HX,e1⟩:=HR.out.one hlt
   subst e0
   have HXX:Hid (ls[i]=x):=(show _=_ by have:=HX.out;rw [List.getElem?_eq_getElem hil] at this;injection this)
   have HE2:=Lib.hid (HE.out)
   rw [runsF_at hil,HXX.out] at HE2
   have hx0':0≤x:=HP0.out x (List.mem_of_getElem? HX.out)
   clear HE
   go_wp2_with fail
   go_loopw [5] (fun vk wr=>∃ k:Nat,1≤k∧i+k≤n∧vk=.int .i64 k∧Hid (∀ j,i≤j→j < i+k→ls[j]?=some x)∧Hid (ownN wr w.heap.size (.slice Av D.length nv) D)∧Hid (Below w.heap.size w wr)) (fun vk _=>n - (intOf vk).toNat)
   case atStart=>exact ⟨1,Nat.le_refl _,by omega,rfl,(show ∀ j,_ from fun j a b=>(by have e:j=i:=(by omega);rw [e];exact HX.out)),HO,HB1⟩
   case round =>
    clear HO HB1
    obtain ⟨k,hk1,hkn,rfl,HS,HO,HB1⟩:=hrel
    have ei:wr.cell? ⟨b,o+i,none⟩=some (.int .i64 x):=(HB1.out.cell (p:=⟨b,o+i,none⟩) (by show b < _;omega)).trans e1
    have hw1:IntKind.i64.wrap ((i:Int)+(k:Int))=((i+k:Nat):Int):=by have:=wrap_i64_lt (i+k) (by omega);simpa using this
    by_cases hk:i+k < n
    ·obtain ⟨b2,o2,y,hA2,hb2,HY,e2⟩:=HR.out.one hk
     injection hA2 with hA2
     injection hA2 with hA2 hA3
     subst hA2 hA3
     have ek:wr.cell? ⟨b,o+(i+k),none⟩=some (.int .i64 y):=(HB1.out.cell (p:=⟨b,o+(i+k),none⟩) (by show b < _;omega)).trans e2
     obtain ⟨q,hq⟩:∃ q,i+k=q:=⟨_,rfl⟩
     have hr2:(i:Int)+(k:Int)=(q:Int):=by omega
     have hr3:(q:Int) < (n:Int):=by omega
     have hrn:q < n:=by omega
     rw [hq] at ek hw1
     clear e2
     by_cases hxy:y=x
     ·subst hxy
      have d1:(y == y)=true:=beq_self_eq_true _
      have HS1:Hid (∀ j,i≤j→j < i+(k+1)→ls[j]?=some y):=(show ∀ j,_ from fun j a b=>by
       by_cases e:j=i+k
       ·rw [e];exact HY.out
       ·exact HS.out j a (by omega))
      clear hq
      go_wp2_with fail
      go_quiet (fail)
      go_wp2_with fail
      go_roundw
      case rel=>exact ⟨k+1,by omega,by omega,by go_num,HS1,HO.out.drewN nq,bdrewN HB1.out _⟩
      case measure=>simp [intOf] <;> omega
     ·have d1:(y == x)=false:=beq_eq_false_iff_ne.2 hxy
      have HK:Hid (same x (ls.drop (i+1))=k - 1):=(show _=_ by
       have:=same_run (l:=ls) hil (k:=i+k) (by omega) (by omega) (fun j a b=>by rw [HXX.out];exact HS.out j a b) (by rw [HXX.out,HY.out];exact ne_opt hxy)
       rw [HXX.out] at this
       rw [this]
       omega)
      clear HY
      have HE3:Hid (D ++ ((if x=0 then zerosP k else othersP x.toNat k) ++ runsF g (ls.drop (i+k)))=runsP ls):=(show _=_ by have:=HE2.out;rw [HK.out,show k - 1+1=k by omega,show i+1+(k - 1)=i+k by omega] at this;exact this)
      obtain ⟨p,hp⟩:∃ p,q - 1=p:=⟨_,rfl⟩
      have hpi:(q:Int) - 1=(p:Int):=by omega
      have hpn:p < n:=by omega
      have hpn2:(p:Int) < (n:Int):=by omega
      have hiq:i < q:=by omega
      have hqn:q≤n:=by omega
      have hgq:n≤g+q:=by omega
      have hDq0:D.length+k≤q:=by omega
      obtain ⟨b5,o5,x5,hA5,hb5,HX5,e5⟩:=HR.out.one hpn
      injection hA5 with hA5
      injection hA5 with hA5 hA6
      subst hA5 hA6
      obtain rfl:x5=x:=by have:=HX5.out.symm.trans (HS.out p (by omega) (by omega));injection this
      rw [hq] at HE3
      obtain ⟨TL,hTL⟩:∃ TL,runsF g (ls.drop q)=TL:=⟨_,rfl⟩
      have HTL:=Lib.hid hTL
      rw [hTL] at HE3
      clear hTL HE2 HS HK HX5 hq hp
      go_wp2_with fail
      go_quiet (fail)
      have HOq:=Lib.hid (HO.out.drewN nq)
      have HBq:=Lib.hid (bdrewN HB1.out nq)
      have c5:(wr.drewN nq).cell? ⟨b,o+p,none⟩=some (.int .i64 x5):=(HBq.out.cell (p:=⟨b,o+p,none⟩) (by show b < _;omega)).trans e5
      clear HO HB1 e5 ei
      generalize wr.drewN nq=wq at *
      by_cases hx0:x5=0
      ·subst hx0
       rw [if_pos rfl,run_zero] at HE3
       have HE4:=HE3
       have HO3:=HOq
       have HB3:=HBq
       have hDq:=hDq0
       clear HE3 HOq HBq hDq0
       go_wp2_with fail
       go_loopw [5,3] (fun vn vl wr=>∃ (r:Nat) (D2:List Sgn),vn=.int .i64 r∧D2.length+r≤q∧Hid (D2 ++ (restF 0 r ++ TL)=runsP ls)∧Hid (ownN wr w.heap.size vl D2)∧Hid (Below w.heap.size w wr)) (fun vn _ _=>(intOf vn).toNat)
       case atStart=>exact ⟨_,_,rfl,hDq,HE4,HO3,HB3⟩
       case round =>
        clear HE4 HO3 HB3 hDq
        obtain ⟨r,D2,rfl,hDr,HE,HO,HB1⟩:=hrel
        obtain ⟨Av2,nv2,rfl,-⟩:=HO.out.form
        rcases Nat.eq_zero_or_pos r with rfl | hr0
        ·have hri:¬ ((0:Nat):Int) > 0:=by omega
         have HE9:Hid (D2 ++ TL=runsP ls):=(show _=_ by have:=HE.out;rw [rest_zero] at this;exact this)
         rw [← HTL.out] at HE9
         go_wp2_with fail
         go_roundw
         case rel=>exact ⟨q,g,D2,by omega,rfl,by omega,by omega,HE9,HO,HB1⟩
         case measure=>simp [intOf] <;> omega
        ·have hri:(r:Int) > 0:=by omega
         by_cases h11:11≤r
         ·have h11i:(r:Int) ≥ 11:=by omega
          have hR:=rest_18 h11
          by_cases h138:138 < r
          ·have h1i:(138:Int) < (r:Int):=by omega
           rw [Nat.min_eq_right (by omega)] at hR
           have HE2:Hid ((D2 ++ [(18,127,7)]) ++ (restF 0 (r - 138) ++ TL)=runsP ls):=(show _=_ by rw [← HE.out,hR,List.append_assoc];rfl)
           have hmm:(r:Int) - 138=((r - 138:Nat):Int):=by omega
           clear hR
           have hLn:(D2 ++ [(18,127,7)]).length=D2.length+1:=by simp
           go_wp2_with (at_builtin;go_must (refine wpList_appendN rfl (.tmp 69) (.tmp 73) rfl w.heap.size _ D2 rfl (ownN.alloc HO.out _) _ 1 1 _ [(18,127,7)] rfl (rd_oneN _ (18,127,7) _ _) (by omega) (by have:=HB1.out.size;rw [World.size_alloc];omega) ?_;intro v8 w8 ho8 hg8 hb8 hat8;obtain ⟨A8,c8,rfl,-⟩:=ho8.form;rw [hLn] at ho8 ⊢;have HB8:=Lib.hid ((HB1.out.alloc HB1.out.size _).trans hb8);have HO8:=Lib.hid ho8;clear ho8 hg8 hb8 hat8))
           go_roundw
           case rel=>exact ⟨r - 138,D2 ++ [(18,127,7)],by rw [← hmm],(by rw [List.length_append];simp;omega),HE2,HO8,HB8⟩
           case measure=>simp [intOf] <;> omega
          ·have h1i:¬ (138:Int) < (r:Int):=by omega
           rw [Nat.min_eq_left (by omega),Nat.sub_self] at hR
           obtain ⟨t,ht⟩:∃ t,r - 11=t:=⟨_,rfl⟩
           have hti:(r:Int) - 11=(t:Int):=by omega
           rw [ht] at hR
           have HE2:Hid ((D2 ++ [(18,t,7)]) ++ (restF 0 0 ++ TL)=runsP ls):=(show _=_ by rw [← HE.out,hR,List.append_assoc];rfl)
           clear hR ht
           have hLn:(D2 ++ [(18,t,7)]).length=D2.length+1:=by simp
           go_wp2_with (at_builtin;go_must (refine wpList_appendN rfl (.tmp 69) (.tmp 73) rfl w.heap.size _ D2 rfl (ownN.alloc HO.out _) _ 1 1 _ [(18,t,7)] rfl (rd_oneN _ (18,t,7) _ _) (by omega) (by have:=HB1.out.size;rw [World.size_alloc];omega) ?_;intro v8 w8 ho8 hg8 hb8 hat8;obtain ⟨A8,c8,rfl,-⟩:=ho8.form;rw [hLn] at ho8 ⊢;have HB8:=Lib.hid ((HB1.out.alloc HB1.out.size _).trans hb8);have HO8:=Lib.hid ho8;clear ho8 hg8 hb8 hat8))
           go_roundw
           case rel=>exact ⟨0,D2 ++ [(18,t,7)],(by go_num),(by rw [List.length_append];simp;omega),HE2,HO8,HB8⟩
           case measure=>simp [intOf] <;> omega
         ·have h11i:¬ (r:Int) ≥ 11:=by omega
          by_cases h3:3≤r
          ·have h3i:(r:Int) ≥ 3:=by omega
           have hR:=rest_17 h3 (by omega)
           obtain ⟨t,ht⟩:∃ t,r - 3=t:=⟨_,rfl⟩
           have hti:(r:Int) - 3=(t:Int):=by omega
           rw [ht] at hR
           have HE2:Hid ((D2 ++ [(17,t,3)]) ++ (restF 0 0 ++ TL)=runsP ls):=(show _=_ by rw [← HE.out,hR,rest_zero,List.append_assoc];rfl)
           clear hR ht
           have hLn:(D2 ++ [(17,t,3)]).length=D2.length+1:=by simp
           go_wp2_with (at_builtin;go_must (refine wpList_appendN rfl (.tmp 85) (.tmp 89) rfl w.heap.size _ D2 rfl (ownN.alloc HO.out _) _ 1 1 _ [(17,t,3)] rfl (rd_oneN _ (17,t,3) _ _) (by omega) (by have:=HB1.out.size;rw [World.size_alloc];omega) ?_;intro v8 w8 ho8 hg8 hb8 hat8;obtain ⟨A8,c8,rfl,-⟩:=ho8.form;rw [hLn] at ho8 ⊢;have HB8:=Lib.hid ((HB1.out.alloc HB1.out.size _).trans hb8);have HO8:=Lib.hid ho8;clear ho8 hg8 hb8 hat8))
           go_roundw
           case rel=>exact ⟨0,D2 ++ [(17,t,3)],(by go_num),(by rw [List.length_append];simp;omega),HE2,HO8,HB8⟩
           case measure=>simp [intOf] <;> omega
          ·have h3i:¬ (r:Int) ≥ 3:=by omega
           have hR:=rest_one (v:=0) hr0 (show r < 3 by omega)
           have hmm:(r:Int) - 1=((r - 1:Nat):Int):=by omega
           have HE2:Hid ((D2 ++ [(0,0,0)]) ++ (restF 0 (r - 1) ++ TL)=runsP ls):=(show _=_ by rw [← HE.out,hR,List.append_assoc];rfl)
           clear hR
           have hLn:(D2 ++ [(0,0,0)]).length=D2.length+1:=by simp
           go_wp2_with (at_builtin;go_must (refine wpList_appendN rfl (.tmp 53) (.tmp 56) rfl w.heap.size _ D2 rfl (ownN.alloc HO.out _) _ 1 1 _ [(0,0,0)] rfl (rd_oneN _ (0,0,0) _ _) (by omega) (by have:=HB1.out.size;rw [World.size_alloc];omega) ?_;intro v8 w8 ho8 hg8 hb8 hat8;obtain ⟨A8,c8,rfl,-⟩:=ho8.form;rw [hLn] at ho8 ⊢;have HB8:=Lib.hid ((HB1.out.alloc HB1.out.size _).trans hb8);have HO8:=Lib.hid ho8;clear ho8 hg8 hb8 hat8))
           go_roundw
           case rel=>exact ⟨r - 1,D2 ++ [(0,0,0)],by rw [← hmm],(by rw [List.length_append];simp;omega),HE2,HO8,HB8⟩
           case measure=>simp [intOf] <;> omega
      ·obtain ⟨X,rfl⟩:=Int.eq_ofNat_of_zero_le hx0'
       have hX1:0 < X:=by omega
       have hXi:(X:Int) > 0:=by omega
       have dX:((X:Int) == 0)=false:=beq_eq_false_iff_ne.2 hx0
       rw [if_neg hx0,show ((X:Int)).toNat=X from rfl,run_other k (by omega)] at HE3
       have HE4:Hid ((D ++ [(X,0,0)]) ++ (restF X (k - 1) ++ TL)=runsP ls):=(show _=_ by rw [← HE3.out,List.append_assoc];rfl)
       have hDq:(D ++ [(X,0,0)]).length+(k - 1)≤q:=by rw [List.length_append];simp;omega
       have hLn:(D ++ [(X,0,0)]).length=D.length+1:=by simp
       have hk1i:(k:Int) - 1=((k - 1:Nat):Int):=by omega
       clear HE3 hDq0
       go_wp2_with (at_builtin;go_must (refine wpList_appendN rfl (.tmp 44) (.tmp 47) rfl w.heap.size _ D rfl (ownN.alloc HOq.out _) _ 1 1 _ [(X,0,0)] rfl (rd_oneN _ (X,0,0) _ _) (by omega) (by have:=HBq.out.size;rw [World.size_alloc];omega) ?_;intro v8 w8 ho8 hg8 hb8 hat8;obtain ⟨A8,c8,rfl,-⟩:=ho8.form;rw [hLn] at ho8 ⊢;have HB3:=Lib.hid ((HBq.out.alloc HBq.out.size _).trans hb8);have HO3:=Lib.hid ho8;clear ho8 hg8 hb8 hat8 HOq HBq))
       go_loopw [5,3] (fun vn vl wr=>∃ (r:Nat) (D2:List Sgn),vn=.int .i64 r∧D2.length+r≤q∧Hid (D2 ++ (restF X r ++ TL)=runsP ls)∧Hid (ownN wr w.heap.size vl D2)∧Hid (Below w.heap.size w wr)) (fun vn _ _=>(intOf vn).toNat)
       case atStart=>exact ⟨_,_,rfl,hDq,HE4,HO3,HB3⟩
       case round =>
        clear HE4 HO3 HB3 hDq
        obtain ⟨r,D2,rfl,hDr,HE,HO,HB1⟩:=hrel
        obtain ⟨Av2,nv2,rfl,-⟩:=HO.out.form
        rcases Nat.eq_zero_or_pos r with rfl | hr0
        ·have hri:¬ ((0:Nat):Int) > 0:=by omega
         have HE9:Hid (D2 ++ TL=runsP ls):=(show _=_ by have:=HE.out;rw [rest_zero] at this;exact this)
         rw [← HTL.out] at HE9
         go_wp2_with fail
         go_roundw
         case rel=>exact ⟨q,g,D2,by omega,rfl,by omega,by omega,HE9,HO,HB1⟩
         case measure=>simp [intOf] <;> omega
        ·have hri:(r:Int) > 0:=by omega
         by_cases h3:3≤r
         ·have h3i:(r:Int) ≥ 3:=by omega
          have hR:=rest_16 (v:=X) (by omega) h3
          by_cases h6:6 < r
          ·have h1i:(6:Int) < (r:Int):=by omega
           rw [Nat.min_eq_right (by omega)] at hR
           have HE2:Hid ((D2 ++ [(16,3,2)]) ++ (restF X (r - 6) ++ TL)=runsP ls):=(show _=_ by rw [← HE.out,hR,List.append_assoc];rfl)
           have hmm:(r:Int) - 6=((r - 6:Nat):Int):=by omega
           clear hR
           have hLn:(D2 ++ [(16,3,2)]).length=D2.length+1:=by simp
           go_wp2_with (at_builtin;go_must (refine wpList_appendN rfl (.tmp 100) (.tmp 104) rfl w.heap.size _ D2 rfl (ownN.alloc HO.out _) _ 1 1 _ [(16,3,2)] rfl (rd_oneN _ (16,3,2) _ _) (by omega) (by have:=HB1.out.size;rw [World.size_alloc];omega) ?_;intro v8 w8 ho8 hg8 hb8 hat8;obtain ⟨A8,c8,rfl,-⟩:=ho8.form;rw [hLn] at ho8 ⊢;have HB8:=Lib.hid ((HB1.out.alloc HB1.out.size _).trans hb8);have HO8:=Lib.hid ho8;clear ho8 hg8 hb8 hat8))
           go_roundw
           case rel=>exact ⟨r - 6,D2 ++ [(16,3,2)],by rw [← hmm],(by rw [List.length_append];simp;omega),HE2,HO8,HB8⟩
           case measure=>simp [intOf] <;> omega
          ·have h1i:¬ (6:Int) < (r:Int):=by omega
           rw [Nat.min_eq_left (by omega),Nat.sub_self] at hR
           obtain ⟨t,ht⟩:∃ t,r - 3=t:=⟨_,rfl⟩
           have hti:(r:Int) - 3=(t:Int):=by omega
           rw [ht] at hR
           have HE2:Hid ((D2 ++ [(16,t,2)]) ++ (restF X 0 ++ TL)=runsP ls):=(show _=_ by rw [← HE.out,hR,List.append_assoc];rfl)
           clear hR ht
           have hLn:(D2 ++ [(16,t,2)]).length=D2.length+1:=by simp
           go_wp2_with (at_builtin;go_must (refine wpList_appendN rfl (.tmp 100) (.tmp 104) rfl w.heap.size _ D2 rfl (ownN.alloc HO.out _) _ 1 1 _ [(16,t,2)] rfl (rd_oneN _ (16,t,2) _ _) (by omega) (by have:=HB1.out.size;rw [World.size_alloc];omega) ?_;intro v8 w8 ho8 hg8 hb8 hat8;obtain ⟨A8,c8,rfl,-⟩:=ho8.form;rw [hLn] at ho8 ⊢;have HB8:=Lib.hid ((HB1.out.alloc HB1.out.size _).trans hb8);have HO8:=Lib.hid ho8;clear ho8 hg8 hb8 hat8))
           go_roundw
           case rel=>exact ⟨0,D2 ++ [(16,t,2)],(by go_num),(by rw [List.length_append];simp;omega),HE2,HO8,HB8⟩
           case measure=>simp [intOf] <;> omega
         ·have h3i:¬ (r:Int) ≥ 3:=by omega
          have hR:=rest_one (v:=X) hr0 (show r < 3 by omega)
          have hmm:(r:Int) - 1=((r - 1:Nat):Int):=by omega
          have HE2:Hid ((D2 ++ [(X,0,0)]) ++ (restF X (r - 1) ++ TL)=runsP ls):=(show _=_ by rw [← HE.out,hR,List.append_assoc];rfl)
          clear hR
          have hLn:(D2 ++ [(X,0,0)]).length=D2.length+1:=by simp
          go_wp2_with (at_builtin;go_must (refine wpList_appendN rfl (.tmp 53) (.tmp 56) rfl w.heap.size _ D2 rfl (ownN.alloc HO.out _) _ 1 1 _ [(X,0,0)] rfl (rd_oneN _ (X,0,0) _ _) (by omega) (by have:=HB1.out.size;rw [World.size_alloc];omega) ?_;intro v8 w8 ho8 hg8 hb8 hat8;obtain ⟨A8,c8,rfl,-⟩:=ho8.form;rw [hLn] at ho8 ⊢;have HB8:=Lib.hid ((HB1.out.alloc HB1.out.size _).trans hb8);have HO8:=Lib.hid ho8;clear ho8 hg8 hb8 hat8))
          go_roundw
          case rel=>exact ⟨r - 1,D2 ++ [(X,0,0)],by rw [← hmm],(by rw [List.length_append];simp;omega),HE2,HO8,HB8⟩
          case measure=>simp [intOf] <;> omega
    ·obtain ⟨q,hq⟩:∃ q,i+k=q:=⟨_,rfl⟩
     have hr2:(i:Int)+(k:Int)=(q:Int):=by omega
     have hr3:¬ (q:Int) < (n:Int):=by omega
     have hrn:¬ q < n:=by omega
     have hrn2:n≤q:=by omega
     have hr4:decide ((q:Int) < (n:Int))=false:=decide_eq_false hr3
     rw [hq] at hw1
     have HK:Hid (same x (ls.drop (i+1))=k - 1):=(show _=_ by
      have:=same_run (l:=ls) hil (k:=i+k) (by omega) (by omega) (fun j a b=>by rw [HXX.out];exact HS.out j a b) (by rw [HXX.out,List.getElem?_eq_none (by omega)];exact fun e=>by cases e)
      rw [HXX.out] at this
      rw [this]
      omega)
     have HE3:Hid (D ++ ((if x=0 then zerosP k else othersP x.toNat k) ++ runsF g (ls.drop (i+k)))=runsP ls):=(show _=_ by have:=HE2.out;rw [HK.out,show k - 1+1=k by omega,show i+1+(k - 1)=i+k by omega] at this;exact this)
     obtain ⟨p,hp⟩:∃ p,q - 1=p:=⟨_,rfl⟩
     have hpi:(q:Int) - 1=(p:Int):=by omega
     have hpn:p < n:=by omega
     have hpn2:(p:Int) < (n:Int):=by omega
     have hiq:i < q:=by omega
     have hqn:q≤n:=by omega
     have hgq:n≤g+q:=by omega
     have hDq0:D.length+k≤q:=by omega
     obtain ⟨b5,o5,x5,hA5,hb5,HX5,e5⟩:=HR.out.one hpn
     injection hA5 with hA5
     injection hA5 with hA5 hA6
     subst hA5 hA6
     obtain rfl:x5=x:=by have:=HX5.out.symm.trans (HS.out p (by omega) (by omega));injection this
     rw [hq] at HE3
     obtain ⟨TL,hTL⟩:∃ TL,runsF g (ls.drop q)=TL:=⟨_,rfl⟩
     have HTL:=Lib.hid hTL
     rw [hTL] at HE3
     clear hTL HE2 HS HK HX5 hq hp
     go_wp2_with fail
     go_quiet (fail)
     have HOq:=Lib.hid (HO.out.drewN nq)
     have HBq:=Lib.hid (bdrewN HB1.out nq)
     have c5:(wr.drewN nq).cell? ⟨b,o+p,none⟩=some (.int .i64 x5):=(HBq.out.cell (p:=⟨b,o+p,none⟩) (by show b < _;omega)).trans e5
     clear HO HB1 e5 ei
     generalize wr.drewN nq=wq at *
     by_cases hx0:x5=0
     ·subst hx0
      rw [if_pos rfl,run_zero] at HE3
      have HE4:=HE3
      have HO3:=HOq
      have HB3:=HBq
      have hDq:=hDq0
      clear HE3 HOq HBq hDq0
      go_wp2_with fail
      go_loopw [5,3] (fun vn vl wr=>∃ (r:Nat) (D2:List Sgn),vn=.int .i64 r∧D2.length+r≤q∧Hid (D2 ++ (restF 0 r ++ TL)=runsP ls)∧Hid (ownN wr w.heap.size vl D2)∧Hid (Below w.heap.size w wr)) (fun vn _ _=>(intOf vn).toNat)
      case atStart=>exact ⟨_,_,rfl,hDq,HE4,HO3,HB3⟩
      case round =>
       clear HE4 HO3 HB3 hDq
       obtain ⟨r,D2,rfl,hDr,HE,HO,HB1⟩:=hrel
       obtain ⟨Av2,nv2,rfl,-⟩:=HO.out.form
       rcases Nat.eq_zero_or_pos r with rfl | hr0
       ·have hri:¬ ((0:Nat):Int) > 0:=by omega
        have HE9:Hid (D2 ++ TL=runsP ls):=(show _=_ by have:=HE.out;rw [rest_zero] at this;exact this)
        rw [← HTL.out] at HE9
        go_wp2_with fail
        go_roundw
        case rel=>exact ⟨q,g,D2,by omega,rfl,by omega,by omega,HE9,HO,HB1⟩
        case measure=>simp [intOf] <;> omega
       ·have hri:(r:Int) > 0:=by omega
        by_cases h11:11≤r
        ·have h11i:(r:Int) ≥ 11:=by omega
         have hR:=rest_18 h11
         by_cases h138:138 < r
         ·have h1i:(138:Int) < (r:Int):=by omega
          rw [Nat.min_eq_right (by omega)] at hR
          have HE2:Hid ((D2 ++ [(18,127,7)]) ++ (restF 0 (r - 138) ++ TL)=runsP ls):=(show _=_ by rw [← HE.out,hR,List.append_assoc];rfl)
          have hmm:(r:Int) - 138=((r - 138:Nat):Int):=by omega
          clear hR
          have hLn:(D2 ++ [(18,127,7)]).length=D2.length+1:=by simp
          go_wp2_with (at_builtin;go_must (refine wpList_appendN rfl (.tmp 69) (.tmp 73) rfl w.heap.size _ D2 rfl (ownN.alloc HO.out _) _ 1 1 _ [(18,127,7)] rfl (rd_oneN _ (18,127,7) _ _) (by omega) (by have:=HB1.out.size;rw [World.size_alloc];omega) ?_;intro v8 w8 ho8 hg8 hb8 hat8;obtain ⟨A8,c8,rfl,-⟩:=ho8.form;rw [hLn] at ho8 ⊢;have HB8:=Lib.hid ((HB1.out.alloc HB1.out.size _).trans hb8);have HO8:=Lib.hid ho8;clear ho8 hg8 hb8 hat8))
          go_roundw
          case rel=>exact ⟨r - 138,D2 ++ [(18,127,7)],by rw [← hmm],(by rw [List.length_append];simp;omega),HE2,HO8,HB8⟩
          case measure=>simp [intOf] <;> omega
         ·have h1i:¬ (138:Int) < (r:Int):=by omega
          rw [Nat.min_eq_left (by omega),Nat.sub_self] at hR
          obtain ⟨t,ht⟩:∃ t,r - 11=t:=⟨_,rfl⟩
          have hti:(r:Int) - 11=(t:Int):=by omega
          rw [ht] at hR
          have HE2:Hid ((D2 ++ [(18,t,7)]) ++ (restF 0 0 ++ TL)=runsP ls):=(show _=_ by rw [← HE.out,hR,List.append_assoc];rfl)
          clear hR ht
          have hLn:(D2 ++ [(18,t,7)]).length=D2.length+1:=by simp
          go_wp2_with (at_builtin;go_must (refine wpList_appendN rfl (.tmp 69) (.tmp 73) rfl w.heap.size _ D2 rfl (ownN.alloc HO.out _) _ 1 1 _ [(18,t,7)] rfl (rd_oneN _ (18,t,7) _ _) (by omega) (by have:=HB1.out.size;rw [World.size_alloc];omega) ?_;intro v8 w8 ho8 hg8 hb8 hat8;obtain ⟨A8,c8,rfl,-⟩:=ho8.form;rw [hLn] at ho8 ⊢;have HB8:=Lib.hid ((HB1.out.alloc HB1.out.size _).trans hb8);have HO8:=Lib.hid ho8;clear ho8 hg8 hb8 hat8))
          go_roundw
          case rel=>exact ⟨0,D2 ++ [(18,t,7)],(by go_num),(by rw [List.length_append];simp;omega),HE2,HO8,HB8⟩
          case measure=>simp [intOf] <;> omega
        ·have h11i:¬ (r:Int) ≥ 11:=by omega
         by_cases h3:3≤r
         ·have h3i:(r:Int) ≥ 3:=by omega
          have hR:=rest_17 h3 (by omega)
          obtain ⟨t,ht⟩:∃ t,r - 3=t:=⟨_,rfl⟩
          have hti:(r:Int) - 3=(t:Int):=by omega
          rw [ht] at hR
          have HE2:Hid ((D2 ++ [(17,t,3)]) ++ (restF 0 0 ++ TL)=runsP ls):=(show _=_ by rw [← HE.out,hR,rest_zero,List.append_assoc];rfl)
          clear hR ht
          have hLn:(D2 ++ [(17,t,3)]).length=D2.length+1:=by simp
          go_wp2_with (at_builtin;go_must (refine wpList_appendN rfl (.tmp 85) (.tmp 89) rfl w.heap.size _ D2 rfl (ownN.alloc HO.out _) _ 1 1 _ [(17,t,3)] rfl (rd_oneN _ (17,t,3) _ _) (by omega) (by have:=HB1.out.size;rw [World.size_alloc];omega) ?_;intro v8 w8 ho8 hg8 hb8 hat8;obtain ⟨A8,c8,rfl,-⟩:=ho8.form;rw [hLn] at ho8 ⊢;have HB8:=Lib.hid ((HB1.out.alloc HB1.out.size _).trans hb8);have HO8:=Lib.hid ho8;clear ho8 hg8 hb8 hat8))
          go_roundw
          case rel=>exact ⟨0,D2 ++ [(17,t,3)],(by go_num),(by rw [List.length_append];simp;omega),HE2,HO8,HB8⟩
          case measure=>simp [intOf] <;> omega
         ·have h3i:¬ (r:Int) ≥ 3:=by omega
          have hR:=rest_one (v:=0) hr0 (show r < 3 by omega)
          have hmm:(r:Int) - 1=((r - 1:Nat):Int):=by omega
          have HE2:Hid ((D2 ++ [(0,0,0)]) ++ (restF 0 (r - 1) ++ TL)=runsP ls):=(show _=_ by rw [← HE.out,hR,List.append_assoc];rfl)
          clear hR
          have hLn:(D2 ++ [(0,0,0)]).length=D2.length+1:=by simp
          go_wp2_with (at_builtin;go_must (refine wpList_appendN rfl (.tmp 53) (.tmp 56) rfl w.heap.size _ D2 rfl (ownN.alloc HO.out _) _ 1 1 _ [(0,0,0)] rfl (rd_oneN _ (0,0,0) _ _) (by omega) (by have:=HB1.out.size;rw [World.size_alloc];omega) ?_;intro v8 w8 ho8 hg8 hb8 hat8;obtain ⟨A8,c8,rfl,-⟩:=ho8.form;rw [hLn] at ho8 ⊢;have HB8:=Lib.hid ((HB1.out.alloc HB1.out.size _).trans hb8);have HO8:=Lib.hid ho8;clear ho8 hg8 hb8 hat8))
          go_roundw
          case rel=>exact ⟨r - 1,D2 ++ [(0,0,0)],by rw [← hmm],(by rw [List.length_append];simp;omega),HE2,HO8,HB8⟩
          case measure=>simp [intOf] <;> omega
     ·obtain ⟨X,rfl⟩:=Int.eq_ofNat_of_zero_le hx0'
      have hX1:0 < X:=by omega
      have hXi:(X:Int) > 0:=by omega
      have dX:((X:Int) == 0)=false:=beq_eq_false_iff_ne.2 hx0
      rw [if_neg hx0,show ((X:Int)).toNat=X from rfl,run_other k (by omega)] at HE3
      have HE4:Hid ((D ++ [(X,0,0)]) ++ (restF X (k - 1) ++ TL)=runsP ls):=(show _=_ by rw [← HE3.out,List.append_assoc];rfl)
      have hDq:(D ++ [(X,0,0)]).length+(k - 1)≤q:=by rw [List.length_append];simp;omega
      have hLn:(D ++ [(X,0,0)]).length=D.length+1:=by simp
      have hk1i:(k:Int) - 1=((k - 1:Nat):Int):=by omega
      clear HE3 hDq0
      go_wp2_with (at_builtin;go_must (refine wpList_appendN rfl (.tmp 44) (.tmp 47) rfl w.heap.size _ D rfl (ownN.alloc HOq.out _) _ 1 1 _ [(X,0,0)] rfl (rd_oneN _ (X,0,0) _ _) (by omega) (by have:=HBq.out.size;rw [World.size_alloc];omega) ?_;intro v8 w8 ho8 hg8 hb8 hat8;obtain ⟨A8,c8,rfl,-⟩:=ho8.form;rw [hLn] at ho8 ⊢;have HB3:=Lib.hid ((HBq.out.alloc HBq.out.size _).trans hb8);have HO3:=Lib.hid ho8;clear ho8 hg8 hb8 hat8 HOq HBq))
      go_loopw [5,3] (fun vn vl wr=>∃ (r:Nat) (D2:List Sgn),vn=.int .i64 r∧D2.length+r≤q∧Hid (D2 ++ (restF X r ++ TL)=runsP ls)∧Hid (ownN wr w.heap.size vl D2)∧Hid (Below w.heap.size w wr)) (fun vn _ _=>(intOf vn).toNat)
      case atStart=>exact ⟨_,_,rfl,hDq,HE4,HO3,HB3⟩
      case round =>
       clear HE4 HO3 HB3 hDq
       obtain ⟨r,D2,rfl,hDr,HE,HO,HB1⟩:=hrel
       obtain ⟨Av2,nv2,rfl,-⟩:=HO.out.form
       rcases Nat.eq_zero_or_pos r with rfl | hr0
       ·have hri:¬ ((0:Nat):Int) > 0:=by omega
        have HE9:Hid (D2 ++ TL=runsP ls):=(show _=_ by have:=HE.out;rw [rest_zero] at this;exact this)
        rw [← HTL.out] at HE9
        go_wp2_with fail
        go_roundw
        case rel=>exact ⟨q,g,D2,by omega,rfl,by omega,by omega,HE9,HO,HB1⟩
        case measure=>simp [intOf] <;> omega
       ·have hri:(r:Int) > 0:=by omega
        by_cases h3:3≤r
        ·have h3i:(r:Int) ≥ 3:=by omega
         have hR:=rest_16 (v:=X) (by omega) h3
         by_cases h6:6 < r
         ·have h1i:(6:Int) < (r:Int):=by omega
          rw [Nat.min_eq_right (by omega)] at hR
          have HE2:Hid ((D2 ++ [(16,3,2)]) ++ (restF X (r - 6) ++ TL)=runsP ls):=(show _=_ by rw [← HE.out,hR,List.append_assoc];rfl)
          have hmm:(r:Int) - 6=((r - 6:Nat):Int):=by omega
          clear hR
          have hLn:(D2 ++ [(16,3,2)]).length=D2.length+1:=by simp
          go_wp2_with (at_builtin;go_must (refine wpList_appendN rfl (.tmp 100) (.tmp 104) rfl w.heap.size _ D2 rfl (ownN.alloc HO.out _) _ 1 1 _ [(16,3,2)] rfl (rd_oneN _ (16,3,2) _ _) (by omega) (by have:=HB1.out.size;rw [World.size_alloc];omega) ?_;intro v8 w8 ho8 hg8 hb8 hat8;obtain ⟨A8,c8,rfl,-⟩:=ho8.form;rw [hLn] at ho8 ⊢;have HB8:=Lib.hid ((HB1.out.alloc HB1.out.size _).trans hb8);have HO8:=Lib.hid ho8;clear ho8 hg8 hb8 hat8))
          go_roundw
          case rel=>exact ⟨r - 6,D2 ++ [(16,3,2)],by rw [← hmm],(by rw [List.length_append];simp;omega),HE2,HO8,HB8⟩
          case measure=>simp [intOf] <;> omega
         ·have h1i:¬ (6:Int) < (r:Int):=by omega
          rw [Nat.min_eq_left (by omega),Nat.sub_self] at hR
          obtain ⟨t,ht⟩:∃ t,r - 3=t:=⟨_,rfl⟩
          have hti:(r:Int) - 3=(t:Int):=by omega
          rw [ht] at hR
          have HE2:Hid ((D2 ++ [(16,t,2)]) ++ (restF X 0 ++ TL)=runsP ls):=(show _=_ by rw [← HE.out,hR,List.append_assoc];rfl)
          clear hR ht
          have hLn:(D2 ++ [(16,t,2)]).length=D2.length+1:=by simp
          go_wp2_with (at_builtin;go_must (refine wpList_appendN rfl (.tmp 100) (.tmp 104) rfl w.heap.size _ D2 rfl (ownN.alloc HO.out _) _ 1 1 _ [(16,t,2)] rfl (rd_oneN _ (16,t,2) _ _) (by omega) (by have:=HB1.out.size;rw [World.size_alloc];omega) ?_;intro v8 w8 ho8 hg8 hb8 hat8;obtain ⟨A8,c8,rfl,-⟩:=ho8.form;rw [hLn] at ho8 ⊢;have HB8:=Lib.hid ((HB1.out.alloc HB1.out.size _).trans hb8);have HO8:=Lib.hid ho8;clear ho8 hg8 hb8 hat8))
          go_roundw
          case rel=>exact ⟨0,D2 ++ [(16,t,2)],(by go_num),(by rw [List.length_append];simp;omega),HE2,HO8,HB8⟩
          case measure=>simp [intOf] <;> omega
        ·have h3i:¬ (r:Int) ≥ 3:=by omega
         have hR:=rest_one (v:=X) hr0 (show r < 3 by omega)
         have hmm:(r:Int) - 1=((r - 1:Nat):Int):=by omega
         have HE2:Hid ((D2 ++ [(X,0,0)]) ++ (restF X (r - 1) ++ TL)=runsP ls):=(show _=_ by rw [← HE.out,hR,List.append_assoc];rfl)
         clear hR
         have hLn:(D2 ++ [(X,0,0)]).length=D2.length+1:=by simp
         go_wp2_with (at_builtin;go_must (refine wpList_appendN rfl (.tmp 53) (.tmp 56) rfl w.heap.size _ D2 rfl (ownN.alloc HO.out _) _ 1 1 _ [(X,0,0)] rfl (rd_oneN _ (X,0,0) _ _) (by omega) (by have:=HB1.out.size;rw [World.size_alloc];omega) ?_;intro v8 w8 ho8 hg8 hb8 hat8;obtain ⟨A8,c8,rfl,-⟩:=ho8.form;rw [hLn] at ho8 ⊢;have HB8:=Lib.hid ((HB1.out.alloc HB1.out.size _).trans hb8);have HO8:=Lib.hid ho8;clear ho8 hg8 hb8 hat8))
         go_roundw
         case rel=>exact ⟨r - 1,D2 ++ [(X,0,0)],by rw [← hmm],(by rw [List.length_append];simp;omega),HE2,HO8,HB8⟩
         case measure=>simp [intOf] <;> omega
  ·obtain rfl:i=n:=by omega
   have hlti:¬ (i:Int) < (i:Int):=by omega
   have HE9:Hid (D=runsP ls):=(show _=_ by have:=HE.out;rw [runsF_end f (by omega),List.append_nil] at this;exact this)
   go_wp2_with fail
   go_ret
   exact ⟨_,rfl,(by rw [← HE9.out];exact HO.out),HB1.out⟩
end Go.Proofs.YteoolehdomjkkaaGreat
