/- XRunR XRun5 -/
import Derived.Test.YteoolehdomjkkaaGreatMe24
import Derived.Test.YteoolehdomjkkaaGreatMe45
namespace Go.Proofs.YteoolehdomjkkaaGreat
set_option linter.all false
theorem zerosF_fuel:∀ f n:Nat,n≤f→zerosF f n=zerosP n:=by
 intro f
 induction f using Nat.strongRecOn with
 | ind f ih =>
  intro n hn
  unfold zerosP
  by_cases h:11≤n
  ·obtain ⟨f',rfl⟩:∃ f',f=f'+1:=⟨f - 1,by omega⟩
   obtain ⟨n',rfl⟩:∃ n',n=n'+1:=⟨n - 1,by omega⟩
   rw [zerosF_big h,zerosF_big h]
   rw [ih f' (by omega) _ (by omega)]
   by_cases e:n'=f'
   ·subst e;rw [ih n' (by omega) _ (by omega)]
   ·rw [ih n' (by omega) _ (by omega)]
  ·rw [zerosF_small h,zerosF_small h]
theorem othersF_fuel (x:Nat):∀ f n:Nat,n≤f→othersF x f n=othersF x n n:=by
 intro f
 induction f using Nat.strongRecOn with
 | ind f ih =>
  intro n hn
  by_cases h:3≤n
  ·obtain ⟨f',rfl⟩:∃ f',f=f'+1:=⟨f - 1,by omega⟩
   obtain ⟨n',rfl⟩:∃ n',n=n'+1:=⟨n - 1,by omega⟩
   rw [othersF_big h,othersF_big h]
   rw [ih f' (by omega) _ (by omega),ih n' (by omega) _ (by omega)]
  ·rw [othersF_small h,othersF_small h]
/-- What is still to be written of a run of v. -/
def restF (v n:Nat):List Sgn:=if v=0 then zerosP n else othersF v n n
theorem rest_zero (v:Nat):restF v 0=[]:=by
 unfold restF
 split <;> rfl
theorem rest_18 {n:Nat} (h:11≤n):restF 0 n=(18,min n 138 - 11,7) :: restF 0 (n - min n 138):=by
 unfold restF
 rw [if_pos rfl,if_pos rfl]
 obtain ⟨n',rfl⟩:∃ n',n=n'+1:=⟨n - 1,by omega⟩
 show zerosF (n'+1) (n'+1)=_
 rw [zerosF_big h,zerosF_fuel n' _ (by omega)]
theorem rest_17 {n:Nat} (h:3≤n) (h2:n < 11):restF 0 n=[(17,n - 3,3)]:=by
 unfold restF
 rw [if_pos rfl]
 unfold zerosP
 rw [zerosF_small (by omega)]
 exact if_pos h
theorem rest_16 {v n:Nat} (hv:¬ v=0) (h:3≤n):restF v n=(16,min n 6 - 3,2) :: restF v (n - min n 6):=by
 unfold restF
 rw [if_neg hv,if_neg hv]
 obtain ⟨n',rfl⟩:∃ n',n=n'+1:=⟨n - 1,by omega⟩
 rw [othersF_big h,othersF_fuel v n' _ (by omega)]
theorem rest_one {v n:Nat} (h1:1≤n) (h:n < 3):restF v n=(v,0,0) :: restF v (n - 1):=by
 obtain ⟨n',rfl⟩:∃ n',n=n'+1:=⟨n - 1,by omega⟩
 unfold restF
 rw [show n'+1 - 1=n' from rfl]
 split
 ·rename_i hv
  subst hv
  unfold zerosP
  rw [zerosF_small (by omega),zerosF_small (by omega)]
  unfold zTail
  rw [if_neg (by omega),if_neg (by omega)]
  rfl
 ·rw [othersF_small (by omega),othersF_small (by omega)]
  rfl
theorem run_zero (n:Nat):zerosP n=restF 0 n:=by unfold restF;rw [if_pos rfl]
theorem run_other {x:Nat} (n:Nat) (h:¬ x=0):othersP x n=(x,0,0) :: restF x (n - 1):=by unfold restF;rw [if_neg h];rfl
end Go.Proofs.YteoolehdomjkkaaGreat

/- flate: the document's runs. -/
namespace Go.Proofs.YteoolehdomjkkaaGreat
set_option linter.all false
open Go.RowKit
set_option maxRecDepth 100000 in
set_option maxHeartbeats 12800000 in
theorem runs5_any (B n c:Nat) (A:Option Addr) (ls:List Int) (w:World) (h:RdI w B A n ls) (hB:B≤w.heap.size) (hn:n≤1000) (h0:∀ x ∈ ls,0≤x) :
  Calls Tryz.prog 122 #[.slice A n c] w fun e w'=>∃ v',e=.returned v'∧ownN w' w.heap.size v' (runsP ls)∧Below w.heap.size w w':=by
 have HR:=Lib.hid h
 have hl:=h.len
 have HP0:=Lib.hid h0
 have HO0:=Lib.hid (ownN.nil_ w w.heap.size)
 have HB0:=Lib.hid (Below.refl w.heap.size w)
 clear h h0
 go_enter Tryz.func122,Tryz.ntmps122
 go_wp2_with fail
 go_loopw [4,3] (fun vi vl wr=>∃ (i f:Nat) (D:List Sgn),i≤n∧vi=.int .i64 i∧n≤f+i∧D.length≤i∧Hid (D ++ runsF f (ls.drop i)=runsP ls)∧Hid (ownN wr w.heap.size vl D)∧Hid (Below w.heap.size w wr)) (fun vi _ _=>n - (intOf vi).toNat)
 case atStart=>exact ⟨0,n,[],Nat.zero_le _,rfl,Nat.le_refl _,Nat.le_refl _,(show _=_ by unfold runsP;rw [hl];rfl),HO0,HB0⟩
 case round =>
  clear HO0 HB0
  obtain ⟨i,f,D,hin,rfl,hf,hDi,HE,HO,HB1⟩:=hrel
  obtain ⟨Av,nv,rfl,-⟩:=HO.out.form
  obtain ⟨wo,rfl⟩:∃ wo:World,wo=wr:=⟨_,rfl⟩
  by_cases hlt:i < n
  ·have hlti:(i:Int) < (n:Int):=by omega
   obtain ⟨g,rfl⟩:∃ g,f=g+1:=⟨f - 1,by omega⟩
   have hil:i < ls.length:=by omega
   obtain ⟨b,o,x,e0,hb,HX,e1⟩:=HR.out.one hlt
   subst e0
   have HXX:Hid (ls[i]=x):=(show _=_ by have:=HX.out;rw [List.getElem?_eq_getElem hil] at this;injection this)
   have HE2:=Lib.hid (HE.out)
   rw [runsF_at hil,HXX.out] at HE2
   have hx0':0≤x:=HP0.out x (List.mem_of_getElem? HX.out)
   clear HE
   go_wp2_with fail
   go_loopw [5] (fun vk wr=>∃ k:Nat,1≤k∧i+k≤n∧vk=.int .i64 k∧Hid (∀ j,i≤j→j < i+k→ls[j]?=some x)∧Hid (ownN wr w.heap.size (.slice Av D.length nv) D)∧Hid (Below w.heap.size w wr)) (fun vk _=>n - (intOf vk).toNat)
   case atStart=>exact ⟨1,Nat.le_refl _,by omega,rfl,(show ∀ j,_ from fun j a b=>(by have e:j=i:=(by omega);rw [e];exact HX.out)),HO,HB1⟩
   case round =>
    clear HO HB1
    obtain ⟨k,hk1,hkn,rfl,HS,HO,HB1⟩:=hrel
    have ei:wr.cell? ⟨b,o+i,none⟩=some (.int .i64 x):=(HB1.out.cell (p:=⟨b,o+i,none⟩) (by show b < _;omega)).trans e1
    have hw1:IntKind.i64.wrap ((i:Int)+(k:Int))=((i+k:Nat):Int):=by have:=wrap_i64_lt (i+k) (by omega);simpa using this
    by_cases hk:i+k < n
    ·obtain ⟨b2,o2,y,hA2,hb2,HY,e2⟩:=HR.out.one hk
     injection hA2 with hA2
     injection hA2 with hA2 hA3
     subst hA2 hA3
     have ek:wr.cell? ⟨b,o+(i+k),none⟩=some (.int .i64 y):=(HB1.out.cell (p:=⟨b,o+(i+k),none⟩) (by show b < _;omega)).trans e2
     obtain ⟨q,hq⟩:∃ q,i+k=q:=⟨_,rfl⟩
     have hr2:(i:Int)+(k:Int)=(q:Int):=by omega
     have hr3:(q:Int) < (n:Int):=by omega
     have hrn:q < n:=by omega
     rw [hq] at ek hw1
     clear e2
     by_cases hxy:y=x
     ·subst hxy
      have d1:(y == y)=true:=beq_self_eq_true _
      have HS1:Hid (∀ j,i≤j→j < i+(k+1)→ls[j]?=some y):=(show ∀ j,_ from fun j a b=>by
       by_cases e:j=i+k
       ·rw [e];exact HY.out
       ·exact HS.out j a (by omega))
      clear hq
      go_wp2_with fail
      go_quiet (fail)
      go_wp2_with fail
      go_roundw
      case rel=>exact ⟨k+1,by omega,by omega,by go_num,HS1,HO.out.drewN nq,bdrewN HB1.out _⟩
      case measure=>simp [intOf] <;> omega
     ·have d1:(y == x)=false:=beq_eq_false_iff_ne.2 hxy
      have HK:Hid (same x (ls.drop (i+1))=k - 1):=(show _=_ by
       have:=same_run (l:=ls) hil (k:=i+k) (by omega) (by omega) (fun j a b=>by rw [HXX.out];exact HS.out j a b) (by rw [HXX.out,HY.out];exact ne_opt hxy)
       rw [HXX.out] at this
       rw [this]
       omega)
      clear HY
      have HE3:Hid (D ++ ((if x=0 then zerosP k else othersP x.toNat k) ++ runsF g (ls.drop (i+k)))=runsP ls):=(show _=_ by have:=HE2.out;rw [HK.out,show k - 1+1=k by omega,show i+1+(k - 1)=i+k by omega] at this;exact this)
      obtain ⟨p,hp⟩:∃ p,q - 1=p:=⟨_,rfl⟩
      have hpi:(q:Int) - 1=(p:Int):=by omega
      have hpn:p < n:=by omega
      have hpn2:(p:Int) < (n:Int):=by omega
      have hiq:i < q:=by omega
      have hqn:q≤n:=by omega
      have hgq:n≤g+q:=by omega
      have hDq0:D.length+k≤q:=by omega
      obtain ⟨b5,o5,x5,hA5,hb5,HX5,e5⟩:=HR.out.one hpn
      injection hA5 with hA5
      injection hA5 with hA5 hA6
      subst hA5 hA6
      obtain rfl:x5=x:=by have:=HX5.out.symm.trans (HS.out p (by omega) (by omega));injection this
      rw [hq] at HE3
      obtain ⟨TL,hTL⟩:∃ TL,runsF g (ls.drop q)=TL:=⟨_,rfl⟩
      have HTL:=Lib.hid hTL
      rw [hTL] at HE3
      clear hTL HE2 HS HK HX5 hq hp
      go_wp2_with fail
      go_quiet (fail)
      have HOq:=Lib.hid (HO.out.drewN nq)
      have HBq:=Lib.hid (bdrewN HB1.out nq)
      have c5:(wr.drewN nq).cell? ⟨b,o+p,none⟩=some (.int .i64 x5):=(HBq.out.cell (p:=⟨b,o+p,none⟩) (by show b < _;omega)).trans e5
      clear HO HB1 e5 ei
      generalize wr.drewN nq=wq at *
      by_cases hx0:x5=0
      ·subst hx0
       rw [if_pos rfl,run_zero] at HE3
       have HE4:=HE3
       have HO3:=HOq
       have HB3:=HBq
       have hDq:=hDq0
       clear HE3 HOq HBq hDq0
       go_wp2_with fail
       go_loopw [5,3] (fun vn vl wr=>∃ (r:Nat) (D2:List Sgn),vn=.int .i64 r∧D2.length+r≤q∧Hid (D2 ++ (restF 0 r ++ TL)=runsP ls)∧Hid (ownN wr w.heap.size vl D2)∧Hid (Below w.heap.size w wr)) (fun vn _ _=>(intOf vn).toNat)
       case atStart=>exact ⟨_,_,rfl,hDq,HE4,HO3,HB3⟩
       case round =>
        clear HE4 HO3 HB3 hDq
        obtain ⟨r,D2,rfl,hDr,HE,HO,HB1⟩:=hrel
        obtain ⟨Av2,nv2,rfl,-⟩:=HO.out.form
        rcases Nat.eq_zero_or_pos r with rfl | hr0
        ·have hri:¬ ((0:Nat):Int) > 0:=by omega
         have HE9:Hid (D2 ++ TL=runsP ls):=(show _=_ by have:=HE.out;rw [rest_zero] at this;exact this)
         rw [← HTL.out] at HE9
         go_wp2_with fail
         go_roundw
         case rel=>exact ⟨q,g,D2,by omega,rfl,by omega,by omega,HE9,HO,HB1⟩
         case measure=>simp [intOf] <;> omega
        ·have hri:(r:Int) > 0:=by omega
         by_cases h11:11≤r
         ·have h11i:(r:Int) ≥ 11:=by omega
          have hR:=rest_18 h11
          by_cases h138:138 < r
          ·have h1i:(138:Int) < (r:Int):=by omega
           rw [Nat.min_eq_right (by omega)] at hR
           have HE2:Hid ((D2 ++ [(18,127,7)]) ++ (restF 0 (r - 138) ++ TL)=runsP ls):=(show _=_ by rw [← HE.out,hR,List.append_assoc];rfl)
           have hmm:(r:Int) - 138=((r - 138:Nat):Int):=by omega
           clear hR
           have hLn:(D2 ++ [(18,127,7)]).length=D2.length+1:=by simp
           go_wp2_with (at_builtin;go_must (refine wpList_appendN rfl (.tmp 69) (.tmp 73) rfl w.heap.size _ D2 rfl (ownN.alloc HO.out _) _ 1 1 _ [(18,127,7)] rfl (rd_oneN _ (18,127,7) _ _) (by omega) (by have:=HB1.out.size;rw [World.size_alloc];omega) ?_;intro v8 w8 ho8 hg8 hb8 hat8;obtain ⟨A8,c8,rfl,-⟩:=ho8.form;rw [hLn] at ho8 ⊢;have HB8:=Lib.hid ((HB1.out.alloc HB1.out.size _).trans hb8);have HO8:=Lib.hid ho8;clear ho8 hg8 hb8 hat8))
           go_roundw
           case rel=>exact ⟨r - 138,D2 ++ [(18,127,7)],by rw [← hmm],(by rw [List.length_append];simp;omega),HE2,HO8,HB8⟩
           case measure=>simp [intOf] <;> omega
          ·have h1i:¬ (138:Int) < (r:Int):=by omega
           rw [Nat.min_eq_left (by omega),Nat.sub_self] at hR
           obtain ⟨t,ht⟩:∃ t,r - 11=t:=⟨_,rfl⟩
           have hti:(r:Int) - 11=(t:Int):=by omega
           rw [ht] at hR
           have HE2:Hid ((D2 ++ [(18,t,7)]) ++ (restF 0 0 ++ TL)=runsP ls):=(show _=_ by rw [← HE.out,hR,List.append_assoc];rfl)
           clear hR ht
           have hLn:(D2 ++ [(18,t,7)]).length=D2.length+1:=by simp
           go_wp2_with (at_builtin;go_must (refine wpList_appendN rfl (.tmp 69) (.tmp 73) rfl w.heap.size _ D2 rfl (ownN.alloc HO.out _) _ 1 1 _ [(18,t,7)] rfl (rd_oneN _ (18,t,7) _ _) (by omega) (by have:=HB1.out.size;rw [World.size_alloc];omega) ?_;intro v8 w8 ho8 hg8 hb8 hat8;obtain ⟨A8,c8,rfl,-⟩:=ho8.form;rw [hLn] at ho8 ⊢;have HB8:=Lib.hid ((HB1.out.alloc HB1.out.size _).trans hb8);have HO8:=Lib.hid ho8;clear ho8 hg8 hb8 hat8))
           go_roundw
           case rel=>exact ⟨0,D2 ++ [(18,t,7)],(by go_num),(by rw [List.length_append];simp;omega),HE2,HO8,HB8⟩
           case measure=>simp [intOf] <;> omega
         ·have h11i:¬ (r:Int) ≥ 11:=by omega
          by_cases h3:3≤r
          ·have h3i:(r:Int) ≥ 3:=by omega
           have hR:=rest_17 h3 (by omega)
           obtain ⟨t,ht⟩:∃ t,r - 3=t:=⟨_,rfl⟩
           have hti:(r:Int) - 3=(t:Int):=by omega
           rw [ht] at hR
           have HE2:Hid ((D2 ++ [(17,t,3)]) ++ (restF 0 0 ++ TL)=runsP ls):=(show _=_ by rw [← HE.out,hR,rest_zero,List.append_assoc];rfl)
           clear hR ht
           have hLn:(D2 ++ [(17,t,3)]).length=D2.length+1:=by simp
           go_wp2_with (at_builtin;go_must (refine wpList_appendN rfl (.tmp 85) (.tmp 89) rfl w.heap.size _ D2 rfl (ownN.alloc HO.out _) _ 1 1 _ [(17,t,3)] rfl (rd_oneN _ (17,t,3) _ _) (by omega) (by have:=HB1.out.size;rw [World.size_alloc];omega) ?_;intro v8 w8 ho8 hg8 hb8 hat8;obtain ⟨A8,c8,rfl,-⟩:=ho8.form;rw [hLn] at ho8 ⊢;have HB8:=Lib.hid ((HB1.out.alloc HB1.out.size _).trans hb8);have HO8:=Lib.hid ho8;clear ho8 hg8 hb8 hat8))
           go_roundw
           case rel=>exact ⟨0,D2 ++ [(17,t,3)],(by go_num),(by rw [List.length_append];simp;omega),HE2,HO8,HB8⟩
           case measure=>simp [intOf] <;> omega
          ·have h3i:¬ (r:Int) ≥ 3:=by omega
           have hR:=rest_one (v:=0) hr0 (show r < 3 by omega)
           have hmm:(r:Int) - 1=((r - 1:Nat):Int):=by omega
           have HE2:Hid ((D2 ++ [(0,0,0)]) ++ (restF 0 (r - 1) ++ TL)=runsP ls):=(show _=_ by rw [← HE.out,hR,List.append_assoc];rfl)
           clear hR
           have hLn:(D2 ++ [(0,0,0)]).length=D2.length+1:=by simp
           go_wp2_with (at_builtin;go_must (refine wpList_appendN rfl (.tmp 53) (.tmp 56) rfl w.heap.size _ D2 rfl (ownN.alloc HO.out _) _ 1 1 _ [(0,0,0)] rfl (rd_oneN _ (0,0,0) _ _) (by omega) (by have:=HB1.out.size;rw [World.size_alloc];omega) ?_;intro v8 w8 ho8 hg8 hb8 hat8;obtain ⟨A8,c8,rfl,-⟩:=ho8.form;rw [hLn] at ho8 ⊢;have HB8:=Lib.hid ((HB1.out.alloc HB1.out.size _).trans hb8);have HO8:=Lib.hid ho8;clear ho8 hg8 hb8 hat8))
           go_roundw
           case rel=>exact ⟨r - 1,D2 ++ [(0,0,0)],by rw [← hmm],(by rw [List.length_append];simp;omega),HE2,HO8,HB8⟩
           case measure=>simp [intOf] <;> omega
      ·obtain ⟨X,rfl⟩:=Int.eq_ofNat_of_zero_le hx0'
       have hX1:0 < X:=by omega
       have hXi:(X:Int) > 0:=by omega
       have dX:((X:Int) == 0)=false:=beq_eq_false_iff_ne.2 hx0
       rw [if_neg hx0,show ((X:Int)).toNat=X from rfl,run_other k (by omega)] at HE3
       have HE4:Hid ((D ++ [(X,0,0)]) ++ (restF X (k - 1) ++ TL)=runsP ls):=(show _=_ by rw [← HE3.out,List.append_assoc];rfl)
       have hDq:(D ++ [(X,0,0)]).length+(k - 1)≤q:=by rw [List.length_append];simp;omega
       have hLn:(D ++ [(X,0,0)]).length=D.length+1:=by simp
       have hk1i:(k:Int) - 1=((k - 1:Nat):Int):=by omega
       clear HE3 hDq0
       go_wp2_with (at_builtin;go_must (refine wpList_appendN rfl (.tmp 44) (.tmp 47) rfl w.heap.size _ D rfl (ownN.alloc HOq.out _) _ 1 1 _ [(X,0,0)] rfl (rd_oneN _ (X,0,0) _ _) (by omega) (by have:=HBq.out.size;rw [World.size_alloc];omega) ?_;intro v8 w8 ho8 hg8 hb8 hat8;obtain ⟨A8,c8,rfl,-⟩:=ho8.form;rw [hLn] at ho8 ⊢;have HB3:=Lib.hid ((HBq.out.alloc HBq.out.size _).trans hb8);have HO3:=Lib.hid ho8;clear ho8 hg8 hb8 hat8 HOq HBq))
       go_loopw [5,3] (fun vn vl wr=>∃ (r:Nat) (D2:List Sgn),vn=.int .i64 r∧D2.length+r≤q∧Hid (D2 ++ (restF X r ++ TL)=runsP ls)∧Hid (ownN wr w.heap.size vl D2)∧Hid (Below w.heap.size w wr)) (fun vn _ _=>(intOf vn).toNat)
       case atStart=>exact ⟨_,_,rfl,hDq,HE4,HO3,HB3⟩
       case round =>
        clear HE4 HO3 HB3 hDq
        obtain ⟨r,D2,rfl,hDr,HE,HO,HB1⟩:=hrel
        obtain ⟨Av2,nv2,rfl,-⟩:=HO.out.form
        rcases Nat.eq_zero_or_pos r with rfl | hr0
        ·have hri:¬ ((0:Nat):Int) > 0:=by omega
         have HE9:Hid (D2 ++ TL=runsP ls):=(show _=_ by have:=HE.out;rw [rest_zero] at this;exact this)
         rw [← HTL.out] at HE9
         go_wp2_with fail
         go_roundw
         case rel=>exact ⟨q,g,D2,by omega,rfl,by omega,by omega,HE9,HO,HB1⟩
         case measure=>simp [intOf] <;> omega
        ·have hri:(r:Int) > 0:=by omega
         by_cases h3:3≤r
         ·have h3i:(r:Int) ≥ 3:=by omega
          have hR:=rest_16 (v:=X) (by omega) h3
          by_cases h6:6 < r
          ·have h1i:(6:Int) < (r:Int):=by omega
           rw [Nat.min_eq_right (by omega)] at hR
           have HE2:Hid ((D2 ++ [(16,3,2)]) ++ (restF X (r - 6) ++ TL)=runsP ls):=(show _=_ by rw [← HE.out,hR,List.append_assoc];rfl)
           have hmm:(r:Int) - 6=((r - 6:Nat):Int):=by omega
           clear hR
           have hLn:(D2 ++ [(16,3,2)]).length=D2.length+1:=by simp
           go_wp2_with (at_builtin;go_must (refine wpList_appendN rfl (.tmp 100) (.tmp 104) rfl w.heap.size _ D2 rfl (ownN.alloc HO.out _) _ 1 1 _ [(16,3,2)] rfl (rd_oneN _ (16,3,2) _ _) (by omega) (by have:=HB1.out.size;rw [World.size_alloc];omega) ?_;intro v8 w8 ho8 hg8 hb8 hat8;obtain ⟨A8,c8,rfl,-⟩:=ho8.form;rw [hLn] at ho8 ⊢;have HB8:=Lib.hid ((HB1.out.alloc HB1.out.size _).trans hb8);have HO8:=Lib.hid ho8;clear ho8 hg8 hb8 hat8))
           go_roundw
           case rel=>exact ⟨r - 6,D2 ++ [(16,3,2)],by rw [← hmm],(by rw [List.length_append];simp;omega),HE2,HO8,HB8⟩
           case measure=>simp [intOf] <;> omega
          ·have h1i:¬ (6:Int) < (r:Int):=by omega
           rw [Nat.min_eq_left (by omega),Nat.sub_self] at hR
           obtain ⟨t,ht⟩:∃ t,r - 3=t:=⟨_,rfl⟩
           have hti:(r:Int) - 3=(t:Int):=by omega
           rw [ht] at hR
           have HE2:Hid ((D2 ++ [(16,t,2)]) ++ (restF X 0 ++ TL)=runsP ls):=(show _=_ by rw [← HE.out,hR,List.append_assoc];rfl)
           clear hR ht
           have hLn:(D2 ++ [(16,t,2)]).length=D2.length+1:=by simp
           go_wp2_with (at_builtin;go_must (refine wpList_appendN rfl (.tmp 100) (.tmp 104) rfl w.heap.size _ D2 rfl (ownN.alloc HO.out _) _ 1 1 _ [(16,t,2)] rfl (rd_oneN _ (16,t,2) _ _) (by omega) (by have:=HB1.out.size;rw [World.size_alloc];omega) ?_;intro v8 w8 ho8 hg8 hb8 hat8;obtain ⟨A8,c8,rfl,-⟩:=ho8.form;rw [hLn] at ho8 ⊢;have HB8:=Lib.hid ((HB1.out.alloc HB1.out.size _).trans hb8);have HO8:=Lib.hid ho8;clear ho8 hg8 hb8 hat8))
           go_roundw
           case rel=>exact ⟨0,D2 ++ [(16,t,2)],(by go_num),(by rw [List.length_append];simp;omega),HE2,HO8,HB8⟩
           case measure=>simp [intOf] <;> omega
         ·have h3i:¬ (r:Int) ≥ 3:=by omega
          have hR:=rest_one (v:=X) hr0 (show r < 3 by omega)
          have hmm:(r:Int) - 1=((r - 1:Nat):Int):=by omega
          have HE2:Hid ((D2 ++ [(X,0,0)]) ++ (restF X (r - 1) ++ TL)=runsP ls):=(show _=_ by rw [← HE.out,hR,List.append_assoc];rfl)
          clear hR
          have hLn:(D2 ++ [(X,0,0)]).length=D2.length+1:=by simp
          go_wp2_with (at_builtin;go_must (refine wpList_appendN rfl (.tmp 53) (.tmp 56) rfl w.heap.size _ D2 rfl (ownN.alloc HO.out _) _ 1 1 _ [(X,0,0)] rfl (rd_oneN _ (X,0,0) _ _) (by omega) (by have:=HB1.out.size;rw [World.size_alloc];omega) ?_;intro v8 w8 ho8 hg8 hb8 hat8;obtain ⟨A8,c8,rfl,-⟩:=ho8.form;rw [hLn] at ho8 ⊢;have HB8:=Lib.hid ((HB1.out.alloc HB1.out.size _).trans hb8);have HO8:=Lib.hid ho8;clear ho8 hg8 hb8 hat8))
          go_roundw
          case rel=>exact ⟨r - 1,D2 ++ [(X,0,0)],by rw [← hmm],(by rw [List.length_append];simp;omega),HE2,HO8,HB8⟩
          case measure=>simp [intOf] <;> omega
    ·obtain ⟨q,hq⟩:∃ q,i+k=q:=⟨_,rfl⟩
     have hr2:(i:Int)+(k:Int)=(q:Int):=by omega
     have hr3:¬ (q:Int) < (n:Int):=by omega
     have hrn:¬ q < n:=by omega
     have hrn2:n≤q:=by omega
     have hr4:decide ((q:Int) < (n:Int))=false:=decide_eq_false hr3
     rw [hq] at hw1
     have HK:Hid (same x (ls.drop (i+1))=k - 1):=(show _=_ by
      have:=same_run (l:=ls) hil (k:=i+k) (by omega) (by omega) (fun j a b=>by rw [HXX.out];exact HS.out j a b) (by rw [HXX.out,List.getElem?_eq_none (by omega)];exact fun e=>by cases e)
      rw [HXX.out] at this
      rw [this]
      omega)
     have HE3:Hid (D ++ ((if x=0 then zerosP k else othersP x.toNat k) ++ runsF g (ls.drop (i+k)))=runsP ls):=(show _=_ by have:=HE2.out;rw [HK.out,show k - 1+1=k by omega,show i+1+(k - 1)=i+k by omega] at this;exact this)
     obtain ⟨p,hp⟩:∃ p,q - 1=p:=⟨_,rfl⟩
     have hpi:(q:Int) - 1=(p:Int):=by omega
     have hpn:p < n:=by omega
     have hpn2:(p:Int) < (n:Int):=by omega
     have hiq:i < q:=by omega
     have hqn:q≤n:=by omega
     have hgq:n≤g+q:=by omega
     have hDq0:D.length+k≤q:=by omega
     obtain ⟨b5,o5,x5,hA5,hb5,HX5,e5⟩:=HR.out.one hpn
     injection hA5 with hA5
     injection hA5 with hA5 hA6
     subst hA5 hA6
     obtain rfl:x5=x:=by have:=HX5.out.symm.trans (HS.out p (by omega) (by omega));injection this
     rw [hq] at HE3
     obtain ⟨TL,hTL⟩:∃ TL,runsF g (ls.drop q)=TL:=⟨_,rfl⟩
     have HTL:=Lib.hid hTL
     rw [hTL] at HE3
     clear hTL HE2 HS HK HX5 hq hp
     go_wp2_with fail
     go_quiet (fail)
     have HOq:=Lib.hid (HO.out.drewN nq)
     have HBq:=Lib.hid (bdrewN HB1.out nq)
     have c5:(wr.drewN nq).cell? ⟨b,o+p,none⟩=some (.int .i64 x5):=(HBq.out.cell (p:=⟨b,o+p,none⟩) (by show b < _;omega)).trans e5
     clear HO HB1 e5 ei
     generalize wr.drewN nq=wq at *
     by_cases hx0:x5=0
     ·subst hx0
      rw [if_pos rfl,run_zero] at HE3
      have HE4:=HE3
      have HO3:=HOq
      have HB3:=HBq
      have hDq:=hDq0
      clear HE3 HOq HBq hDq0
      go_wp2_with fail
      go_loopw [5,3] (fun vn vl wr=>∃ (r:Nat) (D2:List Sgn),vn=.int .i64 r∧D2.length+r≤q∧Hid (D2 ++ (restF 0 r ++ TL)=runsP ls)∧Hid (ownN wr w.heap.size vl D2)∧Hid (Below w.heap.size w wr)) (fun vn _ _=>(intOf vn).toNat)
      case atStart=>exact ⟨_,_,rfl,hDq,HE4,HO3,HB3⟩
      case round =>
       clear HE4 HO3 HB3 hDq
       obtain ⟨r,D2,rfl,hDr,HE,HO,HB1⟩:=hrel
       obtain ⟨Av2,nv2,rfl,-⟩:=HO.out.form
       rcases Nat.eq_zero_or_pos r with rfl | hr0
       ·have hri:¬ ((0:Nat):Int) > 0:=by omega
        have HE9:Hid (D2 ++ TL=runsP ls):=(show _=_ by have:=HE.out;rw [rest_zero] at this;exact this)
        rw [← HTL.out] at HE9
        go_wp2_with fail
        go_roundw
        case rel=>exact ⟨q,g,D2,by omega,rfl,by omega,by omega,HE9,HO,HB1⟩
        case measure=>simp [intOf] <;> omega
       ·have hri:(r:Int) > 0:=by omega
        by_cases h11:11≤r
        ·have h11i:(r:Int) ≥ 11:=by omega
         have hR:=rest_18 h11
         by_cases h138:138 < r
         ·have h1i:(138:Int) < (r:Int):=by omega
          rw [Nat.min_eq_right (by omega)] at hR
          have HE2:Hid ((D2 ++ [(18,127,7)]) ++ (restF 0 (r - 138) ++ TL)=runsP ls):=(show _=_ by rw [← HE.out,hR,List.append_assoc];rfl)
          have hmm:(r:Int) - 138=((r - 138:Nat):Int):=by omega
          clear hR
          have hLn:(D2 ++ [(18,127,7)]).length=D2.length+1:=by simp
          go_wp2_with (at_builtin;go_must (refine wpList_appendN rfl (.tmp 69) (.tmp 73) rfl w.heap.size _ D2 rfl (ownN.alloc HO.out _) _ 1 1 _ [(18,127,7)] rfl (rd_oneN _ (18,127,7) _ _) (by omega) (by have:=HB1.out.size;rw [World.size_alloc];omega) ?_;intro v8 w8 ho8 hg8 hb8 hat8;obtain ⟨A8,c8,rfl,-⟩:=ho8.form;rw [hLn] at ho8 ⊢;have HB8:=Lib.hid ((HB1.out.alloc HB1.out.size _).trans hb8);have HO8:=Lib.hid ho8;clear ho8 hg8 hb8 hat8))
          go_roundw
          case rel=>exact ⟨r - 138,D2 ++ [(18,127,7)],by rw [← hmm],(by rw [List.length_append];simp;omega),HE2,HO8,HB8⟩
          case measure=>simp [intOf] <;> omega
         ·have h1i:¬ (138:Int) < (r:Int):=by omega
          rw [Nat.min_eq_left (by omega),Nat.sub_self] at hR
          obtain ⟨t,ht⟩:∃ t,r - 11=t:=⟨_,rfl⟩
          have hti:(r:Int) - 11=(t:Int):=by omega
          rw [ht] at hR
          have HE2:Hid ((D2 ++ [(18,t,7)]) ++ (restF 0 0 ++ TL)=runsP ls):=(show _=_ by rw [← HE.out,hR,List.append_assoc];rfl)
          clear hR ht
          have hLn:(D2 ++ [(18,t,7)]).length=D2.length+1:=by simp
          go_wp2_with (at_builtin;go_must (refine wpList_appendN rfl (.tmp 69) (.tmp 73) rfl w.heap.size _ D2 rfl (ownN.alloc HO.out _) _ 1 1 _ [(18,t,7)] rfl (rd_oneN _ (18,t,7) _ _) (by omega) (by have:=HB1.out.size;rw [World.size_alloc];omega) ?_;intro v8 w8 ho8 hg8 hb8 hat8;obtain ⟨A8,c8,rfl,-⟩:=ho8.form;rw [hLn] at ho8 ⊢;have HB8:=Lib.hid ((HB1.out.alloc HB1.out.size _).trans hb8);have HO8:=Lib.hid ho8;clear ho8 hg8 hb8 hat8))
          go_roundw
          case rel=>exact ⟨0,D2 ++ [(18,t,7)],(by go_num),(by rw [List.length_append];simp;omega),HE2,HO8,HB8⟩
          case measure=>simp [intOf] <;> omega
        ·have h11i:¬ (r:Int) ≥ 11:=by omega
         by_cases h3:3≤r
         ·have h3i:(r:Int) ≥ 3:=by omega
          have hR:=rest_17 h3 (by omega)
          obtain ⟨t,ht⟩:∃ t,r - 3=t:=⟨_,rfl⟩
          have hti:(r:Int) - 3=(t:Int):=by omega
          rw [ht] at hR
          have HE2:Hid ((D2 ++ [(17,t,3)]) ++ (restF 0 0 ++ TL)=runsP ls):=(show _=_ by rw [← HE.out,hR,rest_zero,List.append_assoc];rfl)
          clear hR ht
          have hLn:(D2 ++ [(17,t,3)]).length=D2.length+1:=by simp
          go_wp2_with (at_builtin;go_must (refine wpList_appendN rfl (.tmp 85) (.tmp 89) rfl w.heap.size _ D2 rfl (ownN.alloc HO.out _) _ 1 1 _ [(17,t,3)] rfl (rd_oneN _ (17,t,3) _ _) (by omega) (by have:=HB1.out.size;rw [World.size_alloc];omega) ?_;intro v8 w8 ho8 hg8 hb8 hat8;obtain ⟨A8,c8,rfl,-⟩:=ho8.form;rw [hLn] at ho8 ⊢;have HB8:=Lib.hid ((HB1.out.alloc HB1.out.size _).trans hb8);have HO8:=Lib.hid ho8;clear ho8 hg8 hb8 hat8))
          go_roundw
          case rel=>exact ⟨0,D2 ++ [(17,t,3)],(by go_num),(by rw [List.length_append];simp;omega),HE2,HO8,HB8⟩
          case measure=>simp [intOf] <;> omega
         ·have h3i:¬ (r:Int) ≥ 3:=by omega
          have hR:=rest_one (v:=0) hr0 (show r < 3 by omega)
          have hmm:(r:Int) - 1=((r - 1:Nat):Int):=by omega
          have HE2:Hid ((D2 ++ [(0,0,0)]) ++ (restF 0 (r - 1) ++ TL)=runsP ls):=(show _=_ by rw [← HE.out,hR,List.append_assoc];rfl)
          clear hR
          have hLn:(D2 ++ [(0,0,0)]).length=D2.length+1:=by simp
          go_wp2_with (at_builtin;go_must (refine wpList_appendN rfl (.tmp 53) (.tmp 56) rfl w.heap.size _ D2 rfl (ownN.alloc HO.out _) _ 1 1 _ [(0,0,0)] rfl (rd_oneN _ (0,0,0) _ _) (by omega) (by have:=HB1.out.size;rw [World.size_alloc];omega) ?_;intro v8 w8 ho8 hg8 hb8 hat8;obtain ⟨A8,c8,rfl,-⟩:=ho8.form;rw [hLn] at ho8 ⊢;have HB8:=Lib.hid ((HB1.out.alloc HB1.out.size _).trans hb8);have HO8:=Lib.hid ho8;clear ho8 hg8 hb8 hat8))
          go_roundw
          case rel=>exact ⟨r - 1,D2 ++ [(0,0,0)],by rw [← hmm],(by rw [List.length_append];simp;omega),HE2,HO8,HB8⟩
          case measure=>simp [intOf] <;> omega
     ·obtain ⟨X,rfl⟩:=Int.eq_ofNat_of_zero_le hx0'
      have hX1:0 < X:=by omega
      have hXi:(X:Int) > 0:=by omega
      have dX:((X:Int) == 0)=false:=beq_eq_false_iff_ne.2 hx0
      rw [if_neg hx0,show ((X:Int)).toNat=X from rfl,run_other k (by omega)] at HE3
      have HE4:Hid ((D ++ [(X,0,0)]) ++ (restF X (k - 1) ++ TL)=runsP ls):=(show _=_ by rw [← HE3.out,List.append_assoc];rfl)
      have hDq:(D ++ [(X,0,0)]).length+(k - 1)≤q:=by rw [List.length_append];simp;omega
      have hLn:(D ++ [(X,0,0)]).length=D.length+1:=by simp
      have hk1i:(k:Int) - 1=((k - 1:Nat):Int):=by omega
      clear HE3 hDq0
      go_wp2_with (at_builtin;go_must (refine wpList_appendN rfl (.tmp 44) (.tmp 47) rfl w.heap.size _ D rfl (ownN.alloc HOq.out _) _ 1 1 _ [(X,0,0)] rfl (rd_oneN _ (X,0,0) _ _) (by omega) (by have:=HBq.out.size;rw [World.size_alloc];omega) ?_;intro v8 w8 ho8 hg8 hb8 hat8;obtain ⟨A8,c8,rfl,-⟩:=ho8.form;rw [hLn] at ho8 ⊢;have HB3:=Lib.hid ((HBq.out.alloc HBq.out.size _).trans hb8);have HO3:=Lib.hid ho8;clear ho8 hg8 hb8 hat8 HOq HBq))
      go_loopw [5,3] (fun vn vl wr=>∃ (r:Nat) (D2:List Sgn),vn=.int .i64 r∧D2.length+r≤q∧Hid (D2 ++ (restF X r ++ TL)=runsP ls)∧Hid (ownN wr w.heap.size vl D2)∧Hid (Below w.heap.size w wr)) (fun vn _ _=>(intOf vn).toNat)
      case atStart=>exact ⟨_,_,rfl,hDq,HE4,HO3,HB3⟩
      case round =>
       clear HE4 HO3 HB3 hDq
       obtain ⟨r,D2,rfl,hDr,HE,HO,HB1⟩:=hrel
       obtain ⟨Av2,nv2,rfl,-⟩:=HO.out.form
       rcases Nat.eq_zero_or_pos r with rfl | hr0
       ·have hri:¬ ((0:Nat):Int) > 0:=by omega
        have HE9:Hid (D2 ++ TL=runsP ls):=(show _=_ by have:=HE.out;rw [rest_zero] at this;exact this)
        rw [← HTL.out] at HE9
        go_wp2_with fail
        go_roundw
        case rel=>exact ⟨q,g,D2,by omega,rfl,by omega,by omega,HE9,HO,HB1⟩
        case measure=>simp [intOf] <;> omega
       ·have hri:(r:Int) > 0:=by omega
        by_cases h3:3≤r
        ·have h3i:(r:Int) ≥ 3:=by omega
         have hR:=rest_16 (v:=X) (by omega) h3
         by_cases h6:6 < r
         ·have h1i:(6:Int) < (r:Int):=by omega
          rw [Nat.min_eq_right (by omega)] at hR
          have HE2:Hid ((D2 ++ [(16,3,2)]) ++ (restF X (r - 6) ++ TL)=runsP ls):=(show _=_ by rw [← HE.out,hR,List.append_assoc];rfl)
          have hmm:(r:Int) - 6=((r - 6:Nat):Int):=by omega
          clear hR
          have hLn:(D2 ++ [(16,3,2)]).length=D2.length+1:=by simp
          go_wp2_with (at_builtin;go_must (refine wpList_appendN rfl (.tmp 100) (.tmp 104) rfl w.heap.size _ D2 rfl (ownN.alloc HO.out _) _ 1 1 _ [(16,3,2)] rfl (rd_oneN _ (16,3,2) _ _) (by omega) (by have:=HB1.out.size;rw [World.size_alloc];omega) ?_;intro v8 w8 ho8 hg8 hb8 hat8;obtain ⟨A8,c8,rfl,-⟩:=ho8.form;rw [hLn] at ho8 ⊢;have HB8:=Lib.hid ((HB1.out.alloc HB1.out.size _).trans hb8);have HO8:=Lib.hid ho8;clear ho8 hg8 hb8 hat8))
          go_roundw
          case rel=>exact ⟨r - 6,D2 ++ [(16,3,2)],by rw [← hmm],(by rw [List.length_append];simp;omega),HE2,HO8,HB8⟩
          case measure=>simp [intOf] <;> omega
         ·have h1i:¬ (6:Int) < (r:Int):=by omega
          rw [Nat.min_eq_left (by omega),Nat.sub_self] at hR
          obtain ⟨t,ht⟩:∃ t,r - 3=t:=⟨_,rfl⟩
          have hti:(r:Int) - 3=(t:Int):=by omega
          rw [ht] at hR
          have HE2:Hid ((D2 ++ [(16,t,2)]) ++ (restF X 0 ++ TL)=runsP ls):=(show _=_ by rw [← HE.out,hR,List.append_assoc];rfl)
          clear hR ht
          have hLn:(D2 ++ [(16,t,2)]).length=D2.length+1:=by simp
          go_wp2_with (at_builtin;go_must (refine wpList_appendN rfl (.tmp 100) (.tmp 104) rfl w.heap.size _ D2 rfl (ownN.alloc HO.out _) _ 1 1 _ [(16,t,2)] rfl (rd_oneN _ (16,t,2) _ _) (by omega) (by have:=HB1.out.size;rw [World.size_alloc];omega) ?_;intro v8 w8 ho8 hg8 hb8 hat8;obtain ⟨A8,c8,rfl,-⟩:=ho8.form;rw [hLn] at ho8 ⊢;have HB8:=Lib.hid ((HB1.out.alloc HB1.out.size _).trans hb8);have HO8:=Lib.hid ho8;clear ho8 hg8 hb8 hat8))
          go_roundw
          case rel=>exact ⟨0,D2 ++ [(16,t,2)],(by go_num),(by rw [List.length_append];simp;omega),HE2,HO8,HB8⟩
          case measure=>simp [intOf] <;> omega
        ·have h3i:¬ (r:Int) ≥ 3:=by omega
         have hR:=rest_one (v:=X) hr0 (show r < 3 by omega)
         have hmm:(r:Int) - 1=((r - 1:Nat):Int):=by omega
         have HE2:Hid ((D2 ++ [(X,0,0)]) ++ (restF X (r - 1) ++ TL)=runsP ls):=(show _=_ by rw [← HE.out,hR,List.append_assoc];rfl)
         clear hR
         have hLn:(D2 ++ [(X,0,0)]).length=D2.length+1:=by simp
         go_wp2_with (at_builtin;go_must (refine wpList_appendN rfl (.tmp 53) (.tmp 56) rfl w.heap.size _ D2 rfl (ownN.alloc HO.out _) _ 1 1 _ [(X,0,0)] rfl (rd_oneN _ (X,0,0) _ _) (by omega) (by have:=HB1.out.size;rw [World.size_alloc];omega) ?_;intro v8 w8 ho8 hg8 hb8 hat8;obtain ⟨A8,c8,rfl,-⟩:=ho8.form;rw [hLn] at ho8 ⊢;have HB8:=Lib.hid ((HB1.out.alloc HB1.out.size _).trans hb8);have HO8:=Lib.hid ho8;clear ho8 hg8 hb8 hat8))
         go_roundw
         case rel=>exact ⟨r - 1,D2 ++ [(X,0,0)],by rw [← hmm],(by rw [List.length_append];simp;omega),HE2,HO8,HB8⟩
         case measure=>simp [intOf] <;> omega
  ·obtain rfl:i=n:=by omega
   have hlti:¬ (i:Int) < (i:Int):=by omega
   have HE9:Hid (D=runsP ls):=(show _=_ by have:=HE.out;rw [runsF_end f (by omega),List.append_nil] at this;exact this)
   go_wp2_with fail
   go_ret
   exact ⟨_,rfl,(by rw [← HE9.out];exact HO.out),HB1.out⟩
end Go.Proofs.YteoolehdomjkkaaGreat

