/- XRd9 XRd10 XRd6 XRd11 -/
import Derived.Test.YtebbdifhiihfkaaGreatDoorMh34
import Derived.Test.YtebbdifhiihfkaaGreatDoorMh35
import Derived.Test.YtebbdifhiihfkaaGreatDoorMh26
import Derived.Deep.RegionHeld3
namespace Go.Proofs.YtebbdifhiihfkaaGreatDoor
set_option linter.all false
open Go.RowKit
def errOf (w:World) (r:Nat):Int:=match w.cell? ⟨r,3,none⟩ with
 | some (.int _ e)=>e
 | _=>0
theorem errOf_eq {w:World} {r:Nat} {e:Int} (h:w.cell? ⟨r,3,none⟩=some (.int .i64 e)):errOf w r=e:=by unfold errOf;rw [h]
def lenV (v:Value):Nat:=match v with
 | .slice _ n _=>n
 | _=>0
def lmeasG (all r:Nat) (v:Value) (w:World):Nat:=if errOf w r=0 then all+1 - lenV v else 0
section
variable (r g n c : Nat) (A : Option Addr) (bs : List UInt8) (most : Int) (vo : Value) (s : RS) (w : World)
set_option maxRecDepth 100000 in
theorem rlist_err (dv:Value) (all:Nat) (h:FS w r g A n c bs most vo s) (he:¬ s.e=0) :
  Calls Tryz.prog 132 #[.pointer (some ⟨r,0,none⟩),dv,.int .i64 (all:Int)] w fun e w'=>e=.returned (.slice none 0 0)∧w=w':=by
 have c3:=(FR.arr h).cell (k:=3) rfl
 have d1:(s.e == 0)=false:=beq_eq_false_iff_ne.2 he
 clear h
 go_enter Tryz.func132,Tryz.ntmps132
 go_wp2_with fail
 go_loopw [7] (fun v7 wr=>v7=.slice none 0 0∧wr=w) (fun _ _=>0)
 case atStart=>exact ⟨rfl,rfl⟩
 case round =>
  obtain ⟨rfl,rfl⟩:=hrel
  by_cases ha:0 < all
  ·have hai:(0:Int) < (all:Int):=by omega
   go_wp2_with fail
   go_ret
   exact ⟨rfl,rfl⟩
  ·have hai:¬ (0:Int) < (all:Int):=by omega
   go_wp2_with fail
   go_ret
   exact ⟨rfl,rfl⟩
set_option maxRecDepth 100000 in
set_option maxHeartbeats 6400000 in
theorem rlist_any (gd:Nat) (ls:List Int) (all f:Nat) (h:FS w r g A n c bs most vo s) (hd:DK w r g vo gd ls) (hok:OkL ls) (hall:all≤1000) (hf:all+1≤f) :
  Calls Tryz.prog 132 #[.pointer (some ⟨r,0,none⟩),.pointer (some ⟨gd,0,none⟩),.int .i64 (all:Int)] w fun e w'=>∃ lv,e=.returned lv∧FS w' r g A n c bs most vo (listF bs ls all f [] s).2∧ownI w' w.heap.size lv (listF bs ls all f [] s).1∧(listF bs ls all f [] s).1.length≤all∧RFr w w' r g vo vo:=by
 have H:=Lib.hid h
 have HDK:=Lib.hid hd
 have HOK:=Lib.hid hok
 have hrw:=(FR.arr h).lt
 have hgr:=FR.gr h
 have HVO:Hid (∀ k,vo.ownBlock=some k→k < w.heap.size):=(show ∀ k,_ from fun k hk=>(World.ownsRow.lt (FR.own h) k hk).2)
 have HR0:=Lib.hid (RFr.refl w r g vo)
 have HL0:=Lib.hid (ownI.nil_ w w.heap.size)
 obtain ⟨R,hR⟩:∃ R,listF bs ls all f [] s=R:=⟨_,rfl⟩
 rw [hR]
 have HE0:=Lib.hid hR
 have HFU:Hid (s.e=0→all+1≤([]:List Int).length+f):=(show _→_ from fun _=>by simp;omega)
 clear h hd hok hf hR
 go_enter Tryz.func132,Tryz.ntmps132
 go_wp2_with fail
 go_loopw [7] (fun v7 wr=>∃ (l:List Int) (cur:RS) (f:Nat),l.length≤all∧Hid (FS wr r g A n c bs most vo cur)∧Hid (RFr w wr r g vo vo)∧Hid (ownI wr w.heap.size v7 l)∧Hid (listF bs ls all f l cur=R)∧Hid (cur.e=0→all+1≤l.length+f)) (fun v7 wr=>lmeasG all r v7 wr)
 case atStart=>exact ⟨[],s,f,Nat.zero_le _,H,HR0,HL0,HE0,HFU⟩
 case round =>
  clear H HR0 HL0 HE0 HFU
  obtain ⟨l,cur,f,hla,HF,HR,HL,HE,HFU⟩:=hrel
  have e3:=(FR.arr HF.out).cell (k:=3) rfl
  have herr:=errOf_eq e3
  obtain ⟨Al,cl,rfl,-,-,-⟩:=HL.out.form
  by_cases hlt:l.length < all
  ·have hlti:(l.length:Int) < (all:Int):=by omega
   by_cases he:cur.e=0
   ·have d1:(cur.e == 0)=true:=by rw [he];rfl
    obtain ⟨f,rfl⟩:∃ f',f=f'+1:=⟨f - 1,by have:=HFU.out he;omega⟩
    have hfu:=HFU.out he
    have HM0:Hid (lmeasG all r (.slice Al l.length cl) wr=all+1 - l.length):=(show _=_ by unfold lmeasG;rw [herr,if_pos he];rfl)
    have HN:=Lib.hid (rnext_any r g n c A bs most vo cur wr gd ls HF.out (HDK.out.fr HR.out) HOK.out.1 HOK.out.2.1 HOK.out.2.2)
    have HST:=Lib.hid (HE.out)
    rw [listF,if_pos ⟨hlt,he⟩] at HST
    obtain ⟨q,hq1,hq2,hq3⟩:=nextP_val bs ls cur
    have hq300:q≤300:=by have:=HOK.out.2.2;omega
    rw [hq1] at HN HST
    clear hq1 hq2 hq3 HE HFU
    generalize (nextP bs ls cur).2=t1 at *
    by_cases ht:t1.e=0
    ·have d2:(t1.e == 0)=true:=by rw [ht];rfl
     have d2b:(t1.e != 0)=false:=by rw [ht];rfl
     rw [if_pos ht] at HST
     by_cases h16:q < 16
     ·have h16i:(q:Int) < 16:=by omega
      rw [if_pos h16i] at HST
      have HLN:Hid ((l ++ [(q:Int)]).length=l.length+1):=(show _=_ by simp)
      have hq9:l.length+1≤1099511627776:=by omega
      go_wp2_with (first
       | (go_at_call 158;(with_reducible refine HN.out.mono ?_);go_must (rintro e w5 ⟨rfl,hf5,hr5⟩;have e53:=(FR.arr hf5).cell (k:=3) rfl;have HR5:=Lib.hid (HR.out.trans hr5);have HL5:Hid (ownI w5 w.heap.size (.slice Al l.length cl) l):=(show ownI _ _ _ _ from ownI.rfr HL.out hr5 hrw (by omega) (fun k hk hk2=>by have h1:=HVO.out k hk;have h2:=(World.ownsRow.lt HL.out k hk2).1;omega));have HLA:=Lib.hid (ownI.alloc HL5.out (.cells #[Value.int .i64 (q:Int)] 3));have HFA:=Lib.hid (FR.later hf5 ((Below.refl w5.heap.size w5).alloc (Nat.le_refl _) (.cells #[Value.int .i64 (q:Int)] 3)));have HRA:=Lib.hid (HR5.out.allocd (.cells #[Value.int .i64 (q:Int)] 3));have hqs:w.heap.size≤(w5.alloc (.cells #[Value.int .i64 (q:Int)] 3)).heap.size:=HRA.out.size;have HLO:Hid (∀ k,(Value.slice Al l.length cl).ownBlock=some k→w.heap.size≤k):=(show ∀ k,_ from fun k hk=>(World.ownsRow.lt HL5.out k hk).1);clear hf5 hr5))
       | (at_builtin;go_must (refine wpList_appendI rfl (.tmp 39) (.tmp 41) rfl w.heap.size _ l rfl HLA.out (w5.heap.size+1) 1 1 (some ⟨w5.heap.size,0,none⟩) [(q:Int)] rfl (rd_oneI w5 (q:Int)) hq9 hqs ?_;intro v6 w6 ho6 hg6 hb6 ha6;obtain ⟨A6,c6,rfl,-,-,-⟩:=ho6.form;rw [HLN.out] at ho6;have HL6:=Lib.hid ho6;have HF6:=Lib.hid (FR.side HFA.out hrw HVO.out HLO.out hg6);have HR6:=Lib.hid (RFr.side (l:=l) HRA.out HLO.out hg6);clear ho6 hg6 hb6 ha6)))
      have e63:=(FR.arr HF6.out).cell (k:=3) rfl
      have herr6:=errOf_eq e63
      have HF6:Hid (FS w6 r g A n c bs most vo t1):=HF6
      have HFU2:Hid (t1.e=0→all+1≤(l ++ [(q:Int)]).length+f):=(show _→_ from fun _=>by rw [HLN.out];omega)
      go_roundw
      case rel=>exact ⟨l ++ [(q:Int)],t1,f,by rw [HLN.out];omega,HF6,HR6,HL6,HST,HFU2⟩
      case measure =>
       rw [HM0.out]
       unfold lmeasG
       rw [herr6,if_pos ht]
       show all+1 - (l.length+1) < _
       omega
     ·have h16i:¬ (q:Int) < 16:=by omega
      rw [if_neg h16i] at HST
      by_cases hq16:q=16
      ·subst hq16
       rw [if_pos (show ((16:Nat):Int)=16 from rfl)] at HST
       by_cases hl0:l.length=0
       ·rw [if_pos hl0] at HST
        have hl0i:(l.length:Int)=0:=by omega
        have hl0b:((l.length:Int) == 0)=true:=by rw [hl0];rfl
        have HFL:=Lib.hid (fun w5 (h:FS w5 r g A n c bs most vo t1)=>rfail_any r g n c A bs most vo t1 w5 4 h)
        have hfe:(t1.fail 4).e=4:=by unfold RS.fail;rw [if_pos ht]
        have HS2:Hid (listF bs ls all f l (t1.fail 4)=R):=(show _=_ by rw [← HST.out,listF_stop (fun h=>by rw [hfe] at h;exact absurd h.2 (by decide))])
        have HFU2:Hid ((t1.fail 4).e=0→all+1≤l.length+f):=(show _→_ from fun h=>by rw [hfe] at h;exact absurd h (by decide))
        clear hl0 hl0i
        go_wp2_with (first
         | (go_at_call 158;(with_reducible refine HN.out.mono ?_);go_must (rintro e w5 ⟨rfl,hf5,hr5⟩;have e53:=(FR.arr hf5).cell (k:=3) rfl;have HR5:=Lib.hid (HR.out.trans hr5);have HL5:Hid (ownI w5 w.heap.size (.slice Al l.length cl) l):=(show ownI _ _ _ _ from ownI.rfr HL.out hr5 hrw (by omega) (fun k hk hk2=>by have h1:=HVO.out k hk;have h2:=(World.ownsRow.lt HL.out k hk2).1;omega));have HFL5:=Lib.hid (HFL.out w5 hf5);clear hf5 hr5))
         | (go_at_call 105;(with_reducible refine HFL5.out.mono ?_);go_must (rintro e w6 ⟨rfl,hf6,hr6⟩;have HF6:=Lib.hid hf6;have HR6:=Lib.hid (HR5.out.trans hr6);have HL6:Hid (ownI w6 w.heap.size (.slice Al l.length cl) l):=(show ownI _ _ _ _ from ownI.rfr HL5.out hr6 hrw (by omega) (fun k hk hk2=>by have h1:=HVO.out k hk;have h2:=(World.ownsRow.lt HL5.out k hk2).1;omega));clear hf6 hr6)))
        have e63:=(FR.arr HF6.out).cell (k:=3) rfl
        have herr6:=errOf_eq e63
        go_roundw
        case rel=>exact ⟨l,t1.fail 4,f,hla,HF6,HR6,HL6,HS2,HFU2⟩
        case measure =>
         rw [HM0.out]
         unfold lmeasG
         rw [herr6,hfe,if_neg (by decide)]
         omega
       ·rw [if_neg hl0] at HST
        have hl0b:((l.length:Int) == 0)=false:=beq_eq_false_iff_ne.2 (by omega)
        have hlD:l.length - 1 < l.length:=by omega
        have hgd:l.getD (l.length - 1) 0=l[l.length - 1]:=by rw [List.getD_eq_getElem?_getD,List.getElem?_eq_getElem hlD];rfl
        rw [hgd] at HST
        obtain ⟨-,gq,rfl,hgq1,hgq2⟩:=ownI.pos HL.out (show 0 < l.length by omega)
        have HCL:Hid (∀ w',ownI w' w.heap.size (.slice (some ⟨gq,0,none⟩) l.length cl) l→w'.cell? ⟨gq,l.length - 1,none⟩=some (.int .i64 l[l.length - 1])):=(show ∀ w',_ from fun w' h=>ownI.cell h rfl hlD)
        generalize l[l.length - 1]=x at *
        have HG:=Lib.hid (fun w5 (h:FS w5 r g A n c bs most vo t1)=>rget_any r g n c A bs most vo t1 w5 2 2 rfl h (by omega))
        have hv:=getP_lt bs t1 (m:=2) (by omega)
        generalize (getP bs t1 2).1=v at *
        generalize (getP bs t1 2).2=t2 at *
        have hvb:v < 200:=Nat.lt_of_lt_of_le hv (by decide)
        obtain ⟨N,hN⟩:∃ N,3+v=N:=⟨_,rfl⟩
        have hNi:(3:Int)+(v:Int)=(N:Int):=by omega
        have hN3:3≤N:=by omega
        rw [hN] at HST
        have HRP:=Lib.hid (fun w6 lv (h:FS w6 r g A n c bs most vo t2) (hf:RFr w w6 r g vo vo) (hl:ownI w6 w.heap.size lv l)=>rrepeat_any r g n c A bs most vo t2 w w6 lv l x N all h hf hl hrw HVO.out (by omega) hall (by omega))
        have hrl:=repP_len l x N all t2 hla
        generalize repP l x N all t2=PP at *
        clear hv hN
        obtain ⟨L,hL⟩:∃ L,l.length=L:=⟨_,rfl⟩
        obtain ⟨D,hD⟩:∃ D,l.length - 1=D:=⟨_,rfl⟩
        rw [hD] at HCL
        have hDi:(l.length:Int) - 1=(D:Int):=by omega
        have hDw:IntKind.i64.wrap (D:Int)=(D:Int):=wrap_i64_lt D (by omega)
        have hDw2:IntKind.i64.wrap ((l.length:Int) - 1)=(D:Int):=by rw [hDi];exact hDw
        have hNw:IntKind.i64.wrap (N:Int)=(N:Int):=wrap_i64_lt N (by omega)
        have hNw2:IntKind.i64.wrap ((3:Int)+(v:Int))=(N:Int):=by rw [hNi];exact hNw
        have hDl:D < l.length:=by omega
        clear hL hD
        go_upto_region 11 with ((go_at_call 158;(with_reducible refine HN.out.mono ?_);go_must (rintro e w5 ⟨rfl,hf5,hr5⟩;have e53:=(FR.arr hf5).cell (k:=3) rfl;have HR5:=Lib.hid (HR.out.trans hr5);have HL5:Hid (ownI w5 w.heap.size (.slice (some ⟨gq,0,none⟩) l.length cl) l):=(show ownI _ _ _ _ from ownI.rfr HL.out hr5 hrw (by omega) (fun k hk hk2=>by have h1:=HVO.out k hk;have h2:=(World.ownsRow.lt HL.out k hk2).1;omega));have HG5d:=Lib.hid (HG.out w5.drew (show FS w5.drew r g A n c bs most vo t1 from FR.drewN hf5 1));have hc5:=HCL.out w5 HL5.out;clear hf5 hr5)))
        go_region_with (first
         | (go_at_call 101;(with_reducible refine HG5d.out.mono ?_);go_must (rintro e w6 ⟨rfl,hf6,hr6⟩;have HR6:=Lib.hid ((show RFr w w5.drew r g vo vo from RFr.drewN HR5.out 1).trans hr6);have HL6:Hid (ownI w6 w.heap.size (Value.slice (some ⟨gq,0,none⟩) l.length cl) l):=(show ownI _ _ _ _ from ownI.rfr HL5.out.drew hr6 hrw (by have:=HR5.out.size;omega) (fun k hk hk2=>by have h1:=HVO.out k hk;have h2:=(World.ownsRow.lt HL5.out k hk2).1;omega));have hc6:=HCL.out w6 HL6.out;have HRP6:=Lib.hid (HRP.out w6 (Value.slice (some ⟨gq,0,none⟩) l.length cl) hf6 HR6.out HL6.out);clear hf6 hr6))
         | (go_at_call 162;(with_reducible refine HRP6.out.mono ?_);go_must (rintro e w7 ⟨v7,rfl,hf7,hl7,hr7⟩;have HF7:=Lib.hid hf7;have HL7:=Lib.hid hl7;have HR7:=Lib.hid hr7;clear hf7 hl7 hr7)))
        all_goals
         go_simp
         go_wp2_with fail
         have e73:=(FR.arr HF7.out).cell (k:=3) rfl
         have herr7:=errOf_eq e73
         obtain ⟨A7,c7,rfl,-,-,-⟩:=HL7.out.form
         have HFU2:Hid (PP.2.e=0→all+1≤PP.1.length+f):=(show _→_ from fun h0=>by rw [hrl.2 h0];omega)
         have HRL:=Lib.hid hrl
         clear hrl
         go_roundw
         case rel=>exact ⟨PP.1,PP.2,f,HRL.out.1,HF7,HR7,HL7,HST,HFU2⟩
         case measure =>
          rw [HM0.out]
          unfold lmeasG
          rw [herr7]
          by_cases h0:PP.2.e=0
          ·rw [if_pos h0]
           have:=HRL.out.2 h0
           show all+1 - PP.1.length < _
           omega
          ·rw [if_neg h0]
           omega
      ·have hq16b:((q:Int) == 16)=false:=beq_eq_false_iff_ne.2 (by omega)
       rw [if_neg (by omega:¬ (q:Int)=16)] at HST
       by_cases hq17:q=17
       ·subst hq17
        rw [if_pos (show ((17:Nat):Int)=17 from rfl)] at HST
        have HG:=Lib.hid (fun w5 (h:FS w5 r g A n c bs most vo t1)=>rget_any r g n c A bs most vo t1 w5 3 3 rfl h (by omega))
        have hv:=getP_lt bs t1 (m:=3) (by omega)
        generalize (getP bs t1 3).1=v at *
        generalize (getP bs t1 3).2=t2 at *
        have hvb:v < 200:=Nat.lt_of_lt_of_le hv (by decide)
        obtain ⟨N,hN⟩:∃ N,3+v=N:=⟨_,rfl⟩
        have hNi:(3:Int)+(v:Int)=(N:Int):=by omega
        have hN3:3≤N:=by omega
        rw [hN] at HST
        have HRP:=Lib.hid (fun w6 lv (h:FS w6 r g A n c bs most vo t2) (hf:RFr w w6 r g vo vo) (hl:ownI w6 w.heap.size lv l)=>rrepeat_any r g n c A bs most vo t2 w w6 lv l 0 N all h hf hl hrw HVO.out (by omega) hall (by omega))
        have hrl:=repP_len l 0 N all t2 hla
        generalize repP l 0 N all t2=PP at *
        clear hv hN
        go_wp2_with (first
         | (go_at_call 158;(with_reducible refine HN.out.mono ?_);go_must (rintro e w5 ⟨rfl,hf5,hr5⟩;have e53:=(FR.arr hf5).cell (k:=3) rfl;have HR5:=Lib.hid (HR.out.trans hr5);have HL5:Hid (ownI w5 w.heap.size (.slice Al l.length cl) l):=(show ownI _ _ _ _ from ownI.rfr HL.out hr5 hrw (by omega) (fun k hk hk2=>by have h1:=HVO.out k hk;have h2:=(World.ownsRow.lt HL.out k hk2).1;omega));have HG5:=Lib.hid (HG.out w5 hf5);clear hf5 hr5))
         | (go_at_call 101;(with_reducible refine HG5.out.mono ?_);go_must (rintro e w6 ⟨rfl,hf6,hr6⟩;have HR6:=Lib.hid (HR5.out.trans hr6);have HL6:Hid (ownI w6 w.heap.size (.slice Al l.length cl) l):=(show ownI _ _ _ _ from ownI.rfr HL5.out hr6 hrw (by omega) (fun k hk hk2=>by have h1:=HVO.out k hk;have h2:=(World.ownsRow.lt HL5.out k hk2).1;omega));have HRP6:=Lib.hid (HRP.out w6 (.slice Al l.length cl) hf6 HR6.out HL6.out);clear hf6 hr6))
         | (go_at_call 162;(with_reducible refine HRP6.out.mono ?_);go_must (rintro e w7 ⟨v7,rfl,hf7,hl7,hr7⟩;have HF7:=Lib.hid hf7;have HL7:=Lib.hid hl7;have HR7:=Lib.hid hr7;clear hf7 hl7 hr7)))
        have e73:=(FR.arr HF7.out).cell (k:=3) rfl
        have herr7:=errOf_eq e73
        obtain ⟨A7,c7,rfl,-,-,-⟩:=HL7.out.form
        have HFU2:Hid (PP.2.e=0→all+1≤PP.1.length+f):=(show _→_ from fun h0=>by rw [hrl.2 h0];omega)
        have HRL:=Lib.hid hrl
        clear hrl
        go_roundw
        case rel=>exact ⟨PP.1,PP.2,f,HRL.out.1,HF7,HR7,HL7,HST,HFU2⟩
        case measure =>
         rw [HM0.out]
         unfold lmeasG
         rw [herr7]
         by_cases h0:PP.2.e=0
         ·rw [if_pos h0]
          have:=HRL.out.2 h0
          show all+1 - PP.1.length < _
          omega
         ·rw [if_neg h0]
          omega
       ·have hq17b:((q:Int) == 17)=false:=beq_eq_false_iff_ne.2 (by omega)
        rw [if_neg (by omega:¬ (q:Int)=17)] at HST
        have HG:=Lib.hid (fun w5 (h:FS w5 r g A n c bs most vo t1)=>rget_any r g n c A bs most vo t1 w5 7 7 rfl h (by omega))
        have hv:=getP_lt bs t1 (m:=7) (by omega)
        generalize (getP bs t1 7).1=v at *
        generalize (getP bs t1 7).2=t2 at *
        have hvb:v < 200:=Nat.lt_of_lt_of_le hv (by decide)
        obtain ⟨N,hN⟩:∃ N,11+v=N:=⟨_,rfl⟩
        have hNi:(11:Int)+(v:Int)=(N:Int):=by omega
        have hN3:3≤N:=by omega
        rw [hN] at HST
        have HRP:=Lib.hid (fun w6 lv (h:FS w6 r g A n c bs most vo t2) (hf:RFr w w6 r g vo vo) (hl:ownI w6 w.heap.size lv l)=>rrepeat_any r g n c A bs most vo t2 w w6 lv l 0 N all h hf hl hrw HVO.out (by omega) hall (by omega))
        have hrl:=repP_len l 0 N all t2 hla
        generalize repP l 0 N all t2=PP at *
        clear hv hN
        go_wp2_with (first
         | (go_at_call 158;(with_reducible refine HN.out.mono ?_);go_must (rintro e w5 ⟨rfl,hf5,hr5⟩;have e53:=(FR.arr hf5).cell (k:=3) rfl;have HR5:=Lib.hid (HR.out.trans hr5);have HL5:Hid (ownI w5 w.heap.size (.slice Al l.length cl) l):=(show ownI _ _ _ _ from ownI.rfr HL.out hr5 hrw (by omega) (fun k hk hk2=>by have h1:=HVO.out k hk;have h2:=(World.ownsRow.lt HL.out k hk2).1;omega));have HG5:=Lib.hid (HG.out w5 hf5);clear hf5 hr5))
         | (go_at_call 101;(with_reducible refine HG5.out.mono ?_);go_must (rintro e w6 ⟨rfl,hf6,hr6⟩;have HR6:=Lib.hid (HR5.out.trans hr6);have HL6:Hid (ownI w6 w.heap.size (.slice Al l.length cl) l):=(show ownI _ _ _ _ from ownI.rfr HL5.out hr6 hrw (by omega) (fun k hk hk2=>by have h1:=HVO.out k hk;have h2:=(World.ownsRow.lt HL5.out k hk2).1;omega));have HRP6:=Lib.hid (HRP.out w6 (.slice Al l.length cl) hf6 HR6.out HL6.out);clear hf6 hr6))
         | (go_at_call 162;(with_reducible refine HRP6.out.mono ?_);go_must (rintro e w7 ⟨v7,rfl,hf7,hl7,hr7⟩;have HF7:=Lib.hid hf7;have HL7:=Lib.hid hl7;have HR7:=Lib.hid hr7;clear hf7 hl7 hr7)))
        have e73:=(FR.arr HF7.out).cell (k:=3) rfl
        have herr7:=errOf_eq e73
        obtain ⟨A7,c7,rfl,-,-,-⟩:=HL7.out.form
        have HFU2:Hid (PP.2.e=0→all+1≤PP.1.length+f):=(show _→_ from fun h0=>by rw [hrl.2 h0];omega)
        have HRL:=Lib.hid hrl
        clear hrl
        go_roundw
        case rel=>exact ⟨PP.1,PP.2,f,HRL.out.1,HF7,HR7,HL7,HST,HFU2⟩
        case measure =>
         rw [HM0.out]
         unfold lmeasG
         rw [herr7]
         by_cases h0:PP.2.e=0
         ·rw [if_pos h0]
          have:=HRL.out.2 h0
          show all+1 - PP.1.length < _
          omega
         ·rw [if_neg h0]
          omega
    ·have d2:(t1.e == 0)=false:=beq_eq_false_iff_ne.2 ht
     have d2b:(t1.e != 0)=true:=by rw [bne_iff_ne];exact ht
     rw [if_neg ht] at HST
     have HS2:Hid (listF bs ls all f l t1=R):=(show _=_ by rw [← HST.out,listF_stop (fun h=>ht h.2)])
     have HFU2:Hid (t1.e=0→all+1≤l.length+f):=(show _→_ from fun h=>absurd h ht)
     go_wp2_with (go_at_call 158;(with_reducible refine HN.out.mono ?_);go_must (rintro e w5 ⟨rfl,hf5,hr5⟩;have e53:=(FR.arr hf5).cell (k:=3) rfl;have HR5:=Lib.hid (HR.out.trans hr5);have HL5:Hid (ownI w5 w.heap.size (.slice Al l.length cl) l):=(show ownI _ _ _ _ from ownI.rfr HL.out hr5 hrw (by omega) (fun k hk hk2=>by have h1:=HVO.out k hk;have h2:=(World.ownsRow.lt HL.out k hk2).1;omega));have HF5:=Lib.hid hf5;clear hf5 hr5))
     have herr5:=errOf_eq e53
     go_roundw
     case rel=>exact ⟨l,t1,f,hla,HF5,HR5,HL5,HS2,HFU2⟩
     case measure =>
      rw [HM0.out]
      unfold lmeasG
      rw [herr5,if_neg ht]
      omega
   ·have d1:(cur.e == 0)=false:=beq_eq_false_iff_ne.2 he
    have HS:Hid ((l,cur)=R):=(show _=_ by rw [← HE.out,listF_stop (fun h=>he h.2)])
    go_wp2_with fail
    go_ret
    exact ⟨_,rfl,by rw [← HS.out];exact HF.out,by rw [← HS.out];exact HL.out,by rw [← HS.out];exact hla,HR.out⟩
  ·have hlti:¬ (l.length:Int) < (all:Int):=by omega
   have HS:Hid ((l,cur)=R):=(show _=_ by rw [← HE.out,listF_stop (fun h=>hlt h.1)])
   go_wp2_with fail
   go_ret
   exact ⟨_,rfl,by rw [← HS.out];exact HF.out,by rw [← HS.out];exact HL.out,by rw [← HS.out];exact hla,HR.out⟩
end
end Go.Proofs.YtebbdifhiihfkaaGreatDoor

/- flate: the reader of blocks, whatever comes: are all lengths 0; lists by a decoder or none. -/
namespace Go.Proofs.YtebbdifhiihfkaaGreatDoor
set_option linter.all false
open Go.RowKit
set_option maxRecDepth 100000 in
theorem none_any (B nl cl:Nat) (Al:Option Addr) (ls:List Int) (w:World) (hr:RdI w B Al nl ls) (hn:nl≤1000) :
  Calls Tryz.prog 133 #[.slice Al nl cl] w fun e w'=>e=.returned (.bool (noneP ls))∧w=w':=by
 have HRD:=Lib.hid hr
 have HL:=Lib.hid hr.len
 clear hr
 go_enter Tryz.func133,Tryz.ntmps133
 go_wp2_with fail
 go_loopw [7] (fun vk wr=>∃ k:Nat,k≤nl∧vk=.int .i64 k∧Hid (cPos (ls.take k)=0)∧wr=w) (fun vk _=>nl - (intOf vk).toNat)
 case atStart=>exact ⟨0,Nat.zero_le _,rfl,(show cPos (ls.take 0)=0 from rfl),rfl⟩
 case round =>
  obtain ⟨k,hk,rfl,HC,rfl⟩:=hrel
  by_cases hlt:k < nl
  ·have hlti:(k:Int) < (nl:Int):=by omega
   obtain ⟨b,o,x,rfl,hb,HX,e1⟩:=HRD.out.one hlt
   by_cases hx0:0 < x
   ·have HN:Hid (noneP ls=false):=(show _=_ by
     have h1:cPos (ls.take (k+1))=1:=by rw [take_snoc1 HX.out,cPos_snoc,HC.out,if_pos hx0]
     have h2:cPos ls=cPos (ls.take (k+1))+cPos (ls.drop (k+1)):=by
      unfold cPos
      rw [← List.countP_append,List.take_append_drop]
     unfold noneP
     rw [h2,h1]
     exact beq_eq_false_iff_ne.2 (by omega))
    go_wp2_with fail
    go_ret
    exact ⟨by rw [HN.out];rfl,rfl⟩
   ·have HP1:Hid (cPos (ls.take (k+1))=0):=(show _=_ by rw [take_snoc1 HX.out,cPos_snoc,HC.out,if_neg hx0])
    go_wp2_with fail
    go_roundw
    case rel=>exact ⟨k+1,by omega,by go_num,HP1,trivial⟩
    case measure=>simp [intOf];omega
  ·obtain rfl:k=nl:=by omega
   have hlti:¬ (k:Int) < (k:Int):=by omega
   have HN:Hid (noneP ls=true):=(show _=_ by
    have h1:=HC.out
    rw [List.take_of_length_le (by rw [HL.out];exact Nat.le_refl _)] at h1
    unfold noneP
    rw [h1]
    rfl)
   go_wp2_with fail
   go_ret
   exact ⟨by rw [HN.out];rfl,rfl⟩
section
variable (r g n c : Nat) (A : Option Addr) (bs : List UInt8) (most : Int) (vo : Value) (s : RS) (w : World)
theorem rlistD_any (dv:Value) (D:Option (List Int)) (all:Nat) (h:FS w r g A n c bs most vo s) (hd:DV w r g vo dv D) (hD:D=none→¬ s.e=0) (hall:all≤1000) :
  Calls Tryz.prog 132 #[.pointer (some ⟨r,0,none⟩),dv,.int .i64 (all:Int)] w fun e w'=>∃ lv,e=.returned lv∧FS w' r g A n c bs most vo (listD bs D all s).2∧ownI w' w.heap.size lv (listD bs D all s).1∧RFr w w' r g vo vo:=by
 rcases hd with ⟨rfl,rfl⟩ | ⟨gd,ds,rfl,rfl,h1,h2⟩
 ·refine (rlist_err r g n c A bs most vo s w (.pointer none) all h (hD rfl)).mono ?_
  rintro e w' ⟨rfl,rfl⟩
  exact ⟨_,rfl,h,ownI.nil_ _ _,RFr.refl _ _ _ _⟩
 ·refine (rlist_any r g n c A bs most vo s w gd ds all (all+1) h h1 h2 hall (Nat.le_refl _)).mono ?_
  rintro e w' ⟨lv,rfl,h3,h4,-,h5⟩
  exact ⟨lv,rfl,h3,h4,h5⟩
end
end Go.Proofs.YtebbdifhiihfkaaGreatDoor

/- flate: the reader of blocks, whatever comes: tokens. -/
namespace Go.Proofs.YtebbdifhiihfkaaGreatDoor
set_option linter.all false
open Go.RowKit
section
variable (r g n c : Nat) (A : Option Addr) (bs : List UInt8) (most : Int) (vo : Value) (s : RS) (w : World)
set_option maxRecDepth 100000 in
set_option maxHeartbeats 3200000 in
theorem rtokens_any (gl:Nat) (ll:List Int) (dv:Value) (dl:Option (List Int)) (f:Nat) (h:FS w r g A n c bs most vo s) (hl:DK w r g vo gl ll) (hlo:OkL ll) (hd:DV w r g vo dv dl) (hm:most≤1000000) (ho:(s.out.length:Int)≤most) (hf:8 * n+1≤s.p+f) :
  Calls Tryz.prog 129 #[.pointer (some ⟨r,0,none⟩),.pointer (some ⟨gl,0,none⟩),dv] w fun e w'=>e=.returned (.tuple #[])∧∃ vo',FS w' r g A n c bs most vo' (toksF bs most ll dl f s)∧RFr w w' r g vo vo':=by
 have H:=Lib.hid h
 have HDL:=Lib.hid hl
 have HOK:=Lib.hid hlo
 have HDV:=Lib.hid hd
 have HBL:=Lib.hid (FR.rb h).len
 have HO:=Lib.hid ho
 have HFU:=Lib.hid hf
 have HR0:=Lib.hid (RFr.refl w r g vo)
 obtain ⟨R,hR⟩:∃ R,toksF bs most ll dl f s=R:=⟨_,rfl⟩
 rw [hR]
 have HL0:=Lib.hid hR
 clear h hl hlo hd ho hf hR
 go_enter Tryz.func129,Tryz.ntmps129
 go_wp2_with fail
 go_loopw [6] (fun v6 wr=>∃ (cur:RS) (vq:Value) (f:Nat),Hid (FS wr r g A n c bs most vq cur)∧Hid (RFr w wr r g vo vq)∧Hid (8 * n+1≤cur.p+f)∧Hid (toksF bs most ll dl f cur=R)∧Hid ((cur.out.length:Int)≤most)) (fun _ wr=>8 * n+1 - posOf wr g)
 case atStart=>exact ⟨s,vo,f,H,HR0,HFU,HL0,HO⟩
 case round =>
  clear H HR0 HFU HL0 HO
  obtain ⟨cur,vq,f,HF,HR,HFU,HL,HO⟩:=hrel
  have e3:=(FR.arr HF.out).cell (k:=3) rfl
  have hfit:cur.p≤8 * n:=FR.fit HF.out
  have hpos:=posOf_eq (FR.rd HF.out)
  by_cases he:cur.e=0
  ·have d1:(cur.e == 0)=true:=by rw [he];rfl
   obtain ⟨f,rfl⟩:∃ f',f=f'+1:=⟨f - 1,by have:=HFU.out;omega⟩
   have HN:=Lib.hid (rnext_any r g n c A bs most vq cur wr gl ll HF.out (HDL.out.fr HR.out) HOK.out.1 HOK.out.2.1 HOK.out.2.2)
   have HST:Hid (toksF bs most ll dl (f+1) cur=if (nextP bs ll cur).2.e=0 then (if (nextP bs ll cur).1=256 then (nextP bs ll cur).2 else if (nextP bs ll cur).1 < 256 then toksF bs most ll dl f (givesP most (nextP bs ll cur).2 (UInt8.ofNat (nextP bs ll cur).1.toNat)) else toksF bs most ll dl f (copyP bs most (nextP bs ll cur).2 (nextP bs ll cur).1.toNat dl)) else (nextP bs ll cur).2):=(show _=_ from if_pos he)
   rw [HL.out] at HST
   obtain ⟨q,hq1,hq2,hq3⟩:=nextP_val bs ll cur
   have hq300:q≤300:=by have:=HOK.out.2.2;omega
   have HPP:=Lib.hid (fun h2=>nextP_p (bs:=bs) (ls:=ll) he h2)
   have hout:=nextP_out bs ll cur
   rw [hq1] at HN HST
   have hqt:((q:Int)).toNat=q:=rfl
   rw [hqt] at HST
   clear hq1 hq2 hq3 hqt
   generalize (nextP bs ll cur).2=t1 at *
   by_cases ht:t1.e=0
   ·have d2:(t1.e == 0)=true:=by rw [ht];rfl
    have d2b:(t1.e != 0)=false:=by rw [ht];rfl
    rw [if_pos ht] at HST
    have hpp:=HPP.out ht
    clear HPP
    by_cases h256:q=256
    ·subst h256
     rw [if_pos (by rfl)] at HST
     go_wp2_with (go_at_call 158;(with_reducible refine HN.out.mono ?_);go_must (rintro e w5 ⟨rfl,hf5,hr5⟩;have e53:=(FR.arr hf5).cell (k:=3) rfl;have HF5:=Lib.hid hf5;have HR5:=Lib.hid (HR.out.trans hr5);clear hf5 hr5))
     (try simp only [Exit.inBlock,Exit.then])
     first | (refine bodyPost_ret (results_none rfl _ _ _) rfl ?_) | (refine bodyPost_end (results_none rfl _ _ _) rfl ?_)
     exact ⟨rfl,vq,by rw [HST.out];exact HF5.out,HR5.out⟩
    ·have hn256:¬ (q:Int)=256:=by omega
     have hb256:((q:Int) == 256)=false:=beq_eq_false_iff_ne.2 hn256
     rw [if_neg hn256] at HST
     by_cases hlt:q < 256
     ·have hlti:(q:Int) < 256:=by omega
      rw [if_pos hlti] at HST
      obtain ⟨x,hx⟩:∃ x:UInt8,q=x.toNat:=⟨UInt8.ofNat q,by rw [UInt8.toNat_ofNat'];exact (Nat.mod_eq_of_lt (by omega)).symm⟩
      subst hx
      have hxo:UInt8.ofNat x.toNat=x:=by simp
      rw [hxo] at HST
      have x8:=x.toNat_lt
      have HGV:=Lib.hid (fun w5 (h:FS w5 r g A n c bs most vq t1)=>rgives_any r g n c A bs most vq t1 w5 x h hm)
      have HFU2:Hid (8 * n+1≤(givesP most t1 x).p+f):=(show _≤_ by rw [givesP_p];have:=HFU.out;omega)
      have hp6:(givesP most t1 x).p=t1.p:=givesP_p _ _ _
      have HO6:Hid (((givesP most t1 x).out.length:Int)≤most):=(show _≤_ from givesP_le (by rw [hout];exact HO.out))
      generalize givesP most t1 x=t2 at *
      clear hxo hout
      go_wp2_with (first
       | (go_at_call 158;(with_reducible refine HN.out.mono ?_);go_must (rintro e w5 ⟨rfl,hf5,hr5⟩;have e53:=(FR.arr hf5).cell (k:=3) rfl;have HGV5:=Lib.hid (HGV.out w5 hf5);have HR5:=Lib.hid (HR.out.trans hr5);clear hf5 hr5))
       | (go_at_call 128;(with_reducible refine HGV5.out.mono ?_);go_must (rintro e w6 ⟨rfl,v6,hf6,hr6⟩;have HF6:=Lib.hid hf6;have HR6:=Lib.hid (HR5.out.trans hr6);clear hf6 hr6)))
      have hpos6:=posOf_eq (FR.rd HF6.out)
      go_roundw
      case rel=>exact ⟨t2,v6,f,HF6,HR6,HFU2,HST.out.symm,HO6⟩
      case measure=>rw [hpos6,hpos];omega
     ·have hlti:¬ (q:Int) < 256:=by omega
      rw [if_neg hlti] at HST
      have hf1:t1.p≤8 * bs.length∨True:=.inr trivial
      have HCY:=Lib.hid (fun w5 (h:FS w5 r g A n c bs most vq t1) (hd:DV w5 r g vq dv dl)=>rcopy_any r g n c A bs most vq t1 w5 q dv dl h hd hm (by omega) (by omega) (by rw [hout];exact HO.out))
      have HPC:=Lib.hid (fun (h:t1.p≤8 * bs.length)=>copyP_p (most:=most) (q:=q) (dl:=dl) h)
      have HO6:Hid (((copyP bs most t1 q dl).out.length:Int)≤most):=(show _≤_ from copyP_le (by rw [hout];exact HO.out))
      generalize copyP bs most t1 q dl=t2 at *
      clear hout
      go_wp2_with (first
       | (go_at_call 158;(with_reducible refine HN.out.mono ?_);go_must (rintro e w5 ⟨rfl,hf5,hr5⟩;have e53:=(FR.arr hf5).cell (k:=3) rfl;have hfit5:t1.p≤8 * n:=FR.fit hf5;have HR5:=Lib.hid (HR.out.trans hr5);have HCY5:=Lib.hid (HCY.out w5 hf5 (HDV.out.fr HR5.out));clear hf5 hr5))
       | (go_at_call 159;(with_reducible refine HCY5.out.mono ?_);go_must (rintro e w6 ⟨rfl,v6,hf6,hr6⟩;have HF6:=Lib.hid hf6;have HR6:=Lib.hid (HR5.out.trans hr6);clear hf6 hr6)))
      have hpos6:=posOf_eq (FR.rd HF6.out)
      have hp6:=HPC.out (by rw [HBL.out];exact hfit5)
      have HFU2:Hid (8 * n+1≤t2.p+f):=(show _≤_ by have:=HFU.out;omega)
      go_roundw
      case rel=>exact ⟨t2,v6,f,HF6,HR6,HFU2,HST.out.symm,HO6⟩
      case measure=>rw [hpos6,hpos];omega
   ·have d2:(t1.e == 0)=false:=beq_eq_false_iff_ne.2 ht
    have d2b:(t1.e != 0)=true:=by rw [bne_iff_ne];exact ht
    rw [if_neg ht] at HST
    go_wp2_with (go_at_call 158;(with_reducible refine HN.out.mono ?_);go_must (rintro e w5 ⟨rfl,hf5,hr5⟩;have e53:=(FR.arr hf5).cell (k:=3) rfl;have HF5:=Lib.hid hf5;have HR5:=Lib.hid (HR.out.trans hr5);clear hf5 hr5))
    (try simp only [Exit.inBlock,Exit.then])
    first | (refine bodyPost_ret (results_none rfl _ _ _) rfl ?_) | (refine bodyPost_end (results_none rfl _ _ _) rfl ?_)
    exact ⟨rfl,vq,by rw [HST.out];exact HF5.out,HR5.out⟩
  ·have d1:(cur.e == 0)=false:=beq_eq_false_iff_ne.2 he
   have HE:Hid (cur=R):=(show _=_ by rw [← HL.out,toksF_err he])
   go_wp2_with fail
   (try simp only [Exit.inBlock,Exit.then])
   first | (refine bodyPost_ret (results_none rfl _ _ _) rfl ?_) | (refine bodyPost_end (results_none rfl _ _ _) rfl ?_)
   exact ⟨rfl,vq,by rw [← HE.out];exact HF.out,HR.out⟩
end
end Go.Proofs.YtebbdifhiihfkaaGreatDoor

/- flate: the reader of blocks, whatever comes: a block of its own codes. -/
namespace Go.Proofs.YtebbdifhiihfkaaGreatDoor
set_option linter.all false
open Go.RowKit
theorem ordR_lt:∀ i (h:i < ordL.length),ordL[i] < 19:=by decide
section
variable (r g n c : Nat) (A : Option Addr) (bs : List UInt8) (most : Int) (vo : Value) (s : RS) (w : World)
set_option maxRecDepth 100000 in
set_option maxHeartbeats 6400000 in
theorem rown_any (f:Nat) (h:FS w r g A n c bs most vo s) (hm:most≤1000000) (ho:(s.out.length:Int)≤most) (hf:8 * n+1≤f) :
  Calls Tryz.prog 104 #[.pointer (some ⟨r,0,none⟩)] w fun e w'=>e=.returned (.tuple #[])∧∃ vo',FS w' r g A n c bs most vo' (rownP bs most f s)∧RFr w w' r g vo vo':=by
 have hrw:=(FR.arr h).lt
 have hgr:=FR.gr h
 have HVO:Hid (∀ k,vo.ownBlock=some k→k < w.heap.size):=(show ∀ k,_ from fun k hk=>(World.ownsRow.lt (FR.own h) k hk).2)
 have HR0:=Lib.hid (RFr.refl w r g vo)
 have HG1:=Lib.hid (rget_any r g n c A bs most vo s w 5 5 rfl h (by omega))
 have HO6:Hid (((ownLs bs s).2.out.length:Int)≤most):=(show _≤_ by rw [ownLs_out];exact ho)
 have HFULL:=Lib.hid (ownLs_full bs s)
 -- letters for what is read
 have HRR:Hid (rownP bs most f s=ownT bs most (ownLs bs s).1 (hdN bs s) f (ownLs bs s).2):=(show _=_ from rfl)
 have HLS:Hid (ownLs bs s=listD bs (decD (hdL bs s).1 (hdL bs s).2) (hdN bs s+hdM bs s) (decP (hdL bs s).1 false (hdL bs s).2)):=(show _=_ from rfl)
 have HDL:Hid (hdL bs s=lenRd bs (ordL.take (4+(getP bs (hdB bs s) 4).1)) (List.replicate 19 0) (getP bs (hdB bs s) 4).2):=(show _=_ from rfl)
 have HSB:Hid (hdB bs s=if 30 < hdM bs s then (getP bs (hdA bs s) 5).2.fail 4 else (getP bs (hdA bs s) 5).2):=(show _=_ from rfl)
 have HSA:Hid (hdA bs s=if 286 < hdN bs s then (getP bs s 5).2.fail 4 else (getP bs s 5).2):=(show _=_ from rfl)
 have HG2:=Lib.hid (fun w5 (h:FS w5 r g A n c bs most vo (hdA bs s))=>rget_any r g n c A bs most vo (hdA bs s) w5 5 5 rfl h (by omega))
 have HG3:=Lib.hid (fun w5 (h:FS w5 r g A n c bs most vo (hdB bs s))=>rget_any r g n c A bs most vo (hdB bs s) w5 4 4 rfl h (by omega))
 have hv1:(getP bs s 5).1 < 32:=getP_lt bs s (m:=5) (by omega)
 have hv2:(getP bs (hdA bs s) 5).1 < 32:=getP_lt bs (hdA bs s) (m:=5) (by omega)
 have hv3:(getP bs (hdB bs s) 4).1 < 16:=getP_lt bs (hdB bs s) (m:=4) (by omega)
 have hNi:(257:Int)+((getP bs s 5).1:Int)=(hdN bs s:Int):=by unfold hdN;omega
 have hMi:(1:Int)+((getP bs (hdA bs s) 5).1:Int)=(hdM bs s:Int):=by unfold hdM;omega
 have hN1:257≤hdN bs s∧hdN bs s≤288:=by unfold hdN;omega
 have hM1:1≤hdM bs s∧hdM bs s≤32:=by unfold hdM;omega
 generalize rownP bs most f s=R at *
 generalize ownLs bs s=LS at *
 generalize hdL bs s=DL at *
 generalize (getP bs (hdB bs s) 4).1=v3 at *
 generalize (getP bs (hdB bs s) 4).2=t3 at *
 generalize hdB bs s=sB at *
 generalize hdM bs s=M at *
 generalize (getP bs (hdA bs s) 5).1=v2 at *
 generalize (getP bs (hdA bs s) 5).2=t2 at *
 generalize hdA bs s=sA at *
 generalize hdN bs s=N at *
 generalize (getP bs s 5).1=v1 at *
 generalize (getP bs s 5).2=t1 at *
 obtain ⟨Q,hQ⟩:∃ Q,4+v3=Q:=⟨_,rfl⟩
 rw [hQ] at HDL
 have hQi:(4:Int)+(v3:Int)=(Q:Int):=by omega
 have hQ1:4≤Q∧Q≤19:=by omega
 clear hQ h ho
 go_enter Tryz.func104,Tryz.ntmps104
 go_upto_if 14 with (go_at_call 101;(with_reducible refine HG1.out.mono ?_);go_must (rintro e w1 ⟨rfl,hf1,hr1⟩;have HF1:=Lib.hid hf1;have HR1:=Lib.hid hr1;clear hf1 hr1))
 go_cut [2] from 10 (fun v wc=>v=.int .i64 (N:Int)∧Hid (FS wc r g A n c bs most vo sA)∧Hid (RFr w wc r g vo vo))
 case first =>
  by_cases h286:286 < N
  ·have h286i:(286:Int) < (N:Int):=by omega
   rw [if_pos h286] at HSA
   have HFL:=Lib.hid (rfail_any r g n c A bs most vo t1 w1 4 HF1.out)
   rw [← HSA.out] at HFL
   go_wp2_with (go_at_call 105;(with_reducible refine HFL.out.mono ?_);go_must (rintro e w2 ⟨rfl,hf2,hr2⟩;have HF2:=Lib.hid hf2;have HR2:=Lib.hid (HR1.out.trans hr2);clear hf2 hr2))
   go_meet
   case rel=>exact ⟨rfl,HF2,HR2⟩
  ·have h286i:¬ (286:Int) < (N:Int):=by omega
   rw [if_neg h286] at HSA
   go_wp2_with fail
   go_meet
   case rel=>exact ⟨rfl,(show FS _ _ _ _ _ _ _ _ _ _ by rw [HSA.out];exact HF1.out),HR1⟩
 case rest =>
  obtain ⟨rfl,HF1,HR1⟩:=hcut
  rename_i w1
  have HG2:=Lib.hid (HG2.out _ HF1.out)
  go_upto_if 21 with (go_at_call 101;(with_reducible refine HG2.out.mono ?_);go_must (rintro e w2 ⟨rfl,hf2,hr2⟩;have HF2:=Lib.hid hf2;have HR2:=Lib.hid (HR1.out.trans hr2);clear hf2 hr2))
  go_cut [3] from 10 (fun v wc=>v=.int .i64 (M:Int)∧Hid (FS wc r g A n c bs most vo sB)∧Hid (RFr w wc r g vo vo))
  case first =>
   by_cases h30:30 < M
   ·have h30i:(30:Int) < (M:Int):=by omega
    rw [if_pos h30] at HSB
    have HFL:=Lib.hid (rfail_any r g n c A bs most vo t2 w2 4 HF2.out)
    rw [← HSB.out] at HFL
    go_wp2_with (go_at_call 105;(with_reducible refine HFL.out.mono ?_);go_must (rintro e w3 ⟨rfl,hf3,hr3⟩;have HF3:=Lib.hid hf3;have HR3:=Lib.hid (HR2.out.trans hr3);clear hf3 hr3))
    go_meet
    case rel=>exact ⟨rfl,HF3,HR3⟩
   ·have h30i:¬ (30:Int) < (M:Int):=by omega
    rw [if_neg h30] at HSB
    go_wp2_with fail
    go_meet
    case rel=>exact ⟨rfl,(show FS _ _ _ _ _ _ _ _ _ _ by rw [HSB.out];exact HF2.out),HR2⟩
  case rest =>
   obtain ⟨rfl,HF2,HR2⟩:=hcut
   clear HSA HSB HG2 HF1 HR1 HG1
   have hrs:=HR2.out.size
   go_wp2_with (first
    | (at_make;refine wpList_makeI rfl _ _ rfl 19 _ rfl rfl rfl (by omega) ?_;intro w3 hown hb3 hsz3;have HL3:=Lib.hid (ownI.mono hown hrs);have HF3:Hid (FS w3 r g A n c bs most vo sB):=(show FS _ _ _ _ _ _ _ _ _ _ from FR.later HF2.out hb3);have HR3:=Lib.hid (HR2.out.trans (RFr.ofB hb3 r g vo));have hs3:=hb3.size;clear hown hb3)
    | (go_at_call 131;(with_reducible refine (order_any w3).mono ?_);go_must (rintro e w4 ⟨rfl,ho4,hb4⟩;have HO4:=Lib.hid (ownI.mono ho4 (Nat.le_trans hrs hs3));have HL4:=Lib.hid (HL3.out.later hb4);have HF4:Hid (FS w4 r g A n c bs most vo sB):=(show FS _ _ _ _ _ _ _ _ _ _ from FR.later HF3.out hb4);have HR4:=Lib.hid (HR3.out.trans (RFr.ofB hb4 r g vo));have HG4:=Lib.hid (HG3.out w4 HF4.out);clear ho4 hb4))
    | (go_at_call 101;(with_reducible refine HG4.out.mono ?_);go_must (rintro e w5 ⟨rfl,hf5,hr5⟩;have HF5:=Lib.hid hf5;have HR5:=Lib.hid (HR4.out.trans hr5);have HL5:Hid (ownI w5 w.heap.size (.slice (some ⟨wc.heap.size,0,none⟩) 19 19) (List.replicate 19 0)):=(show ownI _ _ _ _ from ownI.rfr HL4.out hr5 hrw (by omega) (fun k hk hk2=>by have h1:=HVO.out k hk;have h2:=(World.ownsRow.lt HL4.out k hk2).1;omega));have HO5:Hid (ownI w5 w.heap.size (.slice (some ⟨w3.heap.size,0,none⟩) 19 19) (ordL.map fun (x:Nat)=>(x:Int))):=(show ownI _ _ _ _ from ownI.rfr HO4.out hr5 hrw (by omega) (fun k hk hk2=>by have h1:=HVO.out k hk;have h2:=(World.ownsRow.lt HO4.out k hk2).1;omega));clear hf5 hr5)))
   have hne12:wc.heap.size ≠ w3.heap.size:=by omega
   clear HG3 HF3 HR3 HL3 HF4 HR4 HL4 HO4 HG4 HF2 HR2
   generalize wc.heap.size=G1 at *
   generalize w3.heap.size=G2 at *
   clear hs3 hsz3 hrs
   have HL0:Hid (lenRd bs ((ordL.take Q).drop 0) (List.replicate 19 0) t3=DL):=(show _=_ from HDL.out.symm)
   go_loopw [31] (fun vi wr=>∃ (i:Nat) (L:List Int) (cur:RS),i≤Q∧vi=.int .i64 i∧Hid (L.length=19)∧Hid (FS wr r g A n c bs most vo cur)∧Hid (RFr w wr r g vo vo)∧Hid (ownI wr w.heap.size (.slice (some ⟨G1,0,none⟩) 19 19) L)∧Hid (ownI wr w.heap.size (.slice (some ⟨G2,0,none⟩) 19 19) (ordL.map fun (x:Nat)=>(x:Int)))∧Hid (lenRd bs ((ordL.take Q).drop i) L cur=DL)) (fun vi _=>Q - (intOf vi).toNat)
   case atStart=>exact ⟨0,_,t3,Nat.zero_le _,rfl,(show (List.replicate 19 (0:Int)).length=19 from rfl),HF5,HR5,HL5,HO5,HL0⟩
   case round =>
    clear HF5 HR5 HL5 HO5 HL0
    obtain ⟨i,L,cur,hi,rfl,HLL,HF,HR,HL,HO,HS⟩:=hrel
    have hrs:=HR.out.size
    by_cases hlt:i < Q
    ·have hlti:(i:Int) < (Q:Int):=by omega
     have hi19:i < ordL.length:=by show i < 19;omega
     have hkk:=ordR_lt i hi19
     have HST:=Lib.hid HS.out
     rw [List.drop_eq_getElem_cons (show i < (ordL.take Q).length by rw [List.length_take];show i < min Q 19;omega),List.getElem_take,lenRd] at HST
     have e1:wr.cell? ⟨G2,i,none⟩=some (.int .i64 (ordL[i]:Int)):=by
      have:=ownI.cell HO.out rfl (k:=i) (by rw [List.length_map];exact hi19)
      rw [List.getElem_map] at this
      exact this
     generalize ordL[i]=kk at *
     have hkki:(kk:Int) < 19:=by omega
     have HG:=Lib.hid (rget_any r g n c A bs most vo cur wr 3 3 rfl HF.out (by omega))
     have hv:=getP_lt bs cur (m:=3) (by omega)
     generalize (getP bs cur 3).1=v at *
     generalize (getP bs cur 3).2=nx1 at *
     go_wp2_with (go_at_call 101;(with_reducible refine HG.out.mono ?_);go_must (rintro e w6 ⟨rfl,hf6,hr6⟩;have HF6:=Lib.hid hf6;have HR6:=Lib.hid (HR.out.trans hr6);have HL6:Hid (ownI w6 w.heap.size (.slice (some ⟨G1,0,none⟩) 19 19) L):=(show ownI _ _ _ _ from ownI.rfr HL.out hr6 hrw (by omega) (fun k hk hk2=>by have h1:=HVO.out k hk;have h2:=(World.ownsRow.lt HL.out k hk2).1;omega));have HO6':Hid (ownI w6 w.heap.size (.slice (some ⟨G2,0,none⟩) 19 19) (ordL.map fun (x:Nat)=>(x:Int))):=(show ownI _ _ _ _ from ownI.rfr HO.out hr6 hrw (by omega) (fun k hk hk2=>by have h1:=HVO.out k hk;have h2:=(World.ownsRow.lt HO.out k hk2).1;omega));have c6:=ownI.cell HL6.out HLL.out.symm (k:=kk) (by rw [HLL.out];exact hkk);have f6:=ownI.frozen HL6.out HLL.out.symm kk;have HGB:=Lib.hid (World.ownsRow.stored (show w6.ownsRow w.heap.size _ _ (.slice (some ⟨G1,0,none⟩) 19 19) 19 (cI L) from by have:=HL6.out;unfold ownI at this;rwa [HLL.out] at this) kk (Value.int .i64 (v:Int))).2;have HLO:Hid (∀ k,(Value.slice (some ⟨G1,0,none⟩) 19 19).ownBlock=some k→w.heap.size≤k):=(show ∀ k,_ from fun k hk=>(World.ownsRow.lt HL6.out k hk).1);clear hf6 hr6))
     go_roundw
     case rel=>exact ⟨i+1,L.set kk (v:Int),nx1,by omega,by go_num,(show _=_ by rw [List.length_set];exact HLL.out),(show FS _ _ _ _ _ _ _ _ _ _ from FR.side HF6.out hrw HVO.out HLO.out HGB.out),RFr.side (l:=L) HR6.out HLO.out HGB.out,ownI.store HL6.out HLL.out.symm kk _,ownI.far HO6'.out (fun e=>hne12 (by injection e with e;exact e.symm)) kk _,HST⟩
     case measure=>simp [intOf];omega
    ·obtain rfl:i=Q:=by omega
     have hlti:¬ (i:Int) < (i:Int):=by omega
     have HS2:Hid ((L,cur)=DL):=(show _=_ by
      rw [← HS.out,List.drop_eq_nil_of_le (by rw [List.length_take];omega)]
      rfl)
     have HDC:=Lib.hid (rdecoder_any r g n c A bs most vo cur wr wr.heap.size 19 19 (some ⟨G1,0,none⟩) L false HF.out (by have:=HL.out.rd;exact this) (Nat.le_refl _) (by omega))
     obtain ⟨NM,hNM⟩:∃ NM,N+M=NM:=⟨_,rfl⟩
     have hNMi:(N:Int)+(M:Int)=(NM:Int):=by omega
     have hNM2:NM - N=M:=by omega
     have HLC:=Lib.hid (fun w6 dv (h:FS w6 r g A n c bs most vo (decP L false cur)) (hd:DV w6 r g vo dv (decD L cur))=>rlistD_any r g n c A bs most vo (decP L false cur) w6 dv (decD L cur) NM h hd decD_none (by omega))
     have HLS2:=Lib.hid HLS.out
     rw [← HS2.out,hNM] at HLS2
     rw [← HLS2.out] at HLC
     rw [hNM] at HFULL
     clear HLS2 HLS HS2 HS HDL HF1 HR1 HF2 HR2 HG2 HO HLL hne12
     obtain ⟨all,s6⟩:=LS
     replace HFULL:Hid (s6.e=0→all.length=NM):=HFULL
     replace HRR:Hid (R=ownT bs most all N f s6):=HRR
     replace HLC:Hid (∀ w6 dv,FS w6 r g A n c bs most vo (decP L false cur)→DV w6 r g vo dv (decD L cur)→Calls Tryz.prog 132 #[.pointer (some ⟨r,0,none⟩),dv,.int .i64 (NM:Int)] w6 fun e w'=>∃ lv,e=.returned lv∧FS w' r g A n c bs most vo s6∧ownI w' w6.heap.size lv all∧RFr w6 w' r g vo vo):=HLC
     replace HO6:Hid ((s6.out.length:Int)≤most):=HO6
     by_cases he6:s6.e=0
     ·have d6:(s6.e == 0)=true:=by rw [he6];rfl
      have d6b:(s6.e != 0)=false:=by rw [he6];rfl
      have hlen:=HFULL.out he6
      have h256:256 < all.length:=by omega
      have h256i:(256:Int) < (NM:Int):=by omega
      have hgd:all.getD 256 0=all[256]:=by rw [List.getD_eq_getElem?_getD,List.getElem?_eq_getElem h256];rfl
      have HCL:Hid (∀ w' GA cl,ownI w' w.heap.size (.slice (some ⟨GA,0,none⟩) all.length cl) all→w'.cell? ⟨GA,256,none⟩=some (.int .i64 all[256])):=(show ∀ w' GA cl,_ from fun w' GA cl h=>ownI.cell h rfl h256)
      have HO1:Hid (own1 all s6=if all[256]=0 then s6.fail 4 else s6):=(show _=_ by unfold own1;rw [hgd])
      generalize all[256]=x at *
      clear hgd
      go_upto_if 57 with (first
       | (go_at_call 130;(with_reducible refine HDC.out.mono ?_);go_must (rintro e w6 ⟨dv,rfl,hf6,hr6,hd6⟩;have hs6:=(HR.out.trans hr6).size;have HR6:=Lib.hid (HR.out.trans hr6);have HLC6:=Lib.hid (HLC.out w6 dv hf6 hd6);clear hf6 hd6 hr6))
       | (go_at_call 132;(with_reducible refine HLC6.out.mono ?_);go_must (rintro e w7 ⟨lv,rfl,hf7,hl7,hr7⟩;obtain ⟨Al,cl,rfl,-,hcl,hcm⟩:=hl7.form;obtain ⟨-,GA,rfl,-,-⟩:=ownI.pos hl7 (by omega);have HL7:=Lib.hid (ownI.mono hl7 hs6);have c256:=HCL.out w7 GA cl HL7.out;have e73:=(FR.arr hf7).cell (k:=3) rfl;have HF7:=Lib.hid hf7;have HR7:=Lib.hid (HR6.out.trans hr7);clear hf7 hl7 hr7)))
      have HL7b:Hid (ownI w7 w.heap.size (.slice (some ⟨GA,0,none⟩) NM cl) all):=(show ownI w7 w.heap.size (.slice (some ⟨GA,0,none⟩) NM cl) all from by have:=HL7.out;rwa [hlen] at this)
      have hcl2:NM≤cl:=by omega
      clear HL7 HCL HLC6 HDC HLC c256 e73 HF HR HL
      go_cut [] from 10 (fun wc=>Hid (FS wc r g A n c bs most vo (own1 all s6))∧Hid (RFr w wc r g vo vo)∧Hid (ownI wc w.heap.size (.slice (some ⟨GA,0,none⟩) NM cl) all))
      case first =>
       by_cases hx:x=0
       ·have hx0:(x == 0)=true:=by rw [hx];rfl
        rw [if_pos hx] at HO1
        have HFL:=Lib.hid (rfail_any r g n c A bs most vo s6 w7 4 HF7.out)
        rw [← HO1.out] at HFL
        clear hx
        go_wp2_with (go_at_call 105;(with_reducible refine HFL.out.mono ?_);go_must (rintro e w8 ⟨rfl,hf8,hr8⟩;have HF8:=Lib.hid hf8;have HR8:=Lib.hid (HR7.out.trans hr8);have HL8:Hid (ownI w8 w.heap.size (.slice (some ⟨GA,0,none⟩) NM cl) all):=(show ownI _ _ _ _ from ownI.rfr HL7b.out hr8 hrw (by omega) (fun k hk hk2=>by have h1:=HVO.out k hk;have h2:=(World.ownsRow.lt HL7b.out k hk2).1;omega));clear hf8 hr8))
        go_meet
        case rel=>exact ⟨HF8,HR8,HL8⟩
       ·have hx0:(x == 0)=false:=beq_eq_false_iff_ne.2 hx
        rw [if_neg hx] at HO1
        go_wp2_with fail
        go_meet
        case rel=>exact ⟨(show FS _ _ _ _ _ _ _ _ _ _ by rw [HO1.out];exact HF7.out),HR7,HL7b⟩
      case rest =>
       obtain ⟨HF7c,HR7c,HL7c⟩:=hcut
       obtain ⟨s7,hs7⟩:∃ x,own1 all s6=x:=⟨_,rfl⟩
       have HO2:Hid (own2 all N s6=decP (all.take N) false s7):=(show _=_ by unfold own2;rw [hs7])
       have HO3:Hid (own3 all N s6=if noneP (all.drop N)=true then own2 all N s6 else decP (all.drop N) true (own2 all N s6)):=(show _=_ from rfl)
       have HOD:Hid (ownDD all N s6=if noneP (all.drop N)=true then none else decD (all.drop N) (own2 all N s6)):=(show _=_ from rfl)
       have HZ:Hid ((own3 all N s6).e=0→own3 all N s6=s6∧decD (all.take N) s7=some (all.take N)):=(show _→_ by rw [← hs7];exact own3_zero)
       rw [hs7] at HF7c
       have hrs7:=HR7c.out.size
       have HDC2:=Lib.hid (rdecoder_any r g n c A bs most vo s7 wc wc.heap.size N cl (some ⟨GA,0,none⟩) (all.take N) false HF7c.out (by have h1:=(ownI.rd HL7c.out).cut (k:=0) (m:=N) (by omega) (A':=some ⟨GA,0,none⟩) (fun _=>rfl);rwa [List.drop_zero] at h1) (Nat.le_refl _) (by omega))
       rw [← HO2.out] at HDC2
       have HRN:Hid (∀ w8,ownI w8 w.heap.size (.slice (some ⟨GA,0,none⟩) NM cl) all→RdI w8 w8.heap.size (some ⟨GA,N,none⟩) M (all.drop N)):=(show ∀ w8,_ from fun w8 h=>by
        have h1:=(ownI.rd h).cut (k:=N) (m:=M) (by omega) (A':=some ⟨GA,N,none⟩) (fun _=>by simp [Addr.add,(show ¬ N=0 by omega)])
        rwa [List.take_of_length_le (by rw [List.length_drop];omega)] at h1)
       have HRR2:Hid (R=if (own3 all N s6).e=0 then toksF bs most (all.take N) (ownDD all N s6) f (own3 all N s6) else own3 all N s6):=(show _=_ by rw [HRR.out];exact if_pos he6)
       clear hs7 HRR HO1 HF7 HR7 HL7b
       obtain ⟨z,hz⟩:∃ z,noneP (all.drop N)=z:=⟨_,rfl⟩
       have HNP:=Lib.hid hz
       rw [hz] at HO3 HOD
       clear hz
       generalize own2 all N s6=s8 at *
       generalize own3 all N s6=s9 at *
       generalize ownDD all N s6=D9 at *
       generalize decD (all.take N) s7=D8 at *
       go_upto_if 69 with (first
        | (go_at_call 130;(with_reducible refine HDC2.out.mono ?_);go_must (rintro e w8 ⟨d8,rfl,hf8,hr8,hd8⟩;have HF8:=Lib.hid hf8;have HR8:=Lib.hid (HR7c.out.trans hr8);have HL8:Hid (ownI w8 w.heap.size (.slice (some ⟨GA,0,none⟩) NM cl) all):=(show ownI _ _ _ _ from ownI.rfr HL7c.out hr8 hrw (by omega) (fun k hk hk2=>by have h1:=HVO.out k hk;have h2:=(World.ownsRow.lt HL7c.out k hk2).1;omega));have HD8:=Lib.hid hd8;have HNN:=Lib.hid (none_any w8.heap.size M (cl - N) (some ⟨GA,N,none⟩) (all.drop N) w8 (HRN.out w8 HL8.out) (by omega));rw [HNP.out] at HNN;clear hf8 hr8 hd8))
        | (go_at_call 133;(with_reducible refine HNN.out.mono ?_);go_must (rintro e w9 ⟨rfl,rfl⟩)))
       go_cut [9] from 10 (fun v wc=>Hid (FS wc r g A n c bs most vo s9)∧Hid (RFr w wc r g vo vo)∧Hid (DV wc r g vo v D9)∧Hid (DV wc r g vo d8 D8))
       case first =>
        cases z with
        | true =>
         replace HO3:Hid (s9=s8):=HO3
         replace HOD:Hid (D9=none):=HOD
         go_wp2_with fail
         go_meet
         case rel=>exact ⟨(show FS _ _ _ _ _ _ _ _ _ _ by rw [HO3.out];exact HF8.out),HR8,(show DV _ _ _ _ _ _ from .inl ⟨rfl,HOD.out⟩),HD8⟩
        | false =>
         replace HO3:Hid (s9=decP (all.drop N) true s8):=HO3
         replace HOD:Hid (D9=decD (all.drop N) s8):=HOD
         have HDC3:=Lib.hid (rdecoder_any r g n c A bs most vo s8 w8 w8.heap.size M (cl - N) (some ⟨GA,N,none⟩) (all.drop N) true HF8.out (HRN.out w8 HL8.out) (Nat.le_refl _) (by omega))
         rw [← HO3.out,← HOD.out] at HDC3
         go_wp2_with (go_at_call 130;(with_reducible refine HDC3.out.mono ?_);go_must (rintro e w10 ⟨d10,rfl,hf10,hr10,hd10⟩;have HF10:=Lib.hid hf10;have HR10:=Lib.hid (HR8.out.trans hr10);have HD10:=Lib.hid hd10;have HD810:=Lib.hid (HD8.out.fr hr10);clear hf10 hr10 hd10))
         go_meet
         case rel=>exact ⟨HF10,HR10,HD10,HD810⟩
       case rest =>
        obtain ⟨HFx,HRx,HDx,HD8x⟩:=hcut
        have e93:=(FR.arr HFx.out).cell (k:=3) rfl
        by_cases he9:s9.e=0
        ·have d9:(s9.e == 0)=true:=by rw [he9];rfl
         have HRE:Hid (R=toksF bs most (all.take N) D9 f s9):=(show _=_ by rw [HRR2.out,if_pos he9])
         obtain ⟨hz1,hz2⟩:=HZ.out he9
         have HDX:=HD8x.out
         rw [hz2] at HDX
         have hoo:(s9.out.length:Int)≤most:=by rw [hz1];exact HO6.out
         clear hz1 hz2
         rcases HDX with ⟨-,h0⟩ | ⟨gd,ds,rfl,h0,h1,h2⟩
         ·cases h0
         ·injection h0 with h0
          subst h0
          have HTK:=Lib.hid (rtokens_any r g n c A bs most vo s9 wc gd (all.take N) u9 D9 f HFx.out h1 h2 HDx.out hm hoo (by omega))
          rw [← HRE.out] at HTK
          clear h1 h2 hoo HRR2 HRE HO2
          go_wp2_with (go_at_call 129;(with_reducible refine HTK.out.mono ?_);go_must (rintro e w11 ⟨rfl,vo',hf11,hr11⟩;have HF11:=Lib.hid hf11;have HR11:=Lib.hid (HRx.out.trans hr11);clear hf11 hr11))
          (try simp only [Exit.inBlock,Exit.then]);first | (refine bodyPost_ret (results_none rfl _ _ _) rfl ?_) | (refine bodyPost_end (results_none rfl _ _ _) rfl ?_)
          exact ⟨rfl,vo',HF11.out,HR11.out⟩
        ·have d9:(s9.e == 0)=false:=beq_eq_false_iff_ne.2 he9
         have HRE:Hid (R=s9):=(show _=_ by rw [HRR2.out,if_neg he9])
         clear HRR2
         go_wp2_with fail
         (try simp only [Exit.inBlock,Exit.then]);first | (refine bodyPost_ret (results_none rfl _ _ _) rfl ?_) | (refine bodyPost_end (results_none rfl _ _ _) rfl ?_)
         exact ⟨rfl,vo,by rw [HRE.out];exact HFx.out,HRx.out⟩
     ·have d6:(s6.e == 0)=false:=beq_eq_false_iff_ne.2 he6
      have d6b:(s6.e != 0)=true:=by rw [bne_iff_ne];exact he6
      have HRE:Hid (R=s6):=(show _=_ by rw [HRR.out];exact if_neg he6)
      go_wp2_with (first
       | (go_at_call 130;(with_reducible refine HDC.out.mono ?_);go_must (rintro e w6 ⟨dv,rfl,hf6,hr6,hd6⟩;have hs6:=(HR.out.trans hr6).size;have HR6:=Lib.hid (HR.out.trans hr6);have HLC6:=Lib.hid (HLC.out w6 dv hf6 hd6);clear hf6 hd6 hr6))
       | (go_at_call 132;(with_reducible refine HLC6.out.mono ?_);go_must (rintro e w7 ⟨lv,rfl,hf7,hl7,hr7⟩;have e73:=(FR.arr hf7).cell (k:=3) rfl;have HF7:=Lib.hid hf7;have HR7:=Lib.hid (HR6.out.trans hr7);clear hf7 hl7 hr7)))
      (try simp only [Exit.inBlock,Exit.then]);first | (refine bodyPost_ret (results_none rfl _ _ _) rfl ?_) | (refine bodyPost_end (results_none rfl _ _ _) rfl ?_)
      exact ⟨rfl,vo,by rw [HRE.out];exact HF7.out,HR7.out⟩
end
end Go.Proofs.YtebbdifhiihfkaaGreatDoor

