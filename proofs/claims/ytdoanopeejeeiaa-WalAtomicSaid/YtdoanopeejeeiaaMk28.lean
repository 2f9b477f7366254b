/- XWl8 -/
import Derived.Test.YtdoanopeejeeiaaMk27
namespace Go.Proofs.Ytdoanopeejeeiaa
set_option linter.all false
open Go.RowKit Go.Maps
theorem chgB_desc {ps:List (Nat × Bs)} {q:Nat} (h:q < descN ps.length):(chgB ps)[q]?=some (descB ps q):=by
 unfold chgB
 rw [List.getElem?_append_left (by rw [List.length_map,List.length_range];exact h),List.getElem?_map,List.getElem?_range h]
 rfl
theorem chgB_data {ps:List (Nat × Bs)} {k:Nat} {x:Nat × Bs} (h:ps[k]?=some x):(chgB ps)[descN ps.length+k]?=some x.2:=by
 unfold chgB
 rw [List.getElem?_append_right (by rw [List.length_map,List.length_range];omega),List.length_map,List.length_range,show descN ps.length+k - descN ps.length=k by omega,List.getElem?_map,h]
 rfl
theorem flatB_len (l:List (Nat × Bs)):(l.flatMap fun x=>beB x.1 2).length=l.length * 2:=by
 induction l with
 | nil=>rfl
 | cons x l ih=>rw [List.flatMap_cons,List.length_append,ih,beB_len,List.length_cons];omega
theorem flatB_cut:∀ (l:List (Nat × Bs)) (r:Nat) (x:Nat × Bs),l[r]?=some x→((l.flatMap fun x=>beB x.1 2).drop (r * 2)).take 2=beB x.1 2
 | y :: l,0,x,h=>by
  injection h with h
  subst h
  rw [List.flatMap_cons]
  exact List.take_left' (beB_len _ _)
 | y :: l,r+1,x,h=>by
  have ih:=flatB_cut l r x h
  rw [List.flatMap_cons,show (r+1) * 2=2+r * 2 by omega,← List.drop_drop,drop_len (beB_len _ _)]
  exact ih
theorem descB_cut {ps:List (Nat × Bs)} {k:Nat} {x:Nat × Bs} (h:ps[k]?=some x):((descB ps (k / 64)).drop (k % 64 * 2)).take 2=beB x.1 2:=by
 have hk:=(List.getElem?_eq_some_iff.1 h).1
 have hr:((ps.drop (64 * (k / 64))).take 64)[k % 64]?=some x:=by
  rw [List.getElem?_take,if_pos (by omega),List.getElem?_drop,show 64 * (k / 64)+k % 64=k by omega,h]
 have hl:=flatB_len ((ps.drop (64 * (k / 64))).take 64)
 have hr2:=(List.getElem?_eq_some_iff.1 hr).1
 unfold descB
 rw [fillS_cut (by rw [hl];omega)]
 exact flatB_cut _ _ _ hr
theorem descB_len (ps:List (Nat × Bs)) (q:Nat):(descB ps q).length=256:=by
 unfold descB
 refine fillS_len ?_
 rw [flatB_len,List.length_take]
 omega
/-- What puts of a row hold. -/
def PutsL (w:World) (T:Nat→Prop) (l:List PT) (ps:List (Int × Bs)):Prop :=
 l.length=ps.length∧∀ (i:Nat) (k:Int) (bs:Bs),ps[i]?=some (k,bs)→∃ (B:Option Addr) (c:Nat),l[i]?=some ((k,B,256,c):PT)∧RowAt w T B 256 bs
theorem PutsL.later {w w':World} {T:Nat→Prop} {l:List PT} {ps:List (Int × Bs)} (h:PutsL w T l ps) (hb:Below w.heap.size w w'):PutsL w' T l ps :=
 ⟨h.1,fun i k bs e=>by
  obtain ⟨B,c,e1,e2⟩:=h.2 i k bs e
  exact ⟨B,c,e1,e2.later hb⟩⟩
theorem PutsL.fr {w w':World} {T T':Nat→Prop} {l:List PT} {ps:List (Int × Bs)} (h:PutsL w T l ps) (k:Fr T w w') (hT:TT w T T'):PutsL w' T' l ps :=
 ⟨h.1,fun i q bs e=>by
  obtain ⟨B,c,e1,e2⟩:=h.2 i q bs e
  exact ⟨B,c,e1,e2.fr k hT⟩⟩
theorem PutsL.sub {w:World} {T S:Nat→Prop} {l:List PT} {ps:List (Int × Bs)} (h:PutsL w S l ps) (hT:∀ g,T g→S g):PutsL w T l ps :=
 ⟨h.1,fun i q bs e=>by
  obtain ⟨B,c,e1,e2⟩:=h.2 i q bs e
  exact ⟨B,c,e1,e2.sub hT⟩⟩
/-- A disk's own blocks, and a row's. -/
def T6 (T:Nat→Prop) (v:Value):Nat→Prop:=fun g=>T g∨v.ownBlock=some g
theorem T6.grow {w w':World} {T:Nat→Prop} {v v':Value} (hg:w.grownBy w' v.ownBlock) (ha:v'.ownBlock=v.ownBlock∨v'.ownBlock=some w.heap.size):Fr (T6 T v) w w'∧TT w (T6 T v) (T6 T v'):=by
 refine ⟨Fr.gro2 hg (fun g e=>.inr e),fun g h=>?_⟩
 rcases h with h | h
 ·exact .inl (.inl h)
 ·rcases ha with e | e
  ·exact .inl (.inr (e ▸ h))
  ·rw [e] at h
   injection h with h
   exact .inr (by omega)
theorem T6.new {w:World} {T:Nat→Prop} {v:Value} {base:Nat} {l:List PT} (ho:ownW w base v l) (hT:∀ g,base≤g→¬ T g) (hb:base≤w.heap.size):∀ g,w.heap.size≤g→¬ T6 T v g:=fun g hg h=>by
 rcases h with h | h
 ·exact hT g (by omega) h
 ·have:=(World.ownsRow.lt ho g h).2
  omega
theorem PutsL.nil (w:World) (T:Nat→Prop):PutsL w T [] []:=⟨rfl,fun i k bs e=>by simp at e⟩
theorem PutsL.snoc {w:World} {T:Nat→Prop} {l:List PT} {ps:List (Int × Bs)} (h:PutsL w T l ps) {k:Int} {B:Option Addr} {c:Nat} {bs:Bs} (hr:RowAt w T B 256 bs):PutsL w T (l ++ [(k,B,256,c)]) (ps ++ [(k,bs)]):=by
 refine ⟨by simp [h.1],fun i q b e=>?_⟩
 rcases Nat.lt_trichotomy i ps.length with hi | hi | hi
 ·rw [List.getElem?_append_left hi] at e
  obtain ⟨B',c',e1,e2⟩:=h.2 i q b e
  exact ⟨B',c',by rw [List.getElem?_append_left (by rw [h.1];exact hi)];exact e1,e2⟩
 ·subst hi
  rw [List.getElem?_append_right (Nat.le_refl _),Nat.sub_self] at e
  injection e with e
  injection e with e1 e2
  subst e1 e2
  exact ⟨B,c,by rw [← h.1,List.getElem?_append_right (Nat.le_refl _),Nat.sub_self];rfl,hr⟩
 ·rw [List.getElem?_eq_none (by simp;omega)] at e
  cases e
/-- An own row of puts is one that lies beside the disk. -/
theorem PutsL.at {w:World} {T:Nat→Prop} {base n c:Nat} {A:Option Addr} {l:List PT} {ps:List (Int × Bs)} (h:PutsL w T l ps) (ho:ownW w base (.slice A n c) l) (hT:∀ g,base≤g→¬ T g):PutsAt w T A n ps:=by
 refine ⟨l,fun hn=>?_,ho.rd,h.1,h.2⟩
 obtain ⟨-,g,rfl,hg,hlt⟩:=ho.pos hn
 exact ⟨g,0,rfl,hT g hg,hlt⟩
theorem ips_take (ps:List (Nat × Bs)) {k:Nat} {x:Nat × Bs} (h:ps[k]?=some x):ips (ps.take (k+1))=ips (ps.take k) ++ [((x.1:Int),x.2)]:=by
 rw [List.take_add_one,h]
 unfold ips
 simp
set_option maxRecDepth 100000 in
set_option maxHeartbeats 12800000 in
theorem read_any (lo d l:Nat) (h:Hn) (s:Dk) (f:SF) (ring seq pos:Nat) (ps:List (Nat × Bs)) (n:Nat) (w:World) (H:LgOk w lo d l h s ring seq pos) (hat:At s f) (hdn:s.down=false) (hB:LogB f s.n ring seq pos ps) (hn:ps.length=n) :
  Calls Try.prog 50 #[.pointer (some ⟨l,0,none⟩),.int .i64 (n:Int)] w fun e w'=>∃ A c,e=.returned (.tuple #[.slice A n c,.int .i64 0])∧PutsAt w' (h.T d) A n (ips ps)∧Below w.heap.size w w':=by
 have hN:=H.dk.size
 have hr5:ring≤5000:=by have:=hB.r2;omega
 have hn1:1≤n:=by rw [← hn];exact List.length_pos_iff.2 hB.good.ne
 have hn2:n≤150:=by rw [← hn];exact hB.good.few
 obtain ⟨D,hD⟩:∃ D,descN n=D:=⟨_,rfl⟩
 have hDn':D=(n - 1) / 64+1:=by rw [← hD];rfl
 have HDn:=Lib.hid hDn'
 have hnd:needN n=n+D:=by unfold needN;rw [if_neg (by omega),HDn.out];omega
 have hneed:n+D≤ring:=by rw [← hnd,← hn];exact hB.good.need
 have HND:=Lib.hid (fun v w=>needW_any v n (by omega) w)
 rw [hnd] at HND
 have hsub:((n+D:Nat):Int) - (n:Int)=(D:Int):=by omega
 obtain ⟨ND,hND⟩:∃ m,n+D=m:=⟨_,rfl⟩
 rw [hND] at HND hsub
 have hND2:ND≤400:=by omega
 have HIN:=Lib.hid (fun (w':World) (hb:Below w.heap.size w w') (i:Nat) (hi:i≤5000)=>inW_any w' d l ring seq pos i (H.lg.later hb) hr5 hB.r1 hB.p hi)
 have HRD:=Lib.hid (fun (w':World) (hb:Below w.heap.size w w') (k:Nat) (hk:k < s.n)=>secR_any lo d h s f k w' (H.dk.later hb) hat hdn hk)
 have HHM:=Lib.hid (fun (w':World) (hb:Below w.heap.size w w') (k:Nat) (hk:2+ring≤k∧k < s.n)=>homeP_any w' lo d l ring seq pos h s (k:Int) (H.lg.later hb) (H.dk.later hb).arr hr5 true (decide_eq_true ⟨by omega,by omega⟩).symm)
 have HG:=Lib.hid hB
 have HL:=Lib.hid hn
 have c0:=H.lg.cell (k:=0) rfl
 have HFR:=Lib.hid H.dk.fresh
 have hr1:=hB.r1
 have hr2:=hB.r2
 clear H hat hdn hB hnd hD hn hDn'
 go_enter Try.func50,Try.ntmps50
 go_wp2_with (go_at_call 16;(with_reducible refine (HND.out _ _).mono ?_);go_must (rintro e w1 ⟨rfl,rfl⟩))
 go_loopw [6,20] (fun v6 vi wr=>∃ (k:Nat) (lp:List PT) (A6:Option Addr) (n6 c6:Nat),k≤n∧vi=.int .i64 k∧v6=.slice A6 n6 c6∧Hid (ownW wr w.heap.size (.slice A6 n6 c6) lp)∧Hid (PutsL wr (T6 (h.T d) (.slice A6 n6 c6)) lp (ips (ps.take k)))∧Hid (Below w.heap.size w wr)) (fun _ vi _=>n - (intOf vi).toNat)
 case atStart=>exact ⟨0,[],none,0,0,Nat.zero_le _,rfl,rfl,ownW.nil_ _ _,PutsL.nil _ _,Below.refl _ _⟩
 case round =>
  obtain ⟨k,lp,A6,n6,c6,hk,rfl,rfl,HO,HPL,HBW⟩:=hrel
  have hsz:=HBW.out.size
  by_cases hlt:k < n
  ·obtain ⟨⟨key,dat⟩,hx⟩:∃ x,ps[k]?=some x:=⟨_,List.getElem?_eq_getElem (show k < ps.length by rw [HL.out];exact hlt)⟩
   obtain ⟨g1,g2,-⟩:=HG.out.good.home _ (List.mem_of_getElem? hx)
   dsimp only at g1 g2
   have hkey:key < 65536:=by omega
   obtain ⟨q,hq⟩:∃ q,k / 64=q:=⟨_,rfl⟩
   obtain ⟨r,hr⟩:∃ r,k % 64=r:=⟨_,rfl⟩
   have hq64:q < D:=by rw [HDn.out];omega
   have hr64:r < 64:=by omega
   have hdiv:(k:Int).tdiv 64=(q:Int):=by rw [Int.tdiv_eq_ediv_of_nonneg (by omega)];omega
   have hdiv2:(k:Int) / 64=(q:Int):=by omega
   have hmod:(k:Int).tmod 64=(r:Int):=by rw [Int.tmod_eq_emod_of_nonneg (by omega)];omega
   have hmod2:(k:Int) % 64=(r:Int):=by omega
   have HD1:Hid (f (inN ring pos q)=descB ps q):=(show _=_ from HG.out.ring q _ (chgB_desc (by rw [HL.out];have:=HDn.out;unfold descN;omega)))
   have HD2:Hid (f (inN ring pos (D+k))=dat):=(show _=_ from HG.out.ring (D+k) _ (by have:=chgB_data hx;rw [HL.out,show descN n=D from HDn.out.symm] at this;exact this))
   have HNM:Hid (numAt (descB ps q) (r * 2) 2=key):=(show _=_ by unfold numAt;rw [← hq,← hr,descB_cut hx];exact beV_beB 2 key (by omega))
   have HDL:=Lib.hid (descB_len ps q)
   obtain ⟨Q,hQ⟩:∃ Q,D+k=Q:=⟨_,rfl⟩
   rw [hQ] at HD2
   have hDk:(D:Int)+(k:Int)=(Q:Int):=by omega
   have hQl:Q≤5000:=by omega
   have hqw:IntKind.i64.wrap (q:Int)=(q:Int):=wrap_i64_lt q (by omega)
   have hQw:IntKind.i64.wrap (Q:Int)=(Q:Int):=wrap_i64_lt Q (by omega)
   have hrw:IntKind.i64.wrap (r:Int)=(r:Int):=wrap_i64_lt r (by omega)
   have HI1:=HIN.out wr HBW.out q (by omega)
   obtain ⟨P1,hP1⟩:∃ P,inN ring pos q=P:=⟨_,rfl⟩
   obtain ⟨P2,hP2⟩:∃ P,inN ring pos Q=P:=⟨_,rfl⟩
   have hP1l:P1 < s.n:=by rw [← hP1];have:=(inN_rng (ring:=ring) (pos:=pos) (i:=q) hr1).2;omega
   have hP2l:P2 < s.n:=by rw [← hP2];have:=(inN_rng (ring:=ring) (pos:=pos) (i:=Q) hr1).2;omega
   rw [hP1] at HD1
   rw [hP2] at HD2
   have HI1:=Lib.hid (fun w' hb=>HIN.out w' hb q (by omega))
   have HI2:=Lib.hid (fun w' hb=>HIN.out w' hb Q hQl)
   rw [hP1] at HI1
   rw [hP2] at HI2
   have HR1:=Lib.hid (fun w' hb=>HRD.out w' hb P1 hP1l)
   have HR2:=Lib.hid (fun w' hb=>HRD.out w' hb P2 hP2l)
   rw [HD1.out] at HR1
   rw [HD2.out] at HR2
   have HRB:=Lib.hid (fun (w:World) A c (h:RdB w w.heap.size A 256 (descB ps q)) (hc:256≤c)=>readB_any 256 c A (descB ps q) (r * 2) 2 ((r:Int) * 2) 2 (by omega) rfl w h hc (by omega) (by omega) (by omega) (by omega))
   rw [HNM.out] at HRB
   have HHK:=Lib.hid (fun w' hb=>HHM.out w' hb key ⟨g1,g2⟩)
   have HTK:=Lib.hid (ips_take ps hx)
   obtain ⟨db,hdb⟩:∃ b,descB ps q=b:=⟨_,rfl⟩
   rw [hdb] at HR1 HRB
   have hX:=HBW.out
   have cr0:=cell_later c0 hX
   clear hx g1 g2 hP1 hP2 hdb hQ hq hr HIN HRD HHM HD1 HD2 HNM HDL
   go_upto_region 6 with fail
   go_cut [9,10] (fun v9 v10 wx=>∃ A1 c1,v9=.slice A1 256 c1∧v10=.int .i64 0∧256≤c1∧Hid (RdB wx wx.heap.size A1 256 db)∧Hid (Below wr.heap.size wr wx))
   case first =>
    have hY:=Below.refl wr.heap.size wr
    go_region_held3 (fun w'=>w'.cell? ⟨l,0,none⟩=some (.pointer (some ⟨d,0,none⟩)))
     (first | (with_reducible exact cr0) | (with_reducible exact cell_later cr0 HX9.out) | go_keep)
     (first
     | (go_at_call 55;go_loud (with_reducible refine (HI1.out _ ?_).mono ?_);(first | exact hX | exact Below.drew hX);go_must (rintro e w2 ⟨rfl,rfl⟩))
     | (go_at_call 29;(with_reducible refine (HR1.out _ ?_).mono ?_);(first | exact hX | exact Below.drew hX | exact Below.drew (Below.drew hX));go_must (rintro e w3 ⟨A1,c1,rfl,hc1,hr1',-,hb3⟩;have HR3:=Lib.hid hr1'.2.2;have HX9:Hid (Below wr.heap.size wr w3):=(show Below _ _ _ from ⟨hb3.os,hb3.tape,hb3.output,hb3.size,hb3.block⟩);clear hr1' hb3)))
    all_goals
     go_wp2_with fail
     go_meet
     case rel=>exact ⟨A1,c1,rfl,rfl,hc1,HR3,HX9⟩
   case rest =>
   obtain ⟨A1,c1,rfl,rfl,hc1,HR3,HX3⟩:=hcut
   have HX4:=Lib.hid (HBW.out.trans (HX3.out.mono hsz))
   have HRB3:=Lib.hid (HRB.out _ _ _ HR3.out hc1)
   have HHK3:=Lib.hid (HHK.out _ HX4.out)
   have HO3:=Lib.hid (HO.out.later HX3.out)
   have HPL3:=Lib.hid (HPL.out.later HX3.out)
   have hX4:=HX4.out
   have cs0:=cell_later c0 hX4
   have hs4:=hX4.size
   clear cr0 HO HPL HR3 HRB HHK hX HI1 HR1
   generalize hW4:wc=W4 at *
   go_upto_region 12 with (first
    | (go_at_call 30;(with_reducible refine HRB3.out.mono ?_);go_must (rintro e w5 ⟨rfl,rfl⟩))
    | (go_at_call 52;(with_reducible refine HHK3.out.mono ?_);go_must (rintro e w5 ⟨rfl,rfl⟩)))
   go_cut [13,10] (fun v13 v10 wx=>∃ A2 c2,v13=.slice A2 256 c2∧v10=.int .i64 0∧Hid (ownB wx W4.heap.size (.slice A2 256 c2) dat)∧Hid (Below W4.heap.size W4 wx))
   case first =>
    have hY:=Below.refl W4.heap.size W4
    go_region_held3 (fun w'=>w'.cell? ⟨l,0,none⟩=some (.pointer (some ⟨d,0,none⟩)))
     (first | (with_reducible exact cs0) | (with_reducible exact cell_later cs0 HX9.out) | go_keep)
     (first
     | (go_at_call 55;(with_reducible refine (HI2.out _ ?_).mono ?_);(first | exact hX4 | exact Below.drew hX4);go_must (rintro e w2 ⟨rfl,rfl⟩))
     | (go_at_call 29;(with_reducible refine (HR2.out _ ?_).mono ?_);(first | exact hX4 | exact Below.drew hX4 | exact Below.drew (Below.drew hX4));go_must (rintro e w3 ⟨A2,c2,rfl,hc2,-,hr2',hb3⟩;have HR2':Hid (ownB w3 W4.heap.size (.slice A2 256 c2) dat):=(show ownB _ _ _ _ from hr2');have HX9:Hid (Below W4.heap.size W4 w3):=(show Below _ _ _ from ⟨hb3.os,hb3.tape,hb3.output,hb3.size,hb3.block⟩);clear hr2' hb3)))
    all_goals
     go_wp2_with fail
     go_meet
     case rel=>exact ⟨A2,c2,rfl,rfl,HR2',HX9⟩
   case rest =>
   obtain ⟨A2,c2,rfl,rfl,HR2',HX5⟩:=hcut
   have HO5:=Lib.hid (HO3.out.later HX5.out)
   have HPL5:=Lib.hid (HPL3.out.later HX5.out)
   have HX6:=Lib.hid (HX4.out.trans (HX5.out.mono hs4))
   have hs6:=HX6.out.size
   have HRX:=Lib.hid (RowAt.own2 HR2'.out (fun z hz=>T6.new HO3.out HFR.out hs4 z hz))
   have hlk:lp.length≤150:=by rw [HPL5.out.1];unfold ips;rw [List.length_map,List.length_take];omega
   clear HO3 HPL3 HI2 HR2 cs0 hX4 HRB3 HHK3 HX3
   go_wp2_with (at_builtin;(refine wpList_appendW rfl (.tmp 66) (.tmp 70) rfl w.heap.size (.slice A6 n6 c6) lp rfl (HO5.out.alloc _) (wc.heap.size+1) 1 1 (some ⟨wc.heap.size,0,none⟩) [((key:Int),A2,256,c2)] rfl (rd_oneW wc ((key:Int),A2,256,c2) _ _) (by omega) (by rw [World.size_alloc];omega) ?_;intro v7 w7 ho7 hg7 hb7 ha7;have HO7:=Lib.hid ho7;have HG7:=Lib.hid (T6.grow (T:=h.T d) hg7 ha7);have HB7:=Lib.hid ((HX6.out.alloc hs6 _).trans hb7);obtain ⟨A7,c7,e7,-,-,-⟩:=ho7.form;obtain ⟨n7,hn7⟩:∃ n7,(lp ++ [((key:Int),A2,256,c2)]).length=n7:=⟨_,rfl⟩;rw [hn7] at e7;subst e7;clear ho7 hg7 hb7 ha7 hn7))
   go_roundw
   case rel =>
    refine ⟨k+1,_,A7,n7,c7,by omega,by go_num,rfl,HO7,?_,HB7⟩
    rw [HTK.out]
    exact (PutsL.later (HPL5.out.snoc HRX.out) ((Below.refl _ _).alloc (Nat.le_refl _) _)).fr HG7.out.1 HG7.out.2
   case measure=>simp [intOf];omega
  ·obtain rfl:k=n:=by omega
   have hall:ps.take k=ps:=List.take_of_length_le (by rw [HL.out];exact Nat.le_refl _)
   rw [hall] at HPL
   have HFR':=HFR
   clear hall HIN HRD HHM
   go_wp2_with fail
   go_ret2
   obtain ⟨A9,c9,e9,-,-,-⟩:=HO.out.form
   have hll:lp.length=k:=by rw [HPL.out.1];unfold ips;rw [List.length_map,HL.out]
   rw [hll] at e9
   injection e9 with e1 e2 e3
   subst e2
   exact ⟨A6,c6,rfl,(HPL.out.sub (fun g hg=>.inl hg)).at HO.out HFR.out,HBW.out⟩
end Go.Proofs.Ytdoanopeejeeiaa

