/- XPc3 XPc4 XPcP0 -/
import Derived.Test.YtebbdifhiihfkaaGreatDoorMm03
import Derived.Test.YtebbdifhiihfkaaGreatDoorMm04
import Derived.Test.YtebbdifhiihfkaaGreatDoorMm05
import Derived.Test.YtebbdifhiihfkaaGreatDoorMm02
namespace Go.Proofs.YtebbdifhiihfkaaGreatDoor
set_option linter.all false
set_option maxRecDepth 100000
set_option maxHeartbeats 6400000
open Go.RowKit
/-- What a chunk at place k says: its length, kind, data, sum; and the error. -/
def nxL(bs:List UInt8)(k:Nat):Nat:=beV ((bs.drop k).take 4)
def nxK(bs:List UInt8)(k:Nat):List UInt8:=(bs.drop (k+4)).take 4
def nxD(bs:List UInt8)(k:Nat):List UInt8:=(bs.drop (k+8)).take (nxL bs k)
def nxX(bs:List UInt8)(k:Nat):Nat:=beV ((bs.drop (k+8+nxL bs k)).take 4)
def nxC(bs:List UInt8)(k:Nat):Nat:=crc ((bs.drop (k+4)).take (4+nxL bs k))
def nxE(bs:List UInt8)(k:Nat):Nat :=
 if bs.length<k+4 then 2 else if 2147483647<nxL bs k then 4 else if bs.length<k+8 then 2 else if(nxK bs k).all zbp=false then 4 else
 if bs.length<k+12+nxL bs k then 2 else if nxX bs k=nxC bs k then 0 else 5
theorem znm{bs:List UInt8}{k:Nat}(g:k<=bs.length)(h:bs.length<k+4):rdR beV bs (k:Int) 4=(0,2):=by
 unfold rdR;rw[if_neg (by omega),if_pos (by omega)]
theorem zdu{bs:List UInt8}{k:Nat}(h:k+4<=bs.length):rdR beV bs (k:Int) 4=(((nxL bs k:Nat):Int),0):=by
 unfold rdR nxL;rw[if_neg (by omega),if_neg (by omega),Int.toNat_natCast];rfl
theorem zdg(l:List UInt8):beV (l.take 4)<4294967296:=by
 have h:=zgH (l.take 4) (l.take 4).length (nlr _);rw[List.take_length] at h;have h2:(l.take 4).length<=4:=by rw[llt];omega
 have g:256 ^ (l.take 4).length<=256 ^ 4:=Nat.pow_le_pow_right (by decide) h2;omega
theorem zrY(B n c k:Nat)(A:Option Addr)(bs:List UInt8)(w:World)(h:RdB w B A n bs)(hB:B<=w.heap.size)(hc:n<=c)(hn:n<=1000000)(hk:k<n)(D:nxE bs k≠0):
  Calls Tryz.prog 21 #[.slice A n c,.int .i64 (k:Int)] w fun e w'=>e=.returned (.tuple #[.agg #[.string ⟨#[]⟩,.slice none 0 0],.int .i64 0,.int .i64 (nxE bs k:Int)])/\Below w.heap.size w w':=by
 have hl:=h.len;have V:=yo (fun w1 (h:RdB w1 B A n bs)=>zb7 B n c A bs (k:Int) 4 w1 h hc (by omega));obtain⟨b,o,rfl,aB,I⟩:=h.at_ (show 0<n by omega);have HR:=yo h;clear h I;have R:Hid (RdB (w.alloc (.cells #[.string ⟨#[]⟩,.slice none 0 0] 33)) B (some ⟨b,o,none⟩) n bs):=(show RdB _ _ _ _ _ from Rd.alloc HR.o hB (.cells #[.string ⟨#[]⟩,.slice none 0 0] 33));have G:=yo ((Below.refl w.heap.size w).alloc (nlr _) (.cells #[.string ⟨#[]⟩,.slice none 0 0] 33));have r:=yo (V.o (w.alloc (.cells #[.string ⟨#[]⟩,.slice none 0 0] 33)) R.o);clear V;by_cases h1:n<k+4
 ·rw[znm (by omega) (by omega)] at r
  have e:nxE bs k=2:=by unfold nxE;rw[if_pos (by omega)]
  rw[e];clear e D;go_enter Tryz.func21,Tryz.ntmps21;go_wp2_with (go_at_call 18;(with_reducible refine r.o.mono ?_);go_must (rintro e w1 ⟨rfl,rfl⟩));refine bodyPost_ret (v:=.tuple #[.agg #[.string ⟨#[]⟩,.slice none 0 0],.int .i64 0,.int .i64 2]) ?_ rfl ?_
  ·unfold results
   go_simp
  ·exact⟨rfl,G.o⟩
 ·rw[zdu (by omega)] at r
  have a2:nxL bs k<4294967296:=zdg _;by_cases h2:2147483647<nxL bs k
  ·have e:nxE bs k=4:=by unfold nxE;rw[if_neg (by omega),if_pos h2]
   rw[e];clear e D;generalize nxL bs k=L at *;have ah:(2147483647:Int)<(L:Int):=(by omega);go_enter Tryz.func21,Tryz.ntmps21;go_wp2_with (go_at_call 18;(with_reducible refine r.o.mono ?_);go_must (rintro e w1 ⟨rfl,rfl⟩));refine bodyPost_ret (v:=.tuple #[.agg #[.string ⟨#[]⟩,.slice none 0 0],.int .i64 0,.int .i64 4]) ?_ rfl ?_
   ·unfold results
    go_simp
   ·exact⟨rfl,G.o⟩
  ·by_cases h3:n<k+8
   ·have e:nxE bs k=2:=by unfold nxE;rw[if_neg (by omega),if_neg h2,if_pos (by omega)]
    rw[e];clear e D;generalize nxL bs k=L at *;have ah:¬(2147483647:Int)<(L:Int):=(by omega);obtain⟨d,hd⟩:∃d,n=k+d:=⟨n-k,by omega⟩;have ap:IntKind.i64.wrap ((n:Int)-(k:Int))=(d:Int):=by rw[show(n:Int)-(k:Int)=(d:Int) by omega];exact zaa _ (by omega)
    have al:(d:Int)<8:=(by omega);have U:=yo hd;clear hd;go_enter Tryz.func21,Tryz.ntmps21;go_wp2_with (go_at_call 18;(with_reducible refine r.o.mono ?_);go_must (rintro e w1 ⟨rfl,rfl⟩));refine bodyPost_ret (v:=.tuple #[.agg #[.string ⟨#[]⟩,.slice none 0 0],.int .i64 0,.int .i64 2]) ?_ rfl ?_
    ·unfold results
     go_simp
    ·exact⟨rfl,G.o⟩
   ·obtain⟨d,hd⟩:∃d,n=k+d:=⟨n-k,by omega⟩
    have ap:IntKind.i64.wrap ((n:Int)-(k:Int))=(d:Int):=by rw[show(n:Int)-(k:Int)=(d:Int) by omega];exact zaa _ (by omega)
    have al:¬(d:Int)<8:=(by omega);have ah:¬(2147483647:Int)<(nxL bs k:Int):=(by omega);obtain⟨q,z⟩:∃x,k+4=x:=⟨_,rfl⟩;obtain⟨g,E⟩:∃x,k+8=x:=⟨_,rfl⟩;have aF:IntKind.i64.wrap ((k:Int)+4)=(q:Int):=by rw[show(k:Int)+4=(q:Int) by omega];exact zaa _ (by omega)
    have a8:IntKind.i64.wrap ((k:Int)+8)=(g:Int):=by rw[show(k:Int)+8=(g:Int) by omega];exact zaa _ (by omega)
    have C:=yo (zc2 (c:=c-q) (RdB.cut R.o (k:=q) (m:=g-q) (show q+(g-q)<=n by omega) (A':=some ⟨b,o+q,none⟩) (fun _=>by simp[Addr.add];omega)));have F:Hid ((bs.drop q).take (g-q)=nxK bs k):=(show _=_ by unfold nxK;rw[z,show g-q=4 by omega]);rw[F.o] at C;have g1:q<=g:=(by omega);have g2:g<=c:=(by omega);have g3:g<=n:=(by omega);have g4:¬c=q:=(by omega);have g5:¬c-q=0:=(by omega);have aC:(q:Int)<=(g:Int):=(by omega);have a6:(g:Int)<=(c:Int):=(by omega);have a4:=C.o;have U:=yo hd;have av:=yo z;have aq:=yo E;clear hd z E;have J:=yo (G.o.alloc (by rw[wsa];omega) (.cells #[.string ⟨(nxK bs k).toArray⟩,.slice none 0 0] 33));have aa:(⟨(nxK bs k).toArray⟩:ByteArray).size<=140737488355328:=(by show(nxK bs k).toArray.size<=_;rw[List.size_toArray];unfold nxK;rw[llt];omega);have t:=yo (fun w=>zhM ⟨(nxK bs k).toArray⟩ w aa);have Z:(⟨(nxK bs k).toArray⟩:ByteArray).data.toList=nxK bs k:=rfl;rw[Z] at t;clear Z aa;by_cases h4:(nxK bs k).all zbp=false
    ·have e:nxE bs k=4:=by unfold nxE;rw[if_neg (by omega),if_neg h2,if_neg (by have:=U.o;omega),if_pos h4]
     rw[e];rw[h4] at t;clear e D h4 F C;generalize nxL bs k=L at *;generalize nxK bs k=kk at *;go_enter Tryz.func21,Tryz.ntmps21;go_wp2_with (first
      |(go_at_call 18;(with_reducible refine r.o.mono ?_);go_must (rintro e w1 ⟨rfl,rfl⟩))
      |(go_at_call 48;(with_reducible refine(t.o _).mono ?_);go_must (rintro e w1 ⟨rfl,rfl⟩)))
     refine bodyPost_ret (v:=.tuple #[.agg #[.string ⟨#[]⟩,.slice none 0 0],.int .i64 0,.int .i64 4]) ?_ rfl ?_
     ·unfold results
      go_simp
     ·exact⟨rfl,J.o⟩
    ·have S:(nxK bs k).all zbp=true:=by cases h:(nxK bs k).all zbp with|true=>rfl|false=>exact absurd h h4
     rw[S] at t;have az:IntKind.i64.wrap ((d:Int)-12)=(d:Int)-12:=(by have:=U.o;unfold IntKind.wrap;simp[IntKind.signed,IntKind.bits];omega);by_cases h5:n<k+12+nxL bs k
     ·have e:nxE bs k=2:=by unfold nxE;rw[if_neg (by omega),if_neg h2,if_neg (by have:=U.o;omega),if_neg h4,if_pos (by omega)]
      have ax:(d:Int)-12<(nxL bs k:Int):=(by have:=U.o;omega);rw[e];clear e D h4 S F C;generalize nxL bs k=L at *;generalize nxK bs k=kk at *;go_enter Tryz.func21,Tryz.ntmps21;go_wp2_with (first
       |(go_at_call 18;(with_reducible refine r.o.mono ?_);go_must (rintro e w1 ⟨rfl,rfl⟩))
       |(go_at_call 48;(with_reducible refine(t.o _).mono ?_);go_must (rintro e w1 ⟨rfl,rfl⟩)))
      refine bodyPost_ret (v:=.tuple #[.agg #[.string ⟨#[]⟩,.slice none 0 0],.int .i64 0,.int .i64 2]) ?_ rfl ?_
      ·unfold results
       go_simp
      ·exact⟨rfl,J.o⟩
     ·have ai:=U.o
      have z:=av.o;have E:=aq.o;obtain⟨s,ag⟩:∃x,g+nxL bs k=x:=⟨_,rfl⟩;have ax:¬(d:Int)-12<(nxL bs k:Int):=(by omega);have a3:IntKind.i64.wrap ((g:Int)+(nxL bs k:Int))=(s:Int):=by rw[show(g:Int)+(nxL bs k:Int)=(s:Int) by omega];exact zaa _ (by omega)
      have af:Hid (RdB ((w.alloc (.cells #[.string ⟨#[]⟩,.slice none 0 0] 33)).alloc (.cells #[.string ⟨(nxK bs k).toArray⟩,.slice none 0 0] 33)) B (some ⟨b,o,none⟩) n bs):=(show RdB _ _ _ _ _ from Rd.alloc R.o (by rw[wsa];omega) _);have au:Hid (Arr ((w.alloc (.cells #[.string ⟨#[]⟩,.slice none 0 0] 33)).alloc (.cells #[.string ⟨(nxK bs k).toArray⟩,.slice none 0 0] 33)) (w.heap.size+1) [.string ⟨(nxK bs k).toArray⟩,.slice none 0 0]):=(show Arr _ _ _ by
       have:=Arr.new (w.alloc (.cells #[.string ⟨#[]⟩,.slice none 0 0] 33)) [.string ⟨(nxK bs k).toArray⟩,.slice none 0 0] 33;rwa[wsa] at this)
      have ay:Hid (Arr ((w.alloc (.cells #[.string ⟨#[]⟩,.slice none 0 0] 33)).alloc (.cells #[.string ⟨(nxK bs k).toArray⟩,.slice none 0 0] 33)) w.heap.size [.string ⟨#[]⟩,.slice none 0 0]):=(show Arr _ _ _ from Arr.alloc (Arr.new w [.string ⟨#[]⟩,.slice none 0 0] 33) _);have P:Hid (((w.alloc (.cells #[.string ⟨#[]⟩,.slice none 0 0] 33)).alloc (.cells #[.string ⟨(nxK bs k).toArray⟩,.slice none 0 0] 33)).heap.size=w.heap.size+2):=(show _=_ by rw[wsa,wsa]);have ak:=yo (fun T (h:RdB T B (some ⟨b,o,none⟩) n bs) (hz:B<=T.heap.size)=>zpA B (s-g) (c-g) (some ⟨b,o+g,none⟩) ((bs.drop g).take (s-g)) T (RdB.cut h (show g+(s-g)<=n by omega) (fun _=>by simp[Addr.add];omega)) hz (by omega));have ae:=yo (fun T (h:RdB T B (some ⟨b,o,none⟩) n bs)=>zjr B (s-q) (c-q) (some ⟨b,o+q,none⟩) ((bs.drop q).take (s-q)) T (RdB.cut h (show q+(s-q)<=n by omega) (fun _=>by simp[Addr.add];omega)) (by omega));have O:=yo (fun w1 (h:RdB w1 B (some ⟨b,o,none⟩) n bs)=>zb7 B n c (some ⟨b,o,none⟩) bs (s:Int) 4 w1 h hc (by omega));rw[zdu (show s+4<=bs.length by omega)] at O;have HX:Hid (nxL bs s=nxX bs k):=(show _=_ by unfold nxX;rw[show k+8+nxL bs k=s by omega];rfl);have ab:Hid (crc ((bs.drop q).take (s-q))=nxC bs k):=(show _=_ by unfold nxC;rw[z,show s-q=4+nxL bs k by omega]);have ao:nxL bs s<4294967296:=zdg _;rw[ab.o] at ae;rw[HX.o] at O ao;have a5:IntKind.u32.wrap (nxX bs k:Int)=(nxX bs k:Int):=(by show(nxX bs k:Int) % 4294967296=_;omega);have q1:g<=s:=(by omega);have q2:s<=c:=(by omega);have q3:q<=s:=(by omega);have q4:¬c=g:=(by omega);have q5:¬c-g=0:=(by omega);have aD:(g:Int)<=(s:Int):=(by omega);have a9:(s:Int)<=(c:Int):=(by omega);have aI:(q:Int)<=(s:Int):=(by omega);have aH:=yo ag;have an:=yo hB;have e:nxE bs k=5:=by
       unfold nxE at D ⊢;rw[if_neg (by omega),if_neg h2,if_neg (by omega),if_neg h4,if_neg (by omega)] at D ⊢;by_cases hh:nxX bs k=nxC bs k
       ·rw[if_pos hh] at D;exact absurd rfl D
       ·rw[if_neg hh]
      have aA:((nxX bs k:Int) != (nxC bs k:Int))=true:=by
       rw[bne_iff_ne];intro hh;unfold nxE at e;rw[if_neg (by omega),if_neg h2,if_neg (by omega),if_neg h4,if_neg (by omega),if_pos (by omega)] at e;cases e
      rw[e];clear e D h4 S F C ai ag HX ab z E;generalize (bs.drop g).take (s-g)=DD at *;generalize nxX bs k=X at *;generalize nxC bs k=CC at *;generalize nxL bs k=L at *;generalize nxK bs k=kk at *;go_enter Tryz.func21,Tryz.ntmps21;go_wp2_with (first
       |(go_at_call 18;(with_reducible refine r.o.mono ?_);go_must (rintro e w1 ⟨rfl,rfl⟩))
       |(go_at_call 48;(with_reducible refine(t.o _).mono ?_);go_must (rintro e w1 ⟨rfl,rfl⟩))
       |(go_at_call 49;(with_reducible refine(ak.o _ af.o (by rw[P.o];omega)).mono ?_);go_must (rintro e w5 ⟨v5,rfl,N,u⟩;obtain⟨A5,c5,rfl,-,-,-⟩:=N.form;have M:=yo (au.o.later u);have a0:=M.o.cell (k:=0) rfl;have a1:=M.o.cell (k:=1) rfl;have aK:=M.o.frozen 1;have ar:=yo (RdB.blw af.o (u.mono (by rw[P.o];omega)));have aw:=yo (J.o.trans (u.mono (by rw[P.o];omega)));have aE:=yo N;have a7:=u.size;have aj:=yo (ay.o.later u);have ac:Hid (RdB (w5.setCell ⟨w.heap.size+1,1,none⟩ (.slice A5 DD.length c5)) B (some ⟨b,o,none⟩) n bs):=(show RdB _ _ _ _ _ from Rd.setCell ar.o (Nat.le_succ_of_le an.o) _);have W:=yo (O.o _ ac.o);have Y:=yo (ae.o _ ac.o);have H:=yo (aj.o.far (p:=⟨w.heap.size+1,1,none⟩) (Nat.ne_of_gt (Nat.lt_succ_self w.heap.size)) (.slice A5 DD.length c5));have b0:=H.o.cell (k:=0) rfl;have b1:=H.o.cell (k:=1) rfl;have aG:=H.o.frozen 0;have aJ:=H.o.frozen 1;have am:=yo (aw.o.setCell (p:=⟨w.heap.size+1,1,none⟩) (Nat.le_succ _) (.slice A5 DD.length c5));clear N u))
       |(go_at_call 18;(with_reducible refine W.o.mono ?_);go_must (rintro e w7 ⟨rfl,rfl⟩))
       |(go_at_call 50;(with_reducible refine Y.o.mono ?_);go_must (rintro e w8 ⟨rfl,rfl⟩)))
      refine bodyPost_ret (v:=.tuple #[.agg #[.string ⟨#[]⟩,.slice none 0 0],.int .i64 0,.int .i64 5]) ?_ rfl ?_
      ·unfold results
       go_simp
      ·exact⟨rfl,(am.o.setCell (p:=⟨w.heap.size,0,none⟩) (nlr _) _).setCell (p:=⟨w.heap.size,1,none⟩) (nlr _) _⟩
end Go.Proofs.YtebbdifhiihfkaaGreatDoor

/- png: the next chunk, a sound one. -/
namespace Go.Proofs.YtebbdifhiihfkaaGreatDoor
set_option linter.all false
set_option maxRecDepth 100000
set_option maxHeartbeats 6400000
open Go.RowKit
theorem zom{w:World}{base g:Nat}{v:Value}{bs:List UInt8}(h:ownB w base v bs)(hg:g<base):v.ownBlock≠some g:=by
 intro e;have:=olt h g e;omega
theorem ztK(B n c k:Nat)(A:Option Addr)(bs:List UInt8)(w:World)(h:RdB w B A n bs)(hB:B<=w.heap.size)(hc:n<=c)(hn:n<=1000000)(h2:¬2147483647<nxL bs k)(aj:(nxK bs k).all zbp=true)(h5:k+12+nxL bs k<=n)(F:nxX bs k=nxC bs k):
  Calls Tryz.prog 21 #[.slice A n c,.int .i64 (k:Int)] w fun e w'=>∃v,e=.returned (.tuple #[.agg #[.string ⟨(nxK bs k).toArray⟩,v],.int .i64 ((nxL bs k:Int)+12),.int .i64 0])/\ownB w' w.heap.size v (nxD bs k)/\Below w.heap.size w w'/\v.ownBlock≠none:=by
 have h1:¬n<k+4:=by omega
 have h3:¬n<k+8:=by omega
 have hk:k<n:=by omega
 have hl:=h.len;have T:=yo (fun w1 (h:RdB w1 B A n bs)=>zb7 B n c A bs (k:Int) 4 w1 h hc (by omega));obtain⟨b,o,rfl,aE,H⟩:=h.at_ (show 0<n by omega);have HR:=yo h;clear h H;have P:Hid (RdB (w.alloc (.cells #[.string ⟨#[]⟩,.slice none 0 0] 33)) B (some ⟨b,o,none⟩) n bs):=(show RdB _ _ _ _ _ from Rd.alloc HR.o hB (.cells #[.string ⟨#[]⟩,.slice none 0 0] 33));have ar:=yo ((Below.refl w.heap.size w).alloc (nlr _) (.cells #[.string ⟨#[]⟩,.slice none 0 0] 33));have G:=yo (T.o (w.alloc (.cells #[.string ⟨#[]⟩,.slice none 0 0] 33)) P.o);clear T;rw[zdu (by omega)] at G;have a4:nxL bs k<4294967296:=zdg _;obtain⟨d,hd⟩:∃d,n=k+d:=⟨n-k,by omega⟩;have aF:IntKind.i64.wrap ((n:Int)-(k:Int))=(d:Int):=by rw[show(n:Int)-(k:Int)=(d:Int) by omega];exact zaa _ (by omega)
 have a8:¬(d:Int)<8:=by omega
 have aP:¬(2147483647:Int)<(nxL bs k:Int):=by omega
 obtain⟨r,z⟩:∃x,k+4=x:=⟨_,rfl⟩;obtain⟨q,C⟩:∃x,k+8=x:=⟨_,rfl⟩;have aI:IntKind.i64.wrap ((k:Int)+4)=(r:Int):=by rw[show(k:Int)+4=(r:Int) by omega];exact zaa _ (by omega)
 have aB:IntKind.i64.wrap ((k:Int)+8)=(q:Int):=by rw[show(k:Int)+8=(q:Int) by omega];exact zaa _ (by omega)
 have O:=yo (zc2 (c:=c-r) (RdB.cut P.o (k:=r) (m:=q-r) (show r+(q-r)<=n by omega) (A':=some ⟨b,o+r,none⟩) (fun _=>by simp[Addr.add];omega)));have W:Hid ((bs.drop r).take (q-r)=nxK bs k):=(show _=_ by unfold nxK;rw[z,show q-r=4 by omega]);rw[W.o] at O;have g1:r<=q:=by omega
 have g2:q<=c:=by omega
 have g3:q<=n:=by omega
 have g4:¬c=r:=by omega
 have g5:¬c-r=0:=by omega
 have aG:(r:Int)<=(q:Int):=by omega
 have a9:(q:Int)<=(c:Int):=by omega
 have a6:=O.o;have HD:=yo hd;have ax:=yo z;have au:=yo C;clear hd z C;have al:=yo (ar.o.alloc (by rw[wsa];omega) (.cells #[.string ⟨(nxK bs k).toArray⟩,.slice none 0 0] 33));have ab:(⟨(nxK bs k).toArray⟩:ByteArray).size<=140737488355328:=(by show(nxK bs k).toArray.size<=_;rw[List.size_toArray];unfold nxK;rw[llt];omega);have N:=yo (fun w=>zhM ⟨(nxK bs k).toArray⟩ w ab);have Z:(⟨(nxK bs k).toArray⟩:ByteArray).data.toList=nxK bs k:=rfl;rw[Z] at N;clear Z ab;rw[aj] at N;have a3:IntKind.i64.wrap ((d:Int)-12)=(d:Int)-12:=by have:=HD.o;unfold IntKind.wrap;simp[IntKind.signed,IntKind.bits];omega
 have ak:=HD.o;have z:=ax.o;have C:=au.o;obtain⟨s,ai⟩:∃x,q+nxL bs k=x:=⟨_,rfl⟩;have aM:¬(d:Int)-12<(nxL bs k:Int):=by omega
 have a5:IntKind.i64.wrap ((q:Int)+(nxL bs k:Int))=(s:Int):=by rw[show(q:Int)+(nxL bs k:Int)=(s:Int) by omega];exact zaa _ (by omega)
 have ag:Hid (RdB ((w.alloc (.cells #[.string ⟨#[]⟩,.slice none 0 0] 33)).alloc (.cells #[.string ⟨(nxK bs k).toArray⟩,.slice none 0 0] 33)) B (some ⟨b,o,none⟩) n bs):=(show RdB _ _ _ _ _ from Rd.alloc P.o (by rw[wsa];omega) _);have aw:Hid (Arr ((w.alloc (.cells #[.string ⟨#[]⟩,.slice none 0 0] 33)).alloc (.cells #[.string ⟨(nxK bs k).toArray⟩,.slice none 0 0] 33)) (w.heap.size+1) [.string ⟨(nxK bs k).toArray⟩,.slice none 0 0]):=(show Arr _ _ _ by
  have:=Arr.new (w.alloc (.cells #[.string ⟨#[]⟩,.slice none 0 0] 33)) [.string ⟨(nxK bs k).toArray⟩,.slice none 0 0] 33;rwa[wsa] at this)
 have az:Hid (Arr ((w.alloc (.cells #[.string ⟨#[]⟩,.slice none 0 0] 33)).alloc (.cells #[.string ⟨(nxK bs k).toArray⟩,.slice none 0 0] 33)) w.heap.size [.string ⟨#[]⟩,.slice none 0 0]):=(show Arr _ _ _ from Arr.alloc (Arr.new w [.string ⟨#[]⟩,.slice none 0 0] 33) _);have t:Hid (((w.alloc (.cells #[.string ⟨#[]⟩,.slice none 0 0] 33)).alloc (.cells #[.string ⟨(nxK bs k).toArray⟩,.slice none 0 0] 33)).heap.size=w.heap.size+2):=(show _=_ by rw[wsa,wsa]);have aa:=yo (fun S (h:RdB S B (some ⟨b,o,none⟩) n bs) (hz:B<=S.heap.size)=>zoh B (s-q) (c-q) ⟨b,o+q,none⟩ ((bs.drop q).take (s-q)) S (RdB.cut h (show q+(s-q)<=n by omega) (fun _=>by simp[Addr.add];omega)) hz (by omega));have af:=yo (fun S (h:RdB S B (some ⟨b,o,none⟩) n bs)=>zjr B (s-r) (c-r) (some ⟨b,o+r,none⟩) ((bs.drop r).take (s-r)) S (RdB.cut h (show r+(s-r)<=n by omega) (fun _=>by simp[Addr.add];omega)) (by omega));have M:=yo (fun w1 (h:RdB w1 B (some ⟨b,o,none⟩) n bs)=>zb7 B n c (some ⟨b,o,none⟩) bs (s:Int) 4 w1 h hc (by omega));rw[zdu (show s+4<=bs.length by omega)] at M;have HX:Hid (nxL bs s=nxX bs k):=(show _=_ by unfold nxX;rw[show k+8+nxL bs k=s by omega];rfl);have ac:Hid (crc ((bs.drop r).take (s-r))=nxC bs k):=(show _=_ by unfold nxC;rw[z,show s-r=4+nxL bs k by omega]);have ap:nxL bs s<4294967296:=zdg _;rw[ac.o] at af;rw[HX.o] at M ap;have a7:IntKind.u32.wrap (nxX bs k:Int)=(nxX bs k:Int):=by show(nxX bs k:Int) % 4294967296=_;omega
 have q1:q<=s:=by omega
 have q2:s<=c:=by omega
 have q3:r<=s:=by omega
 have q4:¬c=q:=by omega
 have q5:¬c-q=0:=by omega
 have aH:(q:Int)<=(s:Int):=by omega
 have aC:(s:Int)<=(c:Int):=by omega
 have aL:(r:Int)<=(s:Int):=by omega
 have aK:=yo ai;have ao:=yo hB;have aD:((nxX bs k:Int) != (nxC bs k:Int))=false:=by rw[F];exact bne_self_eq_false _
 have a2:IntKind.i64.wrap ((nxL bs k:Int)+12)=(nxL bs k:Int)+12:=by rw[show(nxL bs k:Int)+12=((nxL bs k+12:Nat):Int) by omega];exact zaa _ (by omega)
 have ah:Hid ((bs.drop q).take (s-q)=nxD bs k):=(show _=_ by unfold nxD;rw[C,show s-q=nxL bs k by omega]);rw[ah.o] at aa;clear F aj W O ak ai HX ac z C;clear ah;generalize nxD bs k=DD at *;generalize nxX bs k=X at *;generalize nxC bs k=CC at *;generalize nxL bs k=L at *;generalize nxK bs k=kk at *;go_enter Tryz.func21,Tryz.ntmps21;go_wp2_with (first
  |(go_at_call 18;(with_reducible refine G.o.mono ?_);go_must (rintro e w1 ⟨rfl,rfl⟩))
  |(go_at_call 48;(with_reducible refine(N.o _).mono ?_);go_must (rintro e w1 ⟨rfl,rfl⟩))
  |(go_at_call 49;(with_reducible refine(aa.o _ ag.o (by rw[t.o];omega)).mono ?_);go_must (rintro e w5 ⟨v5,rfl,J,u,U⟩;obtain⟨R,c5,rfl,-,-,-⟩:=J.form;have I:=yo (aw.o.later u);have a0:=I.o.cell (k:=0) rfl;have a1:=I.o.cell (k:=1) rfl;have aO:=I.o.frozen 1;have av:=yo (RdB.blw ag.o (u.mono (by rw[t.o];omega)));have ay:=yo (al.o.trans (u.mono (by rw[t.o];omega)));have E:=yo J;have aq:=yo U;have aA:=u.size;have am:=yo (az.o.later u);have ae:Hid (RdB (w5.setCell ⟨w.heap.size+1,1,none⟩ (.slice R DD.length c5)) B (some ⟨b,o,none⟩) n bs):=(show RdB _ _ _ _ _ from Rd.setCell av.o (Nat.le_succ_of_le ao.o) _);have V:=yo (M.o _ ae.o);have Y:=yo (af.o _ ae.o);have D:=yo (am.o.far (p:=⟨w.heap.size+1,1,none⟩) (Nat.ne_of_gt (Nat.lt_succ_self w.heap.size)) (.slice R DD.length c5));have b0:=D.o.cell (k:=0) rfl;have b1:=D.o.cell (k:=1) rfl;have aJ:=D.o.frozen 0;have aN:=D.o.frozen 1;have an:=yo (ay.o.setCell (p:=⟨w.heap.size+1,1,none⟩) (Nat.le_succ _) (.slice R DD.length c5));clear J u U))
  |(go_at_call 18;(with_reducible refine V.o.mono ?_);go_must (rintro e w7 ⟨rfl,rfl⟩))
  |(go_at_call 50;(with_reducible refine Y.o.mono ?_);go_must (rintro e w8 ⟨rfl,rfl⟩)))
 refine bodyPost_ret (v:=.tuple #[.agg #[.string ⟨kk.toArray⟩,.slice R DD.length c5],.int .i64 ((L:Int)+12),.int .i64 0]) ?_ rfl ?_
 ·unfold results
  go_simp
 ·refine⟨_,rfl,?_,(an.o.setCell (p:=⟨w.heap.size,0,none⟩) (nlr _) _).setCell (p:=⟨w.heap.size,1,none⟩) (nlr _) _,aq.o⟩
  have h1:=ownB.far (ownB.far (ownB.far E.o (g:=w.heap.size+1) (zom E.o (by rw[t.o];omega)) 1 (.slice R DD.length c5)) (g:=w.heap.size) (zom E.o (by rw[t.o];omega)) 0 (.string ⟨kk.toArray⟩)) (g:=w.heap.size) (zom E.o (by rw[t.o];omega)) 1 (.slice R DD.length c5);exact h1.mono (by rw[t.o];omega)
end Go.Proofs.YtebbdifhiihfkaaGreatDoor

/- png: the chunks that a reader sees, plainly. -/
namespace Go.Proofs.YtebbdifhiihfkaaGreatDoor
set_option linter.all false
open Go.RowKit
abbrev CK:=List UInt8×List UInt8
def markL:List UInt8:=[137,80,78,71,13,10,26,10]
/-- The chunks from place k on. -/
def ckF(bs:List UInt8):Nat->Nat->List CK->Nat×List CK
 |0,_,acc=>(0,acc)
 |f+1,k,acc=>if k<bs.length then(if nxE bs k=0 then ckF bs f (k+(nxL bs k+12)) (acc++[(nxK bs k,nxD bs k)]) else(nxE bs k,[])) else(0,acc)
def zab(bs:List UInt8):Nat×List CK:=if bs.take 8=markL then ckF bs bs.length 8 [] else(4,[])
theorem zhw{bs:List UInt8}{k:Nat}(h:¬k<bs.length)(g:List CK):∀f,ckF bs f k g=(0,g)
 |0=>rfl
 |f+1=>by unfold ckF;rw[if_neg h]
theorem ziA{bs:List UInt8}{k f:Nat}(h:k<bs.length)(h0:nxE bs k=0)(g:List CK):ckF bs (f+1) k g=ckF bs f (k+(nxL bs k+12)) (g++[(nxK bs k,nxD bs k)]):=by
 conv=>lhs;unfold ckF
 rw[if_pos h,if_pos h0]
theorem zhx{bs:List UInt8}{k f:Nat}(h:k<bs.length)(h0:nxE bs k≠0)(g:List CK):ckF bs (f+1) k g=(nxE bs k,[]):=by
 conv=>lhs;unfold ckF
 rw[if_pos h,if_neg h0]
theorem zh7{bs:List UInt8}{k:Nat}(h:nxE bs k=0):¬2147483647<nxL bs k/\(nxK bs k).all zbp=true/\k+12+nxL bs k<=bs.length/\nxX bs k=nxC bs k:=by
 unfold nxE at h;split at h
 ·cases h
 ·split at h
  ·cases h
  ·split at h
   ·cases h
   ·split at h
    ·cases h
    ·split at h
     ·cases h
     ·split at h
      ·rename_i h1 h2 o h4 q g
       refine⟨h2,?_,by omega,g⟩;cases e:(nxK bs k).all zbp with
       |true=>rfl
       |false=>exact absurd e h4
      ·cases h
/-- A chunk as Chunks gives it. -/
def zhy(x:CK):Prop:=x.1.length=4/\x.1.all zbp=true/\x.2.length<=2147483647
def zbo:List CK->Nat
 | []=>0
 |x :: l=>x.2.length+12+zbo l
theorem ze9(a b:List CK):zbo (a++b)=zbo a+zbo b:=by
 induction a with
 |nil=>simp[zbo]
 |cons x a ih=>rw[List.cons_append,zbo,zbo,ih];omega
theorem zhz{bs:List UInt8}{k:Nat}(h:nxE bs k=0):zhy (nxK bs k,nxD bs k)/\(nxD bs k).length=nxL bs k:=by
 obtain⟨h1,h2,o,h4⟩:=zh7 h;have g:(nxD bs k).length=nxL bs k:=by unfold nxD;rw[llt,lld];omega
 refine⟨⟨?_,h2,?_⟩,g⟩
 ·show(nxK bs k).length=4
  unfold nxK;rw[llt,lld];omega
 ·show(nxD bs k).length<=_
  omega
theorem zlj{bs:List UInt8}:∀f k acc,(∀x∈acc,zhy x)->∀x∈(ckF bs f k acc).2,zhy x
 |0,_,acc,h=>h
 |f+1,k,acc,h=>by
  by_cases hk:k<bs.length
  ·by_cases h0:nxE bs k=0
   ·rw[ziA hk h0]
    refine zlj f _ _ fun x hx=>?_
    rcases List.mem_append.1 hx with hx|hx
    ·exact h x hx
    ·obtain rfl:=List.mem_singleton.1 hx
     exact(zhz h0).1
   ·rw[zhx hk h0]
    intro x hx;cases hx
  ·rw[zhw hk]
   exact h
theorem znn{bs:List UInt8}:∀f k acc,zbo acc+8<=k->k<=bs.length->zbo (ckF bs f k acc).2+8<=bs.length
 |0,_,acc,h,hk=>nlt h hk
 |f+1,k,acc,h,hle=>by
  by_cases hk:k<bs.length
  ·by_cases h0:nxE bs k=0
   ·rw[ziA hk h0]
    have g:=(zhz h0).2;have:=zh7 h0;refine znn f _ _ ?_ (by omega);rw[ze9];show zbo acc+((nxD bs k).length+12+0)+8<=_;omega
   ·rw[zhx hk h0]
    show 0+8<=_;omega
  ·rw[zhw hk]
   exact nlt h hle
theorem zbO{bs:List UInt8}:∀x∈(zab bs).2,zhy x:=by
 unfold zab;split
 ·exact zlj _ _ _ (fun x hx=>by cases hx)
 ·intro x hx;cases hx
theorem zlk{bs:List UInt8}(h:bs.take 8=markL):8<=bs.length:=by
 have:=congrArg List.length h;rw[llt] at this;have e:markL.length=8:=rfl;omega
theorem zbL{bs:List UInt8}:zbo (zab bs).2<=bs.length:=by
 unfold zab;split
 ·rename_i h
  have:=znn bs.length 8 ([]:List CK) (by show 0+8<=8;omega) (zlk h);omega
 ·exact Nat.zero_le _
theorem zbU:∀l:List CK,l.length<=zbo l
 | []=>nlr _
 |x :: l=>by have:=zbU l;rw[List.length_cons,zbo];omega
def zaX:List UInt8:=[73,72,68,82]
def zbB:List UInt8:=[80,76,84,69]
def zaU:List UInt8:=[73,68,65,84]
def zcl:List UInt8:=[73,69,78,68]
/-- May chunks stand so? -/
def za4(l:List CK):List UInt8:=l.flatMap fun x=>if x.1=zaU then x.2 else[]
def zcc(k:List UInt8):Bool:=k==zaX ||k==zbB ||k==zaU ||k==zcl
def zlb(x:CK):Bool:=x.1==zbB ||x.1==zaU
def zll(l:List CK)(d:List UInt8)(col:UInt8):Bool:=!l.any zlb && decide (0<d.length/\d.length % 3=0/\d.length<=768/\col≠0/\col≠4)
def isD(x:CK):Bool:=x.1==zaU
def zeO(l:List CK):Bool:=match l.getLast? with|some x=>isD x|none=>true
def zlm(l:List CK):Bool:=!l.any isD ||zeO l
def zaP(l:List CK)(col:UInt8)(i:Nat)(x:CK):Bool :=
 (x.1==zaX && decide (0<i)) ||(x.1==zbB && !zll (l.take i) x.2 col) ||(x.1==zaU && !zlm (l.take i)) ||(x.1==zcl) != decide (i+1=l.length) ||
 (decide (i+1=l.length) && decide (0<x.2.length)) ||(!zcc x.1 && decide ((x.1.getD 0 0).toNat<=90))
def zap(l:List CK):List UInt8:=(l.getD 0 ([],[])).2
def zcq(l:List CK):UInt8:=(zap l).getD 9 0
def zaV(l:List CK):Prop:=0<l.length/\(l.getD 0 ([],[])).1=zaX/\(zap l).length=13/\(∀i x,l[i]?=some x->zaP l (zcq l) i x=false)/\l.any isD=true
theorem zfa:∀l:List CK,(za4 l).length<=zbo l
 | []=>nlr _
 |x :: l=>by
  have:=zfa l;unfold za4 at this ⊢;rw[List.flatMap_cons,lla,zbo];have e:(if x.1=zaU then x.2 else[]).length<=x.2.length:=by
   split
   ·exact nlr _
   ·exact Nat.zero_le _
  omega
theorem zj0{l:List CK}{i:Nat}{x:CK}(h:l[i]?=some x):za4 (l.take (i+1))=za4 (l.take i)++(if x.1=zaU then x.2 else[]):=by
 rw[List.take_add_one,h];unfold za4;rw[List.flatMap_append];simp
end Go.Proofs.YtebbdifhiihfkaaGreatDoor

