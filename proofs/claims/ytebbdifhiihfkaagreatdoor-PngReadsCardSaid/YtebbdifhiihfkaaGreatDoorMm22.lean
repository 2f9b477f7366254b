/- XLz4 XFl16 XBestP XFirst7 XPack -/
import Derived.Test.YtebbdifhiihfkaaGreatDoorMm21
import Derived.Test.YtebbdifhiihfkaaGreatDoorMm19
import Derived.Test.YtebbdifhiihfkaaGreatDoorMm20
import Derived.Test.YtebbdifhiihfkaaGreatDoorMm05
import Derived.Test.YtebbdifhiihfkaaGreatDoorMm04
namespace Go.Proofs.YtebbdifhiihfkaaGreatDoor
set_option linter.all false
set_option maxRecDepth 100000
set_option maxHeartbeats 3200000
open Go.RowKit
theorem Ch.grown{w w':World}{c m i:Nat}{g:Value}{bs:List UInt8}{row:Option Nat}(h:Ch w c m i g bs)(hg:w.grownBy w' row)(h1:row≠some c)(h2:row≠some m)(q:g.ownBlock=none\/g.ownBlock≠row):Ch w' c m i g bs:=by
 refine⟨?_,h.map.keep (hg.block m h.map.lt (fun e=>h2 e.symm)),World.ownsRow.kept h.own hg q,h.lt⟩;have o:=h.arr.lt;obtain⟨t,ht⟩:=h.arr;exact⟨t,(hg.block c o (fun e=>h1 e.symm)).trans ht⟩
theorem ownK.rfr{w w':World}{r g:Nat}{pv o v:Value}{l:List (Nat×Nat×Nat)}(h:ownK w (r+1) v l)(B:RFr w w' r g pv o)(C:g<r)(D:Dis pv v):ownK w' (r+1) v l:=by
 have A:∀k,v.ownBlock=some k->w'.heap[k]?=w.heap[k]?:=fun k u=>by
  have:=olt h k u;exact B.block k this.2 (by omega) (by omega) (fun e=>D k e u)
 refine⟨h.1,?_⟩;rcases h.2 with z | ⟨g,t,q,rfl,s,hg,rest⟩
 ·exact .inl z
 ·exact .inr ⟨g,t,q,rfl,s,(A g rfl).trans hg,rest⟩
theorem Dis.rfr{w w':World}{r g:Nat}{pv o v:Value}(h:∀k,v.ownBlock=some k->k<w.heap.size)(s:RFr w w' r g pv o)(t:Dis pv v):Dis o v:=by
 intro k q hv;rcases s.own with e | ⟨j,u,e⟩
 ·exact t k (e.symm.trans q) hv
 ·rw[e] at q
  injection q with q;have:=h k hv;omega
theorem Dis.app{n:Nat}{g v v':Value}(q:Dis g v)(hp:∀k,g.ownBlock=some k->k<n)(r:v'.ownBlock=v.ownBlock\/v'.ownBlock=some n):Dis g v':=by
 intro k o hv;rcases r with e|e
 ·exact q k o (e.symm.trans hv)
 ·rw[e] at hv
  injection hv with hv;have:=hp k o;omega
theorem zsU{b:List UInt8}{f i:Nat}(h:i<b.length):zdC b (f+1) i=zhE b i :: zdC b f (i+zew b i):=if_pos h
theorem zoW{b:List UInt8}{i:Nat}(h:b.length<=i):∀f,zdC b f i=[]
 |0=>rfl
 |f+1=>if_neg (by omega)
theorem RFr.below3{w w':World}{r g B:Nat}{pv o:Value}{i:Nat}{bs:List UInt8}(t:RFr w w' r g pv o)(h:Ch w r g i pv bs)(s:B<=g):Below B w w':=by
 have h1:=h.map.lt;have h2:=h.lt;exact t.below (by omega) (by omega) s (fun k q=>by have:=(olt h.own k q).1;omega)
theorem zkz{w w2:World}{c m i nv:Nat}{s:Value}{r:Option Addr}{bs:List UInt8}{D:List Tok}(h:Ch w2 c m i s bs)(q:ownK w2 (c+1) (.slice r D.length nv) D)(C:Dis s (.slice r D.length nv))(B:Below m w w2)(o g:Obj):
  ownK ((w2.alloc o).alloc g) (c+1) (.slice r D.length nv) D/\c+1<=((w2.alloc o).alloc g).heap.size /\
   ∀(u:Value) (t:World),((w2.alloc o).alloc g).grownBy t (Value.slice r D.length nv).ownBlock->Below (c+1) ((w2.alloc o).alloc g) t->(u.ownBlock=(Value.slice r D.length nv).ownBlock\/u.ownBlock=some ((w2.alloc o).alloc g).heap.size) ->
    Ch t c m i s bs/\Dis s u/\Below m w t:=by
 have H:=h.arr.lt;have E:=h.lt;have hs:=B.size;have I:=h.map.lt;have A:m<=w2.heap.size:=by omega
 refine⟨(q.alloc _).alloc _,by rw[wsa,wsa];omega,fun u t hg z G=>?_⟩;refine⟨((h.alloc o).alloc g).grown hg (ownK.ne q (by omega)) (ownK.ne q (by omega)) ?_,Dis.app C (fun k q=>?_) G,?_⟩
 ·cases e:s.ownBlock with
  |none=>exact .inl rfl
  |some k=>exact .inr (fun F=>C k e F.symm)
 ·have:=(olt h.own k q).2
  rw[wsa,wsa];omega
 ·exact((B.alloc A o).alloc (by rw[wsa];omega) g).trans (z.mono (by omega))
theorem zsV(B n c0:Nat)(A:Option Addr)(bs:List UInt8)(w:World)(h:RdB w B A n bs)(hB:B<=w.heap.size)(hn:n<=40000)(N:n<=c0):
  Calls Tryz.prog 117 #[.slice A n c0] w (zl6 (zdD bs) w):=by
 have HR:=yo h;have hl:=h.len;have aB:∀(t:TypeId) (w:World),(Instr.makeMap t none).run Tryz.prog w=.ok (.map (some w.heap.size)) (w.alloc (.map #[] 0)):=fun _ _=>rfl
 have aK:¬(40000:Int)<(n:Int):=by omega
 clear h;go_enter Tryz.func117,Tryz.ntmps117;go_wp2_with fail;generalize ay:(w.alloc _).alloc _=w1;obtain⟨m,hm⟩:∃m,w.heap.size=m:=⟨_,rfl⟩;obtain⟨c,hc⟩:∃c,w.heap.size+1=c:=⟨_,rfl⟩;simp only[hc];have a6:Hid (Ch w1 c m 0 (.slice none 0 0) bs):=(show Ch _ _ _ _ _ _ by
  rw[<-ay,<-hc,<-hm];refine⟨?_,?_,?_,Nat.lt_succ_self _⟩
  ·have:=Arr.new (w.alloc (.map #[] 0)) [.map (some w.heap.size),.slice none 0 0] 181
   rw[wsa] at this;exact this
  ·have e:zaT bs 0=fun _=>0:=rfl
   rw[e];exact(isM3.made w).alloc _
  ·exact ownI.nil_ _ _)
 have a7:Hid (Below m w w1):=(show Below _ _ _ by rw[<-ay,<-hm];exact((Below.refl w.heap.size w).alloc (nlr _) (.map #[] 0)).alloc (by simp) _);have a4:Hid (ownK w1 (c+1) (.slice none 0 0) []):=ownK.nil_ _ _;have a2:Hid (Dis (.slice none 0 0) (.slice none 0 0)):=(show Dis _ _ from fun k hk=>by cases hk);have a3:Hid ([]++zdC bs n 0=zdD bs):=(show _=_ by rw[<-hl];rfl);have a8:m<c:=by omega
 clear ay aB;rw[hm] at hB hc;have X:=yo hB;go_loopw [6,5] (fun vi vl wr=>∃(i f:Nat) (D:List Tok) (u:Value),i<=n/\vi=.int .i64 i/\n<=i+f/\D.length<=i/\Hid (D++zdC bs f i=zdD bs)/\Hid (Ch wr c m i u bs)/\Hid (ownK wr (c+1) vl D)/\Hid (Dis u vl)/\Hid (Below m w wr)) (fun vi _ _=>n-(intOf vi).toNat)
 case atStart=>exact⟨0,n,[],.slice none 0 0,Nat.zero_le _,rfl,by omega,nlr _,a3,a6,a4,a2,a7⟩
 case round =>
  clear a3 a6 a4 a2 a7;obtain⟨i,f,D,u,hi,rfl,hf,aH,HE,HC,HK,HD,HB⟩:=hrel;obtain⟨Av,nv,rfl,-⟩:=HK.o.form;obtain⟨wo,rfl⟩:∃wo:World,wo=wr:=⟨_,rfl⟩;by_cases hlt:i<n
  ·have aE:(i:Int)<(n:Int):=by omega
   obtain⟨f,rfl⟩:∃g,f=g+1:=⟨f-1,by omega⟩;rw[zsU (by omega)] at HE;have aA:=zkx (b:=bs) (at_:=i) (by omega);have G:Hid (zew bs i=if(zbd bs i).1=0 then 1 else(zbd bs i).1):=(show _=_ from rfl);have H:Hid (zhE bs i=if(zbd bs i).1=0 then(0,0,(bs.getD i 0).toNat) else((zbd bs i).1,(zbd bs i).2,0)):=(show _=_ from rfl);have aj:Hid (RdB wo B A n bs):=HR.o.blw (HB.o.mono X.o);have a9:=yo (zq1 B n c0 c m i A bs u wo HC.o aj.o hlt hn N);have ax:=znT bs i;generalize (zbd bs i).1=a at *;generalize (zbd bs i).2=d at *;have HX:Hid (∀w2,(∃q,w2=wo.drewN q)->Ch w2 c m i u bs/\ownK w2 (c+1) (.slice Av D.length nv) D/\Below m w w2/\RdB w2 B A n bs):=(show ∀w2,_ by
    rintro w2 ⟨q,rfl⟩;exact⟨HC.o.drewN q,HK.o.drewN q,zag HB.o q,Rd.drewN aj.o q⟩)
   by_cases ha:a=0
   ·have d1:((a:Int)==0)=true:=by rw[ha];rfl
    obtain⟨b,o,x,rfl,hb,aD,e1⟩:=aj.o.byte hlt;have x8:=x.toNat_lt;rw[if_pos ha] at G H;rw[G.o,H.o,zdm aD.o] at HE;clear ax G H aA;have aq:=yo (fun w2 (h1:Ch w2 c m i u bs) (h2:ownK w2 (c+1) (.slice Av D.length nv) D) (h3:Below m w w2)=>zkz h1 h2 HD.o h3 (.cells #[.int .i64 0,.int .i64 0,.int .i64 (x.toNat:Int)] 184) (.cells #[.int .i64 0,.int .i64 0,.int .i64 (x.toNat:Int)] 184));have af:(D++[(0,0,x.toNat)]).length=D.length+1:=(by simp);have an:D.length+1<=1099511627776:=(by omega);go_wp2_with (first
     |(go_at_call 144;(with_reducible refine a9.o.mono ?_);go_must (rintro e w2 ⟨rfl,E⟩;obtain⟨P,ag,F,am⟩:=HX.o w2 E;have aF:w2.cell? ⟨b,o+i,none⟩=some (.int .u8 (x.toNat:Int)):=(by obtain⟨q,rfl⟩:=E;exact e1);have aI:=F.size;have aJ:b<w2.heap.size:=(by omega);have aG:¬b=w2.heap.size:=(by omega);obtain⟨R,al,aa⟩:=aq.o w2 P ag F;have az:=yo R;have ap:=yo aa;have a0:Hid (RdK ((w2.alloc (.cells #[.int .i64 0,.int .i64 0,.int .i64 (x.toNat:Int)] 184)).alloc (.cells #[.int .i64 0,.int .i64 0,.int .i64 (x.toNat:Int)] 184)) (w2.heap.size+1+1) (some ⟨w2.heap.size+1,0,none⟩) 1 [(0,0,x.toNat)]):=(show RdK _ _ _ _ _ by have:=znt (w2.alloc (.cells #[.int .i64 0,.int .i64 0,.int .i64 (x.toNat:Int)] 184)) (0,0,x.toNat) 184 (0,0);rw[wsa] at this;exact this);clear E P ag F am R aa))
     |(at_builtin;go_must (refine zfR rfl (.tmp 38) (.tmp 40) rfl (c+1) (.slice Av D.length nv) D rfl az.o (w2.heap.size+1+1) 1 1 (some ⟨w2.heap.size+1,0,none⟩) [(0,0,x.toNat)] rfl a0.o an al ?_;intro v5 O r ab V T;obtain⟨M,C,U⟩:=ap.o v5 O ab V T;obtain⟨A5,c5,rfl,-⟩:=r.form;rw[af] at r C;have Z:=yo M;have I:=yo C;have av:=yo U;have Y:=yo r;clear r ab V T M C U)))
    have W:Hid (RFr O O c m u u):=RFr.refl _ _ _ _;have z:Hid (Ch O c m (i+0) u bs):=(show Ch _ _ _ _ _ _ from Z.o);go_loopw [43] (fun vj wr=>∃(j:Nat) (J:Value),j<=1/\vj=.int .i64 j/\Hid (Ch wr c m (i+j) J bs)/\Hid (RFr O wr c m u J)) (fun vj _=>1-(intOf vj).toNat)
    case atStart=>exact⟨0,u,Nat.zero_le _,rfl,z,W⟩
    case round =>
     clear W z;obtain⟨j,J,aC,rfl,S,s⟩:=hrel;have ak:Hid (Below m w wr):=(show Below _ _ _ from av.o.trans (s.o.below3 Z.o (nlr _)));by_cases hj:j<1
     ·have ah:(j:Int)<1:=by omega
      have ar:=yo (zl9 B n c0 c m (i+j) _ bs J wr S.o (HR.o.blw (ak.o.mono X.o)) X.o (by omega) hn N);go_wp2_with ((go_at_call 145;(with_reducible refine ar.o.mono ?_);go_must (rintro e w6 ⟨rfl,vr,ae,L⟩;have ai:=yo ae;have ao:=yo (RFr.trans s.o L);clear ae L)));go_roundw
      case rel=>exact⟨j+1,vr,by omega,by go_num,ai,ao⟩
      case measure=>simp[intOf];omega
     ·obtain rfl:j=1:=by omega
      have ah:¬(1:Int)<1:=(by omega);have ac:=fun k hk=>(olt Y.o k hk).2
      have a1:=yo (ownK.rfr Y.o s.o a8 I.o);have aw:=yo (Dis.rfr ac s.o I.o);have au:Hid (D++[(0,0,x.toNat)]++zdC bs f (i+1)=zdD bs):=(show _=_ by rw[<-HE.o];simp);clear ac;go_wp2_with fail;go_roundw
      case rel=>exact⟨i+1,by omega,by go_num,f,by omega,D++[(0,0,x.toNat)],by rw[af];omega,au,J,S,a1,aw⟩
      case measure=>simp[intOf];omega
   ·have d1:((a:Int)==0)=false:=bef (by omega)
    obtain⟨g3,g4,g5,g6,g7,g8⟩:3<=a/\a<=258/\i+a<=bs.length/\1<=d/\d<=32768/\d<=i:=by rcases ax with h|h;exact absurd h ha;exact h
    rw[if_neg ha] at G H;rw[G.o,H.o] at HE;clear ax G H aA;have aq:=yo (fun w2 (h1:Ch w2 c m i u bs) (h2:ownK w2 (c+1) (.slice Av D.length nv) D) (h3:Below m w w2)=>zkz h1 h2 HD.o h3 (.cells #[.int .i64 (a:Int),.int .i64 (d:Int),.int .i64 0] 184) (.cells #[.int .i64 (a:Int),.int .i64 (d:Int),.int .i64 0] 184));have af:(D++[(a,d,0)]).length=D.length+1:=(by simp);have an:D.length+1<=1099511627776:=(by omega);go_wp2_with (first
     |(go_at_call 144;(with_reducible refine a9.o.mono ?_);go_must (rintro e w2 ⟨rfl,E⟩;obtain⟨P,ag,F,am⟩:=HX.o w2 E;obtain⟨R,al,aa⟩:=aq.o w2 P ag F;have az:=yo R;have ap:=yo aa;have a0:Hid (RdK ((w2.alloc (.cells #[.int .i64 (a:Int),.int .i64 (d:Int),.int .i64 0] 184)).alloc (.cells #[.int .i64 (a:Int),.int .i64 (d:Int),.int .i64 0] 184)) (w2.heap.size+1+1) (some ⟨w2.heap.size+1,0,none⟩) 1 [(a,d,0)]):=(show RdK _ _ _ _ _ by have:=znt (w2.alloc (.cells #[.int .i64 (a:Int),.int .i64 (d:Int),.int .i64 0] 184)) (a,d,0) 184 (0,0);rw[wsa] at this;exact this);clear E P ag F am R aa))
     |(at_builtin;go_must (refine zfR rfl (.tmp 38) (.tmp 40) rfl (c+1) (.slice Av D.length nv) D rfl az.o (w2.heap.size+1+1) 1 1 (some ⟨w2.heap.size+1,0,none⟩) [(a,d,0)] rfl a0.o an al ?_;intro v5 O r ab V T;obtain⟨M,C,U⟩:=ap.o v5 O ab V T;obtain⟨A5,c5,rfl,-⟩:=r.form;rw[af] at r C;have Z:=yo M;have I:=yo C;have av:=yo U;have Y:=yo r;clear r ab V T M C U)))
    have W:Hid (RFr O O c m u u):=RFr.refl _ _ _ _;have z:Hid (Ch O c m (i+0) u bs):=(show Ch _ _ _ _ _ _ from Z.o);go_loopw [43] (fun vj wr=>∃(j:Nat) (J:Value),j<=a/\vj=.int .i64 j/\Hid (Ch wr c m (i+j) J bs)/\Hid (RFr O wr c m u J)) (fun vj _=>a-(intOf vj).toNat)
    case atStart=>exact⟨0,u,Nat.zero_le _,rfl,z,W⟩
    case round =>
     clear W z;obtain⟨j,J,aC,rfl,S,s⟩:=hrel;have ak:Hid (Below m w wr):=(show Below _ _ _ from av.o.trans (s.o.below3 Z.o (nlr _)));by_cases hj:j<a
     ·have ah:(j:Int)<(a:Int):=by omega
      have ar:=yo (zl9 B n c0 c m (i+j) _ bs J wr S.o (HR.o.blw (ak.o.mono X.o)) X.o (by omega) hn N);go_wp2_with ((go_at_call 145;(with_reducible refine ar.o.mono ?_);go_must (rintro e w6 ⟨rfl,vr,ae,L⟩;have ai:=yo ae;have ao:=yo (RFr.trans s.o L);clear ae L)));go_roundw
      case rel=>exact⟨j+1,vr,by omega,by go_num,ai,ao⟩
      case measure=>simp[intOf];omega
     ·obtain rfl:j=a:=by omega
      have ah:¬(j:Int)<(j:Int):=(by omega);have ac:=fun k hk=>(olt Y.o k hk).2
      have a1:=yo (ownK.rfr Y.o s.o a8 I.o);have aw:=yo (Dis.rfr ac s.o I.o);have au:Hid (D++[(j,d,0)]++zdC bs f (i+j)=zdD bs):=(show _=_ by rw[<-HE.o];simp);clear ac;go_wp2_with fail;go_roundw
      case rel=>exact⟨i+j,by omega,by go_num,f,by omega,D++[(j,d,0)],by rw[af];omega,au,J,S,a1,aw⟩
      case measure=>simp[intOf];omega
  ·obtain rfl:i=n:=by omega
   have a5:Hid (D=zdD bs):=(show _=_ by rw[<-HE.o,zoW (by omega),List.append_nil]);go_wp2_with fail;go_ret2;refine⟨Av,D.length,nv,rfl,by rw[a5.o],?_,by rw[hm];exact HB.o⟩;rw[<-a5.o];exact ownK.rd HK.o
end Go.Proofs.YtebbdifhiihfkaaGreatDoor

/- flate: Deflate. -/
namespace Go.Proofs.YtebbdifhiihfkaaGreatDoor
set_option linter.all false
set_option maxRecDepth 100000
set_option maxHeartbeats 6400000
open Go.RowKit
theorem WrFr.blw{w w':World}{g B:Nat}{pv o:Value}{bs:List UInt8}{L:List Nat}(s:WrFr w w' g pv o)(h:Wr w g pv bs L)(r:B<=g)(hs:B<=w.heap.size):Below B w w' :=
 s.below hs r (fun k q=>by have:=(olt h.2.1 k q).1;omega)
def zbh(bs:List UInt8)(ts:List Tok):Nat->List Nat
 |0=>zcw bs
 |1=>zfy bs ts
 |_=>zdl bs ts
theorem zq2(bs:List UInt8)(ts:List Tok)(k:Nat):(zbh bs ts k).length<=(zcw bs).length:=by
 have h1:(zfy bs ts).length<=(zcw bs).length:=by unfold zfy;split<;>omega
 have h2:(zdl bs ts).length<=(zcw bs).length:=by unfold zdl;split<;>omega
 match k with
 |0=>exact nlr _
 |1=>exact h1
 |_+2=>exact h2
theorem zm2(B n c:Nat)(A:Option Addr)(bs:List UInt8)(ts:List Tok)(w:World)(h:RdB w B A n bs)(hB:B<=w.heap.size)(hn:n<=40000)
  (ap:Calls Tryz.prog 117 #[.slice A n c] w (zl6 ts w)) (C:∀t∈ts,zci t) (cu:zbI ts<=40000) :
  Calls Tryz.prog 97 #[.slice A n c] w fun e w'=>∃v bz,e=.returned (.tuple #[v,.int .i64 0])/\ownB w' w.heap.size v bz/\WB bz (zdl bs ts)/\Below w.heap.size w w':=by
 have HR:=yo h;have b1:=yo ap;have bw:=yo C;have c4:ts.length<=40000:=nlt (zm1 ts) cu;have aT:=yo (fun w=>zj7 w);have aQ:=yo (fun w=>zg6 1 1 rfl (by decide) w);have aE:=yo (fun w=>zg6 2 2 rfl (by decide) w);have ar:Hid (∀k,k<=ts.length->(zbM 1).length+((ts.take k).flatMap (zbY fixL fixD)).length+100<=1000000):=(show ∀k,_ from fun k hk=>by
  have h1:=zkv zjB zjC (ts:=ts.take k) (fun t ht=>⟨C t (List.mem_of_mem_take ht),zqU (C t (List.mem_of_mem_take ht))⟩);have h2:=zg9 ts k;rw[zc9];omega)
 have b5:Hid ((zdW (zcE ts) (zcm ts)).length<=8000):=(show _<=_ from zqW (zlU ts).2 (zl0 ts).2 (zjz ts) (zjA ts));have aj:Hid (∀k,k<=ts.length->(zbM 2++zdW (zcE ts) (zcm ts)).length+((ts.take k).flatMap (zbY (zcE ts) (zcm ts))).length+100<=1000000):=(show ∀k,_ from fun k hk=>by
  have h1:=zkv (zjz ts) (zjA ts) (ts:=ts.take k) (fun t ht=>⟨C t (List.mem_of_mem_take ht),zqV C t (List.mem_of_mem_take ht)⟩);have h2:=zg9 ts k;have h3:=b5.o;rw[lla,zc9];omega)
 have aA:Hid (∀t∈ts,zci t/\zgk fixL fixD t):=(show ∀t∈_,_ from fun t ht=>⟨C t ht,zqU (C t ht)⟩);have aD:Hid (∀t∈ts,zci t/\zgk (zcE ts) (zcm ts) t):=(show ∀t∈_,_ from fun t ht=>⟨C t ht,zqV C t ht⟩);have aX:=yo (zjz ts);have bi:=yo (zjA ts);have aY:=yo (zlU ts);have bk:=yo (zl0 ts);have bA:=yo (zi0 bs);have hl:=h.len;clear h ap C;obtain⟨N,hN⟩:∃N,ts.length=N:=⟨_,rfl⟩;obtain⟨N1,bl⟩:∃N,(zcE ts).length=N:=⟨_,rfl⟩;obtain⟨N2,bc⟩:∃N,(zcm ts).length=N:=⟨_,rfl⟩;rw[bl] at aY;rw[bc] at bk;rw[hN] at ar aj c4;have HN:=yo hN;have c0:=yo bl;have c7:=yo bc;obtain⟨q1,q2⟩:=aY.o;obtain⟨q3,q4⟩:=bk.o;have cm:Hid (zbh bs ts 0=zcw bs):=(show _=_ from rfl);clear hN bl bc aY bk hl;go_enter Tryz.func97,Tryz.ntmps97;go_wp2_with (first
  |(go_at_call 117;(with_reducible refine b1.o.mono ?_);go_must (rintro e w1 ⟨At,nt,ct,rfl,bM,bG,bm⟩;have b9:=bM.trans HN.o;subst b9;have a1:=yo bG;have bh:=yo bm;have bY:=bm.size;obtain⟨g,q⟩:∃b,w1.heap.size=b:=⟨_,rfl⟩;have bn:=yo (Arr.new w1 [.slice none 0 0,.slice none 0 0] 152);rw[q] at bn;simp only[q];have a9:=yo ((Below.refl w1.heap.size w1).alloc (nlr _) (.cells #[Value.slice none 0 0,Value.slice none 0 0] 152));have aS:(w1.alloc (.cells #[Value.slice none 0 0,Value.slice none 0 0] 152)).heap.size=g+1:=(by rw[wsa,q]);have av:=yo aS;have q:=yo q;clear bG bM bm b1 aS))
  |(go_at_call 118;(with_reducible refine(aT.o _).mono ?_);go_must (rintro e w2 ⟨gl,cl,gd,cd,rfl,cz,ck,bI,bE,ba⟩;rw[av.o] at cz ck;have Y:=bn.o.later ba;have c6:=Y.cell (k:=0) rfl;have cs:=Y.cell (k:=1) rfl;have c5:=Y.frozen 0;have cn:=Y.frozen 1;obtain⟨w3,U⟩:∃w3,(w2.setCell ⟨g,0,none⟩ (.slice (some ⟨gl,0,none⟩) 288 cl)).setCell ⟨g,1,none⟩ (.slice (some ⟨gd,0,none⟩) 32 cd)=w3:=⟨_,rfl⟩;have bd:w3.heap.size=w2.heap.size:=(by rw[<-U];simp);have a5:Hid (Arr w3 g [.slice (some ⟨gl,0,none⟩) 288 cl,.slice (some ⟨gd,0,none⟩) 32 cd]):=(show Arr _ _ _ from by rw[<-U];exact(Y.set 0 _).set 1 _);have bO:Hid (RdI w3 w3.heap.size (some ⟨gl,0,none⟩) 288 fixL):=(show RdI _ _ _ _ _ from by rw[bd,<-U];exact RdI.far (RdI.far bI (p:=⟨g,0,none⟩) (by show gl≠g;omega) _) (p:=⟨g,1,none⟩) (by show gl≠g;omega) _);have bJ:Hid (RdI w3 w3.heap.size (some ⟨gd,0,none⟩) 32 fixD):=(show RdI _ _ _ _ _ from by rw[bd,<-U];exact RdI.far (RdI.far bE (p:=⟨g,0,none⟩) (by show gd≠g;omega) _) (p:=⟨g,1,none⟩) (by show gd≠g;omega) _);have O:Hid (Below w1.heap.size w1 w3):=(show Below _ _ _ from by rw[<-U];exact((a9.o.trans (ba.mono (by rw[av.o,q.o];omega))).setCell (p:=⟨g,0,none⟩) (by show w1.heap.size<=g;rw[q.o];exact nlr _) _).setCell (p:=⟨g,1,none⟩) (by show w1.heap.size<=g;rw[q.o];exact nlr _) _);have bp:g<w3.heap.size:=a5.o.lt;clear bd Y bI bE ba bn a9 av aT))
  |(go_at_call 119;(with_reducible refine(aQ.o _).mono ?_);go_must (rintro e w4 ⟨F,p4,z4,rfl,bv,a8,ai,bq⟩;have a7:=yo (Bx.new a8 (.cells #[Value.pointer (some ⟨F,0,none⟩)] 155));have aW:=yo (Arr.new w4 [.pointer (some ⟨F,0,none⟩)] 155);have X:=yo (ai.alloc ai.size (.cells #[Value.pointer (some ⟨F,0,none⟩)] 155));have Z:=yo ((a5.o.later ai).alloc (.cells #[Value.pointer (some ⟨F,0,none⟩)] 155));have cq:=Z.o.cell (k:=0) rfl;have cw:=Z.o.cell (k:=1) rfl;have cQ:=yo bq;have cJ:=ai.size;obtain⟨b7,W⟩:∃b,w4.heap.size=b:=⟨_,rfl⟩;rw[W] at a7 aW;have bU:=yo (ziS w3.heap.size nt ct 288 cl 32 cd F At (some ⟨gl,0,none⟩) (some ⟨gd,0,none⟩) ts fixL fixD p4 z4 (zbM 1) _ (a8.alloc (.cells #[Value.pointer (some ⟨F,0,none⟩)] 155)) ((RdK.more (RdK.blw a1.o O.o) O.o.size).blw X.o) (bO.o.blw X.o) (bJ.o.blw X.o) bv (by omega) aA.o zjB zjC (by omega) (by omega) ar.o);simp only[W];have W:=yo W;have bt:=yo (a8.alloc (.cells #[Value.pointer (some ⟨F,0,none⟩)] 155));clear a8 ai bq bO bJ aA ar aQ))
  |(go_at_call 120;(with_reducible refine bU.o.mono ?_);go_must (rintro e w6 ⟨rfl,p6,z6,bf,ay⟩;have bT:Hid (Wr w6 F p6 z6 (zeL ts)):=bf;have ak:=yo (X.o.trans (ay.blw bt.o bv X.o.size));have aM:=yo (aW.o.wr a7.o ay);have bQ:=yo (a7.o.wr ay);have aI:=yo (a5.o.blw ak.o bp);have cR:=ak.o.size;have bo:=yo ((RdK.blw a1.o O.o).blw (ak.o.mono O.o.size));have aP:Hid (Bx w6 F p6 g):=(show Bx _ _ _ _ from⟨by omega,by omega,fun e=>by have:=(olt bf.2.1 _ e).1;omega⟩);have bW:=yo (zmV w1.heap.size nt ct At ts w6 bo.o (by rw[q.o];omega) (by omega) bw.o);clear bf ay bU bt Z aW a7 X a5 cq cw))
  |(go_at_call 121;(with_reducible refine bW.o.mono ?_);go_must (rintro e w7 ⟨ga,na,ca,gb,nb,cb,rfl,cM,cK,bV,br,bu,b0,s⟩;have bS:=bV.trans c0.o;subst bS;have bC:=br.trans c7.o;subst bC;have V:=aI.o.later s;have c9:=V.cell (k:=0) rfl;have c8:=V.cell (k:=1) rfl;have cj:=V.frozen 0;have cC:=V.frozen 1;obtain⟨R,J⟩:∃R,(w7.setCell ⟨g,0,none⟩ (.slice (some ⟨ga,0,none⟩) na ca)).setCell ⟨g,1,none⟩ (.slice (some ⟨gb,0,none⟩) nb cb)=R:=⟨_,rfl⟩;have a2:R.heap.size=w7.heap.size:=(by rw[<-J];simp);have aV:Hid (Arr R g [.slice (some ⟨ga,0,none⟩) na ca,.slice (some ⟨gb,0,none⟩) nb cb]):=(show Arr _ _ _ from by rw[<-J];exact(V.set 0 _).set 1 _);have bg:Hid (RdI R R.heap.size (some ⟨ga,0,none⟩) na (zcE ts)):=(show RdI _ _ _ _ _ from by rw[a2,<-J];exact RdI.far (RdI.far bu (p:=⟨g,0,none⟩) (by show ga≠g;omega) _) (p:=⟨g,1,none⟩) (by show ga≠g;omega) _);have bb:Hid (RdI R R.heap.size (some ⟨gb,0,none⟩) nb (zcm ts)):=(show RdI _ _ _ _ _ from by rw[a2,<-J];exact RdI.far (RdI.far b0 (p:=⟨g,0,none⟩) (by show gb≠g;omega) _) (p:=⟨g,1,none⟩) (by show gb≠g;omega) _);have aq:Bx w7 F p6 g:=aP.o.wr (WrFr.of (pv:=p6) s);have b2:Hid (Wr R F p6 z6 (zeL ts)):=(show Wr _ _ _ _ _ from by rw[<-J];exact((bT.o.later s).far aq 0 _).far ⟨by rw[World.size_setCell];exact aq.lt,aq.ne,aq.nv⟩ 1 _);have E:Hid (Below w1.heap.size w1 R):=(show Below _ _ _ from by rw[<-J];exact(((O.o.trans (ak.o.mono O.o.size)).trans (s.mono (by rw[q.o];omega))).setCell (p:=⟨g,0,none⟩) (by show w1.heap.size<=g;rw[q.o];exact nlr _) _).setCell (p:=⟨g,1,none⟩) (by show w1.heap.size<=g;rw[q.o];exact nlr _) _);have aw:Hid (Arr R b7 [.pointer (some ⟨F,0,none⟩)]):=(show Arr _ _ _ from by rw[<-J];exact((aM.o.later s).far (p:=⟨g,0,none⟩) (by show g≠b7;rw[<-W.o];omega) _).far (p:=⟨g,1,none⟩) (by show g≠b7;rw[<-W.o];omega) _);have cG:=aV.o.lt;have cE:=aw.o.lt;have cH:w6.heap.size<=R.heap.size:=(by rw[a2];exact s.size);clear a2 V bu b0 s bV br bW aI aM bQ aP bT aq))
  |(go_at_call 119;(with_reducible refine(aE.o _).mono ?_);go_must (rintro e w9 ⟨H,p9,z9,rfl,a0,ae,ah,ch⟩;have az:=yo (Bx.new ae (.cells #[Value.pointer (some ⟨H,0,none⟩)] 155));have bj:=yo (Arr.new w9 [.pointer (some ⟨H,0,none⟩)] 155);have a3:=yo (ah.alloc ah.size (.cells #[Value.pointer (some ⟨H,0,none⟩)] 155));have S:=yo ((aV.o.later ah).alloc (.cells #[Value.pointer (some ⟨H,0,none⟩)] 155));have cy:=S.o.cell (k:=0) rfl;have cp:=S.o.cell (k:=1) rfl;have cO:=ah.size;obtain⟨b8,a6⟩:∃b,w9.heap.size=b:=⟨_,rfl⟩;rw[a6] at az bj;have bD:=yo (zqS R.heap.size na ca nb cb H (some ⟨ga,0,none⟩) (some ⟨gb,0,none⟩) (zcE ts) (zcm ts) p9 z9 (zbM 2) _ (ae.alloc (.cells #[Value.pointer (some ⟨H,0,none⟩)] 155)) (bg.o.blw a3.o) (bb.o.blw a3.o) a0 q2 q1 q3 q4 aX.o bi.o (by rw[zc9];omega));have aB:Hid (Bx (w9.alloc (.cells #[Value.pointer (some ⟨H,0,none⟩)] 155)) H p9 g):=(show Bx _ _ _ _ from⟨by rw[wsa];omega,by omega,fun e=>by have:=(olt ae.2.1 _ e).1;omega⟩);simp only[a6];have a6:=yo a6;have bP:=yo (ae.alloc (.cells #[Value.pointer (some ⟨H,0,none⟩)] 155));clear ae ah ch aE))
  |(go_at_call 122;(with_reducible refine bD.o.mono ?_);go_must (rintro e cS ⟨rfl,cD,cr,aa,G⟩;have M:=yo (bj.o.wr az.o G);have ao:=yo (az.o.wr G);have z:=yo (a3.o.trans (G.blw bP.o a0 a3.o.size));have an:=S.o.wr aB.o G;have co:=an.cell (k:=0) rfl;have cx:=an.cell (k:=1) rfl;have cv:=M.o.cell (k:=0) rfl;have cF:=z.o.size;have aJ:=yo (ziS R.heap.size nt ct na ca nb cb H At (some ⟨ga,0,none⟩) (some ⟨gb,0,none⟩) ts (zcE ts) (zcm ts) cD cr (zbM 2++zdW (zcE ts) (zcm ts)) _ aa ((RdK.more (RdK.blw a1.o E.o) E.o.size).blw z.o) (bg.o.blw z.o) (bb.o.blw z.o) a0 (by omega) aD.o aX.o bi.o (by omega) q3 aj.o);have aG:=yo aa;clear aa G an bD bP S aB bj az))
  |(go_at_call 120;(with_reducible refine aJ.o.mono ?_);go_must (rintro e b4 ⟨rfl,al,au,aC,af⟩;have aN:Hid (Wr b4 H al au (zec ts)):=aC;have L:=yo (z.o.trans (af.blw aG.o a0 z.o.size));have ac:=yo (M.o.wr ao.o af);have aO:=L.o.size;have bF:=yo (zqT B n c A bs b4 (HR.o.blw ((bh.o.trans (E.o.mono bY)).trans (L.o.mono (by have:=E.o.size;omega)) |>.mono hB)) (by have:=E.o.size;omega) hn);clear aC af aJ aG M ao))
  |(go_at_call 123;(with_reducible refine bF.o.mono ?_);go_must (rintro e aU ⟨g3,bL,bx,rfl,cP,aF,I,bN⟩;have aH:=yo aF;have bZ:=yo (aN.o.later I);have bK:=yo (b2.o.later (L.o.trans (I.mono aO)));have T:=yo ((L.o.trans (I.mono aO)));have ci:=(aw.o.later T.o).cell (k:=0) rfl;have c3:=(ac.o.later I).cell (k:=0) rfl;clear aF I bN bF b2 aN)))
 generalize D:aU.alloc _=w14;obtain⟨cg,ag⟩:∃b,aU.heap.size=b:=⟨_,rfl⟩;simp only[ag];have aK:Hid (Arr w14 cg [.pointer (some ⟨F,0,none⟩),.pointer (some ⟨H,0,none⟩)]):=(show Arr _ _ _ by rw[<-D,<-ag];exact Arr.new aU [.pointer (some ⟨F,0,none⟩),.pointer (some ⟨H,0,none⟩)] _);have b3:Hid (Wr w14 F p6 z6 (zeL ts)):=(show Wr _ _ _ _ _ by rw[<-D];exact bK.o.alloc _);have bX:Hid (Wr w14 H al au (zec ts)):=(show Wr _ _ _ _ _ by rw[<-D];exact bZ.o.alloc _);have bH:Hid (Wr w14 g3 bL bx (zbh bs ts 0)):=(show Wr _ _ _ _ _ by rw[<-D];exact aH.o.alloc _);have am:Hid (Below w.heap.size w w14):=(show Below _ _ _ by rw[<-D];exact Below.alloc ((bh.o.trans (E.o.mono bY)).trans (T.o.mono (by have:=E.o.size;omega))) (by have:=E.o.size;have:=T.o.size;omega) _);have cN:=aK.o.cell (k:=0) rfl;have cL:=aK.o.cell (k:=1) rfl;have o:Hid (zbh bs ts 1=if(zeL ts).length<(zbh bs ts 0).length then zeL ts else zbh bs ts 0):=(show _=_ from rfl);have r:Hid (zbh bs ts 2=if(zec ts).length<(zbh bs ts 1).length then zec ts else zbh bs ts 1):=(show _=_ from rfl);have ce:Hid (zbh bs ts 2=zdl bs ts):=(show _=_ from rfl);have cA:Hid ((zbh bs ts 2).length<=400000):=(show _<=_ by have h1:=zq2 bs ts 2;have h2:=bA.o;have h3:=HR.o.len;omega);clear D ag bK bZ aH bh E T L z ak O bg bb aV aw ac a1 bo HR bw aD aX bi aj b5 bA U J ci c3 c9 c8 cj cC c6 cs c5 cn cy cp co cx cv cm;generalize zeL ts=F1 at *;generalize zec ts=F2 at *;go_loopw [49,9] (fun vi vb wr=>∃k:Nat,k<=2/\vi=.int .i64 k/\wr=w14/\∃gx px zx,vb=.pointer (some ⟨gx,0,none⟩)/\Hid (Wr w14 gx px zx (zbh bs ts k))) (fun vi _ _=>2-(intOf vi).toNat)
 case atStart=>exact⟨0,by omega,rfl,rfl,g3,bL,bx,rfl,bH⟩
 case round =>
  clear bH;obtain⟨k,hk,rfl,rfl,gx,px,zx,rfl,ax⟩:=hrel;have a4:=yo (zg5 gx px zx _ wr ax.o);by_cases hlt:k<2
  ·rcases(show k=0\/k=1 by omega) with rfl|rfl
   ·have ab:=yo (zg5 F p6 z6 _ wr b3.o)
    by_cases hl:F1.length<(zbh bs ts 0).length
    ·have aZ:((F1.length:Nat):Int)<(((zbh bs ts 0).length:Nat):Int):=by omega
     rw[if_pos hl] at o;have u:Hid (Wr wr F p6 z6 (zbh bs ts 1)):=(show Wr _ _ _ _ _ by rw[o.o];exact b3.o);clear o;generalize zbh bs ts 0=X0 at *;generalize F1.length=l1 at *;generalize X0.length=l0 at *;go_wp2_with (first
      |(go_at_call 124;(with_reducible refine ab.o.mono ?_);go_must (rintro e P ⟨rfl,rfl⟩))
      |(go_at_call 124;(with_reducible refine a4.o.mono ?_);go_must (rintro e P ⟨rfl,rfl⟩)))
     go_roundw
     case rel=>exact⟨1,by omega,rfl,trivial,F,p6,z6,rfl,u⟩
     case measure=>simp[intOf]
    ·have aZ:¬((F1.length:Nat):Int)<(((zbh bs ts 0).length:Nat):Int):=by omega
     rw[if_neg hl] at o;have u:Hid (Wr wr gx px zx (zbh bs ts 1)):=(show Wr _ _ _ _ _ by rw[o.o];exact ax.o);clear o;generalize zbh bs ts 0=X0 at *;generalize F1.length=l1 at *;generalize X0.length=l0 at *;go_wp2_with (first
      |(go_at_call 124;(with_reducible refine ab.o.mono ?_);go_must (rintro e P ⟨rfl,rfl⟩))
      |(go_at_call 124;(with_reducible refine a4.o.mono ?_);go_must (rintro e P ⟨rfl,rfl⟩)))
     go_roundw
     case rel=>exact⟨1,by omega,rfl,trivial,gx,px,zx,rfl,u⟩
     case measure=>simp[intOf]
   ·have ab:=yo (zg5 H al au _ wr bX.o)
    by_cases hl:F2.length<(zbh bs ts 1).length
    ·have aZ:((F2.length:Nat):Int)<(((zbh bs ts 1).length:Nat):Int):=by omega
     rw[if_pos hl] at r;have u:Hid (Wr wr H al au (zbh bs ts 2)):=(show Wr _ _ _ _ _ by rw[r.o];exact bX.o);clear r o;generalize zbh bs ts 1=X1 at *;generalize F2.length=l1 at *;generalize X1.length=l0 at *;go_wp2_with (first
      |(go_at_call 124;(with_reducible refine ab.o.mono ?_);go_must (rintro e P ⟨rfl,rfl⟩))
      |(go_at_call 124;(with_reducible refine a4.o.mono ?_);go_must (rintro e P ⟨rfl,rfl⟩)))
     go_roundw
     case rel=>exact⟨2,by omega,rfl,trivial,H,al,au,rfl,u⟩
     case measure=>simp[intOf]
    ·have aZ:¬((F2.length:Nat):Int)<(((zbh bs ts 1).length:Nat):Int):=by omega
     rw[if_neg hl] at r;have u:Hid (Wr wr gx px zx (zbh bs ts 2)):=(show Wr _ _ _ _ _ by rw[r.o];exact ax.o);clear r o;generalize zbh bs ts 1=X1 at *;generalize F2.length=l1 at *;generalize X1.length=l0 at *;go_wp2_with (first
      |(go_at_call 124;(with_reducible refine ab.o.mono ?_);go_must (rintro e P ⟨rfl,rfl⟩))
      |(go_at_call 124;(with_reducible refine a4.o.mono ?_);go_must (rintro e P ⟨rfl,rfl⟩)))
     go_roundw
     case rel=>exact⟨2,by omega,rfl,trivial,gx,px,zx,rfl,u⟩
     case measure=>simp[intOf]
  ·obtain rfl:k=2:=by omega
   have cf:=yo (zoI gx px zx _ wr ax.o (by have:=cA.o;omega));have cc:Hid (WB zx (zdl bs ts)):=(show WB _ _ by rw[<-ce.o];exact ax.o.2.2);clear o r;go_wp2_with (go_at_call 125;(with_reducible refine cf.o.mono ?_);go_must (rintro e cI ⟨cB,rfl,aL,aR⟩;have bB:=yo (ownB.mono aL am.o.size);have bR:=yo (am.o.trans (aR.mono am.o.size));clear aL aR));go_ret2;exact⟨cB,zx,rfl,bB.o,cc.o,bR.o⟩
end Go.Proofs.YtebbdifhiihfkaaGreatDoor

/- flate: what is compressed is no longer than stored, nor than by the fixed codes: plainly. -/
namespace Go.Proofs.YtebbdifhiihfkaaGreatDoor
set_option linter.all false
/-- What a token costs by the fixed codes. -/
def zlc(t:Tok):Nat:=if t.1=0 then(if t.2.2<144 then 8 else 9) else 7+(lenOf (za5 t.1)).2+5+(zae (zaK t.2.1)).2+(if 279<257+za5 t.1 then 1 else 0)
theorem zkA{ls:List Int}{p:Nat}(hp:p<ls.length)(g:CodesOK ls){t:Nat}(ht:ls[p]?=some (t:Int)):(zcj ls p).length=t:=by
 obtain⟨o,_,e,_⟩:=zg4 g.2.1 g.2.2 p hp;unfold zcj;rw[e,zjw];have hg:ls.getD p 0=(t:Int):=by rw[lgd,ht];rfl
 have h1:(zaL ls p).2=(t:Int):=by
  unfold zaL;rw[hg];split
  ·rfl
  ·show(0:Int)=t
   omega
 rw[e] at h1;show((o:Nat):Int).toNat=t;omega
theorem zsW{p:Nat}(h:p<288):fixL[p]?=some (za6 p):=by
 unfold fixL;rw[List.getElem?_map,List.getElem?_range h];rfl
theorem zex{p t:Nat}(h:p<288)(ht:za6 p=(t:Int)):(zcj fixL p).length=t:=zkA (by rw[zil];exact h) zjB (by rw[zsW h,ht])
theorem zq3{p:Nat}(h:p<30):(zcj fixD p).length=5:=zkA (by rw[zim];omega) zjC (by unfold fixD;rw[List.getElem?_replicate,if_pos (by omega)];rfl)
theorem zsX{t:Tok}(h:zci t):(zbY fixL fixD t).length=zlc t:=by
 unfold zbY zlc;split
 ·rename_i e
  have hy:t.2.2<256:=by
   rcases h with⟨_,h⟩ | ⟨h,_⟩
   ·exact h
   ·omega
  split
  ·exact zex (by omega) (by unfold za6;rw[if_pos (by omega)];rfl)
  ·exact zex (by omega) (by unfold za6;rw[if_neg (by omega),if_pos (by omega)];rfl)
 ·rename_i e
  obtain⟨o,h4,g,q⟩:3<=t.1/\t.1<=258/\1<=t.2.1/\t.2.1<=32768:=by rcases h with⟨h,_⟩|h;exact absurd h e;exact h
  have r:=(zcO (x:=t.1) o).1;have s:=(zcr (x:=t.2.1) g).1;rw[lla,lla,lla,zaJ,zaJ,zq3 (by omega)];split
  ·rw[zex (t:=8) (by omega) (by unfold za6;rw[if_neg (by omega),if_neg (by omega),if_neg (by omega)];rfl)]
   omega
  ·rw[zex (t:=7) (by omega) (by unfold za6;rw[if_neg (by omega),if_neg (by omega),if_pos (by omega)];rfl)]
   rfl
def zoX(ts:List Tok):Nat:=10+(ts.map zlc).sum
theorem zsY{ts:List Tok}(h:∀t∈ts,zci t):(zeL ts).length=zoX ts:=by
 have h1:(ts.flatMap (zbY fixL fixD)).length=(ts.map zlc).sum:=by
  induction ts with
  |nil=>rfl
  |cons t r ih =>
   rw[List.flatMap_cons,lla,List.map_cons,List.sum_cons,zsX (h t (by simp)),ih (fun u g=>h u (by simp[g]))]
 unfold zeL ziR zoX;rw[lla,lla,zc9,h1,zex (p:=256) (t:=7) (by omega) (by unfold za6;rw[if_neg (by omega),if_neg (by omega),if_pos (by omega)];rfl)];omega
theorem zsZ(bs:List UInt8)(ts:List Tok):(zdl bs ts).length<=(zcw bs).length/\(zdl bs ts).length<=(zeL ts).length:=by
 have h1:(zfy bs ts).length<=(zcw bs).length/\(zfy bs ts).length<=(zeL ts).length:=by unfold zfy;split<;>omega
 unfold zdl;split<;>omega
theorem zui{bs g:List UInt8}{ts:List Tok}(h:∀t∈ts,zci t)(o:WB g (zdl bs ts)):g.length<=(zoX ts+7) / 8/\g.length<=bs.length+5:=by
 have h1:=o.1;have h2:=zsZ bs ts;rw[zi0,zsY h] at h2;omega
end Go.Proofs.YtebbdifhiihfkaaGreatDoor

/- flate: what the chapter's examples fix. -/
namespace Go.Proofs.YtebbdifhiihfkaaGreatDoor
set_option linter.all false
open Go.RowKit
theorem zir{w:World}{B:Nat}{A:Option Addr}:RdB w B A 0 []:=⟨by simp[cb],fun h=>absurd h (by omega)⟩
end Go.Proofs.YtebbdifhiihfkaaGreatDoor

/- flate and zlib: Deflate and Pack of any bytes. -/
namespace Go.Proofs.YtebbdifhiihfkaaGreatDoor
set_option linter.all false
set_option maxRecDepth 100000
set_option maxHeartbeats 3200000
open Go.RowKit
theorem zm3(B n c:Nat)(A:Option Addr)(bs:List UInt8)(w:World)(h:RdB w B A n bs)(q:B<=w.heap.size)(o:n<=40000)(g:n<=c):
  Calls Tryz.prog 97 #[.slice A n c] w fun e w'=>∃v bz,e=.returned (.tuple #[v,.int .i64 0])/\ownB w' w.heap.size v bz/\WB bz (zdl bs (zdD bs))/\Below w.heap.size w w' :=
 zm2 B n c A bs (zdD bs) w h q o (zsV B n c A bs w h q o g) (zip bs).1 (by have:=(zip bs).2;have:=h.len;omega)
theorem zma{bs g:List UInt8}(o:WB g (zdl bs (zdD bs))):g.length<=bs.length+5:=(zui (zip bs).1 o).2
theorem zgo(bs:List UInt8):zbm bs<4294967296:=by
 have h:=zgI bs;have e:zbm bs=(adP bs).2*65536+(adP bs).1:=rfl;omega
theorem zmb{x:Nat}(h:x<4294967296):∃S,beR (x:Int) 4=(S,0)/\S.length=4:=by
 have g:zf7 (x:Int) 4:=⟨by omega,by omega,by omega,by show(x:Int) / 2 ^ (8*4)<=0;omega⟩;exact⟨beB x 4,by unfold beR;rw[if_pos g];rfl,ztH _ _⟩
/-- A frame's bytes. -/
def zeY(bz S:List UInt8):List UInt8:=[120,156]++bz++S
theorem zs0(B n c:Nat)(A:Option Addr)(bs S:List UInt8)(w:World)(h:RdB w B A n bs)(hB:B<=w.heap.size)(hn:n<=40000)(D:n<=c)(hS:beR ((zbm bs:Nat):Int) 4=(S,0))(N:S.length=4):
  Calls Tryz.prog 74 #[.slice A n c] w fun e w'=>∃v g,e=.returned (.tuple #[v,.int .i64 0])/\ownB w' w.heap.size v (zeY g S)/\WB g (zdl bs (zdD bs))/\Below w.heap.size w w':=by
 have HD:=yo (zm3 B n c A bs w h hB hn D);have HR:=yo h;have hx:=zgo bs;have ac:=yo (fun w1 (h:RdB w1 B A n bs)=>zgJ B n c A bs w1 h (by omega));have G:=yo (fun w=>zhv ((zbm bs:Nat):Int) 4 w);rw[hS] at G;have hl:=h.len;generalize zbm bs=x at *;clear h hS;go_enter Tryz.func74,Tryz.ntmps74;go_wp2_with (first
  |(go_at_call 97;(with_reducible refine HD.o.mono ?_);go_must (rintro e w1 ⟨v1,g,rfl,H,z,q⟩;have am:=zma z;obtain⟨A1,c1,rfl,C,-,-⟩:=H.form;have M:=yo (ac.o w1 (HR.o.blw (q.mono hB)));have ae:=yo C;have ai:=yo q;have af:=yo z;have F:=q.size;clear H z q C))
  |(go_at_call 86;(with_reducible refine M.o.mono ?_);go_must (rintro e w2 ⟨rfl,rfl⟩))
  |(go_at_call 46;(with_reducible refine(G.o _).mono ?_);go_must (rintro e s ⟨v3,rfl,t,o⟩;obtain⟨A3,c3,rfl,-,-,-⟩:=t.form;have u:=ownB.rd t;rw[N] at u;have ag:=yo (Rd.alloc u (nlr _) (.cells #[Value.int .u8 120,Value.int .u8 156] 5));have E:=yo (Rd.alloc (RdB.blw ae.o o) o.size (.cells #[Value.int .u8 120,Value.int .u8 156] 5));have al:=o.size;have X:=yo (ai.o.trans (o.mono F));have aa:=yo (zd3 s [120,156] (by decide));have ab:s.heap.size<=(s.alloc (.cells #[Value.int .u8 120,Value.int .u8 156] 5)).heap.size:=zik _ _;have T:([120,156]:List UInt8).length+g.length<=140737488355328:=(by show 2+g.length<=_;omega);clear t o u))
  |(at_builtin;(refine zat rfl (.tmp 25) (.tmp 26) rfl s.heap.size v4 ([120,156]++g) rfl Z.o _ 4 c3 A3 S rfl V.o U Y ?_;intro v5 w5 J O L ah;have aj:=yo (R.o.trans (L.mono (by omega)));have ak:=yo (ownB.mono J (by omega:w.heap.size<=s.heap.size));clear J O L ah))
  |(at_builtin;(refine zat rfl (.tmp 23) (.tmp 24) rfl s.heap.size (.slice (some ⟨s.heap.size,0,none⟩) 2 2) [120,156] rfl aa.o w1.heap.size g.length c1 A1 g rfl E.o T ab ?_;intro v4 w4 I W r P;have an:=r.size;have Y:s.heap.size<=w4.heap.size:=(by omega);have U:(([120,156]:List UInt8)++g).length+4<=140737488355328:=(by rw[lla];show 2+g.length+4<=_;omega);have V:=yo (Rd.below ag.o r);have R:=yo ((X.o.alloc (by omega) (.cells #[Value.int .u8 120,Value.int .u8 156] 5)).trans (r.mono (by omega)));have Z:=yo I;clear I W r P)))
 go_ret2;exact⟨_,g,rfl,ak.o,af.o,aj.o⟩
end Go.Proofs.YtebbdifhiihfkaaGreatDoor

