/- XBuf -/
import Derived.Test.YtebbdifhiihfkaaGreatDoorMh01
import Derived.Shelf.Bytes.WriteAny
import Derived.Shelf.Bytes.Bytes
import Derived.Lib.BufferOld
import Derived.Lib.BufferKept
namespace Go.Proofs.YtebbdifhiihfkaaGreatDoor
set_option linter.all false
open Go.RowKit Go.Shelf
def laysM180_ren:Go.Shelf.Ren:=⟨fun | 180=>28 | 251=>55 | 252=>56 | 181=>81 | 184=>82 | 290=>83 | 324=>99 | n=>n,fun | 130=>92 | 37=>22 | 3=>3 | 75=>70 | 0=>0 | 93=>68 | 91=>66 | 131=>93 | 4=>4 | 20=>20 | 5=>5 | 80=>247 | 9=>9 | n=>n,fun | 14=>0 | n=>n⟩
theorem laysM180:Go.Proofs.LaysM.n180 Tryz.prog laysM180_ren:={
 mixed:=by kernel_rfl
 f180:=Tryz.func28.trans (congrArg some (by kernel_rfl))
 f181:=Tryz.func81.trans (congrArg some (by kernel_rfl))
 f184:=Tryz.func82.trans (congrArg some (by kernel_rfl))
 f251:=Tryz.func55.trans (congrArg some (by kernel_rfl))
 f252:=Tryz.func56.trans (congrArg some (by kernel_rfl))
 f290:=Tryz.func83.trans (congrArg some (by kernel_rfl))
 f324:=Tryz.func99.trans (congrArg some (by kernel_rfl))
 t0:=Tryz.underlying0
 a0:=Tryz.isAgg0
 z0:=Tryz.sizeOf0
 v0:=Tryz.zeroValue0
 t3:=Tryz.underlying3
 a3:=Tryz.isAgg3
 z3:=Tryz.sizeOf3
 v3:=Tryz.zeroValue3
 t4:=Tryz.underlying4
 a4:=Tryz.isAgg4
 z4:=Tryz.sizeOf4
 v4:=Tryz.zeroValue4
 t20:=Tryz.underlying20
 a20:=Tryz.isAgg20
 z20:=Tryz.sizeOf20
 v20:=Tryz.zeroValue20
 t37:=Tryz.underlying22
 a37:=Tryz.isAgg22
 z37:=Tryz.sizeOf22
 v37:=Tryz.zeroValue22
 t75:=Tryz.underlying70
 a75:=Tryz.isAgg70
 z75:=Tryz.sizeOf70
 v75:=Tryz.zeroValue70
 t91:=Tryz.underlying66
 a91:=Tryz.isAgg66
 z91:=Tryz.sizeOf66
 v91:=Tryz.zeroValue66
 t93:=Tryz.underlying68
 a93:=Tryz.isAgg68
 z93:=Tryz.sizeOf68
 v93:=Tryz.zeroValue68
 t130:=Tryz.underlying92
 a130:=Tryz.isAgg92
 z130:=Tryz.sizeOf92
 v130:=Tryz.zeroValue92
 t131:=Tryz.underlying93
 a131:=Tryz.isAgg93
 z131:=Tryz.sizeOf93
 v131:=Tryz.zeroValue93
 g14:=by kernel_rfl
 t5:=Tryz.underlying5
 a5:=Tryz.isAgg5
 z5:=Tryz.sizeOf5
 v5:=Tryz.zeroValue5
 t9:=Tryz.underlying9
 a9:=Tryz.isAgg9
 z9:=Tryz.sizeOf9
 v9:=Tryz.zeroValue9
 t80:=Tryz.underlying247
 a80:=Tryz.isAgg247
 z80:=Tryz.sizeOf247
 v80:=Tryz.zeroValue247
 i0:=by kernel_rfl
 i3:=by kernel_rfl
 i4:=by kernel_rfl
 i5:=by kernel_rfl
 i9:=by kernel_rfl
 i20:=by kernel_rfl
 i37:=by kernel_rfl
 i75:=by kernel_rfl
 i80:=by kernel_rfl
 i91:=by kernel_rfl
 i93:=by kernel_rfl
 i130:=by kernel_rfl
 i131:=by kernel_rfl
 m14:=by kernel_rfl }
def laysM183_ren:Go.Shelf.Ren:=⟨fun | 183=>32 | n=>n,fun | 130=>92 | 37=>22 | 0=>0 | 93=>68 | 3=>3 | 5=>5 | 91=>66 | n=>n,fun | n=>n⟩
theorem laysM183:Go.Proofs.LaysM.n183 Tryz.prog laysM183_ren:={
 mixed:=by kernel_rfl
 f183:=Tryz.func32.trans (congrArg some (by kernel_rfl))
 t0:=Tryz.underlying0
 a0:=Tryz.isAgg0
 z0:=Tryz.sizeOf0
 v0:=Tryz.zeroValue0
 t3:=Tryz.underlying3
 a3:=Tryz.isAgg3
 z3:=Tryz.sizeOf3
 v3:=Tryz.zeroValue3
 t37:=Tryz.underlying22
 a37:=Tryz.isAgg22
 z37:=Tryz.sizeOf22
 v37:=Tryz.zeroValue22
 t93:=Tryz.underlying68
 a93:=Tryz.isAgg68
 z93:=Tryz.sizeOf68
 v93:=Tryz.zeroValue68
 t130:=Tryz.underlying92
 a130:=Tryz.isAgg92
 z130:=Tryz.sizeOf92
 v130:=Tryz.zeroValue92
 t5:=Tryz.underlying5
 a5:=Tryz.isAgg5
 z5:=Tryz.sizeOf5
 v5:=Tryz.zeroValue5
 t91:=Tryz.underlying66
 a91:=Tryz.isAgg66
 z91:=Tryz.sizeOf66
 v91:=Tryz.zeroValue66
 i0:=by kernel_rfl
 i3:=by kernel_rfl
 i5:=by kernel_rfl
 i37:=by kernel_rfl
 i91:=by kernel_rfl
 i93:=by kernel_rfl
 i130:=by kernel_rfl }
theorem bufWrite_any (B b:Nat) (bs cs:List Value) (a:Addr) (n c:Nat) (w:World) (h:Lib.IsBuffer 68 5 B b bs w) (hBw:B≤w.heap.size) (h1:∀ v ∈ bs,v.oneCell'=true)
  (hn:cs.length=n) (hab:a.block ≠ b) (hsrc:∀ j v,cs[j]?=some v→w.cell? (a.add j)=some v) (h1c:∀ v ∈ cs,v.oneCell'=true) (hlim:bs.length+n≤140737488355328) :
  Calls Tryz.prog 28 #[.pointer (some ⟨b,0,none⟩),.slice (some a) n c] w fun e w'=>e=.returned (.tuple #[.int .i64 n,.nilIface])∧Lib.IsBuffer 68 5 B b (bs ++ cs) w'∧Below B w w':=by
 refine (Any.Buffer_Write_any laysM180 B b bs cs a n c w h hBw h1 hn hab hsrc h1c hlim).mono ?_
 rintro e w' ⟨h1,h2,h3,-⟩
 exact ⟨h1,h2,h3⟩
theorem bufBytes_any (B b:Nat) (bs:List Value) (w:World) (h:Lib.IsBuffer 68 5 B b bs w) :
  Calls Tryz.prog 32 #[.pointer (some ⟨b,0,none⟩)] w fun e w'=>∃ v,e=.returned v∧w'.ownsRow B 5 1 v bs.length bs∧∃ n,w'=w.drewN n:=Any.Buffer_Bytes laysM183 B b bs w h
end Go.Proofs.YtebbdifhiihfkaaGreatDoor

