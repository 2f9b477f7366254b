/- JoinSides in parts: leaf 8. -/
import Derived.Test.YtmffmijjdpjaiaaJSR
import Derived.Test.YtmffmijjdpjaiaaLex
import Derived.Deep.RegionHeld3
import Derived.BigQuiet
namespace Go.Proofs.Ytmffmijjdpjaiaa
set_option linter.all false
open Go.RowKit

set_option maxRecDepth 100000 in
set_option maxHeartbeats 12800000 in
theorem js8_ : joinSides_R.2.2.2.2.2.1 := by
  intro w oc ots ow oh od oe ac ats n0 bc bts ob oo hob ab ao hab bb bo hbb HO HA HBB mo' ma' mb' Q0 wf we1 we2 we w3 g1 k1 g2 hn1 yac0 yac0n yac1 yac1n yac2 yac2n w4 g3 k3 g4 hn2 ybc0 ybc0n ybc1 ybc1n ybc2 ybc2n ybc7 ybc7n w5 w6 g5 k5 g6 hn3 ydc0 ydc0n ydc1 ydc1n ydc2 ydc2n ydc7 ydc7n ydc10 ydc10n w7 g7 k7 g8 hn4 yec0 yec0n yec1 yec1n yec2 yec2n yec7 yec7n yec10 yec10n yec13 yec13n W wc u21 u22 u23 u24 u25 u26 u27 u28 u29 u30 u31 u32 u33 u34 u35 u36 u37 u38 u39 u40 u41 u42 u43 u44 u45 u46 u47 u48 u49 u50 u51 u52 u53 u54 u55 u56 u57 u58 u59 u60 u61 u62 u63 u64 u65 u66 u67 u68 u69 u70 u71 u72 u73 u74 u75 u76 u77 u78 u79 u80 u81 u82 u83 u84 u85 u86 u87 u88 u89 u90 u91 u92 u93 u94 u95 u96 u97 u98 u99 u100 u101 u102 u103 u104 u105 u106 u107 u108 u109 u110 u111 u112 u113 u114 u115 u116 u117 u118 u119 u120 u121 u122 u123 u124 u125 u126 u127 u128 u129 u130 u131 u132 u133 u134 u135 u136 u137 u138 u139 u140 u141 u142 u143 u144 u145 u146 u147 u148 u149 u150 u151 u152 u153 u154 u155 u156 u157 z0 z1 z2 z3 z4 z5 z6 z7 z8 z9 z10 z11 z12 z13 z14 z15 z16 z17 z18 z19 z20 z21 z22 z23 z24 z25 z26 z27 z28 z29 z30 z31 z32 z33 z34 z35 z36 z37 z38 z39 z40 z41 z42 z43 z44 z45 z46 z47 z48 z49 z50 z51 z52 z53 z54 z55 z56 z57 z58 z59 z60 z61 z62 z63 z64 z65 z66 z67 z68 z69 z70 z71 z72 z73 z74 z75 z76 z77 z78 z79 z80 z81 z82 z83 z84 z85 z86 z87 z88 z89 z90 z91 z92 z93 z94 z95 z96 z97 z98 z99 z100 z101 z102 z103 z104 z105 z106 z107 z108 z109 z110 z111 z112 z113 z114 z115 z116 z117 z118 z119 z120 z121 z122 z123 z124 z125 z126 z127 z128 z129 z130 u290 u291 u292 u293 u294 u295 u296 u297 u298 u299 u300 u301 u302 hB z131 z132 l0 l1 l2 l7 l10 wr u6 u20 u159 u160 u161 u162 u163 u164 u165 u166 u167 u168 u169 u170 u171 u172 u173 u174 u175 u176 u177 u178 u179 u180 u181 u182 u183 u184 u185 u186 u187 u188 u189 u190 u191 u192 u193 u194 u195 u196 u197 u198 u199 u200 u201 u202 u203 u204 u205 u206 u207 u208 u209 u210 u211 u212 u213 u214 u215 u216 u217 u218 u219 u220 u221 u222 u223 u224 u225 u226 u227 u228 u229 u230 u231 u232 u233 u234 u235 u236 u237 u238 u239 u240 u241 u242 u243 u244 u245 u246 u247 u248 u249 u250 u251 u252 u253 u254 u255 u256 u257 u258 u259 u260 u261 u262 u263 u264 u265 u266 u267 u268 u269 u270 u271 u272 u273 u274 u275 u276 u277 u278 u279 u280 u281 u282 u283 u284 u285 u286 u287 u288 u289 k hX ca EK2' co cb n9 M0 M1 M2 HU HM HU2 c0 c1 c2 c7 c10 hk hlt b7 b10 hc
  have HCT := Lib.hid (fun (w' : World) (h : Below wc.heap.size wc w') => (show Calls Try.prog 11 #[.slice (some ⟨g2, 0, none⟩) k k] w' fun e w1 => e = .returned (.bool true) ∧ w' = w1 by have := clean_any wc.heap.size k k (some ⟨g2, 0, none⟩) _ w' (HM.out.rd.blw h) (by omega); rwa [hc] at this))
  have HS3 := Lib.hid (fun (w' : World) (h : Below wc.heap.size wc w') => same_tt ow oh od oe (upK ots ats bts k) wc.heap.size k k1 k k3 (some ⟨g1, 0, none⟩) (some ⟨g3, 0, none⟩) w' (HU.out.rd.blw h) (by have := HU2.out.rd.blw h; rwa [EK2'.out hc] at this) h.size (by omega))
  clear hc
  go_upto_region 21 with (fail)
  go_region_held3 (fun w' => (∀ i, w'.cell? ⟨w3.heap.size, i, none⟩ = r5 (.int .i64 ow) (.int .i64 oh) (.int .i64 od) (.int .i64 oe) (.slice (some ⟨g1, 0, none⟩) k k1) i) ∧ (∀ i, w'.cell? ⟨w4.heap.size, i, none⟩ = r5 (.int .i64 ow) (.int .i64 oh) (.int .i64 od) (.int .i64 oe) (.slice (some ⟨g3, 0, none⟩) k k3) i))
    (first | (with_reducible exact ⟨b7, b10⟩) | (with_reducible exact ⟨kD5 b7, kD5 b10⟩) | (with_reducible exact ⟨kBl5 hX l7 c7, kBl5 hX l10 c10⟩))
    (first
      | (go_at_call 7; (with_reducible refine (first23_any _).mono ?_); go_must (rintro e wx ⟨rfl, hb1⟩; (first | replace hX := bstep hX hb1 (Nat.le_refl _) | replace hX := bstep (Below.drew hX) hb1 (Nat.le_refl _)); clear hb1))
      | (go_at_call 11; (with_reducible refine (HCT.out _ hX).mono ?_); go_must (rintro e wx ⟨rfl, rfl⟩))
      | (go_at_call 12; (with_reducible refine (tree_at _ _ _ _ _ _ _ _).mono ?_); go_must (rintro e wx ⟨rfl, hb1⟩; (first | replace hX := bstep hX hb1 (Nat.le_refl _) | replace hX := bstep (Below.drew hX) hb1 (Nat.le_refl _)); clear hb1))
      | (go_at_call 13; (with_reducible refine (HS3.out _ hX).mono ?_); go_must (rintro e wx ⟨rfl, hb1⟩; (first | replace hX := bstep hX hb1 (Nat.le_refl _) | replace hX := bstep (Below.drew hX) hb1 (Nat.le_refl _)); clear hb1)))
  all_goals
    go_wp2_with fail
    go_ret
    exact ⟨rfl, bstep hB hX (Nat.le_refl _)⟩

end Go.Proofs.Ytmffmijjdpjaiaa
