/- The loop of BlobPlays: a Low. -/
import Derived.Test.YtagbnacffiagcaaDoorWBlobPlaysK1
namespace Go.Proofs.YtagbnacffiagcaaDoor.blobPlays
open Go Go.RowKit Go.Maps Go.Proofs.YtagbnacffiagcaaDoor.Mem Go.Proofs.YtagbnacffiagcaaDoor.MapsW Go.Proofs.YtagbnacffiagcaaDoor.SeeW Go.Proofs.YtagbnacffiagcaaDoor.DevG Go.Proofs.YtagbnacffiagcaaDoor.BlobW Go.Proofs.YtagbnacffiagcaaDoor.RefsW Go.Proofs.YtagbnacffiagcaaDoor.Ints
set_option linter.unusedVariables false
set_option maxRecDepth 1000000
section
variable {a0 : Option Addr} {len0 cap0 : Nat} {w1 wr : World} {ar dv ub i n : Nat} {m : Mp} {D : Dv} {u k : Nat} {A : Ar} {U G : Nat → Bool} {v : Value} {r : Nat} {rs : List (Int × Nat)} {tb : Nat} {kv K N At : Int} {T : Nat} {sa : Option Addr} {sl sc : Nat} {l : List Nat} {c1 c3 c31 c32 c33 c34 c35 c36 c37 c38 c39 c40 c41 c42 c43 c44 c45 c46 c47 u2 u11 u12 u13 u14 u15 u16 u17 u18 u19 u20 u21 u22 u23 u24 u25 u26 u27 u28 u29 u30 u48 u49 u50 u51 u52 u53 u54 u55 u56 u57 u58 u59 u60 u61 u62 u63 u64 u65 u66 u67 u68 u69 u70 u71 u72 u73 u74 u75 u76 u77 u78 u79 u80 u81 u82 u83 u84 u85 u86 u87 u88 u89 u90 u91 u92 u93 u94 u95 u96 u97 u98 u99 u100 u101 u102 u103 u104 u105 u106 u107 u108 u109 u110 u111 u112 u113 u114 u115 u116 u117 u118 u119 u120 u121 u122 u123 u124 u125 u126 u127 u128 u129 u130 u131 u132 u133 u134 u135 u136 u137 u138 u139 u140 u141 u142 u143 u144 u145 u146 u147 u148 u149 u150 u151 u152 u153 u154 u155 u156 u157 u158 u159 u160 u161 u162 u163 u164 u165 u166 u167 u168 u169 u170 u171 u172 u173 u174 u175 u176 u177 u178 u179 u180 u181 u182 u183 u184 u185 u186 u187 u188 u189 u190 u191 u192 u193 u194 u195 u196 u197 u198 u199 u200 u201 u202 u203 u204 u205 u206 u207 u208 u209 u210 u211 u212 u213 u214 u215 u216 u217 u218 u219 u220 u221 u222 u223 u224 u225 u226 u227 u228 u229 u230 u231 u232 u233 u234 u235 u236 u237 u238 u239 u240 u241 u242 u243 u244 u245 u246 u247 u248 u249 u250 u251 u252 u253 u254 u255 u256 u257 u258 u259 u260 u261 u262 u263 u264 u265 u266 u267 u268 u269 u270 u271 u272 u273 u274 u275 u276 u277 u278 u279 u280 u281 u282 u283 u284 u285 u286 u287 u288 u289 u290 u291 u292 u293 u294 u295 u296 u297 u298 u299 u300 u301 u302 u303 u304 u305 u306 u307 u308 u309 u310 u311 u312 u313 u314 u315 u316 u317 u318 u319 u320 u321 u322 u323 u324 u325 u326 u327 u328 u329 u330 u331 u332 u333 u334 u335 u336 u337 u338 u339 u340 u341 u342 u343 u344 u345 u346 u347 u348 u349 u350 u351 u352 u353 u354 u355 u356 u357 u358 u359 u360 u361 : Value} {Q0 : Exit → Act → World → Prop}
set_option maxHeartbeats 16000000 in
theorem k5o (bs : List Addr) (HB : Ev w1 w1.heap.size bs [2]) (HBS : Bs w1 bs) (H : Ki w1 wr ar dv ub i n m D u k A U G v r rs tb kv K N At T sa sl sc l) (q1 : (K == 1) = false) (q2 : (K == 5) = true) (hsl : 256 < sl)
    (hq : ∀ (u2 u11 u12 u13 u14 u15 u16 u17 u18 u19 u20 u21 u22 u23 u24 u25 u26 u27 u28 u29 u30 u48 u49 u50 u51 u52 u53 u54 u55 u56 u57 u58 u59 u60 u61 u62 u63 u64 u65 u66 u67 u68 u69 u70 u71 u72 u73 u74 u75 u76 u77 u78 u79 u80 u81 u82 u83 u84 u85 u86 u87 u88 u89 u90 u91 u92 u93 u94 u95 u96 u97 u98 u99 u100 u101 u102 u103 u104 u105 u106 u107 u108 u109 u110 u111 u112 u113 u114 u115 u116 u117 u118 u119 u120 u121 u122 u123 u124 u125 u126 u127 u128 u129 u130 u131 u132 u133 u134 u135 u136 u137 u138 u139 u140 u141 u142 u143 u144 u145 u146 u147 u148 u149 u150 u151 u152 u153 u154 u155 u156 u157 u158 u159 u160 u161 u162 u163 u164 u165 u166 u167 u168 u169 u170 u171 u172 u173 u174 u175 u176 u177 u178 u179 u180 u181 u182 u183 u184 u185 u186 u187 u188 u189 u190 u191 u192 u193 u194 u195 u196 u197 u198 u199 u200 u201 u202 u203 u204 u205 u206 u207 u208 u209 u210 u211 u212 u213 u214 u215 u216 u217 u218 u219 u220 u221 u222 u223 u224 u225 u226 u227 u228 u229 u230 u231 u232 u233 u234 u235 u236 u237 u238 u239 u240 u241 u242 u243 u244 u245 u246 u247 u248 u249 u250 u251 u252 u253 u254 u255 u256 u257 u258 u259 u260 u261 u262 u263 u264 u265 u266 u267 u268 u269 u270 u271 u272 u273 u274 u275 u276 u277 u278 u279 u280 u281 u282 u283 u284 u285 u286 u287 u288 u289 u290 u291 u292 u293 u294 u295 u296 u297 u298 u299 u300 u301 u302 u303 u304 u305 u306 u307 u308 u309 u310 u311 u312 u313 u314 u315 u316 u317 u318 u319 u320 u321 u322 u323 u324 u325 u326 u327 u328 u329 u330 u331 u332 u333 u334 u335 u336 u337 u338 u339 u340 u341 u342 u343 u344 u345 u346 u347 u348 u349 u350 u351 u352 u353 u354 u355 u356 u357 u358 u359 u360 u361 v6 : Value) (L : Nat) (w'' : World) (e : Exit), (e = .normal ∨ e = .exit 1) → St w1 w'' ar dv ub (i + 1) L v6 → Q0 e ⟨#[.slice a0 len0 cap0, c1, u2, c3, ptr ar, ptr dv, v6, .pointer (some ⟨ub, 0, none⟩), .pointer (some ⟨ub + 1, 0, none⟩), .int .i64 (L : Int), .int .i64 (i : Int), u11, u12, u13, u14, u15, u16, u17, u18, u19, u20, u21, u22, u23, u24, u25, u26, u27, u28, u29, u30, c31, c32, c33, c34, c35, c36, c37, c38, c39, c40, c41, c42, c43, c44, c45, c46, c47, u48, u49, u50, u51, u52, u53, u54, u55, u56, u57, u58, u59, u60, u61, u62, u63, u64, u65, u66, u67, u68, u69, u70, u71, u72, u73, u74, u75, u76, u77, u78, u79, u80, u81, u82, u83, u84, u85, u86, u87, u88, u89, u90, u91, u92, u93, u94, u95, u96, u97, u98, u99, u100, u101, u102, u103, u104, u105, u106, u107, u108, u109, u110, u111, u112, u113, u114, u115, u116, u117, u118, u119, u120, u121, u122, u123, u124, u125, u126, u127, u128, u129, u130, u131, u132, u133, u134, u135, u136, u137, u138, u139, u140, u141, u142, u143, u144, u145, u146, u147, u148, u149, u150, u151, u152, u153, u154, u155, u156, u157, u158, u159, u160, u161, u162, u163, u164, u165, u166, u167, u168, u169, u170, u171, u172, u173, u174, u175, u176, u177, u178, u179, u180, u181, u182, u183, u184, u185, u186, u187, u188, u189, u190, u191, u192, u193, u194, u195, u196, u197, u198, u199, u200, u201, u202, u203, u204, u205, u206, u207, u208, u209, u210, u211, u212, u213, u214, u215, u216, u217, u218, u219, u220, u221, u222, u223, u224, u225, u226, u227, u228, u229, u230, u231, u232, u233, u234, u235, u236, u237, u238, u239, u240, u241, u242, u243, u244, u245, u246, u247, u248, u249, u250, u251, u252, u253, u254, u255, u256, u257, u258, u259, u260, u261, u262, u263, u264, u265, u266, u267, u268, u269, u270, u271, u272, u273, u274, u275, u276, u277, u278, u279, u280, u281, u282, u283, u284, u285, u286, u287, u288, u289, u290, u291, u292, u293, u294, u295, u296, u297, u298, u299, u300, u301, u302, u303, u304, u305, u306, u307, u308, u309, u310, u311, u312, u313, u314, u315, u316, u317, u318, u319, u320, u321, u322, u323, u324, u325, u326, u327, u328, u329, u330, u331, u332, u333, u334, u335, u336, u337, u338, u339, u340, u341, u342, u343, u344, u345, u346, u347, u348, u349, u350, u351, u352, u353, u354, u355, u356, u357, u358, u359, u360, u361], []⟩ w'') :
    Code.wp Tryd.prog sw Q0 ⟨#[.slice a0 len0 cap0, c1, u2, c3, ptr ar, ptr dv, v, .pointer (some ⟨ub, 0, none⟩), .pointer (some ⟨ub + 1, 0, none⟩), .int .i64 (A.last : Int), .int .i64 (i : Int), .pointer (some ⟨tb, 0, none⟩), .int .i64 kv, u13, u14, u15, u16, u17, u18, u19, u20, u21, u22, u23, u24, u25, u26, u27, u28, u29, u30, c31, c32, c33, c34, c35, c36, c37, c38, c39, c40, c41, c42, c43, c44, c45, c46, c47, u48, u49, u50, u51, u52, u53, u54, u55, u56, u57, u58, u59, u60, u61, u62, u63, u64, u65, u66, u67, u68, u69, u70, u71, u72, u73, u74, u75, u76, u77, u78, u79, u80, u81, u82, u83, u84, u85, u86, u87, u88, u89, u90, u91, u92, u93, u94, u95, u96, u97, u98, u99, u100, u101, u102, u103, u104, u105, u106, u107, u108, u109, u110, u111, u112, u113, u114, u115, u116, u117, u118, u119, u120, u121, u122, u123, u124, u125, u126, u127, u128, u129, u130, u131, u132, u133, u134, u135, u136, u137, u138, u139, u140, u141, u142, u143, u144, u145, u146, u147, u148, u149, u150, u151, u152, u153, u154, u155, u156, u157, u158, u159, u160, u161, u162, u163, u164, u165, u166, u167, u168, u169, u170, u171, u172, u173, u174, u175, u176, u177, u178, u179, u180, u181, u182, u183, u184, u185, u186, u187, u188, u189, u190, u191, u192, u193, u194, u195, u196, u197, u198, u199, u200, u201, u202, u203, u204, u205, u206, u207, u208, u209, u210, u211, u212, u213, u214, u215, u216, u217, u218, u219, u220, u221, u222, u223, u224, u225, u226, u227, u228, u229, u230, u231, u232, u233, u234, u235, u236, u237, u238, u239, u240, u241, u242, u243, u244, u245, u246, u247, u248, u249, u250, u251, u252, u253, u254, u255, u256, u257, u258, u259, u260, u261, u262, u263, u264, u265, u266, u267, u268, u269, u270, u271, u272, u273, u274, u275, u276, u277, u278, u279, u280, u281, u282, u283, u284, u285, u286, u287, u288, u289, u290, u291, u292, u293, u294, u295, u296, u297, u298, u299, u300, u301, u302, u303, u304, u305, u306, u307, u308, u309, u310, u311, u312, u313, u314, u315, u316, u317, u318, u319, u320, u321, u322, u323, u324, u325, u326, u327, u328, u329, u330, u331, u332, u333, u334, u335, u336, u337, u338, u339, u340, u341, u342, u343, u344, u345, u346, u347, u348, u349, u350, u351, u352, u353, u354, u355, u356, u357, u358, u359, u360, u361], []⟩ wr := by
  conv => arg 2; whnf
  have HQ := hid hq
  clear hq
  obtain ⟨i60, s, dk, n8, pl, ri, bel, hub, t, nums, bytes, a64, t32, tba, tbu, tbv, hkv, sl4⟩ := H
  obtain ⟨x0, x1, x2, x3, x4⟩ := tc t
  have d2 : decide ((256 : Int) < (sl : Int)) = true := decide_eq_true (by omega)
  have hov := low_over bs ar sa sl sc At wr w1.heap.size hsl (HB.below bel)
  have HB2 := hid (HBS.below bel)
  have S := hid s
  have PL := hid pl
  have DK := hid dk
  have BEL := hid bel
  have TT := hid t
  clear s pl dk bel tba t nums bytes tbv sl4 tbu hkv HB HBS
  go_wp2_with fail
  refine hov.mono ?_
  rintro e w2 ⟨⟨x, hx, rfl⟩, b2⟩
  dsimp only
  have b3 := b2.alloc b2.size (.cells #[.int .i64 0, .int .u32 0] 32)
  have t3 : Tc (w2.alloc (.cells #[.int .i64 0, .int .u32 0] 32)) tb K N At T sa sl sc := (b3.block tb (Array.getElem?_eq_some_iff.1 TT.out).1).trans TT.out
  obtain ⟨x0, x1, x2, x3, x4⟩ := tc t3
  have his := fun wz (hb : Below (w2.alloc (.cells #[.int .i64 0, .int .u32 0] 32)).heap.size (w2.alloc (.cells #[.int .i64 0, .int .u32 0] 32)) wz) => is_w bs wz ((HB2.out.below b3).below hb) 2 x hx 103
  simp only [show ((101 : Int) + ((2 : Nat) : Int) == 103) = true from by decide] at his
  have B3 := hid b3
  clear hov b2 b3 t3
  go_wp2_with fail
  refine (his _ (Below.refl _ _)).mono ?_
  rintro e w4 ⟨rfl, b4⟩
  dsimp only
  have B4 := hid (B3.out.trans (b4.mono B3.out.size))
  clear his b4
  go_wp2_with fail
  exact HQ.out _ _ _ _ _ _ _ _ _ _ _ _ _ _ _ _ _ _ _ _ _ _ _ _ _ _ _ _ _ _ _ _ _ _ _ _ _ _ _ _ _ _ _ _ _ _ _ _ _ _ _ _ _ _ _ _ _ _ _ _ _ _ _ _ _ _ _ _ _ _ _ _ _ _ _ _ _ _ _ _ _ _ _ _ _ _ _ _ _ _ _ _ _ _ _ _ _ _ _ _ _ _ _ _ _ _ _ _ _ _ _ _ _ _ _ _ _ _ _ _ _ _ _ _ _ _ _ _ _ _ _ _ _ _ _ _ _ _ _ _ _ _ _ _ _ _ _ _ _ _ _ _ _ _ _ _ _ _ _ _ _ _ _ _ _ _ _ _ _ _ _ _ _ _ _ _ _ _ _ _ _ _ _ _ _ _ _ _ _ _ _ _ _ _ _ _ _ _ _ _ _ _ _ _ _ _ _ _ _ _ _ _ _ _ _ _ _ _ _ _ _ _ _ _ _ _ _ _ _ _ _ _ _ _ _ _ _ _ _ _ _ _ _ _ _ _ _ _ _ _ _ _ _ _ _ _ _ _ _ _ _ _ _ _ _ _ _ _ _ _ _ _ _ _ _ _ _ _ _ _ _ _ _ _ _ _ _ _ _ _ _ _ _ _ _ _ _ _ _ _ _ _ _ _ _ _ _ _ _ _ _ _ _ _ _ _ _ _ _ _ _ _ _ _ _ _ _ _ _ _ _ _ _ _ _ _ _ _ _ (.inr rfl) ⟨⟨_, _, _, _, _, _, _, _, _, _, S.out.below B4.out, DK.out.mono (by omega), by omega, PL.out.mono (by omega), by omega, rfl, BEL.out.trans (B4.out.mono BEL.out.size)⟩⟩
set_option maxHeartbeats 16000000 in
theorem k5n (H : Ki w1 wr ar dv ub i n m D u k A U G v r rs tb kv K N At T sa sl sc l) (q1 : (K == 1) = false) (q2 : (K == 5) = true) (hsl : sl ≤ 256)
    (p : Nat) (hp1 : 150 ≤ p) (hp2 : p < 300) (hfp : neither U G p = true) (hprev : ∀ q, 150 ≤ q → q < p → neither U G q = false) (hat : At ≤ (p : Int))
    (hq : ∀ (u2 u11 u12 u13 u14 u15 u16 u17 u18 u19 u20 u21 u22 u23 u24 u25 u26 u27 u28 u29 u30 u48 u49 u50 u51 u52 u53 u54 u55 u56 u57 u58 u59 u60 u61 u62 u63 u64 u65 u66 u67 u68 u69 u70 u71 u72 u73 u74 u75 u76 u77 u78 u79 u80 u81 u82 u83 u84 u85 u86 u87 u88 u89 u90 u91 u92 u93 u94 u95 u96 u97 u98 u99 u100 u101 u102 u103 u104 u105 u106 u107 u108 u109 u110 u111 u112 u113 u114 u115 u116 u117 u118 u119 u120 u121 u122 u123 u124 u125 u126 u127 u128 u129 u130 u131 u132 u133 u134 u135 u136 u137 u138 u139 u140 u141 u142 u143 u144 u145 u146 u147 u148 u149 u150 u151 u152 u153 u154 u155 u156 u157 u158 u159 u160 u161 u162 u163 u164 u165 u166 u167 u168 u169 u170 u171 u172 u173 u174 u175 u176 u177 u178 u179 u180 u181 u182 u183 u184 u185 u186 u187 u188 u189 u190 u191 u192 u193 u194 u195 u196 u197 u198 u199 u200 u201 u202 u203 u204 u205 u206 u207 u208 u209 u210 u211 u212 u213 u214 u215 u216 u217 u218 u219 u220 u221 u222 u223 u224 u225 u226 u227 u228 u229 u230 u231 u232 u233 u234 u235 u236 u237 u238 u239 u240 u241 u242 u243 u244 u245 u246 u247 u248 u249 u250 u251 u252 u253 u254 u255 u256 u257 u258 u259 u260 u261 u262 u263 u264 u265 u266 u267 u268 u269 u270 u271 u272 u273 u274 u275 u276 u277 u278 u279 u280 u281 u282 u283 u284 u285 u286 u287 u288 u289 u290 u291 u292 u293 u294 u295 u296 u297 u298 u299 u300 u301 u302 u303 u304 u305 u306 u307 u308 u309 u310 u311 u312 u313 u314 u315 u316 u317 u318 u319 u320 u321 u322 u323 u324 u325 u326 u327 u328 u329 u330 u331 u332 u333 u334 u335 u336 u337 u338 u339 u340 u341 u342 u343 u344 u345 u346 u347 u348 u349 u350 u351 u352 u353 u354 u355 u356 u357 u358 u359 u360 u361 v6 : Value) (L : Nat) (w'' : World) (e : Exit), (e = .normal ∨ e = .exit 1) → St w1 w'' ar dv ub (i + 1) L v6 → Q0 e ⟨#[.slice a0 len0 cap0, c1, u2, c3, ptr ar, ptr dv, v6, .pointer (some ⟨ub, 0, none⟩), .pointer (some ⟨ub + 1, 0, none⟩), .int .i64 (L : Int), .int .i64 (i : Int), u11, u12, u13, u14, u15, u16, u17, u18, u19, u20, u21, u22, u23, u24, u25, u26, u27, u28, u29, u30, c31, c32, c33, c34, c35, c36, c37, c38, c39, c40, c41, c42, c43, c44, c45, c46, c47, u48, u49, u50, u51, u52, u53, u54, u55, u56, u57, u58, u59, u60, u61, u62, u63, u64, u65, u66, u67, u68, u69, u70, u71, u72, u73, u74, u75, u76, u77, u78, u79, u80, u81, u82, u83, u84, u85, u86, u87, u88, u89, u90, u91, u92, u93, u94, u95, u96, u97, u98, u99, u100, u101, u102, u103, u104, u105, u106, u107, u108, u109, u110, u111, u112, u113, u114, u115, u116, u117, u118, u119, u120, u121, u122, u123, u124, u125, u126, u127, u128, u129, u130, u131, u132, u133, u134, u135, u136, u137, u138, u139, u140, u141, u142, u143, u144, u145, u146, u147, u148, u149, u150, u151, u152, u153, u154, u155, u156, u157, u158, u159, u160, u161, u162, u163, u164, u165, u166, u167, u168, u169, u170, u171, u172, u173, u174, u175, u176, u177, u178, u179, u180, u181, u182, u183, u184, u185, u186, u187, u188, u189, u190, u191, u192, u193, u194, u195, u196, u197, u198, u199, u200, u201, u202, u203, u204, u205, u206, u207, u208, u209, u210, u211, u212, u213, u214, u215, u216, u217, u218, u219, u220, u221, u222, u223, u224, u225, u226, u227, u228, u229, u230, u231, u232, u233, u234, u235, u236, u237, u238, u239, u240, u241, u242, u243, u244, u245, u246, u247, u248, u249, u250, u251, u252, u253, u254, u255, u256, u257, u258, u259, u260, u261, u262, u263, u264, u265, u266, u267, u268, u269, u270, u271, u272, u273, u274, u275, u276, u277, u278, u279, u280, u281, u282, u283, u284, u285, u286, u287, u288, u289, u290, u291, u292, u293, u294, u295, u296, u297, u298, u299, u300, u301, u302, u303, u304, u305, u306, u307, u308, u309, u310, u311, u312, u313, u314, u315, u316, u317, u318, u319, u320, u321, u322, u323, u324, u325, u326, u327, u328, u329, u330, u331, u332, u333, u334, u335, u336, u337, u338, u339, u340, u341, u342, u343, u344, u345, u346, u347, u348, u349, u350, u351, u352, u353, u354, u355, u356, u357, u358, u359, u360, u361], []⟩ w'') :
    Code.wp Tryd.prog sw Q0 ⟨#[.slice a0 len0 cap0, c1, u2, c3, ptr ar, ptr dv, v, .pointer (some ⟨ub, 0, none⟩), .pointer (some ⟨ub + 1, 0, none⟩), .int .i64 (A.last : Int), .int .i64 (i : Int), .pointer (some ⟨tb, 0, none⟩), .int .i64 kv, u13, u14, u15, u16, u17, u18, u19, u20, u21, u22, u23, u24, u25, u26, u27, u28, u29, u30, c31, c32, c33, c34, c35, c36, c37, c38, c39, c40, c41, c42, c43, c44, c45, c46, c47, u48, u49, u50, u51, u52, u53, u54, u55, u56, u57, u58, u59, u60, u61, u62, u63, u64, u65, u66, u67, u68, u69, u70, u71, u72, u73, u74, u75, u76, u77, u78, u79, u80, u81, u82, u83, u84, u85, u86, u87, u88, u89, u90, u91, u92, u93, u94, u95, u96, u97, u98, u99, u100, u101, u102, u103, u104, u105, u106, u107, u108, u109, u110, u111, u112, u113, u114, u115, u116, u117, u118, u119, u120, u121, u122, u123, u124, u125, u126, u127, u128, u129, u130, u131, u132, u133, u134, u135, u136, u137, u138, u139, u140, u141, u142, u143, u144, u145, u146, u147, u148, u149, u150, u151, u152, u153, u154, u155, u156, u157, u158, u159, u160, u161, u162, u163, u164, u165, u166, u167, u168, u169, u170, u171, u172, u173, u174, u175, u176, u177, u178, u179, u180, u181, u182, u183, u184, u185, u186, u187, u188, u189, u190, u191, u192, u193, u194, u195, u196, u197, u198, u199, u200, u201, u202, u203, u204, u205, u206, u207, u208, u209, u210, u211, u212, u213, u214, u215, u216, u217, u218, u219, u220, u221, u222, u223, u224, u225, u226, u227, u228, u229, u230, u231, u232, u233, u234, u235, u236, u237, u238, u239, u240, u241, u242, u243, u244, u245, u246, u247, u248, u249, u250, u251, u252, u253, u254, u255, u256, u257, u258, u259, u260, u261, u262, u263, u264, u265, u266, u267, u268, u269, u270, u271, u272, u273, u274, u275, u276, u277, u278, u279, u280, u281, u282, u283, u284, u285, u286, u287, u288, u289, u290, u291, u292, u293, u294, u295, u296, u297, u298, u299, u300, u301, u302, u303, u304, u305, u306, u307, u308, u309, u310, u311, u312, u313, u314, u315, u316, u317, u318, u319, u320, u321, u322, u323, u324, u325, u326, u327, u328, u329, u330, u331, u332, u333, u334, u335, u336, u337, u338, u339, u340, u341, u342, u343, u344, u345, u346, u347, u348, u349, u350, u351, u352, u353, u354, u355, u356, u357, u358, u359, u360, u361], []⟩ wr := by
  conv => arg 2; whnf
  have HQ := hid hq
  clear hq
  obtain ⟨i60, s, dk, n8, pl, ri, bel, hub, t, nums, bytes, a64, t32, tba, tbu, tbv, hkv, sl4⟩ := H
  obtain ⟨x0, x1, x2, x3, x4⟩ := tc t
  have d2 : decide ((256 : Int) < (sl : Int)) = false := decide_eq_false (by omega)
  have hB300 := dk.blocks
  have hf3 : first D.blocks = 150 := by rw [hB300, first_300]
  have hlow := low_no _ dv n m D ar u k A p sa sl sc At wr s.area hsl a64 hat (by rw [hf3]; exact hp1) (by rw [hB300]; exact hp2) (fun q h1 h2 => by rw [hf3] at h1; rw [pl.free h1 (by omega)]; exact hprev q h1 h2)
  have S := hid s
  have PL := hid pl
  have DK := hid dk
  have BEL := hid bel
  have TT := hid t
  have HPR := hid hprev
  have hub2 := s.held.lt
  clear s pl dk bel tba t nums bytes tbv sl4 tbu hkv hprev
  go_upto_region 44 with fail
  rename_i K1 a1 K2 a2
  have HA1 := hid a1
  clear a1
  go_wp2_with fail
  refine hlow.mono ?_
  rintro e w2 ⟨rfl, b2⟩
  dsimp only
  have b3 := b2.alloc b2.size (.cells #[.int .i64 0, .int .u32 0] 32)
  have t3 : Tc (w2.alloc (.cells #[.int .i64 0, .int .u32 0] 32)) tb K N At T sa sl sc := (b3.block tb (Array.getElem?_eq_some_iff.1 TT.out).1).trans TT.out
  obtain ⟨x0, x1, x2, x3, x4⟩ := tc t3
  have S3 := hid (S.out.below b3)
  have B3 := hid (BEL.out.trans (b3.mono BEL.out.size))
  clear hlow b2 b3 t3 S BEL TT
  go_wp2_with fail
  generalize w2.alloc (.cells #[.int .i64 0, .int .u32 0] 32) = w3 at *
  generalize w2.heap.size = rb at *
  go_loopw [21] (fun wv w' => ∃ q : Nat, 150 ≤ q ∧ q ≤ p ∧ wv = .int .i64 (q : Int) ∧ w' = w3) (fun wv _ => p + 1 - (RowKit.intOf wv).toNat)
  case atStart => exact ⟨150, by omega, hp1, rfl, rfl⟩
  case round =>
    obtain ⟨q, hq1, hq2, rfl, rfl⟩ := hrel
    have hU := S3.out.use.at_ q (by omega)
    have hG := S3.out.held.at_ q (by omega)
    have j1 : decide ((q : Int) < 300) = true := decide_eq_true (by omega)
    have hnf : neither U G q = (!U q && !G q) := rfl
    cases hUv : U q with
    | true =>
      rw [hUv] at hU hnf
      have hlt : q < p := by
        rcases Nat.lt_or_ge q p with h | h
        · exact h
        · rw [show q = p by omega, hfp] at hnf; cases hnf
      clear hnf hG hUv
      go_wp2_with fail
      go_roundw
      case rel => exact ⟨q + 1, by omega, by omega, by go_num, trivial⟩
      case measure => simp [RowKit.intOf]; omega
    | false =>
      rw [hUv] at hU hnf
      cases hGv : G q with
      | true =>
        rw [hGv] at hG hnf
        have hlt : q < p := by
          rcases Nat.lt_or_ge q p with h | h
          · exact h
          · rw [show q = p by omega, hfp] at hnf; cases hnf
        clear hnf hUv hGv
        go_wp2_with fail
        go_roundw
        case rel => exact ⟨q + 1, by omega, by omega, by go_num, trivial⟩
        case measure => simp [RowKit.intOf]; omega
      | false =>
        rw [hGv] at hG hnf
        have hqp : q = p := by
          rcases Nat.lt_or_ge q p with h | h
          · rw [HPR.out q hq1 h] at hnf; cases hnf
          · omega
        subst hqp
        have j2 : decide ((q : Int) < At) = false := decide_eq_false (by omega)
        clear hnf hUv hGv hat
        go_wp2_with fail
        refine HA1.out _ _ ?_
        refine tail_w S3.out.area DK.out.blocks PL.out S3.out.use S3.out.held ?_
        intros
        rename_i w8 hb8
        exact HQ.out _ _ _ _ _ _ _ _ _ _ _ _ _ _ _ _ _ _ _ _ _ _ _ _ _ _ _ _ _ _ _ _ _ _ _ _ _ _ _ _ _ _ _ _ _ _ _ _ _ _ _ _ _ _ _ _ _ _ _ _ _ _ _ _ _ _ _ _ _ _ _ _ _ _ _ _ _ _ _ _ _ _ _ _ _ _ _ _ _ _ _ _ _ _ _ _ _ _ _ _ _ _ _ _ _ _ _ _ _ _ _ _ _ _ _ _ _ _ _ _ _ _ _ _ _ _ _ _ _ _ _ _ _ _ _ _ _ _ _ _ _ _ _ _ _ _ _ _ _ _ _ _ _ _ _ _ _ _ _ _ _ _ _ _ _ _ _ _ _ _ _ _ _ _ _ _ _ _ _ _ _ _ _ _ _ _ _ _ _ _ _ _ _ _ _ _ _ _ _ _ _ _ _ _ _ _ _ _ _ _ _ _ _ _ _ _ _ _ _ _ _ _ _ _ _ _ _ _ _ _ _ _ _ _ _ _ _ _ _ _ _ _ _ _ _ _ _ _ _ _ _ _ _ _ _ _ _ _ _ _ _ _ _ _ _ _ _ _ _ _ _ _ _ _ _ _ _ _ _ _ _ _ _ _ _ _ _ _ _ _ _ _ _ _ _ _ _ _ _ _ _ _ _ _ _ _ _ _ _ _ _ _ _ _ _ _ _ _ _ _ _ _ _ _ _ _ _ _ _ _ _ _ _ _ _ _ _ _ _ (.inl rfl) ⟨⟨_, _, _, _, _, _, _, _, _, _, S3.out.below hb8, DK.out.mono (by omega), by omega, PL.out.mono (by omega), by omega, rfl, B3.out.trans (hb8.mono B3.out.size)⟩⟩
set_option maxHeartbeats 16000000 in
theorem k5y (H : Ki w1 wr ar dv ub i n m D u k A U G v r rs tb kv K N At T sa sl sc l) (q1 : (K == 1) = false) (q2 : (K == 5) = true) (hsl : sl ≤ 256)
    (p : Nat) (hp1 : 150 ≤ p) (hp2 : p < 300) (hfp : neither U G p = true) (hprev : ∀ q, 150 ≤ q → q < p → neither U G q = false) (hat : (p : Int) < At)
    (hq : ∀ (u2 u11 u12 u13 u14 u15 u16 u17 u18 u19 u20 u21 u22 u23 u24 u25 u26 u27 u28 u29 u30 u48 u49 u50 u51 u52 u53 u54 u55 u56 u57 u58 u59 u60 u61 u62 u63 u64 u65 u66 u67 u68 u69 u70 u71 u72 u73 u74 u75 u76 u77 u78 u79 u80 u81 u82 u83 u84 u85 u86 u87 u88 u89 u90 u91 u92 u93 u94 u95 u96 u97 u98 u99 u100 u101 u102 u103 u104 u105 u106 u107 u108 u109 u110 u111 u112 u113 u114 u115 u116 u117 u118 u119 u120 u121 u122 u123 u124 u125 u126 u127 u128 u129 u130 u131 u132 u133 u134 u135 u136 u137 u138 u139 u140 u141 u142 u143 u144 u145 u146 u147 u148 u149 u150 u151 u152 u153 u154 u155 u156 u157 u158 u159 u160 u161 u162 u163 u164 u165 u166 u167 u168 u169 u170 u171 u172 u173 u174 u175 u176 u177 u178 u179 u180 u181 u182 u183 u184 u185 u186 u187 u188 u189 u190 u191 u192 u193 u194 u195 u196 u197 u198 u199 u200 u201 u202 u203 u204 u205 u206 u207 u208 u209 u210 u211 u212 u213 u214 u215 u216 u217 u218 u219 u220 u221 u222 u223 u224 u225 u226 u227 u228 u229 u230 u231 u232 u233 u234 u235 u236 u237 u238 u239 u240 u241 u242 u243 u244 u245 u246 u247 u248 u249 u250 u251 u252 u253 u254 u255 u256 u257 u258 u259 u260 u261 u262 u263 u264 u265 u266 u267 u268 u269 u270 u271 u272 u273 u274 u275 u276 u277 u278 u279 u280 u281 u282 u283 u284 u285 u286 u287 u288 u289 u290 u291 u292 u293 u294 u295 u296 u297 u298 u299 u300 u301 u302 u303 u304 u305 u306 u307 u308 u309 u310 u311 u312 u313 u314 u315 u316 u317 u318 u319 u320 u321 u322 u323 u324 u325 u326 u327 u328 u329 u330 u331 u332 u333 u334 u335 u336 u337 u338 u339 u340 u341 u342 u343 u344 u345 u346 u347 u348 u349 u350 u351 u352 u353 u354 u355 u356 u357 u358 u359 u360 u361 v6 : Value) (L : Nat) (w'' : World) (e : Exit), (e = .normal ∨ e = .exit 1) → St w1 w'' ar dv ub (i + 1) L v6 → Q0 e ⟨#[.slice a0 len0 cap0, c1, u2, c3, ptr ar, ptr dv, v6, .pointer (some ⟨ub, 0, none⟩), .pointer (some ⟨ub + 1, 0, none⟩), .int .i64 (L : Int), .int .i64 (i : Int), u11, u12, u13, u14, u15, u16, u17, u18, u19, u20, u21, u22, u23, u24, u25, u26, u27, u28, u29, u30, c31, c32, c33, c34, c35, c36, c37, c38, c39, c40, c41, c42, c43, c44, c45, c46, c47, u48, u49, u50, u51, u52, u53, u54, u55, u56, u57, u58, u59, u60, u61, u62, u63, u64, u65, u66, u67, u68, u69, u70, u71, u72, u73, u74, u75, u76, u77, u78, u79, u80, u81, u82, u83, u84, u85, u86, u87, u88, u89, u90, u91, u92, u93, u94, u95, u96, u97, u98, u99, u100, u101, u102, u103, u104, u105, u106, u107, u108, u109, u110, u111, u112, u113, u114, u115, u116, u117, u118, u119, u120, u121, u122, u123, u124, u125, u126, u127, u128, u129, u130, u131, u132, u133, u134, u135, u136, u137, u138, u139, u140, u141, u142, u143, u144, u145, u146, u147, u148, u149, u150, u151, u152, u153, u154, u155, u156, u157, u158, u159, u160, u161, u162, u163, u164, u165, u166, u167, u168, u169, u170, u171, u172, u173, u174, u175, u176, u177, u178, u179, u180, u181, u182, u183, u184, u185, u186, u187, u188, u189, u190, u191, u192, u193, u194, u195, u196, u197, u198, u199, u200, u201, u202, u203, u204, u205, u206, u207, u208, u209, u210, u211, u212, u213, u214, u215, u216, u217, u218, u219, u220, u221, u222, u223, u224, u225, u226, u227, u228, u229, u230, u231, u232, u233, u234, u235, u236, u237, u238, u239, u240, u241, u242, u243, u244, u245, u246, u247, u248, u249, u250, u251, u252, u253, u254, u255, u256, u257, u258, u259, u260, u261, u262, u263, u264, u265, u266, u267, u268, u269, u270, u271, u272, u273, u274, u275, u276, u277, u278, u279, u280, u281, u282, u283, u284, u285, u286, u287, u288, u289, u290, u291, u292, u293, u294, u295, u296, u297, u298, u299, u300, u301, u302, u303, u304, u305, u306, u307, u308, u309, u310, u311, u312, u313, u314, u315, u316, u317, u318, u319, u320, u321, u322, u323, u324, u325, u326, u327, u328, u329, u330, u331, u332, u333, u334, u335, u336, u337, u338, u339, u340, u341, u342, u343, u344, u345, u346, u347, u348, u349, u350, u351, u352, u353, u354, u355, u356, u357, u358, u359, u360, u361], []⟩ w'') :
    Code.wp Tryd.prog sw Q0 ⟨#[.slice a0 len0 cap0, c1, u2, c3, ptr ar, ptr dv, v, .pointer (some ⟨ub, 0, none⟩), .pointer (some ⟨ub + 1, 0, none⟩), .int .i64 (A.last : Int), .int .i64 (i : Int), .pointer (some ⟨tb, 0, none⟩), .int .i64 kv, u13, u14, u15, u16, u17, u18, u19, u20, u21, u22, u23, u24, u25, u26, u27, u28, u29, u30, c31, c32, c33, c34, c35, c36, c37, c38, c39, c40, c41, c42, c43, c44, c45, c46, c47, u48, u49, u50, u51, u52, u53, u54, u55, u56, u57, u58, u59, u60, u61, u62, u63, u64, u65, u66, u67, u68, u69, u70, u71, u72, u73, u74, u75, u76, u77, u78, u79, u80, u81, u82, u83, u84, u85, u86, u87, u88, u89, u90, u91, u92, u93, u94, u95, u96, u97, u98, u99, u100, u101, u102, u103, u104, u105, u106, u107, u108, u109, u110, u111, u112, u113, u114, u115, u116, u117, u118, u119, u120, u121, u122, u123, u124, u125, u126, u127, u128, u129, u130, u131, u132, u133, u134, u135, u136, u137, u138, u139, u140, u141, u142, u143, u144, u145, u146, u147, u148, u149, u150, u151, u152, u153, u154, u155, u156, u157, u158, u159, u160, u161, u162, u163, u164, u165, u166, u167, u168, u169, u170, u171, u172, u173, u174, u175, u176, u177, u178, u179, u180, u181, u182, u183, u184, u185, u186, u187, u188, u189, u190, u191, u192, u193, u194, u195, u196, u197, u198, u199, u200, u201, u202, u203, u204, u205, u206, u207, u208, u209, u210, u211, u212, u213, u214, u215, u216, u217, u218, u219, u220, u221, u222, u223, u224, u225, u226, u227, u228, u229, u230, u231, u232, u233, u234, u235, u236, u237, u238, u239, u240, u241, u242, u243, u244, u245, u246, u247, u248, u249, u250, u251, u252, u253, u254, u255, u256, u257, u258, u259, u260, u261, u262, u263, u264, u265, u266, u267, u268, u269, u270, u271, u272, u273, u274, u275, u276, u277, u278, u279, u280, u281, u282, u283, u284, u285, u286, u287, u288, u289, u290, u291, u292, u293, u294, u295, u296, u297, u298, u299, u300, u301, u302, u303, u304, u305, u306, u307, u308, u309, u310, u311, u312, u313, u314, u315, u316, u317, u318, u319, u320, u321, u322, u323, u324, u325, u326, u327, u328, u329, u330, u331, u332, u333, u334, u335, u336, u337, u338, u339, u340, u341, u342, u343, u344, u345, u346, u347, u348, u349, u350, u351, u352, u353, u354, u355, u356, u357, u358, u359, u360, u361], []⟩ wr := by
  conv => arg 2; whnf
  have HQ := hid hq
  clear hq
  obtain ⟨i60, s, dk, n8, pl, ri, bel, hub, t, nums, bytes, a64, t32, tba, tbu, tbv, hkv, sl4⟩ := H
  obtain ⟨x0, x1, x2, x3, x4⟩ := tc t
  have d2 : decide ((256 : Int) < (sl : Int)) = false := decide_eq_false (by omega)
  have hB300 := dk.blocks
  have hf3 : first D.blocks = 150 := by rw [hB300, first_300]
  have hlow := low_yes _ dv n m D ar u k A p sa sl sc l At wr s.area nums bytes hsl (by omega) (by have := dk.calls; omega) dk.fuse dk.down a64 hat (by rw [hf3]; exact hp1) (by rw [hB300]; exact hp2) (by rw [pl.free hp1 hp2]; exact hfp) (fun q h1 h2 => by rw [hf3] at h1; rw [pl.free h1 (by omega)]; exact hprev q h1 h2)
  have HPb := hid (pad_blk bytes (by rw [nums.len]; exact hsl))
  have HPL2 := hid (pl.use hp1 hp2 hfp)
  have HDK2 := hid (dk.put (p : Nat) HPb.out.1)
  have S := hid s
  have DK := hid dk
  have BEL := hid bel
  have TBA := hid tba
  have TT := hid t
  have HPR := hid hprev
  have HNP := hid (BlobW.put_np D (p : Nat) (Crc.pad l))
  clear s pl dk bel tba t nums bytes tbv sl4 tbu hkv hprev
  go_upto_region 44 with fail
  rename_i K1 a1 K2 a2
  have HA1 := hid a1
  clear a1
  go_wp2_with fail
  refine hlow.mono ?_
  rintro e w2 ⟨rfl, A2, T2⟩
  dsimp only
  have t2 : Tc w2 tb K N At T sa sl sc := T2.cells TT.out fun e => by have := TBA.out tb e; omega
  have s2 := S.out.area' A2 T2
  have b3 := (Below.refl w2.heap.size w2).alloc (Nat.le_refl _) (.cells #[.int .i64 (p : Nat), .int .u32 (Crc.sum (Crc.pad l) : Nat)] 32)
  obtain ⟨y0, y1⟩ := new2 w2 (.int .i64 (p : Nat)) (.int .u32 (Crc.sum (Crc.pad l) : Nat)) 32
  have t3 : Tc (w2.alloc (.cells #[.int .i64 (p : Nat), .int .u32 (Crc.sum (Crc.pad l) : Nat)] 32)) tb K N At T sa sl sc := (b3.block tb (Array.getElem?_eq_some_iff.1 t2).1).trans t2
  obtain ⟨x0, x1, x2, x3, x4⟩ := tc t3
  have S3 := hid (s2.below b3)
  have B3 := hid ((BEL.out.trans (T2.below BEL.out.size fun x hx => S.out.area.own_lo x hx)).alloc (Nat.le_trans BEL.out.size T2.size) (.cells #[.int .i64 (p : Nat), .int .u32 (Crc.sum (Crc.pad l) : Nat)] 32))
  have hub2 := s2.held.lt
  clear hlow A2 T2 t2 s2 b3 t3 S BEL TBA TT
  go_wp2_with fail
  generalize hw3 : w2.alloc (.cells #[.int .i64 (p : Nat), .int .u32 (Crc.sum (Crc.pad l) : Nat)] 32) = w3 at *
  have hrb3 : w2.heap.size < w3.heap.size := by rw [← hw3]; simp
  clear hw3
  generalize w2.heap.size = rb at *
  have hne : rb ≠ ub := by omega
  have hpi : ((p : Nat) : Int) < 300 := by omega
  go_loopw [21] (fun wv w' => ∃ q : Nat, 150 ≤ q ∧ q ≤ p ∧ wv = .int .i64 (q : Int) ∧ w' = w3) (fun wv _ => p + 1 - (RowKit.intOf wv).toNat)
  case atStart => exact ⟨150, by omega, hp1, rfl, rfl⟩
  case round =>
    obtain ⟨q, hq1, hq2, rfl, rfl⟩ := hrel
    have hU := S3.out.use.at_ q (by omega)
    have hG := S3.out.held.at_ q (by omega)
    have j1 : decide ((q : Int) < 300) = true := decide_eq_true (by omega)
    have hnf : neither U G q = (!U q && !G q) := rfl
    cases hUv : U q with
    | true =>
      rw [hUv] at hU hnf
      have hlt : q < p := by
        rcases Nat.lt_or_ge q p with h | h
        · exact h
        · rw [show q = p by omega, hfp] at hnf; cases hnf
      clear hnf hG hUv
      go_wp2_with fail
      go_roundw
      case rel => exact ⟨q + 1, by omega, by omega, by go_num, trivial⟩
      case measure => simp [RowKit.intOf]; omega
    | false =>
      rw [hUv] at hU hnf
      cases hGv : G q with
      | true =>
        rw [hGv] at hG hnf
        have hlt : q < p := by
          rcases Nat.lt_or_ge q p with h | h
          · exact h
          · rw [show q = p by omega, hfp] at hnf; cases hnf
        clear hnf hUv hGv
        go_wp2_with fail
        go_roundw
        case rel => exact ⟨q + 1, by omega, by omega, by go_num, trivial⟩
        case measure => simp [RowKit.intOf]; omega
      | false =>
        rw [hGv] at hG hnf
        have hqp : q = p := by
          rcases Nat.lt_or_ge q p with h | h
          · rw [HPR.out q hq1 h] at hnf; cases hnf
          · omega
        subst hqp
        have j2 : decide ((q : Int) < At) = true := decide_eq_true (by omega)
        have fu := S3.out.use.frozen q
        have z0' := cell_far (v := .bool true) (j := q) hne y0
        have z1' := cell_far (v := .bool true) (j := q) hne y1
        have s9 := S3.out.setU hp2 true
        have b10 := (Below.refl (wr.setCell ⟨ub, q, none⟩ (.bool true)).heap.size _).alloc (Nat.le_refl _) (.cells #[.int .i64 (q : Int), .int .u32 (Crc.sum (Crc.pad l) : Nat)] 32)
        have S10 := hid (s9.below b10)
        have hr := Row.fresh2 (wr.setCell ⟨ub, q, none⟩ (.bool true)) (.int .i64 (q : Int)) (.int .u32 (Crc.sum (Crc.pad l) : Nat)) 32
        rw [show (wr.setCell ⟨ub, q, none⟩ (.bool true)).heap.size = wr.heap.size by simp] at hr
        clear hnf hUv hGv hat s9 b10 S3 HPR
        go_wp2_with (at_builtin; go_must (refine wpList_app elRef rfl _ _ rfl (ub + 2) v r _ rfl S10.out.own _ 1 1 [.int .i64 (q : Int), .int .u32 (Crc.sum (Crc.pad l) : Nat)] rfl hr (oneCell2 rfl rfl) (by unfold maxLen; omega) (by omega) (by simp; omega) ?_); intro v1 w9 own9 hb9 hg9)
        refine HA1.out _ _ ?_
        have S11 := hid (S10.out.grow hp1 hp2 (Crc.sum_lt HPb.out.1) own9 hg9)
        refine tail_w S11.out.area HDK2.out.blocks HPL2.out S11.out.use S11.out.held ?_
        intros
        rename_i w12 hb12
        exact HQ.out _ _ _ _ _ _ _ _ _ _ _ _ _ _ _ _ _ _ _ _ _ _ _ _ _ _ _ _ _ _ _ _ _ _ _ _ _ _ _ _ _ _ _ _ _ _ _ _ _ _ _ _ _ _ _ _ _ _ _ _ _ _ _ _ _ _ _ _ _ _ _ _ _ _ _ _ _ _ _ _ _ _ _ _ _ _ _ _ _ _ _ _ _ _ _ _ _ _ _ _ _ _ _ _ _ _ _ _ _ _ _ _ _ _ _ _ _ _ _ _ _ _ _ _ _ _ _ _ _ _ _ _ _ _ _ _ _ _ _ _ _ _ _ _ _ _ _ _ _ _ _ _ _ _ _ _ _ _ _ _ _ _ _ _ _ _ _ _ _ _ _ _ _ _ _ _ _ _ _ _ _ _ _ _ _ _ _ _ _ _ _ _ _ _ _ _ _ _ _ _ _ _ _ _ _ _ _ _ _ _ _ _ _ _ _ _ _ _ _ _ _ _ _ _ _ _ _ _ _ _ _ _ _ _ _ _ _ _ _ _ _ _ _ _ _ _ _ _ _ _ _ _ _ _ _ _ _ _ _ _ _ _ _ _ _ _ _ _ _ _ _ _ _ _ _ _ _ _ _ _ _ _ _ _ _ _ _ _ _ _ _ _ _ _ _ _ _ _ _ _ _ _ _ _ _ _ _ _ _ _ _ _ _ _ _ _ _ _ _ _ _ _ _ _ _ _ _ _ _ _ _ _ _ _ _ _ _ _ _ (.inl rfl) ⟨⟨_, _, _, _, _, _, _, _, _, _, S11.out.below hb12, HDK2.out.mono (by omega), by have := HNP.out; omega, HPL2.out, by omega, rfl, (((B3.out.setCell (p := ⟨ub, q, none⟩) hub (.bool true)).alloc (Nat.le_trans B3.out.size (by simp)) _).trans (hb9.mono (by omega))).trans (hb12.mono (by have := B3.out.size; have := hb9.size; simp at this; omega))⟩⟩
end
end Go.Proofs.YtagbnacffiagcaaDoor.blobPlays
