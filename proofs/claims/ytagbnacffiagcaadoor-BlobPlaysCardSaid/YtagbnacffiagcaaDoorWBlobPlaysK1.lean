/- The loop of BlobPlays: a Put. -/
import Derived.Test.YtagbnacffiagcaaDoorWBlobPlaysK6
import Derived.Test.YtagbnacffiagcaaDoorBlobPlaysP3
namespace Go.Proofs.YtagbnacffiagcaaDoor.blobPlays
open Go Go.RowKit Go.Maps Go.Proofs.YtagbnacffiagcaaDoor.Mem Go.Proofs.YtagbnacffiagcaaDoor.MapsW Go.Proofs.YtagbnacffiagcaaDoor.SeeW Go.Proofs.YtagbnacffiagcaaDoor.DevG Go.Proofs.YtagbnacffiagcaaDoor.BlobW Go.Proofs.YtagbnacffiagcaaDoor.RefsW Go.Proofs.YtagbnacffiagcaaDoor.Ints
set_option linter.unusedVariables false
set_option maxRecDepth 1000000
theorem off_of {w : World} {lo d n : Nat} {m : Mp} {D : Dv} {a u k : Nat} {A : Ar} (h : AAt w lo d n m D a u k A) {base : Nat} {v : Value} {r : Nat} {rs : List (Int × Nat)} (own : OwnRefs w base v r rs) : Off v (aown d m a u k) := by
  obtain ⟨_, h2 | ⟨g', c, cur, e1, hb, hg', _⟩⟩ := own
  · intro g hg; rw [h2.1] at hg; cases hg
  · intro g hg hm
    rw [e1] at hg; cases hg
    have hno : ∀ {es : Array MapEntry} {ck : Nat}, w.heap[g']? ≠ some (.map es ck) := fun e => by rw [hg'] at e; cases e
    rcases List.mem_cons.1 hm with e | hm
    · subst e
      have e2 := Option.some.inj (hg'.symm.trans h.cells)
      have e3 := (Obj.cells.inj e2).2.1
      exact absurd e3 (by decide)
    rcases List.mem_cons.1 hm with e | hm
    · subst e; obtain ⟨es, ck, hb⟩ := h.mu.block; exact hno hb
    rcases List.mem_cons.1 hm with e | hm
    · subst e; obtain ⟨es, ck, hb⟩ := h.mh.block; exact hno hb
    rcases List.mem_cons.1 hm with e | hm
    · subst e
      have e2 := Option.some.inj (hg'.symm.trans h.dev.cells)
      have e3 := (Obj.cells.inj e2).2.1
      exact absurd e3 (by decide)
    · obtain ⟨es, ck, hb⟩ := h.dev.maps _ hm; exact hno hb
theorem Sit.area' {lo : Nat} {w w2 : World} {n n' : Nat} {m : Mp} {D D' : Dv} {dv ar u k : Nat} {A A' : Ar} {ub : Nat} {U G : Nat → Bool} {v : Value} {r : Nat} {rs : List (Int × Nat)} (s : Sit lo w n m D dv ar u k A ub U G v r rs)
    (A2 : AAt w2 lo dv n' m D' ar u k A') (T2 : Turn (aown dv m ar u k) w w2) : Sit lo w2 n' m D' dv ar u k A' ub U G v r rs :=
  ⟨A2, s.use.turn T2 s.uoff, s.held.turn T2 s.goff, own_off s.own T2 s.off, s.nil, s.row, s.off, s.uoff, s.goff⟩
theorem Sit.grow {lo : Nat} {w w9 : World} {n : Nat} {m : Mp} {D : Dv} {dv ar u k : Nat} {A : Ar} {ub : Nat} {U G : Nat → Bool} {v v9 : Value} {r : Nat} {rs : List (Int × Nat)} (s : Sit lo w n m D dv ar u k A ub U G v r rs) {p c : Nat} (p1 : 150 ≤ p) (p2 : p < 300) (hc : c < 4294967296)
    (own9 : w9.ownsRow (ub + 2) 32 2 v9 (r + 1) (refCells rs ++ [.int .i64 (p : Int), .int .u32 (c : Int)])) (hg : w.grownBy w9 v.ownBlock) : Sit lo w9 n m D dv ar u k A ub U G v9 (r + 1) (rs ++ [((p : Int), c)]) := by
  have hb := off_base s.own
  have own' : OwnRefs w9 (ub + 2) v9 (r + 1) (rs ++ [((p : Int), c)]) := by
    show World.ownsRow _ _ _ _ _ _ (refCells _)
    rw [refCells_append]; exact own9
  have A9 := s.area.grownOff s.own hg s.off s.nil
  refine ⟨A9, s.use.keep (hg.block _ s.use.lt fun e => ?_), s.held.keep (hg.block _ s.held.lt fun e => ?_), own', fun e => absurd e (by omega), fun x hx => ?_, off_of A9 own', s.uoff, s.goff⟩
  · have := hb _ e.symm; omega
  · have := hb _ e.symm; omega
  · rcases List.mem_append.1 hx with h | h
    · exact s.row x h
    · rw [List.mem_singleton.1 h]; exact ⟨p, rfl, p1, p2, hc⟩
theorem Sit.setU {lo : Nat} {w : World} {n : Nat} {m : Mp} {D : Dv} {dv ar u k : Nat} {A : Ar} {ub : Nat} {U G : Nat → Bool} {v : Value} {r : Nat} {rs : List (Int × Nat)} (s : Sit lo w n m D dv ar u k A ub U G v r rs) {p : Nat} (p2 : p < 300) (b : Bool) : Sit lo (w.setCell ⟨ub, p, none⟩ (.bool b)) n m D dv ar u k A ub (updN U p b) G v r rs := by
  have hb := off_base s.own
  have T1 := Turn.setCell w ub p (.bool b) (S := [ub]) (by simp)
  exact ⟨s.area.setB s.use s.uoff b, s.use.set p p2 b, s.held.turn T1 (by simp), own_off s.own T1 fun g hg e => by have := hb g hg; have := List.mem_singleton.1 e; omega, s.nil, s.row, s.off, s.uoff, s.goff⟩
theorem cell_far {w : World} {d x j k : Nat} {u v : Value} (h : d ≠ x) (hc : w.cell? ⟨d, k, none⟩ = some u) : (w.setCell ⟨x, j, none⟩ v).cell? ⟨d, k, none⟩ = some u :=
  (World.cell?_of_block (w := w) (heap_setCell_other w ⟨x, j, none⟩ d v h)).trans hc
section
variable {a0 : Option Addr} {len0 cap0 : Nat} {w1 wr : World} {ar dv ub i n : Nat} {m : Mp} {D : Dv} {u k : Nat} {A : Ar} {U G : Nat → Bool} {v : Value} {r : Nat} {rs : List (Int × Nat)} {tb : Nat} {kv K N At : Int} {T : Nat} {sa : Option Addr} {sl sc : Nat} {l : List Nat} {c1 c3 c31 c32 c33 c34 c35 c36 c37 c38 c39 c40 c41 c42 c43 c44 c45 c46 c47 u2 u11 u12 u13 u14 u15 u16 u17 u18 u19 u20 u21 u22 u23 u24 u25 u26 u27 u28 u29 u30 u48 u49 u50 u51 u52 u53 u54 u55 u56 u57 u58 u59 u60 u61 u62 u63 u64 u65 u66 u67 u68 u69 u70 u71 u72 u73 u74 u75 u76 u77 u78 u79 u80 u81 u82 u83 u84 u85 u86 u87 u88 u89 u90 u91 u92 u93 u94 u95 u96 u97 u98 u99 u100 u101 u102 u103 u104 u105 u106 u107 u108 u109 u110 u111 u112 u113 u114 u115 u116 u117 u118 u119 u120 u121 u122 u123 u124 u125 u126 u127 u128 u129 u130 u131 u132 u133 u134 u135 u136 u137 u138 u139 u140 u141 u142 u143 u144 u145 u146 u147 u148 u149 u150 u151 u152 u153 u154 u155 u156 u157 u158 u159 u160 u161 u162 u163 u164 u165 u166 u167 u168 u169 u170 u171 u172 u173 u174 u175 u176 u177 u178 u179 u180 u181 u182 u183 u184 u185 u186 u187 u188 u189 u190 u191 u192 u193 u194 u195 u196 u197 u198 u199 u200 u201 u202 u203 u204 u205 u206 u207 u208 u209 u210 u211 u212 u213 u214 u215 u216 u217 u218 u219 u220 u221 u222 u223 u224 u225 u226 u227 u228 u229 u230 u231 u232 u233 u234 u235 u236 u237 u238 u239 u240 u241 u242 u243 u244 u245 u246 u247 u248 u249 u250 u251 u252 u253 u254 u255 u256 u257 u258 u259 u260 u261 u262 u263 u264 u265 u266 u267 u268 u269 u270 u271 u272 u273 u274 u275 u276 u277 u278 u279 u280 u281 u282 u283 u284 u285 u286 u287 u288 u289 u290 u291 u292 u293 u294 u295 u296 u297 u298 u299 u300 u301 u302 u303 u304 u305 u306 u307 u308 u309 u310 u311 u312 u313 u314 u315 u316 u317 u318 u319 u320 u321 u322 u323 u324 u325 u326 u327 u328 u329 u330 u331 u332 u333 u334 u335 u336 u337 u338 u339 u340 u341 u342 u343 u344 u345 u346 u347 u348 u349 u350 u351 u352 u353 u354 u355 u356 u357 u358 u359 u360 u361 : Value} {Q0 : Exit → Act → World → Prop}
set_option maxHeartbeats 16000000 in
theorem k1o (bs : List Addr) (HB : Ev w1 w1.heap.size bs [2]) (HBS : Bs w1 bs) (H : Ki w1 wr ar dv ub i n m D u k A U G v r rs tb kv K N At T sa sl sc l) (q1 : (K == 1) = true) (hsl : 256 < sl)
    (hq : ∀ (u2 u11 u12 u13 u14 u15 u16 u17 u18 u19 u20 u21 u22 u23 u24 u25 u26 u27 u28 u29 u30 u48 u49 u50 u51 u52 u53 u54 u55 u56 u57 u58 u59 u60 u61 u62 u63 u64 u65 u66 u67 u68 u69 u70 u71 u72 u73 u74 u75 u76 u77 u78 u79 u80 u81 u82 u83 u84 u85 u86 u87 u88 u89 u90 u91 u92 u93 u94 u95 u96 u97 u98 u99 u100 u101 u102 u103 u104 u105 u106 u107 u108 u109 u110 u111 u112 u113 u114 u115 u116 u117 u118 u119 u120 u121 u122 u123 u124 u125 u126 u127 u128 u129 u130 u131 u132 u133 u134 u135 u136 u137 u138 u139 u140 u141 u142 u143 u144 u145 u146 u147 u148 u149 u150 u151 u152 u153 u154 u155 u156 u157 u158 u159 u160 u161 u162 u163 u164 u165 u166 u167 u168 u169 u170 u171 u172 u173 u174 u175 u176 u177 u178 u179 u180 u181 u182 u183 u184 u185 u186 u187 u188 u189 u190 u191 u192 u193 u194 u195 u196 u197 u198 u199 u200 u201 u202 u203 u204 u205 u206 u207 u208 u209 u210 u211 u212 u213 u214 u215 u216 u217 u218 u219 u220 u221 u222 u223 u224 u225 u226 u227 u228 u229 u230 u231 u232 u233 u234 u235 u236 u237 u238 u239 u240 u241 u242 u243 u244 u245 u246 u247 u248 u249 u250 u251 u252 u253 u254 u255 u256 u257 u258 u259 u260 u261 u262 u263 u264 u265 u266 u267 u268 u269 u270 u271 u272 u273 u274 u275 u276 u277 u278 u279 u280 u281 u282 u283 u284 u285 u286 u287 u288 u289 u290 u291 u292 u293 u294 u295 u296 u297 u298 u299 u300 u301 u302 u303 u304 u305 u306 u307 u308 u309 u310 u311 u312 u313 u314 u315 u316 u317 u318 u319 u320 u321 u322 u323 u324 u325 u326 u327 u328 u329 u330 u331 u332 u333 u334 u335 u336 u337 u338 u339 u340 u341 u342 u343 u344 u345 u346 u347 u348 u349 u350 u351 u352 u353 u354 u355 u356 u357 u358 u359 u360 u361 v6 : Value) (L : Nat) (w'' : World) (e : Exit), (e = .normal ∨ e = .exit 1) → St w1 w'' ar dv ub (i + 1) L v6 → Q0 e ⟨#[.slice a0 len0 cap0, c1, u2, c3, ptr ar, ptr dv, v6, .pointer (some ⟨ub, 0, none⟩), .pointer (some ⟨ub + 1, 0, none⟩), .int .i64 (L : Int), .int .i64 (i : Int), u11, u12, u13, u14, u15, u16, u17, u18, u19, u20, u21, u22, u23, u24, u25, u26, u27, u28, u29, u30, c31, c32, c33, c34, c35, c36, c37, c38, c39, c40, c41, c42, c43, c44, c45, c46, c47, u48, u49, u50, u51, u52, u53, u54, u55, u56, u57, u58, u59, u60, u61, u62, u63, u64, u65, u66, u67, u68, u69, u70, u71, u72, u73, u74, u75, u76, u77, u78, u79, u80, u81, u82, u83, u84, u85, u86, u87, u88, u89, u90, u91, u92, u93, u94, u95, u96, u97, u98, u99, u100, u101, u102, u103, u104, u105, u106, u107, u108, u109, u110, u111, u112, u113, u114, u115, u116, u117, u118, u119, u120, u121, u122, u123, u124, u125, u126, u127, u128, u129, u130, u131, u132, u133, u134, u135, u136, u137, u138, u139, u140, u141, u142, u143, u144, u145, u146, u147, u148, u149, u150, u151, u152, u153, u154, u155, u156, u157, u158, u159, u160, u161, u162, u163, u164, u165, u166, u167, u168, u169, u170, u171, u172, u173, u174, u175, u176, u177, u178, u179, u180, u181, u182, u183, u184, u185, u186, u187, u188, u189, u190, u191, u192, u193, u194, u195, u196, u197, u198, u199, u200, u201, u202, u203, u204, u205, u206, u207, u208, u209, u210, u211, u212, u213, u214, u215, u216, u217, u218, u219, u220, u221, u222, u223, u224, u225, u226, u227, u228, u229, u230, u231, u232, u233, u234, u235, u236, u237, u238, u239, u240, u241, u242, u243, u244, u245, u246, u247, u248, u249, u250, u251, u252, u253, u254, u255, u256, u257, u258, u259, u260, u261, u262, u263, u264, u265, u266, u267, u268, u269, u270, u271, u272, u273, u274, u275, u276, u277, u278, u279, u280, u281, u282, u283, u284, u285, u286, u287, u288, u289, u290, u291, u292, u293, u294, u295, u296, u297, u298, u299, u300, u301, u302, u303, u304, u305, u306, u307, u308, u309, u310, u311, u312, u313, u314, u315, u316, u317, u318, u319, u320, u321, u322, u323, u324, u325, u326, u327, u328, u329, u330, u331, u332, u333, u334, u335, u336, u337, u338, u339, u340, u341, u342, u343, u344, u345, u346, u347, u348, u349, u350, u351, u352, u353, u354, u355, u356, u357, u358, u359, u360, u361], []⟩ w'') :
    Code.wp Tryd.prog sw Q0 ⟨#[.slice a0 len0 cap0, c1, u2, c3, ptr ar, ptr dv, v, .pointer (some ⟨ub, 0, none⟩), .pointer (some ⟨ub + 1, 0, none⟩), .int .i64 (A.last : Int), .int .i64 (i : Int), .pointer (some ⟨tb, 0, none⟩), .int .i64 kv, u13, u14, u15, u16, u17, u18, u19, u20, u21, u22, u23, u24, u25, u26, u27, u28, u29, u30, c31, c32, c33, c34, c35, c36, c37, c38, c39, c40, c41, c42, c43, c44, c45, c46, c47, u48, u49, u50, u51, u52, u53, u54, u55, u56, u57, u58, u59, u60, u61, u62, u63, u64, u65, u66, u67, u68, u69, u70, u71, u72, u73, u74, u75, u76, u77, u78, u79, u80, u81, u82, u83, u84, u85, u86, u87, u88, u89, u90, u91, u92, u93, u94, u95, u96, u97, u98, u99, u100, u101, u102, u103, u104, u105, u106, u107, u108, u109, u110, u111, u112, u113, u114, u115, u116, u117, u118, u119, u120, u121, u122, u123, u124, u125, u126, u127, u128, u129, u130, u131, u132, u133, u134, u135, u136, u137, u138, u139, u140, u141, u142, u143, u144, u145, u146, u147, u148, u149, u150, u151, u152, u153, u154, u155, u156, u157, u158, u159, u160, u161, u162, u163, u164, u165, u166, u167, u168, u169, u170, u171, u172, u173, u174, u175, u176, u177, u178, u179, u180, u181, u182, u183, u184, u185, u186, u187, u188, u189, u190, u191, u192, u193, u194, u195, u196, u197, u198, u199, u200, u201, u202, u203, u204, u205, u206, u207, u208, u209, u210, u211, u212, u213, u214, u215, u216, u217, u218, u219, u220, u221, u222, u223, u224, u225, u226, u227, u228, u229, u230, u231, u232, u233, u234, u235, u236, u237, u238, u239, u240, u241, u242, u243, u244, u245, u246, u247, u248, u249, u250, u251, u252, u253, u254, u255, u256, u257, u258, u259, u260, u261, u262, u263, u264, u265, u266, u267, u268, u269, u270, u271, u272, u273, u274, u275, u276, u277, u278, u279, u280, u281, u282, u283, u284, u285, u286, u287, u288, u289, u290, u291, u292, u293, u294, u295, u296, u297, u298, u299, u300, u301, u302, u303, u304, u305, u306, u307, u308, u309, u310, u311, u312, u313, u314, u315, u316, u317, u318, u319, u320, u321, u322, u323, u324, u325, u326, u327, u328, u329, u330, u331, u332, u333, u334, u335, u336, u337, u338, u339, u340, u341, u342, u343, u344, u345, u346, u347, u348, u349, u350, u351, u352, u353, u354, u355, u356, u357, u358, u359, u360, u361], []⟩ wr := by
  conv => arg 2; whnf
  have HQ := hid hq
  clear hq
  obtain ⟨i60, s, dk, n8, pl, ri, bel, hub, t, nums, bytes, a64, t32, tba, tbu, tbv, hkv, sl4⟩ := H
  obtain ⟨x0, x1, x2, x3, x4⟩ := tc t
  have d2 : decide ((256 : Int) < (sl : Int)) = true := decide_eq_true (by omega)
  have hov := put_over bs ar sa sl sc wr w1.heap.size hsl (HB.below bel)
  have HB2 := hid (HBS.below bel)
  have S := hid s
  have PL := hid pl
  have DK := hid dk
  have BEL := hid bel
  have TT := hid t
  clear s pl dk bel tba t nums bytes tbv sl4 tbu hkv HB HBS
  go_wp2_with fail
  refine hov.mono ?_
  rintro e w2 ⟨⟨x, hx, rfl⟩, b2⟩
  dsimp only
  have b3 := b2.alloc b2.size (.cells #[.int .i64 0, .int .u32 0] 32)
  have t3 : Tc (w2.alloc (.cells #[.int .i64 0, .int .u32 0] 32)) tb K N At T sa sl sc := (b3.block tb (Array.getElem?_eq_some_iff.1 TT.out).1).trans TT.out
  obtain ⟨x0, x1, x2, x3, x4⟩ := tc t3
  have his := fun wz (hb : Below (w2.alloc (.cells #[.int .i64 0, .int .u32 0] 32)).heap.size (w2.alloc (.cells #[.int .i64 0, .int .u32 0] 32)) wz) => is_w bs wz ((HB2.out.below b3).below hb) 2 x hx 103
  simp only [show ((101 : Int) + ((2 : Nat) : Int) == 103) = true from by decide] at his
  have B3 := hid b3
  clear hov b2 b3 t3
  go_wp2_with fail
  refine (his _ (Below.refl _ _)).mono ?_
  rintro e w4 ⟨rfl, b4⟩
  dsimp only
  have B4 := hid (B3.out.trans (b4.mono B3.out.size))
  clear his b4
  go_wp2_with fail
  exact HQ.out _ _ _ _ _ _ _ _ _ _ _ _ _ _ _ _ _ _ _ _ _ _ _ _ _ _ _ _ _ _ _ _ _ _ _ _ _ _ _ _ _ _ _ _ _ _ _ _ _ _ _ _ _ _ _ _ _ _ _ _ _ _ _ _ _ _ _ _ _ _ _ _ _ _ _ _ _ _ _ _ _ _ _ _ _ _ _ _ _ _ _ _ _ _ _ _ _ _ _ _ _ _ _ _ _ _ _ _ _ _ _ _ _ _ _ _ _ _ _ _ _ _ _ _ _ _ _ _ _ _ _ _ _ _ _ _ _ _ _ _ _ _ _ _ _ _ _ _ _ _ _ _ _ _ _ _ _ _ _ _ _ _ _ _ _ _ _ _ _ _ _ _ _ _ _ _ _ _ _ _ _ _ _ _ _ _ _ _ _ _ _ _ _ _ _ _ _ _ _ _ _ _ _ _ _ _ _ _ _ _ _ _ _ _ _ _ _ _ _ _ _ _ _ _ _ _ _ _ _ _ _ _ _ _ _ _ _ _ _ _ _ _ _ _ _ _ _ _ _ _ _ _ _ _ _ _ _ _ _ _ _ _ _ _ _ _ _ _ _ _ _ _ _ _ _ _ _ _ _ _ _ _ _ _ _ _ _ _ _ _ _ _ _ _ _ _ _ _ _ _ _ _ _ _ _ _ _ _ _ _ _ _ _ _ _ _ _ _ _ _ _ _ _ _ _ _ _ _ _ _ _ _ _ _ _ _ _ _ _ (.inr rfl) ⟨⟨_, _, _, _, _, _, _, _, _, _, S.out.below B4.out, DK.out.mono (by omega), by omega, PL.out.mono (by omega), by omega, rfl, BEL.out.trans (B4.out.mono BEL.out.size)⟩⟩
set_option maxHeartbeats 16000000 in
theorem k1 (H : Ki w1 wr ar dv ub i n m D u k A U G v r rs tb kv K N At T sa sl sc l) (q1 : (K == 1) = true) (hsl : sl ≤ 256)
    (hq : ∀ (u2 u11 u12 u13 u14 u15 u16 u17 u18 u19 u20 u21 u22 u23 u24 u25 u26 u27 u28 u29 u30 u48 u49 u50 u51 u52 u53 u54 u55 u56 u57 u58 u59 u60 u61 u62 u63 u64 u65 u66 u67 u68 u69 u70 u71 u72 u73 u74 u75 u76 u77 u78 u79 u80 u81 u82 u83 u84 u85 u86 u87 u88 u89 u90 u91 u92 u93 u94 u95 u96 u97 u98 u99 u100 u101 u102 u103 u104 u105 u106 u107 u108 u109 u110 u111 u112 u113 u114 u115 u116 u117 u118 u119 u120 u121 u122 u123 u124 u125 u126 u127 u128 u129 u130 u131 u132 u133 u134 u135 u136 u137 u138 u139 u140 u141 u142 u143 u144 u145 u146 u147 u148 u149 u150 u151 u152 u153 u154 u155 u156 u157 u158 u159 u160 u161 u162 u163 u164 u165 u166 u167 u168 u169 u170 u171 u172 u173 u174 u175 u176 u177 u178 u179 u180 u181 u182 u183 u184 u185 u186 u187 u188 u189 u190 u191 u192 u193 u194 u195 u196 u197 u198 u199 u200 u201 u202 u203 u204 u205 u206 u207 u208 u209 u210 u211 u212 u213 u214 u215 u216 u217 u218 u219 u220 u221 u222 u223 u224 u225 u226 u227 u228 u229 u230 u231 u232 u233 u234 u235 u236 u237 u238 u239 u240 u241 u242 u243 u244 u245 u246 u247 u248 u249 u250 u251 u252 u253 u254 u255 u256 u257 u258 u259 u260 u261 u262 u263 u264 u265 u266 u267 u268 u269 u270 u271 u272 u273 u274 u275 u276 u277 u278 u279 u280 u281 u282 u283 u284 u285 u286 u287 u288 u289 u290 u291 u292 u293 u294 u295 u296 u297 u298 u299 u300 u301 u302 u303 u304 u305 u306 u307 u308 u309 u310 u311 u312 u313 u314 u315 u316 u317 u318 u319 u320 u321 u322 u323 u324 u325 u326 u327 u328 u329 u330 u331 u332 u333 u334 u335 u336 u337 u338 u339 u340 u341 u342 u343 u344 u345 u346 u347 u348 u349 u350 u351 u352 u353 u354 u355 u356 u357 u358 u359 u360 u361 v6 : Value) (L : Nat) (w'' : World) (e : Exit), (e = .normal ∨ e = .exit 1) → St w1 w'' ar dv ub (i + 1) L v6 → Q0 e ⟨#[.slice a0 len0 cap0, c1, u2, c3, ptr ar, ptr dv, v6, .pointer (some ⟨ub, 0, none⟩), .pointer (some ⟨ub + 1, 0, none⟩), .int .i64 (L : Int), .int .i64 (i : Int), u11, u12, u13, u14, u15, u16, u17, u18, u19, u20, u21, u22, u23, u24, u25, u26, u27, u28, u29, u30, c31, c32, c33, c34, c35, c36, c37, c38, c39, c40, c41, c42, c43, c44, c45, c46, c47, u48, u49, u50, u51, u52, u53, u54, u55, u56, u57, u58, u59, u60, u61, u62, u63, u64, u65, u66, u67, u68, u69, u70, u71, u72, u73, u74, u75, u76, u77, u78, u79, u80, u81, u82, u83, u84, u85, u86, u87, u88, u89, u90, u91, u92, u93, u94, u95, u96, u97, u98, u99, u100, u101, u102, u103, u104, u105, u106, u107, u108, u109, u110, u111, u112, u113, u114, u115, u116, u117, u118, u119, u120, u121, u122, u123, u124, u125, u126, u127, u128, u129, u130, u131, u132, u133, u134, u135, u136, u137, u138, u139, u140, u141, u142, u143, u144, u145, u146, u147, u148, u149, u150, u151, u152, u153, u154, u155, u156, u157, u158, u159, u160, u161, u162, u163, u164, u165, u166, u167, u168, u169, u170, u171, u172, u173, u174, u175, u176, u177, u178, u179, u180, u181, u182, u183, u184, u185, u186, u187, u188, u189, u190, u191, u192, u193, u194, u195, u196, u197, u198, u199, u200, u201, u202, u203, u204, u205, u206, u207, u208, u209, u210, u211, u212, u213, u214, u215, u216, u217, u218, u219, u220, u221, u222, u223, u224, u225, u226, u227, u228, u229, u230, u231, u232, u233, u234, u235, u236, u237, u238, u239, u240, u241, u242, u243, u244, u245, u246, u247, u248, u249, u250, u251, u252, u253, u254, u255, u256, u257, u258, u259, u260, u261, u262, u263, u264, u265, u266, u267, u268, u269, u270, u271, u272, u273, u274, u275, u276, u277, u278, u279, u280, u281, u282, u283, u284, u285, u286, u287, u288, u289, u290, u291, u292, u293, u294, u295, u296, u297, u298, u299, u300, u301, u302, u303, u304, u305, u306, u307, u308, u309, u310, u311, u312, u313, u314, u315, u316, u317, u318, u319, u320, u321, u322, u323, u324, u325, u326, u327, u328, u329, u330, u331, u332, u333, u334, u335, u336, u337, u338, u339, u340, u341, u342, u343, u344, u345, u346, u347, u348, u349, u350, u351, u352, u353, u354, u355, u356, u357, u358, u359, u360, u361], []⟩ w'') :
    Code.wp Tryd.prog sw Q0 ⟨#[.slice a0 len0 cap0, c1, u2, c3, ptr ar, ptr dv, v, .pointer (some ⟨ub, 0, none⟩), .pointer (some ⟨ub + 1, 0, none⟩), .int .i64 (A.last : Int), .int .i64 (i : Int), .pointer (some ⟨tb, 0, none⟩), .int .i64 kv, u13, u14, u15, u16, u17, u18, u19, u20, u21, u22, u23, u24, u25, u26, u27, u28, u29, u30, c31, c32, c33, c34, c35, c36, c37, c38, c39, c40, c41, c42, c43, c44, c45, c46, c47, u48, u49, u50, u51, u52, u53, u54, u55, u56, u57, u58, u59, u60, u61, u62, u63, u64, u65, u66, u67, u68, u69, u70, u71, u72, u73, u74, u75, u76, u77, u78, u79, u80, u81, u82, u83, u84, u85, u86, u87, u88, u89, u90, u91, u92, u93, u94, u95, u96, u97, u98, u99, u100, u101, u102, u103, u104, u105, u106, u107, u108, u109, u110, u111, u112, u113, u114, u115, u116, u117, u118, u119, u120, u121, u122, u123, u124, u125, u126, u127, u128, u129, u130, u131, u132, u133, u134, u135, u136, u137, u138, u139, u140, u141, u142, u143, u144, u145, u146, u147, u148, u149, u150, u151, u152, u153, u154, u155, u156, u157, u158, u159, u160, u161, u162, u163, u164, u165, u166, u167, u168, u169, u170, u171, u172, u173, u174, u175, u176, u177, u178, u179, u180, u181, u182, u183, u184, u185, u186, u187, u188, u189, u190, u191, u192, u193, u194, u195, u196, u197, u198, u199, u200, u201, u202, u203, u204, u205, u206, u207, u208, u209, u210, u211, u212, u213, u214, u215, u216, u217, u218, u219, u220, u221, u222, u223, u224, u225, u226, u227, u228, u229, u230, u231, u232, u233, u234, u235, u236, u237, u238, u239, u240, u241, u242, u243, u244, u245, u246, u247, u248, u249, u250, u251, u252, u253, u254, u255, u256, u257, u258, u259, u260, u261, u262, u263, u264, u265, u266, u267, u268, u269, u270, u271, u272, u273, u274, u275, u276, u277, u278, u279, u280, u281, u282, u283, u284, u285, u286, u287, u288, u289, u290, u291, u292, u293, u294, u295, u296, u297, u298, u299, u300, u301, u302, u303, u304, u305, u306, u307, u308, u309, u310, u311, u312, u313, u314, u315, u316, u317, u318, u319, u320, u321, u322, u323, u324, u325, u326, u327, u328, u329, u330, u331, u332, u333, u334, u335, u336, u337, u338, u339, u340, u341, u342, u343, u344, u345, u346, u347, u348, u349, u350, u351, u352, u353, u354, u355, u356, u357, u358, u359, u360, u361], []⟩ wr := by
  conv => arg 2; whnf
  have HQ := hid hq
  clear hq
  obtain ⟨i60, s, dk, n8, pl, ri, bel, hub, t, nums, bytes, a64, t32, tba, tbu, tbv, hkv, sl4⟩ := H
  obtain ⟨x0, x1, x2, x3, x4⟩ := tc t
  have d2 : decide ((256 : Int) < (sl : Int)) = false := decide_eq_false (by omega)
  have hB300 := dk.blocks
  obtain ⟨kq, hkq, hnx, hfp, hprev⟩ := pl.next (by omega)
  have hl9 := pl.last
  obtain ⟨p, hpe⟩ : ∃ p, p = 150 + (A.last - 150 + 1 + kq) % 150 := ⟨_, rfl⟩
  rw [← hpe] at hnx hfp
  have hp1 : 150 ≤ p := by omega
  have hp2 : p < 300 := by omega
  have hput := put_w _ dv n m D ar u k A p sa sl sc l wr s.area nums bytes hsl (by omega) (by have := dk.calls; omega) dk.fuse dk.down (by rw [hB300]; exact ⟨by rw [first_300]; omega, by omega⟩) (by rw [hB300]; exact hnx)
  have HPb := hid (pad_blk bytes (by rw [nums.len]; exact hsl))
  have HPL2 := hid (pl.put hp1 hp2 hfp)
  have HDK2 := hid (dk.put (p : Nat) HPb.out.1)
  have hat : ∀ j, 1 ≤ j → j ≤ kq + 1 → ∃ z : Nat, ((A.last : Int) - 150 + (j : Int)).tmod 150 = ((z : Nat) : Int) ∧ z < 150 ∧ ((150 : Int) + (z : Int)) = ((150 + z : Nat) : Int) ∧ (j ≤ kq → neither U G (150 + z) = false) ∧ (j = kq + 1 → 150 + z = p) := fun j h1 h2 => by
    refine ⟨(A.last - 150 + j) % 150, ?_, Nat.mod_lt _ (by decide), by omega, fun h => ?_, fun h => ?_⟩
    · rw [show (A.last : Int) - 150 + (j : Int) = ((A.last - 150 + j : Nat) : Int) by omega]; rfl
    · have := hprev (j - 1) (by omega)
      rw [show A.last - 150 + 1 + (j - 1) = A.last - 150 + j by omega] at this
      exact this
    · rw [hpe, h, show A.last - 150 + (kq + 1) = A.last - 150 + 1 + kq by omega]
  have HAT := hid hat
  have S := hid s
  have DK := hid dk
  have BEL := hid bel
  have TBA := hid tba
  have TT := hid t
  have NUM := hid nums
  have HNP := hid (BlobW.put_np D (p : Nat) (Crc.pad l))
  clear s pl dk bel tba t nums bytes tbv sl4 tbu hkv hprev hnx hat hpe
  go_upto_region 27 with fail
  rename_i K1 a1 K2 a2
  have HA1 := hid a1
  clear a1
  go_wp2_with fail
  refine hput.mono ?_
  rintro e w2 ⟨rfl, A2, T2⟩
  dsimp only
  have t2 : Tc w2 tb K N At T sa sl sc := T2.cells TT.out fun e => by have := TBA.out tb e; omega
  have s2 := S.out.area' A2 T2
  have b3 := (Below.refl w2.heap.size w2).alloc (Nat.le_refl _) (.cells #[.int .i64 (p : Nat), .int .u32 (Crc.sum (Crc.pad l) : Nat)] 32)
  obtain ⟨y0, y1⟩ := new2 w2 (.int .i64 (p : Nat)) (.int .u32 (Crc.sum (Crc.pad l) : Nat)) 32
  have t3 : Tc (w2.alloc (.cells #[.int .i64 (p : Nat), .int .u32 (Crc.sum (Crc.pad l) : Nat)] 32)) tb K N At T sa sl sc := (b3.block tb (Array.getElem?_eq_some_iff.1 t2).1).trans t2
  obtain ⟨x0, x1, x2, x3, x4⟩ := tc t3
  have S3 := hid (s2.below b3)
  have NUM3 := hid ((nums_turn NUM.out T2 S.out.area.nou8).below b3)
  have B3 := hid ((BEL.out.trans (T2.below BEL.out.size fun x hx => S.out.area.own_lo x hx)).alloc (Nat.le_trans BEL.out.size T2.size) (.cells #[.int .i64 (p : Nat), .int .u32 (Crc.sum (Crc.pad l) : Nat)] 32))
  have HTB := hid t3
  have hub2 := s2.held.lt
  clear hput A2 T2 t2 s2 b3 t3 S BEL TBA TT NUM
  go_wp2_with fail
  generalize hw3 : w2.alloc (.cells #[.int .i64 (p : Nat), .int .u32 (Crc.sum (Crc.pad l) : Nat)] 32) = w3 at *
  have hrb3 : w2.heap.size < w3.heap.size := by rw [← hw3]; simp
  clear hw3
  generalize w2.heap.size = rb at *
  rename_i K5 a5
  have HA5 := hid a5
  clear a5
  have hne : rb ≠ ub := by omega
  have hpi : ((p : Nat) : Int) < 300 := by omega
  have HE : Hid (∀ (u2 u17 u18 u19 u20 u21 u22 u23 u24 u25 u26 u27 u28 u29 u30 u48 u49 u50 u51 u52 u53 u54 u55 u56 u57 u58 u59 u60 u61 u62 u63 u64 u65 u66 u67 u68 u69 u70 u71 u72 u73 u74 u75 u76 u77 u78 u79 u80 u81 u82 u83 u84 u85 u86 u87 u88 u89 u90 u91 u92 u93 u94 u95 u96 u97 u98 u99 u100 u101 u102 u103 u104 u105 u106 u107 u108 u109 u110 u111 u112 u113 u114 u115 u116 u117 u118 u119 u120 u121 u122 u123 u124 u125 u126 u127 u128 u129 u130 u131 u132 u133 u134 u135 u136 u137 u138 u139 u140 u141 u142 u143 u144 u145 u146 u147 u148 u149 u150 u151 u152 u153 u154 u155 u156 u157 u158 u159 u160 u161 u162 u163 u164 u165 u166 u167 u168 u169 u170 u171 u172 u173 u174 u175 u176 u177 u178 u179 u180 u181 u182 u183 u184 u185 u186 u187 u188 u189 u190 u191 u192 u193 u194 u195 u196 u197 u198 u199 u200 u201 u202 u203 u204 u205 u206 u207 u208 u209 u210 u211 u212 u213 u214 u215 u216 u217 u218 u219 u220 u221 u222 u223 u224 u225 u226 u227 u228 u229 u230 u231 u232 u233 u234 u235 u236 u237 u238 u239 u240 u241 u242 u243 u244 u245 u246 u247 u248 u249 u250 u251 u252 u253 u254 u255 u256 u257 u258 u259 u260 u261 u262 u263 u264 u265 u266 u267 u268 u269 u270 u271 u272 u273 u274 u275 u276 u277 u278 u279 u280 u281 u282 u283 u284 u285 u286 u287 u288 u289 u290 u291 u292 u293 u294 u295 u296 u297 u298 u299 u300 u301 u302 u303 u304 u305 u306 u307 u308 u309 u310 u311 u312 u313 u314 u315 u316 u317 u318 u319 u320 u321 u322 u323 u324 u325 u326 u327 u328 u329 u330 u331 u332 u333 u334 u335 u336 u337 u338 u339 u340 u341 u342 u343 u344 u345 u346 u347 u348 u349 u350 u351 u352 u353 u354 u355 u356 u357 u358 u359 u360 u361 jv : Value), K5 ⟨#[.slice a0 len0 cap0, c1, u2, c3, ptr ar, ptr dv, v, .pointer (some ⟨ub, 0, none⟩), .pointer (some ⟨ub + 1, 0, none⟩), .int .i64 (A.last : Int), .int .i64 (i : Int), .pointer (some ⟨tb, 0, none⟩), .int .i64 kv, .pointer (some ⟨rb, 0, none⟩), .nilIface, .int .i64 (p : Int), jv, u17, u18, u19, u20, u21, u22, u23, u24, u25, u26, u27, u28, u29, u30, c31, c32, c33, c34, c35, c36, c37, c38, c39, c40, c41, c42, c43, c44, c45, c46, c47, u48, u49, u50, u51, u52, u53, u54, u55, u56, u57, u58, u59, u60, u61, u62, u63, u64, u65, u66, u67, u68, u69, u70, u71, u72, u73, u74, u75, u76, u77, u78, u79, u80, u81, u82, u83, u84, u85, u86, u87, u88, u89, u90, u91, u92, u93, u94, u95, u96, u97, u98, u99, u100, u101, u102, u103, u104, u105, u106, u107, u108, u109, u110, u111, u112, u113, u114, u115, u116, u117, u118, u119, u120, u121, u122, u123, u124, u125, u126, u127, u128, u129, u130, u131, u132, u133, u134, u135, u136, u137, u138, u139, u140, u141, u142, u143, u144, u145, u146, u147, u148, u149, u150, u151, u152, u153, u154, u155, u156, u157, u158, u159, u160, u161, u162, u163, u164, u165, u166, u167, u168, u169, u170, u171, u172, u173, u174, u175, u176, u177, u178, u179, u180, u181, u182, u183, u184, u185, u186, u187, u188, u189, u190, u191, u192, u193, u194, u195, u196, u197, u198, u199, u200, u201, u202, u203, u204, u205, u206, u207, u208, u209, u210, u211, u212, u213, u214, u215, u216, u217, u218, u219, u220, u221, u222, u223, u224, u225, u226, u227, u228, u229, u230, u231, u232, u233, u234, u235, u236, u237, u238, u239, u240, u241, u242, u243, u244, u245, u246, u247, u248, u249, u250, u251, u252, u253, u254, u255, u256, u257, u258, u259, u260, u261, u262, u263, u264, u265, u266, u267, u268, u269, u270, u271, u272, u273, u274, u275, u276, u277, u278, u279, u280, u281, u282, u283, u284, u285, u286, u287, u288, u289, u290, u291, u292, u293, u294, u295, u296, u297, u298, u299, u300, u301, u302, u303, u304, u305, u306, u307, u308, u309, u310, u311, u312, u313, u314, u315, u316, u317, u318, u319, u320, u321, u322, u323, u324, u325, u326, u327, u328, u329, u330, u331, u332, u333, u334, u335, u336, u337, u338, u339, u340, u341, u342, u343, u344, u345, u346, u347, u348, u349, u350, u351, u352, u353, u354, u355, u356, u357, u358, u359, u360, u361], []⟩ w3) := hid (by
    intros
    refine HA5.out _ _ ?_
    go_upto_region 38 with fail
    go_region_held3 (fun w' => w'.cell? ⟨rb, 0, none⟩ = some (.int .i64 (p : Nat)) ∧ w'.cell? ⟨rb, 1, none⟩ = some (.int .u32 (Crc.sum (Crc.pad l) : Nat)) ∧ w'.cell? ⟨tb, 4, none⟩ = some (.slice sa sl sc))
      (first | exact ⟨y0, y1, x4⟩ | exact ⟨z0, z1, z4⟩ | go_keep)
      (first
        | (go_at_call 14; refine (RSumW.rsum_w _ 256 gc8 _ _ n8 HPb.out.1).mono ?_; rintro e w' ⟨rfl, rfl⟩; dsimp only)
        | (go_at_call 64; refine (full_w sa sl sc l _ (NUM3.out.below (below_drewN (Below.refl _ _) 1)) hsl).mono ?_; rintro e w8 ⟨g8, gc8, rfl, n8, _, b8⟩; dsimp only; have z0 := kept b8 y0; have z1 := kept b8 y1; have z4 := kept b8 x4))
    have b78 := (below_drewN (Below.refl w3.heap.size w3) 1).trans (b8.mono (by simp))
    have S8 := S3.out.below b78
    have fu := S8.use.frozen p
    have hup := S8.use.at_ p hp2
    have z0' := cell_far (v := .bool true) (j := p) hne z0
    have z1' := cell_far (v := .bool true) (j := p) hne z1
    have s9 := S8.setU hp2 true
    have b10 := (Below.refl (w8.setCell ⟨ub, p, none⟩ (.bool true)).heap.size _).alloc (Nat.le_refl _) (.cells #[.int .i64 (p : Int), .int .u32 (Crc.sum (Crc.pad l) : Nat)] 32)
    have S10 := hid (s9.below b10)
    have hr := Row.fresh2 (w8.setCell ⟨ub, p, none⟩ (.bool true)) (.int .i64 (p : Int)) (.int .u32 (Crc.sum (Crc.pad l) : Nat)) 32
    rw [show (w8.setCell ⟨ub, p, none⟩ (.bool true)).heap.size = w8.heap.size by simp] at hr
    have B10 := hid ((B3.out.trans (b78.mono B3.out.size)))
    have hz8 := b78.size
    have hbase : ub + 2 ≤ w8.heap.size := by omega
    clear b78 S8 s9 b10 b8 n8 x0 x1 x2 x3 x4 y0 y1 z4 S3
    go_wp2_with (at_builtin; go_must (refine wpList_app elRef rfl _ _ rfl (ub + 2) v r _ rfl S10.out.own _ 1 1 [.int .i64 (p : Int), .int .u32 (Crc.sum (Crc.pad l) : Nat)] rfl hr (oneCell2 rfl rfl) (by unfold maxLen; omega) (by omega) (by simp; omega) ?_); intro v1 w9 own9 hb9 hg9)
    refine HA1.out _ _ ?_
    have S11 := hid (S10.out.grow hp1 hp2 (Crc.sum_lt HPb.out.1) own9 hg9)
    refine tail_w S11.out.area HDK2.out.blocks HPL2.out S11.out.use S11.out.held ?_
    intros
    rename_i w12 hb12
    exact HQ.out _ _ _ _ _ _ _ _ _ _ _ _ _ _ _ _ _ _ _ _ _ _ _ _ _ _ _ _ _ _ _ _ _ _ _ _ _ _ _ _ _ _ _ _ _ _ _ _ _ _ _ _ _ _ _ _ _ _ _ _ _ _ _ _ _ _ _ _ _ _ _ _ _ _ _ _ _ _ _ _ _ _ _ _ _ _ _ _ _ _ _ _ _ _ _ _ _ _ _ _ _ _ _ _ _ _ _ _ _ _ _ _ _ _ _ _ _ _ _ _ _ _ _ _ _ _ _ _ _ _ _ _ _ _ _ _ _ _ _ _ _ _ _ _ _ _ _ _ _ _ _ _ _ _ _ _ _ _ _ _ _ _ _ _ _ _ _ _ _ _ _ _ _ _ _ _ _ _ _ _ _ _ _ _ _ _ _ _ _ _ _ _ _ _ _ _ _ _ _ _ _ _ _ _ _ _ _ _ _ _ _ _ _ _ _ _ _ _ _ _ _ _ _ _ _ _ _ _ _ _ _ _ _ _ _ _ _ _ _ _ _ _ _ _ _ _ _ _ _ _ _ _ _ _ _ _ _ _ _ _ _ _ _ _ _ _ _ _ _ _ _ _ _ _ _ _ _ _ _ _ _ _ _ _ _ _ _ _ _ _ _ _ _ _ _ _ _ _ _ _ _ _ _ _ _ _ _ _ _ _ _ _ _ _ _ _ _ _ _ _ _ _ _ _ _ _ _ _ _ _ _ _ _ _ _ _ _ _ _ (.inl rfl) ⟨⟨_, _, _, _, _, _, _, _, _, _, S11.out.below hb12, HDK2.out.mono (by omega), by have := HNP.out; omega, HPL2.out, by omega, rfl, (((B10.out.setCell (p := ⟨ub, p, none⟩) hub (.bool true)).alloc (Nat.le_trans B10.out.size (by simp)) _).trans (hb9.mono (by omega))).trans (hb12.mono (by have := B10.out.size; have := hb9.size; simp at this; omega))⟩⟩)
  go_loopw [15, 16] (fun wv jv w' => ∃ j : Nat, 1 ≤ j ∧ j ≤ kq + 2 ∧ jv = .int .i64 (j : Int) ∧ ((j ≤ kq + 1 ∧ wv = .int .i64 (-1)) ∨ (j = kq + 2 ∧ wv = .int .i64 (p : Int))) ∧ w' = w3) (fun _ jv _ => kq + 2 - (RowKit.intOf jv).toNat)
  case atStart => exact ⟨1, by omega, by omega, rfl, .inl ⟨by omega, rfl⟩, rfl⟩
  case round =>
    obtain ⟨j, hj1, hj2, rfl, hw, rfl⟩ := hrel
    rcases hw with ⟨hle, rfl⟩ | ⟨rfl, rfl⟩
    · obtain ⟨z, z1, z2, z3, z4, z5⟩ := HAT.out j hj1 hle
      have z6 : ((150 + z : Nat) : Int) < 300 := by omega
      have hU := S3.out.use.at_ (150 + z) (by omega)
      have hG := S3.out.held.at_ (150 + z) (by omega)
      have j1 : decide ((j : Int) ≤ 150) = true := decide_eq_true (by omega)
      have hnf : neither U G (150 + z) = (!U (150 + z) && !G (150 + z)) := rfl
      cases hUv : U (150 + z) with
      | true =>
        rw [hUv] at hU hnf
        have hlt : j ≤ kq := by
          rcases Nat.lt_or_ge kq j with h | h
          · have := z5 (by omega)
            rw [this] at hnf
            rw [hfp] at hnf; cases hnf
          · exact h
        clear z4 z5 hnf hG hUv
        generalize 150 + z = y at *
        go_wp2_with fail
        go_roundw
        case rel => exact ⟨j + 1, by omega, by omega, by go_num, .inl ⟨by omega, rfl⟩, trivial⟩
        case measure => simp [RowKit.intOf]; omega
      | false =>
        rw [hUv] at hU hnf
        cases hGv : G (150 + z) with
        | true =>
          rw [hGv] at hG hnf
          have hlt : j ≤ kq := by
            rcases Nat.lt_or_ge kq j with h | h
            · have := z5 (by omega)
              rw [this] at hnf
              rw [hfp] at hnf; cases hnf
            · exact h
          clear z4 z5 hnf hUv hGv
          generalize 150 + z = y at *
          go_wp2_with fail
          go_roundw
          case rel => exact ⟨j + 1, by omega, by omega, by go_num, .inl ⟨by omega, rfl⟩, trivial⟩
          case measure => simp [RowKit.intOf]; omega
        | false =>
          rw [hGv] at hG hnf
          have hje := hid (show j = kq + 1 by
            rcases Nat.lt_or_ge kq j with h | h
            · omega
            · rw [z4 h] at hnf; cases hnf)
          have HYP := hid (z5 hje.out)
          clear z4 z5 hnf hUv hGv
          generalize 150 + z = y at *
          go_wp2_with fail
          go_roundw
          case rel => exact ⟨j + 1, by omega, by have := hje.out; omega, by go_num, .inr ⟨by have := hje.out; omega, by rw [HYP.out]⟩, trivial⟩
          case measure => simp [RowKit.intOf]; omega
    · have p0 : decide ((p : Int) < 0) = false := decide_eq_false (by omega)
      have HEE := HE
      clear HAT HE
      by_cases hj150 : kq + 2 ≤ 150
      · have j1 : decide ((((kq + 2 : Nat) : Int)) ≤ 150) = true := decide_eq_true (by omega)
        generalize kq + 2 = j at *
        go_wp2_with fail
        exact HEE.out _ _ _ _ _ _ _ _ _ _ _ _ _ _ _ _ _ _ _ _ _ _ _ _ _ _ _ _ _ _ _ _ _ _ _ _ _ _ _ _ _ _ _ _ _ _ _ _ _ _ _ _ _ _ _ _ _ _ _ _ _ _ _ _ _ _ _ _ _ _ _ _ _ _ _ _ _ _ _ _ _ _ _ _ _ _ _ _ _ _ _ _ _ _ _ _ _ _ _ _ _ _ _ _ _ _ _ _ _ _ _ _ _ _ _ _ _ _ _ _ _ _ _ _ _ _ _ _ _ _ _ _ _ _ _ _ _ _ _ _ _ _ _ _ _ _ _ _ _ _ _ _ _ _ _ _ _ _ _ _ _ _ _ _ _ _ _ _ _ _ _ _ _ _ _ _ _ _ _ _ _ _ _ _ _ _ _ _ _ _ _ _ _ _ _ _ _ _ _ _ _ _ _ _ _ _ _ _ _ _ _ _ _ _ _ _ _ _ _ _ _ _ _ _ _ _ _ _ _ _ _ _ _ _ _ _ _ _ _ _ _ _ _ _ _ _ _ _ _ _ _ _ _ _ _ _ _ _ _ _ _ _ _ _ _ _ _ _ _ _ _ _ _ _ _ _ _ _ _ _ _ _ _ _ _ _ _ _ _ _ _ _ _ _ _ _ _ _ _ _ _ _ _ _ _ _ _ _ _ _ _ _ _ _ _ _ _ _ _ _ _ _ _ _ _ _ _ _ _ _
      · have j1 : decide ((((kq + 2 : Nat) : Int)) ≤ 150) = false := decide_eq_false (by omega)
        generalize kq + 2 = j at *
        go_wp2_with fail
        exact HEE.out _ _ _ _ _ _ _ _ _ _ _ _ _ _ _ _ _ _ _ _ _ _ _ _ _ _ _ _ _ _ _ _ _ _ _ _ _ _ _ _ _ _ _ _ _ _ _ _ _ _ _ _ _ _ _ _ _ _ _ _ _ _ _ _ _ _ _ _ _ _ _ _ _ _ _ _ _ _ _ _ _ _ _ _ _ _ _ _ _ _ _ _ _ _ _ _ _ _ _ _ _ _ _ _ _ _ _ _ _ _ _ _ _ _ _ _ _ _ _ _ _ _ _ _ _ _ _ _ _ _ _ _ _ _ _ _ _ _ _ _ _ _ _ _ _ _ _ _ _ _ _ _ _ _ _ _ _ _ _ _ _ _ _ _ _ _ _ _ _ _ _ _ _ _ _ _ _ _ _ _ _ _ _ _ _ _ _ _ _ _ _ _ _ _ _ _ _ _ _ _ _ _ _ _ _ _ _ _ _ _ _ _ _ _ _ _ _ _ _ _ _ _ _ _ _ _ _ _ _ _ _ _ _ _ _ _ _ _ _ _ _ _ _ _ _ _ _ _ _ _ _ _ _ _ _ _ _ _ _ _ _ _ _ _ _ _ _ _ _ _ _ _ _ _ _ _ _ _ _ _ _ _ _ _ _ _ _ _ _ _ _ _ _ _ _ _ _ _ _ _ _ _ _ _ _ _ _ _ _ _ _ _ _ _ _ _ _ _ _ _ _ _ _ _ _ _ _ _ _ _
end
end Go.Proofs.YtagbnacffiagcaaDoor.blobPlays
