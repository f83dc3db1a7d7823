/- The loop of BlobPlays: a block is read. -/
import Derived.Test.YtagbnacffiagcaaDoorWBlobPlaysK6
import Derived.Test.YtagbnacffiagcaaDoorBlobPlaysP4
namespace Go.Proofs.YtagbnacffiagcaaDoor.blobPlays
open Go Go.RowKit Go.Maps Go.Proofs.YtagbnacffiagcaaDoor.Mem Go.Proofs.YtagbnacffiagcaaDoor.MapsW Go.Proofs.YtagbnacffiagcaaDoor.SeeW Go.Proofs.YtagbnacffiagcaaDoor.DevG Go.Proofs.YtagbnacffiagcaaDoor.BlobW Go.Proofs.YtagbnacffiagcaaDoor.RefsW Go.Proofs.YtagbnacffiagcaaDoor.Ints
set_option linter.unusedVariables false
set_option maxRecDepth 1000000
theorem dget_some {D : Dv} (hd : D.down = false) {i : Int} (hi : 0 ≤ i ∧ i < (D.blocks : Int)) {l : List Nat} (hr : D.read i = some l) : D.get i = .ok l := by
  unfold Dv.get; rw [hd, if_neg (by decide), if_pos hi, hr]
theorem dget_none {D : Dv} (hd : D.down = false) {i : Int} (hi : 0 ≤ i ∧ i < (D.blocks : Int)) (hr : D.read i = none) : D.get i = .error 6 := by
  unfold Dv.get; rw [hd, if_neg (by decide), if_pos hi, hr]
section
variable {a0 : Option Addr} {len0 cap0 : Nat} {w1 wr : World} {ar dv ub i n : Nat} {m : Mp} {D : Dv} {u k : Nat} {A : Ar} {U G : Nat → Bool} {v : Value} {r : Nat} {rs : List (Int × Nat)} {tb : Nat} {kv K N At : Int} {T : Nat} {sa : Option Addr} {sl sc : Nat} {l : List Nat} {c1 c3 c31 c32 c33 c34 c35 c36 c37 c38 c39 c40 c41 c42 c43 c44 c45 c46 c47 u2 u11 u12 u13 u14 u15 u16 u17 u18 u19 u20 u21 u22 u23 u24 u25 u26 u27 u28 u29 u30 u48 u49 u50 u51 u52 u53 u54 u55 u56 u57 u58 u59 u60 u61 u62 u63 u64 u65 u66 u67 u68 u69 u70 u71 u72 u73 u74 u75 u76 u77 u78 u79 u80 u81 u82 u83 u84 u85 u86 u87 u88 u89 u90 u91 u92 u93 u94 u95 u96 u97 u98 u99 u100 u101 u102 u103 u104 u105 u106 u107 u108 u109 u110 u111 u112 u113 u114 u115 u116 u117 u118 u119 u120 u121 u122 u123 u124 u125 u126 u127 u128 u129 u130 u131 u132 u133 u134 u135 u136 u137 u138 u139 u140 u141 u142 u143 u144 u145 u146 u147 u148 u149 u150 u151 u152 u153 u154 u155 u156 u157 u158 u159 u160 u161 u162 u163 u164 u165 u166 u167 u168 u169 u170 u171 u172 u173 u174 u175 u176 u177 u178 u179 u180 u181 u182 u183 u184 u185 u186 u187 u188 u189 u190 u191 u192 u193 u194 u195 u196 u197 u198 u199 u200 u201 u202 u203 u204 u205 u206 u207 u208 u209 u210 u211 u212 u213 u214 u215 u216 u217 u218 u219 u220 u221 u222 u223 u224 u225 u226 u227 u228 u229 u230 u231 u232 u233 u234 u235 u236 u237 u238 u239 u240 u241 u242 u243 u244 u245 u246 u247 u248 u249 u250 u251 u252 u253 u254 u255 u256 u257 u258 u259 u260 u261 u262 u263 u264 u265 u266 u267 u268 u269 u270 u271 u272 u273 u274 u275 u276 u277 u278 u279 u280 u281 u282 u283 u284 u285 u286 u287 u288 u289 u290 u291 u292 u293 u294 u295 u296 u297 u298 u299 u300 u301 u302 u303 u304 u305 u306 u307 u308 u309 u310 u311 u312 u313 u314 u315 u316 u317 u318 u319 u320 u321 u322 u323 u324 u325 u326 u327 u328 u329 u330 u331 u332 u333 u334 u335 u336 u337 u338 u339 u340 u341 u342 u343 u344 u345 u346 u347 u348 u349 u350 u351 u352 u353 u354 u355 u356 u357 u358 u359 u360 u361 : Value} {Q0 : Exit → Act → World → Prop}
set_option maxHeartbeats 16000000 in
theorem kd (bs : List Addr) (HB : Ev w1 w1.heap.size bs RootW.six) (H : Ki w1 wr ar dv ub i n m D u k A U G v r rs tb kv K N At T sa sl sc l) (q1 : (K == 1) = false) (q2 : (K == 5) = false) (q3 : (K == 4) = false) (q4 : (K == 3) = false) (q5 : (K == 6) = false) (hk0 : 0 ≤ kv)
    (hq : ∀ (u2 u11 u12 u13 u14 u15 u16 u17 u18 u19 u20 u21 u22 u23 u24 u25 u26 u27 u28 u29 u30 u48 u49 u50 u51 u52 u53 u54 u55 u56 u57 u58 u59 u60 u61 u62 u63 u64 u65 u66 u67 u68 u69 u70 u71 u72 u73 u74 u75 u76 u77 u78 u79 u80 u81 u82 u83 u84 u85 u86 u87 u88 u89 u90 u91 u92 u93 u94 u95 u96 u97 u98 u99 u100 u101 u102 u103 u104 u105 u106 u107 u108 u109 u110 u111 u112 u113 u114 u115 u116 u117 u118 u119 u120 u121 u122 u123 u124 u125 u126 u127 u128 u129 u130 u131 u132 u133 u134 u135 u136 u137 u138 u139 u140 u141 u142 u143 u144 u145 u146 u147 u148 u149 u150 u151 u152 u153 u154 u155 u156 u157 u158 u159 u160 u161 u162 u163 u164 u165 u166 u167 u168 u169 u170 u171 u172 u173 u174 u175 u176 u177 u178 u179 u180 u181 u182 u183 u184 u185 u186 u187 u188 u189 u190 u191 u192 u193 u194 u195 u196 u197 u198 u199 u200 u201 u202 u203 u204 u205 u206 u207 u208 u209 u210 u211 u212 u213 u214 u215 u216 u217 u218 u219 u220 u221 u222 u223 u224 u225 u226 u227 u228 u229 u230 u231 u232 u233 u234 u235 u236 u237 u238 u239 u240 u241 u242 u243 u244 u245 u246 u247 u248 u249 u250 u251 u252 u253 u254 u255 u256 u257 u258 u259 u260 u261 u262 u263 u264 u265 u266 u267 u268 u269 u270 u271 u272 u273 u274 u275 u276 u277 u278 u279 u280 u281 u282 u283 u284 u285 u286 u287 u288 u289 u290 u291 u292 u293 u294 u295 u296 u297 u298 u299 u300 u301 u302 u303 u304 u305 u306 u307 u308 u309 u310 u311 u312 u313 u314 u315 u316 u317 u318 u319 u320 u321 u322 u323 u324 u325 u326 u327 u328 u329 u330 u331 u332 u333 u334 u335 u336 u337 u338 u339 u340 u341 u342 u343 u344 u345 u346 u347 u348 u349 u350 u351 u352 u353 u354 u355 u356 u357 u358 u359 u360 u361 v6 : Value) (L : Nat) (w'' : World) (e : Exit), (e = .normal ∨ e = .exit 1) → St w1 w'' ar dv ub (i + 1) L v6 → Q0 e ⟨#[.slice a0 len0 cap0, c1, u2, c3, ptr ar, ptr dv, v6, .pointer (some ⟨ub, 0, none⟩), .pointer (some ⟨ub + 1, 0, none⟩), .int .i64 (L : Int), .int .i64 (i : Int), u11, u12, u13, u14, u15, u16, u17, u18, u19, u20, u21, u22, u23, u24, u25, u26, u27, u28, u29, u30, c31, c32, c33, c34, c35, c36, c37, c38, c39, c40, c41, c42, c43, c44, c45, c46, c47, u48, u49, u50, u51, u52, u53, u54, u55, u56, u57, u58, u59, u60, u61, u62, u63, u64, u65, u66, u67, u68, u69, u70, u71, u72, u73, u74, u75, u76, u77, u78, u79, u80, u81, u82, u83, u84, u85, u86, u87, u88, u89, u90, u91, u92, u93, u94, u95, u96, u97, u98, u99, u100, u101, u102, u103, u104, u105, u106, u107, u108, u109, u110, u111, u112, u113, u114, u115, u116, u117, u118, u119, u120, u121, u122, u123, u124, u125, u126, u127, u128, u129, u130, u131, u132, u133, u134, u135, u136, u137, u138, u139, u140, u141, u142, u143, u144, u145, u146, u147, u148, u149, u150, u151, u152, u153, u154, u155, u156, u157, u158, u159, u160, u161, u162, u163, u164, u165, u166, u167, u168, u169, u170, u171, u172, u173, u174, u175, u176, u177, u178, u179, u180, u181, u182, u183, u184, u185, u186, u187, u188, u189, u190, u191, u192, u193, u194, u195, u196, u197, u198, u199, u200, u201, u202, u203, u204, u205, u206, u207, u208, u209, u210, u211, u212, u213, u214, u215, u216, u217, u218, u219, u220, u221, u222, u223, u224, u225, u226, u227, u228, u229, u230, u231, u232, u233, u234, u235, u236, u237, u238, u239, u240, u241, u242, u243, u244, u245, u246, u247, u248, u249, u250, u251, u252, u253, u254, u255, u256, u257, u258, u259, u260, u261, u262, u263, u264, u265, u266, u267, u268, u269, u270, u271, u272, u273, u274, u275, u276, u277, u278, u279, u280, u281, u282, u283, u284, u285, u286, u287, u288, u289, u290, u291, u292, u293, u294, u295, u296, u297, u298, u299, u300, u301, u302, u303, u304, u305, u306, u307, u308, u309, u310, u311, u312, u313, u314, u315, u316, u317, u318, u319, u320, u321, u322, u323, u324, u325, u326, u327, u328, u329, u330, u331, u332, u333, u334, u335, u336, u337, u338, u339, u340, u341, u342, u343, u344, u345, u346, u347, u348, u349, u350, u351, u352, u353, u354, u355, u356, u357, u358, u359, u360, u361], []⟩ w'') :
    Code.wp Tryd.prog sw Q0 ⟨#[.slice a0 len0 cap0, c1, u2, c3, ptr ar, ptr dv, v, .pointer (some ⟨ub, 0, none⟩), .pointer (some ⟨ub + 1, 0, none⟩), .int .i64 (A.last : Int), .int .i64 (i : Int), .pointer (some ⟨tb, 0, none⟩), .int .i64 kv, u13, u14, u15, u16, u17, u18, u19, u20, u21, u22, u23, u24, u25, u26, u27, u28, u29, u30, c31, c32, c33, c34, c35, c36, c37, c38, c39, c40, c41, c42, c43, c44, c45, c46, c47, u48, u49, u50, u51, u52, u53, u54, u55, u56, u57, u58, u59, u60, u61, u62, u63, u64, u65, u66, u67, u68, u69, u70, u71, u72, u73, u74, u75, u76, u77, u78, u79, u80, u81, u82, u83, u84, u85, u86, u87, u88, u89, u90, u91, u92, u93, u94, u95, u96, u97, u98, u99, u100, u101, u102, u103, u104, u105, u106, u107, u108, u109, u110, u111, u112, u113, u114, u115, u116, u117, u118, u119, u120, u121, u122, u123, u124, u125, u126, u127, u128, u129, u130, u131, u132, u133, u134, u135, u136, u137, u138, u139, u140, u141, u142, u143, u144, u145, u146, u147, u148, u149, u150, u151, u152, u153, u154, u155, u156, u157, u158, u159, u160, u161, u162, u163, u164, u165, u166, u167, u168, u169, u170, u171, u172, u173, u174, u175, u176, u177, u178, u179, u180, u181, u182, u183, u184, u185, u186, u187, u188, u189, u190, u191, u192, u193, u194, u195, u196, u197, u198, u199, u200, u201, u202, u203, u204, u205, u206, u207, u208, u209, u210, u211, u212, u213, u214, u215, u216, u217, u218, u219, u220, u221, u222, u223, u224, u225, u226, u227, u228, u229, u230, u231, u232, u233, u234, u235, u236, u237, u238, u239, u240, u241, u242, u243, u244, u245, u246, u247, u248, u249, u250, u251, u252, u253, u254, u255, u256, u257, u258, u259, u260, u261, u262, u263, u264, u265, u266, u267, u268, u269, u270, u271, u272, u273, u274, u275, u276, u277, u278, u279, u280, u281, u282, u283, u284, u285, u286, u287, u288, u289, u290, u291, u292, u293, u294, u295, u296, u297, u298, u299, u300, u301, u302, u303, u304, u305, u306, u307, u308, u309, u310, u311, u312, u313, u314, u315, u316, u317, u318, u319, u320, u321, u322, u323, u324, u325, u326, u327, u328, u329, u330, u331, u332, u333, u334, u335, u336, u337, u338, u339, u340, u341, u342, u343, u344, u345, u346, u347, u348, u349, u350, u351, u352, u353, u354, u355, u356, u357, u358, u359, u360, u361], []⟩ wr := by
  conv => arg 2; whnf
  have HQ := hid hq
  clear hq
  obtain ⟨i60, s, dk, n8, pl, ri, bel, hub, t, nums, bytes, a64, t32, tba, tbu, tbv, hkv, sl4⟩ := H
  obtain ⟨x0, x1, x2, x3, x4⟩ := tc t
  have d1 : decide (kv < 0) = false := decide_eq_false (by omega)
  obtain ⟨q, rfl⟩ : ∃ q : Nat, kv = (q : Int) := ⟨kv.toNat, by omega⟩
  obtain ⟨va, vc, rfl, hR⟩ := refs_of s.own
  have hqr : q < r := by omega
  have hvb := hR.bound
  have hql : q < rs.length := by rw [hR.len]; exact hqr
  obtain ⟨rb, ro, rfl, r0, r1⟩ := hR.at hql
  obtain ⟨p, hp, p1, p2, p3⟩ := s.row _ (List.getElem_mem hql)
  rw [hp] at r0
  generalize rs[q].2 = c2 at *
  have E0 := hid (HB.below bel)
  have S := hid s
  have PL := hid pl
  have DK := hid dk
  have BEL := hid bel
  have hgot : got D (p : Nat) c2 = match D.read (p : Nat) with
      | some l => if Crc.sum l = c2 then .ok l else .error 6
      | none => .error 6 := by
    unfold got
    rw [dk.blocks, if_pos (by have : GeoW.half 300 = 75 := by decide
                              omega)]
    cases hx : D.read (p : Nat) with
    | some l => rw [dget_some dk.down (by rw [dk.blocks]; omega) hx]
    | none => rw [dget_none dk.down (by rw [dk.blocks]; omega) hx]
  have hrd := fun wz (hb : Below wr.heap.size wr wz) => read_w bs dv _ n m D (p : Nat) wz (S.out.area.dev.below hb) ((E0.out.below hb).sub (by decide)) (fits_nat (by omega))
  have hgt := fun wz (hb : Below wr.heap.size wr wz) => get_w bs _ dv n m D ar u k A (p : Nat) c2 wz (S.out.area.below hb) (fits_nat (by omega)) p3 (E0.out.below hb) (DK.out.read)
  have hgd := fun wz (hb : Below wr.heap.size wr wz) => good_w bs _ dv n m D ar u k A (p : Nat) c2 wz (S.out.area.below hb) (fits_nat (by omega)) p3 (E0.out.below hb) (DK.out.read)
  rw [hgot] at hgt hgd
  have hend : ∀ w8 w9, Below wr.heap.size wr w8 → Below w8.heap.size w8 w9 → St w1 w9 ar dv ub (i + 1) A.last (.slice (some ⟨rb, ro, none⟩) r vc) := fun w8 w9 h8 h9 =>
    ⟨⟨_, _, _, _, _, _, _, _, _, _, (S.out.below h8).below h9, DK.out.mono (by omega), by omega, PL.out.mono (by omega), by omega, rfl, (BEL.out.trans (h8.mono BEL.out.size)).trans (h9.mono (Nat.le_trans BEL.out.size h8.size))⟩⟩
  have HEND := hid hend
  have HR := hid hR
  cases hx : D.read (p : Nat) with
  | none =>
    have hge : D.get (p : Nat) = .error 6 := dget_none dk.down (by rw [dk.blocks]; omega) hx
    rw [hx] at hgt hgd
    rw [hge] at hrd
    clear s pl dk bel tba t nums bytes tbv sl4 tbu hkv hk0 hR hql hp hgot hx hge hend
    go_upto_region 21 with fail
    rename_i K1 a1 K2 a2
    have HA1 := hid a1
    clear a1
    go_wp2_with fail
    refine (hrd _ (Below.refl _ _)).mono ?_
    rintro e w2 ⟨⟨x, hx, rfl⟩, b2⟩
    dsimp only
    replace r0 := kept b2 r0
    replace r1 := kept b2 r1
    have HGT := hid hgt
    have HGD := hid hgd
    have B2 := hid b2
    clear hrd hgt hgd b2
    go_wp2_with fail
    go_quiet (fail)
    have B3 := hid (below_drewN B2.out nq)
    replace r0 : (w2.drewN nq).cell? ⟨rb, ro + q * 2, none⟩ = _ := r0
    replace r1 : (w2.drewN nq).cell? ⟨rb, ro + q * 2 + 1, none⟩ = _ := r1
    generalize w2.drewN nq = w3 at *
    have hgt := HGT.out w3 B3.out
    go_wp2_with fail
    refine hgt.mono ?_
    rintro e w4 ⟨⟨y, hy, rfl⟩, b4⟩
    dsimp only
    replace r0 := kept b4 r0
    replace r1 := kept b4 r1
    have B4 := hid (B3.out.trans (b4.mono B3.out.size))
    have hgd := HGD.out w4 B4.out
    rw [show isOk (Except.error 6 : Except Nat (List Nat)) = false from rfl] at hgd
    clear hgt b4
    go_wp2_with fail
    refine hgd.mono ?_
    rintro e w5 ⟨rfl, b5⟩
    dsimp only
    have B5 := hid (B4.out.trans (b5.mono B4.out.size))
    clear hgd b5
    go_wp2_with fail
    refine HA1.out _ _ ?_
    refine tail_w (S.out.below B5.out).area DK.out.blocks PL.out (S.out.below B5.out).use (S.out.below B5.out).held ?_
    intros
    rename_i w8 hb8
    exact HQ.out _ _ _ _ _ _ _ _ _ _ _ _ _ _ _ _ _ _ _ _ _ _ _ _ _ _ _ _ _ _ _ _ _ _ _ _ _ _ _ _ _ _ _ _ _ _ _ _ _ _ _ _ _ _ _ _ _ _ _ _ _ _ _ _ _ _ _ _ _ _ _ _ _ _ _ _ _ _ _ _ _ _ _ _ _ _ _ _ _ _ _ _ _ _ _ _ _ _ _ _ _ _ _ _ _ _ _ _ _ _ _ _ _ _ _ _ _ _ _ _ _ _ _ _ _ _ _ _ _ _ _ _ _ _ _ _ _ _ _ _ _ _ _ _ _ _ _ _ _ _ _ _ _ _ _ _ _ _ _ _ _ _ _ _ _ _ _ _ _ _ _ _ _ _ _ _ _ _ _ _ _ _ _ _ _ _ _ _ _ _ _ _ _ _ _ _ _ _ _ _ _ _ _ _ _ _ _ _ _ _ _ _ _ _ _ _ _ _ _ _ _ _ _ _ _ _ _ _ _ _ _ _ _ _ _ _ _ _ _ _ _ _ _ _ _ _ _ _ _ _ _ _ _ _ _ _ _ _ _ _ _ _ _ _ _ _ _ _ _ _ _ _ _ _ _ _ _ _ _ _ _ _ _ _ _ _ _ _ _ _ _ _ _ _ _ _ _ _ _ _ _ _ _ _ _ _ _ _ _ _ _ _ _ _ _ _ _ _ _ _ _ _ _ _ _ _ _ _ _ _ _ _ _ _ _ _ _ _ _ (.inl rfl) (HEND.out _ _ B5.out hb8)
  | some l' =>
    have hlb := dk.read _ _ hx
    have hge : D.get (p : Nat) = .ok l' := dget_some dk.down (by rw [dk.blocks]; omega) hx
    rw [hx] at hgt hgd
    rw [hge] at hrd
    dsimp only at hgt hgd
    have HLB := hid hlb
    by_cases hsum : Crc.sum l' = c2
    · rw [if_pos hsum] at hgt hgd
      rw [← hsum] at r1 hgt hgd
      clear s pl dk bel tba t nums bytes tbv sl4 tbu hkv hk0 hR hql hp hgot hx hge hend hsum
      go_upto_region 21 with fail
      rename_i K1 a1 K2 a2
      have HA1 := hid a1
      clear a1
      go_wp2_with fail
      refine (hrd _ (Below.refl _ _)).mono ?_
      rintro e w2 ⟨⟨g, gc, rfl, hn, hgb⟩, b2⟩
      dsimp only
      replace r0 := kept b2 r0
      replace r1 := kept b2 r1
      have HGT := hid hgt
      have HGD := hid hgd
      have B2 := hid b2
      have HN := hid hn
      have hsm := fun k => (RSumW.rsum_w (some ⟨g, 0, none⟩) 256 gc l' (w2.drewN k) (hn.below (below_drewN (Below.refl _ _) _)) hlb).mono fun e w' (h : _ ∧ _) => (⟨h.1, h.2.symm⟩ : e = .returned (.int .u32 (Crc.sum l')) ∧ w' = w2.drewN k)
      clear hrd hgt hgd b2 hn
      go_wp2_with fail
      go_quiet ((go_at_call 14; exact Calls.quiet_of_same (hsm _)))
      have B3 := hid (below_drewN B2.out nq)
      replace r0 : (w2.drewN nq).cell? ⟨rb, ro + q * 2, none⟩ = _ := r0
      replace r1 : (w2.drewN nq).cell? ⟨rb, ro + q * 2 + 1, none⟩ = _ := r1
      have HN3 := hid (HN.out.below (below_drewN (Below.refl _ _) nq))
      clear HN hsm
      generalize w2.drewN nq = w3 at *
      have hgt := HGT.out w3 B3.out
      go_wp2_with fail
      refine hgt.mono ?_
      rintro e w4 ⟨⟨g4, gc4, rfl, hn4, hgb4⟩, b4⟩
      dsimp only
      replace r0 := kept b4 r0
      replace r1 := kept b4 r1
      have B4 := hid (B3.out.trans (b4.mono B3.out.size))
      have hsame := RefW.same_w (some ⟨g4, 0, none⟩) 256 gc4 l' (some ⟨g, 0, none⟩) 256 gc l' w4 hn4 (HN3.out.below b4)
      rw [decide_eq_true (rfl : l' = l')] at hsame
      clear hgt b4 hn4
      go_wp2_with fail
      refine hsame.mono ?_
      rintro e w5 ⟨rfl, b5⟩
      dsimp only
      replace r0 := kept b5 r0
      replace r1 := kept b5 r1
      have B5 := hid (B4.out.trans (b5.mono B4.out.size))
      have hgd := HGD.out w5 B5.out
      rw [show isOk (Except.ok l' : Except Nat (List Nat)) = true from rfl] at hgd
      clear hsame b5
      go_wp2_with fail
      refine hgd.mono ?_
      rintro e w6 ⟨rfl, b6⟩
      dsimp only
      have B6 := hid (B5.out.trans (b6.mono B5.out.size))
      clear hgd b6
      go_wp2_with fail
      refine HA1.out _ _ ?_
      refine tail_w (S.out.below B6.out).area DK.out.blocks PL.out (S.out.below B6.out).use (S.out.below B6.out).held ?_
      intros
      rename_i w8 hb8
      exact HQ.out _ _ _ _ _ _ _ _ _ _ _ _ _ _ _ _ _ _ _ _ _ _ _ _ _ _ _ _ _ _ _ _ _ _ _ _ _ _ _ _ _ _ _ _ _ _ _ _ _ _ _ _ _ _ _ _ _ _ _ _ _ _ _ _ _ _ _ _ _ _ _ _ _ _ _ _ _ _ _ _ _ _ _ _ _ _ _ _ _ _ _ _ _ _ _ _ _ _ _ _ _ _ _ _ _ _ _ _ _ _ _ _ _ _ _ _ _ _ _ _ _ _ _ _ _ _ _ _ _ _ _ _ _ _ _ _ _ _ _ _ _ _ _ _ _ _ _ _ _ _ _ _ _ _ _ _ _ _ _ _ _ _ _ _ _ _ _ _ _ _ _ _ _ _ _ _ _ _ _ _ _ _ _ _ _ _ _ _ _ _ _ _ _ _ _ _ _ _ _ _ _ _ _ _ _ _ _ _ _ _ _ _ _ _ _ _ _ _ _ _ _ _ _ _ _ _ _ _ _ _ _ _ _ _ _ _ _ _ _ _ _ _ _ _ _ _ _ _ _ _ _ _ _ _ _ _ _ _ _ _ _ _ _ _ _ _ _ _ _ _ _ _ _ _ _ _ _ _ _ _ _ _ _ _ _ _ _ _ _ _ _ _ _ _ _ _ _ _ _ _ _ _ _ _ _ _ _ _ _ _ _ _ _ _ _ _ _ _ _ _ _ _ _ _ _ _ _ _ _ _ _ _ _ _ _ _ _ _ _ (.inl rfl) (HEND.out _ _ B6.out hb8)
    · rw [if_neg hsum] at hgt hgd
      have hne : (((Crc.sum l' : Nat) : Int) == ((c2 : Nat) : Int)) = false := by rw [beq_eq_false_iff_ne]; omega
      clear s pl dk bel tba t nums bytes tbv sl4 tbu hkv hk0 hR hql hp hgot hx hge hend hsum
      go_upto_region 21 with fail
      rename_i K1 a1 K2 a2
      have HA1 := hid a1
      clear a1
      go_wp2_with fail
      refine (hrd _ (Below.refl _ _)).mono ?_
      rintro e w2 ⟨⟨g, gc, rfl, hn, hgb⟩, b2⟩
      dsimp only
      replace r0 := kept b2 r0
      replace r1 := kept b2 r1
      have HGT := hid hgt
      have HGD := hid hgd
      have B2 := hid b2
      have hsm := fun k => (RSumW.rsum_w (some ⟨g, 0, none⟩) 256 gc l' (w2.drewN k) (hn.below (below_drewN (Below.refl _ _) _)) hlb).mono fun e w' (h : _ ∧ _) => (⟨h.1, h.2.symm⟩ : e = .returned (.int .u32 (Crc.sum l')) ∧ w' = w2.drewN k)
      clear hrd hgt hgd b2 hn
      go_wp2_with fail
      go_quiet ((go_at_call 14; exact Calls.quiet_of_same (hsm _)))
      have B3 := hid (below_drewN B2.out nq)
      replace r0 : (w2.drewN nq).cell? ⟨rb, ro + q * 2, none⟩ = _ := r0
      replace r1 : (w2.drewN nq).cell? ⟨rb, ro + q * 2 + 1, none⟩ = _ := r1
      clear hsm
      generalize w2.drewN nq = w3 at *
      have hgt := HGT.out w3 B3.out
      go_wp2_with fail
      refine hgt.mono ?_
      rintro e w4 ⟨⟨y, hy, rfl⟩, b4⟩
      dsimp only
      replace r0 := kept b4 r0
      replace r1 := kept b4 r1
      have B4 := hid (B3.out.trans (b4.mono B3.out.size))
      have hgd := HGD.out w4 B4.out
      rw [show isOk (Except.error 6 : Except Nat (List Nat)) = false from rfl] at hgd
      clear hgt b4
      go_wp2_with fail
      refine hgd.mono ?_
      rintro e w5 ⟨rfl, b5⟩
      dsimp only
      have B5 := hid (B4.out.trans (b5.mono B4.out.size))
      clear hgd b5
      go_wp2_with fail
      refine HA1.out _ _ ?_
      refine tail_w (S.out.below B5.out).area DK.out.blocks PL.out (S.out.below B5.out).use (S.out.below B5.out).held ?_
      intros
      rename_i w8 hb8
      exact HQ.out _ _ _ _ _ _ _ _ _ _ _ _ _ _ _ _ _ _ _ _ _ _ _ _ _ _ _ _ _ _ _ _ _ _ _ _ _ _ _ _ _ _ _ _ _ _ _ _ _ _ _ _ _ _ _ _ _ _ _ _ _ _ _ _ _ _ _ _ _ _ _ _ _ _ _ _ _ _ _ _ _ _ _ _ _ _ _ _ _ _ _ _ _ _ _ _ _ _ _ _ _ _ _ _ _ _ _ _ _ _ _ _ _ _ _ _ _ _ _ _ _ _ _ _ _ _ _ _ _ _ _ _ _ _ _ _ _ _ _ _ _ _ _ _ _ _ _ _ _ _ _ _ _ _ _ _ _ _ _ _ _ _ _ _ _ _ _ _ _ _ _ _ _ _ _ _ _ _ _ _ _ _ _ _ _ _ _ _ _ _ _ _ _ _ _ _ _ _ _ _ _ _ _ _ _ _ _ _ _ _ _ _ _ _ _ _ _ _ _ _ _ _ _ _ _ _ _ _ _ _ _ _ _ _ _ _ _ _ _ _ _ _ _ _ _ _ _ _ _ _ _ _ _ _ _ _ _ _ _ _ _ _ _ _ _ _ _ _ _ _ _ _ _ _ _ _ _ _ _ _ _ _ _ _ _ _ _ _ _ _ _ _ _ _ _ _ _ _ _ _ _ _ _ _ _ _ _ _ _ _ _ _ _ _ _ _ _ _ _ _ _ _ _ _ _ _ _ _ _ _ _ _ _ _ _ _ _ _ _ (.inl rfl) (HEND.out _ _ B5.out hb8)
end
end Go.Proofs.YtagbnacffiagcaaDoor.blobPlays
