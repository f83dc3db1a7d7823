/- The loop of BlobPlays: a Drop of what is in use. -/
import Derived.Test.YtagbnacffiagcaaDoorWBlobPlaysK6
import Derived.Test.YtagbnacffiagcaaDoorBlobPlaysP3
namespace Go.Proofs.YtagbnacffiagcaaDoor.blobPlays
open Go Go.RowKit Go.Maps Go.Proofs.YtagbnacffiagcaaDoor.Mem Go.Proofs.YtagbnacffiagcaaDoor.MapsW Go.Proofs.YtagbnacffiagcaaDoor.SeeW Go.Proofs.YtagbnacffiagcaaDoor.DevG Go.Proofs.YtagbnacffiagcaaDoor.BlobW Go.Proofs.YtagbnacffiagcaaDoor.RefsW Go.Proofs.YtagbnacffiagcaaDoor.Ints
set_option linter.unusedVariables false
set_option maxRecDepth 1000000
section
variable {a0 : Option Addr} {len0 cap0 : Nat} {w1 wr : World} {ar dv ub i n : Nat} {m : Mp} {D : Dv} {u k : Nat} {A : Ar} {U G : Nat → Bool} {v : Value} {r : Nat} {rs : List (Int × Nat)} {tb : Nat} {kv K N At : Int} {T : Nat} {sa : Option Addr} {sl sc : Nat} {l : List Nat} {c1 c3 c31 c32 c33 c34 c35 c36 c37 c38 c39 c40 c41 c42 c43 c44 c45 c46 c47 u2 u11 u12 u13 u14 u15 u16 u17 u18 u19 u20 u21 u22 u23 u24 u25 u26 u27 u28 u29 u30 u48 u49 u50 u51 u52 u53 u54 u55 u56 u57 u58 u59 u60 u61 u62 u63 u64 u65 u66 u67 u68 u69 u70 u71 u72 u73 u74 u75 u76 u77 u78 u79 u80 u81 u82 u83 u84 u85 u86 u87 u88 u89 u90 u91 u92 u93 u94 u95 u96 u97 u98 u99 u100 u101 u102 u103 u104 u105 u106 u107 u108 u109 u110 u111 u112 u113 u114 u115 u116 u117 u118 u119 u120 u121 u122 u123 u124 u125 u126 u127 u128 u129 u130 u131 u132 u133 u134 u135 u136 u137 u138 u139 u140 u141 u142 u143 u144 u145 u146 u147 u148 u149 u150 u151 u152 u153 u154 u155 u156 u157 u158 u159 u160 u161 u162 u163 u164 u165 u166 u167 u168 u169 u170 u171 u172 u173 u174 u175 u176 u177 u178 u179 u180 u181 u182 u183 u184 u185 u186 u187 u188 u189 u190 u191 u192 u193 u194 u195 u196 u197 u198 u199 u200 u201 u202 u203 u204 u205 u206 u207 u208 u209 u210 u211 u212 u213 u214 u215 u216 u217 u218 u219 u220 u221 u222 u223 u224 u225 u226 u227 u228 u229 u230 u231 u232 u233 u234 u235 u236 u237 u238 u239 u240 u241 u242 u243 u244 u245 u246 u247 u248 u249 u250 u251 u252 u253 u254 u255 u256 u257 u258 u259 u260 u261 u262 u263 u264 u265 u266 u267 u268 u269 u270 u271 u272 u273 u274 u275 u276 u277 u278 u279 u280 u281 u282 u283 u284 u285 u286 u287 u288 u289 u290 u291 u292 u293 u294 u295 u296 u297 u298 u299 u300 u301 u302 u303 u304 u305 u306 u307 u308 u309 u310 u311 u312 u313 u314 u315 u316 u317 u318 u319 u320 u321 u322 u323 u324 u325 u326 u327 u328 u329 u330 u331 u332 u333 u334 u335 u336 u337 u338 u339 u340 u341 u342 u343 u344 u345 u346 u347 u348 u349 u350 u351 u352 u353 u354 u355 u356 u357 u358 u359 u360 u361 : Value} {Q0 : Exit → Act → World → Prop}
set_option maxHeartbeats 16000000 in
theorem k3y (H : Ki w1 wr ar dv ub i n m D u k A U G v r rs tb kv K N At T sa sl sc l) (q1 : (K == 1) = false) (q2 : (K == 5) = false) (q3 : (K == 4) = false) (q4 : (K == 3) = true) (hk0 : 0 ≤ kv) (hu0 : U (rs.getD kv.toNat (0, 0)).1.toNat = true)
    (hq : ∀ (u2 u11 u12 u13 u14 u15 u16 u17 u18 u19 u20 u21 u22 u23 u24 u25 u26 u27 u28 u29 u30 u48 u49 u50 u51 u52 u53 u54 u55 u56 u57 u58 u59 u60 u61 u62 u63 u64 u65 u66 u67 u68 u69 u70 u71 u72 u73 u74 u75 u76 u77 u78 u79 u80 u81 u82 u83 u84 u85 u86 u87 u88 u89 u90 u91 u92 u93 u94 u95 u96 u97 u98 u99 u100 u101 u102 u103 u104 u105 u106 u107 u108 u109 u110 u111 u112 u113 u114 u115 u116 u117 u118 u119 u120 u121 u122 u123 u124 u125 u126 u127 u128 u129 u130 u131 u132 u133 u134 u135 u136 u137 u138 u139 u140 u141 u142 u143 u144 u145 u146 u147 u148 u149 u150 u151 u152 u153 u154 u155 u156 u157 u158 u159 u160 u161 u162 u163 u164 u165 u166 u167 u168 u169 u170 u171 u172 u173 u174 u175 u176 u177 u178 u179 u180 u181 u182 u183 u184 u185 u186 u187 u188 u189 u190 u191 u192 u193 u194 u195 u196 u197 u198 u199 u200 u201 u202 u203 u204 u205 u206 u207 u208 u209 u210 u211 u212 u213 u214 u215 u216 u217 u218 u219 u220 u221 u222 u223 u224 u225 u226 u227 u228 u229 u230 u231 u232 u233 u234 u235 u236 u237 u238 u239 u240 u241 u242 u243 u244 u245 u246 u247 u248 u249 u250 u251 u252 u253 u254 u255 u256 u257 u258 u259 u260 u261 u262 u263 u264 u265 u266 u267 u268 u269 u270 u271 u272 u273 u274 u275 u276 u277 u278 u279 u280 u281 u282 u283 u284 u285 u286 u287 u288 u289 u290 u291 u292 u293 u294 u295 u296 u297 u298 u299 u300 u301 u302 u303 u304 u305 u306 u307 u308 u309 u310 u311 u312 u313 u314 u315 u316 u317 u318 u319 u320 u321 u322 u323 u324 u325 u326 u327 u328 u329 u330 u331 u332 u333 u334 u335 u336 u337 u338 u339 u340 u341 u342 u343 u344 u345 u346 u347 u348 u349 u350 u351 u352 u353 u354 u355 u356 u357 u358 u359 u360 u361 v6 : Value) (L : Nat) (w'' : World) (e : Exit), (e = .normal ∨ e = .exit 1) → St w1 w'' ar dv ub (i + 1) L v6 → Q0 e ⟨#[.slice a0 len0 cap0, c1, u2, c3, ptr ar, ptr dv, v6, .pointer (some ⟨ub, 0, none⟩), .pointer (some ⟨ub + 1, 0, none⟩), .int .i64 (L : Int), .int .i64 (i : Int), u11, u12, u13, u14, u15, u16, u17, u18, u19, u20, u21, u22, u23, u24, u25, u26, u27, u28, u29, u30, c31, c32, c33, c34, c35, c36, c37, c38, c39, c40, c41, c42, c43, c44, c45, c46, c47, u48, u49, u50, u51, u52, u53, u54, u55, u56, u57, u58, u59, u60, u61, u62, u63, u64, u65, u66, u67, u68, u69, u70, u71, u72, u73, u74, u75, u76, u77, u78, u79, u80, u81, u82, u83, u84, u85, u86, u87, u88, u89, u90, u91, u92, u93, u94, u95, u96, u97, u98, u99, u100, u101, u102, u103, u104, u105, u106, u107, u108, u109, u110, u111, u112, u113, u114, u115, u116, u117, u118, u119, u120, u121, u122, u123, u124, u125, u126, u127, u128, u129, u130, u131, u132, u133, u134, u135, u136, u137, u138, u139, u140, u141, u142, u143, u144, u145, u146, u147, u148, u149, u150, u151, u152, u153, u154, u155, u156, u157, u158, u159, u160, u161, u162, u163, u164, u165, u166, u167, u168, u169, u170, u171, u172, u173, u174, u175, u176, u177, u178, u179, u180, u181, u182, u183, u184, u185, u186, u187, u188, u189, u190, u191, u192, u193, u194, u195, u196, u197, u198, u199, u200, u201, u202, u203, u204, u205, u206, u207, u208, u209, u210, u211, u212, u213, u214, u215, u216, u217, u218, u219, u220, u221, u222, u223, u224, u225, u226, u227, u228, u229, u230, u231, u232, u233, u234, u235, u236, u237, u238, u239, u240, u241, u242, u243, u244, u245, u246, u247, u248, u249, u250, u251, u252, u253, u254, u255, u256, u257, u258, u259, u260, u261, u262, u263, u264, u265, u266, u267, u268, u269, u270, u271, u272, u273, u274, u275, u276, u277, u278, u279, u280, u281, u282, u283, u284, u285, u286, u287, u288, u289, u290, u291, u292, u293, u294, u295, u296, u297, u298, u299, u300, u301, u302, u303, u304, u305, u306, u307, u308, u309, u310, u311, u312, u313, u314, u315, u316, u317, u318, u319, u320, u321, u322, u323, u324, u325, u326, u327, u328, u329, u330, u331, u332, u333, u334, u335, u336, u337, u338, u339, u340, u341, u342, u343, u344, u345, u346, u347, u348, u349, u350, u351, u352, u353, u354, u355, u356, u357, u358, u359, u360, u361], []⟩ w'') :
    Code.wp Tryd.prog sw Q0 ⟨#[.slice a0 len0 cap0, c1, u2, c3, ptr ar, ptr dv, v, .pointer (some ⟨ub, 0, none⟩), .pointer (some ⟨ub + 1, 0, none⟩), .int .i64 (A.last : Int), .int .i64 (i : Int), .pointer (some ⟨tb, 0, none⟩), .int .i64 kv, u13, u14, u15, u16, u17, u18, u19, u20, u21, u22, u23, u24, u25, u26, u27, u28, u29, u30, c31, c32, c33, c34, c35, c36, c37, c38, c39, c40, c41, c42, c43, c44, c45, c46, c47, u48, u49, u50, u51, u52, u53, u54, u55, u56, u57, u58, u59, u60, u61, u62, u63, u64, u65, u66, u67, u68, u69, u70, u71, u72, u73, u74, u75, u76, u77, u78, u79, u80, u81, u82, u83, u84, u85, u86, u87, u88, u89, u90, u91, u92, u93, u94, u95, u96, u97, u98, u99, u100, u101, u102, u103, u104, u105, u106, u107, u108, u109, u110, u111, u112, u113, u114, u115, u116, u117, u118, u119, u120, u121, u122, u123, u124, u125, u126, u127, u128, u129, u130, u131, u132, u133, u134, u135, u136, u137, u138, u139, u140, u141, u142, u143, u144, u145, u146, u147, u148, u149, u150, u151, u152, u153, u154, u155, u156, u157, u158, u159, u160, u161, u162, u163, u164, u165, u166, u167, u168, u169, u170, u171, u172, u173, u174, u175, u176, u177, u178, u179, u180, u181, u182, u183, u184, u185, u186, u187, u188, u189, u190, u191, u192, u193, u194, u195, u196, u197, u198, u199, u200, u201, u202, u203, u204, u205, u206, u207, u208, u209, u210, u211, u212, u213, u214, u215, u216, u217, u218, u219, u220, u221, u222, u223, u224, u225, u226, u227, u228, u229, u230, u231, u232, u233, u234, u235, u236, u237, u238, u239, u240, u241, u242, u243, u244, u245, u246, u247, u248, u249, u250, u251, u252, u253, u254, u255, u256, u257, u258, u259, u260, u261, u262, u263, u264, u265, u266, u267, u268, u269, u270, u271, u272, u273, u274, u275, u276, u277, u278, u279, u280, u281, u282, u283, u284, u285, u286, u287, u288, u289, u290, u291, u292, u293, u294, u295, u296, u297, u298, u299, u300, u301, u302, u303, u304, u305, u306, u307, u308, u309, u310, u311, u312, u313, u314, u315, u316, u317, u318, u319, u320, u321, u322, u323, u324, u325, u326, u327, u328, u329, u330, u331, u332, u333, u334, u335, u336, u337, u338, u339, u340, u341, u342, u343, u344, u345, u346, u347, u348, u349, u350, u351, u352, u353, u354, u355, u356, u357, u358, u359, u360, u361], []⟩ wr := by
  conv => arg 2; whnf
  have HQ := hid hq
  clear hq
  obtain ⟨i60, s, dk, n8, pl, ri, bel, hub, t, nums, bytes, a64, t32, tba, tbu, tbv, hkv, sl4⟩ := H
  obtain ⟨x0, x1, x2, x3, x4⟩ := tc t
  have d1 : decide (kv < 0) = false := decide_eq_false (by omega)
  obtain ⟨q, rfl⟩ : ∃ q : Nat, kv = (q : Int) := ⟨kv.toNat, by omega⟩
  obtain ⟨va, vc, rfl, hR⟩ := refs_of s.own
  have hqr : q < r := by omega
  have hvb := hR.bound
  have hql : q < rs.length := by rw [hR.len]; exact hqr
  obtain ⟨rb, ro, rfl, r0, r1⟩ := hR.at hql
  obtain ⟨p, hp, p1, p2, p3⟩ := s.row _ (List.getElem_mem hql)
  have hgd : rs.getD ((q : Int)).toNat (0, 0) = rs[q] := by rw [Int.toNat_natCast, List.getD_eq_getElem?_getD, List.getElem?_eq_getElem hql]; rfl
  rw [hgd, hp, Int.toNat_natCast] at hu0
  rw [hp] at r0
  generalize rs[q].2 = c2 at *
  have hup := s.use.at_ p p2
  have hpi : ((p : Nat) : Int) < 300 := by omega
  rw [hu0] at hup
  have hrb := off_base s.own rb rfl
  have hne : rb ≠ ub := by omega
  have hne2 : rb ≠ ub + 1 := by omega
  have hdr : ∀ wz, Below wr.heap.size wr wz → Calls Tryd.prog 67 #[ptr ar, .agg #[.int .i64 (p : Nat), .int .u32 (c2 : Nat)]] wz fun e w' => e = .returned (.bool true) ∧ AAt w' w1.heap.size dv (n + 1) m D ar u k (A.drop (p : Nat)) ∧ Turn (aown dv m ar u k) wr w' ∧ w'.cell? ⟨rb, ro + q * 2, none⟩ = some (.int .i64 (p : Nat)) ∧ w'.cell? ⟨rb, ro + q * 2 + 1, none⟩ = some (.int .u32 (c2 : Nat)) ∧ w'.cell? ⟨ub, p, none⟩ = some (.bool true) := fun wz hb => by
    refine (drop_w _ dv n m D ar u k A (p : Nat) (c2 : Nat) wz (s.area.below hb) (fits_nat (by omega)) (by rw [pl.u p1 p2]; exact hu0) (by omega)).mono ?_
    rintro e w' ⟨he, hA', hT'⟩
    have hT2 : Turn (aown dv m ar u k) wr w' := (Turn.of_below hb).then hT'
    have kr := hT2.block rb hrb.2 (s.off rb rfl)
    have ku := hT2.block ub s.use.lt s.uoff
    exact ⟨he, hA', hT2, by rw [World.cell?_of_block (w := wr) kr]; exact r0, by rw [World.cell?_of_block (w := wr) kr]; exact r1, by rw [World.cell?_of_block (w := wr) ku]; exact hup⟩
  have PL2 := hid (pl.drop p1 p2 hu0)
  have S := hid s
  have PL := hid pl
  have DK := hid dk
  have BEL := hid bel
  clear s pl dk bel tba t nums bytes tbv sl4 tbu hR hkv hk0 hql hp hgd hu0
  go_upto_region 61 with fail
  rename_i K1 a1 K2 a2 K3 a3
  have HA1 := hid a1
  clear a1
  go_region_held3 (fun w' => w'.cell? ⟨rb, ro + q * 2, none⟩ = some (.int .i64 (p : Nat)) ∧ w'.cell? ⟨rb, ro + q * 2 + 1, none⟩ = some (.int .u32 (c2 : Nat)) ∧ w'.cell? ⟨ub, p, none⟩ = some (.bool true))
    (first | exact ⟨r0, r1, hup⟩ | exact ⟨y0, y1, y2⟩)
    (first
      | (go_at_call 67; refine (hdr _ (by first | exact (Below.refl _ _).drew | exact below_drewN (Below.refl _ _) _)).mono ?_; rintro e w2 ⟨rfl, A2, T2, y0, y1, y2⟩; dsimp only))
  have hrb2 := off_base (own_off S.out.own T2 S.out.off) rb rfl
  have U2 := hid (S.out.use.turn T2 S.out.uoff)
  have G2 := hid (S.out.held.turn T2 S.out.goff)
  have O2 := hid (own_off S.out.own T2 S.out.off)
  have HA2 := hid A2
  have HT2 := hid T2
  have fu := U2.out.frozen p
  have fg := G2.out.frozen p
  have gc := G2.out.at_ p p2
  clear hdr A2 T2
  go_wp2_with fail
  refine HA1.out _ _ ?_
  have T1 := Turn.setCell w2 ub p (.bool false) (S := [ub]) (by simp)
  have A1 := HA2.out.setB (q := p) U2.out S.out.uoff false
  have G1 := G2.out.turn T1 (by simp)
  have U1 := U2.out.set p p2 false
  have T3 := Turn.setCell (w2.setCell ⟨ub, p, none⟩ (.bool false)) (ub + 1) p (.bool true) (S := [ub + 1]) (by simp)
  have O3 := own_off (own_off O2.out T1 fun g hg e => by cases hg; exact hne (List.mem_singleton.1 e)) T3 fun g hg e => by cases hg; exact hne2 (List.mem_singleton.1 e)
  have S3 : Hid (Sit w1.heap.size _ (n + 1) m D dv ar u k (A.drop (p : Nat)) ub (updN U p false) (updN G p true) _ r rs) := hid ⟨A1.setB (q := p) G1 S.out.goff true, U1.turn T3 (by simp), G1.set p p2 true, O3, S.out.nil, S.out.row, S.out.off, S.out.uoff, S.out.goff⟩
  have hz := T1.size
  have b3 := hid (BEL.out.trans ((HT2.out.below BEL.out.size (fun x hx => S.out.area.own_lo x hx)).trans ((T1.below (lo := w1.heap.size) (Nat.le_trans BEL.out.size HT2.out.size) (fun x hx => by rw [List.mem_singleton.1 hx]; exact hub)).trans (T3.below (Nat.le_trans BEL.out.size (Nat.le_trans HT2.out.size hz)) (fun x hx => by rw [List.mem_singleton.1 hx]; omega)))))
  clear T1 A1 G1 U1 T3 O3 U2 G2 O2 HA2 HT2 fu fg gc hz
  refine tail_w S3.out.area DK.out.blocks PL2.out S3.out.use S3.out.held ?_
  intros
  rename_i w8 hb8
  exact HQ.out _ _ _ _ _ _ _ _ _ _ _ _ _ _ _ _ _ _ _ _ _ _ _ _ _ _ _ _ _ _ _ _ _ _ _ _ _ _ _ _ _ _ _ _ _ _ _ _ _ _ _ _ _ _ _ _ _ _ _ _ _ _ _ _ _ _ _ _ _ _ _ _ _ _ _ _ _ _ _ _ _ _ _ _ _ _ _ _ _ _ _ _ _ _ _ _ _ _ _ _ _ _ _ _ _ _ _ _ _ _ _ _ _ _ _ _ _ _ _ _ _ _ _ _ _ _ _ _ _ _ _ _ _ _ _ _ _ _ _ _ _ _ _ _ _ _ _ _ _ _ _ _ _ _ _ _ _ _ _ _ _ _ _ _ _ _ _ _ _ _ _ _ _ _ _ _ _ _ _ _ _ _ _ _ _ _ _ _ _ _ _ _ _ _ _ _ _ _ _ _ _ _ _ _ _ _ _ _ _ _ _ _ _ _ _ _ _ _ _ _ _ _ _ _ _ _ _ _ _ _ _ _ _ _ _ _ _ _ _ _ _ _ _ _ _ _ _ _ _ _ _ _ _ _ _ _ _ _ _ _ _ _ _ _ _ _ _ _ _ _ _ _ _ _ _ _ _ _ _ _ _ _ _ _ _ _ _ _ _ _ _ _ _ _ _ _ _ _ _ _ _ _ _ _ _ _ _ _ _ _ _ _ _ _ _ _ _ _ _ _ _ _ _ _ _ _ _ _ _ _ _ _ _ _ _ _ _ _ _ (.inl rfl) ⟨⟨_, _, _, _, _, _, _, _, _, _, S3.out.below hb8, DK.out.mono (by omega), by omega, PL2.out.mono (by omega), by omega, rfl, b3.out.trans (hb8.mono b3.out.size)⟩⟩
end
end Go.Proofs.YtagbnacffiagcaaDoor.blobPlays
