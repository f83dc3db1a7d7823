/- The loop of BlobPlays: a block is faulted. -/
import Derived.Test.YtagbnacffiagcaaDoorWBlobPlaysK4
namespace Go.Proofs.YtagbnacffiagcaaDoor.blobPlays
open Go Go.RowKit Go.Maps Go.Proofs.YtagbnacffiagcaaDoor.Mem Go.Proofs.YtagbnacffiagcaaDoor.MapsW Go.Proofs.YtagbnacffiagcaaDoor.SeeW Go.Proofs.YtagbnacffiagcaaDoor.DevG Go.Proofs.YtagbnacffiagcaaDoor.BlobW Go.Proofs.YtagbnacffiagcaaDoor.RefsW Go.Proofs.YtagbnacffiagcaaDoor.Ints
set_option linter.unusedVariables false
set_option maxRecDepth 1000000
theorem Sit.devs {lo : Nat} {w w2 : World} {n n' : Nat} {m m' : Mp} {D D' : Dv} {dv ar u k : Nat} {A : Ar} {ub : Nat} {U G : Nat → Bool} {v : Value} {r : Nat} {rs : List (Int × Nat)} (s : Sit lo w n m D dv ar u k A ub U G v r rs)
    (A2 : AAt w2 lo dv n' m' D' ar u k A) (T2 : Turn (DevG.own dv m) w w2) (hm : ∀ x ∈ DevG.own dv m', x ∈ DevG.own dv m ∨ w.heap.size ≤ x) : Sit lo w2 n' m' D' dv ar u k A ub U G v r rs := by
  have hb := off_base s.own
  have in2 : ∀ x, x ∈ aown dv m' ar u k → x ∈ aown dv m ar u k ∨ w.heap.size ≤ x := fun x hx => by
    rcases List.mem_cons.1 hx with e | hx
    · exact .inl (by rw [e]; simp)
    rcases List.mem_cons.1 hx with e | hx
    · exact .inl (by rw [e]; simp)
    rcases List.mem_cons.1 hx with e | hx
    · exact .inl (by rw [e]; simp)
    rcases hm x hx with e | e
    · exact .inl (own_sub e)
    · exact .inr e
  have ul := s.use.lt
  have gl := s.held.lt
  exact ⟨A2, s.use.turn T2 fun e => s.uoff (own_sub e), s.held.turn T2 fun e => s.goff (own_sub e), own_off s.own T2 fun g hg e => s.off g hg (own_sub e), s.nil, s.row,
    fun g hg e => (in2 g e).elim (s.off g hg) (by have := hb g hg; omega), fun e => (in2 _ e).elim s.uoff (by omega), fun e => (in2 _ e).elim s.goff (by omega)⟩
section
variable {a0 : Option Addr} {len0 cap0 : Nat} {w1 wr : World} {ar dv ub i n : Nat} {m : Mp} {D : Dv} {u k : Nat} {A : Ar} {U G : Nat → Bool} {v : Value} {r : Nat} {rs : List (Int × Nat)} {tb : Nat} {kv K N At : Int} {T : Nat} {sa : Option Addr} {sl sc : Nat} {l : List Nat} {c1 c3 c31 c32 c33 c34 c35 c36 c37 c38 c39 c40 c41 c42 c43 c44 c45 c46 c47 u2 u11 u12 u13 u14 u15 u16 u17 u18 u19 u20 u21 u22 u23 u24 u25 u26 u27 u28 u29 u30 u48 u49 u50 u51 u52 u53 u54 u55 u56 u57 u58 u59 u60 u61 u62 u63 u64 u65 u66 u67 u68 u69 u70 u71 u72 u73 u74 u75 u76 u77 u78 u79 u80 u81 u82 u83 u84 u85 u86 u87 u88 u89 u90 u91 u92 u93 u94 u95 u96 u97 u98 u99 u100 u101 u102 u103 u104 u105 u106 u107 u108 u109 u110 u111 u112 u113 u114 u115 u116 u117 u118 u119 u120 u121 u122 u123 u124 u125 u126 u127 u128 u129 u130 u131 u132 u133 u134 u135 u136 u137 u138 u139 u140 u141 u142 u143 u144 u145 u146 u147 u148 u149 u150 u151 u152 u153 u154 u155 u156 u157 u158 u159 u160 u161 u162 u163 u164 u165 u166 u167 u168 u169 u170 u171 u172 u173 u174 u175 u176 u177 u178 u179 u180 u181 u182 u183 u184 u185 u186 u187 u188 u189 u190 u191 u192 u193 u194 u195 u196 u197 u198 u199 u200 u201 u202 u203 u204 u205 u206 u207 u208 u209 u210 u211 u212 u213 u214 u215 u216 u217 u218 u219 u220 u221 u222 u223 u224 u225 u226 u227 u228 u229 u230 u231 u232 u233 u234 u235 u236 u237 u238 u239 u240 u241 u242 u243 u244 u245 u246 u247 u248 u249 u250 u251 u252 u253 u254 u255 u256 u257 u258 u259 u260 u261 u262 u263 u264 u265 u266 u267 u268 u269 u270 u271 u272 u273 u274 u275 u276 u277 u278 u279 u280 u281 u282 u283 u284 u285 u286 u287 u288 u289 u290 u291 u292 u293 u294 u295 u296 u297 u298 u299 u300 u301 u302 u303 u304 u305 u306 u307 u308 u309 u310 u311 u312 u313 u314 u315 u316 u317 u318 u319 u320 u321 u322 u323 u324 u325 u326 u327 u328 u329 u330 u331 u332 u333 u334 u335 u336 u337 u338 u339 u340 u341 u342 u343 u344 u345 u346 u347 u348 u349 u350 u351 u352 u353 u354 u355 u356 u357 u358 u359 u360 u361 : Value} {Q0 : Exit → Act → World → Prop}
set_option maxHeartbeats 16000000 in
theorem k6 (H : Ki w1 wr ar dv ub i n m D u k A U G v r rs tb kv K N At T sa sl sc l) (q1 : (K == 1) = false) (q2 : (K == 5) = false) (q3 : (K == 4) = false) (q4 : (K == 3) = false) (q5 : (K == 6) = true) (hk0 : 0 ≤ kv)
    (hq : ∀ (u2 u11 u12 u13 u14 u15 u16 u17 u18 u19 u20 u21 u22 u23 u24 u25 u26 u27 u28 u29 u30 u48 u49 u50 u51 u52 u53 u54 u55 u56 u57 u58 u59 u60 u61 u62 u63 u64 u65 u66 u67 u68 u69 u70 u71 u72 u73 u74 u75 u76 u77 u78 u79 u80 u81 u82 u83 u84 u85 u86 u87 u88 u89 u90 u91 u92 u93 u94 u95 u96 u97 u98 u99 u100 u101 u102 u103 u104 u105 u106 u107 u108 u109 u110 u111 u112 u113 u114 u115 u116 u117 u118 u119 u120 u121 u122 u123 u124 u125 u126 u127 u128 u129 u130 u131 u132 u133 u134 u135 u136 u137 u138 u139 u140 u141 u142 u143 u144 u145 u146 u147 u148 u149 u150 u151 u152 u153 u154 u155 u156 u157 u158 u159 u160 u161 u162 u163 u164 u165 u166 u167 u168 u169 u170 u171 u172 u173 u174 u175 u176 u177 u178 u179 u180 u181 u182 u183 u184 u185 u186 u187 u188 u189 u190 u191 u192 u193 u194 u195 u196 u197 u198 u199 u200 u201 u202 u203 u204 u205 u206 u207 u208 u209 u210 u211 u212 u213 u214 u215 u216 u217 u218 u219 u220 u221 u222 u223 u224 u225 u226 u227 u228 u229 u230 u231 u232 u233 u234 u235 u236 u237 u238 u239 u240 u241 u242 u243 u244 u245 u246 u247 u248 u249 u250 u251 u252 u253 u254 u255 u256 u257 u258 u259 u260 u261 u262 u263 u264 u265 u266 u267 u268 u269 u270 u271 u272 u273 u274 u275 u276 u277 u278 u279 u280 u281 u282 u283 u284 u285 u286 u287 u288 u289 u290 u291 u292 u293 u294 u295 u296 u297 u298 u299 u300 u301 u302 u303 u304 u305 u306 u307 u308 u309 u310 u311 u312 u313 u314 u315 u316 u317 u318 u319 u320 u321 u322 u323 u324 u325 u326 u327 u328 u329 u330 u331 u332 u333 u334 u335 u336 u337 u338 u339 u340 u341 u342 u343 u344 u345 u346 u347 u348 u349 u350 u351 u352 u353 u354 u355 u356 u357 u358 u359 u360 u361 v6 : Value) (L : Nat) (w'' : World) (e : Exit), (e = .normal ∨ e = .exit 1) → St w1 w'' ar dv ub (i + 1) L v6 → Q0 e ⟨#[.slice a0 len0 cap0, c1, u2, c3, ptr ar, ptr dv, v6, .pointer (some ⟨ub, 0, none⟩), .pointer (some ⟨ub + 1, 0, none⟩), .int .i64 (L : Int), .int .i64 (i : Int), u11, u12, u13, u14, u15, u16, u17, u18, u19, u20, u21, u22, u23, u24, u25, u26, u27, u28, u29, u30, c31, c32, c33, c34, c35, c36, c37, c38, c39, c40, c41, c42, c43, c44, c45, c46, c47, u48, u49, u50, u51, u52, u53, u54, u55, u56, u57, u58, u59, u60, u61, u62, u63, u64, u65, u66, u67, u68, u69, u70, u71, u72, u73, u74, u75, u76, u77, u78, u79, u80, u81, u82, u83, u84, u85, u86, u87, u88, u89, u90, u91, u92, u93, u94, u95, u96, u97, u98, u99, u100, u101, u102, u103, u104, u105, u106, u107, u108, u109, u110, u111, u112, u113, u114, u115, u116, u117, u118, u119, u120, u121, u122, u123, u124, u125, u126, u127, u128, u129, u130, u131, u132, u133, u134, u135, u136, u137, u138, u139, u140, u141, u142, u143, u144, u145, u146, u147, u148, u149, u150, u151, u152, u153, u154, u155, u156, u157, u158, u159, u160, u161, u162, u163, u164, u165, u166, u167, u168, u169, u170, u171, u172, u173, u174, u175, u176, u177, u178, u179, u180, u181, u182, u183, u184, u185, u186, u187, u188, u189, u190, u191, u192, u193, u194, u195, u196, u197, u198, u199, u200, u201, u202, u203, u204, u205, u206, u207, u208, u209, u210, u211, u212, u213, u214, u215, u216, u217, u218, u219, u220, u221, u222, u223, u224, u225, u226, u227, u228, u229, u230, u231, u232, u233, u234, u235, u236, u237, u238, u239, u240, u241, u242, u243, u244, u245, u246, u247, u248, u249, u250, u251, u252, u253, u254, u255, u256, u257, u258, u259, u260, u261, u262, u263, u264, u265, u266, u267, u268, u269, u270, u271, u272, u273, u274, u275, u276, u277, u278, u279, u280, u281, u282, u283, u284, u285, u286, u287, u288, u289, u290, u291, u292, u293, u294, u295, u296, u297, u298, u299, u300, u301, u302, u303, u304, u305, u306, u307, u308, u309, u310, u311, u312, u313, u314, u315, u316, u317, u318, u319, u320, u321, u322, u323, u324, u325, u326, u327, u328, u329, u330, u331, u332, u333, u334, u335, u336, u337, u338, u339, u340, u341, u342, u343, u344, u345, u346, u347, u348, u349, u350, u351, u352, u353, u354, u355, u356, u357, u358, u359, u360, u361], []⟩ w'') :
    Code.wp Tryd.prog sw Q0 ⟨#[.slice a0 len0 cap0, c1, u2, c3, ptr ar, ptr dv, v, .pointer (some ⟨ub, 0, none⟩), .pointer (some ⟨ub + 1, 0, none⟩), .int .i64 (A.last : Int), .int .i64 (i : Int), .pointer (some ⟨tb, 0, none⟩), .int .i64 kv, u13, u14, u15, u16, u17, u18, u19, u20, u21, u22, u23, u24, u25, u26, u27, u28, u29, u30, c31, c32, c33, c34, c35, c36, c37, c38, c39, c40, c41, c42, c43, c44, c45, c46, c47, u48, u49, u50, u51, u52, u53, u54, u55, u56, u57, u58, u59, u60, u61, u62, u63, u64, u65, u66, u67, u68, u69, u70, u71, u72, u73, u74, u75, u76, u77, u78, u79, u80, u81, u82, u83, u84, u85, u86, u87, u88, u89, u90, u91, u92, u93, u94, u95, u96, u97, u98, u99, u100, u101, u102, u103, u104, u105, u106, u107, u108, u109, u110, u111, u112, u113, u114, u115, u116, u117, u118, u119, u120, u121, u122, u123, u124, u125, u126, u127, u128, u129, u130, u131, u132, u133, u134, u135, u136, u137, u138, u139, u140, u141, u142, u143, u144, u145, u146, u147, u148, u149, u150, u151, u152, u153, u154, u155, u156, u157, u158, u159, u160, u161, u162, u163, u164, u165, u166, u167, u168, u169, u170, u171, u172, u173, u174, u175, u176, u177, u178, u179, u180, u181, u182, u183, u184, u185, u186, u187, u188, u189, u190, u191, u192, u193, u194, u195, u196, u197, u198, u199, u200, u201, u202, u203, u204, u205, u206, u207, u208, u209, u210, u211, u212, u213, u214, u215, u216, u217, u218, u219, u220, u221, u222, u223, u224, u225, u226, u227, u228, u229, u230, u231, u232, u233, u234, u235, u236, u237, u238, u239, u240, u241, u242, u243, u244, u245, u246, u247, u248, u249, u250, u251, u252, u253, u254, u255, u256, u257, u258, u259, u260, u261, u262, u263, u264, u265, u266, u267, u268, u269, u270, u271, u272, u273, u274, u275, u276, u277, u278, u279, u280, u281, u282, u283, u284, u285, u286, u287, u288, u289, u290, u291, u292, u293, u294, u295, u296, u297, u298, u299, u300, u301, u302, u303, u304, u305, u306, u307, u308, u309, u310, u311, u312, u313, u314, u315, u316, u317, u318, u319, u320, u321, u322, u323, u324, u325, u326, u327, u328, u329, u330, u331, u332, u333, u334, u335, u336, u337, u338, u339, u340, u341, u342, u343, u344, u345, u346, u347, u348, u349, u350, u351, u352, u353, u354, u355, u356, u357, u358, u359, u360, u361], []⟩ wr := by
  conv => arg 2; whnf
  have HQ := hid hq
  clear hq
  obtain ⟨i60, s, dk, n8, pl, ri, bel, hub, t, nums, bytes, a64, t32, tba, tbu, tbv, hkv, sl4⟩ := H
  obtain ⟨x0, x1, x2, x3, x4⟩ := tc t
  have d1 : decide (kv < 0) = false := decide_eq_false (by omega)
  have hlo2 := s.area.own_lo
  have hold := s.area.dev.old
  have hfl := aflush_w _ dv n m D ar u k A wr s.area (by omega) (by omega) (by have := dk.calls; omega) dk.fuse dk.down
  have S := hid s
  have PL := hid pl
  have DK := hid dk
  have BEL := hid bel
  have TBA := hid tba
  have TT := hid t
  clear s pl dk bel tba t nums bytes tbv sl4
  go_wp2_with fail
  rename_i K1 a1 K2 a2 K3 a3
  have HA1 := hid a1
  clear a1
  refine hfl.mono ?_
  rintro e w2 ⟨rfl, p', hp', A2, T2⟩
  dsimp only
  have hm2 : ∀ x ∈ own dv { m with p := p' }, x ∈ own dv m ∨ wr.heap.size ≤ x := fun x hx => by
    simp only [own, Mp.list, List.mem_cons, List.not_mem_nil, or_false] at hx ⊢
    omega
  have s2 := S.out.devs A2 T2 hm2
  have t2 : Tc w2 tb K N At T sa sl sc := T2.cells TT.out fun e => by have := TBA.out tb (own_sub e); omega
  have b2 : Below w1.heap.size w1 w2 := BEL.out.trans (T2.below BEL.out.size (fun x hx => hlo2 x (own_sub hx)))
  obtain ⟨q, rfl⟩ : ∃ q : Nat, kv = (q : Int) := ⟨kv.toNat, by omega⟩
  obtain ⟨va, vc, rfl, hR⟩ := refs_of s2.own
  have hqr : q < r := by omega
  have hvb := hR.bound
  have hql : q < rs.length := by rw [hR.len]; exact hqr
  obtain ⟨rb, ro, rfl, r0, r1⟩ := hR.at hql
  obtain ⟨p, hp, p1, p2, p3⟩ := s2.row _ (List.getElem_mem hql)
  rw [hp] at r0
  have hA := hid s2.area
  have hn7 : n + 3 * D.np < 90000 := by omega
  have hdk := DK.out.flush
  have hpo : rb ∉ own dv { m with p := p' } := fun e => s2.off rb rfl (own_sub e)
  have hto : tb ∉ own dv { m with p := p' } := fun e => by
    rcases hm2 _ e with h | h
    · have := TBA.out tb (own_sub h); omega
    · have := (Array.getElem?_eq_some_iff.1 TT.out).1; omega
  obtain ⟨y, hy, hy2⟩ : ∃ y : Nat, At % 253 = y ∧ y ≤ 252 := ⟨(At % 253).toNat, by have := Int.emod_nonneg At (b := 253) (by omega); omega, by have := Int.emod_lt_of_pos At (b := 253) (by omega); have := Int.emod_nonneg At (b := 253) (by omega); omega⟩
  have hnum := fun wz => NumW.number_w At 253 wz (by omega) (by omega) a64.1 a64.2
  rw [hy] at hnum
  obtain ⟨x0, x1, x2, x3, x4⟩ := tc t2
  have hrl := World.block_lt_of_cell? w2 _ r0
  have htl := (Array.getElem?_eq_some_iff.1 t2).1
  have hsp : ∀ wz, Below w2.heap.size w2 wz → Calls Tryd.prog 16 #[ptr dv, .int .i64 (p : Nat), .int .i64 (y : Nat), .int .u32 T] wz fun e w' => (∃ z, e = .returned (.bool z)) ∧ AAt w' w1.heap.size dv (n + 3 * D.np + 3) { m with p := p' } (D.flush.spoil (p : Nat) (y : Nat) T) ar u k A ∧ Turn (own dv { m with p := p' }) w2 w' ∧ w'.cell? ⟨rb, ro + q * 2, none⟩ = some (.int .i64 (p : Nat)) ∧ w'.cell? ⟨tb, 2, none⟩ = some (.int .i64 At) ∧ w'.cell? ⟨tb, 3, none⟩ = some (.int .u32 (T : Int)) := fun wz hb => by
    refine (aspoil_w _ dv _ _ _ ar u k A (p : Nat) (y : Nat) T wz (hA.out.below hb) (fits_nat (by omega)) hn7 (fits_nat (by omega)) t32 (hdk.kept _)).mono ?_
    rintro e w' ⟨hz, hA', hT'⟩
    have hT2 : Turn (own dv { m with p := p' }) w2 w' := (Turn.of_below hb).then hT'
    have kr := hT2.block rb hrl hpo
    have kt := hT2.block tb htl hto
    exact ⟨hz, hA', hT2, by rw [World.cell?_of_block (w := w2) kr]; exact r0, by rw [World.cell?_of_block (w := w2) kt]; exact x2, by rw [World.cell?_of_block (w := w2) kt]; exact x3⟩
  have S2 := hid s2
  have T2' := hid t2
  have B2 := hid b2
  have HM := hid hm2
  have HDK := hid hdk
  clear hfl A2 T2 s2 t2 b2 hm2 hdk hy hp p3 hlo2 hold hn7 TT r1 hkv hk0 hql hR hpo hto hrl htl hA
  go_upto_region 68 with fail
  go_region_held3 (fun w' => w'.cell? ⟨rb, ro + q * 2, none⟩ = some (.int .i64 (p : Nat)) ∧ w'.cell? ⟨tb, 2, none⟩ = some (.int .i64 At) ∧ w'.cell? ⟨tb, 3, none⟩ = some (.int .u32 (T : Int)))
    (first | exact ⟨r0, x2, x3⟩ | exact ⟨y0, y2, y3⟩)
    (first
      | (go_at_call 11; refine (hnum _).mono ?_; rintro e w' ⟨rfl, rfl⟩; dsimp only)
      | (go_at_call 16; refine (hsp _ (by first | exact (Below.refl _ _).drew | exact below_drewN (Below.refl _ _) _)).mono ?_; rintro e w6 ⟨⟨z, rfl⟩, A6, T6, y0, y2, y3⟩; dsimp only))
  have S6 := hid (S2.out.devs A6 T6 fun x hx => .inl hx)
  have B6 := hid (B2.out.trans (T6.below B2.out.size fun x hx => S2.out.area.own_lo x (own_sub hx)))
  clear hsp hnum A6 T6 S2 B2 T2' TBA S BEL
  go_wp2_with fail
  refine HA1.out _ _ ?_
  refine tail_w S6.out.area (HDK.out.spoil _ _ _).blocks PL.out S6.out.use S6.out.held ?_
  intros
  rename_i w8 hb8
  exact HQ.out _ _ _ _ _ _ _ _ _ _ _ _ _ _ _ _ _ _ _ _ _ _ _ _ _ _ _ _ _ _ _ _ _ _ _ _ _ _ _ _ _ _ _ _ _ _ _ _ _ _ _ _ _ _ _ _ _ _ _ _ _ _ _ _ _ _ _ _ _ _ _ _ _ _ _ _ _ _ _ _ _ _ _ _ _ _ _ _ _ _ _ _ _ _ _ _ _ _ _ _ _ _ _ _ _ _ _ _ _ _ _ _ _ _ _ _ _ _ _ _ _ _ _ _ _ _ _ _ _ _ _ _ _ _ _ _ _ _ _ _ _ _ _ _ _ _ _ _ _ _ _ _ _ _ _ _ _ _ _ _ _ _ _ _ _ _ _ _ _ _ _ _ _ _ _ _ _ _ _ _ _ _ _ _ _ _ _ _ _ _ _ _ _ _ _ _ _ _ _ _ _ _ _ _ _ _ _ _ _ _ _ _ _ _ _ _ _ _ _ _ _ _ _ _ _ _ _ _ _ _ _ _ _ _ _ _ _ _ _ _ _ _ _ _ _ _ _ _ _ _ _ _ _ _ _ _ _ _ _ _ _ _ _ _ _ _ _ _ _ _ _ _ _ _ _ _ _ _ _ _ _ _ _ _ _ _ _ _ _ _ _ _ _ _ _ _ _ _ _ _ _ _ _ _ _ _ _ _ _ _ _ _ _ _ _ _ _ _ _ _ _ _ _ _ _ _ _ _ _ _ _ _ _ _ _ _ _ _ _ (.inl rfl) ⟨⟨_, _, _, _, _, _, _, _, _, _, S6.out.below hb8, (HDK.out.spoil _ _ _).mono (by omega), by rw [spoil_np]; show n + 3 * D.np + 3 + 3 * 0 ≤ _; omega, PL.out.mono (by omega), by omega, rfl, B6.out.trans (hb8.mono B6.out.size)⟩⟩
end
end Go.Proofs.YtagbnacffiagcaaDoor.blobPlays
