/- The loop of BlobPlays: what each round looks at last. -/
import Derived.Test.YtagbnacffiagcaaDoorWBlobPlaysA
namespace Go.Proofs.YtagbnacffiagcaaDoor.blobPlays
open Go Go.RowKit Go.Maps Go.Proofs.YtagbnacffiagcaaDoor.Mem Go.Proofs.YtagbnacffiagcaaDoor.MapsW Go.Proofs.YtagbnacffiagcaaDoor.SeeW Go.Proofs.YtagbnacffiagcaaDoor.DevG Go.Proofs.YtagbnacffiagcaaDoor.BlobW Go.Proofs.YtagbnacffiagcaaDoor.RefsW Go.Proofs.YtagbnacffiagcaaDoor.Ints
set_option linter.unusedVariables false
set_option maxRecDepth 1000000
section
variable {a0 : Option Addr} {len0 cap0 : Nat} {wr : World} {ar dv ub lo n i : Nat} {m : Mp} {D : Dv} {u k : Nat} {A : Ar} {U G : Nat → Bool} {c1 c3 c31 c32 c33 c34 c35 c36 c37 c38 c39 c40 c41 c42 c43 c44 c45 c46 c47 u2 u11 u12 u13 u14 u15 u16 u17 u18 u19 u20 u21 u22 u23 u24 u25 u26 u27 u28 u29 u30 u48 u49 u50 u51 u52 u53 u54 u55 u56 u57 u58 u59 u60 u61 u62 u63 u64 u65 u66 u67 u68 u69 u70 u71 u72 u73 u74 u75 u76 u77 u78 u79 u80 u81 u82 u83 u84 u85 u86 u87 u88 u89 u90 u91 u92 u93 u94 u95 u96 u97 u98 u99 u100 u101 u102 u103 u104 u105 u106 u107 u108 u109 u110 u111 u112 u113 u114 u115 u116 u117 u118 u119 u120 u121 u122 u123 u124 u125 u126 u127 u128 u129 u130 u131 u132 u133 u134 u135 u136 u137 u138 u139 u140 u141 u142 u143 u144 u145 u146 u147 u148 u149 u150 u151 u152 u153 u154 u155 u156 u157 u158 u159 u160 u161 u162 u163 u164 u165 u166 u167 u168 u169 u170 u171 u172 u173 u174 u175 u176 u177 u178 u179 u180 u181 u182 u183 u184 u185 u186 u187 u188 u189 u190 u191 u192 u193 u194 u195 u196 u197 u198 u199 u200 u201 u202 u203 u204 u205 u206 u207 u208 u209 u210 u211 u212 u213 u214 u215 u216 u217 u218 u219 u220 u221 u222 u223 u224 u225 u226 u227 u228 u229 u230 u231 u232 u233 u234 u235 u236 u237 u238 u239 u240 u241 u242 u243 u244 u245 u246 u247 u248 u249 u250 u251 u252 u253 u254 u255 u256 u257 u258 u259 u260 u261 u262 u263 u264 u265 u266 u267 u268 u269 u270 u271 u272 u273 u274 u275 u276 u277 u278 u279 u280 u281 u282 u283 u284 u285 u286 u287 u288 u289 u290 u291 u292 u293 u294 u295 u296 u297 u298 u299 u300 u301 u302 u303 u304 u305 u306 u307 u308 u309 u310 u311 u312 u313 u314 u315 u316 u317 u318 u319 u320 u321 u322 u323 u324 u325 u326 u327 u328 u329 u330 u331 u332 u333 u334 u335 u336 u337 u338 u339 u340 u341 u342 u343 u344 u345 u346 u347 u348 u349 u350 u351 u352 u353 u354 u355 u356 u357 u358 u359 u360 u361 v6 v9 v10 : Value} {Q0 : Exit → Act → World → Prop}
set_option maxHeartbeats 16000000 in
theorem tail_w (hA : AAt wr lo dv n m D ar u k A) (hD : D.blocks = 300) (hP : Pl A U G i) (hU : InA wr ub U) (hG : InA wr (ub + 1) G)
    (hq : ∀ (u2 u11 u12 u13 u14 u15 u16 u17 u18 u19 u20 u21 u22 u23 u24 u25 u26 u27 u28 u29 u30 u48 u49 u50 u51 u52 u53 u54 u55 u56 u57 u58 u59 u60 u61 u62 u63 u64 u65 u66 u67 u68 u69 u70 u71 u72 u73 u74 u75 u76 u77 u78 u79 u80 u81 u82 u83 u84 u85 u86 u87 u88 u89 u90 u91 u92 u93 u94 u95 u96 u97 u98 u99 u100 u101 u102 u103 u104 u105 u106 u107 u108 u109 u110 u111 u112 u113 u114 u115 u116 u117 u118 u119 u120 u121 u122 u123 u124 u125 u126 u127 u128 u129 u130 u131 u132 u133 u134 u135 u136 u137 u138 u139 u140 u141 u142 u143 u144 u145 u146 u147 u148 u149 u150 u151 u152 u153 u154 u155 u156 u157 u158 u159 u160 u161 u162 u163 u164 u165 u166 u167 u168 u169 u170 u171 u172 u173 u174 u175 u176 u177 u178 u179 u180 u181 u182 u183 u184 u185 u186 u187 u188 u189 u190 u191 u192 u193 u194 u195 u196 u197 u198 u199 u200 u201 u202 u203 u204 u205 u206 u207 u208 u209 u210 u211 u212 u213 u214 u215 u216 u217 u218 u219 u220 u221 u222 u223 u224 u225 u226 u227 u228 u229 u230 u231 u232 u233 u234 u235 u236 u237 u238 u239 u240 u241 u242 u243 u244 u245 u246 u247 u248 u249 u250 u251 u252 u253 u254 u255 u256 u257 u258 u259 u260 u261 u262 u263 u264 u265 u266 u267 u268 u269 u270 u271 u272 u273 u274 u275 u276 u277 u278 u279 u280 u281 u282 u283 u284 u285 u286 u287 u288 u289 u290 u291 u292 u293 u294 u295 u296 u297 u298 u299 u300 u301 u302 u303 u304 u305 u306 u307 u308 u309 u310 u311 u312 u313 u314 u315 u316 u317 u318 u319 u320 u321 u322 u323 u324 u325 u326 u327 u328 u329 u330 u331 u332 u333 u334 u335 u336 u337 u338 u339 u340 u341 u342 u343 u344 u345 u346 u347 u348 u349 u350 u351 u352 u353 u354 u355 u356 u357 u358 u359 u360 u361 : Value) (w' : World), Below wr.heap.size wr w' → Q0 .normal ⟨#[.slice a0 len0 cap0, c1, u2, c3, ptr ar, ptr dv, v6, .pointer (some ⟨ub, 0, none⟩), .pointer (some ⟨ub + 1, 0, none⟩), v9, v10, u11, u12, u13, u14, u15, u16, u17, u18, u19, u20, u21, u22, u23, u24, u25, u26, u27, u28, u29, u30, c31, c32, c33, c34, c35, c36, c37, c38, c39, c40, c41, c42, c43, c44, c45, c46, c47, u48, u49, u50, u51, u52, u53, u54, u55, u56, u57, u58, u59, u60, u61, u62, u63, u64, u65, u66, u67, u68, u69, u70, u71, u72, u73, u74, u75, u76, u77, u78, u79, u80, u81, u82, u83, u84, u85, u86, u87, u88, u89, u90, u91, u92, u93, u94, u95, u96, u97, u98, u99, u100, u101, u102, u103, u104, u105, u106, u107, u108, u109, u110, u111, u112, u113, u114, u115, u116, u117, u118, u119, u120, u121, u122, u123, u124, u125, u126, u127, u128, u129, u130, u131, u132, u133, u134, u135, u136, u137, u138, u139, u140, u141, u142, u143, u144, u145, u146, u147, u148, u149, u150, u151, u152, u153, u154, u155, u156, u157, u158, u159, u160, u161, u162, u163, u164, u165, u166, u167, u168, u169, u170, u171, u172, u173, u174, u175, u176, u177, u178, u179, u180, u181, u182, u183, u184, u185, u186, u187, u188, u189, u190, u191, u192, u193, u194, u195, u196, u197, u198, u199, u200, u201, u202, u203, u204, u205, u206, u207, u208, u209, u210, u211, u212, u213, u214, u215, u216, u217, u218, u219, u220, u221, u222, u223, u224, u225, u226, u227, u228, u229, u230, u231, u232, u233, u234, u235, u236, u237, u238, u239, u240, u241, u242, u243, u244, u245, u246, u247, u248, u249, u250, u251, u252, u253, u254, u255, u256, u257, u258, u259, u260, u261, u262, u263, u264, u265, u266, u267, u268, u269, u270, u271, u272, u273, u274, u275, u276, u277, u278, u279, u280, u281, u282, u283, u284, u285, u286, u287, u288, u289, u290, u291, u292, u293, u294, u295, u296, u297, u298, u299, u300, u301, u302, u303, u304, u305, u306, u307, u308, u309, u310, u311, u312, u313, u314, u315, u316, u317, u318, u319, u320, u321, u322, u323, u324, u325, u326, u327, u328, u329, u330, u331, u332, u333, u334, u335, u336, u337, u338, u339, u340, u341, u342, u343, u344, u345, u346, u347, u348, u349, u350, u351, u352, u353, u354, u355, u356, u357, u358, u359, u360, u361], []⟩ w') :
    Code.wp Tryd.prog tail Q0 ⟨#[.slice a0 len0 cap0, c1, u2, c3, ptr ar, ptr dv, v6, .pointer (some ⟨ub, 0, none⟩), .pointer (some ⟨ub + 1, 0, none⟩), v9, v10, u11, u12, u13, u14, u15, u16, u17, u18, u19, u20, u21, u22, u23, u24, u25, u26, u27, u28, u29, u30, c31, c32, c33, c34, c35, c36, c37, c38, c39, c40, c41, c42, c43, c44, c45, c46, c47, u48, u49, u50, u51, u52, u53, u54, u55, u56, u57, u58, u59, u60, u61, u62, u63, u64, u65, u66, u67, u68, u69, u70, u71, u72, u73, u74, u75, u76, u77, u78, u79, u80, u81, u82, u83, u84, u85, u86, u87, u88, u89, u90, u91, u92, u93, u94, u95, u96, u97, u98, u99, u100, u101, u102, u103, u104, u105, u106, u107, u108, u109, u110, u111, u112, u113, u114, u115, u116, u117, u118, u119, u120, u121, u122, u123, u124, u125, u126, u127, u128, u129, u130, u131, u132, u133, u134, u135, u136, u137, u138, u139, u140, u141, u142, u143, u144, u145, u146, u147, u148, u149, u150, u151, u152, u153, u154, u155, u156, u157, u158, u159, u160, u161, u162, u163, u164, u165, u166, u167, u168, u169, u170, u171, u172, u173, u174, u175, u176, u177, u178, u179, u180, u181, u182, u183, u184, u185, u186, u187, u188, u189, u190, u191, u192, u193, u194, u195, u196, u197, u198, u199, u200, u201, u202, u203, u204, u205, u206, u207, u208, u209, u210, u211, u212, u213, u214, u215, u216, u217, u218, u219, u220, u221, u222, u223, u224, u225, u226, u227, u228, u229, u230, u231, u232, u233, u234, u235, u236, u237, u238, u239, u240, u241, u242, u243, u244, u245, u246, u247, u248, u249, u250, u251, u252, u253, u254, u255, u256, u257, u258, u259, u260, u261, u262, u263, u264, u265, u266, u267, u268, u269, u270, u271, u272, u273, u274, u275, u276, u277, u278, u279, u280, u281, u282, u283, u284, u285, u286, u287, u288, u289, u290, u291, u292, u293, u294, u295, u296, u297, u298, u299, u300, u301, u302, u303, u304, u305, u306, u307, u308, u309, u310, u311, u312, u313, u314, u315, u316, u317, u318, u319, u320, u321, u322, u323, u324, u325, u326, u327, u328, u329, u330, u331, u332, u333, u334, u335, u336, u337, u338, u339, u340, u341, u342, u343, u344, u345, u346, u347, u348, u349, u350, u351, u352, u353, u354, u355, u356, u357, u358, u359, u360, u361], []⟩ wr := by
  conv => arg 2; whnf
  obtain ⟨cu, hcu⟩ : ∃ x, cnt U 150 = x := ⟨_, rfl⟩
  obtain ⟨cg, hcg⟩ : ∃ x, cnt G 150 = x := ⟨_, rfl⟩
  obtain ⟨cf, hcf⟩ : ∃ x, cnt (neither U G) 150 = x := ⟨_, rfl⟩
  obtain ⟨hnu, hnh, hsum⟩ : A.nu = cu ∧ A.nh = cg ∧ cf + cu + cg = 150 := ⟨hP.nu.trans hcu, hP.nh.trans hcg, by rw [← hcu, ← hcg, ← hcf]; exact cnt_free hP.apart 150⟩
  have hke : ∀ ks, NKeys A.used ks → ∀ j, j < 150 → U (150 + j) = true → ks[cnt U j]? = some ((150 + j : Nat) : Int) ∧ cnt U j < cu := fun ks hk j h1 h2 => by
    rw [hP.keys hk, ← hcu]; exact ul_at h1 h2
  have hus : Calls Tryd.prog 61 #[ptr ar] wr fun e w' => ∃ s c ks, e = .returned (.slice s cu c) ∧ NKeys A.used ks ∧ ks.length = cu ∧ Is w' s cu c ks ∧ Below wr.heap.size wr w' := by
    refine (used_w lo dv n m D ar u k A wr hA (by omega)).mono ?_
    rintro e w' ⟨s, c, ks, rfl, h1, h2, h3, h4⟩
    rw [hnu] at h2
    rw [h2] at h3 ⊢
    exact ⟨s, c, ks, rfl, h1, h2, h3, h4⟩
  have HA := hid hA
  have HU := hid hU
  have HG := hid hG
  have HQ := hid hq
  have HKE := hid hke
  have HCU := hid hcu
  have HCF := hid hcf
  clear hA hU hG hq hP hke hcu hcf hcg
  go_wp2_with fail
  refine hus.mono ?_
  rintro e w2 ⟨s, c, ks, rfl, hK, hkl, hI, b2⟩
  have hke := HKE.out ks hK
  have I2 := hid hI
  have U2 := hid (HU.out.below b2)
  have G2 := hid (HG.out.below b2)
  have KE := hid hke
  have KL := hid hkl
  have hlf := left_w lo dv n m D ar u k A w2 (HA.out.below b2) (by omega) (by omega)
  rw [hD, datas_300, hnu, hnh, show ((150 : Nat) : Int) - (cu : Nat) - (cg : Nat) = ((cf : Nat) : Int) by omega] at hlf
  have B2 := hid b2
  have HL := hid hlf
  have hcb := hI.bound
  clear hus hK hI b2 hlf HA HU HG hkl hnu hnh hke HKE
  dsimp only
  go_wp2_with fail
  go_loopw [27, 28, 30] (fun nv lv iv w3 => ∃ j : Nat, j ≤ 150 ∧ iv = .int .i64 ((150 + j : Nat) : Int) ∧ nv = .int .i64 (cnt U j : Nat) ∧ lv = .int .i64 (cnt (neither U G) j : Nat) ∧ w3 = w2) (fun _ _ iv _ => 300 - (RowKit.intOf iv).toNat)
  case atStart => exact ⟨0, by omega, rfl, rfl, rfl, rfl⟩
  case round =>
    obtain ⟨j, hj, rfl, rfl, rfl, rfl⟩ := hrel
    by_cases hlt : j < 150
    · have hU := U2.out.at_ (150 + j) (by omega)
      have hG := G2.out.at_ (150 + j) (by omega)
      have hnf : neither U G (150 + j) = (!U (150 + j) && !G (150 + j)) := rfl
      have hcs : cnt U (j + 1) = cnt U j + (U (150 + j)).toNat := rfl
      have hfs : cnt (neither U G) (j + 1) = cnt (neither U G) j + (neither U G (150 + j)).toNat := rfl
      have hcx := cnt_le U j
      have hfx := cnt_le (neither U G) j
      have KJ := KE.out j hlt
      have hpj : ((150 + (j + 1) : Nat) : Int) = ((150 + j : Nat) : Int) + 1 := by omega
      have hp3 : 150 + j < 300 := by omega
      cases hUv : U (150 + j) with
      | true =>
        rw [hUv] at hU hcs hnf
        obtain ⟨k1, k2⟩ := KJ hUv
        obtain ⟨hkx, hkv⟩ := List.getElem?_eq_some_iff.1 k1
        obtain ⟨b0, o0, rfl, hc0⟩ := I2.out.at hkx
        rw [hkv] at hc0
        have hf0 : neither U G (150 + j) = false := hnf
        rw [hf0] at hfs
        have HCS := hid hcs
        have HFS := hid hfs
        have HPJ := hid hpj
        clear KJ hkv hkx k1 hcs hfs hpj hnf hf0
        generalize cnt U j = x at *
        generalize cnt (neither U G) j = y at *
        generalize 150 + j = p at *
        have d1 : decide ((cu : Int) ≤ (x : Int)) = false := decide_eq_false (by omega)
        have d2 : (((p : Nat) : Int) != ((p : Nat) : Int)) = false := by simp
        go_wp2_with fail
        go_roundw
        case rel => exact ⟨j + 1, by omega, by rw [HPJ.out], by rw [HCS.out]; go_num, by rw [HFS.out]; rfl, trivial⟩
        case measure => simp [RowKit.intOf]; omega
      | false =>
        rw [hUv] at hU hcs hnf
        cases hGv : G (150 + j) with
        | true =>
          rw [hGv] at hG hnf
          have hf0 : neither U G (150 + j) = false := hnf
          rw [hf0] at hfs
          have HCS := hid hcs
          have HFS := hid hfs
          have HPJ := hid hpj
          clear KJ hcs hfs hpj hnf hf0
          generalize cnt U j = x at *
          generalize cnt (neither U G) j = y at *
          generalize 150 + j = p at *
          go_wp2_with fail
          go_roundw
          case rel => exact ⟨j + 1, by omega, by rw [HPJ.out], by rw [HCS.out]; rfl, by rw [HFS.out]; rfl, trivial⟩
          case measure => simp [RowKit.intOf]; omega
        | false =>
          rw [hGv] at hG hnf
          have hf0 : neither U G (150 + j) = true := hnf
          rw [hf0] at hfs
          have HCS := hid hcs
          have HFS := hid hfs
          have HPJ := hid hpj
          clear KJ hcs hfs hpj hnf hf0
          generalize cnt U j = x at *
          generalize cnt (neither U G) j = y at *
          generalize 150 + j = p at *
          go_wp2_with fail
          go_roundw
          case rel => exact ⟨j + 1, by omega, by rw [HPJ.out], by rw [HCS.out]; rfl, by rw [HFS.out]; go_num, trivial⟩
          case measure => simp [RowKit.intOf]; omega
    · obtain rfl : j = 150 := by omega
      rw [HCU.out, HCF.out]
      have hlf := HL.out
      have d1 : (((cu : Nat) : Int) != ((cu : Nat) : Int)) = false := by simp
      have d2 : (((cf : Nat) : Int) != ((cf : Nat) : Int)) = false := by simp
      go_wp2_with fail
      refine hlf.mono ?_
      rintro e w' ⟨rfl, b⟩
      have BX := hid (B2.out.trans (b.mono B2.out.size))
      clear hlf b
      dsimp only
      go_wp2_with fail
      exact HQ.out _ _ _ _ _ _ _ _ _ _ _ _ _ _ _ _ _ _ _ _ _ _ _ _ _ _ _ _ _ _ _ _ _ _ _ _ _ _ _ _ _ _ _ _ _ _ _ _ _ _ _ _ _ _ _ _ _ _ _ _ _ _ _ _ _ _ _ _ _ _ _ _ _ _ _ _ _ _ _ _ _ _ _ _ _ _ _ _ _ _ _ _ _ _ _ _ _ _ _ _ _ _ _ _ _ _ _ _ _ _ _ _ _ _ _ _ _ _ _ _ _ _ _ _ _ _ _ _ _ _ _ _ _ _ _ _ _ _ _ _ _ _ _ _ _ _ _ _ _ _ _ _ _ _ _ _ _ _ _ _ _ _ _ _ _ _ _ _ _ _ _ _ _ _ _ _ _ _ _ _ _ _ _ _ _ _ _ _ _ _ _ _ _ _ _ _ _ _ _ _ _ _ _ _ _ _ _ _ _ _ _ _ _ _ _ _ _ _ _ _ _ _ _ _ _ _ _ _ _ _ _ _ _ _ _ _ _ _ _ _ _ _ _ _ _ _ _ _ _ _ _ _ _ _ _ _ _ _ _ _ _ _ _ _ _ _ _ _ _ _ _ _ _ _ _ _ _ _ _ _ _ _ _ _ _ _ _ _ _ _ _ _ _ _ _ _ _ _ _ _ _ _ _ _ _ _ _ _ _ _ _ _ _ _ _ _ _ _ _ _ _ _ _ _ _ _ _ _ _ _ _ _ _ _ _ _ BX.out
end
end Go.Proofs.YtagbnacffiagcaaDoor.blobPlays
