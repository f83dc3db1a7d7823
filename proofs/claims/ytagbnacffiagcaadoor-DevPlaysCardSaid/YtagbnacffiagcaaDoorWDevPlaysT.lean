/- The loop of DevPlays: what each round looks at last. -/
import Derived.Test.YtagbnacffiagcaaDoorWDevPlaysL
namespace Go.Proofs.YtagbnacffiagcaaDoor.devPlays
open Go Go.RowKit Go.Maps Go.Proofs.YtagbnacffiagcaaDoor.Mem Go.Proofs.YtagbnacffiagcaaDoor.MapsW Go.Proofs.YtagbnacffiagcaaDoor.SeeW Go.Proofs.YtagbnacffiagcaaDoor.DevG Go.Proofs.YtagbnacffiagcaaDoor.RDevW Go.Proofs.YtagbnacffiagcaaDoor.Ints Go.Proofs.YtagbnacffiagcaaDoor.DevL
set_option linter.unusedVariables false
set_option maxRecDepth 1000000
section
variable {a0 : Option Addr} {len0 cap0 bk : Nat} {w1 w0 : World} {dv xr i j n nc : Nat} {m cm : Mp} {D Dc : Dv} {G : Gs} {R : Rd} {cd tb : Nat} {wv hv : Value} {rr : Except Nat (List Nat)} {K N At : Int} {B T : Nat} {sa : Option Addr} {sl sc : Nat} {pa : Option Addr} {pl pc : Nat} {c2 c3 c5 c7 c22 c23 c24 c25 c26 c27 c28 c29 c30 c31 c32 c33 c34 c35 c36 c37 c38 c39 c40 c41 c42 c43 c44 c45 c46 c47 c48 c49 c50 c51 c52 c53 c54 c55 c56 u4 u10 u11 u12 u13 u14 u15 u16 u17 u18 u19 u20 u21 u57 u58 u59 u60 u61 u62 u63 u64 u65 u66 u67 u68 u69 u70 u71 u72 u73 u74 u75 u76 u77 u78 u79 u80 u81 u82 u83 u84 u85 u86 u87 u88 u89 u90 u91 u92 u93 u94 u95 u96 u97 u98 u99 u100 u101 u102 u103 u104 u105 u106 u107 u108 u109 u110 u111 u112 u113 u114 u115 u116 u117 u118 u119 u120 u121 u122 u123 u124 u125 u126 u127 u128 u129 u130 u131 u132 u133 u134 u135 u136 u137 u138 u139 u140 u141 u142 u143 u144 u145 u146 u147 u148 u149 u150 u151 u152 u153 u154 u155 u156 u157 u158 u159 u160 u161 u162 u163 u164 u165 u166 u167 u168 u169 u170 u171 u172 u173 u174 u175 u176 u177 u178 u179 u180 u181 u182 u183 u184 u185 u186 u187 u188 u189 u190 u191 u192 u193 u194 u195 u196 u197 u198 u199 u200 u201 u202 u203 u204 u205 u206 u207 u208 u209 u210 u211 u212 u213 u214 u215 u216 u217 u218 u219 u220 u221 u222 u223 u224 u225 u226 u227 u228 u229 u230 u231 u232 u233 u234 u235 u236 u237 u238 u239 u240 u241 u242 u243 u244 u245 u246 u247 u248 u249 u250 u251 u252 u253 u254 u255 u256 u257 u258 u259 u260 u261 u262 u263 u264 u265 u266 u267 u268 u269 u270 u271 u272 u273 u274 u275 u276 u277 u278 u279 u280 u281 u282 u283 u284 u285 u286 u287 u288 u289 u290 u291 u292 u293 u294 u295 u296 u297 u298 u299 u300 : Value} {Q0 : Exit → Act → World → Prop}
set_option maxHeartbeats 16000000 in
theorem tail_w (bs : List Addr) (HB : Ev w1 w1.heap.size bs five) (HBS : Bs w1 bs) (n64 : Fits N) (H : Aft w1 w0 bk dv xr j n m D G R nc Dc cd cm wv hv rr tb K N At B T sa sl sc pa pl pc)
    (hq : ∀ (u4 u10 u11 u12 u13 u14 u15 u16 u17 u18 u19 u20 u21 u57 u58 u59 u60 u61 u62 u63 u64 u65 u66 u67 u68 u69 u70 u71 u72 u73 u74 u75 u76 u77 u78 u79 u80 u81 u82 u83 u84 u85 u86 u87 u88 u89 u90 u91 u92 u93 u94 u95 u96 u97 u98 u99 u100 u101 u102 u103 u104 u105 u106 u107 u108 u109 u110 u111 u112 u113 u114 u115 u116 u117 u118 u119 u120 u121 u122 u123 u124 u125 u126 u127 u128 u129 u130 u131 u132 u133 u134 u135 u136 u137 u138 u139 u140 u141 u142 u143 u144 u145 u146 u147 u148 u149 u150 u151 u152 u153 u154 u155 u156 u157 u158 u159 u160 u161 u162 u163 u164 u165 u166 u167 u168 u169 u170 u171 u172 u173 u174 u175 u176 u177 u178 u179 u180 u181 u182 u183 u184 u185 u186 u187 u188 u189 u190 u191 u192 u193 u194 u195 u196 u197 u198 u199 u200 u201 u202 u203 u204 u205 u206 u207 u208 u209 u210 u211 u212 u213 u214 u215 u216 u217 u218 u219 u220 u221 u222 u223 u224 u225 u226 u227 u228 u229 u230 u231 u232 u233 u234 u235 u236 u237 u238 u239 u240 u241 u242 u243 u244 u245 u246 u247 u248 u249 u250 u251 u252 u253 u254 u255 u256 u257 u258 u259 u260 u261 u262 u263 u264 u265 u266 u267 u268 u269 u270 u271 u272 u273 u274 u275 u276 u277 u278 u279 u280 u281 u282 u283 u284 u285 u286 u287 u288 u289 u290 u291 u292 u293 u294 u295 u296 u297 u298 u299 u300 : Value) (w' : World), Below w0.heap.size w0 w' → Q0 .normal ⟨#[.int .i64 (bk : Int), .slice a0 len0 cap0, c2, c3, u4, c5, ptr dv, c7, ptr xr, .int .i64 (i : Int), u10, u11, u12, u13, u14, u15, u16, u17, u18, u19, u20, u21, c22, c23, c24, c25, c26, c27, c28, c29, c30, c31, c32, c33, c34, c35, c36, c37, c38, c39, c40, c41, c42, c43, c44, c45, c46, c47, c48, c49, c50, c51, c52, c53, c54, c55, c56, u57, u58, u59, u60, u61, u62, u63, u64, u65, u66, u67, u68, u69, u70, u71, u72, u73, u74, u75, u76, u77, u78, u79, u80, u81, u82, u83, u84, u85, u86, u87, u88, u89, u90, u91, u92, u93, u94, u95, u96, u97, u98, u99, u100, u101, u102, u103, u104, u105, u106, u107, u108, u109, u110, u111, u112, u113, u114, u115, u116, u117, u118, u119, u120, u121, u122, u123, u124, u125, u126, u127, u128, u129, u130, u131, u132, u133, u134, u135, u136, u137, u138, u139, u140, u141, u142, u143, u144, u145, u146, u147, u148, u149, u150, u151, u152, u153, u154, u155, u156, u157, u158, u159, u160, u161, u162, u163, u164, u165, u166, u167, u168, u169, u170, u171, u172, u173, u174, u175, u176, u177, u178, u179, u180, u181, u182, u183, u184, u185, u186, u187, u188, u189, u190, u191, u192, u193, u194, u195, u196, u197, u198, u199, u200, u201, u202, u203, u204, u205, u206, u207, u208, u209, u210, u211, u212, u213, u214, u215, u216, u217, u218, u219, u220, u221, u222, u223, u224, u225, u226, u227, u228, u229, u230, u231, u232, u233, u234, u235, u236, u237, u238, u239, u240, u241, u242, u243, u244, u245, u246, u247, u248, u249, u250, u251, u252, u253, u254, u255, u256, u257, u258, u259, u260, u261, u262, u263, u264, u265, u266, u267, u268, u269, u270, u271, u272, u273, u274, u275, u276, u277, u278, u279, u280, u281, u282, u283, u284, u285, u286, u287, u288, u289, u290, u291, u292, u293, u294, u295, u296, u297, u298, u299, u300], []⟩ w') :
    Code.wp Tryd.prog tail Q0 ⟨#[.int .i64 (bk : Int), .slice a0 len0 cap0, c2, c3, u4, c5, ptr dv, c7, ptr xr, .int .i64 (i : Int), .pointer (some ⟨tb, 0, none⟩), ptr cd, wv, hv, u14, u15, u16, u17, u18, u19, u20, u21, c22, c23, c24, c25, c26, c27, c28, c29, c30, c31, c32, c33, c34, c35, c36, c37, c38, c39, c40, c41, c42, c43, c44, c45, c46, c47, c48, c49, c50, c51, c52, c53, c54, c55, c56, u57, u58, u59, u60, u61, u62, u63, u64, u65, u66, u67, u68, u69, u70, u71, u72, u73, u74, u75, u76, u77, u78, u79, u80, u81, u82, u83, u84, u85, u86, .int .i64 K, u88, u89, u90, u91, u92, u93, u94, u95, u96, u97, u98, u99, u100, u101, u102, u103, u104, u105, u106, u107, u108, u109, u110, u111, u112, u113, u114, u115, u116, u117, u118, u119, u120, u121, u122, u123, u124, u125, u126, u127, u128, u129, u130, u131, u132, u133, u134, u135, u136, u137, u138, u139, u140, u141, u142, u143, u144, u145, u146, u147, u148, u149, u150, u151, u152, u153, u154, u155, u156, u157, u158, u159, u160, u161, u162, u163, u164, u165, u166, u167, u168, u169, u170, u171, u172, u173, u174, u175, u176, u177, u178, u179, u180, u181, u182, u183, u184, u185, u186, u187, u188, u189, u190, u191, u192, u193, u194, u195, u196, u197, u198, u199, u200, u201, u202, u203, u204, u205, u206, u207, u208, u209, u210, u211, u212, u213, u214, u215, u216, u217, u218, u219, u220, u221, u222, u223, u224, u225, u226, u227, u228, u229, u230, u231, u232, u233, u234, u235, u236, u237, u238, u239, u240, u241, u242, u243, u244, u245, u246, u247, u248, u249, u250, u251, u252, u253, u254, u255, u256, u257, u258, u259, u260, u261, u262, u263, u264, u265, u266, u267, u268, u269, u270, u271, u272, u273, u274, u275, u276, u277, u278, u279, u280, u281, u282, u283, u284, u285, u286, u287, u288, u289, u290, u291, u292, u293, u294, u295, u296, u297, u298, u299, u300], []⟩ w0 := by
  conv => arg 2; whnf
  obtain ⟨s, hbk, _, _, bel, c, hrr, hhad⟩ := H
  have S := hid s
  have C := hid c
  have HBK := hid hbk
  have HRR := hid hrr
  have HHAD := hid hhad
  have BEL := hid bel
  have HQ := hid hq
  have hb12 := s.b12
  rw [hbk] at hb12
  have hb1 : 1 ≤ bk := by rw [← hbk, ← s.rel.b]; exact s.ref.b1
  have hrb := hid (show R.b = bk by rw [s.rel.b, hbk])
  clear s c hbk hrr hhad bel hq
  go_upto_region 44 with fail
  rename_i K1 a1 K2 a2
  have HA1 := hid a1
  clear a1
  go_wp2_with fail
  go_loopw [14] (fun kv w' => ∃ z : Int, -1 ≤ z ∧ z ≤ (bk : Int) + 1 ∧ kv = .int .i64 z ∧ Below w0.heap.size w0 w') (fun kv _ => ((bk : Int) + 1 - RowKit.intOf kv).toNat)
  case atStart => exact ⟨-1, by omega, by omega, rfl, Below.refl _ _⟩
  case round =>
    obtain ⟨z, hz1, hz2, rfl, hb⟩ := hrel
    have hsz := hb.size
    have SL := hid (S.out.below hb)
    have HBL := hid hb
    clear hb
    by_cases hlt : z ≤ (bk : Int)
    · have hf : Fits z := by unfold Fits; omega
      by_cases hin : 0 ≤ z ∧ z < (bk : Int)
      · obtain ⟨hi0, hi1⟩ := hin
        cases hg : D.get z with
        | ok l' =>
          have hrd := read_w bs dv _ n m D z wr SL.out.dev ((HB.below BEL.out).below HBL.out) hf
          have hxr := fun wz hb => rread_w z wz (SL.out.ref.below (w' := wz) hb) hf
          rw [hg] at hrd
          rw [← S.out.rel.get, hg] at hxr
          have HXR := hid hxr
          clear hg hxr
          obtain ⟨p, rfl⟩ : ∃ p : Nat, z = (p : Int) := ⟨z.toNat, by omega⟩
          have hpR : p < R.b := by rw [hrb.out]; omega
          have hfa : R.A p = D.fa (p : Int) := S.out.rel.A p hpR
          have hpb : ((p : Nat) : Int) < (R.b : Int) := by omega
          have HFA := hid hfa
          clear hfa
          go_wp2_with fail
          refine hrd.mono ?_
          rintro e w2 ⟨⟨g2, gc2, rfl, n2, _⟩, b2⟩
          dsimp only
          have hxr := HXR.out w2 b2
          have B2 := hid (HBL.out.trans (b2.mono hsz))
          clear hrd b2
          go_wp2_with fail
          refine hxr.mono ?_
          rintro e w3 ⟨⟨g3, gc3, rfl, n3⟩, b3⟩
          dsimp only
          have N3 := hid n3
          have N2 := hid (n2.below b3)
          clear n2 n3
          have B3 := hid (B2.out.trans (b3.mono B2.out.size))
          clear hxr b3
          have his := is_nil w3 0
          rw [show ((0 : Int) == 0) = true from rfl] at his
          go_wp2_with fail
          refine his.mono ?_
          rintro e w4 ⟨rfl, b4⟩
          dsimp only
          have B4 := hid (B3.out.trans (b4.mono B3.out.size))
          have hsm := RefW.same_w (some ⟨g2, 0, none⟩) 256 gc2 l' (some ⟨g3, 0, none⟩) 256 gc3 l' w4 (N2.out.below b4) (N3.out.below b4)
          rw [decide_eq_true (rfl : l' = l')] at hsm
          clear his b4
          go_wp2_with fail
          refine hsm.mono ?_
          rintro e w5 ⟨rfl, b5⟩
          dsimp only
          have B5 := hid (B4.out.trans (b5.mono B4.out.size))
          have s5 := S.out.below B5.out
          have hfd := faulted_w dv _ n m D (p : Int) w5 s5.dev hf
          obtain ⟨_, _, _, _, _, c3, _⟩ := s5.ref.c
          have ca := s5.ref.ra.at_ p hpR
          rw [HFA.out] at ca
          generalize D.fa (p : Int) = fz at *
          clear hsm b5 s5
          go_wp2_with fail
          refine hfd.mono ?_
          rintro e w' ⟨rfl, rfl⟩
          dsimp only
          clear hfd
          go_wp2_with fail
          go_roundw
          case rel => exact ⟨(p : Int) + 1, by omega, by omega, by go_num, B5.out⟩
          case measure => simp [RowKit.intOf]; omega
        | error q =>
          have hrd := read_w bs dv _ n m D z wr SL.out.dev ((HB.below BEL.out).below HBL.out) hf
          have hxr := fun wz hb => rread_w z wz (SL.out.ref.below (w' := wz) hb) hf
          rw [hg] at hrd
          rw [← S.out.rel.get, hg] at hxr
          have HXR := hid hxr
          clear hg hxr
          obtain ⟨p, rfl⟩ : ∃ p : Nat, z = (p : Int) := ⟨z.toNat, by omega⟩
          have hpR : p < R.b := by rw [hrb.out]; omega
          have hfa : R.A p = D.fa (p : Int) := S.out.rel.A p hpR
          have hpb : ((p : Nat) : Int) < (R.b : Int) := by omega
          have HFA := hid hfa
          clear hfa
          go_wp2_with fail
          refine hrd.mono ?_
          rintro e w2 ⟨⟨y, hy, rfl⟩, b2⟩
          dsimp only
          have hxr := HXR.out w2 b2
          have B2 := hid (HBL.out.trans (b2.mono hsz))
          clear hrd b2
          go_wp2_with fail
          refine hxr.mono ?_
          rintro e w3 ⟨rfl, b3⟩
          dsimp only
          have B3 := hid (B2.out.trans (b3.mono B2.out.size))
          clear hxr b3
          have his := is_w bs w3 ((HBS.below BEL.out).below B3.out) _ y hy (101 + (q : Int))
          rw [beq_self_eq_true] at his
          go_wp2_with fail
          refine his.mono ?_
          rintro e w4 ⟨rfl, b4⟩
          dsimp only
          have B4 := hid (B3.out.trans (b4.mono B3.out.size))
          have hsm := RefW.same_w none 0 0 [] none 0 0 [] w4 (Nums.nil _ _) (Nums.nil _ _)
          rw [decide_eq_true (rfl : ([] : List Nat) = [])] at hsm
          clear his b4
          go_wp2_with fail
          refine hsm.mono ?_
          rintro e w5 ⟨rfl, b5⟩
          dsimp only
          have B5 := hid (B4.out.trans (b5.mono B4.out.size))
          have s5 := S.out.below B5.out
          have hfd := faulted_w dv _ n m D (p : Int) w5 s5.dev hf
          obtain ⟨_, _, _, _, _, c3, _⟩ := s5.ref.c
          have ca := s5.ref.ra.at_ p hpR
          rw [HFA.out] at ca
          generalize D.fa (p : Int) = fz at *
          clear hsm b5 s5
          go_wp2_with fail
          refine hfd.mono ?_
          rintro e w' ⟨rfl, rfl⟩
          dsimp only
          clear hfd
          go_wp2_with fail
          go_roundw
          case rel => exact ⟨(p : Int) + 1, by omega, by omega, by go_num, B5.out⟩
          case measure => simp [RowKit.intOf]; omega
      · have hi3 : (decide (0 ≤ z) && decide (z < (bk : Int))) = false := by
          rw [Bool.and_eq_false_iff, decide_eq_false_iff_not, decide_eq_false_iff_not]; omega
        by_cases h00 : 0 ≤ z
        · have hi4 : decide (z < (bk : Int)) = false := decide_eq_false (by omega)
          cases hg : D.get z with
          | ok l' =>
            have hrd := read_w bs dv _ n m D z wr SL.out.dev ((HB.below BEL.out).below HBL.out) hf
            have hxr := fun wz hb => rread_w z wz (SL.out.ref.below (w' := wz) hb) hf
            rw [hg] at hrd
            rw [← S.out.rel.get, hg] at hxr
            have HXR := hid hxr
            clear hg hxr
            have hfa : D.fa z = false := (S.out.rel.out z (by rw [hrb.out]; omega)).2
            have HFA := hid hfa
            clear hfa
            go_wp2_with fail
            refine hrd.mono ?_
            rintro e w2 ⟨⟨g2, gc2, rfl, n2, _⟩, b2⟩
            dsimp only
            have hxr := HXR.out w2 b2
            have B2 := hid (HBL.out.trans (b2.mono hsz))
            clear hrd b2
            go_wp2_with fail
            refine hxr.mono ?_
            rintro e w3 ⟨⟨g3, gc3, rfl, n3⟩, b3⟩
            dsimp only
            have N3 := hid n3
            have N2 := hid (n2.below b3)
            clear n2 n3
            have B3 := hid (B2.out.trans (b3.mono B2.out.size))
            clear hxr b3
            have his := is_nil w3 0
            rw [show ((0 : Int) == 0) = true from rfl] at his
            go_wp2_with fail
            refine his.mono ?_
            rintro e w4 ⟨rfl, b4⟩
            dsimp only
            have B4 := hid (B3.out.trans (b4.mono B3.out.size))
            have hsm := RefW.same_w (some ⟨g2, 0, none⟩) 256 gc2 l' (some ⟨g3, 0, none⟩) 256 gc3 l' w4 (N2.out.below b4) (N3.out.below b4)
            rw [decide_eq_true (rfl : l' = l')] at hsm
            clear his b4
            go_wp2_with fail
            refine hsm.mono ?_
            rintro e w5 ⟨rfl, b5⟩
            dsimp only
            have B5 := hid (B4.out.trans (b5.mono B4.out.size))
            have s5 := S.out.below B5.out
            have hfd := faulted_w dv _ n m D z w5 s5.dev hf
            rw [HFA.out] at hfd
            clear hsm b5 s5
            go_wp2_with fail
            refine hfd.mono ?_
            rintro e w' ⟨rfl, rfl⟩
            dsimp only
            clear hfd
            go_wp2_with fail
            go_roundw
            case rel => exact ⟨z + 1, by omega, by omega, by go_num, B5.out⟩
            case measure => simp [RowKit.intOf]; omega
          | error q =>
            have hrd := read_w bs dv _ n m D z wr SL.out.dev ((HB.below BEL.out).below HBL.out) hf
            have hxr := fun wz hb => rread_w z wz (SL.out.ref.below (w' := wz) hb) hf
            rw [hg] at hrd
            rw [← S.out.rel.get, hg] at hxr
            have HXR := hid hxr
            clear hg hxr
            have hfa : D.fa z = false := (S.out.rel.out z (by rw [hrb.out]; omega)).2
            have HFA := hid hfa
            clear hfa
            go_wp2_with fail
            refine hrd.mono ?_
            rintro e w2 ⟨⟨y, hy, rfl⟩, b2⟩
            dsimp only
            have hxr := HXR.out w2 b2
            have B2 := hid (HBL.out.trans (b2.mono hsz))
            clear hrd b2
            go_wp2_with fail
            refine hxr.mono ?_
            rintro e w3 ⟨rfl, b3⟩
            dsimp only
            have B3 := hid (B2.out.trans (b3.mono B2.out.size))
            clear hxr b3
            have his := is_w bs w3 ((HBS.below BEL.out).below B3.out) _ y hy (101 + (q : Int))
            rw [beq_self_eq_true] at his
            go_wp2_with fail
            refine his.mono ?_
            rintro e w4 ⟨rfl, b4⟩
            dsimp only
            have B4 := hid (B3.out.trans (b4.mono B3.out.size))
            have hsm := RefW.same_w none 0 0 [] none 0 0 [] w4 (Nums.nil _ _) (Nums.nil _ _)
            rw [decide_eq_true (rfl : ([] : List Nat) = [])] at hsm
            clear his b4
            go_wp2_with fail
            refine hsm.mono ?_
            rintro e w5 ⟨rfl, b5⟩
            dsimp only
            have B5 := hid (B4.out.trans (b5.mono B4.out.size))
            have s5 := S.out.below B5.out
            have hfd := faulted_w dv _ n m D z w5 s5.dev hf
            rw [HFA.out] at hfd
            clear hsm b5 s5
            go_wp2_with fail
            refine hfd.mono ?_
            rintro e w' ⟨rfl, rfl⟩
            dsimp only
            clear hfd
            go_wp2_with fail
            go_roundw
            case rel => exact ⟨z + 1, by omega, by omega, by go_num, B5.out⟩
            case measure => simp [RowKit.intOf]; omega
        · have hi4 : decide (0 ≤ z) = false := decide_eq_false h00
          cases hg : D.get z with
          | ok l' =>
            have hrd := read_w bs dv _ n m D z wr SL.out.dev ((HB.below BEL.out).below HBL.out) hf
            have hxr := fun wz hb => rread_w z wz (SL.out.ref.below (w' := wz) hb) hf
            rw [hg] at hrd
            rw [← S.out.rel.get, hg] at hxr
            have HXR := hid hxr
            clear hg hxr
            have hfa : D.fa z = false := (S.out.rel.out z (by rw [hrb.out]; omega)).2
            have HFA := hid hfa
            clear hfa
            go_wp2_with fail
            refine hrd.mono ?_
            rintro e w2 ⟨⟨g2, gc2, rfl, n2, _⟩, b2⟩
            dsimp only
            have hxr := HXR.out w2 b2
            have B2 := hid (HBL.out.trans (b2.mono hsz))
            clear hrd b2
            go_wp2_with fail
            refine hxr.mono ?_
            rintro e w3 ⟨⟨g3, gc3, rfl, n3⟩, b3⟩
            dsimp only
            have N3 := hid n3
            have N2 := hid (n2.below b3)
            clear n2 n3
            have B3 := hid (B2.out.trans (b3.mono B2.out.size))
            clear hxr b3
            have his := is_nil w3 0
            rw [show ((0 : Int) == 0) = true from rfl] at his
            go_wp2_with fail
            refine his.mono ?_
            rintro e w4 ⟨rfl, b4⟩
            dsimp only
            have B4 := hid (B3.out.trans (b4.mono B3.out.size))
            have hsm := RefW.same_w (some ⟨g2, 0, none⟩) 256 gc2 l' (some ⟨g3, 0, none⟩) 256 gc3 l' w4 (N2.out.below b4) (N3.out.below b4)
            rw [decide_eq_true (rfl : l' = l')] at hsm
            clear his b4
            go_wp2_with fail
            refine hsm.mono ?_
            rintro e w5 ⟨rfl, b5⟩
            dsimp only
            have B5 := hid (B4.out.trans (b5.mono B4.out.size))
            have s5 := S.out.below B5.out
            have hfd := faulted_w dv _ n m D z w5 s5.dev hf
            rw [HFA.out] at hfd
            clear hsm b5 s5
            go_wp2_with fail
            refine hfd.mono ?_
            rintro e w' ⟨rfl, rfl⟩
            dsimp only
            clear hfd
            go_wp2_with fail
            go_roundw
            case rel => exact ⟨z + 1, by omega, by omega, by go_num, B5.out⟩
            case measure => simp [RowKit.intOf]; omega
          | error q =>
            have hrd := read_w bs dv _ n m D z wr SL.out.dev ((HB.below BEL.out).below HBL.out) hf
            have hxr := fun wz hb => rread_w z wz (SL.out.ref.below (w' := wz) hb) hf
            rw [hg] at hrd
            rw [← S.out.rel.get, hg] at hxr
            have HXR := hid hxr
            clear hg hxr
            have hfa : D.fa z = false := (S.out.rel.out z (by rw [hrb.out]; omega)).2
            have HFA := hid hfa
            clear hfa
            go_wp2_with fail
            refine hrd.mono ?_
            rintro e w2 ⟨⟨y, hy, rfl⟩, b2⟩
            dsimp only
            have hxr := HXR.out w2 b2
            have B2 := hid (HBL.out.trans (b2.mono hsz))
            clear hrd b2
            go_wp2_with fail
            refine hxr.mono ?_
            rintro e w3 ⟨rfl, b3⟩
            dsimp only
            have B3 := hid (B2.out.trans (b3.mono B2.out.size))
            clear hxr b3
            have his := is_w bs w3 ((HBS.below BEL.out).below B3.out) _ y hy (101 + (q : Int))
            rw [beq_self_eq_true] at his
            go_wp2_with fail
            refine his.mono ?_
            rintro e w4 ⟨rfl, b4⟩
            dsimp only
            have B4 := hid (B3.out.trans (b4.mono B3.out.size))
            have hsm := RefW.same_w none 0 0 [] none 0 0 [] w4 (Nums.nil _ _) (Nums.nil _ _)
            rw [decide_eq_true (rfl : ([] : List Nat) = [])] at hsm
            clear his b4
            go_wp2_with fail
            refine hsm.mono ?_
            rintro e w5 ⟨rfl, b5⟩
            dsimp only
            have B5 := hid (B4.out.trans (b5.mono B4.out.size))
            have s5 := S.out.below B5.out
            have hfd := faulted_w dv _ n m D z w5 s5.dev hf
            rw [HFA.out] at hfd
            clear hsm b5 s5
            go_wp2_with fail
            refine hfd.mono ?_
            rintro e w' ⟨rfl, rfl⟩
            dsimp only
            clear hfd
            go_wp2_with fail
            go_roundw
            case rel => exact ⟨z + 1, by omega, by omega, by go_num, B5.out⟩
            case measure => simp [RowKit.intOf]; omega
    · have hze : decide (z ≤ (bk : Int)) = false := decide_eq_false hlt
      clear hlt
      go_wp2_with fail
      refine HA1.out _ _ ?_
      refine last_w bs HB n64 SL.out HBK.out (BEL.out.trans (HBL.out.mono BEL.out.size)) (C.out.below HBL.out) HRR.out HHAD.out ?_
      intros
      rename_i w8 hb8
      exact HQ.out _ _ _ _ _ _ _ _ _ _ _ _ _ _ _ _ _ _ _ _ _ _ _ _ _ _ _ _ _ _ _ _ _ _ _ _ _ _ _ _ _ _ _ _ _ _ _ _ _ _ _ _ _ _ _ _ _ _ _ _ _ _ _ _ _ _ _ _ _ _ _ _ _ _ _ _ _ _ _ _ _ _ _ _ _ _ _ _ _ _ _ _ _ _ _ _ _ _ _ _ _ _ _ _ _ _ _ _ _ _ _ _ _ _ _ _ _ _ _ _ _ _ _ _ _ _ _ _ _ _ _ _ _ _ _ _ _ _ _ _ _ _ _ _ _ _ _ _ _ _ _ _ _ _ _ _ _ _ _ _ _ _ _ _ _ _ _ _ _ _ _ _ _ _ _ _ _ _ _ _ _ _ _ _ _ _ _ _ _ _ _ _ _ _ _ _ _ _ _ _ _ _ _ _ _ _ _ _ _ _ _ _ _ _ _ _ _ _ _ _ _ _ _ _ _ _ _ _ _ _ _ _ _ _ _ _ _ _ _ _ _ _ _ _ _ _ _ _ _ _ _ _ _ _ _ _ _ _ (HBL.out.trans (hb8.mono hsz))
end
end Go.Proofs.YtagbnacffiagcaaDoor.devPlays
