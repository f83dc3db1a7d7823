/- The loop of PairReads: a mending; the first copy false, the second false. -/
import Derived.Test.YtagbnacffiagcaaDoorWPairReadsA
namespace Go.Proofs.YtagbnacffiagcaaDoor.pairReads
open Go Go.RowKit Go.Maps Go.Proofs.YtagbnacffiagcaaDoor.Mem Go.Proofs.YtagbnacffiagcaaDoor.MapsW Go.Proofs.YtagbnacffiagcaaDoor.SeeW Go.Proofs.YtagbnacffiagcaaDoor.DevG Go.Proofs.YtagbnacffiagcaaDoor.PairG Go.Proofs.YtagbnacffiagcaaDoor.BlobW
set_option linter.unusedVariables false
set_option maxRecDepth 1000000
section
variable {a0 : Option Addr} {len0 cap0 : Nat} {w1 wr : World} {p hv i n : Nat} {m : Mp} {D : Dv} {c : Nat} {F : Nat → Option (List Nat)} {b o : Nat} {K N A : Int} {T : Nat} {sa : Option Addr} {sl sc : Nat} {l : List Nat} {c1 c3 c20 c21 c22 c23 c24 c25 c26 c27 c28 c29 c30 c31 c32 c33 c34 c35 c36 u2 u9 u10 u11 u12 u13 u14 u15 u16 u17 u18 u19 u37 u38 u39 u40 u41 u42 u43 u44 u45 u46 u47 u48 u49 u50 u51 u52 u53 u54 u55 u56 u57 u58 u59 u60 u61 u62 u63 u64 u65 u66 u67 u68 u69 u70 u71 u72 u73 u74 u75 u76 u77 u78 u79 u80 u81 u82 u83 u84 u85 u86 u87 u88 u89 u90 u91 u92 u93 u94 u95 u96 u97 u98 u99 u100 u101 u102 u103 u104 u105 u106 u107 u108 u109 u110 u111 u112 u113 u114 u115 u116 u117 u118 u119 u120 u121 u122 u123 u124 u125 u126 u127 u128 u129 u130 u131 u132 u133 u134 u135 u136 u137 u138 u139 u140 u141 u142 u143 u144 u145 u146 u147 u148 u149 u150 u151 u152 u153 u154 u155 u156 u157 u158 u159 u160 u161 u162 u163 u164 u165 u166 u167 u168 u169 u170 u171 u172 u173 u174 u175 u176 u177 u178 u179 u180 u181 u182 u183 u184 u185 u186 u187 u188 u189 u190 u191 u192 u193 u194 u195 u196 u197 u198 u199 u200 u201 u202 u203 u204 u205 u206 u207 u208 u209 u210 u211 u212 u213 u214 u215 u216 u217 u218 u219 u220 u221 u222 u223 u224 u225 u226 u227 u228 u229 u230 u231 u232 u233 u234 u235 u236 u237 u238 u239 : Value} {Q0 : Exit → Act → World → Prop}
set_option maxHeartbeats 16000000 in
theorem k7ff (bs : List Addr) (HB : Ev w1 w1.heap.size bs five) (HBS : Bs w1 bs) (P : List Nat) (H : In a0 len0 w1 wr p hv i n m D c F b o K N A T sa sl sc l) (q1 : (K == 1) = false) (q2 : (K == 2) = false) (q3 : (K == 3) = false) (q4 : (K == 4) = false) (q5 : (K == 5) = false) (hF : F (N % 6).toNat = some P) (hsl : sl ≤ 256) (hr1 : rd D (N % 6).toNat P = false) (hr2 : rd D ((N % 6).toNat + 75) P = false) :
    Code.wp Tryd.prog body (Exit.then (fun a' w'' => WI a0 len0 cap0 w1 p hv c1 c3 c20 c21 c22 c23 c24 c25 c26 c27 c28 c29 c30 c31 c32 c33 c34 c35 c36 a' w'' ∧ Wmu len0 a' w'' < Wmu len0 ⟨#[.slice a0 len0 cap0, c1, u2, c3, ptr p, ptr (w1.heap.size + 5), .pointer (some ⟨hv, 0, none⟩), .pointer (some ⟨hv + 1, 0, none⟩), .int .i64 (i : Int), u9, u10, u11, u12, u13, u14, u15, u16, u17, u18, u19, c20, c21, c22, c23, c24, c25, c26, c27, c28, c29, c30, c31, c32, c33, c34, c35, c36, u37, u38, u39, u40, u41, u42, u43, u44, u45, u46, u47, u48, u49, u50, u51, u52, u53, u54, u55, u56, u57, u58, u59, u60, u61, u62, u63, u64, u65, u66, u67, u68, u69, u70, u71, u72, u73, u74, u75, u76, u77, u78, u79, u80, u81, u82, u83, u84, u85, u86, u87, u88, u89, u90, u91, u92, u93, u94, u95, u96, u97, u98, u99, u100, u101, u102, u103, u104, u105, u106, u107, u108, u109, u110, u111, u112, u113, u114, u115, u116, u117, u118, u119, u120, u121, u122, u123, u124, u125, u126, u127, u128, u129, u130, u131, u132, u133, u134, u135, u136, u137, u138, u139, u140, u141, u142, u143, u144, u145, u146, u147, u148, u149, u150, u151, u152, u153, u154, u155, u156, u157, u158, u159, u160, u161, u162, u163, u164, u165, u166, u167, u168, u169, u170, u171, u172, u173, u174, u175, u176, u177, u178, u179, u180, u181, u182, u183, u184, u185, u186, u187, u188, u189, u190, u191, u192, u193, u194, u195, u196, u197, u198, u199, u200, u201, u202, u203, u204, u205, u206, u207, u208, u209, u210, u211, u212, u213, u214, u215, u216, u217, u218, u219, u220, u221, u222, u223, u224, u225, u226, u227, u228, u229, u230, u231, u232, u233, u234, u235, u236, u237, u238, u239], []⟩ wr) Q0) ⟨#[.slice a0 len0 cap0, c1, u2, c3, ptr p, ptr (w1.heap.size + 5), .pointer (some ⟨hv, 0, none⟩), .pointer (some ⟨hv + 1, 0, none⟩), .int .i64 (i : Int), u9, u10, u11, u12, u13, u14, u15, u16, u17, u18, u19, c20, c21, c22, c23, c24, c25, c26, c27, c28, c29, c30, c31, c32, c33, c34, c35, c36, u37, u38, u39, u40, u41, u42, u43, u44, u45, u46, u47, u48, u49, u50, u51, u52, u53, u54, u55, u56, u57, u58, u59, u60, u61, u62, u63, u64, u65, u66, u67, u68, u69, u70, u71, u72, u73, u74, u75, u76, u77, u78, u79, u80, u81, u82, u83, u84, u85, u86, u87, u88, u89, u90, u91, u92, u93, u94, u95, u96, u97, u98, u99, u100, u101, u102, u103, u104, u105, u106, u107, u108, u109, u110, u111, u112, u113, u114, u115, u116, u117, u118, u119, u120, u121, u122, u123, u124, u125, u126, u127, u128, u129, u130, u131, u132, u133, u134, u135, u136, u137, u138, u139, u140, u141, u142, u143, u144, u145, u146, u147, u148, u149, u150, u151, u152, u153, u154, u155, u156, u157, u158, u159, u160, u161, u162, u163, u164, u165, u166, u167, u168, u169, u170, u171, u172, u173, u174, u175, u176, u177, u178, u179, u180, u181, u182, u183, u184, u185, u186, u187, u188, u189, u190, u191, u192, u193, u194, u195, u196, u197, u198, u199, u200, u201, u202, u203, u204, u205, u206, u207, u208, u209, u210, u211, u212, u213, u214, u215, u216, u217, u218, u219, u220, u221, u222, u223, u224, u225, u226, u227, u228, u229, u230, u231, u232, u233, u234, u235, u236, u237, u238, u239], []⟩ wr := by
  conv => arg 2; whnf
  have MUI := hid (show Wmu len0 ⟨#[.slice a0 len0 cap0, c1, u2, c3, ptr p, ptr (w1.heap.size + 5), .pointer (some ⟨hv, 0, none⟩), .pointer (some ⟨hv + 1, 0, none⟩), .int .i64 (i : Int), u9, u10, u11, u12, u13, u14, u15, u16, u17, u18, u19, c20, c21, c22, c23, c24, c25, c26, c27, c28, c29, c30, c31, c32, c33, c34, c35, c36, u37, u38, u39, u40, u41, u42, u43, u44, u45, u46, u47, u48, u49, u50, u51, u52, u53, u54, u55, u56, u57, u58, u59, u60, u61, u62, u63, u64, u65, u66, u67, u68, u69, u70, u71, u72, u73, u74, u75, u76, u77, u78, u79, u80, u81, u82, u83, u84, u85, u86, u87, u88, u89, u90, u91, u92, u93, u94, u95, u96, u97, u98, u99, u100, u101, u102, u103, u104, u105, u106, u107, u108, u109, u110, u111, u112, u113, u114, u115, u116, u117, u118, u119, u120, u121, u122, u123, u124, u125, u126, u127, u128, u129, u130, u131, u132, u133, u134, u135, u136, u137, u138, u139, u140, u141, u142, u143, u144, u145, u146, u147, u148, u149, u150, u151, u152, u153, u154, u155, u156, u157, u158, u159, u160, u161, u162, u163, u164, u165, u166, u167, u168, u169, u170, u171, u172, u173, u174, u175, u176, u177, u178, u179, u180, u181, u182, u183, u184, u185, u186, u187, u188, u189, u190, u191, u192, u193, u194, u195, u196, u197, u198, u199, u200, u201, u202, u203, u204, u205, u206, u207, u208, u209, u210, u211, u212, u213, u214, u215, u216, u217, u218, u219, u220, u221, u222, u223, u224, u225, u226, u227, u228, u229, u230, u231, u232, u233, u234, u235, u236, u237, u238, u239], []⟩ wr = len0 - i from rfl)
  obtain ⟨ha0, hi, hl60, s, hDb, hn, hc, hcc, hv0, hpr, hdr, hph, hdh⟩ := H
  subst ha0
  obtain ⟨x0, x1, x2, x3, x4⟩ := (⟨hdr.c0, hdr.c1, hdr.c2, hdr.c3, hdr.c4⟩ : _ ∧ _ ∧ _ ∧ _ ∧ _)
  obtain ⟨hcl1, hcl2⟩ := hdr.nums.bound
  have d2 : decide ((256 : Int) < (sl : Int)) = false := decide_eq_false (by omega)
  have hk64 := hdr.k64
  have hn64 := hdr.n64
  have ha64 := hdr.a64
  have ht32 := hdr.t32
  have hlb : Crc.Bytes l := hdr.bytes
  have bx := (Below.refl wr.heap.size wr).alloc (Nat.le_refl _) (.cells #[.int .i64 K, .int .i64 N, .int .i64 A, .int .u32 (T : Int), .slice sa sl sc] 35)
  have S4 := hid (s.below bx)
  have V4 := hid (hv0.below bx)
  have N4 := hid (hdr.nums.below bx)
  have T4 : Tc (wr.alloc (.cells #[.int .i64 K, .int .i64 N, .int .i64 A, .int .u32 (T : Int), .slice sa sl sc] 35)) wr.heap.size K N A T sa sl sc := alloc_at rfl _
  have htp : wr.heap.size ≠ p ∧ wr.heap.size ≠ w1.heap.size + 5 := by have := s.plt; have := s.dlt; omega
  have hvt : hv < wr.heap.size ∧ hv + 1 < wr.heap.size := ⟨hv0.alt, hv0.rlt⟩
  have HPR := hid hpr
  have HN := hid hn
  clear hdr hv0 s bx hpr hn
  go_wp2_with fail
  refine (NumW.number_w N 6 _ (by decide) (by decide) hn64.1 hn64.2).mono ?_
  rintro e w' ⟨rfl, rfl⟩
  obtain ⟨q, hq⟩ : ∃ q : Nat, N % 6 = q := ⟨(N % 6).toNat, by have := Int.emod_nonneg N (b := 6) (by omega); omega⟩
  have hq6 : q < 6 := by have := Int.emod_lt_of_pos N (b := 6) (by omega); omega
  rw [hq]
  have hqt : (N % 6).toNat = q := by omega
  rw [hqt] at hF hr1 hr2
  clear hq hqt hn64 x0 x1 x2 x3 x4
  generalize wr.alloc (.cells #[.int .i64 K, .int .i64 N, .int .i64 A, .int .u32 (T : Int), .slice sa sl sc] 35) = w4 at *
  generalize wr.heap.size = tb at *
  obtain ⟨x0, x1, x2, x3, x4⟩ := tc T4
  have T4' := hid T4
  obtain ⟨g0, cp0, y1, np4, y2, y3⟩ := V4.out.has q P (by omega) hF
  have NP := hid np4
  clear np4
  clear T4
  have HPR1 := hid (HPR.out q P (by omega) hF)
  have ke : ∀ (w : World) (x : Addr), (binOp .eql 28 (.slice (some x) 256 cp0) (.slice none 0 0)).run Tryd.prog w = .ok (.bool false) w := fun w x => Lib.run_eql_slice_nil (P := Tryd.prog) w 28 5 (some x) 256 cp0 0 0 Tryd.underlying28
  have gd1 := fun wz (hb : Below w4.heap.size w4 wz) => good_w bs (w1.heap.size + 5) w1.heap.size n m D q (some ⟨g0, 0, none⟩) 256 cp0 P wz (S4.out.below hb).k.dev ((S4.out.below hb).bs HB) (by omega) (by omega) (NP.out.below hb) (S4.out.below hb).k.up
  have gd2 := fun wz (hb : Below w4.heap.size w4 wz) => good_w bs (w1.heap.size + 5) w1.heap.size n m D (q + 75) (some ⟨g0, 0, none⟩) 256 cp0 P wz (S4.out.below hb).k.dev ((S4.out.below hb).bs HB) (by omega) (by omega) (NP.out.below hb) (S4.out.below hb).k.up
  rw [show decide (D.read (q : Int) = some P) = false from hr1] at gd1
  rw [show decide (D.read ((q + 75 : Nat) : Int) = some P) = false from hr2] at gd2
  rw [show ((q + 75 : Nat) : Int) = (q : Int) + 75 by omega] at gd2
  go_wp2_with fail
  refine (gd1 _ (Below.refl _ _)).mono ?_
  rintro e w5 ⟨rfl, b5⟩
  have T5 := hid ((b5.block tb (Array.getElem?_eq_some_iff.1 T4'.out).1).trans T4'.out : Tc w5 tb K N A T sa sl sc)
  obtain ⟨x0, x1, x2, x3, x4⟩ := tc T5.out
  replace y1 := kept b5 y1
  go_wp2_with fail
  refine (gd2 _ b5).mono ?_
  rintro e w6 ⟨rfl, b6⟩
  have B6 := hid (b5.trans (b6.mono b5.size))
  have S6 := hid (S4.out.below B6.out)
  have V6 := hid (V4.out.below B6.out)
  have T6 := hid ((b6.block tb (Array.getElem?_eq_some_iff.1 T5.out).1).trans T5.out : Tc w6 tb K N A T sa sl sc)
  have NP6 := hid (NP.out.below B6.out)
  obtain ⟨x0, x1, x2, x3, x4⟩ := tc T6.out
  replace y1 := kept b6 y1
  have y2' := kept B6.out y2
  have y3' := kept B6.out y3
  clear b5 b6 T5 T4' S4 V4 gd1 gd2 N4 y2 y3
  have hk := HN.out
  have hrp := HPR1.out.mendP (c := c)
  rw [hr1, hr2] at hrp
  simp only [Bool.false_eq_true, if_false] at hrp
  have hrd := ses_mend (bs := bs) q (Crc.sum P) w6 S6.out HB (by omega) (by omega) (by omega) (by omega)
  rw [hrp] at hrd
  clear hrp
  go_wp2_with fail
  refine hrd.mono ?_
  rintro e w7 ⟨⟨aI, haI, rfl⟩, s7, u7⟩
  have V7 := hid (V6.out.turn S6.out u7 (by omega) (by omega) (by omega) (by omega))
  have t7 := S6.out.cells u7 T6.out htp.1 htp.2
  have S7 := hid s7
  clear s7 hrd u7 S6 V6 NP6 T6 y1 y2' y3' x0 x1 x2 x3 x4
  obtain ⟨x0, x1, x2, x3, x4⟩ := tc t7
  clear t7
  go_wp2_with fail
  refine ⟨?_, ?_⟩
  rotate_left
  · rw [MUI.out]
    show len0 - (RowKit.intOf (.int .i64 ((i : Int) + 1))).toNat < len0 - i
    simp [RowKit.intOf]
    omega
  unfold WI
  refine ⟨_, _, _, _, _, _, _, _, _, _, _, _, _, _, _, _, _, _, _, _, _, _, _, _, _, _, _, _, _, _, _, _, _, _, _, _, _, _, _, _, _, _, _, _, _, _, _, _, _, _, _, _, _, _, _, _, _, _, _, _, _, _, _, _, _, _, _, _, _, _, _, _, _, _, _, _, _, _, _, _, _, _, _, _, _, _, _, _, _, _, _, _, _, _, _, _, _, _, _, _, _, _, _, _, _, _, _, _, _, _, _, _, _, _, _, _, _, _, _, _, _, _, _, _, _, _, _, _, _, _, _, _, _, _, _, _, _, _, _, _, _, _, _, _, _, _, _, _, _, _, _, _, _, _, _, _, _, _, _, _, _, _, _, _, _, _, _, _, _, _, _, _, _, _, _, _, _, _, _, _, _, _, _, _, _, _, _, _, _, _, _, _, _, _, _, _, _, _, _, _, _, _, _, _, _, _, _, _, _, _, _, _, _, _, _, _, ⟨i + 1, by omega, by go_num, ?_⟩, rfl⟩
  exact ⟨n + 1, m, D, c, _, S7.out, hDb, by omega, by omega, by omega, V7.out, HPR.out⟩
end
end Go.Proofs.YtagbnacffiagcaaDoor.pairReads
