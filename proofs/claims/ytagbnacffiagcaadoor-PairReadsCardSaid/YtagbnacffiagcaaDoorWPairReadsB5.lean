/- The loop of PairReads: a read of what was not written. -/
import Derived.Test.YtagbnacffiagcaaDoorWPairReadsA
namespace Go.Proofs.YtagbnacffiagcaaDoor.pairReads
open Go Go.RowKit Go.Maps Go.Proofs.YtagbnacffiagcaaDoor.Mem Go.Proofs.YtagbnacffiagcaaDoor.MapsW Go.Proofs.YtagbnacffiagcaaDoor.SeeW Go.Proofs.YtagbnacffiagcaaDoor.DevG Go.Proofs.YtagbnacffiagcaaDoor.PairG Go.Proofs.YtagbnacffiagcaaDoor.BlobW
set_option linter.unusedVariables false
set_option maxRecDepth 1000000
section
variable {a0 : Option Addr} {len0 cap0 : Nat} {w1 wr : World} {p hv i n : Nat} {m : Mp} {D : Dv} {c : Nat} {F : Nat → Option (List Nat)} {b o : Nat} {K N A : Int} {T : Nat} {sa : Option Addr} {sl sc : Nat} {l : List Nat} {c1 c3 c20 c21 c22 c23 c24 c25 c26 c27 c28 c29 c30 c31 c32 c33 c34 c35 c36 u2 u9 u10 u11 u12 u13 u14 u15 u16 u17 u18 u19 u37 u38 u39 u40 u41 u42 u43 u44 u45 u46 u47 u48 u49 u50 u51 u52 u53 u54 u55 u56 u57 u58 u59 u60 u61 u62 u63 u64 u65 u66 u67 u68 u69 u70 u71 u72 u73 u74 u75 u76 u77 u78 u79 u80 u81 u82 u83 u84 u85 u86 u87 u88 u89 u90 u91 u92 u93 u94 u95 u96 u97 u98 u99 u100 u101 u102 u103 u104 u105 u106 u107 u108 u109 u110 u111 u112 u113 u114 u115 u116 u117 u118 u119 u120 u121 u122 u123 u124 u125 u126 u127 u128 u129 u130 u131 u132 u133 u134 u135 u136 u137 u138 u139 u140 u141 u142 u143 u144 u145 u146 u147 u148 u149 u150 u151 u152 u153 u154 u155 u156 u157 u158 u159 u160 u161 u162 u163 u164 u165 u166 u167 u168 u169 u170 u171 u172 u173 u174 u175 u176 u177 u178 u179 u180 u181 u182 u183 u184 u185 u186 u187 u188 u189 u190 u191 u192 u193 u194 u195 u196 u197 u198 u199 u200 u201 u202 u203 u204 u205 u206 u207 u208 u209 u210 u211 u212 u213 u214 u215 u216 u217 u218 u219 u220 u221 u222 u223 u224 u225 u226 u227 u228 u229 u230 u231 u232 u233 u234 u235 u236 u237 u238 u239 : Value} {Q0 : Exit → Act → World → Prop}
set_option maxHeartbeats 16000000 in
theorem k5 (H : In a0 len0 w1 wr p hv i n m D c F b o K N A T sa sl sc l) (q1 : (K == 1) = false) (q2 : (K == 2) = false) (q3 : (K == 3) = false) (q4 : (K == 4) = false) (hF : F (N % 6).toNat = none) (hsl : sl ≤ 256) :
    Code.wp Tryd.prog body (Exit.then (fun a' w'' => WI a0 len0 cap0 w1 p hv c1 c3 c20 c21 c22 c23 c24 c25 c26 c27 c28 c29 c30 c31 c32 c33 c34 c35 c36 a' w'' ∧ Wmu len0 a' w'' < Wmu len0 ⟨#[.slice a0 len0 cap0, c1, u2, c3, ptr p, ptr (w1.heap.size + 5), .pointer (some ⟨hv, 0, none⟩), .pointer (some ⟨hv + 1, 0, none⟩), .int .i64 (i : Int), u9, u10, u11, u12, u13, u14, u15, u16, u17, u18, u19, c20, c21, c22, c23, c24, c25, c26, c27, c28, c29, c30, c31, c32, c33, c34, c35, c36, u37, u38, u39, u40, u41, u42, u43, u44, u45, u46, u47, u48, u49, u50, u51, u52, u53, u54, u55, u56, u57, u58, u59, u60, u61, u62, u63, u64, u65, u66, u67, u68, u69, u70, u71, u72, u73, u74, u75, u76, u77, u78, u79, u80, u81, u82, u83, u84, u85, u86, u87, u88, u89, u90, u91, u92, u93, u94, u95, u96, u97, u98, u99, u100, u101, u102, u103, u104, u105, u106, u107, u108, u109, u110, u111, u112, u113, u114, u115, u116, u117, u118, u119, u120, u121, u122, u123, u124, u125, u126, u127, u128, u129, u130, u131, u132, u133, u134, u135, u136, u137, u138, u139, u140, u141, u142, u143, u144, u145, u146, u147, u148, u149, u150, u151, u152, u153, u154, u155, u156, u157, u158, u159, u160, u161, u162, u163, u164, u165, u166, u167, u168, u169, u170, u171, u172, u173, u174, u175, u176, u177, u178, u179, u180, u181, u182, u183, u184, u185, u186, u187, u188, u189, u190, u191, u192, u193, u194, u195, u196, u197, u198, u199, u200, u201, u202, u203, u204, u205, u206, u207, u208, u209, u210, u211, u212, u213, u214, u215, u216, u217, u218, u219, u220, u221, u222, u223, u224, u225, u226, u227, u228, u229, u230, u231, u232, u233, u234, u235, u236, u237, u238, u239], []⟩ wr) Q0) ⟨#[.slice a0 len0 cap0, c1, u2, c3, ptr p, ptr (w1.heap.size + 5), .pointer (some ⟨hv, 0, none⟩), .pointer (some ⟨hv + 1, 0, none⟩), .int .i64 (i : Int), u9, u10, u11, u12, u13, u14, u15, u16, u17, u18, u19, c20, c21, c22, c23, c24, c25, c26, c27, c28, c29, c30, c31, c32, c33, c34, c35, c36, u37, u38, u39, u40, u41, u42, u43, u44, u45, u46, u47, u48, u49, u50, u51, u52, u53, u54, u55, u56, u57, u58, u59, u60, u61, u62, u63, u64, u65, u66, u67, u68, u69, u70, u71, u72, u73, u74, u75, u76, u77, u78, u79, u80, u81, u82, u83, u84, u85, u86, u87, u88, u89, u90, u91, u92, u93, u94, u95, u96, u97, u98, u99, u100, u101, u102, u103, u104, u105, u106, u107, u108, u109, u110, u111, u112, u113, u114, u115, u116, u117, u118, u119, u120, u121, u122, u123, u124, u125, u126, u127, u128, u129, u130, u131, u132, u133, u134, u135, u136, u137, u138, u139, u140, u141, u142, u143, u144, u145, u146, u147, u148, u149, u150, u151, u152, u153, u154, u155, u156, u157, u158, u159, u160, u161, u162, u163, u164, u165, u166, u167, u168, u169, u170, u171, u172, u173, u174, u175, u176, u177, u178, u179, u180, u181, u182, u183, u184, u185, u186, u187, u188, u189, u190, u191, u192, u193, u194, u195, u196, u197, u198, u199, u200, u201, u202, u203, u204, u205, u206, u207, u208, u209, u210, u211, u212, u213, u214, u215, u216, u217, u218, u219, u220, u221, u222, u223, u224, u225, u226, u227, u228, u229, u230, u231, u232, u233, u234, u235, u236, u237, u238, u239], []⟩ wr := by
  conv => arg 2; whnf
  have MUI := hid (show Wmu len0 ⟨#[.slice a0 len0 cap0, c1, u2, c3, ptr p, ptr (w1.heap.size + 5), .pointer (some ⟨hv, 0, none⟩), .pointer (some ⟨hv + 1, 0, none⟩), .int .i64 (i : Int), u9, u10, u11, u12, u13, u14, u15, u16, u17, u18, u19, c20, c21, c22, c23, c24, c25, c26, c27, c28, c29, c30, c31, c32, c33, c34, c35, c36, u37, u38, u39, u40, u41, u42, u43, u44, u45, u46, u47, u48, u49, u50, u51, u52, u53, u54, u55, u56, u57, u58, u59, u60, u61, u62, u63, u64, u65, u66, u67, u68, u69, u70, u71, u72, u73, u74, u75, u76, u77, u78, u79, u80, u81, u82, u83, u84, u85, u86, u87, u88, u89, u90, u91, u92, u93, u94, u95, u96, u97, u98, u99, u100, u101, u102, u103, u104, u105, u106, u107, u108, u109, u110, u111, u112, u113, u114, u115, u116, u117, u118, u119, u120, u121, u122, u123, u124, u125, u126, u127, u128, u129, u130, u131, u132, u133, u134, u135, u136, u137, u138, u139, u140, u141, u142, u143, u144, u145, u146, u147, u148, u149, u150, u151, u152, u153, u154, u155, u156, u157, u158, u159, u160, u161, u162, u163, u164, u165, u166, u167, u168, u169, u170, u171, u172, u173, u174, u175, u176, u177, u178, u179, u180, u181, u182, u183, u184, u185, u186, u187, u188, u189, u190, u191, u192, u193, u194, u195, u196, u197, u198, u199, u200, u201, u202, u203, u204, u205, u206, u207, u208, u209, u210, u211, u212, u213, u214, u215, u216, u217, u218, u219, u220, u221, u222, u223, u224, u225, u226, u227, u228, u229, u230, u231, u232, u233, u234, u235, u236, u237, u238, u239], []⟩ wr = len0 - i from rfl)
  obtain ⟨ha0, hi, hl60, s, hDb, hn, hc, hcc, hv0, hpr, hdr, hph, hdh⟩ := H
  subst ha0
  obtain ⟨x0, x1, x2, x3, x4⟩ := (⟨hdr.c0, hdr.c1, hdr.c2, hdr.c3, hdr.c4⟩ : _ ∧ _ ∧ _ ∧ _ ∧ _)
  obtain ⟨hcl1, hcl2⟩ := hdr.nums.bound
  have d2 : decide ((256 : Int) < (sl : Int)) = false := decide_eq_false (by omega)
  have hk64 := hdr.k64
  have hn64 := hdr.n64
  have ha64 := hdr.a64
  have ht32 := hdr.t32
  have hlb : Crc.Bytes l := hdr.bytes
  have bx := (Below.refl wr.heap.size wr).alloc (Nat.le_refl _) (.cells #[.int .i64 K, .int .i64 N, .int .i64 A, .int .u32 (T : Int), .slice sa sl sc] 35)
  have S4 := hid (s.below bx)
  have V4 := hid (hv0.below bx)
  have N4 := hid (hdr.nums.below bx)
  have T4 : Tc (wr.alloc (.cells #[.int .i64 K, .int .i64 N, .int .i64 A, .int .u32 (T : Int), .slice sa sl sc] 35)) wr.heap.size K N A T sa sl sc := alloc_at rfl _
  have htp : wr.heap.size ≠ p ∧ wr.heap.size ≠ w1.heap.size + 5 := by have := s.plt; have := s.dlt; omega
  have hvt : hv < wr.heap.size ∧ hv + 1 < wr.heap.size := ⟨hv0.alt, hv0.rlt⟩
  have HPR := hid hpr
  have HN := hid hn
  clear hdr hv0 s bx hpr hn
  go_wp2_with fail
  refine (NumW.number_w N 6 _ (by decide) (by decide) hn64.1 hn64.2).mono ?_
  rintro e w' ⟨rfl, rfl⟩
  obtain ⟨q, hq⟩ : ∃ q : Nat, N % 6 = q := ⟨(N % 6).toNat, by have := Int.emod_nonneg N (b := 6) (by omega); omega⟩
  have hq6 : q < 6 := by have := Int.emod_lt_of_pos N (b := 6) (by omega); omega
  rw [hq]
  have hqt : (N % 6).toNat = q := by omega
  rw [hqt] at hF
  clear hq hqt hn64 x0 x1 x2 x3 x4
  generalize wr.alloc (.cells #[.int .i64 K, .int .i64 N, .int .i64 A, .int .u32 (T : Int), .slice sa sl sc] 35) = w4 at *
  generalize wr.heap.size = tb at *
  obtain ⟨x0, x1, x2, x3, x4⟩ := tc T4
  have T4' := hid T4
  clear T4
  have hno := V4.out.no q (by omega) hF
  have hk := HN.out
  have ke : ∀ w, (binOp .eql 28 (.slice none 0 0) (.slice none 0 0)).run Tryd.prog w = .ok (.bool true) w := fun w => Lib.run_eql_slice_nil (P := Tryd.prog) w 28 5 none 0 0 0 0 Tryd.underlying28
  go_wp2_with fail
  refine ⟨?_, ?_⟩
  rotate_left
  · rw [MUI.out]
    show len0 - (RowKit.intOf (.int .i64 ((i : Int) + 1))).toNat < len0 - i
    simp [RowKit.intOf]
    omega
  unfold WI
  refine ⟨_, _, _, _, _, _, _, _, _, _, _, _, _, _, _, _, _, _, _, _, _, _, _, _, _, _, _, _, _, _, _, _, _, _, _, _, _, _, _, _, _, _, _, _, _, _, _, _, _, _, _, _, _, _, _, _, _, _, _, _, _, _, _, _, _, _, _, _, _, _, _, _, _, _, _, _, _, _, _, _, _, _, _, _, _, _, _, _, _, _, _, _, _, _, _, _, _, _, _, _, _, _, _, _, _, _, _, _, _, _, _, _, _, _, _, _, _, _, _, _, _, _, _, _, _, _, _, _, _, _, _, _, _, _, _, _, _, _, _, _, _, _, _, _, _, _, _, _, _, _, _, _, _, _, _, _, _, _, _, _, _, _, _, _, _, _, _, _, _, _, _, _, _, _, _, _, _, _, _, _, _, _, _, _, _, _, _, _, _, _, _, _, _, _, _, _, _, _, _, _, _, _, _, _, _, _, _, _, _, _, _, _, _, _, _, _, ⟨i + 1, by omega, by go_num, ?_⟩, rfl⟩
  exact ⟨n, m, D, c, _, S4.out, hDb, by omega, by omega, by omega, V4.out, HPR.out⟩
end
end Go.Proofs.YtagbnacffiagcaaDoor.pairReads
