/- The loop of DevPlays: a block is turned, or fails. -/
import Derived.Test.YtagbnacffiagcaaDoorWDevPlaysS
namespace Go.Proofs.YtagbnacffiagcaaDoor.devPlays
open Go Go.RowKit Go.Maps Go.Proofs.YtagbnacffiagcaaDoor.Mem Go.Proofs.YtagbnacffiagcaaDoor.MapsW Go.Proofs.YtagbnacffiagcaaDoor.SeeW Go.Proofs.YtagbnacffiagcaaDoor.DevG Go.Proofs.YtagbnacffiagcaaDoor.RDevW Go.Proofs.YtagbnacffiagcaaDoor.Ints Go.Proofs.YtagbnacffiagcaaDoor.DevL
set_option linter.unusedVariables false
set_option maxRecDepth 1000000
section
variable {a0 : Option Addr} {len0 cap0 bk : Nat} {w1 wr : World} {dv xr i n nc : Nat} {m cm : Mp} {D Dc : Dv} {G : Gs} {R : Rd} {cd tb : Nat} {wv hv : Value} {rr : Except Nat (List Nat)} {K N At : Int} {B T : Nat} {sa : Option Addr} {sl sc : Nat} {l : List Nat} {pa : Option Addr} {pl pc : Nat} {zs : List Int} {c2 c3 c5 c7 c22 c23 c24 c25 c26 c27 c28 c29 c30 c31 c32 c33 c34 c35 c36 c37 c38 c39 c40 c41 c42 c43 c44 c45 c46 c47 c48 c49 c50 c51 c52 c53 c54 c55 c56 u4 u10 u11 u12 u13 u14 u15 u16 u17 u18 u19 u20 u21 u57 u58 u59 u60 u61 u62 u63 u64 u65 u66 u67 u68 u69 u70 u71 u72 u73 u74 u75 u76 u77 u78 u79 u80 u81 u82 u83 u84 u85 u86 u87 u88 u89 u90 u91 u92 u93 u94 u95 u96 u97 u98 u99 u100 u101 u102 u103 u104 u105 u106 u107 u108 u109 u110 u111 u112 u113 u114 u115 u116 u117 u118 u119 u120 u121 u122 u123 u124 u125 u126 u127 u128 u129 u130 u131 u132 u133 u134 u135 u136 u137 u138 u139 u140 u141 u142 u143 u144 u145 u146 u147 u148 u149 u150 u151 u152 u153 u154 u155 u156 u157 u158 u159 u160 u161 u162 u163 u164 u165 u166 u167 u168 u169 u170 u171 u172 u173 u174 u175 u176 u177 u178 u179 u180 u181 u182 u183 u184 u185 u186 u187 u188 u189 u190 u191 u192 u193 u194 u195 u196 u197 u198 u199 u200 u201 u202 u203 u204 u205 u206 u207 u208 u209 u210 u211 u212 u213 u214 u215 u216 u217 u218 u219 u220 u221 u222 u223 u224 u225 u226 u227 u228 u229 u230 u231 u232 u233 u234 u235 u236 u237 u238 u239 u240 u241 u242 u243 u244 u245 u246 u247 u248 u249 u250 u251 u252 u253 u254 u255 u256 u257 u258 u259 u260 u261 u262 u263 u264 u265 u266 u267 u268 u269 u270 u271 u272 u273 u274 u275 u276 u277 u278 u279 u280 u281 u282 u283 u284 u285 u286 u287 u288 u289 u290 u291 u292 u293 u294 u295 u296 u297 u298 u299 u300 : Value} {Q0 : Exit → Act → World → Prop}
set_option maxHeartbeats 16000000 in
theorem k5 (H : Ki w1 wr bk dv xr i n m D G R nc Dc cd cm wv hv rr tb K N At B T sa sl sc l pa pl pc zs) (q1 : (K == 1) = false) (q2 : (K == 2) = false) (q3 : (K == 3) = false) (q4 : (K == 4) = false) (q5 : (K == 5) = true)
    (hq : ∀ (u4 u14 u15 u16 u17 u18 u19 u20 u21 u57 u58 u59 u60 u61 u62 u63 u64 u65 u66 u67 u68 u69 u70 u71 u72 u73 u74 u75 u76 u77 u78 u79 u80 u81 u82 u83 u84 u85 u86 u88 u89 u90 u91 u92 u93 u94 u95 u96 u97 u98 u99 u100 u101 u102 u103 u104 u105 u106 u107 u108 u109 u110 u111 u112 u113 u114 u115 u116 u117 u118 u119 u120 u121 u122 u123 u124 u125 u126 u127 u128 u129 u130 u131 u132 u133 u134 u135 u136 u137 u138 u139 u140 u141 u142 u143 u144 u145 u146 u147 u148 u149 u150 u151 u152 u153 u154 u155 u156 u157 u158 u159 u160 u161 u162 u163 u164 u165 u166 u167 u168 u169 u170 u171 u172 u173 u174 u175 u176 u177 u178 u179 u180 u181 u182 u183 u184 u185 u186 u187 u188 u189 u190 u191 u192 u193 u194 u195 u196 u197 u198 u199 u200 u201 u202 u203 u204 u205 u206 u207 u208 u209 u210 u211 u212 u213 u214 u215 u216 u217 u218 u219 u220 u221 u222 u223 u224 u225 u226 u227 u228 u229 u230 u231 u232 u233 u234 u235 u236 u237 u238 u239 u240 u241 u242 u243 u244 u245 u246 u247 u248 u249 u250 u251 u252 u253 u254 u255 u256 u257 u258 u259 u260 u261 u262 u263 u264 u265 u266 u267 u268 u269 u270 u271 u272 u273 u274 u275 u276 u277 u278 u279 u280 u281 u282 u283 u284 u285 u286 u287 u288 u289 u290 u291 u292 u293 u294 u295 u296 u297 u298 u299 u300 : Value) (w'' : World) (n' : Nat) (m' : Mp) (D' : Dv) (R' : Rd), Aft w1 w'' bk dv xr (i + 1) n' m' D' G R' nc Dc cd cm wv hv rr tb K N At B T sa sl sc pa pl pc → Q0 .normal ⟨#[.int .i64 (bk : Int), .slice a0 len0 cap0, c2, c3, u4, c5, ptr dv, c7, ptr xr, .int .i64 (i : Int), .pointer (some ⟨tb, 0, none⟩), ptr cd, wv, hv, u14, u15, u16, u17, u18, u19, u20, u21, c22, c23, c24, c25, c26, c27, c28, c29, c30, c31, c32, c33, c34, c35, c36, c37, c38, c39, c40, c41, c42, c43, c44, c45, c46, c47, c48, c49, c50, c51, c52, c53, c54, c55, c56, u57, u58, u59, u60, u61, u62, u63, u64, u65, u66, u67, u68, u69, u70, u71, u72, u73, u74, u75, u76, u77, u78, u79, u80, u81, u82, u83, u84, u85, u86, .int .i64 K, u88, u89, u90, u91, u92, u93, u94, u95, u96, u97, u98, u99, u100, u101, u102, u103, u104, u105, u106, u107, u108, u109, u110, u111, u112, u113, u114, u115, u116, u117, u118, u119, u120, u121, u122, u123, u124, u125, u126, u127, u128, u129, u130, u131, u132, u133, u134, u135, u136, u137, u138, u139, u140, u141, u142, u143, u144, u145, u146, u147, u148, u149, u150, u151, u152, u153, u154, u155, u156, u157, u158, u159, u160, u161, u162, u163, u164, u165, u166, u167, u168, u169, u170, u171, u172, u173, u174, u175, u176, u177, u178, u179, u180, u181, u182, u183, u184, u185, u186, u187, u188, u189, u190, u191, u192, u193, u194, u195, u196, u197, u198, u199, u200, u201, u202, u203, u204, u205, u206, u207, u208, u209, u210, u211, u212, u213, u214, u215, u216, u217, u218, u219, u220, u221, u222, u223, u224, u225, u226, u227, u228, u229, u230, u231, u232, u233, u234, u235, u236, u237, u238, u239, u240, u241, u242, u243, u244, u245, u246, u247, u248, u249, u250, u251, u252, u253, u254, u255, u256, u257, u258, u259, u260, u261, u262, u263, u264, u265, u266, u267, u268, u269, u270, u271, u272, u273, u274, u275, u276, u277, u278, u279, u280, u281, u282, u283, u284, u285, u286, u287, u288, u289, u290, u291, u292, u293, u294, u295, u296, u297, u298, u299, u300], []⟩ w'') :
    Code.wp Tryd.prog sw Q0 ⟨#[.int .i64 (bk : Int), .slice a0 len0 cap0, c2, c3, u4, c5, ptr dv, c7, ptr xr, .int .i64 (i : Int), .pointer (some ⟨tb, 0, none⟩), ptr cd, wv, hv, u14, u15, u16, u17, u18, u19, u20, u21, c22, c23, c24, c25, c26, c27, c28, c29, c30, c31, c32, c33, c34, c35, c36, c37, c38, c39, c40, c41, c42, c43, c44, c45, c46, c47, c48, c49, c50, c51, c52, c53, c54, c55, c56, u57, u58, u59, u60, u61, u62, u63, u64, u65, u66, u67, u68, u69, u70, u71, u72, u73, u74, u75, u76, u77, u78, u79, u80, u81, u82, u83, u84, u85, u86, .int .i64 K, u88, u89, u90, u91, u92, u93, u94, u95, u96, u97, u98, u99, u100, u101, u102, u103, u104, u105, u106, u107, u108, u109, u110, u111, u112, u113, u114, u115, u116, u117, u118, u119, u120, u121, u122, u123, u124, u125, u126, u127, u128, u129, u130, u131, u132, u133, u134, u135, u136, u137, u138, u139, u140, u141, u142, u143, u144, u145, u146, u147, u148, u149, u150, u151, u152, u153, u154, u155, u156, u157, u158, u159, u160, u161, u162, u163, u164, u165, u166, u167, u168, u169, u170, u171, u172, u173, u174, u175, u176, u177, u178, u179, u180, u181, u182, u183, u184, u185, u186, u187, u188, u189, u190, u191, u192, u193, u194, u195, u196, u197, u198, u199, u200, u201, u202, u203, u204, u205, u206, u207, u208, u209, u210, u211, u212, u213, u214, u215, u216, u217, u218, u219, u220, u221, u222, u223, u224, u225, u226, u227, u228, u229, u230, u231, u232, u233, u234, u235, u236, u237, u238, u239, u240, u241, u242, u243, u244, u245, u246, u247, u248, u249, u250, u251, u252, u253, u254, u255, u256, u257, u258, u259, u260, u261, u262, u263, u264, u265, u266, u267, u268, u269, u270, u271, u272, u273, u274, u275, u276, u277, u278, u279, u280, u281, u282, u283, u284, u285, u286, u287, u288, u289, u290, u291, u292, u293, u294, u295, u296, u297, u298, u299, u300], []⟩ wr := by
  conv => arg 2; whnf
  have HQ := hid hq
  clear hq
  obtain ⟨i60, s, hbk, n40, ca, bel, c, hrd, hhad, hlo, nums, bytes, is, n64, a64, b8, t32, sl4, pl2⟩ := H
  obtain ⟨x0, x1, x2, x3, x4, x5, x6⟩ := tc c.tc
  have hnp12 := s.np
  have hb12 := s.b12
  have ALL := hid (show All w1.heap.size wr n m D dv xr G R nc Dc cd cm wv rr tb K N At B T sa sl sc pa pl pc from ⟨s.dev, s.ref, s.ap, c⟩)
  have S := hid s
  have HBK := hid hbk
  have HRD := hid hrd
  have HHAD := hid hhad
  have HN40 := hid n40
  have HCA := hid ca
  have BEL := hid bel
  have HNP := hid hnp12
  have HLO := hid hlo
  have NX := hid (Nx.spoil s.ok s.fz N At T)
  have REL := hid (s.rel.spoil N At T)
  have hdw := dspoil ALL.out n64 a64 t32 (by omega) (s.ok.kept N).1
  have HXW := hid (fun (w2 : World) (a2 : All w1.heap.size w2 (n + 3) m (D.spoil N At T) dv xr G R nc Dc cd cm wv rr tb K N At B T sa sl sc pa pl pc) => by
    have h := xspoil a2 n64 a64 t32 (fun q hq => by rw [s.rel.F q hq]; exact (s.ok.kept q).1)
    rw [← s.rel.mayS] at h
    exact h)
  obtain ⟨bb, hbb⟩ : ∃ bb, D.mayS N At T = bb := ⟨_, rfl⟩
  rw [hbb] at hdw
  have HBBB := hid hbb
  clear hbb
  clear s c bel nums is hbk hrd hhad n40 ca hnp12 hb12 hlo
  go_wp2_with fail
  go_region_held3 (fun w' => w'.cell? ⟨tb, 1, none⟩ = some (.int .i64 N) ∧ w'.cell? ⟨tb, 2, none⟩ = some (.int .i64 At) ∧ w'.cell? ⟨tb, 4, none⟩ = some (.int .u32 (T : Int)))
    (first | exact ⟨x1, x2, x4⟩ | exact ⟨y1, y2, y4⟩ | exact ⟨z1, z2, z4⟩ | go_keep)
    (first
      | (go_at_call 45; refine (hxw _ (by first | exact Below.refl _ _ | exact (Below.refl _ _).drew | exact below_drewN (Below.refl _ _) _)).mono ?_; rintro e w3 ⟨rfl, a3, t3⟩; dsimp only; obtain ⟨_, z1, z2, _, z4, _, _⟩ := tc a3.c.tc; have bb3 := bb2.trans (a2.lo_x t3 bb2.size))
      | (go_at_call 16; refine (hdw _ (by first | exact Below.refl _ _ | exact (Below.refl _ _).drew | exact below_drewN (Below.refl _ _) _)).mono ?_; rintro e w2 ⟨rfl, a2, t2⟩; dsimp only; obtain ⟨_, y1, y2, _, y4, _, _⟩ := tc a2.c.tc; have bb2 := BEL.out.trans (ALL.out.lo_d t2 BEL.out.size); have hxw := HXW.out w2 a2; rw [HBBB.out] at hxw))
  have A6 := hid a3
  have BB := hid bb3
  clear a2 a3 hdw hxw t2 t3 bb2 bb3
  go_wp2_with fail
  exact HQ.out _ _ _ _ _ _ _ _ _ _ _ _ _ _ _ _ _ _ _ _ _ _ _ _ _ _ _ _ _ _ _ _ _ _ _ _ _ _ _ _ _ _ _ _ _ _ _ _ _ _ _ _ _ _ _ _ _ _ _ _ _ _ _ _ _ _ _ _ _ _ _ _ _ _ _ _ _ _ _ _ _ _ _ _ _ _ _ _ _ _ _ _ _ _ _ _ _ _ _ _ _ _ _ _ _ _ _ _ _ _ _ _ _ _ _ _ _ _ _ _ _ _ _ _ _ _ _ _ _ _ _ _ _ _ _ _ _ _ _ _ _ _ _ _ _ _ _ _ _ _ _ _ _ _ _ _ _ _ _ _ _ _ _ _ _ _ _ _ _ _ _ _ _ _ _ _ _ _ _ _ _ _ _ _ _ _ _ _ _ _ _ _ _ _ _ _ _ _ _ _ _ _ _ _ _ _ _ _ _ _ _ _ _ _ _ _ _ _ _ _ _ _ _ _ _ _ _ _ _ _ _ _ _ _ _ _ _ _ _ _ _ _ _ _ _ _ _ _ _ _ _ _ _ _ _ _ _ ⟨⟨A6.out.dev, A6.out.ref, REL.out, NX.out.ok, A6.out.ap, by rw [NX.out.blocks]; exact S.out.b12, NX.out.fuse⟩, by rw [NX.out.blocks]; exact HBK.out, by have := HN40.out; have := HNP.out; omega, by have := NX.out.calls; have := HCA.out; omega, BB.out, A6.out.c, HRD.out, HHAD.out⟩
set_option maxHeartbeats 16000000 in
theorem k6 (H : Ki w1 wr bk dv xr i n m D G R nc Dc cd cm wv hv rr tb K N At B T sa sl sc l pa pl pc zs) (q1 : (K == 1) = false) (q2 : (K == 2) = false) (q3 : (K == 3) = false) (q4 : (K == 4) = false) (q5 : (K == 5) = false) (q6 : (K == 6) = true)
    (hq : ∀ (u4 u14 u15 u16 u17 u18 u19 u20 u21 u57 u58 u59 u60 u61 u62 u63 u64 u65 u66 u67 u68 u69 u70 u71 u72 u73 u74 u75 u76 u77 u78 u79 u80 u81 u82 u83 u84 u85 u86 u88 u89 u90 u91 u92 u93 u94 u95 u96 u97 u98 u99 u100 u101 u102 u103 u104 u105 u106 u107 u108 u109 u110 u111 u112 u113 u114 u115 u116 u117 u118 u119 u120 u121 u122 u123 u124 u125 u126 u127 u128 u129 u130 u131 u132 u133 u134 u135 u136 u137 u138 u139 u140 u141 u142 u143 u144 u145 u146 u147 u148 u149 u150 u151 u152 u153 u154 u155 u156 u157 u158 u159 u160 u161 u162 u163 u164 u165 u166 u167 u168 u169 u170 u171 u172 u173 u174 u175 u176 u177 u178 u179 u180 u181 u182 u183 u184 u185 u186 u187 u188 u189 u190 u191 u192 u193 u194 u195 u196 u197 u198 u199 u200 u201 u202 u203 u204 u205 u206 u207 u208 u209 u210 u211 u212 u213 u214 u215 u216 u217 u218 u219 u220 u221 u222 u223 u224 u225 u226 u227 u228 u229 u230 u231 u232 u233 u234 u235 u236 u237 u238 u239 u240 u241 u242 u243 u244 u245 u246 u247 u248 u249 u250 u251 u252 u253 u254 u255 u256 u257 u258 u259 u260 u261 u262 u263 u264 u265 u266 u267 u268 u269 u270 u271 u272 u273 u274 u275 u276 u277 u278 u279 u280 u281 u282 u283 u284 u285 u286 u287 u288 u289 u290 u291 u292 u293 u294 u295 u296 u297 u298 u299 u300 : Value) (w'' : World) (n' : Nat) (m' : Mp) (D' : Dv) (R' : Rd), Aft w1 w'' bk dv xr (i + 1) n' m' D' G R' nc Dc cd cm wv hv rr tb K N At B T sa sl sc pa pl pc → Q0 .normal ⟨#[.int .i64 (bk : Int), .slice a0 len0 cap0, c2, c3, u4, c5, ptr dv, c7, ptr xr, .int .i64 (i : Int), .pointer (some ⟨tb, 0, none⟩), ptr cd, wv, hv, u14, u15, u16, u17, u18, u19, u20, u21, c22, c23, c24, c25, c26, c27, c28, c29, c30, c31, c32, c33, c34, c35, c36, c37, c38, c39, c40, c41, c42, c43, c44, c45, c46, c47, c48, c49, c50, c51, c52, c53, c54, c55, c56, u57, u58, u59, u60, u61, u62, u63, u64, u65, u66, u67, u68, u69, u70, u71, u72, u73, u74, u75, u76, u77, u78, u79, u80, u81, u82, u83, u84, u85, u86, .int .i64 K, u88, u89, u90, u91, u92, u93, u94, u95, u96, u97, u98, u99, u100, u101, u102, u103, u104, u105, u106, u107, u108, u109, u110, u111, u112, u113, u114, u115, u116, u117, u118, u119, u120, u121, u122, u123, u124, u125, u126, u127, u128, u129, u130, u131, u132, u133, u134, u135, u136, u137, u138, u139, u140, u141, u142, u143, u144, u145, u146, u147, u148, u149, u150, u151, u152, u153, u154, u155, u156, u157, u158, u159, u160, u161, u162, u163, u164, u165, u166, u167, u168, u169, u170, u171, u172, u173, u174, u175, u176, u177, u178, u179, u180, u181, u182, u183, u184, u185, u186, u187, u188, u189, u190, u191, u192, u193, u194, u195, u196, u197, u198, u199, u200, u201, u202, u203, u204, u205, u206, u207, u208, u209, u210, u211, u212, u213, u214, u215, u216, u217, u218, u219, u220, u221, u222, u223, u224, u225, u226, u227, u228, u229, u230, u231, u232, u233, u234, u235, u236, u237, u238, u239, u240, u241, u242, u243, u244, u245, u246, u247, u248, u249, u250, u251, u252, u253, u254, u255, u256, u257, u258, u259, u260, u261, u262, u263, u264, u265, u266, u267, u268, u269, u270, u271, u272, u273, u274, u275, u276, u277, u278, u279, u280, u281, u282, u283, u284, u285, u286, u287, u288, u289, u290, u291, u292, u293, u294, u295, u296, u297, u298, u299, u300], []⟩ w'') :
    Code.wp Tryd.prog sw Q0 ⟨#[.int .i64 (bk : Int), .slice a0 len0 cap0, c2, c3, u4, c5, ptr dv, c7, ptr xr, .int .i64 (i : Int), .pointer (some ⟨tb, 0, none⟩), ptr cd, wv, hv, u14, u15, u16, u17, u18, u19, u20, u21, c22, c23, c24, c25, c26, c27, c28, c29, c30, c31, c32, c33, c34, c35, c36, c37, c38, c39, c40, c41, c42, c43, c44, c45, c46, c47, c48, c49, c50, c51, c52, c53, c54, c55, c56, u57, u58, u59, u60, u61, u62, u63, u64, u65, u66, u67, u68, u69, u70, u71, u72, u73, u74, u75, u76, u77, u78, u79, u80, u81, u82, u83, u84, u85, u86, .int .i64 K, u88, u89, u90, u91, u92, u93, u94, u95, u96, u97, u98, u99, u100, u101, u102, u103, u104, u105, u106, u107, u108, u109, u110, u111, u112, u113, u114, u115, u116, u117, u118, u119, u120, u121, u122, u123, u124, u125, u126, u127, u128, u129, u130, u131, u132, u133, u134, u135, u136, u137, u138, u139, u140, u141, u142, u143, u144, u145, u146, u147, u148, u149, u150, u151, u152, u153, u154, u155, u156, u157, u158, u159, u160, u161, u162, u163, u164, u165, u166, u167, u168, u169, u170, u171, u172, u173, u174, u175, u176, u177, u178, u179, u180, u181, u182, u183, u184, u185, u186, u187, u188, u189, u190, u191, u192, u193, u194, u195, u196, u197, u198, u199, u200, u201, u202, u203, u204, u205, u206, u207, u208, u209, u210, u211, u212, u213, u214, u215, u216, u217, u218, u219, u220, u221, u222, u223, u224, u225, u226, u227, u228, u229, u230, u231, u232, u233, u234, u235, u236, u237, u238, u239, u240, u241, u242, u243, u244, u245, u246, u247, u248, u249, u250, u251, u252, u253, u254, u255, u256, u257, u258, u259, u260, u261, u262, u263, u264, u265, u266, u267, u268, u269, u270, u271, u272, u273, u274, u275, u276, u277, u278, u279, u280, u281, u282, u283, u284, u285, u286, u287, u288, u289, u290, u291, u292, u293, u294, u295, u296, u297, u298, u299, u300], []⟩ wr := by
  conv => arg 2; whnf
  have HQ := hid hq
  clear hq
  obtain ⟨i60, s, hbk, n40, ca, bel, c, hrd, hhad, hlo, nums, bytes, is, n64, a64, b8, t32, sl4, pl2⟩ := H
  obtain ⟨x0, x1, x2, x3, x4, x5, x6⟩ := tc c.tc
  have hnp12 := s.np
  have hb12 := s.b12
  have ALL := hid (show All w1.heap.size wr n m D dv xr G R nc Dc cd cm wv rr tb K N At B T sa sl sc pa pl pc from ⟨s.dev, s.ref, s.ap, c⟩)
  have S := hid s
  have HBK := hid hbk
  have HRD := hid hrd
  have HHAD := hid hhad
  have HN40 := hid n40
  have HCA := hid ca
  have BEL := hid bel
  have HNP := hid hnp12
  have HLO := hid hlo
  have NX := hid (Nx.fail s.ok s.fz N)
  have REL := hid (s.rel.fail N)
  have hdw := dfail ALL.out n64 (by omega)
  have HXW := hid (fun (w2 : World) (a2 : All w1.heap.size w2 (n + 3) m (D.fail N) dv xr G R nc Dc cd cm wv rr tb K N At B T sa sl sc pa pl pc) => by
    have h := xfail a2 n64
    rw [← s.rel.may] at h
    exact h)
  obtain ⟨bb, hbb⟩ : ∃ bb, D.may N = bb := ⟨_, rfl⟩
  rw [hbb] at hdw
  have HBBB := hid hbb
  clear hbb
  clear s c bel nums is hbk hrd hhad n40 ca hnp12 hb12 hlo
  go_wp2_with fail
  go_region_held3 (fun w' => w'.cell? ⟨tb, 1, none⟩ = some (.int .i64 N))
    (first | exact x1 | exact y1 | exact z1 | go_keep)
    (first
      | (go_at_call 46; refine (hxw _ (by first | exact Below.refl _ _ | exact (Below.refl _ _).drew | exact below_drewN (Below.refl _ _) _)).mono ?_; rintro e w3 ⟨rfl, a3, t3⟩; dsimp only; obtain ⟨_, z1, _, _, _, _, _⟩ := tc a3.c.tc; have bb3 := bb2.trans (a2.lo_x t3 bb2.size))
      | (go_at_call 17; refine (hdw _ (by first | exact Below.refl _ _ | exact (Below.refl _ _).drew | exact below_drewN (Below.refl _ _) _)).mono ?_; rintro e w2 ⟨rfl, a2, t2⟩; dsimp only; obtain ⟨_, y1, _, _, _, _, _⟩ := tc a2.c.tc; have bb2 := BEL.out.trans (ALL.out.lo_d t2 BEL.out.size); have hxw := HXW.out w2 a2; rw [HBBB.out] at hxw))
  have A6 := hid a3
  have BB := hid bb3
  clear a2 a3 hdw hxw t2 t3 bb2 bb3
  go_wp2_with fail
  exact HQ.out _ _ _ _ _ _ _ _ _ _ _ _ _ _ _ _ _ _ _ _ _ _ _ _ _ _ _ _ _ _ _ _ _ _ _ _ _ _ _ _ _ _ _ _ _ _ _ _ _ _ _ _ _ _ _ _ _ _ _ _ _ _ _ _ _ _ _ _ _ _ _ _ _ _ _ _ _ _ _ _ _ _ _ _ _ _ _ _ _ _ _ _ _ _ _ _ _ _ _ _ _ _ _ _ _ _ _ _ _ _ _ _ _ _ _ _ _ _ _ _ _ _ _ _ _ _ _ _ _ _ _ _ _ _ _ _ _ _ _ _ _ _ _ _ _ _ _ _ _ _ _ _ _ _ _ _ _ _ _ _ _ _ _ _ _ _ _ _ _ _ _ _ _ _ _ _ _ _ _ _ _ _ _ _ _ _ _ _ _ _ _ _ _ _ _ _ _ _ _ _ _ _ _ _ _ _ _ _ _ _ _ _ _ _ _ _ _ _ _ _ _ _ _ _ _ _ _ _ _ _ _ _ _ _ _ _ _ _ _ _ _ _ _ _ _ _ _ _ _ _ _ _ _ _ _ _ _ ⟨⟨A6.out.dev, A6.out.ref, REL.out, NX.out.ok, A6.out.ap, by rw [NX.out.blocks]; exact S.out.b12, NX.out.fuse⟩, by rw [NX.out.blocks]; exact HBK.out, by have := HN40.out; have := HNP.out; omega, by have := NX.out.calls; have := HCA.out; omega, BB.out, A6.out.c, HRD.out, HHAD.out⟩
end
end Go.Proofs.YtagbnacffiagcaaDoor.devPlays
