/- The loop of DevPlays: Flush, Arm, Crash. -/
import Derived.Test.YtagbnacffiagcaaDoorWDevPlaysA
import Derived.Test.YtagbnacffiagcaaDoorDevPlaysP4
namespace Go.Proofs.YtagbnacffiagcaaDoor.devPlays
open Go Go.RowKit Go.Maps Go.Proofs.YtagbnacffiagcaaDoor.Mem Go.Proofs.YtagbnacffiagcaaDoor.MapsW Go.Proofs.YtagbnacffiagcaaDoor.SeeW Go.Proofs.YtagbnacffiagcaaDoor.DevG Go.Proofs.YtagbnacffiagcaaDoor.RDevW Go.Proofs.YtagbnacffiagcaaDoor.Ints Go.Proofs.YtagbnacffiagcaaDoor.DevL
set_option linter.unusedVariables false
set_option maxRecDepth 1000000
section
variable {a0 : Option Addr} {len0 cap0 bk : Nat} {w1 wr : World} {dv xr i n nc : Nat} {m cm : Mp} {D Dc : Dv} {G : Gs} {R : Rd} {cd tb : Nat} {wv hv : Value} {rr : Except Nat (List Nat)} {K N At : Int} {B T : Nat} {sa : Option Addr} {sl sc : Nat} {l : List Nat} {pa : Option Addr} {pl pc : Nat} {zs : List Int} {c2 c3 c5 c7 c22 c23 c24 c25 c26 c27 c28 c29 c30 c31 c32 c33 c34 c35 c36 c37 c38 c39 c40 c41 c42 c43 c44 c45 c46 c47 c48 c49 c50 c51 c52 c53 c54 c55 c56 u4 u10 u11 u12 u13 u14 u15 u16 u17 u18 u19 u20 u21 u57 u58 u59 u60 u61 u62 u63 u64 u65 u66 u67 u68 u69 u70 u71 u72 u73 u74 u75 u76 u77 u78 u79 u80 u81 u82 u83 u84 u85 u86 u87 u88 u89 u90 u91 u92 u93 u94 u95 u96 u97 u98 u99 u100 u101 u102 u103 u104 u105 u106 u107 u108 u109 u110 u111 u112 u113 u114 u115 u116 u117 u118 u119 u120 u121 u122 u123 u124 u125 u126 u127 u128 u129 u130 u131 u132 u133 u134 u135 u136 u137 u138 u139 u140 u141 u142 u143 u144 u145 u146 u147 u148 u149 u150 u151 u152 u153 u154 u155 u156 u157 u158 u159 u160 u161 u162 u163 u164 u165 u166 u167 u168 u169 u170 u171 u172 u173 u174 u175 u176 u177 u178 u179 u180 u181 u182 u183 u184 u185 u186 u187 u188 u189 u190 u191 u192 u193 u194 u195 u196 u197 u198 u199 u200 u201 u202 u203 u204 u205 u206 u207 u208 u209 u210 u211 u212 u213 u214 u215 u216 u217 u218 u219 u220 u221 u222 u223 u224 u225 u226 u227 u228 u229 u230 u231 u232 u233 u234 u235 u236 u237 u238 u239 u240 u241 u242 u243 u244 u245 u246 u247 u248 u249 u250 u251 u252 u253 u254 u255 u256 u257 u258 u259 u260 u261 u262 u263 u264 u265 u266 u267 u268 u269 u270 u271 u272 u273 u274 u275 u276 u277 u278 u279 u280 u281 u282 u283 u284 u285 u286 u287 u288 u289 u290 u291 u292 u293 u294 u295 u296 u297 u298 u299 u300 : Value} {Q0 : Exit → Act → World → Prop}
set_option maxHeartbeats 16000000 in
theorem k2 (bs : List Addr) (HB : Ev w1 w1.heap.size bs five) (HBS : Bs w1 bs) (H : Ki w1 wr bk dv xr i n m D G R nc Dc cd cm wv hv rr tb K N At B T sa sl sc l pa pl pc zs) (q1 : (K == 1) = false) (q2 : (K == 2) = true)
    (hq : ∀ (u4 u14 u15 u16 u17 u18 u19 u20 u21 u57 u58 u59 u60 u61 u62 u63 u64 u65 u66 u67 u68 u69 u70 u71 u72 u73 u74 u75 u76 u77 u78 u79 u80 u81 u82 u83 u84 u85 u86 u88 u89 u90 u91 u92 u93 u94 u95 u96 u97 u98 u99 u100 u101 u102 u103 u104 u105 u106 u107 u108 u109 u110 u111 u112 u113 u114 u115 u116 u117 u118 u119 u120 u121 u122 u123 u124 u125 u126 u127 u128 u129 u130 u131 u132 u133 u134 u135 u136 u137 u138 u139 u140 u141 u142 u143 u144 u145 u146 u147 u148 u149 u150 u151 u152 u153 u154 u155 u156 u157 u158 u159 u160 u161 u162 u163 u164 u165 u166 u167 u168 u169 u170 u171 u172 u173 u174 u175 u176 u177 u178 u179 u180 u181 u182 u183 u184 u185 u186 u187 u188 u189 u190 u191 u192 u193 u194 u195 u196 u197 u198 u199 u200 u201 u202 u203 u204 u205 u206 u207 u208 u209 u210 u211 u212 u213 u214 u215 u216 u217 u218 u219 u220 u221 u222 u223 u224 u225 u226 u227 u228 u229 u230 u231 u232 u233 u234 u235 u236 u237 u238 u239 u240 u241 u242 u243 u244 u245 u246 u247 u248 u249 u250 u251 u252 u253 u254 u255 u256 u257 u258 u259 u260 u261 u262 u263 u264 u265 u266 u267 u268 u269 u270 u271 u272 u273 u274 u275 u276 u277 u278 u279 u280 u281 u282 u283 u284 u285 u286 u287 u288 u289 u290 u291 u292 u293 u294 u295 u296 u297 u298 u299 u300 : Value) (w'' : World) (n' : Nat) (m' : Mp) (D' : Dv) (R' : Rd), Aft w1 w'' bk dv xr (i + 1) n' m' D' G R' nc Dc cd cm wv hv rr tb K N At B T sa sl sc pa pl pc → Q0 .normal ⟨#[.int .i64 (bk : Int), .slice a0 len0 cap0, c2, c3, u4, c5, ptr dv, c7, ptr xr, .int .i64 (i : Int), .pointer (some ⟨tb, 0, none⟩), ptr cd, wv, hv, u14, u15, u16, u17, u18, u19, u20, u21, c22, c23, c24, c25, c26, c27, c28, c29, c30, c31, c32, c33, c34, c35, c36, c37, c38, c39, c40, c41, c42, c43, c44, c45, c46, c47, c48, c49, c50, c51, c52, c53, c54, c55, c56, u57, u58, u59, u60, u61, u62, u63, u64, u65, u66, u67, u68, u69, u70, u71, u72, u73, u74, u75, u76, u77, u78, u79, u80, u81, u82, u83, u84, u85, u86, .int .i64 K, u88, u89, u90, u91, u92, u93, u94, u95, u96, u97, u98, u99, u100, u101, u102, u103, u104, u105, u106, u107, u108, u109, u110, u111, u112, u113, u114, u115, u116, u117, u118, u119, u120, u121, u122, u123, u124, u125, u126, u127, u128, u129, u130, u131, u132, u133, u134, u135, u136, u137, u138, u139, u140, u141, u142, u143, u144, u145, u146, u147, u148, u149, u150, u151, u152, u153, u154, u155, u156, u157, u158, u159, u160, u161, u162, u163, u164, u165, u166, u167, u168, u169, u170, u171, u172, u173, u174, u175, u176, u177, u178, u179, u180, u181, u182, u183, u184, u185, u186, u187, u188, u189, u190, u191, u192, u193, u194, u195, u196, u197, u198, u199, u200, u201, u202, u203, u204, u205, u206, u207, u208, u209, u210, u211, u212, u213, u214, u215, u216, u217, u218, u219, u220, u221, u222, u223, u224, u225, u226, u227, u228, u229, u230, u231, u232, u233, u234, u235, u236, u237, u238, u239, u240, u241, u242, u243, u244, u245, u246, u247, u248, u249, u250, u251, u252, u253, u254, u255, u256, u257, u258, u259, u260, u261, u262, u263, u264, u265, u266, u267, u268, u269, u270, u271, u272, u273, u274, u275, u276, u277, u278, u279, u280, u281, u282, u283, u284, u285, u286, u287, u288, u289, u290, u291, u292, u293, u294, u295, u296, u297, u298, u299, u300], []⟩ w'') :
    Code.wp Tryd.prog sw Q0 ⟨#[.int .i64 (bk : Int), .slice a0 len0 cap0, c2, c3, u4, c5, ptr dv, c7, ptr xr, .int .i64 (i : Int), .pointer (some ⟨tb, 0, none⟩), ptr cd, wv, hv, u14, u15, u16, u17, u18, u19, u20, u21, c22, c23, c24, c25, c26, c27, c28, c29, c30, c31, c32, c33, c34, c35, c36, c37, c38, c39, c40, c41, c42, c43, c44, c45, c46, c47, c48, c49, c50, c51, c52, c53, c54, c55, c56, u57, u58, u59, u60, u61, u62, u63, u64, u65, u66, u67, u68, u69, u70, u71, u72, u73, u74, u75, u76, u77, u78, u79, u80, u81, u82, u83, u84, u85, u86, .int .i64 K, u88, u89, u90, u91, u92, u93, u94, u95, u96, u97, u98, u99, u100, u101, u102, u103, u104, u105, u106, u107, u108, u109, u110, u111, u112, u113, u114, u115, u116, u117, u118, u119, u120, u121, u122, u123, u124, u125, u126, u127, u128, u129, u130, u131, u132, u133, u134, u135, u136, u137, u138, u139, u140, u141, u142, u143, u144, u145, u146, u147, u148, u149, u150, u151, u152, u153, u154, u155, u156, u157, u158, u159, u160, u161, u162, u163, u164, u165, u166, u167, u168, u169, u170, u171, u172, u173, u174, u175, u176, u177, u178, u179, u180, u181, u182, u183, u184, u185, u186, u187, u188, u189, u190, u191, u192, u193, u194, u195, u196, u197, u198, u199, u200, u201, u202, u203, u204, u205, u206, u207, u208, u209, u210, u211, u212, u213, u214, u215, u216, u217, u218, u219, u220, u221, u222, u223, u224, u225, u226, u227, u228, u229, u230, u231, u232, u233, u234, u235, u236, u237, u238, u239, u240, u241, u242, u243, u244, u245, u246, u247, u248, u249, u250, u251, u252, u253, u254, u255, u256, u257, u258, u259, u260, u261, u262, u263, u264, u265, u266, u267, u268, u269, u270, u271, u272, u273, u274, u275, u276, u277, u278, u279, u280, u281, u282, u283, u284, u285, u286, u287, u288, u289, u290, u291, u292, u293, u294, u295, u296, u297, u298, u299, u300], []⟩ wr := by
  conv => arg 2; whnf
  have HQ := hid hq
  clear hq
  obtain ⟨i60, s, hbk, n40, ca, bel, c, hrd, hhad, hlo, nums, bytes, is, n64, a64, b8, t32, sl4, pl2⟩ := H
  obtain ⟨x0, x1, x2, x3, x4, x5, x6⟩ := tc c.tc
  have hnp12 := s.np
  have hb12 := s.b12
  have hfl := flush_w bs dv _ n m D wr s.dev (HB.below bel) (by omega) (by omega) (by omega) s.fz
  have S := hid s
  have C := hid c
  have HBK := hid hbk
  have HRD := hid hrd
  have HHAD := hid hhad
  have HN40 := hid n40
  have HCA := hid ca
  have BEL := hid bel
  have HNP := hid hnp12
  have HLO := hid hlo
  have NX := hid (Nx.flush s.ok s.fz)
  have REL := hid s.rel.flush
  clear s c bel nums is hbk hrd hhad n40 ca hnp12 hb12 hlo
  go_wp2_with fail
  refine hfl.mono ?_
  rintro e w2 ⟨⟨v, hv2, rfl⟩, p', hp', A2, T2⟩
  dsimp only
  obtain ⟨X2, c2, ap2⟩ := step_d S.out.dev S.out.ref S.out.ap C.out T2 (own_p m p' wr hp')
  have hxf := rflush_w w2 X2 (by rw [S.out.rel.arm]; exact S.out.fz) (by rw [S.out.rel.calls]; have := HCA.out; omega)
  have HA2 := hid A2
  have HX2 := hid X2
  have HC2 := hid c2
  have HAP := hid ap2
  have B2 := hid (BEL.out.trans (T2.below BEL.out.size fun x hx => S.out.dev.own_lo x hx))
  clear hfl A2 X2 c2 ap2 T2 hp'
  go_wp2_with fail
  refine hxf.mono ?_
  rintro e w3 ⟨rfl, X3, T3⟩
  dsimp only
  obtain ⟨A3, c3⟩ := step_x HA2.out HX2.out HAP.out HC2.out T3
  have B3 := hid (B2.out.trans (T3.below B2.out.size fun x hx => HX2.out.lo_ x hx))
  have his := says_is bs w3 (HBS.below B3.out) _ _ hv2
  rw [REL.out.1] at his
  have HA3 := hid A3
  have HX3 := hid X3
  have HC3 := hid c3
  clear hxf A3 X3 c3 T3 B2 HA2 HX2 HC2 hv2
  go_wp2_with fail
  refine his.mono ?_
  rintro e w4 ⟨rfl, b4⟩
  dsimp only
  have HB4 := hid b4
  clear his b4
  go_wp2_with fail
  exact HQ.out _ _ _ _ _ _ _ _ _ _ _ _ _ _ _ _ _ _ _ _ _ _ _ _ _ _ _ _ _ _ _ _ _ _ _ _ _ _ _ _ _ _ _ _ _ _ _ _ _ _ _ _ _ _ _ _ _ _ _ _ _ _ _ _ _ _ _ _ _ _ _ _ _ _ _ _ _ _ _ _ _ _ _ _ _ _ _ _ _ _ _ _ _ _ _ _ _ _ _ _ _ _ _ _ _ _ _ _ _ _ _ _ _ _ _ _ _ _ _ _ _ _ _ _ _ _ _ _ _ _ _ _ _ _ _ _ _ _ _ _ _ _ _ _ _ _ _ _ _ _ _ _ _ _ _ _ _ _ _ _ _ _ _ _ _ _ _ _ _ _ _ _ _ _ _ _ _ _ _ _ _ _ _ _ _ _ _ _ _ _ _ _ _ _ _ _ _ _ _ _ _ _ _ _ _ _ _ _ _ _ _ _ _ _ _ _ _ _ _ _ _ _ _ _ _ _ _ _ _ _ _ _ _ _ _ _ _ _ _ _ _ _ _ _ _ _ _ _ _ _ _ _ _ _ _ _ _ ⟨⟨HA3.out.below HB4.out, HX3.out.below HB4.out, REL.out.2, NX.out.ok, HAP.out, by rw [NX.out.blocks]; exact S.out.b12, NX.out.fuse⟩, by rw [NX.out.blocks]; exact HBK.out, by have := HN40.out; have := HNP.out; omega, by have := NX.out.calls; have := HCA.out; omega, B3.out.trans (HB4.out.mono B3.out.size), HC3.out.below HB4.out, HRD.out, HHAD.out⟩
set_option maxHeartbeats 16000000 in
theorem k3 (H : Ki w1 wr bk dv xr i n m D G R nc Dc cd cm wv hv rr tb K N At B T sa sl sc l pa pl pc zs) (q1 : (K == 1) = false) (q2 : (K == 2) = false) (q3 : (K == 3) = true)
    (hq : ∀ (u4 u14 u15 u16 u17 u18 u19 u20 u21 u57 u58 u59 u60 u61 u62 u63 u64 u65 u66 u67 u68 u69 u70 u71 u72 u73 u74 u75 u76 u77 u78 u79 u80 u81 u82 u83 u84 u85 u86 u88 u89 u90 u91 u92 u93 u94 u95 u96 u97 u98 u99 u100 u101 u102 u103 u104 u105 u106 u107 u108 u109 u110 u111 u112 u113 u114 u115 u116 u117 u118 u119 u120 u121 u122 u123 u124 u125 u126 u127 u128 u129 u130 u131 u132 u133 u134 u135 u136 u137 u138 u139 u140 u141 u142 u143 u144 u145 u146 u147 u148 u149 u150 u151 u152 u153 u154 u155 u156 u157 u158 u159 u160 u161 u162 u163 u164 u165 u166 u167 u168 u169 u170 u171 u172 u173 u174 u175 u176 u177 u178 u179 u180 u181 u182 u183 u184 u185 u186 u187 u188 u189 u190 u191 u192 u193 u194 u195 u196 u197 u198 u199 u200 u201 u202 u203 u204 u205 u206 u207 u208 u209 u210 u211 u212 u213 u214 u215 u216 u217 u218 u219 u220 u221 u222 u223 u224 u225 u226 u227 u228 u229 u230 u231 u232 u233 u234 u235 u236 u237 u238 u239 u240 u241 u242 u243 u244 u245 u246 u247 u248 u249 u250 u251 u252 u253 u254 u255 u256 u257 u258 u259 u260 u261 u262 u263 u264 u265 u266 u267 u268 u269 u270 u271 u272 u273 u274 u275 u276 u277 u278 u279 u280 u281 u282 u283 u284 u285 u286 u287 u288 u289 u290 u291 u292 u293 u294 u295 u296 u297 u298 u299 u300 : Value) (w'' : World) (n' : Nat) (m' : Mp) (D' : Dv) (R' : Rd), Aft w1 w'' bk dv xr (i + 1) n' m' D' G R' nc Dc cd cm wv hv rr tb K N At B T sa sl sc pa pl pc → Q0 .normal ⟨#[.int .i64 (bk : Int), .slice a0 len0 cap0, c2, c3, u4, c5, ptr dv, c7, ptr xr, .int .i64 (i : Int), .pointer (some ⟨tb, 0, none⟩), ptr cd, wv, hv, u14, u15, u16, u17, u18, u19, u20, u21, c22, c23, c24, c25, c26, c27, c28, c29, c30, c31, c32, c33, c34, c35, c36, c37, c38, c39, c40, c41, c42, c43, c44, c45, c46, c47, c48, c49, c50, c51, c52, c53, c54, c55, c56, u57, u58, u59, u60, u61, u62, u63, u64, u65, u66, u67, u68, u69, u70, u71, u72, u73, u74, u75, u76, u77, u78, u79, u80, u81, u82, u83, u84, u85, u86, .int .i64 K, u88, u89, u90, u91, u92, u93, u94, u95, u96, u97, u98, u99, u100, u101, u102, u103, u104, u105, u106, u107, u108, u109, u110, u111, u112, u113, u114, u115, u116, u117, u118, u119, u120, u121, u122, u123, u124, u125, u126, u127, u128, u129, u130, u131, u132, u133, u134, u135, u136, u137, u138, u139, u140, u141, u142, u143, u144, u145, u146, u147, u148, u149, u150, u151, u152, u153, u154, u155, u156, u157, u158, u159, u160, u161, u162, u163, u164, u165, u166, u167, u168, u169, u170, u171, u172, u173, u174, u175, u176, u177, u178, u179, u180, u181, u182, u183, u184, u185, u186, u187, u188, u189, u190, u191, u192, u193, u194, u195, u196, u197, u198, u199, u200, u201, u202, u203, u204, u205, u206, u207, u208, u209, u210, u211, u212, u213, u214, u215, u216, u217, u218, u219, u220, u221, u222, u223, u224, u225, u226, u227, u228, u229, u230, u231, u232, u233, u234, u235, u236, u237, u238, u239, u240, u241, u242, u243, u244, u245, u246, u247, u248, u249, u250, u251, u252, u253, u254, u255, u256, u257, u258, u259, u260, u261, u262, u263, u264, u265, u266, u267, u268, u269, u270, u271, u272, u273, u274, u275, u276, u277, u278, u279, u280, u281, u282, u283, u284, u285, u286, u287, u288, u289, u290, u291, u292, u293, u294, u295, u296, u297, u298, u299, u300], []⟩ w'') :
    Code.wp Tryd.prog sw Q0 ⟨#[.int .i64 (bk : Int), .slice a0 len0 cap0, c2, c3, u4, c5, ptr dv, c7, ptr xr, .int .i64 (i : Int), .pointer (some ⟨tb, 0, none⟩), ptr cd, wv, hv, u14, u15, u16, u17, u18, u19, u20, u21, c22, c23, c24, c25, c26, c27, c28, c29, c30, c31, c32, c33, c34, c35, c36, c37, c38, c39, c40, c41, c42, c43, c44, c45, c46, c47, c48, c49, c50, c51, c52, c53, c54, c55, c56, u57, u58, u59, u60, u61, u62, u63, u64, u65, u66, u67, u68, u69, u70, u71, u72, u73, u74, u75, u76, u77, u78, u79, u80, u81, u82, u83, u84, u85, u86, .int .i64 K, u88, u89, u90, u91, u92, u93, u94, u95, u96, u97, u98, u99, u100, u101, u102, u103, u104, u105, u106, u107, u108, u109, u110, u111, u112, u113, u114, u115, u116, u117, u118, u119, u120, u121, u122, u123, u124, u125, u126, u127, u128, u129, u130, u131, u132, u133, u134, u135, u136, u137, u138, u139, u140, u141, u142, u143, u144, u145, u146, u147, u148, u149, u150, u151, u152, u153, u154, u155, u156, u157, u158, u159, u160, u161, u162, u163, u164, u165, u166, u167, u168, u169, u170, u171, u172, u173, u174, u175, u176, u177, u178, u179, u180, u181, u182, u183, u184, u185, u186, u187, u188, u189, u190, u191, u192, u193, u194, u195, u196, u197, u198, u199, u200, u201, u202, u203, u204, u205, u206, u207, u208, u209, u210, u211, u212, u213, u214, u215, u216, u217, u218, u219, u220, u221, u222, u223, u224, u225, u226, u227, u228, u229, u230, u231, u232, u233, u234, u235, u236, u237, u238, u239, u240, u241, u242, u243, u244, u245, u246, u247, u248, u249, u250, u251, u252, u253, u254, u255, u256, u257, u258, u259, u260, u261, u262, u263, u264, u265, u266, u267, u268, u269, u270, u271, u272, u273, u274, u275, u276, u277, u278, u279, u280, u281, u282, u283, u284, u285, u286, u287, u288, u289, u290, u291, u292, u293, u294, u295, u296, u297, u298, u299, u300], []⟩ wr := by
  conv => arg 2; whnf
  have HQ := hid hq
  clear hq
  obtain ⟨i60, s, hbk, n40, ca, bel, c, hrd, hhad, hlo, nums, bytes, is, n64, a64, b8, t32, sl4, pl2⟩ := H
  obtain ⟨x0, x1, x2, x3, x4, x5, x6⟩ := tc c.tc
  have hnp12 := s.np
  have hb12 := s.b12
  have har := arm_any dv _ n m D N wr s.dev n64
  have S := hid s
  have C := hid c
  have HBK := hid hbk
  have HRD := hid hrd
  have HHAD := hid hhad
  have HN40 := hid n40
  have HCA := hid ca
  have BEL := hid bel
  have HNP := hid hnp12
  have HLO := hid hlo
  have NX := hid (Nx.arm s.ok N n64)
  clear s c bel nums is hbk hrd hhad n40 ca hnp12 hb12 hlo
  go_wp2_with fail
  refine har.mono ?_
  rintro e w2 ⟨rfl, A2, T2⟩
  dsimp only
  obtain ⟨X2, c2, ap2⟩ := step_d (m' := m) S.out.dev S.out.ref S.out.ap C.out T2 (fun y hy => .inl hy)
  have hxa := rarm_w N w2 X2 n64
  have HA2 := hid A2
  have HX2 := hid X2
  have HC2 := hid c2
  have HAP := hid ap2
  have B2 := hid (BEL.out.trans (T2.below BEL.out.size fun x hx => S.out.dev.own_lo x hx))
  obtain ⟨x0, x1, x2, x3, x4, x5, x6⟩ := tc c2.tc
  clear har A2 X2 c2 ap2 T2
  go_wp2_with fail
  refine hxa.mono ?_
  rintro e w3 ⟨rfl, X3, T3⟩
  dsimp only
  obtain ⟨A3, c3⟩ := step_x HA2.out HX2.out HAP.out HC2.out T3
  have B3 := hid (B2.out.trans (T3.below B2.out.size fun x hx => HX2.out.lo_ x hx))
  have HA3 := hid A3
  have HX3 := hid X3
  have HC3 := hid c3
  have REL := hid (show Rel { D with fuse := N.toNat } { R with arm := N.toNat } from let r := S.out.rel; ⟨r.b, r.calls, rfl, r.down, r.F, r.W, r.P, r.A, r.I, r.E, r.out, r.np, r.ne⟩)
  clear hxa A3 X3 c3 T3 B2 HA2 HX2 HC2
  go_wp2_with fail
  exact HQ.out _ _ _ _ _ _ _ _ _ _ _ _ _ _ _ _ _ _ _ _ _ _ _ _ _ _ _ _ _ _ _ _ _ _ _ _ _ _ _ _ _ _ _ _ _ _ _ _ _ _ _ _ _ _ _ _ _ _ _ _ _ _ _ _ _ _ _ _ _ _ _ _ _ _ _ _ _ _ _ _ _ _ _ _ _ _ _ _ _ _ _ _ _ _ _ _ _ _ _ _ _ _ _ _ _ _ _ _ _ _ _ _ _ _ _ _ _ _ _ _ _ _ _ _ _ _ _ _ _ _ _ _ _ _ _ _ _ _ _ _ _ _ _ _ _ _ _ _ _ _ _ _ _ _ _ _ _ _ _ _ _ _ _ _ _ _ _ _ _ _ _ _ _ _ _ _ _ _ _ _ _ _ _ _ _ _ _ _ _ _ _ _ _ _ _ _ _ _ _ _ _ _ _ _ _ _ _ _ _ _ _ _ _ _ _ _ _ _ _ _ _ _ _ _ _ _ _ _ _ _ _ _ _ _ _ _ _ _ _ _ _ _ _ _ _ _ _ _ _ _ _ _ _ _ _ _ _ ⟨⟨HA3.out, HX3.out, REL.out, NX.out.ok, HAP.out, by rw [NX.out.blocks]; exact S.out.b12, NX.out.fuse⟩, by rw [NX.out.blocks]; exact HBK.out, by have := HN40.out; have := HNP.out; omega, by have := NX.out.calls; have := HCA.out; omega, B3.out, HC3.out, HRD.out, HHAD.out⟩
set_option maxHeartbeats 16000000 in
theorem k4 (H : Ki w1 wr bk dv xr i n m D G R nc Dc cd cm wv hv rr tb K N At B T sa sl sc l pa pl pc zs) (q1 : (K == 1) = false) (q2 : (K == 2) = false) (q3 : (K == 3) = false) (q4 : (K == 4) = true)
    (hq : ∀ (u4 u14 u15 u16 u17 u18 u19 u20 u21 u57 u58 u59 u60 u61 u62 u63 u64 u65 u66 u67 u68 u69 u70 u71 u72 u73 u74 u75 u76 u77 u78 u79 u80 u81 u82 u83 u84 u85 u86 u88 u89 u90 u91 u92 u93 u94 u95 u96 u97 u98 u99 u100 u101 u102 u103 u104 u105 u106 u107 u108 u109 u110 u111 u112 u113 u114 u115 u116 u117 u118 u119 u120 u121 u122 u123 u124 u125 u126 u127 u128 u129 u130 u131 u132 u133 u134 u135 u136 u137 u138 u139 u140 u141 u142 u143 u144 u145 u146 u147 u148 u149 u150 u151 u152 u153 u154 u155 u156 u157 u158 u159 u160 u161 u162 u163 u164 u165 u166 u167 u168 u169 u170 u171 u172 u173 u174 u175 u176 u177 u178 u179 u180 u181 u182 u183 u184 u185 u186 u187 u188 u189 u190 u191 u192 u193 u194 u195 u196 u197 u198 u199 u200 u201 u202 u203 u204 u205 u206 u207 u208 u209 u210 u211 u212 u213 u214 u215 u216 u217 u218 u219 u220 u221 u222 u223 u224 u225 u226 u227 u228 u229 u230 u231 u232 u233 u234 u235 u236 u237 u238 u239 u240 u241 u242 u243 u244 u245 u246 u247 u248 u249 u250 u251 u252 u253 u254 u255 u256 u257 u258 u259 u260 u261 u262 u263 u264 u265 u266 u267 u268 u269 u270 u271 u272 u273 u274 u275 u276 u277 u278 u279 u280 u281 u282 u283 u284 u285 u286 u287 u288 u289 u290 u291 u292 u293 u294 u295 u296 u297 u298 u299 u300 : Value) (w'' : World) (n' : Nat) (m' : Mp) (D' : Dv) (R' : Rd), Aft w1 w'' bk dv xr (i + 1) n' m' D' G R' nc Dc cd cm wv hv rr tb K N At B T sa sl sc pa pl pc → Q0 .normal ⟨#[.int .i64 (bk : Int), .slice a0 len0 cap0, c2, c3, u4, c5, ptr dv, c7, ptr xr, .int .i64 (i : Int), .pointer (some ⟨tb, 0, none⟩), ptr cd, wv, hv, u14, u15, u16, u17, u18, u19, u20, u21, c22, c23, c24, c25, c26, c27, c28, c29, c30, c31, c32, c33, c34, c35, c36, c37, c38, c39, c40, c41, c42, c43, c44, c45, c46, c47, c48, c49, c50, c51, c52, c53, c54, c55, c56, u57, u58, u59, u60, u61, u62, u63, u64, u65, u66, u67, u68, u69, u70, u71, u72, u73, u74, u75, u76, u77, u78, u79, u80, u81, u82, u83, u84, u85, u86, .int .i64 K, u88, u89, u90, u91, u92, u93, u94, u95, u96, u97, u98, u99, u100, u101, u102, u103, u104, u105, u106, u107, u108, u109, u110, u111, u112, u113, u114, u115, u116, u117, u118, u119, u120, u121, u122, u123, u124, u125, u126, u127, u128, u129, u130, u131, u132, u133, u134, u135, u136, u137, u138, u139, u140, u141, u142, u143, u144, u145, u146, u147, u148, u149, u150, u151, u152, u153, u154, u155, u156, u157, u158, u159, u160, u161, u162, u163, u164, u165, u166, u167, u168, u169, u170, u171, u172, u173, u174, u175, u176, u177, u178, u179, u180, u181, u182, u183, u184, u185, u186, u187, u188, u189, u190, u191, u192, u193, u194, u195, u196, u197, u198, u199, u200, u201, u202, u203, u204, u205, u206, u207, u208, u209, u210, u211, u212, u213, u214, u215, u216, u217, u218, u219, u220, u221, u222, u223, u224, u225, u226, u227, u228, u229, u230, u231, u232, u233, u234, u235, u236, u237, u238, u239, u240, u241, u242, u243, u244, u245, u246, u247, u248, u249, u250, u251, u252, u253, u254, u255, u256, u257, u258, u259, u260, u261, u262, u263, u264, u265, u266, u267, u268, u269, u270, u271, u272, u273, u274, u275, u276, u277, u278, u279, u280, u281, u282, u283, u284, u285, u286, u287, u288, u289, u290, u291, u292, u293, u294, u295, u296, u297, u298, u299, u300], []⟩ w'') :
    Code.wp Tryd.prog sw Q0 ⟨#[.int .i64 (bk : Int), .slice a0 len0 cap0, c2, c3, u4, c5, ptr dv, c7, ptr xr, .int .i64 (i : Int), .pointer (some ⟨tb, 0, none⟩), ptr cd, wv, hv, u14, u15, u16, u17, u18, u19, u20, u21, c22, c23, c24, c25, c26, c27, c28, c29, c30, c31, c32, c33, c34, c35, c36, c37, c38, c39, c40, c41, c42, c43, c44, c45, c46, c47, c48, c49, c50, c51, c52, c53, c54, c55, c56, u57, u58, u59, u60, u61, u62, u63, u64, u65, u66, u67, u68, u69, u70, u71, u72, u73, u74, u75, u76, u77, u78, u79, u80, u81, u82, u83, u84, u85, u86, .int .i64 K, u88, u89, u90, u91, u92, u93, u94, u95, u96, u97, u98, u99, u100, u101, u102, u103, u104, u105, u106, u107, u108, u109, u110, u111, u112, u113, u114, u115, u116, u117, u118, u119, u120, u121, u122, u123, u124, u125, u126, u127, u128, u129, u130, u131, u132, u133, u134, u135, u136, u137, u138, u139, u140, u141, u142, u143, u144, u145, u146, u147, u148, u149, u150, u151, u152, u153, u154, u155, u156, u157, u158, u159, u160, u161, u162, u163, u164, u165, u166, u167, u168, u169, u170, u171, u172, u173, u174, u175, u176, u177, u178, u179, u180, u181, u182, u183, u184, u185, u186, u187, u188, u189, u190, u191, u192, u193, u194, u195, u196, u197, u198, u199, u200, u201, u202, u203, u204, u205, u206, u207, u208, u209, u210, u211, u212, u213, u214, u215, u216, u217, u218, u219, u220, u221, u222, u223, u224, u225, u226, u227, u228, u229, u230, u231, u232, u233, u234, u235, u236, u237, u238, u239, u240, u241, u242, u243, u244, u245, u246, u247, u248, u249, u250, u251, u252, u253, u254, u255, u256, u257, u258, u259, u260, u261, u262, u263, u264, u265, u266, u267, u268, u269, u270, u271, u272, u273, u274, u275, u276, u277, u278, u279, u280, u281, u282, u283, u284, u285, u286, u287, u288, u289, u290, u291, u292, u293, u294, u295, u296, u297, u298, u299, u300], []⟩ wr := by
  conv => arg 2; whnf
  have HQ := hid hq
  clear hq
  obtain ⟨i60, s, hbk, n40, ca, bel, c, hrd, hhad, hlo, nums, bytes, is, n64, a64, b8, t32, sl4, pl2⟩ := H
  obtain ⟨x0, x1, x2, x3, x4, x5, x6⟩ := tc c.tc
  have hnp12 := s.np
  have hb12 := s.b12
  have hcr := crash_w dv _ n m D pa pl pc zs wr s.dev (fun w' hT => is.below (bel.trans (hT.below bel.size fun x hx => s.dev.own_lo x hx))) (by omega) (by omega)
  obtain ⟨q5, q6⟩ := is.bound
  have HIS := hid is
  have S := hid s
  have C := hid c
  have HBK := hid hbk
  have HRD := hid hrd
  have HHAD := hid hhad
  have HN40 := hid n40
  have HCA := hid ca
  have BEL := hid bel
  have HNP := hid hnp12
  have HLO := hid hlo
  clear s c bel nums is hbk hrd hhad n40 ca hnp12 hb12 hlo
  go_wp2_with fail
  refine hcr.mono ?_
  rintro e w2 ⟨rfl, ks, p', hks, hp', A2, T2⟩
  dsimp only
  obtain ⟨X2, c2, ap2⟩ := step_d S.out.dev S.out.ref S.out.ap C.out T2 (own_p m p' wr (.inr hp'))
  have NX := hid (Nx.crash S.out.ok ks zs)
  have REL := hid (S.out.rel.crash ks zs hks)
  have B2 := hid (BEL.out.trans (T2.below BEL.out.size fun x hx => S.out.dev.own_lo x hx))
  have hxc := rcrash_w pa pl pc zs w2 X2 (fun w' hT => HIS.out.below (B2.out.trans (hT.below B2.out.size fun x hx => X2.lo_ x hx)))
  have HA2 := hid A2
  have HX2 := hid X2
  have HC2 := hid c2
  have HAP := hid ap2
  obtain ⟨x0, x1, x2, x3, x4, x5, x6⟩ := tc c2.tc
  clear hcr A2 X2 c2 ap2 T2 hp' hks
  go_wp2_with fail
  refine hxc.mono ?_
  rintro e w3 ⟨rfl, X3, T3⟩
  dsimp only
  obtain ⟨A3, c3⟩ := step_x HA2.out HX2.out HAP.out HC2.out T3
  have B3 := hid (B2.out.trans (T3.below B2.out.size fun x hx => HX2.out.lo_ x hx))
  have HA3 := hid A3
  have HX3 := hid X3
  have HC3 := hid c3
  clear hxc A3 X3 c3 T3 B2 HA2 HX2 HC2
  go_wp2_with fail
  exact HQ.out _ _ _ _ _ _ _ _ _ _ _ _ _ _ _ _ _ _ _ _ _ _ _ _ _ _ _ _ _ _ _ _ _ _ _ _ _ _ _ _ _ _ _ _ _ _ _ _ _ _ _ _ _ _ _ _ _ _ _ _ _ _ _ _ _ _ _ _ _ _ _ _ _ _ _ _ _ _ _ _ _ _ _ _ _ _ _ _ _ _ _ _ _ _ _ _ _ _ _ _ _ _ _ _ _ _ _ _ _ _ _ _ _ _ _ _ _ _ _ _ _ _ _ _ _ _ _ _ _ _ _ _ _ _ _ _ _ _ _ _ _ _ _ _ _ _ _ _ _ _ _ _ _ _ _ _ _ _ _ _ _ _ _ _ _ _ _ _ _ _ _ _ _ _ _ _ _ _ _ _ _ _ _ _ _ _ _ _ _ _ _ _ _ _ _ _ _ _ _ _ _ _ _ _ _ _ _ _ _ _ _ _ _ _ _ _ _ _ _ _ _ _ _ _ _ _ _ _ _ _ _ _ _ _ _ _ _ _ _ _ _ _ _ _ _ _ _ _ _ _ _ _ _ _ _ _ _ ⟨⟨HA3.out, HX3.out, REL.out, NX.out.ok, HAP.out, by rw [NX.out.blocks]; exact S.out.b12, NX.out.fuse⟩, by rw [NX.out.blocks]; exact HBK.out, by have := HN40.out; have := HNP.out; omega, by have := NX.out.calls; have := HCA.out; omega, B3.out, HC3.out, HRD.out, HHAD.out⟩
end
end Go.Proofs.YtagbnacffiagcaaDoor.devPlays
