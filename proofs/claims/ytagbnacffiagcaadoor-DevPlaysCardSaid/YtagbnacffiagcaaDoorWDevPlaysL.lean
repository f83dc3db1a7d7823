/- The loop of DevPlays: what each round looks at last of all. -/
import Derived.Test.YtagbnacffiagcaaDoorWDevPlaysA
namespace Go.Proofs.YtagbnacffiagcaaDoor.devPlays
open Go Go.RowKit Go.Maps Go.Proofs.YtagbnacffiagcaaDoor.Mem Go.Proofs.YtagbnacffiagcaaDoor.MapsW Go.Proofs.YtagbnacffiagcaaDoor.SeeW Go.Proofs.YtagbnacffiagcaaDoor.DevG Go.Proofs.YtagbnacffiagcaaDoor.RDevW Go.Proofs.YtagbnacffiagcaaDoor.Ints Go.Proofs.YtagbnacffiagcaaDoor.DevL
set_option linter.unusedVariables false
set_option maxRecDepth 1000000
section
variable {a0 : Option Addr} {len0 cap0 bk : Nat} {w1 wr : World} {dv xr i j n nc : Nat} {m cm : Mp} {D Dc : Dv} {G : Gs} {R : Rd} {cd tb : Nat} {wv hv kv : Value} {rr : Except Nat (List Nat)} {K N At : Int} {B T : Nat} {sa : Option Addr} {sl sc : Nat} {pa : Option Addr} {pl pc : Nat} {c2 c3 c5 c7 c22 c23 c24 c25 c26 c27 c28 c29 c30 c31 c32 c33 c34 c35 c36 c37 c38 c39 c40 c41 c42 c43 c44 c45 c46 c47 c48 c49 c50 c51 c52 c53 c54 c55 c56 u4 u10 u11 u12 u13 u14 u15 u16 u17 u18 u19 u20 u21 u57 u58 u59 u60 u61 u62 u63 u64 u65 u66 u67 u68 u69 u70 u71 u72 u73 u74 u75 u76 u77 u78 u79 u80 u81 u82 u83 u84 u85 u86 u87 u88 u89 u90 u91 u92 u93 u94 u95 u96 u97 u98 u99 u100 u101 u102 u103 u104 u105 u106 u107 u108 u109 u110 u111 u112 u113 u114 u115 u116 u117 u118 u119 u120 u121 u122 u123 u124 u125 u126 u127 u128 u129 u130 u131 u132 u133 u134 u135 u136 u137 u138 u139 u140 u141 u142 u143 u144 u145 u146 u147 u148 u149 u150 u151 u152 u153 u154 u155 u156 u157 u158 u159 u160 u161 u162 u163 u164 u165 u166 u167 u168 u169 u170 u171 u172 u173 u174 u175 u176 u177 u178 u179 u180 u181 u182 u183 u184 u185 u186 u187 u188 u189 u190 u191 u192 u193 u194 u195 u196 u197 u198 u199 u200 u201 u202 u203 u204 u205 u206 u207 u208 u209 u210 u211 u212 u213 u214 u215 u216 u217 u218 u219 u220 u221 u222 u223 u224 u225 u226 u227 u228 u229 u230 u231 u232 u233 u234 u235 u236 u237 u238 u239 u240 u241 u242 u243 u244 u245 u246 u247 u248 u249 u250 u251 u252 u253 u254 u255 u256 u257 u258 u259 u260 u261 u262 u263 u264 u265 u266 u267 u268 u269 u270 u271 u272 u273 u274 u275 u276 u277 u278 u279 u280 u281 u282 u283 u284 u285 u286 u287 u288 u289 u290 u291 u292 u293 u294 u295 u296 u297 u298 u299 u300 : Value} {Q0 : Exit → Act → World → Prop}
theorem raise {w : World} {lo lo' d n : Nat} {m : Mp} {D : Dv} (h : DevG.At w lo d n m D) (hl : ∀ y ∈ own d m, lo' ≤ y) : DevG.At w lo' d n m D :=
  ⟨h.cells, h.rf, h.rp, h.ba, h.bi, h.be, h.nodup, hl _ List.mem_cons_self, fun x hx => hl x (List.mem_cons_of_mem _ hx)⟩
set_option maxHeartbeats 16000000 in
theorem last_w (bs : List Addr) (HB : Ev w1 w1.heap.size bs five) (n64 : Fits N) (s : Sit w1.heap.size wr n m D dv xr G R) (hbk : D.blocks = bk) (bel : Below w1.heap.size w1 wr) (c : Cl wr nc Dc cd cm dv m xr G wv rr tb K N At B T sa sl sc pa pl pc) (hrr : rr = Dc.get N) (hhad : Had hv rr ∧ ∀ y ∈ own cd cm, w1.heap.size ≤ y)
    (hq : ∀ (u4 u10 u11 u12 u13 u14 u15 u16 u17 u18 u19 u20 u21 u57 u58 u59 u60 u61 u62 u63 u64 u65 u66 u67 u68 u69 u70 u71 u72 u73 u74 u75 u76 u77 u78 u79 u80 u81 u82 u83 u84 u85 u86 u87 u88 u89 u90 u91 u92 u93 u94 u95 u96 u97 u98 u99 u100 u101 u102 u103 u104 u105 u106 u107 u108 u109 u110 u111 u112 u113 u114 u115 u116 u117 u118 u119 u120 u121 u122 u123 u124 u125 u126 u127 u128 u129 u130 u131 u132 u133 u134 u135 u136 u137 u138 u139 u140 u141 u142 u143 u144 u145 u146 u147 u148 u149 u150 u151 u152 u153 u154 u155 u156 u157 u158 u159 u160 u161 u162 u163 u164 u165 u166 u167 u168 u169 u170 u171 u172 u173 u174 u175 u176 u177 u178 u179 u180 u181 u182 u183 u184 u185 u186 u187 u188 u189 u190 u191 u192 u193 u194 u195 u196 u197 u198 u199 u200 u201 u202 u203 u204 u205 u206 u207 u208 u209 u210 u211 u212 u213 u214 u215 u216 u217 u218 u219 u220 u221 u222 u223 u224 u225 u226 u227 u228 u229 u230 u231 u232 u233 u234 u235 u236 u237 u238 u239 u240 u241 u242 u243 u244 u245 u246 u247 u248 u249 u250 u251 u252 u253 u254 u255 u256 u257 u258 u259 u260 u261 u262 u263 u264 u265 u266 u267 u268 u269 u270 u271 u272 u273 u274 u275 u276 u277 u278 u279 u280 u281 u282 u283 u284 u285 u286 u287 u288 u289 u290 u291 u292 u293 u294 u295 u296 u297 u298 u299 u300 : Value) (w' : World), Below wr.heap.size wr w' → Q0 .normal ⟨#[.int .i64 (bk : Int), .slice a0 len0 cap0, c2, c3, u4, c5, ptr dv, c7, ptr xr, .int .i64 (i : Int), u10, u11, u12, u13, u14, u15, u16, u17, u18, u19, u20, u21, c22, c23, c24, c25, c26, c27, c28, c29, c30, c31, c32, c33, c34, c35, c36, c37, c38, c39, c40, c41, c42, c43, c44, c45, c46, c47, c48, c49, c50, c51, c52, c53, c54, c55, c56, u57, u58, u59, u60, u61, u62, u63, u64, u65, u66, u67, u68, u69, u70, u71, u72, u73, u74, u75, u76, u77, u78, u79, u80, u81, u82, u83, u84, u85, u86, u87, u88, u89, u90, u91, u92, u93, u94, u95, u96, u97, u98, u99, u100, u101, u102, u103, u104, u105, u106, u107, u108, u109, u110, u111, u112, u113, u114, u115, u116, u117, u118, u119, u120, u121, u122, u123, u124, u125, u126, u127, u128, u129, u130, u131, u132, u133, u134, u135, u136, u137, u138, u139, u140, u141, u142, u143, u144, u145, u146, u147, u148, u149, u150, u151, u152, u153, u154, u155, u156, u157, u158, u159, u160, u161, u162, u163, u164, u165, u166, u167, u168, u169, u170, u171, u172, u173, u174, u175, u176, u177, u178, u179, u180, u181, u182, u183, u184, u185, u186, u187, u188, u189, u190, u191, u192, u193, u194, u195, u196, u197, u198, u199, u200, u201, u202, u203, u204, u205, u206, u207, u208, u209, u210, u211, u212, u213, u214, u215, u216, u217, u218, u219, u220, u221, u222, u223, u224, u225, u226, u227, u228, u229, u230, u231, u232, u233, u234, u235, u236, u237, u238, u239, u240, u241, u242, u243, u244, u245, u246, u247, u248, u249, u250, u251, u252, u253, u254, u255, u256, u257, u258, u259, u260, u261, u262, u263, u264, u265, u266, u267, u268, u269, u270, u271, u272, u273, u274, u275, u276, u277, u278, u279, u280, u281, u282, u283, u284, u285, u286, u287, u288, u289, u290, u291, u292, u293, u294, u295, u296, u297, u298, u299, u300], []⟩ w') :
    Code.wp Tryd.prog tail2 Q0 ⟨#[.int .i64 (bk : Int), .slice a0 len0 cap0, c2, c3, u4, c5, ptr dv, c7, ptr xr, .int .i64 (i : Int), .pointer (some ⟨tb, 0, none⟩), ptr cd, wv, hv, u14, u15, u16, u17, u18, u19, u20, u21, c22, c23, c24, c25, c26, c27, c28, c29, c30, c31, c32, c33, c34, c35, c36, c37, c38, c39, c40, c41, c42, c43, c44, c45, c46, c47, c48, c49, c50, c51, c52, c53, c54, c55, c56, u57, u58, u59, u60, u61, u62, u63, u64, u65, u66, u67, u68, u69, u70, u71, u72, u73, u74, u75, u76, u77, u78, u79, u80, u81, u82, u83, u84, u85, u86, .int .i64 K, u88, u89, u90, u91, u92, u93, u94, u95, u96, u97, u98, u99, u100, u101, u102, u103, u104, u105, u106, u107, u108, u109, u110, u111, u112, u113, u114, u115, u116, u117, u118, u119, u120, u121, u122, u123, u124, u125, u126, u127, u128, u129, u130, u131, u132, u133, u134, u135, u136, u137, u138, u139, u140, u141, u142, u143, u144, u145, u146, u147, u148, u149, u150, u151, u152, u153, u154, u155, u156, u157, u158, u159, u160, u161, u162, u163, u164, u165, u166, u167, u168, u169, u170, u171, u172, u173, u174, u175, u176, u177, u178, u179, u180, u181, u182, u183, u184, u185, u186, u187, u188, u189, u190, u191, u192, u193, u194, u195, u196, u197, u198, u199, u200, u201, u202, u203, u204, u205, u206, u207, u208, u209, u210, u211, u212, u213, u214, u215, u216, u217, u218, u219, u220, u221, u222, u223, u224, u225, u226, u227, u228, u229, u230, u231, u232, u233, u234, u235, u236, u237, u238, u239, u240, u241, u242, u243, u244, u245, u246, u247, u248, u249, u250, u251, u252, u253, u254, u255, u256, u257, u258, u259, u260, u261, u262, u263, u264, u265, u266, u267, u268, u269, u270, u271, u272, u273, u274, u275, u276, u277, u278, u279, u280, u281, u282, u283, u284, u285, u286, u287, u288, u289, u290, u291, u292, u293, u294, u295, u296, u297, u298, u299, u300], []⟩ wr := by
  conv => arg 2; whnf
  obtain ⟨hhad, hclo⟩ := hhad
  obtain ⟨lo', hc⟩ := c.dev
  have hrd := read_w bs cd _ nc cm Dc N wr (raise hc hclo) (HB.below bel) n64
  rw [← hrr] at hrd
  have hwas := c.was
  obtain ⟨x0, x1, x2, x3, x4, x5, x6⟩ := tc c.tc
  have S := hid s
  have HBK := hid hbk
  have HQ := hid hq
  have BEL := hid bel
  have hbk12 : bk ≤ 12 := by rw [← hbk]; exact s.b12
  clear s hbk hq bel hc hclo c hrr
  cases hk : rr with
  | ok l' =>
    rw [hk] at hrd hhad hwas
    obtain rfl : hv = .nilIface := hhad
    obtain ⟨g1, gc1, rfl, n1⟩ := hwas
    clear hk
    go_upto_region 52 with fail
    go_wp2_with fail
    refine hrd.mono ?_
    rintro e w2 ⟨⟨g2, gc2, rfl, n2, _⟩, b2⟩
    dsimp only
    have s2 := S.out.below b2
    have hdn := fun wz hb => down_w dv _ n m D wz (s2.dev.below (w' := wz) hb)
    have hpn := fun wz hb => pending_w dv _ n m D wz (s2.dev.below (w' := wz) hb)
    have hcn := fun wz hb => calls_w dv _ n m D wz (s2.dev.below (w' := wz) hb)
    have hbn := fun wz hb => blocks_w dv _ n m D wz (s2.dev.below (w' := wz) hb)
    have hen := fun wz hb => ever_w dv _ n m D wz (s2.dev.below (w' := wz) hb)
    have hxp := fun wz hb => rpending_w wz (s2.ref.below (w' := wz) hb)
    have hxe := fun wz hb => rever_w wz (s2.ref.below (w' := wz) hb)
    rw [← s2.rel.np] at hxp
    rw [← s2.rel.ne] at hxe
    rw [HBK.out] at hbn
    obtain ⟨_, _, _, _, _, _, _, _, c6, _, c8, _⟩ := s2.ref.c
    rw [s2.rel.calls] at c6
    rw [s2.rel.down] at c8
    have hsm := fun wz (hb : Below w2.heap.size w2 wz) => RefW.same_w (some ⟨g1, 0, none⟩) 256 gc1 l' (some ⟨g2, 0, none⟩) 256 gc2 l' wz ((n1.below b2).below hb) (n2.below hb)
    rw [decide_eq_true (rfl : l' = l')] at hsm
    have B2 := hid b2
    clear hrd s2 b2
    generalize D.down = z1 at *
    generalize D.np = z2 at *
    generalize D.calls = z3 at *
    generalize D.ne = z4 at *
    go_wp2_with fail
    go_region_held3 (fun w' => w'.cell? ⟨xr, 8, none⟩ = some (.bool z1) ∧ w'.cell? ⟨xr, 6, none⟩ = some (.int .i64 z3))
      (first | exact ⟨c8, c6⟩ | exact ⟨k8, k6⟩ | go_keep)
      (first
        | (go_at_call 51; refine (hdn _ (by first | exact Below.refl _ _ | exact (Below.refl _ _).drew | exact below_drewN (Below.refl _ _) _)).mono ?_; rintro e w' ⟨rfl, rfl⟩; dsimp only)
        | (go_at_call 52; refine (hpn _ (by first | exact Below.refl _ _ | exact (Below.refl _ _).drew | exact below_drewN (Below.refl _ _) _)).mono ?_; rintro e w' ⟨rfl, rfl⟩; dsimp only)
        | (go_at_call 54; refine (hcn _ (by first | exact Below.refl _ _ | exact (Below.refl _ _).drew | exact below_drewN (Below.refl _ _) _)).mono ?_; rintro e w' ⟨rfl, rfl⟩; dsimp only)
        | (go_at_call 55; refine (hbn _ (by first | exact Below.refl _ _ | exact (Below.refl _ _).drew | exact below_drewN (Below.refl _ _) _)).mono ?_; rintro e w' ⟨rfl, rfl⟩; dsimp only)
        | (go_at_call 56; refine (hen _ (by first | exact Below.refl _ _ | exact (Below.refl _ _).drew | exact below_drewN (Below.refl _ _) _)).mono ?_; rintro e w' ⟨rfl, rfl⟩; dsimp only)
        | (go_at_call 53; refine (hxp _ (by first | exact Below.refl _ _ | exact (Below.refl _ _).drew | exact below_drewN (Below.refl _ _) _)).mono ?_; rintro e w' ⟨rfl, rfl⟩; dsimp only)
        | (go_at_call 57; refine (hxe _ (by first | exact Below.refl _ _ | exact (Below.refl _ _).drew | exact below_drewN (Below.refl _ _) _)).mono ?_; rintro e w' ⟨rfl, rfl⟩; dsimp only)
        | (go_at_call 20; refine (hsm _ (by first | exact Below.refl _ _ | exact (Below.refl _ _).drew | exact below_drewN (Below.refl _ _) _)).mono ?_; rintro e w3 ⟨rfl, b3⟩; dsimp only; have b3' : Below w2.heap.size w2 w3 := (by first | exact b3 | exact (Below.refl _ _).drew.trans b3 | exact (below_drewN (Below.refl w2.heap.size w2) _).trans b3); have k8 := kept b3' c8; have k6 := kept b3' c6))
    have B3 := hid (B2.out.trans (b3'.mono B2.out.size))
    clear hdn hpn hcn hbn hen hxp hxe hsm b3 b3' c6 c8 k6 k8
    go_wp2_with fail
    exact HQ.out _ _ _ _ _ _ _ _ _ _ _ _ _ _ _ _ _ _ _ _ _ _ _ _ _ _ _ _ _ _ _ _ _ _ _ _ _ _ _ _ _ _ _ _ _ _ _ _ _ _ _ _ _ _ _ _ _ _ _ _ _ _ _ _ _ _ _ _ _ _ _ _ _ _ _ _ _ _ _ _ _ _ _ _ _ _ _ _ _ _ _ _ _ _ _ _ _ _ _ _ _ _ _ _ _ _ _ _ _ _ _ _ _ _ _ _ _ _ _ _ _ _ _ _ _ _ _ _ _ _ _ _ _ _ _ _ _ _ _ _ _ _ _ _ _ _ _ _ _ _ _ _ _ _ _ _ _ _ _ _ _ _ _ _ _ _ _ _ _ _ _ _ _ _ _ _ _ _ _ _ _ _ _ _ _ _ _ _ _ _ _ _ _ _ _ _ _ _ _ _ _ _ _ _ _ _ _ _ _ _ _ _ _ _ _ _ _ _ _ _ _ _ _ _ _ _ _ _ _ _ _ _ _ _ _ _ _ _ _ _ _ _ _ _ _ _ _ _ _ _ _ _ _ _ _ _ _ _ B3.out
  | error q =>
    rw [hk] at hrd hhad hwas
    obtain ⟨y1, rfl⟩ : ∃ a, hv = ev a := hhad
    obtain rfl : wv = .slice none 0 0 := hwas
    clear hk
    go_upto_region 52 with fail
    go_wp2_with fail
    refine hrd.mono ?_
    rintro e w2 ⟨⟨y2, hy2, rfl⟩, b2⟩
    dsimp only
    have s2 := S.out.below b2
    have hdn := fun wz hb => down_w dv _ n m D wz (s2.dev.below (w' := wz) hb)
    have hpn := fun wz hb => pending_w dv _ n m D wz (s2.dev.below (w' := wz) hb)
    have hcn := fun wz hb => calls_w dv _ n m D wz (s2.dev.below (w' := wz) hb)
    have hbn := fun wz hb => blocks_w dv _ n m D wz (s2.dev.below (w' := wz) hb)
    have hen := fun wz hb => ever_w dv _ n m D wz (s2.dev.below (w' := wz) hb)
    have hxp := fun wz hb => rpending_w wz (s2.ref.below (w' := wz) hb)
    have hxe := fun wz hb => rever_w wz (s2.ref.below (w' := wz) hb)
    rw [← s2.rel.np] at hxp
    rw [← s2.rel.ne] at hxe
    rw [HBK.out] at hbn
    obtain ⟨_, _, _, _, _, _, _, _, c6, _, c8, _⟩ := s2.ref.c
    rw [s2.rel.calls] at c6
    rw [s2.rel.down] at c8
    have hsm := fun wz (hb : Below w2.heap.size w2 wz) => RefW.same_w none 0 0 [] none 0 0 [] wz (Nums.nil _ _) (Nums.nil _ _)
    rw [decide_eq_true (rfl : ([] : List Nat) = [])] at hsm
    have B2 := hid b2
    clear hrd s2 b2
    generalize D.down = z1 at *
    generalize D.np = z2 at *
    generalize D.calls = z3 at *
    generalize D.ne = z4 at *
    go_wp2_with fail
    go_region_held3 (fun w' => w'.cell? ⟨xr, 8, none⟩ = some (.bool z1) ∧ w'.cell? ⟨xr, 6, none⟩ = some (.int .i64 z3))
      (first | exact ⟨c8, c6⟩ | exact ⟨k8, k6⟩ | go_keep)
      (first
        | (go_at_call 51; refine (hdn _ (by first | exact Below.refl _ _ | exact (Below.refl _ _).drew | exact below_drewN (Below.refl _ _) _)).mono ?_; rintro e w' ⟨rfl, rfl⟩; dsimp only)
        | (go_at_call 52; refine (hpn _ (by first | exact Below.refl _ _ | exact (Below.refl _ _).drew | exact below_drewN (Below.refl _ _) _)).mono ?_; rintro e w' ⟨rfl, rfl⟩; dsimp only)
        | (go_at_call 54; refine (hcn _ (by first | exact Below.refl _ _ | exact (Below.refl _ _).drew | exact below_drewN (Below.refl _ _) _)).mono ?_; rintro e w' ⟨rfl, rfl⟩; dsimp only)
        | (go_at_call 55; refine (hbn _ (by first | exact Below.refl _ _ | exact (Below.refl _ _).drew | exact below_drewN (Below.refl _ _) _)).mono ?_; rintro e w' ⟨rfl, rfl⟩; dsimp only)
        | (go_at_call 56; refine (hen _ (by first | exact Below.refl _ _ | exact (Below.refl _ _).drew | exact below_drewN (Below.refl _ _) _)).mono ?_; rintro e w' ⟨rfl, rfl⟩; dsimp only)
        | (go_at_call 53; refine (hxp _ (by first | exact Below.refl _ _ | exact (Below.refl _ _).drew | exact below_drewN (Below.refl _ _) _)).mono ?_; rintro e w' ⟨rfl, rfl⟩; dsimp only)
        | (go_at_call 57; refine (hxe _ (by first | exact Below.refl _ _ | exact (Below.refl _ _).drew | exact below_drewN (Below.refl _ _) _)).mono ?_; rintro e w' ⟨rfl, rfl⟩; dsimp only)
        | (go_at_call 20; refine (hsm _ (by first | exact Below.refl _ _ | exact (Below.refl _ _).drew | exact below_drewN (Below.refl _ _) _)).mono ?_; rintro e w3 ⟨rfl, b3⟩; dsimp only; have b3' : Below w2.heap.size w2 w3 := (by first | exact b3 | exact (Below.refl _ _).drew.trans b3 | exact (below_drewN (Below.refl w2.heap.size w2) _).trans b3); have k8 := kept b3' c8; have k6 := kept b3' c6))
    have B3 := hid (B2.out.trans (b3'.mono B2.out.size))
    clear hdn hpn hcn hbn hen hxp hxe hsm b3 b3' c6 c8 k6 k8
    go_wp2_with fail
    exact HQ.out _ _ _ _ _ _ _ _ _ _ _ _ _ _ _ _ _ _ _ _ _ _ _ _ _ _ _ _ _ _ _ _ _ _ _ _ _ _ _ _ _ _ _ _ _ _ _ _ _ _ _ _ _ _ _ _ _ _ _ _ _ _ _ _ _ _ _ _ _ _ _ _ _ _ _ _ _ _ _ _ _ _ _ _ _ _ _ _ _ _ _ _ _ _ _ _ _ _ _ _ _ _ _ _ _ _ _ _ _ _ _ _ _ _ _ _ _ _ _ _ _ _ _ _ _ _ _ _ _ _ _ _ _ _ _ _ _ _ _ _ _ _ _ _ _ _ _ _ _ _ _ _ _ _ _ _ _ _ _ _ _ _ _ _ _ _ _ _ _ _ _ _ _ _ _ _ _ _ _ _ _ _ _ _ _ _ _ _ _ _ _ _ _ _ _ _ _ _ _ _ _ _ _ _ _ _ _ _ _ _ _ _ _ _ _ _ _ _ _ _ _ _ _ _ _ _ _ _ _ _ _ _ _ _ _ _ _ _ _ _ _ _ _ _ _ _ _ _ _ _ _ _ _ _ _ _ _ _ B3.out
end
end Go.Proofs.YtagbnacffiagcaaDoor.devPlays
