/- The loop of BlobPlays, cut into declarations: its body, its relation. -/
import Derived.Test.YtagbnacffiagcaaDoorBlobPlaysP4
import Derived.Test.YtagbnacffiagcaaDoorBlobPlaysP2
import Derived.Deep.RegionHeld3
namespace Go.Proofs.YtagbnacffiagcaaDoor.blobPlays
open Go Go.RowKit Go.Maps Go.Proofs.YtagbnacffiagcaaDoor.Mem Go.Proofs.YtagbnacffiagcaaDoor.MapsW Go.Proofs.YtagbnacffiagcaaDoor.SeeW Go.Proofs.YtagbnacffiagcaaDoor.DevG Go.Proofs.YtagbnacffiagcaaDoor.BlobW Go.Proofs.YtagbnacffiagcaaDoor.RefsW Go.Proofs.YtagbnacffiagcaaDoor.Ints
set_option linter.unusedVariables false
set_option maxRecDepth 1000000
def firstLoop : Code → Option Code
  | .loop c => some c
  | .seq a b => match firstLoop a with
    | some c => some c
    | none => firstLoop b
  | .block _ c => firstLoop c
  | .scope c => firstLoop c
  | .cond _ a b => match firstLoop a with
    | some c => some c
    | none => firstLoop b
  | _ => none
noncomputable def body : Code := ((Tryd.f8.body.bind firstLoop).getD .skip)
def leftmost : Code → Option Nat
  | .region k _ _ => some k
  | .seq a _ => leftmost a
  | .block _ c => leftmost c
  | .loop c => leftmost c
  | .scope c => leftmost c
  | _ => none
def starts (k : Nat) (c : Code) : Bool := match leftmost c with
  | some j => Nat.beq j k
  | none => false
def orElse : Option Code → Option Code → Option Code
  | some c, _ => some c
  | none, d => d
/-- the greatest part that starts with region k -/
def part (k : Nat) : Code → Option Code
  | .seq a b => if starts k (.seq a b) then some (.seq a b) else orElse (part k a) (part k b)
  | .block j c => orElse (part k c) (if starts k (.block j c) then some (.block j c) else none)
  | .loop c => part k c
  | .scope c => part k c
  | .cond _ a b => orElse (part k a) (part k b)
  | .region j o d => if starts k (.region j o d) then some (.region j o d) else none
  | _ => none
noncomputable def tail : Code := (part 69 body).getD .skip
/-- the copy of a thing that is done -/
abbrev Tc (w : World) (tb : Nat) (K N At : Int) (T : Nat) (sa : Option Addr) (sl sc : Nat) : Prop :=
  w.heap[tb]? = some (.cells #[.int .i64 K, .int .i64 N, .int .i64 At, .int .u32 (T : Int), .slice sa sl sc] 108)
theorem tc {w : World} {tb : Nat} {K N At : Int} {T : Nat} {sa : Option Addr} {sl sc : Nat} (h : Tc w tb K N At T sa sl sc) :
    w.cell? ⟨tb, 0, none⟩ = some (.int .i64 K) ∧ w.cell? ⟨tb, 1, none⟩ = some (.int .i64 N) ∧ w.cell? ⟨tb, 2, none⟩ = some (.int .i64 At) ∧ w.cell? ⟨tb, 3, none⟩ = some (.int .u32 (T : Int)) ∧ w.cell? ⟨tb, 4, none⟩ = some (.slice sa sl sc) := by
  have h' : w.heap[tb]? = _ := h
  simp [World.cell?, h']
/-- how things stand: the area, the device, the arrays, the places -/
structure Sit (lo : Nat) (w : World) (n : Nat) (m : Mp) (D : Dv) (dv ar u k : Nat) (A : Ar) (ub : Nat) (U G : Nat → Bool) (v : Value) (r : Nat) (rs : List (Int × Nat)) : Prop where
  area : AAt w lo dv n m D ar u k A
  use : InA w ub U
  held : InA w (ub + 1) G
  own : OwnRefs w (ub + 2) v r rs
  nil : r = 0 → v = .slice none 0 0
  row : ∀ x ∈ rs, ∃ p : Nat, x.1 = (p : Int) ∧ 150 ≤ p ∧ p < 300 ∧ x.2 < 4294967296
  off : Off v (aown dv m ar u k)
  uoff : ub ∉ aown dv m ar u k
  goff : ub + 1 ∉ aown dv m ar u k
theorem Sit.below {lo : Nat} {w w' : World} {n : Nat} {m : Mp} {D : Dv} {dv ar u k : Nat} {A : Ar} {ub : Nat} {U G : Nat → Bool} {v : Value} {r : Nat} {rs : List (Int × Nat)} (h : Sit lo w n m D dv ar u k A ub U G v r rs) (hb : Below w.heap.size w w') : Sit lo w' n m D dv ar u k A ub U G v r rs :=
  ⟨h.area.below hb, h.use.below hb, h.held.below hb, own_off h.own (Turn.of_below (S := aown dv m ar u k) hb) h.off, h.nil, h.row, h.off, h.uoff, h.goff⟩
/-- how things stand behind i of them -/
structure St (w1 w : World) (ar dv ub i L : Nat) (v : Value) : Prop where
  ex : ∃ n m D u k A U G r rs, Sit w1.heap.size w n m D dv ar u k A ub U G v r rs ∧ Dk D (2 * i) ∧ n + 3 * D.np ≤ 8 * i ∧ Pl A U G i ∧ r ≤ i ∧ L = A.last ∧ Below w1.heap.size w1 w
/-- .. ahead of the i-th -/
structure In (a0 : Option Addr) (len0 : Nat) (w1 wr : World) (ar dv ub i n : Nat) (m : Mp) (D : Dv) (u k : Nat) (A : Ar) (U G : Nat → Bool) (v : Value) (r : Nat) (rs : List (Int × Nat)) (b o : Nat) (K N At : Int) (T : Nat) (sa : Option Addr) (sl sc : Nat) (l : List Nat) : Prop where
  a : a0 = some ⟨b, o, none⟩
  lt : i < len0
  most : len0 ≤ 60
  s : Sit w1.heap.size wr n m D dv ar u k A ub U G v r rs
  dk : Dk D (2 * i)
  n8 : n + 3 * D.np ≤ 8 * i
  pl : Pl A U G i
  ri : r ≤ i
  bel : Below w1.heap.size w1 wr
  d : DoAt wr b o i K N At T sa sl sc l
  hub : w1.heap.size ≤ ub

def WI (a0 : Option Addr) (len0 cap0 : Nat) (w1 : World) (ar dv ub : Nat) (c1 c3 c31 c32 c33 c34 c35 c36 c37 c38 c39 c40 c41 c42 c43 c44 c45 c46 c47 : Value) (a : Act) (w' : World) : Prop :=
  ∃ u2 u11 u12 u13 u14 u15 u16 u17 u18 u19 u20 u21 u22 u23 u24 u25 u26 u27 u28 u29 u30 u48 u49 u50 u51 u52 u53 u54 u55 u56 u57 u58 u59 u60 u61 u62 u63 u64 u65 u66 u67 u68 u69 u70 u71 u72 u73 u74 u75 u76 u77 u78 u79 u80 u81 u82 u83 u84 u85 u86 u87 u88 u89 u90 u91 u92 u93 u94 u95 u96 u97 u98 u99 u100 u101 u102 u103 u104 u105 u106 u107 u108 u109 u110 u111 u112 u113 u114 u115 u116 u117 u118 u119 u120 u121 u122 u123 u124 u125 u126 u127 u128 u129 u130 u131 u132 u133 u134 u135 u136 u137 u138 u139 u140 u141 u142 u143 u144 u145 u146 u147 u148 u149 u150 u151 u152 u153 u154 u155 u156 u157 u158 u159 u160 u161 u162 u163 u164 u165 u166 u167 u168 u169 u170 u171 u172 u173 u174 u175 u176 u177 u178 u179 u180 u181 u182 u183 u184 u185 u186 u187 u188 u189 u190 u191 u192 u193 u194 u195 u196 u197 u198 u199 u200 u201 u202 u203 u204 u205 u206 u207 u208 u209 u210 u211 u212 u213 u214 u215 u216 u217 u218 u219 u220 u221 u222 u223 u224 u225 u226 u227 u228 u229 u230 u231 u232 u233 u234 u235 u236 u237 u238 u239 u240 u241 u242 u243 u244 u245 u246 u247 u248 u249 u250 u251 u252 u253 u254 u255 u256 u257 u258 u259 u260 u261 u262 u263 u264 u265 u266 u267 u268 u269 u270 u271 u272 u273 u274 u275 u276 u277 u278 u279 u280 u281 u282 u283 u284 u285 u286 u287 u288 u289 u290 u291 u292 u293 u294 u295 u296 u297 u298 u299 u300 u301 u302 u303 u304 u305 u306 u307 u308 u309 u310 u311 u312 u313 u314 u315 u316 u317 u318 u319 u320 u321 u322 u323 u324 u325 u326 u327 u328 u329 u330 u331 u332 u333 u334 u335 u336 u337 u338 u339 u340 u341 u342 u343 u344 u345 u346 u347 u348 u349 u350 u351 u352 u353 u354 u355 u356 u357 u358 u359 u360 u361 v6 v9 v10 : Value, (∃ i L : Nat, i ≤ len0 ∧ v10 = .int .i64 (i : Int) ∧ v9 = .int .i64 (L : Int) ∧ St w1 w' ar dv ub i L v6) ∧ a = ⟨#[.slice a0 len0 cap0, c1, u2, c3, ptr ar, ptr dv, v6, .pointer (some ⟨ub, 0, none⟩), .pointer (some ⟨ub + 1, 0, none⟩), v9, v10, u11, u12, u13, u14, u15, u16, u17, u18, u19, u20, u21, u22, u23, u24, u25, u26, u27, u28, u29, u30, c31, c32, c33, c34, c35, c36, c37, c38, c39, c40, c41, c42, c43, c44, c45, c46, c47, u48, u49, u50, u51, u52, u53, u54, u55, u56, u57, u58, u59, u60, u61, u62, u63, u64, u65, u66, u67, u68, u69, u70, u71, u72, u73, u74, u75, u76, u77, u78, u79, u80, u81, u82, u83, u84, u85, u86, u87, u88, u89, u90, u91, u92, u93, u94, u95, u96, u97, u98, u99, u100, u101, u102, u103, u104, u105, u106, u107, u108, u109, u110, u111, u112, u113, u114, u115, u116, u117, u118, u119, u120, u121, u122, u123, u124, u125, u126, u127, u128, u129, u130, u131, u132, u133, u134, u135, u136, u137, u138, u139, u140, u141, u142, u143, u144, u145, u146, u147, u148, u149, u150, u151, u152, u153, u154, u155, u156, u157, u158, u159, u160, u161, u162, u163, u164, u165, u166, u167, u168, u169, u170, u171, u172, u173, u174, u175, u176, u177, u178, u179, u180, u181, u182, u183, u184, u185, u186, u187, u188, u189, u190, u191, u192, u193, u194, u195, u196, u197, u198, u199, u200, u201, u202, u203, u204, u205, u206, u207, u208, u209, u210, u211, u212, u213, u214, u215, u216, u217, u218, u219, u220, u221, u222, u223, u224, u225, u226, u227, u228, u229, u230, u231, u232, u233, u234, u235, u236, u237, u238, u239, u240, u241, u242, u243, u244, u245, u246, u247, u248, u249, u250, u251, u252, u253, u254, u255, u256, u257, u258, u259, u260, u261, u262, u263, u264, u265, u266, u267, u268, u269, u270, u271, u272, u273, u274, u275, u276, u277, u278, u279, u280, u281, u282, u283, u284, u285, u286, u287, u288, u289, u290, u291, u292, u293, u294, u295, u296, u297, u298, u299, u300, u301, u302, u303, u304, u305, u306, u307, u308, u309, u310, u311, u312, u313, u314, u315, u316, u317, u318, u319, u320, u321, u322, u323, u324, u325, u326, u327, u328, u329, u330, u331, u332, u333, u334, u335, u336, u337, u338, u339, u340, u341, u342, u343, u344, u345, u346, u347, u348, u349, u350, u351, u352, u353, u354, u355, u356, u357, u358, u359, u360, u361], []⟩
def Wmu (len0 : Nat) (a : Act) (w' : World) : Nat := len0 - (RowKit.intOf (a.tmps[10]?.getD undef)).toNat
end Go.Proofs.YtagbnacffiagcaaDoor.blobPlays
