/- The loop of PairReads, cut into declarations: its body, its relation. -/
import Derived.Test.YtagbnacffiagcaaDoorGPairHv
import Derived.Test.YtagbnacffiagcaaDoorRefSum
import Derived.Deep.RegionHeld3
namespace Go.Proofs.YtagbnacffiagcaaDoor.pairReads
open Go Go.RowKit Go.Maps Go.Proofs.YtagbnacffiagcaaDoor.Mem Go.Proofs.YtagbnacffiagcaaDoor.MapsW Go.Proofs.YtagbnacffiagcaaDoor.SeeW Go.Proofs.YtagbnacffiagcaaDoor.DevG Go.Proofs.YtagbnacffiagcaaDoor.PairG Go.Proofs.YtagbnacffiagcaaDoor.BlobW
set_option linter.unusedVariables false
set_option maxRecDepth 1000000
def firstLoop : Code → Option Code
  | .loop c => some c
  | .seq a b => match firstLoop a with
    | some c => some c
    | none => firstLoop b
  | .block _ c => firstLoop c
  | .scope c => firstLoop c
  | .cond _ a b => match firstLoop a with
    | some c => some c
    | none => firstLoop b
  | _ => none
noncomputable def body : Code := ((Tryd.f3.body.bind firstLoop).getD .skip)
/-- the copy of a thing that is done -/
abbrev Tc (w : World) (tb : Nat) (K N A : Int) (T : Nat) (sa : Option Addr) (sl sc : Nat) : Prop :=
  w.heap[tb]? = some (.cells #[.int .i64 K, .int .i64 N, .int .i64 A, .int .u32 (T : Int), .slice sa sl sc] 35)
theorem tc {w : World} {tb : Nat} {K N A : Int} {T : Nat} {sa : Option Addr} {sl sc : Nat} (h : Tc w tb K N A T sa sl sc) :
    w.cell? ⟨tb, 0, none⟩ = some (.int .i64 K) ∧ w.cell? ⟨tb, 1, none⟩ = some (.int .i64 N) ∧ w.cell? ⟨tb, 2, none⟩ = some (.int .i64 A) ∧ w.cell? ⟨tb, 3, none⟩ = some (.int .u32 (T : Int)) ∧ w.cell? ⟨tb, 4, none⟩ = some (.slice sa sl sc) := by
  have h' : w.heap[tb]? = _ := h
  simp [World.cell?, h']
/-- how things stand behind i of them -/
structure St (w0 w : World) (a r p i : Nat) : Prop where
  ex : ∃ n m D c F, Ses w0 w n m D p 75 c ∧ D.blocks = 300 ∧ n + 3 * D.np ≤ 8 * i ∧ D.calls ≤ 2 * i ∧ c ≤ i ∧ Hv w a r F ∧ (∀ j P, j < 75 → F j = some P → Pr D j P)
/-- .. ahead of the i-th -/
structure In (a0 : Option Addr) (len0 : Nat) (w1 wr : World) (p hv i n : Nat) (m : Mp) (D : Dv) (c : Nat) (F : Nat → Option (List Nat)) (b o : Nat) (K N A : Int) (T : Nat) (sa : Option Addr) (sl sc : Nat) (l : List Nat) : Prop where
  a : a0 = some ⟨b, o, none⟩
  lt : i < len0
  most : len0 ≤ 60
  s : Ses w1 wr n m D p 75 c
  blocks : D.blocks = 300
  n8 : n + 3 * D.np ≤ 8 * i
  calls : D.calls ≤ 2 * i
  c : c ≤ i
  v : Hv wr hv (hv + 1) F
  pr : ∀ j P, j < 75 → F j = some P → Pr D j P
  d : DoAt wr b o i K N A T sa sl sc l
  ph : p < hv
  dh : w1.heap.size + 5 < hv

def WI (a0 : Option Addr) (len0 cap0 : Nat) (w1 : World) (p hv : Nat) (c1 c3 c20 c21 c22 c23 c24 c25 c26 c27 c28 c29 c30 c31 c32 c33 c34 c35 c36 : Value) (a : Act) (w' : World) : Prop :=
  ∃ u2 u9 u10 u11 u12 u13 u14 u15 u16 u17 u18 u19 u37 u38 u39 u40 u41 u42 u43 u44 u45 u46 u47 u48 u49 u50 u51 u52 u53 u54 u55 u56 u57 u58 u59 u60 u61 u62 u63 u64 u65 u66 u67 u68 u69 u70 u71 u72 u73 u74 u75 u76 u77 u78 u79 u80 u81 u82 u83 u84 u85 u86 u87 u88 u89 u90 u91 u92 u93 u94 u95 u96 u97 u98 u99 u100 u101 u102 u103 u104 u105 u106 u107 u108 u109 u110 u111 u112 u113 u114 u115 u116 u117 u118 u119 u120 u121 u122 u123 u124 u125 u126 u127 u128 u129 u130 u131 u132 u133 u134 u135 u136 u137 u138 u139 u140 u141 u142 u143 u144 u145 u146 u147 u148 u149 u150 u151 u152 u153 u154 u155 u156 u157 u158 u159 u160 u161 u162 u163 u164 u165 u166 u167 u168 u169 u170 u171 u172 u173 u174 u175 u176 u177 u178 u179 u180 u181 u182 u183 u184 u185 u186 u187 u188 u189 u190 u191 u192 u193 u194 u195 u196 u197 u198 u199 u200 u201 u202 u203 u204 u205 u206 u207 u208 u209 u210 u211 u212 u213 u214 u215 u216 u217 u218 u219 u220 u221 u222 u223 u224 u225 u226 u227 u228 u229 u230 u231 u232 u233 u234 u235 u236 u237 u238 u239 v8 : Value, (∃ i : Nat, i ≤ len0 ∧ v8 = .int .i64 (i : Int) ∧ St w1 w' hv (hv + 1) p i) ∧ a = ⟨#[.slice a0 len0 cap0, c1, u2, c3, ptr p, ptr (w1.heap.size + 5), .pointer (some ⟨hv, 0, none⟩), .pointer (some ⟨hv + 1, 0, none⟩), v8, u9, u10, u11, u12, u13, u14, u15, u16, u17, u18, u19, c20, c21, c22, c23, c24, c25, c26, c27, c28, c29, c30, c31, c32, c33, c34, c35, c36, u37, u38, u39, u40, u41, u42, u43, u44, u45, u46, u47, u48, u49, u50, u51, u52, u53, u54, u55, u56, u57, u58, u59, u60, u61, u62, u63, u64, u65, u66, u67, u68, u69, u70, u71, u72, u73, u74, u75, u76, u77, u78, u79, u80, u81, u82, u83, u84, u85, u86, u87, u88, u89, u90, u91, u92, u93, u94, u95, u96, u97, u98, u99, u100, u101, u102, u103, u104, u105, u106, u107, u108, u109, u110, u111, u112, u113, u114, u115, u116, u117, u118, u119, u120, u121, u122, u123, u124, u125, u126, u127, u128, u129, u130, u131, u132, u133, u134, u135, u136, u137, u138, u139, u140, u141, u142, u143, u144, u145, u146, u147, u148, u149, u150, u151, u152, u153, u154, u155, u156, u157, u158, u159, u160, u161, u162, u163, u164, u165, u166, u167, u168, u169, u170, u171, u172, u173, u174, u175, u176, u177, u178, u179, u180, u181, u182, u183, u184, u185, u186, u187, u188, u189, u190, u191, u192, u193, u194, u195, u196, u197, u198, u199, u200, u201, u202, u203, u204, u205, u206, u207, u208, u209, u210, u211, u212, u213, u214, u215, u216, u217, u218, u219, u220, u221, u222, u223, u224, u225, u226, u227, u228, u229, u230, u231, u232, u233, u234, u235, u236, u237, u238, u239], []⟩
def Wmu (len0 : Nat) (a : Act) (w' : World) : Nat := len0 - (RowKit.intOf (a.tmps[8]?.getD undef)).toNat
end Go.Proofs.YtagbnacffiagcaaDoor.pairReads
