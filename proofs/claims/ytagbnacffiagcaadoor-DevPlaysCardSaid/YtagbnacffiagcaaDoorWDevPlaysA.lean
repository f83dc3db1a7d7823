/- The loop of DevPlays, cut into declarations: its body, its relation. -/
import Derived.Test.YtagbnacffiagcaaDoorDevPlaysP3
import Derived.Test.YtagbnacffiagcaaDoorDevPlaysP4
import Derived.Deep.RegionHeld3
namespace Go.Proofs.YtagbnacffiagcaaDoor.devPlays
open Go Go.RowKit Go.Maps Go.Proofs.YtagbnacffiagcaaDoor.Mem Go.Proofs.YtagbnacffiagcaaDoor.MapsW Go.Proofs.YtagbnacffiagcaaDoor.SeeW Go.Proofs.YtagbnacffiagcaaDoor.DevG Go.Proofs.YtagbnacffiagcaaDoor.RDevW Go.Proofs.YtagbnacffiagcaaDoor.Ints Go.Proofs.YtagbnacffiagcaaDoor.DevL
set_option linter.unusedVariables false
set_option maxRecDepth 1000000
def firstLoop : Code → Option Code
  | .loop c => some c
  | .seq a b => match firstLoop a with
    | some c => some c
    | none => firstLoop b
  | .block _ c => firstLoop c
  | .scope c => firstLoop c
  | .cond _ a b => match firstLoop a with
    | some c => some c
    | none => firstLoop b
  | _ => none
noncomputable def body : Code := ((Tryd.f6.body.bind firstLoop).getD .skip)
def leftmost : Code → Option Nat
  | .region k _ _ => some k
  | .seq a _ => leftmost a
  | .block _ c => leftmost c
  | .loop c => leftmost c
  | .scope c => leftmost c
  | _ => none
def starts (k : Nat) (c : Code) : Bool := match leftmost c with
  | some j => Nat.beq j k
  | none => false
def orElse : Option Code → Option Code → Option Code
  | some c, _ => some c
  | none, d => d
/-- the greatest part that starts with region k -/
def part (k : Nat) : Code → Option Code
  | .seq a b => if starts k (.seq a b) then some (.seq a b) else orElse (part k a) (part k b)
  | .block j c => orElse (part k c) (if starts k (.block j c) then some (.block j c) else none)
  | .loop c => part k c
  | .scope c => part k c
  | .cond _ a b => orElse (part k a) (part k b)
  | .region j o d => if starts k (.region j o d) then some (.region j o d) else none
  | _ => none
/-- .. a block with it -/
def partB (k : Nat) : Code → Option Code
  | .seq a b => if starts k (.seq a b) then some (.seq a b) else orElse (partB k a) (partB k b)
  | .block j c => if starts k (.block j c) then some (.block j c) else partB k c
  | .loop c => partB k c
  | .scope c => partB k c
  | .cond _ a b => orElse (partB k a) (partB k b)
  | .region j o d => if starts k (.region j o d) then some (.region j o d) else none
  | _ => none
theorem soft {w : World} {lo d n : Nat} {m : Mp} {D : Dv} (h : At w lo d n m D) : ∀ x ∈ own d m, No8 w x := by
  intro x hx
  rcases List.mem_cons.1 hx with rfl | hx
  · exact .inr ⟨_, h.c.1, fun z e => by cases e⟩
  · exact .inl (nocells (h.maps x hx))
/-- the copy of a thing that is told -/
abbrev tcells (K N At : Int) (B T : Nat) (sa : Option Addr) (sl sc : Nat) (pa : Option Addr) (pl pc : Nat) : Array Value := #[.int .i64 K, .int .i64 N, .int .i64 At, .int .u8 (B : Int), .int .u32 (T : Int), .slice sa sl sc, .slice pa pl pc]
abbrev Tc (w : World) (tb : Nat) (K N At : Int) (B T : Nat) (sa : Option Addr) (sl sc : Nat) (pa : Option Addr) (pl pc : Nat) : Prop :=
  w.heap[tb]? = some (.cells (tcells K N At B T sa sl sc pa pl pc) 79)
theorem tc {w : World} {tb : Nat} {K N At : Int} {B T : Nat} {sa : Option Addr} {sl sc : Nat} {pa : Option Addr} {pl pc : Nat} (h : Tc w tb K N At B T sa sl sc pa pl pc) :
    w.cell? ⟨tb, 0, none⟩ = some (.int .i64 K) ∧ w.cell? ⟨tb, 1, none⟩ = some (.int .i64 N) ∧ w.cell? ⟨tb, 2, none⟩ = some (.int .i64 At) ∧ w.cell? ⟨tb, 3, none⟩ = some (.int .u8 (B : Int)) ∧ w.cell? ⟨tb, 4, none⟩ = some (.int .u32 (T : Int)) ∧ w.cell? ⟨tb, 5, none⟩ = some (.slice sa sl sc) ∧ w.cell? ⟨tb, 6, none⟩ = some (.slice pa pl pc) := by
  have h' : w.heap[tb]? = _ := h
  simp [World.cell?, h']
/-- how the device and the document's stand -/
structure Sit (lo : Nat) (w : World) (n : Nat) (m : Mp) (D : Dv) (dv xr : Nat) (G : Gs) (R : Rd) : Prop where
  dev : DevG.At w lo dv n m D
  ref : RAt w lo xr G R
  rel : Rel D R
  ok : Ok D
  ap : ∀ y ∈ own dv m, y ∉ rown xr G
  b12 : D.blocks ≤ 12
  fz : D.fuse ≤ 9223372036854775807
/-- what was read, as it stands -/
def Was (w : World) (wv : Value) (r : Except Nat (List Nat)) : Prop := match r with
  | .ok l => ∃ g c, wv = .slice (some ⟨g, 0, none⟩) 256 c ∧ Nums .u8 w (some ⟨g, 0, none⟩) 256 c l
  | .error _ => wv = .slice none 0 0
/-- what was told of it -/
def Had (hv : Value) (r : Except Nat (List Nat)) : Prop := match r with
  | .ok _ => hv = .nilIface
  | .error _ => ∃ a, hv = ev a
/-- the clone, what was read of it, the thing told -/
structure Cl (w : World) (n : Nat) (D : Dv) (cd : Nat) (cm : Mp) (dv : Nat) (m : Mp) (xr : Nat) (G : Gs) (wv : Value) (r : Except Nat (List Nat)) (tb : Nat) (K N At : Int) (B T : Nat) (sa : Option Addr) (sl sc : Nat) (pa : Option Addr) (pl pc : Nat) : Prop where
  dev : ∃ lo, DevG.At w lo cd n cm D
  apd : ∀ y ∈ own cd cm, y ∉ own dv m
  apx : ∀ y ∈ own cd cm, y ∉ rown xr G
  was : Was w wv r
  tc : Tc w tb K N At B T sa sl sc pa pl pc
  td : tb ∉ own dv m
  tx : tb ∉ rown xr G
section
variable {lo : Nat} {w w1 w2 : World} {n n' nc : Nat} {m m' cm : Mp} {D D' Dc : Dv} {dv xr cd tb : Nat} {G : Gs} {R R' : Rd} {wv : Value} {r : Except Nat (List Nat)} {K N At : Int} {B T : Nat} {sa : Option Addr} {sl sc : Nat} {pa : Option Addr} {pl pc : Nat} {S : List Nat}
theorem Was.turn (h : Was w wv r) (t : Turn S w w1) (hS : ∀ x ∈ S, No8 w x) : Was w1 wv r := by
  unfold Was at *
  cases r with
  | ok l => obtain ⟨g, c, h1, h2⟩ := h; exact ⟨g, c, h1, nums_no8 h2 t hS⟩
  | error k => exact h
theorem Was.below (h : Was w wv r) (hb : Below w.heap.size w w1) : Was w1 wv r := h.turn (S := []) (Turn.of_below hb) (by simp)
theorem Sit.np (s : Sit lo w n m D dv xr G R) : D.np ≤ 12 := by
  have := s.rel.np; have := cnt_le R.P R.b; have := s.rel.b; have := s.b12; omega
theorem Sit.below (s : Sit lo w n m D dv xr G R) (hb : Below w.heap.size w w1) : Sit lo w1 n m D dv xr G R := ⟨s.dev.below hb, s.ref.below hb, s.rel, s.ok, s.ap, s.b12, s.fz⟩
theorem Cl.below (c : Cl w nc Dc cd cm dv m xr G wv r tb K N At B T sa sl sc pa pl pc) (hb : Below w.heap.size w w1) : Cl w1 nc Dc cd cm dv m xr G wv r tb K N At B T sa sl sc pa pl pc :=
  ⟨let ⟨lo, h⟩ := c.dev; ⟨lo, h.below hb⟩, c.apd, c.apx, c.was.below hb, (hb.block tb (Array.getElem?_eq_some_iff.1 c.tc).1).trans c.tc, c.td, c.tx⟩
/-- what the device does leaves the rest -/
theorem step_d (A0 : DevG.At w lo dv n m D) (X0 : RAt w lo xr G R) (ap : ∀ y ∈ own dv m, y ∉ rown xr G) (c : Cl w nc Dc cd cm dv m xr G wv r tb K N At B T sa sl sc pa pl pc) (T1 : Turn (own dv m) w w1) (hm : ∀ y ∈ own dv m', y ∈ own dv m ∨ w.heap.size ≤ y) :
    RAt w1 lo xr G R ∧ Cl w1 nc Dc cd cm dv m' xr G wv r tb K N At B T sa sl sc pa pl pc ∧ ∀ y ∈ own dv m', y ∉ rown xr G := by
  have hS := soft A0
  have ap' : ∀ y ∈ rown xr G, y ∉ own dv m := fun y hy h => ap y h hy
  obtain ⟨lo', hc⟩ := c.dev
  have hco : ∀ y ∈ own cd cm, y < w.heap.size := fun y hy => by
    rcases List.mem_cons.1 hy with rfl | hy
    · exact hc.dlt
    · obtain ⟨es, ck, hb⟩ := hc.maps y hy
      exact (Array.getElem?_eq_some_iff.1 hb).1
  have htl := (Array.getElem?_eq_some_iff.1 c.tc).1
  refine ⟨X0.turn T1 hS ap', ⟨⟨lo', hc.turn T1 (c.apd _ List.mem_cons_self) (fun y hy => c.apd y (List.mem_cons_of_mem _ hy)) hS⟩, fun y hy hm' => ?_, c.apx, c.was.turn T1 hS, T1.cells c.tc c.td, fun h => ?_, c.tx⟩, fun y hy hx => ?_⟩
  · rcases hm y hm' with e | e
    · exact c.apd y hy e
    · have := hco y hy; omega
  · rcases hm tb h with e | e
    · exact c.td e
    · omega
  · rcases hm y hy with e | e
    · exact ap y e hx
    · have := X0.olds y hx; omega
/-- what the document's device does leaves the rest -/
theorem step_x (A1 : DevG.At w lo dv n m D) (X1 : RAt w lo xr G R) (ap : ∀ y ∈ own dv m, y ∉ rown xr G) (c : Cl w nc Dc cd cm dv m xr G wv r tb K N At B T sa sl sc pa pl pc) (T2 : Turn (rown xr G) w w1) :
    DevG.At w1 lo dv n m D ∧ Cl w1 nc Dc cd cm dv m xr G wv r tb K N At B T sa sl sc pa pl pc := by
  obtain ⟨lo', hc⟩ := c.dev
  exact ⟨A1.turn T2 (ap _ List.mem_cons_self) (fun y hy => ap y (List.mem_cons_of_mem _ hy)) X1.n8,
    ⟨⟨lo', hc.turn T2 (c.apx _ List.mem_cons_self) (fun y hy => c.apx y (List.mem_cons_of_mem _ hy)) X1.n8⟩, c.apd, c.apx, c.was.turn T2 X1.n8, T2.cells c.tc c.tx, c.td, c.tx⟩⟩
theorem own_p (m : Mp) (p' : Nat) (w : World) (hp : p' = m.p ∨ w.heap.size ≤ p') : ∀ y ∈ own dv { m with p := p' }, y ∈ own dv m ∨ w.heap.size ≤ y := fun y hy => by
  simp only [own, Mp.list, List.mem_cons, List.not_mem_nil, or_false] at hy ⊢
  omega
/-- an error's number is told -/
theorem says_is (bs : List Addr) (w : World) (hB : Bs w bs) (r : Option Nat) (v : Value) (h : Says bs r v) : Calls Tryd.prog 21 #[v, .int .i64 (code r)] w fun e w' => e = .returned (.bool true) ∧ Below w.heap.size w w' := by
  cases r with
  | none =>
    have h' : v = .nilIface := h
    subst h'
    refine (is_nil w (code none)).mono ?_
    rintro e w' ⟨rfl, hb⟩
    exact ⟨rfl, hb⟩
  | some k =>
    obtain ⟨a, ha, rfl⟩ := h
    refine (is_w bs w hB k a ha (code (some k))).mono ?_
    rintro e w' ⟨rfl, hb⟩
    exact ⟨by show Ending.returned (.bool (101 + (k : Int) == 101 + (k : Int))) = _; rw [beq_self_eq_true], hb⟩
end
/-- behind a thing told -/
structure Aft (w1 w : World) (bk dv xr i n : Nat) (m : Mp) (D : Dv) (G : Gs) (R : Rd) (nc : Nat) (Dc : Dv) (cd : Nat) (cm : Mp) (wv hv : Value) (rr : Except Nat (List Nat)) (tb : Nat) (K N At : Int) (B T : Nat) (sa : Option Addr) (sl sc : Nat) (pa : Option Addr) (pl pc : Nat) : Prop where
  s : Sit w1.heap.size w n m D dv xr G R
  bk_ : D.blocks = bk
  n40 : n ≤ 40 * i
  ca : D.calls ≤ i
  bel : Below w1.heap.size w1 w
  c : Cl w nc Dc cd cm dv m xr G wv rr tb K N At B T sa sl sc pa pl pc
  rd : rr = Dc.get N
  had : Had hv rr ∧ ∀ y ∈ own cd cm, w1.heap.size ≤ y
/-- ahead of it -/
structure Ki (w1 w : World) (bk dv xr i n : Nat) (m : Mp) (D : Dv) (G : Gs) (R : Rd) (nc : Nat) (Dc : Dv) (cd : Nat) (cm : Mp) (wv hv : Value) (rr : Except Nat (List Nat)) (tb : Nat) (K N At : Int) (B T : Nat) (sa : Option Addr) (sl sc : Nat) (l : List Nat) (pa : Option Addr) (pl pc : Nat) (zs : List Int) : Prop where
  i60 : i < 60
  s : Sit w1.heap.size w n m D dv xr G R
  bk_ : D.blocks = bk
  n40 : n ≤ 40 * i
  ca : D.calls ≤ i
  bel : Below w1.heap.size w1 w
  c : Cl w nc Dc cd cm dv m xr G wv rr tb K N At B T sa sl sc pa pl pc
  rd : rr = Dc.get N
  had : Had hv rr ∧ ∀ y ∈ own cd cm, w1.heap.size ≤ y
  lo_ : w1.heap.size ≤ w.heap.size
  nums : Nums .u8 w1 sa sl sc l
  bytes : Crc.Bytes l
  is : Is w1 pa pl pc zs
  n64 : Fits N
  a64 : Fits At
  b8 : B < 256
  t32 : T < 4294967296
  sl4 : sl ≤ 400
  pl2 : pl ≤ 20
/-- how things stand behind i of them -/
structure St (w1 w : World) (bk dv xr i : Nat) : Prop where
  ex : ∃ n m D G R, Sit w1.heap.size w n m D dv xr G R ∧ D.blocks = bk ∧ n ≤ 40 * i ∧ D.calls ≤ i ∧ Below w1.heap.size w1 w
/-- .. ahead of the i-th -/
structure In (a0 : Option Addr) (len0 : Nat) (w1 w : World) (bk dv xr i n : Nat) (m : Mp) (D : Dv) (G : Gs) (R : Rd) (b o : Nat) (K N At : Int) (B T : Nat) (sa : Option Addr) (sl sc : Nat) (l : List Nat) (pa : Option Addr) (pl pc : Nat) (zs : List Int) : Prop where
  a : a0 = some ⟨b, o, none⟩
  lt : i < len0
  most : len0 ≤ 60
  s : Sit w1.heap.size w n m D dv xr G R
  bk_ : D.blocks = bk
  n40 : n ≤ 40 * i
  ca : D.calls ≤ i
  bel : Below w1.heap.size w1 w
  d : D7 w1 b o i K N At B T sa sl sc l pa pl pc zs
noncomputable def sw : Code := (partB 23 body).getD .skip
noncomputable def tail : Code := (part 44 body).getD .skip
noncomputable def tail2 : Code := (part 52 body).getD .skip
def WI (a0 : Option Addr) (len0 cap0 bk : Nat) (w1 : World) (dv xr : Nat) (c2 c3 c5 c7 c22 c23 c24 c25 c26 c27 c28 c29 c30 c31 c32 c33 c34 c35 c36 c37 c38 c39 c40 c41 c42 c43 c44 c45 c46 c47 c48 c49 c50 c51 c52 c53 c54 c55 c56 : Value) (a : Act) (w' : World) : Prop :=
  ∃ u4 u10 u11 u12 u13 u14 u15 u16 u17 u18 u19 u20 u21 u57 u58 u59 u60 u61 u62 u63 u64 u65 u66 u67 u68 u69 u70 u71 u72 u73 u74 u75 u76 u77 u78 u79 u80 u81 u82 u83 u84 u85 u86 u87 u88 u89 u90 u91 u92 u93 u94 u95 u96 u97 u98 u99 u100 u101 u102 u103 u104 u105 u106 u107 u108 u109 u110 u111 u112 u113 u114 u115 u116 u117 u118 u119 u120 u121 u122 u123 u124 u125 u126 u127 u128 u129 u130 u131 u132 u133 u134 u135 u136 u137 u138 u139 u140 u141 u142 u143 u144 u145 u146 u147 u148 u149 u150 u151 u152 u153 u154 u155 u156 u157 u158 u159 u160 u161 u162 u163 u164 u165 u166 u167 u168 u169 u170 u171 u172 u173 u174 u175 u176 u177 u178 u179 u180 u181 u182 u183 u184 u185 u186 u187 u188 u189 u190 u191 u192 u193 u194 u195 u196 u197 u198 u199 u200 u201 u202 u203 u204 u205 u206 u207 u208 u209 u210 u211 u212 u213 u214 u215 u216 u217 u218 u219 u220 u221 u222 u223 u224 u225 u226 u227 u228 u229 u230 u231 u232 u233 u234 u235 u236 u237 u238 u239 u240 u241 u242 u243 u244 u245 u246 u247 u248 u249 u250 u251 u252 u253 u254 u255 u256 u257 u258 u259 u260 u261 u262 u263 u264 u265 u266 u267 u268 u269 u270 u271 u272 u273 u274 u275 u276 u277 u278 u279 u280 u281 u282 u283 u284 u285 u286 u287 u288 u289 u290 u291 u292 u293 u294 u295 u296 u297 u298 u299 u300 v9 : Value, (∃ i : Nat, i ≤ len0 ∧ v9 = .int .i64 (i : Int) ∧ St w1 w' bk dv xr i) ∧ a = ⟨#[.int .i64 (bk : Int), .slice a0 len0 cap0, c2, c3, u4, c5, ptr dv, c7, ptr xr, v9, u10, u11, u12, u13, u14, u15, u16, u17, u18, u19, u20, u21, c22, c23, c24, c25, c26, c27, c28, c29, c30, c31, c32, c33, c34, c35, c36, c37, c38, c39, c40, c41, c42, c43, c44, c45, c46, c47, c48, c49, c50, c51, c52, c53, c54, c55, c56, u57, u58, u59, u60, u61, u62, u63, u64, u65, u66, u67, u68, u69, u70, u71, u72, u73, u74, u75, u76, u77, u78, u79, u80, u81, u82, u83, u84, u85, u86, u87, u88, u89, u90, u91, u92, u93, u94, u95, u96, u97, u98, u99, u100, u101, u102, u103, u104, u105, u106, u107, u108, u109, u110, u111, u112, u113, u114, u115, u116, u117, u118, u119, u120, u121, u122, u123, u124, u125, u126, u127, u128, u129, u130, u131, u132, u133, u134, u135, u136, u137, u138, u139, u140, u141, u142, u143, u144, u145, u146, u147, u148, u149, u150, u151, u152, u153, u154, u155, u156, u157, u158, u159, u160, u161, u162, u163, u164, u165, u166, u167, u168, u169, u170, u171, u172, u173, u174, u175, u176, u177, u178, u179, u180, u181, u182, u183, u184, u185, u186, u187, u188, u189, u190, u191, u192, u193, u194, u195, u196, u197, u198, u199, u200, u201, u202, u203, u204, u205, u206, u207, u208, u209, u210, u211, u212, u213, u214, u215, u216, u217, u218, u219, u220, u221, u222, u223, u224, u225, u226, u227, u228, u229, u230, u231, u232, u233, u234, u235, u236, u237, u238, u239, u240, u241, u242, u243, u244, u245, u246, u247, u248, u249, u250, u251, u252, u253, u254, u255, u256, u257, u258, u259, u260, u261, u262, u263, u264, u265, u266, u267, u268, u269, u270, u271, u272, u273, u274, u275, u276, u277, u278, u279, u280, u281, u282, u283, u284, u285, u286, u287, u288, u289, u290, u291, u292, u293, u294, u295, u296, u297, u298, u299, u300], []⟩
def Wmu (len0 : Nat) (a : Act) (w' : World) : Nat := len0 - (RowKit.intOf (a.tmps[9]?.getD undef)).toNat
end Go.Proofs.YtagbnacffiagcaaDoor.devPlays
