/- The loop of DevPlays: the calls of both devices, at any world behind a draw. -/
import Derived.Test.YtagbnacffiagcaaDoorWDevPlaysA
import Derived.Test.YtagbnacffiagcaaDoorDevPlaysP4
namespace Go.Proofs.YtagbnacffiagcaaDoor.devPlays
open Go Go.RowKit Go.Maps Go.Proofs.YtagbnacffiagcaaDoor.Mem Go.Proofs.YtagbnacffiagcaaDoor.MapsW Go.Proofs.YtagbnacffiagcaaDoor.SeeW Go.Proofs.YtagbnacffiagcaaDoor.DevG Go.Proofs.YtagbnacffiagcaaDoor.RDevW Go.Proofs.YtagbnacffiagcaaDoor.Ints Go.Proofs.YtagbnacffiagcaaDoor.DevL
set_option linter.unusedVariables false
set_option maxRecDepth 1000000
section
variable {lo : Nat} {w : World} {n nc : Nat} {m cm : Mp} {D Dc : Dv} {dv xr cd tb : Nat} {G : Gs} {R : Rd} {wv : Value} {r : Except Nat (List Nat)} {K N At : Int} {B T : Nat} {sa : Option Addr} {sl sc : Nat} {pa : Option Addr} {pl pc : Nat}
/-- the things that stand beside one another -/
structure All (lo : Nat) (w : World) (n : Nat) (m : Mp) (D : Dv) (dv xr : Nat) (G : Gs) (R : Rd) (nc : Nat) (Dc : Dv) (cd : Nat) (cm : Mp) (wv : Value) (r : Except Nat (List Nat)) (tb : Nat) (K N At : Int) (B T : Nat) (sa : Option Addr) (sl sc : Nat) (pa : Option Addr) (pl pc : Nat) : Prop where
  dev : DevG.At w lo dv n m D
  ref : RAt w lo xr G R
  ap : ∀ y ∈ own dv m, y ∉ rown xr G
  c : Cl w nc Dc cd cm dv m xr G wv r tb K N At B T sa sl sc pa pl pc
theorem All.below (h : All lo w n m D dv xr G R nc Dc cd cm wv r tb K N At B T sa sl sc pa pl pc) {w1 : World} (hb : Below w.heap.size w w1) : All lo w1 n m D dv xr G R nc Dc cd cm wv r tb K N At B T sa sl sc pa pl pc :=
  ⟨h.dev.below hb, h.ref.below hb, h.ap, h.c.below hb⟩
theorem All.lo_d (h : All lo w n m D dv xr G R nc Dc cd cm wv r tb K N At B T sa sl sc pa pl pc) {w1 : World} (t : Turn (own dv m) w w1) (hlo : lo ≤ w.heap.size) : Below lo w w1 := t.below hlo h.dev.own_lo
theorem All.lo_x (h : All lo w n m D dv xr G R nc Dc cd cm wv r tb K N At B T sa sl sc pa pl pc) {w1 : World} (t : Turn (rown xr G) w w1) (hlo : lo ≤ w.heap.size) : Below lo w w1 := t.below hlo h.ref.lo_
theorem All.of_d (h : All lo w n m D dv xr G R nc Dc cd cm wv r tb K N At B T sa sl sc pa pl pc) {w1 : World} {n' : Nat} {D' : Dv} (A1 : DevG.At w1 lo dv n' m D') (t : Turn (own dv m) w w1) : All lo w1 n' m D' dv xr G R nc Dc cd cm wv r tb K N At B T sa sl sc pa pl pc := by
  obtain ⟨x1, c1, a1⟩ := step_d (m' := m) h.dev h.ref h.ap h.c t fun y hy => .inl hy
  exact ⟨A1, x1, a1, c1⟩
theorem All.of_x (h : All lo w n m D dv xr G R nc Dc cd cm wv r tb K N At B T sa sl sc pa pl pc) {w1 : World} {R' : Rd} (X1 : RAt w1 lo xr G R') (t : Turn (rown xr G) w w1) : All lo w1 n m D dv xr G R' nc Dc cd cm wv r tb K N At B T sa sl sc pa pl pc := by
  obtain ⟨a1, c1⟩ := step_x h.dev h.ref h.ap h.c t
  exact ⟨a1, X1, h.ap, c1⟩
theorem dwrite (h : All lo w n m D dv xr G R nc Dc cd cm wv r tb K N At B T sa sl sc pa pl pc) (bs : List Addr) (hB : Ev w lo bs five) (hf : Fits N) (hb : D.blocks ≤ 12) (hn : n < 100000) (hc : D.calls < 1000000) (hz : D.fuse ≤ 9223372036854775807) (a : Option Addr) (len cap : Nat) (l : List Nat) (wz : World) (hbz : Below w.heap.size w wz) (hl : Nums .u8 wz a len cap l) :
    Calls Tryd.prog 37 #[ptr dv, .int .i64 N, .slice a len cap] wz fun e w' => (∃ v, Says bs (D.write N len l).1 v ∧ e = .returned v) ∧ All lo w' (n + 1) m (D.write N len l).2 dv xr G R nc Dc cd cm wv r tb K N At B T sa sl sc pa pl pc ∧ Turn (own dv m) w w' := by
  have hz' := h.below hbz
  refine (write_w bs dv lo n m D N a len cap l wz hz'.dev (hB.below hbz) hf (by omega) hl hn hc hz).mono ?_
  rintro e w' ⟨hv, A1, t1⟩
  exact ⟨hv, hz'.of_d A1 t1, (Turn.of_below hbz).then t1⟩
theorem xwrite (h : All lo w n m D dv xr G R nc Dc cd cm wv r tb K N At B T sa sl sc pa pl pc) (hf : Fits N) (hz : R.arm ≤ 9223372036854775807) (hc : R.calls < 1000000) (a : Option Addr) (len cap : Nat) (l : List Nat) (wz : World) (hbz : Below w.heap.size w wz) (hl : Nums .u8 wz a len cap l) :
    Calls Tryd.prog 39 #[ptr xr, .int .i64 N, .slice a len cap] wz fun e w' => e = .returned (.int .i64 (code (R.write N len l).1)) ∧ All lo w' n m D dv xr G (R.write N len l).2 nc Dc cd cm wv r tb K N At B T sa sl sc pa pl pc ∧ Turn (rown xr G) w w' := by
  have hz' := h.below hbz
  refine (rwrite_w N a len cap l wz hz'.ref hf hl hz hc).mono ?_
  rintro e w' ⟨rfl, X1, t1⟩
  exact ⟨rfl, hz'.of_x X1 t1, (Turn.of_below hbz).then t1⟩
theorem dspoil (h : All lo w n m D dv xr G R nc Dc cd cm wv r tb K N At B T sa sl sc pa pl pc) (hf : Fits N) (ha : Fits At) (ht : T < 4294967296) (hn : n < 90000) (hbt : Crc.Bytes (keptOf D N)) (wz : World) (hbz : Below w.heap.size w wz) :
    Calls Tryd.prog 16 #[ptr dv, .int .i64 N, .int .i64 At, .int .u32 T] wz fun e w' => e = .returned (.bool (D.mayS N At T)) ∧ All lo w' (n + 3) m (D.spoil N At T) dv xr G R nc Dc cd cm wv r tb K N At B T sa sl sc pa pl pc ∧ Turn (own dv m) w w' := by
  have hz' := h.below hbz
  refine (spoil_w dv lo n m D N At T wz hz'.dev hf hn ha ht hbt).mono ?_
  rintro e w' ⟨rfl, A1, t1⟩
  exact ⟨rfl, hz'.of_d A1 t1, (Turn.of_below hbz).then t1⟩
theorem xspoil (h : All lo w n m D dv xr G R nc Dc cd cm wv r tb K N At B T sa sl sc pa pl pc) (hf : Fits N) (ha : Fits At) (ht : T < 4294967296) (hby : ∀ q, q < R.b → Crc.Bytes (R.F q)) (wz : World) (hbz : Below w.heap.size w wz) :
    Calls Tryd.prog 45 #[ptr xr, .int .i64 N, .int .i64 At, .int .u32 T] wz fun e w' => e = .returned (.bool (R.mayS N At T)) ∧ All lo w' n m D dv xr G (R.spoil N At T) nc Dc cd cm wv r tb K N At B T sa sl sc pa pl pc ∧ Turn (rown xr G) w w' := by
  have hz' := h.below hbz
  refine (rspoil_w N At T wz hz'.ref hf ha ht hby).mono ?_
  rintro e w' ⟨rfl, X1, t1⟩
  exact ⟨rfl, hz'.of_x X1 t1, (Turn.of_below hbz).then t1⟩
theorem dfail (h : All lo w n m D dv xr G R nc Dc cd cm wv r tb K N At B T sa sl sc pa pl pc) (hf : Fits N) (hn : n < 90000) (wz : World) (hbz : Below w.heap.size w wz) :
    Calls Tryd.prog 17 #[ptr dv, .int .i64 N] wz fun e w' => e = .returned (.bool (D.may N)) ∧ All lo w' (n + 3) m (D.fail N) dv xr G R nc Dc cd cm wv r tb K N At B T sa sl sc pa pl pc ∧ Turn (own dv m) w w' := by
  have hz' := h.below hbz
  refine (fail_w dv lo n m D N wz hz'.dev hf hn).mono ?_
  rintro e w' ⟨rfl, A1, t1⟩
  exact ⟨rfl, hz'.of_d A1 t1, (Turn.of_below hbz).then t1⟩
theorem xfail (h : All lo w n m D dv xr G R nc Dc cd cm wv r tb K N At B T sa sl sc pa pl pc) (hf : Fits N) (wz : World) (hbz : Below w.heap.size w wz) :
    Calls Tryd.prog 46 #[ptr xr, .int .i64 N] wz fun e w' => e = .returned (.bool (R.may N)) ∧ All lo w' n m D dv xr G (R.fail N) nc Dc cd cm wv r tb K N At B T sa sl sc pa pl pc ∧ Turn (rown xr G) w w' := by
  have hz' := h.below hbz
  refine (rfail_w N wz hz'.ref hf).mono ?_
  rintro e w' ⟨rfl, X1, t1⟩
  exact ⟨rfl, hz'.of_x X1 t1, (Turn.of_below hbz).then t1⟩
/-- what Raw leaves -/
def rawD (D : Dv) (N : Int) (l : List Nat) : Dv := if 0 ≤ N ∧ N < D.blocks then D.raw N l else D
def rawR (R : Rd) (N : Int) (l : List Nat) : Rd := if 0 ≤ N ∧ N < R.b then R.raw N.toNat l else R
theorem draw (h : All lo w n m D dv xr G R nc Dc cd cm wv r tb K N At B T sa sl sc pa pl pc) (hf : Fits N) (hn : n < 90000) (a : Option Addr) (cap : Nat) (l : List Nat) (wz : World) (hbz : Below w.heap.size w wz) (hl : Nums .u8 wz a 256 cap l) :
    Calls Tryd.prog 47 #[ptr dv, .int .i64 N, .slice a 256 cap] wz fun e w' => e = .returned (.bool (decide (0 ≤ N ∧ N < D.blocks))) ∧ All lo w' (n + 4) m (rawD D N l) dv xr G R nc Dc cd cm wv r tb K N At B T sa sl sc pa pl pc ∧ Turn (own dv m) w w' := by
  have hz' := h.below hbz
  unfold rawD
  by_cases hi : 0 ≤ N ∧ N < D.blocks
  · rw [if_pos hi, decide_eq_true hi]
    refine (raw_ok dv lo n m D N a cap l wz hz'.dev hf hi hl hn).mono ?_
    rintro e w' ⟨rfl, A1, t1⟩
    exact ⟨rfl, hz'.of_d A1 t1, (Turn.of_below hbz).then t1⟩
  · rw [if_neg hi, decide_eq_false hi]
    refine (raw_no dv lo n m D N a 256 cap wz hz'.dev hf (by decide) (.inl hi)).mono ?_
    rintro e w' ⟨rfl, rfl⟩
    exact ⟨rfl, hz'.of_d (hz'.dev.mono (by omega) (Nat.le_refl _)) (Turn.refl _ _), Turn.of_below hbz⟩
theorem xraw (h : All lo w n m D dv xr G R nc Dc cd cm wv r tb K N At B T sa sl sc pa pl pc) (hf : Fits N) (a : Option Addr) (cap : Nat) (l : List Nat) (wz : World) (hbz : Below w.heap.size w wz) (hl : Nums .u8 wz a 256 cap l) :
    Calls Tryd.prog 48 #[ptr xr, .int .i64 N, .slice a 256 cap] wz fun e w' => e = .returned (.bool (decide (0 ≤ N ∧ N < R.b))) ∧ All lo w' n m D dv xr G (rawR R N l) nc Dc cd cm wv r tb K N At B T sa sl sc pa pl pc ∧ Turn (rown xr G) w w' := by
  have hz' := h.below hbz
  unfold rawR
  by_cases hi : 0 ≤ N ∧ N < R.b
  · rw [if_pos hi, decide_eq_true hi]
    obtain ⟨q, rfl, hq, e⟩ := nat_in hi
    rw [e]
    refine (rraw_ok q a cap l wz hz'.ref hq hl).mono ?_
    rintro e w' ⟨rfl, X1, t1⟩
    exact ⟨rfl, hz'.of_x X1 t1, (Turn.of_below hbz).then t1⟩
  · rw [if_neg hi, decide_eq_false hi]
    refine (rraw_no N a 256 cap wz hz'.ref hf (by decide) (.inl hi)).mono ?_
    rintro e w' ⟨rfl, rfl⟩
    exact ⟨rfl, hz', Turn.of_below hbz⟩
theorem rel_raw (h : Rel D R) (N : Int) (l : List Nat) : Rel (rawD D N l) (rawR R N l) := by
  unfold rawD rawR
  rw [h.b]
  by_cases hi : 0 ≤ N ∧ N < D.blocks
  · rw [if_pos hi, if_pos hi]
    obtain ⟨q, rfl, hq, e⟩ := nat_in hi
    rw [e]
    exact h.raw (by rw [h.b]; exact hq) l
  · rw [if_neg hi, if_neg hi]; exact h
theorem nx_raw (h : Ok D) (hf : D.fuse ≤ 9223372036854775807) (N : Int) {l : List Nat} (hl : Blk l) : Nx D (rawD D N l) := by
  unfold rawD
  split
  · exact Nx.raw h hf N l hl
  · exact ⟨rfl, Nat.le_succ _, hf, h⟩
end
end Go.Proofs.YtagbnacffiagcaaDoor.devPlays
