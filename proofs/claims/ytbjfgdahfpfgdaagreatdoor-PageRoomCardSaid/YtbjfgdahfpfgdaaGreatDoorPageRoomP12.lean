/- PageRoom: what its walk leans on. -/
import Derived.Test.YtbjfgdahfpfgdaaGreatDoorPgBaseP11
import Derived.Test.YtbjfgdahfpfgdaaGreatDoorPgBaseP5
namespace Go.Proofs.YtbjfgdahfpfgdaaGreatDoor.PgW
open Go Go.RowKit Go.Maps Go.Proofs.YtbjfgdahfpfgdaaGreatDoor.Mem Go.Proofs.YtbjfgdahfpfgdaaGreatDoor.MapsW Go.Proofs.YtbjfgdahfpfgdaaGreatDoor.SeeW Go.Proofs.YtbjfgdahfpfgdaaGreatDoor.DevG Go.Proofs.YtbjfgdahfpfgdaaGreatDoor.PgP Go.Proofs.YtbjfgdahfpfgdaaGreatDoor.GeoW
set_option linter.unusedVariables false
set_option maxRecDepth 100000

theorem rgeo_w (b : Nat) (w : World) (h1 : 300 ≤ b) (h2 : b ≤ 6000) :
    Calls Tryz.prog 13 #[.int .i64 b] w fun e w' => e = .returned (.tuple #[GeoW.G b (GeoW.half b), .int .i64 0]) ∧ Below w.heap.size w w' := by
  have HH := hid (show GeoW.half b = min (b / 4) 512 from rfl)
  have d1 : decide ((b : Int) < 300) = false := by rw [decide_eq_false_iff_not]; omega
  have d2 : decide ((6000 : Int) < (b : Int)) = false := by rw [decide_eq_false_iff_not]; omega
  rcases Nat.lt_or_ge (b / 4) 512 with h | h
  · have d3 : (b : Int) / 4 < 512 := by omega
    rw [Nat.min_eq_left (by omega)] at HH
    go_enter Tryz.func13, Tryz.ntmps13
    go_wp2
    refine bodyPost_ret (v := .tuple #[GeoW.G b (((b / 4 : Nat)) : Int), .int .i64 0]) (by simp [results, Tryz.results13, go_sem]; try omega) rfl ⟨by rw [HH.out], (Below.refl _ _).alloc (Nat.le_refl _) _⟩
  · have d3 : (512 : Int) ≤ (b : Int) / 4 := by omega
    rw [Nat.min_eq_right (by omega)] at HH
    go_enter Tryz.func13, Tryz.ntmps13
    go_wp2
    all_goals refine bodyPost_ret (v := .tuple #[GeoW.G b 512, .int .i64 0]) (by simp [results, Tryz.results13, go_sem]; try omega) rfl ⟨by rw [HH.out]; rfl, (Below.refl _ _).alloc (Nat.le_refl _) _⟩
theorem bytes2 (w : World) (x y : Nat) : Nums .u8 (w.alloc (.cells #[.int .u8 (x : Int), .int .u8 (y : Int)] 5)) (some ⟨w.heap.size, 0, none⟩) 2 2 [x, y] := by
  refine ⟨rfl, Nat.le_refl _, by decide, (fun e => nomatch e), fun j u hj => ⟨_, _, rfl, ?_⟩⟩
  match j, hj with
  | 0, hj => cases hj; rw [World.cell?, heap_alloc_new]; rfl
  | 1, hj => cases hj; rw [World.cell?, heap_alloc_new]; rfl
/-- the pages behind r rounds -/
def Pv (n r : Nat) : Int → Option (List Nat) := fun i => if 0 < r ∧ 0 ≤ i ∧ i < n then some [r, i.toNat] else none
/-- .. k of them written -/
def Nw (r k : Nat) : Int → Option (List Nat) := fun i => if 0 ≤ i ∧ i < k then some [r, i.toNat] else none
theorem Nw_zero (r : Nat) : Nw r 0 = Non := by
  funext i
  unfold Nw
  rw [if_neg (by omega)]
theorem Nw_succ (r k : Nat) : upd (Nw r k) (k : Int) (some [r, k]) = Nw r (k + 1) := by
  funext i
  unfold Nw upd
  by_cases e : i = (k : Int)
  · rw [if_pos e, if_pos (by omega)]
    subst e
    rfl
  · rw [if_neg e]
    show (if 0 ≤ i ∧ i < (k : Int) then some [r, i.toNat] else none) = _
    by_cases h : 0 ≤ i ∧ i < (k : Int)
    · rw [if_pos h, if_pos (by omega)]
    · rw [if_neg h, if_neg (by omega)]
theorem Nw_view (n r : Nat) : view (Nw (r + 1) n) (Pv n r) = Pv n (r + 1) := by
  funext i
  unfold view Nw Pv
  by_cases h : 0 ≤ i ∧ i < (n : Int)
  · rw [if_pos h]
    simp only
    rw [if_pos ⟨by omega, h.1, h.2⟩]
  · rw [if_neg h]
    simp only
    rw [if_neg (fun c => h c.2), if_neg (fun c => h c.2)]
theorem Nw_cnt {n r : Nat} (h0 : 0 < n) (h1 : n ≤ 256) : cnt (Nw r n) ≠ 0 := cnt_pos (i := 0) (by decide) (by decide) (by unfold Nw; rw [if_pos (by omega)]; rfl)
theorem Pv_cnt (n r : Nat) : cnt (Pv n r) ≤ n := cnt_le fun p hp => by
  unfold Pv at hp
  split at hp
  · omega
  · cases hp
theorem Pv_zero (n : Nat) : Pv n 0 = Non := by
  funext i
  unfold Pv
  rw [if_neg (by omega)]
theorem Pv_none (r : Nat) : Pv 0 r = Non := by
  funext i
  unfold Pv
  rw [if_neg (by omega)]
theorem Pv_at {n r k : Nat} (h : k < n) : view Non (Pv n r) (k : Int) = if 0 < r then some [r, k] else none := by
  show Pv n r (k : Int) = _
  unfold Pv
  by_cases hr : 0 < r
  · rw [if_pos (by omega), if_pos hr, Int.toNat_natCast]
  · rw [if_neg (by omega), if_neg hr]
theorem non_cnt : cnt Non = 0 := by decide
end Go.Proofs.YtbjfgdahfpfgdaaGreatDoor.PgW
