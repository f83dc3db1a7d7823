/- The walks of blob's Get and Good. -/
import Derived.Test.YtagbnacffiagcaaDoorAreaPut
import Derived.Test.YtagbnacffiagcaaDoorGDevMore
import Derived.LaidEql
import Derived.LaidEqlPtr
namespace Go.Proofs.YtagbnacffiagcaaDoor.BlobW
open Go Go.RowKit Go.Maps Go.Proofs.YtagbnacffiagcaaDoor.Mem Go.Proofs.YtagbnacffiagcaaDoor.MapsW Go.Proofs.YtagbnacffiagcaaDoor.SeeW Go.Proofs.YtagbnacffiagcaaDoor.DevG
set_option linter.unusedVariables false
set_option maxRecDepth 100000

/-- what is got of a block, by its sum -/
def got (D : Dv) (i : Int) (s : Nat) : Except Nat (List Nat) :=
  if 2 * (GeoW.half D.blocks : Int) ≤ i ∧ i < D.blocks then (match D.get i with
    | .error k => .error k
    | .ok l => if Crc.sum l = s then .ok l else .error 6) else .error 2
theorem Got.mono {bs : List Addr} {w w1 : World} {r : Except Nat (List Nat)} {e : Ending} {w' : World} (h : Got bs w1 r e w') (hb : w.heap.size ≤ w1.heap.size) : Got bs w r e w' := by
  unfold Got at *
  cases r with
  | ok l =>
    obtain ⟨g, cap, h1, h2, h3⟩ := h
    exact ⟨g, cap, h1, h2, by omega⟩
  | error k => exact h
set_option maxHeartbeats 3200000 in
theorem get_w (bs : List Addr) (lo d n : Nat) (m : Mp) (D : Dv) (a u k : Nat) (A : Ar) (i : Int) (s : Nat) (w : World) (h : AAt w lo d n m D a u k A) (hi : Fits i) (hs : s < 4294967296) (hB : Ev w lo bs RootW.six) (hbt : ∀ i l, D.read i = some l → Crc.Bytes l) :
    Calls Tryd.prog 68 #[ptr a, .agg #[.int .i64 i, .int .u32 s]] w fun e w' => Got bs w (got D i s) e w' ∧ Below w.heap.size w w' := by
  have b0 := (Below.refl w.heap.size w).alloc (Nat.le_refl _) (.cells #[.int .i64 i, .int .u32 s] 32)
  obtain ⟨x0, x1⟩ := new2 w (.int .i64 i) (.int .u32 s) 32
  have H0 := hid (h.below b0)
  have hd := fun w => data_w D.blocks i w h.b2 hi
  obtain ⟨c0, c1, c2, c3, c4, c5, f4, f5⟩ := H0.out.c
  have HB := hid hB
  obtain ⟨r, hr⟩ : ∃ r, r = got D i s := ⟨_, rfl⟩
  rw [← hr]
  have HR := hid hr
  clear h hB hr
  by_cases hD : 2 * (GeoW.half D.blocks : Int) ≤ i ∧ i < D.blocks
  · rw [decide_eq_true hD] at hd
    have HD := hid hD
    clear hD
    go_enter Tryd.func68, Tryd.ntmps68
    go_wp2_with fail
    go_region_held3 (fun w' => w'.cell? ⟨a, 1, none⟩ = some (.int .i64 D.blocks) ∧ w'.cell? ⟨a, 2, none⟩ = some (.int .i64 (GeoW.half D.blocks)) ∧ w'.cell? ⟨w.heap.size, 0, none⟩ = some (.int .i64 i))
      (first | exact ⟨c1, c2, x0⟩ | exact ⟨kept b3 c1, kept b3 c2, kept b3 x0⟩ | go_keep)
      ((go_at_call 103; refine (hd _).mono ?_; rintro e w3 ⟨rfl, b3⟩))
    have B3 := hid ((b0.drew).trans (b3.mono (by simp)))
    have H3 := hid ((H0.out.below (Below.refl _ _).drew).below b3)
    replace x0 := kept b3 (show (w.alloc (.cells #[.int .i64 i, .int .u32 s] 32)).drew.cell? ⟨w.heap.size, 0, none⟩ = _ from x0)
    replace x1 := kept b3 (show (w.alloc (.cells #[.int .i64 i, .int .u32 s] 32)).drew.cell? ⟨w.heap.size, 1, none⟩ = _ from x1)
    have E3 := hid (HB.out.below B3.out)
    have hrd := fun w' (hb : Below w3.heap.size w3 w') => read_w bs d lo n m D i w' (H3.out.below hb).dev ((E3.out.below hb).sub (by decide)) hi
    clear c1 c2 c3 c4 c5 f4 f5 H0 b3 hd b0
    replace c0 := H3.out.c.1
    cases hget : D.get i with
    | error q =>
      have hgt : got D i s = .error q := by unfold got; rw [if_pos HD.out, hget]
      obtain rfl : r = .error q := by rw [HR.out, hgt]
      simp only [hget] at hrd
      clear hget hgt HR
      go_wp2_with fail
      go_region_held3 (fun w' => w'.cell? ⟨a, 0, none⟩ = some (ptr d) ∧ w'.cell? ⟨w.heap.size, 0, none⟩ = some (.int .i64 i))
        (first | exact ⟨c0, x0⟩ | exact ⟨kept b4 c0, kept b4 x0⟩ | go_keep)
        ((go_at_call 36; refine (hrd _ (Below.refl _ _).drew).mono ?_; rintro e w4 ⟨⟨x, hx, rfl⟩, b4⟩))
      have B4 := B3.out.trans ((((Below.refl w3.heap.size w3).drew).trans b4).mono B3.out.size)
      clear hrd b4
      go_wp2_with fail
      refine bodyPost_ret (v := .tuple #[.slice none 0 0, ev x]) (by simp [results, Tryd.results68, go_sem]) rfl ⟨⟨x, hx, rfl⟩, B4⟩
    | ok l =>
      have hlb : Crc.Bytes l := by
        unfold Dv.get at hget
        split at hget
        · cases hget
        · split at hget
          · cases hr : D.read i with
            | none => rw [hr] at hget; cases hget
            | some l' => rw [hr] at hget; cases hget; exact hbt _ _ hr
          · cases hget
      have hgt : got D i s = if Crc.sum l = s then .ok l else .error 6 := by unfold got; rw [if_pos HD.out, hget]
      have HGT := hid hgt
      clear hgt
      simp only [hget] at hrd
      clear hget
      go_wp2_with fail
      go_region_held3 (fun w' => w'.cell? ⟨a, 0, none⟩ = some (ptr d) ∧ w'.cell? ⟨w.heap.size, 0, none⟩ = some (.int .i64 i))
        (first | exact ⟨c0, x0⟩ | exact ⟨kept b4 c0, kept b4 x0⟩ | go_keep)
        ((go_at_call 36; refine (hrd _ (Below.refl _ _).drew).mono ?_; rintro e w4 ⟨⟨g, gc, rfl, hn, hge⟩, b4⟩))
      have B4 := B3.out.trans ((((Below.refl w3.heap.size w3).drew).trans b4).mono B3.out.size)
      replace x1 := kept b4 (show w3.drew.cell? ⟨w.heap.size, 1, none⟩ = _ from x1)
      have hge2 : w.heap.size ≤ g := Nat.le_trans B3.out.size hge
      have E4 := hid (HB.out.below B4)
      clear hrd b4 c0 x0 hge E3 H3 HB
      go_wp2_with fail
      have hsm := fun w' (hb : Below w4.heap.size w4 w') => CrcW.sum_w _ 256 gc l w' (hn.below hb) hlb
      by_cases hq : Crc.sum l = s
      · obtain rfl : r = .ok l := by rw [HR.out, HGT.out, if_pos hq]
        rw [hq] at hsm
        go_region_held3 (fun w' => w'.cell? ⟨w.heap.size, 1, none⟩ = some (.int .u32 s))
          (first | exact x1 | go_keep)
          ((go_at_call 73; refine (hsm _ (Below.refl _ _).drew).mono ?_; rintro e w5 ⟨rfl, rfl⟩))
        clear hsm
        go_wp2_with fail
        refine bodyPost_ret (v := .tuple #[.slice (some ⟨g, 0, none⟩) 256 gc, .nilIface]) (by simp [results, Tryd.results68, go_sem]) rfl ⟨⟨g, gc, rfl, hn.below (Below.refl _ _).drew, hge2⟩, B4.drew⟩
      · obtain rfl : r = .error 6 := by rw [HR.out, HGT.out, if_neg hq]
        have hne : (((Crc.sum l : Nat) : Int) != (s : Int)) = true := by rw [bne_iff_ne]; omega
        obtain ⟨x, hx, hX⟩ := E4.out.get 6 _ (by decide) rfl
        have hX1 := hX.1
        generalize Crc.sum l = y at *
        go_region_held3 (fun w' => w'.cell? ⟨w.heap.size, 1, none⟩ = some (.int .u32 s))
          (first | exact x1 | go_keep)
          ((go_at_call 73; refine (hsm _ (Below.refl _ _).drew).mono ?_; rintro e w5 ⟨rfl, rfl⟩))
        clear hsm hq
        go_wp2_with fail
        go_region
        all_goals
          go_wp2
          refine bodyPost_ret (v := .tuple #[.slice none 0 0, ev x]) (by simp [results, Tryd.results68, go_sem]) rfl ⟨⟨x, hx, rfl⟩, B4.drew.drew⟩
  · have hgt : got D i s = .error 2 := by unfold got; rw [if_neg hD]
    obtain rfl : r = .error 2 := by rw [HR.out, hgt]
    rw [decide_eq_false hD] at hd
    clear hD hgt HR
    go_enter Tryd.func68, Tryd.ntmps68
    go_wp2_with fail
    go_region_held3 (fun w' => w'.cell? ⟨a, 1, none⟩ = some (.int .i64 D.blocks) ∧ w'.cell? ⟨a, 2, none⟩ = some (.int .i64 (GeoW.half D.blocks)) ∧ w'.cell? ⟨w.heap.size, 0, none⟩ = some (.int .i64 i))
      (first | exact ⟨c1, c2, x0⟩ | exact ⟨kept b3 c1, kept b3 c2, kept b3 x0⟩ | go_keep)
      ((go_at_call 103; refine (hd _).mono ?_; rintro e w3 ⟨rfl, b3⟩))
    have B3 := (b0.drew).trans (b3.mono (by simp))
    obtain ⟨x, hx, hX⟩ := (HB.out.below B3).get 2 _ (by decide) rfl
    have hX1 := hX.1
    clear b3 hd
    go_wp2_with fail
    go_region
    all_goals
      go_wp2
      refine bodyPost_ret (v := .tuple #[.slice none 0 0, ev x]) (by simp [results, Tryd.results68, go_sem]) rfl ⟨⟨x, hx, rfl⟩, B3.drew⟩
/-- can it be read? -/
def isOk {α : Type} : Except Nat α → Bool
  | .ok _ => true
  | .error _ => false
theorem good_w (bs : List Addr) (lo d n : Nat) (m : Mp) (D : Dv) (a u k : Nat) (A : Ar) (i : Int) (s : Nat) (w : World) (h : AAt w lo d n m D a u k A) (hi : Fits i) (hs : s < 4294967296) (hB : Ev w lo bs RootW.six) (hbt : ∀ i l, D.read i = some l → Crc.Bytes l) :
    Calls Tryd.prog 69 #[ptr a, .agg #[.int .i64 i, .int .u32 s]] w fun e w' => e = .returned (.bool (isOk (got D i s))) ∧ Below w.heap.size w w' := by
  have b0 := (Below.refl w.heap.size w).alloc (Nat.le_refl _) (.cells #[.int .i64 i, .int .u32 s] 32)
  obtain ⟨x0, x1⟩ := new2 w (.int .i64 i) (.int .u32 s) 32
  have hg := get_w bs lo d n m D a u k A i s _ (h.below b0) hi hs (hB.below b0) hbt
  clear h hB
  generalize got D i s = r at *
  cases r with
  | ok l =>
    go_enter Tryd.func69, Tryd.ntmps69
    go_wp2_with fail
    refine hg.mono ?_
    rintro e w1 ⟨⟨g, gc, rfl, _⟩, b1⟩
    go_wp2
    go_ret
    exact ⟨rfl, b0.trans (b1.mono (by simp))⟩
  | error q =>
    go_enter Tryd.func69, Tryd.ntmps69
    go_wp2_with fail
    refine hg.mono ?_
    rintro e w1 ⟨⟨x, hx, rfl⟩, b1⟩
    go_wp2
    go_ret
    exact ⟨rfl, b0.trans (b1.mono (by simp))⟩
end Go.Proofs.YtagbnacffiagcaaDoor.BlobW
