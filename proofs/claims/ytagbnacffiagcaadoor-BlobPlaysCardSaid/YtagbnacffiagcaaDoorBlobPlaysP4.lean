/- The walks of blob's Get and Good; The walks of blob's Open, on a new device; The chapter's examples on areas (9); Plain facts: the areas of BlobHeld; What an area has in use and what it holds, beside two arrays of 300 bools: plain; An array of 300 bools in memory; An area whose device is flushed and spoiled; a row of places beside it; breviaryworld.Number: a number's rest; A slice of structs whose fields are one cell each, opened at every index and field; A slice of things that are done: structs of three ints, a word, bytes; The document's sum (breviaryref1): walks; Plain facts about what a device holds: each row is a block's bytes; An array of 300 bools is laid over by the zero one. -/
import Derived.Test.YtagbnacffiagcaaDoorBlobPlaysP3
import Derived.Test.YtagbnacffiagcaaDoorBlobPlaysP2
import Derived.LaidEql
import Derived.LaidEqlPtr
import Derived.Test.YtagbnacffiagcaaDoorBlobPlaysP1
import Derived.Test.YtagbnacffiagcaaDoorProg
import Derived.Deep.Slices
import Derived.ChangeSame
import Derived.ChangeSlices
import Derived.Deep.MidRow
namespace Go.Proofs.YtagbnacffiagcaaDoor.BlobW
open Go Go.RowKit Go.Maps Go.Proofs.YtagbnacffiagcaaDoor.Mem Go.Proofs.YtagbnacffiagcaaDoor.MapsW Go.Proofs.YtagbnacffiagcaaDoor.SeeW Go.Proofs.YtagbnacffiagcaaDoor.DevG
set_option linter.unusedVariables false
set_option maxRecDepth 100000

/-- what is got of a block, by its sum -/
def got (D : Dv) (i : Int) (s : Nat) : Except Nat (List Nat) :=
  if 2 * (GeoW.half D.blocks : Int) ≤ i ∧ i < D.blocks then (match D.get i with
    | .error k => .error k
    | .ok l => if Crc.sum l = s then .ok l else .error 6) else .error 2
theorem Got.mono {bs : List Addr} {w w1 : World} {r : Except Nat (List Nat)} {e : Ending} {w' : World} (h : Got bs w1 r e w') (hb : w.heap.size ≤ w1.heap.size) : Got bs w r e w' := by
  unfold Got at *
  cases r with
  | ok l =>
    obtain ⟨g, cap, h1, h2, h3⟩ := h
    exact ⟨g, cap, h1, h2, by omega⟩
  | error k => exact h
set_option maxHeartbeats 3200000 in
theorem get_w (bs : List Addr) (lo d n : Nat) (m : Mp) (D : Dv) (a u k : Nat) (A : Ar) (i : Int) (s : Nat) (w : World) (h : AAt w lo d n m D a u k A) (hi : Fits i) (hs : s < 4294967296) (hB : Ev w lo bs RootW.six) (hbt : ∀ i l, D.read i = some l → Crc.Bytes l) :
    Calls Tryd.prog 68 #[ptr a, .agg #[.int .i64 i, .int .u32 s]] w fun e w' => Got bs w (got D i s) e w' ∧ Below w.heap.size w w' := by
  have b0 := (Below.refl w.heap.size w).alloc (Nat.le_refl _) (.cells #[.int .i64 i, .int .u32 s] 32)
  obtain ⟨x0, x1⟩ := new2 w (.int .i64 i) (.int .u32 s) 32
  have H0 := hid (h.below b0)
  have hd := fun w => data_w D.blocks i w h.b2 hi
  obtain ⟨c0, c1, c2, c3, c4, c5, f4, f5⟩ := H0.out.c
  have HB := hid hB
  obtain ⟨r, hr⟩ : ∃ r, r = got D i s := ⟨_, rfl⟩
  rw [← hr]
  have HR := hid hr
  clear h hB hr
  by_cases hD : 2 * (GeoW.half D.blocks : Int) ≤ i ∧ i < D.blocks
  · rw [decide_eq_true hD] at hd
    have HD := hid hD
    clear hD
    go_enter Tryd.func68, Tryd.ntmps68
    go_wp2_with fail
    go_region_held3 (fun w' => w'.cell? ⟨a, 1, none⟩ = some (.int .i64 D.blocks) ∧ w'.cell? ⟨a, 2, none⟩ = some (.int .i64 (GeoW.half D.blocks)) ∧ w'.cell? ⟨w.heap.size, 0, none⟩ = some (.int .i64 i))
      (first | exact ⟨c1, c2, x0⟩ | exact ⟨kept b3 c1, kept b3 c2, kept b3 x0⟩ | go_keep)
      ((go_at_call 103; refine (hd _).mono ?_; rintro e w3 ⟨rfl, b3⟩))
    have B3 := hid ((b0.drew).trans (b3.mono (by simp)))
    have H3 := hid ((H0.out.below (Below.refl _ _).drew).below b3)
    replace x0 := kept b3 (show (w.alloc (.cells #[.int .i64 i, .int .u32 s] 32)).drew.cell? ⟨w.heap.size, 0, none⟩ = _ from x0)
    replace x1 := kept b3 (show (w.alloc (.cells #[.int .i64 i, .int .u32 s] 32)).drew.cell? ⟨w.heap.size, 1, none⟩ = _ from x1)
    have E3 := hid (HB.out.below B3.out)
    have hrd := fun w' (hb : Below w3.heap.size w3 w') => read_w bs d lo n m D i w' (H3.out.below hb).dev ((E3.out.below hb).sub (by decide)) hi
    clear c1 c2 c3 c4 c5 f4 f5 H0 b3 hd b0
    replace c0 := H3.out.c.1
    cases hget : D.get i with
    | error q =>
      have hgt : got D i s = .error q := by unfold got; rw [if_pos HD.out, hget]
      obtain rfl : r = .error q := by rw [HR.out, hgt]
      simp only [hget] at hrd
      clear hget hgt HR
      go_wp2_with fail
      go_region_held3 (fun w' => w'.cell? ⟨a, 0, none⟩ = some (ptr d) ∧ w'.cell? ⟨w.heap.size, 0, none⟩ = some (.int .i64 i))
        (first | exact ⟨c0, x0⟩ | exact ⟨kept b4 c0, kept b4 x0⟩ | go_keep)
        ((go_at_call 36; refine (hrd _ (Below.refl _ _).drew).mono ?_; rintro e w4 ⟨⟨x, hx, rfl⟩, b4⟩))
      have B4 := B3.out.trans ((((Below.refl w3.heap.size w3).drew).trans b4).mono B3.out.size)
      clear hrd b4
      go_wp2_with fail
      refine bodyPost_ret (v := .tuple #[.slice none 0 0, ev x]) (by simp [results, Tryd.results68, go_sem]) rfl ⟨⟨x, hx, rfl⟩, B4⟩
    | ok l =>
      have hlb : Crc.Bytes l := by
        unfold Dv.get at hget
        split at hget
        · cases hget
        · split at hget
          · cases hr : D.read i with
            | none => rw [hr] at hget; cases hget
            | some l' => rw [hr] at hget; cases hget; exact hbt _ _ hr
          · cases hget
      have hgt : got D i s = if Crc.sum l = s then .ok l else .error 6 := by unfold got; rw [if_pos HD.out, hget]
      have HGT := hid hgt
      clear hgt
      simp only [hget] at hrd
      clear hget
      go_wp2_with fail
      go_region_held3 (fun w' => w'.cell? ⟨a, 0, none⟩ = some (ptr d) ∧ w'.cell? ⟨w.heap.size, 0, none⟩ = some (.int .i64 i))
        (first | exact ⟨c0, x0⟩ | exact ⟨kept b4 c0, kept b4 x0⟩ | go_keep)
        ((go_at_call 36; refine (hrd _ (Below.refl _ _).drew).mono ?_; rintro e w4 ⟨⟨g, gc, rfl, hn, hge⟩, b4⟩))
      have B4 := B3.out.trans ((((Below.refl w3.heap.size w3).drew).trans b4).mono B3.out.size)
      replace x1 := kept b4 (show w3.drew.cell? ⟨w.heap.size, 1, none⟩ = _ from x1)
      have hge2 : w.heap.size ≤ g := Nat.le_trans B3.out.size hge
      have E4 := hid (HB.out.below B4)
      clear hrd b4 c0 x0 hge E3 H3 HB
      go_wp2_with fail
      have hsm := fun w' (hb : Below w4.heap.size w4 w') => CrcW.sum_w _ 256 gc l w' (hn.below hb) hlb
      by_cases hq : Crc.sum l = s
      · obtain rfl : r = .ok l := by rw [HR.out, HGT.out, if_pos hq]
        rw [hq] at hsm
        go_region_held3 (fun w' => w'.cell? ⟨w.heap.size, 1, none⟩ = some (.int .u32 s))
          (first | exact x1 | go_keep)
          ((go_at_call 73; refine (hsm _ (Below.refl _ _).drew).mono ?_; rintro e w5 ⟨rfl, rfl⟩))
        clear hsm
        go_wp2_with fail
        refine bodyPost_ret (v := .tuple #[.slice (some ⟨g, 0, none⟩) 256 gc, .nilIface]) (by simp [results, Tryd.results68, go_sem]) rfl ⟨⟨g, gc, rfl, hn.below (Below.refl _ _).drew, hge2⟩, B4.drew⟩
      · obtain rfl : r = .error 6 := by rw [HR.out, HGT.out, if_neg hq]
        have hne : (((Crc.sum l : Nat) : Int) != (s : Int)) = true := by rw [bne_iff_ne]; omega
        obtain ⟨x, hx, hX⟩ := E4.out.get 6 _ (by decide) rfl
        have hX1 := hX.1
        generalize Crc.sum l = y at *
        go_region_held3 (fun w' => w'.cell? ⟨w.heap.size, 1, none⟩ = some (.int .u32 s))
          (first | exact x1 | go_keep)
          ((go_at_call 73; refine (hsm _ (Below.refl _ _).drew).mono ?_; rintro e w5 ⟨rfl, rfl⟩))
        clear hsm hq
        go_wp2_with fail
        go_region
        all_goals
          go_wp2
          refine bodyPost_ret (v := .tuple #[.slice none 0 0, ev x]) (by simp [results, Tryd.results68, go_sem]) rfl ⟨⟨x, hx, rfl⟩, B4.drew.drew⟩
  · have hgt : got D i s = .error 2 := by unfold got; rw [if_neg hD]
    obtain rfl : r = .error 2 := by rw [HR.out, hgt]
    rw [decide_eq_false hD] at hd
    clear hD hgt HR
    go_enter Tryd.func68, Tryd.ntmps68
    go_wp2_with fail
    go_region_held3 (fun w' => w'.cell? ⟨a, 1, none⟩ = some (.int .i64 D.blocks) ∧ w'.cell? ⟨a, 2, none⟩ = some (.int .i64 (GeoW.half D.blocks)) ∧ w'.cell? ⟨w.heap.size, 0, none⟩ = some (.int .i64 i))
      (first | exact ⟨c1, c2, x0⟩ | exact ⟨kept b3 c1, kept b3 c2, kept b3 x0⟩ | go_keep)
      ((go_at_call 103; refine (hd _).mono ?_; rintro e w3 ⟨rfl, b3⟩))
    have B3 := (b0.drew).trans (b3.mono (by simp))
    obtain ⟨x, hx, hX⟩ := (HB.out.below B3).get 2 _ (by decide) rfl
    have hX1 := hX.1
    clear b3 hd
    go_wp2_with fail
    go_region
    all_goals
      go_wp2
      refine bodyPost_ret (v := .tuple #[.slice none 0 0, ev x]) (by simp [results, Tryd.results68, go_sem]) rfl ⟨⟨x, hx, rfl⟩, B3.drew⟩
/-- can it be read? -/
def isOk {α : Type} : Except Nat α → Bool
  | .ok _ => true
  | .error _ => false
theorem good_w (bs : List Addr) (lo d n : Nat) (m : Mp) (D : Dv) (a u k : Nat) (A : Ar) (i : Int) (s : Nat) (w : World) (h : AAt w lo d n m D a u k A) (hi : Fits i) (hs : s < 4294967296) (hB : Ev w lo bs RootW.six) (hbt : ∀ i l, D.read i = some l → Crc.Bytes l) :
    Calls Tryd.prog 69 #[ptr a, .agg #[.int .i64 i, .int .u32 s]] w fun e w' => e = .returned (.bool (isOk (got D i s))) ∧ Below w.heap.size w w' := by
  have b0 := (Below.refl w.heap.size w).alloc (Nat.le_refl _) (.cells #[.int .i64 i, .int .u32 s] 32)
  obtain ⟨x0, x1⟩ := new2 w (.int .i64 i) (.int .u32 s) 32
  have hg := get_w bs lo d n m D a u k A i s _ (h.below b0) hi hs (hB.below b0) hbt
  clear h hB
  generalize got D i s = r at *
  cases r with
  | ok l =>
    go_enter Tryd.func69, Tryd.ntmps69
    go_wp2_with fail
    refine hg.mono ?_
    rintro e w1 ⟨⟨g, gc, rfl, _⟩, b1⟩
    go_wp2
    go_ret
    exact ⟨rfl, b0.trans (b1.mono (by simp))⟩
  | error q =>
    go_enter Tryd.func69, Tryd.ntmps69
    go_wp2_with fail
    refine hg.mono ?_
    rintro e w1 ⟨⟨x, hx, rfl⟩, b1⟩
    go_wp2
    go_ret
    exact ⟨rfl, b0.trans (b1.mono (by simp))⟩
end Go.Proofs.YtagbnacffiagcaaDoor.BlobW

namespace Go.Proofs.YtagbnacffiagcaaDoor.BlobW
open Go Go.RowKit Go.Maps Go.Proofs.YtagbnacffiagcaaDoor.Mem Go.Proofs.YtagbnacffiagcaaDoor.MapsW Go.Proofs.YtagbnacffiagcaaDoor.SeeW Go.Proofs.YtagbnacffiagcaaDoor.DevG
set_option linter.unusedVariables false
set_option maxRecDepth 100000

/-- an area of which nothing is in use -/
def Ar.none (b : Nat) : Ar := ⟨fun _ => false, fun _ => false, 0, 0, b - 1⟩
theorem made_at {lo d n : Nat} {m : Mp} {D : Dv} {W : World} (k : At W lo d n m D) (h1 : 300 ≤ D.blocks) (h2 : D.blocks ≤ 6000) (hlo : lo ≤ W.heap.size) :
    AAt (((W.alloc (.map #[] 0)).alloc (.map #[] 0)).alloc (.cells (acells d D.blocks (GeoW.half D.blocks) W.heap.size (W.heap.size + 1) (D.blocks - 1)) 148)) lo d n m D (W.heap.size + 2) W.heap.size (W.heap.size + 1) (Ar.none D.blocks) := by
  have old := k.old
  have e1 : (W.alloc (.map #[] 0)).heap.size = W.heap.size + 1 := by simp
  have e2 : ((W.alloc (.map #[] 0)).alloc (.map #[] 0)).heap.size = W.heap.size + 2 := by simp
  have b1 := (Below.refl W.heap.size W).alloc (Nat.le_refl _) (.map #[] 0)
  have b2 := b1.alloc (by omega) (.map #[] 0)
  have b3 := b2.alloc (by omega) (.cells (acells d D.blocks (GeoW.half D.blocks) W.heap.size (W.heap.size + 1) (D.blocks - 1)) 148)
  have mu := NumMap.made W
  have mh := NumMap.made (W.alloc (.map #[] 0))
  rw [e1] at mh
  exact ⟨k.below b3, alloc_at e2 _, (mu.still ((Below.heap_alloc _ _ _ (by omega)).trans (Below.heap_alloc _ _ _ (by omega)))).mono (Nat.zero_le n), (mh.still (Below.heap_alloc _ _ _ (by omega))).mono (Nat.zero_le n), by omega, fun hx => by have := old _ hx; omega, fun hx => by have := old _ hx; omega, by omega, hlo, by omega, h1, h2⟩
set_option maxHeartbeats 1600000 in
theorem aopen_w (lo d n : Nat) (m : Mp) (D : Dv) (w : World) (k : At w lo d n m D) (h1 : 300 ≤ D.blocks) (h2 : D.blocks ≤ 6000) (hlo : lo ≤ w.heap.size) :
    Calls Tryd.prog 59 #[ptr d, .slice none 0 0] w fun e w' => ∃ a u q, e = .returned (.tuple #[ptr a, .nilIface]) ∧ AAt w' lo d n m D a u q (Ar.none D.blocks) ∧ Below w.heap.size w w' := by
  have hmm := @run_makeMap Tryd.prog
  go_enter Tryd.func59, Tryd.ntmps59
  go_wp2_with fail
  refine (DevG.blocks_w d lo n m D _ k).mono ?_
  rintro e w' ⟨rfl, rfl⟩
  go_wp2_with fail
  refine (GeoW.of_good D.blocks _ h1 h2).mono ?_
  rintro e w1 ⟨rfl, hb1⟩
  have k1 := k.below hb1
  have hhf := GeoW.half_le D.blocks
  have z1 := hb1.size
  have b2 := (Below.refl w1.heap.size w1).alloc (Nat.le_refl _) (.cells #[.int .i64 D.blocks, .int .i64 (GeoW.half D.blocks)] 116)
  have hz2 : (w1.alloc (.cells #[.int .i64 D.blocks, .int .i64 (GeoW.half D.blocks)] 116)).heap.size = w1.heap.size + 1 := by simp
  have HA := hid (made_at (k1.below b2) h1 h2 (by omega))
  have b3 := ((b2.alloc (by omega) (.map #[] 0)).alloc (by simp; omega) (.map #[] 0)).alloc (by simp; omega) (.cells (acells d D.blocks (GeoW.half D.blocks) (w1.heap.size + 1) (w1.heap.size + 2) (D.blocks - 1)) 148)
  have B3 := hid (hb1.trans (b3.mono z1))
  rw [hz2] at HA
  have hl1 : ((D.blocks - 1 : Nat) : Int) = (D.blocks : Int) - 1 := by omega
  simp only [acells, hl1] at HA B3
  clear b3 b2 hb1 k1 hz2
  generalize hH : GeoW.half D.blocks = H at *
  go_wp2_with fail
  go_loopw [31] (fun iv wr => iv = .int .i64 0 ∧ wr = (((w1.alloc (.cells #[.int .i64 D.blocks, .int .i64 H] 116)).alloc (.map #[] 0)).alloc (.map #[] 0)).alloc (.cells #[ptr d, .int .i64 D.blocks, .int .i64 H, .map (some (w1.heap.size + 1)), .map (some (w1.heap.size + 2)), .int .i64 ((D.blocks : Int) - 1)] 148)) (fun iv _ => 0)
  case atStart => exact ⟨rfl, rfl⟩
  case round =>
    obtain ⟨rfl, rfl⟩ := hrel
    go_wp2_with fail
    refine bodyPost_ret (v := .tuple #[ptr (w1.heap.size + 1 + 2), .nilIface]) (by simp [results, Tryd.results59, go_sem]) rfl ⟨w1.heap.size + 1 + 2, w1.heap.size + 1, w1.heap.size + 1 + 1, rfl, HA.out, B3.out⟩
/-- an area on a new device -/
def Opened (b : Nat) (w : World) (e : Ending) (w' : World) : Prop := ∃ a u q, e = .returned (.tuple #[ptr a, ptr (w.heap.size + 5)]) ∧ AAt w' w.heap.size (w.heap.size + 5) 0 (mp w.heap.size) (Dv.new b) a u q (Ar.none b) ∧ Below w.heap.size w w'
set_option maxHeartbeats 1600000 in
theorem opened_w (b : Nat) (w : World) (h1 : 300 ≤ b) (h2 : b ≤ 6000) :
    Calls Tryd.prog 63 #[.int .i64 b, .slice none 0 0] w (Opened b w) := by
  go_enter Tryd.func63, Tryd.ntmps63
  go_wp2_with fail
  refine (new_w b _ (by omega) h2).mono ?_
  rintro e w1 ⟨rfl, k1, b1, z1⟩
  go_wp2_with fail
  refine (aopen_w _ _ _ _ _ w1 k1 h1 h2 b1.size).mono ?_
  rintro e w2 ⟨a, u, q, rfl, hA, b2⟩
  go_wp2_with fail
  refine bodyPost_ret (v := .tuple #[ptr a, ptr (w.heap.size + 5)]) (by simp [results, Tryd.results63, go_sem]) rfl ⟨a, u, q, rfl, hA, b1.trans (b2.mono b1.size)⟩
end Go.Proofs.YtagbnacffiagcaaDoor.BlobW

namespace Go.Proofs.YtagbnacffiagcaaDoor.BlobW
open Go Go.RowKit Go.Maps Go.Proofs.YtagbnacffiagcaaDoor.Mem Go.Proofs.YtagbnacffiagcaaDoor.MapsW Go.Proofs.YtagbnacffiagcaaDoor.SeeW Go.Proofs.YtagbnacffiagcaaDoor.DevG
set_option linter.unusedVariables false
set_option maxRecDepth 100000

theorem new1 (w : World) (x : Nat) : Nums .u8 (w.alloc (.cells #[.int .u8 (x : Int)] 5)) (some ⟨w.heap.size, 0, none⟩) 1 1 [x] :=
  Row.fresh w #[.int .u8 (x : Int)] 5 (0, 0) 1 rfl (by decide)
theorem newb2 (w : World) (x y : Nat) : Nums .u8 (w.alloc (.cells #[.int .u8 (x : Int), .int .u8 (y : Int)] 5)) (some ⟨w.heap.size, 0, none⟩) 2 2 [x, y] := Row.fresh w #[.int .u8 (x : Int), .int .u8 (y : Int)] 5 (0, 0) 2 rfl (by decide)
theorem next_of {A : Ar} {b : Nat} (K : Nat) (hK : K < datas b) (hf : A.free (spot b A.last K : Nat) = true) (hp : ∀ j, j < K → A.free (spot b A.last j : Nat) = false) : A.next b = some (spot b A.last K) := by
  refine List.find?_eq_some_iff_getElem.2 ⟨hf, K, by rw [List.length_map, List.length_range]; exact hK, ?_, fun j hj => ?_⟩
  · rw [List.getElem_map, List.getElem_range]
  · rw [List.getElem_map, List.getElem_range, hp j hj]; rfl
theorem next_zero {A : Ar} {b i : Nat} (hb : 300 ≤ b) (hi : spot b A.last 0 = i) (hf : A.free (i : Int) = true) : A.next b = some i := by
  subst hi
  exact next_of 0 (datas_pos hb).1 hf fun j hj => absurd hj (Nat.not_lt_zero j)
/-- a device of 300 blocks that is up and unarmed -/
structure Okd (D : Dv) (c : Nat) : Prop where
  blocks : D.blocks = 300
  fuse : D.fuse = 0
  down : D.down = false
  calls : D.calls = c
  bytes : ∀ i l, D.read i = some l → Crc.Bytes l
theorem put_read (D : Dv) (i : Int) (l : List Nat) (j : Int) : (D.put i l).read j = if j = i then some l else D.read j := by
  unfold Dv.read keptOf Dv.put
  show (match upd D.pe i (some l) j with
    | some l => some l
    | none => _) = _
  by_cases h : j = i
  · subst h; rw [upd_same, if_pos rfl]
  · rw [upd_other _ _ h, if_neg h]; rfl
theorem Okd.new : Okd (Dv.new 300) 0 := ⟨rfl, rfl, rfl, rfl, fun i l h => by
  rw [show (Dv.new 300).read i = some (List.replicate 256 0) from rfl] at h; cases h; intro x hx; rw [(List.mem_replicate.1 hx).2]; decide⟩
theorem Okd.put {D : Dv} {c : Nat} (h : Okd D c) (i : Int) {l : List Nat} (hl : Crc.Bytes l) : Okd (D.put i l) (c + 1) := by
  refine ⟨h.blocks, h.fuse, h.down, by show D.calls + 1 = _; rw [h.calls], fun j q hq => ?_⟩
  rw [put_read] at hq
  split at hq
  · cases hq; exact hl
  · exact h.bytes j q hq
theorem Okd.got {D : Dv} {c : Nat} (h : Okd D c) {i : Int} (hi : 150 ≤ i ∧ i < 300) {l : List Nat} (hr : D.read i = some l) (s : Nat) : got D i s = if Crc.sum l = s then .ok l else .error 6 := by
  have hh : GeoW.half D.blocks = 75 := by rw [h.blocks]; decide
  unfold BlobW.got Dv.get
  rw [hh, h.down, h.blocks, if_pos (by omega), if_neg (by decide), if_pos (by omega), hr]
theorem half_300 {D : Dv} {c : Nat} (h : Okd D c) : BlobW.first D.blocks = 150 := by rw [h.blocks]; decide
set_option maxHeartbeats 3200000 in
theorem lawfirst_w (bs : List Addr) (w : World) (hB : Ev w w.heap.size bs RootW.six) : Calls Tryd.prog 58 #[] w fun e w' => e = .returned (.bool true) ∧ Below w.heap.size w w' := by
  have hP : Crc.Bytes (Crc.pad [5]) := Crc.pad_bytes (by intro x hx; simp at hx; subst hx; decide)
  have HP := hid hP
  clear hP
  go_enter Tryd.func58, Tryd.ntmps58
  go_wp2_with fail
  refine (opened_w 300 w (by decide) (by decide)).mono ?_
  rintro e w1 ⟨a, u, k, rfl, A1, b1⟩
  have E1 := hid (hB.below b1)
  have c1 := (Below.refl w1.heap.size w1).alloc (Nat.le_refl _) (.cells #[.int .u8 ((5 : Nat) : Int)] 5)
  have hput := put_w _ _ _ _ _ a u k _ 150 _ 1 1 [5] _ (A1.below c1) (new1 w1 5) (by intro x hx; simp at hx; subst hx; decide) (by decide) (by decide) (by decide) rfl rfl (by decide) (next_zero (by decide) (by decide) (by decide))
  unfold Put at hput
  simp only [Int.cast_ofNat_Int] at hput
  have C1 := hid (b1.trans (c1.mono b1.size))
  have D1 := (Okd.new.put 150 HP.out)
  have hr := D1.got (i := 150) (by decide) (by rw [put_read, if_pos rfl]) (Crc.sum (Crc.pad [5]))
  rw [if_pos rfl] at hr
  have HD := hid D1
  have hget := fun a u k w' n (A : Ar) (h : AAt w' w.heap.size (w.heap.size + 5) n (mp w.heap.size) ((Dv.new 300).put 150 (Crc.pad [5])) a u k A) (hE : Ev w' w.heap.size bs RootW.six) => get_w bs _ _ _ _ _ a u k A 150 (Crc.sum (Crc.pad [5])) w' h (by decide) (Crc.sum_lt HP.out) hE HD.out.bytes
  simp only [hr] at hget
  clear D1 hr A1 c1 b1
  generalize (Dv.new 300).put 150 (Crc.pad [5]) = D at *
  go_wp2_with fail
  refine hput.mono ?_
  rintro e w2 ⟨rfl, A2, T2⟩
  have b3 := (Below.refl w2.heap.size w2).alloc (Nat.le_refl _) (.cells #[.int .i64 150, .int .u32 (Crc.sum (Crc.pad [5]) : Nat)] 32)
  obtain ⟨x0, x1⟩ := Mem.new2 w2 (.int .i64 150) (.int .u32 (Crc.sum (Crc.pad [5]) : Nat)) 32
  have A3 := A2.below b3
  have B3 := hid (C1.out.trans ((T2.below C1.out.size A3.own_lo).trans (b3.mono (Nat.le_trans C1.out.size T2.size))))
  have E3 := (hB.below B3.out)
  have hg := hget a u k _ _ _ A3 E3
  clear hput hget T2 b3 A2 A3 E1 C1
  go_wp2_with fail
  refine hg.mono ?_
  rintro e w4 ⟨⟨g, gc, rfl, hn, hge⟩, b4⟩
  replace x0 := kept b4 x0
  have B4 := hid (B3.out.trans (b4.mono B3.out.size))
  have b5 := (Below.refl w4.heap.size w4).alloc (Nat.le_refl _) (.cells #[.int .u8 ((5 : Nat) : Int)] 5)
  have B5 := hid (B4.out.trans (b5.mono B4.out.size))
  have N5 := hid (hn.below b5)
  replace x0 := kept b5 x0
  have hfl := full_w _ 1 1 [5] _ (new1 w4 5) (by decide)
  clear hg hn b4 b5 B4 B3 x1 E3
  go_wp2_with fail
  refine hfl.mono ?_
  rintro e w6 ⟨g6, gc6, rfl, n6, _, b6⟩
  replace x0 := kept b6 x0
  have B6 := hid (B5.out.trans (b6.mono B5.out.size))
  have hsm := RefW.same_w _ 256 gc _ _ 256 gc6 _ w6 (N5.out.below b6) n6
  rw [decide_eq_true rfl] at hsm
  clear hfl n6 b6 B5 N5
  go_wp2_with fail
  refine hsm.mono ?_
  rintro e w7 ⟨rfl, b7⟩
  replace x0 := kept b7 x0
  have B7 := B6.out.trans (b7.mono B6.out.size)
  clear hsm b7 B6
  go_wp2_with fail
  go_ret
  exact ⟨rfl, B7⟩
end Go.Proofs.YtagbnacffiagcaaDoor.BlobW

namespace Go.Proofs.YtagbnacffiagcaaDoor.BlobW
open Go Go.RowKit Go.Maps Go.Proofs.YtagbnacffiagcaaDoor.Mem Go.Proofs.YtagbnacffiagcaaDoor.MapsW Go.Proofs.YtagbnacffiagcaaDoor.DevG
set_option linter.unusedVariables false

/-- the first block held, i behind it in use -/
def hA (i : Nat) : Ar := ⟨fun x => decide (151 ≤ x ∧ x < 151 + (i : Int)), fun x => decide (x = 150), i, 1, 150 + i⟩
theorem datas_300 : datas 300 = 150 := by decide
theorem first_300 : first 300 = 150 := by decide
theorem spot_300 (last k : Nat) : spot 300 last k = 150 + (last - 150 + 1 + k) % 150 := by unfold spot; rw [first_300, datas_300]
theorem upd_eq {α : Type} (F : Int → α) (i : Int) (x : α) (j : Int) : upd F i x j = if j = i then x else F j := by
  by_cases h : j = i
  · subst h; rw [if_pos rfl, upd_same]
  · rw [if_neg h, upd_other _ _ h]
theorem none_next : (Ar.none 300).next 300 = some 150 := next_zero (by decide) (by decide) rfl
theorem Ar.same {A B : Ar} (h1 : ∀ x, A.used x = B.used x) (h2 : ∀ x, A.held x = B.held x) (h3 : A.nu = B.nu) (h4 : A.nh = B.nh) (h5 : A.last = B.last) : A = B := by
  cases A; cases B
  obtain rfl := funext h1
  obtain rfl := funext h2
  cases h3; cases h4; cases h5
  rfl
theorem hA_zero : ((Ar.none 300).put 150).drop 150 = hA 0 := by
  refine Ar.same (fun x => ?_) (fun x => ?_) rfl rfl rfl
  · show upd (upd (fun _ => false) ((150 : Nat) : Int) true) 150 false x = decide (151 ≤ x ∧ x < 151 + ((0 : Nat) : Int))
    rw [upd_eq, upd_eq, decide_eq_false (show ¬ (151 ≤ x ∧ x < 151 + ((0 : Nat) : Int)) by omega)]
    split
    · rfl
    · rename_i h
      rw [if_neg (show ¬ x = ((150 : Nat) : Int) from h)]
  · show upd (fun _ => false) 150 true x = decide (x = 150)
    rw [upd_eq]
    split
    · symm; rw [decide_eq_true_eq]; assumption
    · symm; rw [decide_eq_false_iff_not]; assumption
theorem hA_next {i : Nat} (h : i < 149) : (hA i).next 300 = some (151 + i) := by
  refine next_zero (by decide) ?_ ?_
  · rw [spot_300]
    show 150 + (150 + i - 150 + 1 + 0) % 150 = _
    omega
  · show (!decide (151 ≤ ((151 + i : Nat) : Int) ∧ ((151 + i : Nat) : Int) < 151 + (i : Int)) && !decide (((151 + i : Nat) : Int) = 150)) = true
    rw [decide_eq_false (by omega), decide_eq_false (by omega)]; rfl
theorem hA_put {i : Nat} : (hA i).put (151 + i) = hA (i + 1) := by
  refine Ar.same (fun x => ?_) (fun x => rfl) ?_ rfl ?_
  · show upd (fun x => decide (151 ≤ x ∧ x < 151 + (i : Int))) ((151 + i : Nat) : Int) true x = decide (151 ≤ x ∧ x < 151 + ((i + 1 : Nat) : Int))
    rw [upd_eq]
    split
    · symm; rw [decide_eq_true_eq]; omega
    · rw [Bool.eq_iff_iff, decide_eq_true_eq, decide_eq_true_eq]; omega
  · show (if decide (151 ≤ ((151 + i : Nat) : Int) ∧ ((151 + i : Nat) : Int) < 151 + (i : Int)) = true then i else i + 1) = i + 1
    rw [decide_eq_false (by omega)]; rfl
  · show 151 + i = 150 + (i + 1)
    omega
theorem hA_full : (hA 149).next 300 = none := by
  refine List.find?_eq_none.2 fun x hx => ?_
  obtain ⟨j, hj, rfl⟩ := List.mem_map.1 hx
  obtain ⟨h1, h2⟩ := spot_in (b := 300) (last := (hA 149).last) (k := j) (by decide)
  rw [first_300] at h1
  generalize spot 300 (hA 149).last j = s at h1 h2
  show ¬ (!decide (151 ≤ (s : Int) ∧ (s : Int) < 151 + ((149 : Nat) : Int)) && !decide ((s : Int) = 150)) = true
  by_cases h : s = 150
  · rw [decide_eq_true (show (s : Int) = 150 by omega)]; simp
  · rw [decide_eq_true (show 151 ≤ (s : Int) ∧ (s : Int) < 151 + ((149 : Nat) : Int) by omega)]; simp
/-- .. and nothing held any more -/
def hD : Ar := { hA 149 with held := fun _ => false, nh := 0 }
theorem hD_next : hD.next 300 = some 150 := by
  refine next_zero (by decide) ?_ ?_
  · rw [spot_300]; rfl
  · show (!decide (151 ≤ ((150 : Nat) : Int) ∧ ((150 : Nat) : Int) < 151 + ((149 : Nat) : Int)) && !false) = true
    rw [decide_eq_false (by omega)]; rfl
theorem hD_put : (hD.put 150).nu = 150 ∧ (hD.put 150).nh = 0 := by
  refine ⟨?_, rfl⟩
  show (if decide (151 ≤ ((150 : Nat) : Int) ∧ ((150 : Nat) : Int) < 151 + ((149 : Nat) : Int)) = true then 149 else 150) = 150
  rw [decide_eq_false (by omega)]; rfl
theorem hA_used : (hA 0).used 150 = false := rfl
end Go.Proofs.YtagbnacffiagcaaDoor.BlobW

namespace Go.Proofs.YtagbnacffiagcaaDoor.BlobW
open Go Go.RowKit Go.Maps Go.Proofs.YtagbnacffiagcaaDoor.Mem Go.Proofs.YtagbnacffiagcaaDoor.MapsW Go.Proofs.YtagbnacffiagcaaDoor.DevG
set_option linter.unusedVariables false
set_option maxRecDepth 100000

def cnt (U : Nat → Bool) : Nat → Nat
  | 0 => 0
  | k + 1 => cnt U k + (U (150 + k)).toNat
abbrev updN (U : Nat → Bool) (p : Nat) (v : Bool) : Nat → Bool := fun q => if q = p then v else U q
theorem cnt_le (U : Nat → Bool) : ∀ k, cnt U k ≤ k
  | 0 => Nat.le_refl _
  | k + 1 => by
    have := cnt_le U k
    have : (U (150 + k)).toNat ≤ 1 := by cases U (150 + k) <;> decide
    show cnt U k + _ ≤ _
    omega
theorem cnt_upd (U : Nat → Bool) (p : Nat) (v : Bool) (hp : 150 ≤ p) : ∀ k, cnt (updN U p v) k + (if p < 150 + k then (U p).toNat else 0) = cnt U k + (if p < 150 + k then v.toNat else 0)
  | 0 => by rw [if_neg (by omega), if_neg (by omega)]; rfl
  | k + 1 => by
    have ih := cnt_upd U p v hp k
    show cnt (updN U p v) k + (if 150 + k = p then v else U (150 + k)).toNat + _ = cnt U k + (U (150 + k)).toNat + _
    by_cases e : 150 + k = p
    · subst e
      rw [if_pos rfl, if_pos (by omega), if_pos (by omega)]
      rw [if_neg (by omega), if_neg (by omega)] at ih
      omega
    · rw [if_neg e]
      by_cases h : p < 150 + k
      · rw [if_pos (by omega), if_pos (by omega)]
        rw [if_pos h, if_pos h] at ih
        omega
      · rw [if_neg (by omega), if_neg (by omega)]
        rw [if_neg h, if_neg h] at ih
        omega
theorem cnt_set {U : Nat → Bool} {p : Nat} (v : Bool) (h1 : 150 ≤ p) (h2 : p < 300) : cnt (updN U p v) 150 + (U p).toNat = cnt U 150 + v.toNat := by
  have := cnt_upd U p v h1 150
  rw [if_pos (by omega), if_pos (by omega)] at this
  exact this
theorem cnt_none : ∀ k, cnt (fun _ => false) k = 0
  | 0 => rfl
  | k + 1 => by show cnt _ k + 0 = 0; rw [cnt_none k]
def neither (U G : Nat → Bool) : Nat → Bool := fun q => !U q && !G q
theorem cnt_free {U G : Nat → Bool} (h : ∀ q, ¬ (U q = true ∧ G q = true)) : ∀ k, cnt (neither U G) k + cnt U k + cnt G k = k
  | 0 => rfl
  | k + 1 => by
    have ih := cnt_free h k
    have hq := h (150 + k)
    show cnt (neither U G) k + (!U (150 + k) && !G (150 + k)).toNat + (cnt U k + (U (150 + k)).toNat) + (cnt G k + (G (150 + k)).toNat) = k + 1
    cases hU : U (150 + k) <;> cases hG : G (150 + k) <;> simp_all <;> omega
theorem cnt_some {U : Nat → Bool} : ∀ k, 0 < cnt U k → ∃ q, q < k ∧ U (150 + q) = true
  | 0, h => absurd h (Nat.lt_irrefl _)
  | k + 1, h => by
    cases hU : U (150 + k) with
    | true => exact ⟨k, Nat.lt_succ_self _, hU⟩
    | false =>
      have h' : 0 < cnt U k + (U (150 + k)).toNat := h
      rw [hU] at h'
      obtain ⟨q, hq, hu⟩ := cnt_some k h'
      exact ⟨q, by omega, hu⟩
theorem cnt_pos {U : Nat → Bool} {q : Nat} (hu : U (150 + q) = true) : ∀ k, q < k → 0 < cnt U k
  | 0, h => absurd h (Nat.not_lt_zero _)
  | k + 1, h => by
    show 0 < cnt U k + (U (150 + k)).toNat
    by_cases e : q = k
    · subst e; rw [hu]; exact Nat.succ_pos _
    · have := cnt_pos hu k (by omega); omega
/-- the area, and the two arrays -/
structure Pl (A : Ar) (U G : Nat → Bool) (i : Nat) : Prop where
  last : 150 ≤ A.last ∧ A.last < 300
  used : ∀ x : Int, A.used x = (decide (150 ≤ x ∧ x < 300) && U x.toNat)
  held : ∀ x : Int, A.held x = (decide (150 ≤ x ∧ x < 300) && G x.toNat)
  apart : ∀ q, ¬ (U q = true ∧ G q = true)
  nu : A.nu = cnt U 150
  nh : A.nh = cnt G 150
  few : cnt U 150 + cnt G 150 ≤ i
variable {A : Ar} {U G : Nat → Bool} {i p : Nat}
theorem Pl.start : Pl (Ar.none 300) (fun _ => false) (fun _ => false) 0 :=
  ⟨by decide, fun x => (Bool.and_false _).symm, fun x => (Bool.and_false _).symm, fun q h => absurd h.1 (by decide), (cnt_none _).symm, (cnt_none _).symm, by rw [cnt_none]; exact Nat.le_refl _⟩
theorem Pl.u (h : Pl A U G i) {q : Nat} (h1 : 150 ≤ q) (h2 : q < 300) : A.used (q : Nat) = U q := by
  rw [h.used, decide_eq_true (by omega), Bool.true_and, Int.toNat_natCast]
theorem Pl.g (h : Pl A U G i) {q : Nat} (h1 : 150 ≤ q) (h2 : q < 300) : A.held (q : Nat) = G q := by
  rw [h.held, decide_eq_true (by omega), Bool.true_and, Int.toNat_natCast]
theorem Pl.free (h : Pl A U G i) {q : Nat} (h1 : 150 ≤ q) (h2 : q < 300) : A.free (q : Nat) = neither U G q := by
  unfold Ar.free neither
  rw [h.u h1 h2, h.g h1 h2]
theorem Pl.mono {j : Nat} (h : Pl A U G i) (hj : i ≤ j) : Pl A U G j := ⟨h.last, h.used, h.held, h.apart, h.nu, h.nh, Nat.le_trans h.few hj⟩
theorem Pl.any (h : Pl A U G i) (hi : i < 150) : ∃ q, 150 ≤ q ∧ q < 300 ∧ neither U G q = true := by
  have h1 := cnt_free h.apart 150
  have h2 := h.few
  obtain ⟨q, hq, hf⟩ := cnt_some (U := neither U G) 150 (by omega)
  exact ⟨150 + q, by omega, by omega, hf⟩
/-- the next one -/
theorem Pl.next (h : Pl A U G i) (hi : i < 150) : ∃ K, K < 150 ∧ A.next 300 = some (150 + (A.last - 150 + 1 + K) % 150) ∧ neither U G (150 + (A.last - 150 + 1 + K) % 150) = true ∧ ∀ j, j < K → neither U G (150 + (A.last - 150 + 1 + j) % 150) = false := by
  obtain ⟨q, q1, q2, q3⟩ := h.any hi
  have hl := h.last
  cases hx : A.next 300 with
  | some p =>
    obtain ⟨K, hK, hp, hf, hj⟩ := next_some hx
    rw [datas_300] at hK
    rw [spot_300] at hp
    subst hp
    refine ⟨K, hK, rfl, by rw [← h.free (by omega) (by omega)]; exact hf, fun j hj' => ?_⟩
    have := hj j hj'
    rw [spot_300] at this
    rw [← h.free (by omega) (by omega)]
    exact this
  | none =>
    exfalso
    have hn := next_none hx
    rw [datas_300] at hn
    have h3 := hn ((q - 150 + 300 - (A.last - 150 + 1)) % 150) (Nat.mod_lt _ (by decide))
    rw [spot_300] at h3
    have e : 150 + (A.last - 150 + 1 + (q - 150 + 300 - (A.last - 150 + 1)) % 150) % 150 = q := by omega
    rw [e, h.free q1 q2, q3] at h3
    cases h3
theorem least_of {F : Nat → Bool} : ∀ (k a : Nat), F (a + k) = true → ∃ p, a ≤ p ∧ p ≤ a + k ∧ F p = true ∧ ∀ q, a ≤ q → q < p → F q = false
  | 0, a, h => ⟨a, Nat.le_refl _, by omega, h, fun q h1 h2 => by omega⟩
  | k + 1, a, h => by
    cases ha : F a with
    | true => exact ⟨a, Nat.le_refl _, by omega, ha, fun q h1 h2 => by omega⟩
    | false =>
      obtain ⟨p, p1, p2, p3, p4⟩ := least_of k (a + 1) (by rw [show a + 1 + k = a + (k + 1) by omega]; exact h)
      refine ⟨p, by omega, by omega, p3, fun q h1 h2 => ?_⟩
      by_cases e : q = a
      · subst e; exact ha
      · exact p4 q (by omega) h2
theorem Pl.least (h : Pl A U G i) (hi : i < 150) : ∃ p, 150 ≤ p ∧ p < 300 ∧ neither U G p = true ∧ ∀ q, 150 ≤ q → q < p → neither U G q = false := by
  obtain ⟨q, q1, q2, q3⟩ := h.any hi
  obtain ⟨p, p1, p2, p3, p4⟩ := least_of (F := neither U G) (q - 150) 150 (by rw [show 150 + (q - 150) = q by omega]; exact q3)
  exact ⟨p, p1, by omega, p3, p4⟩
theorem fn_upd {F : Int → Bool} {V : Nat → Bool} (hF : ∀ x : Int, F x = (decide (150 ≤ x ∧ x < 300) && V x.toNat)) (h1 : 150 ≤ p) (h2 : p < 300) (v : Bool) (x : Int) : upd F (p : Int) v x = (decide (150 ≤ x ∧ x < 300) && updN V p v x.toNat) := by
  rw [upd_eq]
  by_cases e : x = p
  · subst e
    rw [if_pos rfl, decide_eq_true (by omega), Bool.true_and]
    show v = if ((p : Nat) : Int).toNat = p then v else _
    rw [if_pos (by simp)]
  · rw [if_neg e, hF]
    by_cases hx : 150 ≤ x ∧ x < 300
    · show _ = (_ && if x.toNat = p then v else V x.toNat)
      rw [if_neg (by omega)]
    · rw [decide_eq_false hx]; rfl
theorem Pl.use (h : Pl A U G i) (h1 : 150 ≤ p) (h2 : p < 300) (hf : neither U G p = true) : Pl (A.use (p : Int)) (updN U p true) G (i + 1) := by
  obtain ⟨hU, hG⟩ : U p = false ∧ G p = false := by unfold neither at hf; simpa using hf
  have hc := cnt_set (U := U) true h1 h2
  rw [hU] at hc
  have hc' : cnt (updN U p true) 150 = cnt U 150 + 1 := hc
  refine ⟨h.last, fn_upd h.used h1 h2 true, h.held, fun q hq => ?_, ?_, h.nh, ?_⟩
  · by_cases e : q = p
    · rw [e, hG] at hq; exact absurd hq.2 (by decide)
    · have hq' : (if q = p then true else U q) = true ∧ G q = true := hq
      rw [if_neg e] at hq'
      exact h.apart q hq'
  · show (if A.used (p : Int) then A.nu else A.nu + 1) = _
    rw [h.u h1 h2, hU, hc', h.nu]; rfl
  · have := h.few; omega
theorem Pl.put (h : Pl A U G i) (h1 : 150 ≤ p) (h2 : p < 300) (hf : neither U G p = true) : Pl (A.put p) (updN U p true) G (i + 1) :=
  let g := h.use h1 h2 hf
  ⟨⟨h1, h2⟩, g.used, g.held, g.apart, g.nu, g.nh, g.few⟩
theorem Pl.drop (h : Pl A U G i) (h1 : 150 ≤ p) (h2 : p < 300) (hU : U p = true) : Pl (A.drop (p : Int)) (updN U p false) (updN G p true) i := by
  have hG : G p = false := by
    cases e : G p with
    | false => rfl
    | true => exact absurd ⟨hU, e⟩ (h.apart p)
  have hc := cnt_set (U := U) false h1 h2
  have hd := cnt_set (U := G) true h1 h2
  rw [hU] at hc
  rw [hG] at hd
  have hc' : cnt (updN U p false) 150 + 1 = cnt U 150 := hc
  have hd' : cnt (updN G p true) 150 = cnt G 150 + 1 := hd
  refine ⟨h.last, fn_upd h.used h1 h2 false, fn_upd h.held h1 h2 true, fun q hq => ?_, ?_, ?_, ?_⟩
  · have hq' : (if q = p then false else U q) = true ∧ (if q = p then true else G q) = true := hq
    by_cases e : q = p
    · rw [if_pos e] at hq'; exact absurd hq'.1 (by decide)
    · rw [if_neg e, if_neg e] at hq'; exact h.apart q hq'
  · show A.nu - 1 = _
    rw [h.nu]; omega
  · show (if A.held (p : Int) then A.nh else A.nh + 1) = _
    rw [h.g h1 h2, hG, hd', h.nh]; rfl
  · have := h.few; omega
theorem Pl.done (h : Pl A U G i) : Pl { A with held := fun _ => false, nh := 0 } U (fun _ => false) i :=
  ⟨h.last, h.used, fun x => (Bool.and_false _).symm, fun q hq => absurd hq.2 (by decide), h.nu, (cnt_none _).symm, by rw [cnt_none]; have := h.few; omega⟩
/-- the used ones, rising -/
def ul (U : Nat → Bool) : Nat → List Int
  | 0 => []
  | k + 1 => ul U k ++ (if U (150 + k) then [((150 + k : Nat) : Int)] else [])
theorem ul_len (U : Nat → Bool) : ∀ k, (ul U k).length = cnt U k
  | 0 => rfl
  | k + 1 => by
    show (ul U k ++ _).length = cnt U k + _
    rw [List.length_append, ul_len U k]
    cases U (150 + k) <;> rfl
theorem ul_mem (U : Nat → Bool) (x : Int) : ∀ k, x ∈ ul U k ↔ ∃ q, q < k ∧ U (150 + q) = true ∧ x = ((150 + q : Nat) : Int)
  | 0 => by constructor
            · intro h; cases h
            · rintro ⟨q, h, _⟩; omega
  | k + 1 => by
    show x ∈ ul U k ++ _ ↔ _
    rw [List.mem_append, ul_mem U x k]
    constructor
    · rintro (⟨q, h1, h2, h3⟩ | h)
      · exact ⟨q, by omega, h2, h3⟩
      · cases hU : U (150 + k) with
        | true => rw [hU] at h; exact ⟨k, by omega, hU, by simpa using h⟩
        | false => rw [hU] at h; cases h
    · rintro ⟨q, h1, h2, h3⟩
      by_cases e : q = k
      · subst e; right; rw [h2, h3]; exact List.mem_singleton.2 rfl
      · exact .inl ⟨q, by omega, h2, h3⟩
theorem ul_rise (U : Nat → Bool) : ∀ k, (ul U k).Pairwise (· < ·)
  | 0 => .nil
  | k + 1 => by
    show (ul U k ++ _).Pairwise _
    rw [List.pairwise_append]
    refine ⟨ul_rise U k, ?_, fun a ha b hb => ?_⟩
    · cases U (150 + k)
      · exact .nil
      · exact List.pairwise_singleton _ _
    · obtain ⟨q, h1, _, h3⟩ := (ul_mem U a k).1 ha
      cases hU : U (150 + k) with
      | true => rw [hU] at hb; have := List.mem_singleton.1 hb; omega
      | false => rw [hU] at hb; cases hb
theorem rise_eq : ∀ (l m : List Int), l.Pairwise (· < ·) → m.Pairwise (· < ·) → (∀ i, i ∈ l ↔ i ∈ m) → l = m
  | [], [], _, _, _ => rfl
  | [], y :: m, _, _, h => by have := (h y).2 List.mem_cons_self; cases this
  | x :: l, [], _, _, h => by have := (h x).1 List.mem_cons_self; cases this
  | x :: l, y :: m, hl, hm, h => by
    rw [List.pairwise_cons] at hl hm
    have e : x = y := by
      rcases List.mem_cons.1 ((h x).1 List.mem_cons_self) with e | e
      · exact e
      · rcases List.mem_cons.1 ((h y).2 List.mem_cons_self) with e2 | e2
        · exact e2.symm
        · have := hm.1 x e; have := hl.1 y e2; omega
    subst e
    rw [rise_eq l m hl.2 hm.2 fun i => ⟨fun hi => ?_, fun hi => ?_⟩]
    · rcases List.mem_cons.1 ((h i).1 (List.mem_cons_of_mem _ hi)) with e | e
      · have := hl.1 i hi; omega
      · exact e
    · rcases List.mem_cons.1 ((h i).2 (List.mem_cons_of_mem _ hi)) with e | e
      · have := hm.1 i hi; omega
      · exact e
theorem Pl.keys (h : Pl A U G i) {ks : List Int} (hk : NKeys A.used ks) : ks = ul U 150 :=
  rise_eq _ _ hk.rise (ul_rise U 150) fun x => by
    rw [hk.mem, ul_mem, h.used]
    constructor
    · intro e
      obtain ⟨e1, e2⟩ := Bool.and_eq_true_iff.1 e
      have e1 := of_decide_eq_true e1
      exact ⟨x.toNat - 150, by omega, by rw [show 150 + (x.toNat - 150) = x.toNat by omega]; exact e2, by omega⟩
    · rintro ⟨q, h1, h2, rfl⟩
      rw [decide_eq_true (by omega), Int.toNat_natCast, h2]; rfl
theorem ul_pre (U : Nat → Bool) : ∀ k n, k ≤ n → ∃ t, ul U n = ul U k ++ t
  | k, 0, h => ⟨[], by rw [show k = 0 by omega]; rfl⟩
  | k, n + 1, h => by
    by_cases e : k = n + 1
    · exact ⟨[], by rw [e, List.append_nil]⟩
    · obtain ⟨t, ht⟩ := ul_pre U k n (by omega)
      exact ⟨t ++ _, by show ul U n ++ _ = _; rw [ht, List.append_assoc]⟩
theorem ul_at {U : Nat → Bool} {k : Nat} (hk : k < 150) (hU : U (150 + k) = true) : (ul U 150)[cnt U k]? = some ((150 + k : Nat) : Int) ∧ cnt U k < cnt U 150 := by
  obtain ⟨t, ht⟩ := ul_pre U (k + 1) 150 (by omega)
  have e : ul U (k + 1) = ul U k ++ [((150 + k : Nat) : Int)] := by show ul U k ++ _ = _; rw [hU]; rfl
  have h : (ul U 150)[cnt U k]? = some ((150 + k : Nat) : Int) := by
    rw [ht, e, ← ul_len U k, List.append_assoc, List.getElem?_append_right (Nat.le_refl _), Nat.sub_self]; rfl
  refine ⟨h, ?_⟩
  have := (List.getElem?_eq_some_iff.1 h).1
  rw [ul_len] at this
  exact this
end Go.Proofs.YtagbnacffiagcaaDoor.BlobW

namespace Go.Proofs.YtagbnacffiagcaaDoor.BlobW
open Go Go.RowKit Go.Proofs.YtagbnacffiagcaaDoor.Mem Go.Proofs.YtagbnacffiagcaaDoor.DevG
set_option linter.unusedVariables false
set_option maxRecDepth 100000

/-- block b: the bools F -/
structure InA (w : World) (b : Nat) (F : Nat → Bool) : Prop where
  blk : ∃ cs, w.heap[b]? = some (.cells cs 98)
  at_ : ∀ q, q < 300 → w.cell? ⟨b, q, none⟩ = some (.bool (F q))
theorem zbool : Tryd.zeroCells98 = Array.replicate 300 (.bool false) := by kernel_rfl
theorem InA.made (w : World) : InA (w.alloc (.cells Tryd.zeroCells98 98)) w.heap.size (fun _ => false) := by
  refine ⟨⟨_, alloc_at rfl _⟩, fun q hq => ?_⟩
  rw [World.cell?_alloc_mark, zbool, Array.getElem?_replicate, if_pos hq]
theorem InA.lt {w : World} {b : Nat} {F : Nat → Bool} (h : InA w b F) : b < w.heap.size := let ⟨_, e⟩ := h.blk; (Array.getElem?_eq_some_iff.1 e).1
theorem InA.frozen {w : World} {b : Nat} {F : Nat → Bool} (h : InA w b F) (q : Nat) : w.frozen? ⟨b, q, none⟩ = false := by
  obtain ⟨cs, h1⟩ := h.blk
  simp [World.frozen?, h1]
theorem InA.keep {w w' : World} {b : Nat} {F : Nat → Bool} (h : InA w b F) (e : w'.heap[b]? = w.heap[b]?) : InA w' b F :=
  ⟨by rw [e]; exact h.blk, fun q hq => by rw [World.cell?_of_block (w := w) e]; exact h.at_ q hq⟩
theorem InA.below {w w' : World} {b : Nat} {F : Nat → Bool} (h : InA w b F) (hb : Below w.heap.size w w') : InA w' b F := h.keep (hb.block b h.lt)
theorem InA.turn {S : List Nat} {w w' : World} {b : Nat} {F : Nat → Bool} (h : InA w b F) (t : Turn S w w') (hb : b ∉ S) : InA w' b F := h.keep (t.block b h.lt hb)
theorem InA.set {w : World} {b : Nat} {F : Nat → Bool} (h : InA w b F) (p : Nat) (hp : p < 300) (v : Bool) : InA (w.setCell ⟨b, p, none⟩ (.bool v)) b (fun q => if q = p then v else F q) := by
  obtain ⟨cs, h1⟩ := h.blk
  refine ⟨⟨_, heap_setCell_same w b p cs _ _ h1⟩, fun q hq => ?_⟩
  by_cases e : q = p
  · subst e
    rw [if_pos rfl]
    exact World.cell?_setCell_same w _ _ (h.at_ q hq)
  · rw [if_neg e, World.cell?_setCell_other w (a := ⟨b, p, none⟩) (b := ⟨b, q, none⟩) (v := _) (fun h => e (congrArg Addr.off h).symm)]
    exact h.at_ q hq
end Go.Proofs.YtagbnacffiagcaaDoor.BlobW

namespace Go.Proofs.YtagbnacffiagcaaDoor.BlobW
open Go Go.RowKit Go.Maps Go.Proofs.YtagbnacffiagcaaDoor.Mem Go.Proofs.YtagbnacffiagcaaDoor.MapsW Go.Proofs.YtagbnacffiagcaaDoor.DevG Go.Proofs.YtagbnacffiagcaaDoor.RefsW
set_option linter.unusedVariables false
set_option maxRecDepth 100000

theorem aflush_w (lo d n : Nat) (m : Mp) (D : Dv) (a u k : Nat) (A : Ar) (w : World) (h : AAt w lo d n m D a u k A) (hn : n < 20000) (hp : D.np < 20000) (hc : D.calls < 1000000) (hf : D.fuse = 0) (hdn : D.down = false) :
    Calls Tryd.prog 15 #[ptr d] w fun e w' => e = .returned .nilIface ∧ ∃ p', w.heap.size ≤ p' ∧ AAt w' lo d (n + 3 * D.np) { m with p := p' } D.flush a u k A ∧ Turn (own d m) w w' := by
  have ht : D.tick = D := Dv.tick_zero hf
  have hw := flush_ok d lo n m D w h.dev hn hp hc (by omega) (by rw [ht]; exact hdn)
  rw [ht] at hw
  refine hw.mono ?_
  rintro e w' ⟨rfl, p', hp', hA, T⟩
  refine ⟨rfl, p', hp', h.turn hA T rfl (by omega) (fun x hx => ?_), T⟩
  simp only [own, Mp.list, List.mem_cons, List.not_mem_nil, or_false] at hx ⊢
  omega
theorem aspoil_w (lo d n : Nat) (m : Mp) (D : Dv) (a u k : Nat) (A : Ar) (i at_ : Int) (t : Nat) (w : World) (h : AAt w lo d n m D a u k A) (hi : Fits i) (hn : n < 90000) (ha : Fits at_) (ht : t < 4294967296) (hbt : Crc.Bytes (keptOf D i)) :
    Calls Tryd.prog 16 #[ptr d, .int .i64 i, .int .i64 at_, .int .u32 t] w fun e w' => (∃ z, e = .returned (.bool z)) ∧ AAt w' lo d (n + 3) m (D.spoil i at_ t) a u k A ∧ Turn (own d m) w w' := by
  refine (spoil_w d lo n m D i at_ t w h.dev hi hn ha ht hbt).mono ?_
  rintro e w' ⟨rfl, hA, T⟩
  refine ⟨⟨_, rfl⟩, h.turn' hA T ?_ (by omega), T⟩
  unfold Dv.spoil
  split <;> rfl
/-- a device of 300 blocks that is up and unarmed, whatever was spoiled -/
structure Dk (D : Dv) (i : Nat) : Prop where
  blocks : D.blocks = 300
  fuse : D.fuse = 0
  down : D.down = false
  calls : D.calls ≤ i
  kept : ∀ j, Crc.Bytes (keptOf D j)
  pend : ∀ j l, D.pe j = some l → Crc.Bytes l
variable {D : Dv} {i : Nat}
theorem Dk.read (h : Dk D i) (j : Int) (l : List Nat) (hr : D.read j = some l) : Crc.Bytes l := by
  unfold Dv.read at hr
  cases hp : D.pe j with
  | some x => rw [hp] at hr; cases hr; exact h.pend j _ hp
  | none =>
    rw [hp] at hr
    by_cases hq : D.fi j = true
    · simp [hq] at hr
    · simp [hq] at hr
      rw [← hr]; exact h.kept j
theorem Dk.mono {k : Nat} (h : Dk D i) (hk : i ≤ k) : Dk D k := ⟨h.blocks, h.fuse, h.down, Nat.le_trans h.calls hk, h.kept, h.pend⟩
theorem Dk.new : Dk (Dv.new 300) 0 := ⟨rfl, rfl, rfl, Nat.le_refl _, fun j x hx => by
  rw [show keptOf (Dv.new 300) j = List.replicate 256 0 from rfl] at hx
  rw [(List.mem_replicate.1 hx).2]; decide, fun j l h => by cases h⟩
theorem Dk.put (h : Dk D i) (j : Int) {l : List Nat} (hl : Crc.Bytes l) : Dk (D.put j l) (i + 1) :=
  ⟨h.blocks, h.fuse, h.down, Nat.succ_le_succ h.calls, h.kept, fun q x hq => by
    have hq' : upd D.pe j (some l) q = some x := hq
    by_cases e : q = j
    · subst e; rw [upd_same] at hq'; cases hq'; exact hl
    · rw [upd_other _ _ e] at hq'; exact h.pend q x hq'⟩
theorem Dk.flush (h : Dk D i) : Dk D.flush (i + 1) :=
  ⟨h.blocks, h.fuse, h.down, Nat.succ_le_succ h.calls, fun j => by
    show Crc.Bytes ((if (D.pe j).isSome then D.pe j else D.fl j).getD _)
    cases hp : D.pe j with
    | some x => exact h.pend j x hp
    | none => exact h.kept j, fun j l e => by cases e⟩
theorem Dk.spoil (h : Dk D i) (j at_ : Int) (t : Nat) : Dk (D.spoil j at_ t) i := by
  unfold Dv.spoil
  split
  · refine ⟨h.blocks, h.fuse, h.down, h.calls, fun q => ?_, h.pend⟩
    show Crc.Bytes ((upd D.fl j (some (Crc.turned (keptOf D j) at_ t)) q).getD _)
    by_cases e : q = j
    · subst e; rw [upd_same]; exact Crc.turned_bytes (h.kept q) at_ t
    · rw [upd_other _ _ e]; exact h.kept q
  · exact h
theorem put_np (D : Dv) (j : Int) (l : List Nat) : (D.put j l).np ≤ D.np + 1 := by
  show (if (D.pe j).isSome then D.np else D.np + 1) ≤ _
  split <;> omega
theorem spoil_np (D : Dv) (j at_ : Int) (t : Nat) : (D.spoil j at_ t).np = D.np := by
  unfold Dv.spoil
  split <;> rfl
/-- the row's block is none of these -/
def Off (v : Value) (S : List Nat) : Prop := ∀ g, v.ownBlock = some g → g ∉ S
theorem own_off {S : List Nat} {w w' : World} {base : Nat} {e : TypeId} {size : Nat} {v : Value} {n : Nat} {xs : List Value} (h : w.ownsRow base e size v n xs) (T : Turn S w w') (hS : Off v S) : w'.ownsRow base e size v n xs := by
  rcases h with ⟨h1, h2 | ⟨g, c, cur, e1, hb, hg, r⟩⟩
  · exact ⟨h1, .inl h2⟩
  · exact ⟨h1, .inr ⟨g, c, cur, e1, hb, T.cells hg (hS g (by rw [e1]; rfl)), r⟩⟩
theorem AAt.grownOff {w w' : World} {lo d n : Nat} {m : Mp} {a u k : Nat} {A : Ar} (h : AAt w lo d n m D a u k A) {base : Nat} {v : Value} {r : Nat} {rs : List (Int × Nat)} (own : OwnRefs w base v r rs) (hg : w.grownBy w' v.ownBlock) (hb : Off v (aown d m a u k)) (h0 : r = 0 → v = .slice none 0 0) : AAt w' lo d n m D a u k A := by
  rcases Nat.eq_zero_or_pos r with hr | hr
  · rw [h0 hr] at hg
    exact h.away (S := []) (Turn.of_none hg) (by simp) (by simp)
  · obtain ⟨g, c, z, rfl, q1, q2, q3⟩ := own_first own hr
    refine h.away (S := [g]) (Turn.of_grown hg (by simp)) (fun x hx e => ?_) (fun x hx => ?_)
    · rw [List.mem_singleton.1 hx] at e
      exact hb g rfl e
    · rw [List.mem_singleton.1 hx]
      exact .inr ⟨_, q3, fun y e => by cases e⟩
/-- a bool of an array is set: the area is as it was -/
theorem AAt.setB {w : World} {lo d n : Nat} {m : Mp} {a u k : Nat} {A : Ar} (h : AAt w lo d n m D a u k A) {b q : Nat} {F : Nat → Bool} (hF : InA w b F) (hb : b ∉ aown d m a u k) (v : Bool) : AAt (w.setCell ⟨b, q, none⟩ (.bool v)) lo d n m D a u k A :=
  h.away (S := [b]) (Turn.setCell w b q _ (by simp)) (fun x hx e => hb (by rw [← List.mem_singleton.1 hx]; exact e)) fun x hx => by
    rw [List.mem_singleton.1 hx]
    exact .inr ⟨_, hF.at_ 0 (by decide), fun z e => by cases e⟩
end Go.Proofs.YtagbnacffiagcaaDoor.BlobW

namespace Go.Proofs.YtagbnacffiagcaaDoor.NumW
open Go Go.RowKit Go.Proofs.YtagbnacffiagcaaDoor.Mem
set_option linter.unusedVariables false
set_option maxRecDepth 100000

theorem tmod_pos {n b : Int} (hb : 0 < b) (h : ¬ n.tmod b < 0) : n.tmod b = n % b := by
  have h2 := Int.tmod_lt_of_pos n hb
  have h3 : n.tmod b % b = n % b := Int.emod_eq_emod_iff_emod_sub_eq_zero.2 (by
    have := Int.mul_tdiv_add_tmod n b
    have e : n.tmod b - n = b * (- n.tdiv b) := by rw [Int.mul_neg]; omega
    rw [e]; exact Int.mul_emod_right _ _)
  rw [← h3, Int.emod_eq_of_lt (by omega) h2]
theorem tmod_neg {n b : Int} (hb : 0 < b) (h : n.tmod b < 0) : n.tmod b + b = n % b := by
  have h1 : -b < n.tmod b := by
    have := Int.lt_tmod_of_pos n hb
    omega
  have h3 : (n.tmod b + b) % b = n % b := Int.emod_eq_emod_iff_emod_sub_eq_zero.2 (by
    have := Int.mul_tdiv_add_tmod n b
    have e : n.tmod b + b - n = b * (1 - n.tdiv b) := by rw [Int.mul_sub]; omega
    rw [e]; exact Int.mul_emod_right _ _)
  rw [← h3, Int.emod_eq_of_lt (by omega) (by omega)]

theorem number_w (n b : Int) (w : World) (hb : 0 < b) (hb2 : b ≤ 9223372036854775807) (h1 : -9223372036854775808 ≤ n) (h2 : n ≤ 9223372036854775807) :
    Calls Tryd.prog 11 #[.int .i64 n, .int .i64 b] w fun e w' => e = .returned (.int .i64 (n % b)) ∧ w = w' := by
  have q1 := Int.tmod_lt_of_pos n hb
  have q2 := Int.lt_tmod_of_pos n hb
  by_cases h : n.tmod b < 0
  · have HE := hid (tmod_neg hb h)
    go_enter Tryd.func11, Tryd.ntmps11
    go_wp2
    go_ret
    exact ⟨ret_int HE.out, rfl⟩
  · have HE := hid (tmod_pos hb h)
    go_enter Tryd.func11, Tryd.ntmps11
    go_wp2
    go_ret
    exact ⟨ret_int HE.out, rfl⟩
end Go.Proofs.YtagbnacffiagcaaDoor.NumW

namespace Go.Proofs.YtagbnacffiagcaaDoor.Mem
open Go Go.RowKit Go.ChangeShapes Go.WideShapes Go.Deep
set_option linter.unusedVariables false

section
variable {H : Type} {enc : TypeId × Value → H} {P : Program} {w : World} {base : Nat} {spare : Nat → Bool} {held : Bool}
/-- v is a slice of len structs of the fields fs: each field's cell reads by the field's type -/
def Structs (enc : TypeId × Value → H) (P : Program) (w : World) (base : Nat) (spare : Nat → Bool) (held : Bool) (fs : Array Field) (o : Option Addr) (len cap : Nat) : Prop :=
  (o = none ∧ len = 0 ∧ cap = 0) ∨ ∃ a : Addr, o = some a ∧ base ≤ a.block ∧ len ≤ cap ∧ cap ≤ maxLen ∧
    ∀ i, i < len → ∀ (j : Nat) (f : Field), fs[j]? = some f → ∃ (x : Value) (n : Nat) (y : DataW H × List MemPlace), w.cell? (a.add (i * fs.size + j)) = some x ∧ DataW.trod enc P w base spare held n f.type [x] = some y
theorem open_structs {t e : TypeId} {fs : Array Field} {fuel : Nat} {cs : List Value} {x : DataW H × List MemPlace} (ht : P.underlying t = some (.slice e)) (he : P.underlying e = some (.struct fs))
    (ce : P.cellsOf e = fs.size) (hoff : ∀ (j : Nat) (f : Field), fs[j]? = some f → f.offset = j ∧ P.cellsOf f.type = 1) (h : DataW.trod enc P w base spare held fuel t cs = some x) :
    ∃ (o : Option Addr) (len cap : Nat), cs = [.slice o len cap] ∧ Structs enc P w base spare held fs o len cap := by
  rcases open_slice ht h with ⟨rfl, rfl⟩ | ⟨a, len, cap, m, n, D, Pl, rfl, hb, hl, hm, hmm, rfl, hx⟩
  · exact ⟨none, 0, 0, rfl, .inl ⟨rfl, rfl, rfl⟩⟩
  · refine ⟨some a, len, cap, rfl, .inr ⟨a, rfl, hb, hl, hm, fun i hi j f hf => ?_⟩⟩
    have hlm : len ≤ m := by rw [hmm]; split <;> omega
    obtain ⟨cs', h1, h2⟩ := hx i (by omega)
    rw [ce] at h1
    obtain ⟨_, hlen, hcell⟩ := World.cells?_some h1
    obtain ⟨xs, k, hk, hxy, _, hxl, hfld⟩ := DataW.trod_struct he h2
    have hjs : j < fs.size := (Array.getElem?_eq_some_iff.1 hf).1
    obtain ⟨o0, c0⟩ := hoff j f hf
    have e0 := hcell j (by omega)
    rw [add_add] at e0
    have g0 := hfld j f hf
    rw [o0, c0] at g0
    have hjl : j < cs'.length := by omega
    rw [List.getElem?_eq_getElem hjl] at e0
    rw [List.drop_eq_getElem_cons hjl, List.take_succ_cons, List.take_zero, List.getElem?_eq_getElem (by omega)] at g0
    exact ⟨_, _, _, e0, g0⟩
end
end Go.Proofs.YtagbnacffiagcaaDoor.Mem

namespace Go.Proofs.YtagbnacffiagcaaDoor.Mem
open Go Go.RowKit Go.ChangeShapes Go.WideShapes Go.Deep
set_option linter.unusedVariables false

/-- the i-th of them -/
structure DoAt (w : World) (b o i : Nat) (K N A : Int) (T : Nat) (s : Option Addr) (sl sc : Nat) (l : List Nat) : Prop where
  c0 : w.cell? ⟨b, o + i * 5, none⟩ = some (.int .i64 K)
  c1 : w.cell? ⟨b, o + i * 5 + 1, none⟩ = some (.int .i64 N)
  c2 : w.cell? ⟨b, o + i * 5 + 2, none⟩ = some (.int .i64 A)
  c3 : w.cell? ⟨b, o + i * 5 + 3, none⟩ = some (.int .u32 (T : Int))
  c4 : w.cell? ⟨b, o + i * 5 + 4, none⟩ = some (.slice s sl sc)
  nums : Nums .u8 w s sl sc l
  bytes : ∀ x ∈ l, x < 256
  k64 : -9223372036854775808 ≤ K ∧ K ≤ 9223372036854775807
  n64 : -9223372036854775808 ≤ N ∧ N ≤ 9223372036854775807
  a64 : -9223372036854775808 ≤ A ∧ A ≤ 9223372036854775807
  t32 : T < 4294967296
theorem DoAt.below {w w' : World} {b o i : Nat} {K N A : Int} {T : Nat} {s : Option Addr} {sl sc : Nat} {l : List Nat} (h : DoAt w b o i K N A T s sl sc l) (hb : Below w.heap.size w w') : DoAt w' b o i K N A T s sl sc l :=
  ⟨kept hb h.c0, kept hb h.c1, kept hb h.c2, kept hb h.c3, kept hb h.c4, h.nums.below hb, h.bytes, h.k64, h.n64, h.a64, h.t32⟩
theorem do_at {H : Type} {enc : TypeId × Value → H} {w : World} {fs : Array Field} {a0 : Option Addr} {len0 cap0 : Nat} (h : Structs enc Tryd.prog w 0 (fun _ => true) true fs a0 len0 cap0)
    (hfs : fs.toList.map (·.type) = [3, 3, 3, 30, 28]) {i : Nat} (hi : i < len0) :
    ∃ b o, a0 = some ⟨b, o, none⟩ ∧ ∃ K N A T s sl sc l, DoAt w b o i K N A T s sl sc l := by
  rcases h with ⟨rfl, rfl, rfl⟩ | ⟨a, rfl, hb, hl, hm, hx⟩
  · omega
  have hsz : fs.size = 5 := by
    have := congrArg List.length hfs
    simpa using this
  have hf : ∀ (j : Nat) (t : TypeId), ([3, 3, 3, 30, 28] : List TypeId)[j]? = some t → ∃ f : Field, fs[j]? = some f ∧ f.type = t := by
    intro j t ht
    rw [← hfs, List.getElem?_map] at ht
    obtain ⟨f, hf, rfl⟩ := Option.map_eq_some_iff.1 ht
    exact ⟨f, by rw [← Array.getElem?_toList]; exact hf, rfl⟩
  obtain ⟨f0, g0, t0⟩ := hf 0 _ rfl
  obtain ⟨f1, g1, t1⟩ := hf 1 _ rfl
  obtain ⟨f2, g2, t2⟩ := hf 2 _ rfl
  obtain ⟨f3, g3, t3⟩ := hf 3 _ rfl
  obtain ⟨f4, g4, t4⟩ := hf 4 _ rfl
  have ex := hx i hi
  rw [hsz] at ex
  obtain ⟨x0, m0, y0, c0, d0⟩ := ex 0 f0 g0
  obtain ⟨x1, m1, y1, c1, d1⟩ := ex 1 f1 g1
  obtain ⟨x2, m2, y2, c2, d2⟩ := ex 2 f2 g2
  obtain ⟨x3, m3, y3, c3, d3⟩ := ex 3 f3 g3
  obtain ⟨x4, m4, y4, c4, d4⟩ := ex 4 f4 g4
  rw [t0] at d0
  rw [t1] at d1
  rw [t2] at d2
  rw [t3] at d3
  rw [t4] at d4
  obtain ⟨K, e0, _, k0⟩ := DataW.trod_int Tryd.underlying3 d0
  obtain ⟨N, e1, _, k1⟩ := DataW.trod_int Tryd.underlying3 d1
  obtain ⟨A, e2, _, k2⟩ := DataW.trod_int Tryd.underlying3 d2
  obtain ⟨T, e3, _, k3⟩ := DataW.trod_int Tryd.underlying30 d3
  cases e0; cases e1; cases e2; cases e3
  obtain ⟨b, o, spot⟩ := a
  have hs : spot = none := by
    have ez := hx 0 (by omega) 0 f0 g0
    obtain ⟨z0, _, _, cz, _⟩ := ez
    have := World.cell?_spot cz
    rw [Nat.zero_mul, Nat.zero_add] at this
    exact this
  subst hs
  simp only [Addr.add_lit] at c0 c1 c2 c3 c4
  have hT := nat_of (k := .u32) rfl k3
  refine ⟨b, o, rfl, K, N, A, T.toNat, ?_⟩
  have c3' : w.cell? ⟨b, o + i * 5 + 3, none⟩ = some (.int .u32 ((T.toNat : Nat) : Int)) := by
    rw [Int.toNat_of_nonneg hT.1]; exact c3
  rcases open_ints (k := .u8) Tryd.underlying28 Tryd.underlying5 (by kernel_rfl) d4 with ⟨e4, _⟩ | ⟨q, ln, cp, zs, e4, _, q1, q2, q3, _, q4, q5⟩
  · cases e4
    exact ⟨none, 0, 0, [], c0, c1, c2, c3', c4, Nums.nil _ _, by simp, int_of k0, int_of k1, int_of k2, hT.2⟩
  · cases e4
    obtain ⟨l, h1, h2⟩ := nums_of (k := .u8) rfl (w := w) (a := some q) (len := ln) (cap := cp) (zs := zs) (.inr ⟨q, rfl, q1, q2, by simpa using q3, q4, q5⟩)
    exact ⟨some q, ln, cp, l, c0, c1, c2, c3', c4, h1, h2, int_of k0, int_of k1, int_of k2, hT.2⟩
end Go.Proofs.YtagbnacffiagcaaDoor.Mem

namespace Go.Proofs.YtagbnacffiagcaaDoor.RSumW
open Go Go.RowKit Go.Proofs.YtagbnacffiagcaaDoor.Mem Go.Proofs.YtagbnacffiagcaaDoor.RefW Go.Proofs.YtagbnacffiagcaaDoor.CrcW
set_option linter.unusedVariables false
set_option maxRecDepth 100000

set_option maxHeartbeats 800000 in
/-- the document's step -/
theorem rstep_w (m c : Nat) (hm0 : m < 4294967296) (hc : c < 256) (w : World) :
    Calls Tryd.prog 74 #[.int .u32 m, .int .u8 c] w fun e w' => e = .returned (.int .u32 (Crc.step (m ^^^ c))) ∧ w = w' := by
  have hx := u32_xor_nat m c hm0 (by omega)
  have hxl : m ^^^ c < 4294967296 := Crc.xor_lt hm0 (Crc.byte_lt hc)
  generalize m ^^^ c = n at hx hxl ⊢
  go_enter Tryd.func74, Tryd.ntmps74
  go_wp2
  clear hx
  go_loop [0, 5] (fun x i => ∃ k : Nat, k ≤ 8 ∧ i = .int .i64 k ∧ x = .int .u32 (Crc.bits k n)) (fun _ i => 8 - (intOf i).toNat)
  case atStart => exact ⟨0, by omega, rfl, rfl⟩
  case round =>
    obtain ⟨k, hk, rfl, rfl⟩ := hrel
    have hm : Crc.bits k n < 4294967296 := Crc.bits_lt k hxl
    have hs : Hid (Crc.bits (k + 1) n = Crc.bit (Crc.bits k n)) := Crc.bits_snoc k n
    generalize he : Crc.bits k n = p at hm hs ⊢
    have HE := hid he
    clear he
    by_cases hlt : k < 8
    · go_wp2
      all_goals
        go_round
        case rel =>
          refine ⟨k + 1, by omega, by go_num, ?_⟩
          rw [hs.out]
          have hand : bits .and .u32 (p : Int) 1 = ((p % 2 : Nat) : Int) := by
            have := u32_and_nat p 1 hm (by omega)
            rw [Nat.and_one_is_mod] at this
            exact this
          rename_i hb
          rw [hand] at hb
          simp at hb
          unfold Crc.bit
          first
            | (rw [if_pos (by omega)]
               have := u32_xor_nat (p / 2) 2197175160 (by omega) (by omega)
               rw [show ((p : Int) / 2) = ((p / 2 : Nat) : Int) by omega]
               exact congrArg _ this)
            | (rw [if_neg (by omega)]; go_num)
        case measure => simp [intOf]; omega
    · obtain rfl : k = 8 := by omega
      go_wp2
      go_ret
      exact ⟨ret_u32 (by rw [Crc.step_def, HE.out]), rfl⟩

set_option maxHeartbeats 800000 in
/-- the document's sum -/
theorem rsum_w (a : Option Addr) (n cap : Nat) (l : List Nat) (w : World) (hr : Nums .u8 w a n cap l) (hb : Crc.Bytes l) :
    Calls Tryd.prog 14 #[.slice a n cap] w fun e w' => e = .returned (.int .u32 (Crc.sum l)) ∧ w = w' := by
  have hbd := hr.bound
  obtain ⟨hb1, hb2⟩ := hbd
  have HL : Hid (l.length = n) := hr.len
  go_enter Tryd.func14, Tryd.ntmps14
  go_wp2
  go_loop [3, 4] (fun s i => ∃ k : Nat, k ≤ n ∧ i = .int .i64 k ∧ s = .int .u32 (Crc.run (Crc.W - 1) (l.take k))) (fun _ i => n - (intOf i).toNat)
  case atStart => exact ⟨0, by omega, rfl, congrArg (Value.int .u32) (show (4294967295 : Int) = ((Crc.W - 1 : Nat) : Int) by decide)⟩
  case round =>
    obtain ⟨k, hk, rfl, rfl⟩ := hrel
    have hm : Crc.run (Crc.W - 1) (l.take k) < 4294967296 := Crc.run_lt _ Crc.top_lt (Bytes_take hb k)
    by_cases hlt : k < n
    · have hkl : k < l.length := by rw [HL.out]; exact hlt
      obtain ⟨b, off, rfl, hc⟩ := hr.at hkl
      have hcb : l[k] < 256 := hb _ (List.getElem_mem _)
      have HS : Hid (Crc.run (Crc.W - 1) (l.take (k + 1)) = Crc.step (Crc.run (Crc.W - 1) (l.take k) ^^^ l[k])) := by
        show _ = _
        rw [take_snoc l k hkl, Crc.run_snoc]
      generalize l[k] = c at hc hcb HS
      generalize Crc.run (Crc.W - 1) (l.take k) = m at hm HS ⊢
      clear hr
      go_wp2_with (go_at_call 74; refine (rstep_w m c hm hcb _).mono ?_; rintro e w' ⟨rfl, rfl⟩)
      go_round
      case rel => exact ⟨k + 1, by omega, by go_num, by rw [HS.out]⟩
      case measure => simp [intOf]; omega
    · obtain rfl : k = n := by omega
      have HE : Hid (l.take k = l) := List.take_of_length_le (by rw [HL.out]; exact Nat.le_refl _)
      rw [HE.out] at hm ⊢
      generalize hs : Crc.run (Crc.W - 1) l = m at hm ⊢
      have HS : Hid (Crc.sum l = m ^^^ 4294967295) := by show _ = _; unfold Crc.sum; rw [hs]; rfl
      clear hs
      go_wp2
      go_ret
      exact ⟨ret_u32 (by rw [HS.out]; exact not_u32 m hm), rfl⟩
end Go.Proofs.YtagbnacffiagcaaDoor.RSumW

namespace Go.Proofs.YtagbnacffiagcaaDoor.DevG
open Go Go.Maps Go.Proofs.YtagbnacffiagcaaDoor.MapsW

/-- a block's bytes -/
def Blk (l : List Nat) : Prop := Crc.Bytes l ∧ l.length = 256
structure Ok (D : Dv) : Prop where
  fl : ∀ j l, D.fl j = some l → Blk l
  pe : ∀ j l, D.pe j = some l → Blk l
theorem Ok.new (b : Nat) : Ok (Dv.new b) := ⟨fun j l h => (by cases h), fun j l h => (by cases h)⟩
theorem Ok.put {D : Dv} (h : Ok D) {i : Int} {l : List Nat} (hl : Blk l) : Ok (D.put i l) := by
  refine ⟨h.fl, fun j l' hj => ?_⟩
  by_cases e : j = i
  · subst e
    rw [show (D.put j l).pe j = some l from upd_same _ _ _] at hj
    cases hj
    exact hl
  · rw [show (D.put i l).pe j = D.pe j from upd_other _ _ e] at hj
    exact h.pe j l' hj
theorem Ok.flush {D : Dv} (h : Ok D) : Ok D.flush := by
  refine ⟨fun j l hj => ?_, fun j l hj => (by cases hj)⟩
  change (if (D.pe j).isSome then D.pe j else D.fl j) = some l at hj
  split at hj
  · exact h.pe j l hj
  · exact h.fl j l hj
theorem Ok.kept {D : Dv} (h : Ok D) (i : Int) : Blk (keptOf D i) := by
  unfold keptOf
  cases hF : D.fl i with
  | none => exact ⟨Crc.zeros_bytes 256, List.length_replicate ..⟩
  | some l => exact h.fl i l hF
theorem Ok.spoil {D : Dv} (h : Ok D) (i at_ : Int) (t : Nat) : Ok (D.spoil i at_ t) := by
  unfold Dv.spoil
  split
  · refine ⟨fun j l hj => ?_, h.pe⟩
    change upd D.fl i (some _) j = some l at hj
    by_cases e : j = i
    · subst e
      rw [upd_same] at hj
      cases hj
      exact ⟨Crc.turned_bytes (h.kept j).1 at_ t, by rw [Crc.turned_length]; exact (h.kept j).2⟩
    · rw [upd_other _ _ e] at hj
      exact h.fl j l hj
  · exact h
theorem Ok.fail {D : Dv} (h : Ok D) (i : Int) : Ok (D.fail i) := by
  unfold Dv.fail
  split
  · exact ⟨h.fl, h.pe⟩
  · exact h
theorem Ok.read {D : Dv} (h : Ok D) {j : Int} {l : List Nat} (hj : D.read j = some l) : Blk l := by
  unfold Dv.read at hj
  cases hp : D.pe j with
  | some l' => rw [hp] at hj; cases hj; exact h.pe j _ hp
  | none =>
    rw [hp] at hj
    simp only at hj
    split at hj
    · cases hj
    · cases hj; exact h.kept j
theorem pad_blk {l : List Nat} (hb : Crc.Bytes l) (hl : l.length ≤ 256) : Blk (Crc.pad l) := ⟨Crc.pad_bytes hb, Crc.pad_length hl⟩

/-- what is read where nothing is pending -/
theorem read_flushed {D : Dv} {j : Int} (hp : D.pe j = none) (hi : D.fi j = false) : D.read j = some (keptOf D j) := by
  unfold Dv.read; rw [hp]; simp only; rw [hi]; rfl
theorem read_pending {D : Dv} {j : Int} {l : List Nat} (hp : D.pe j = some l) : D.read j = some l := by
  unfold Dv.read; rw [hp]
theorem read_failed {D : Dv} {j : Int} (hp : D.pe j = none) (hi : D.fi j = true) : D.read j = none := by
  unfold Dv.read; rw [hp]; simp only; rw [hi]; rfl
end Go.Proofs.YtagbnacffiagcaaDoor.DevG

namespace Go.Proofs.YtagbnacffiagcaaDoor.BlobW
open Go Go.RowKit Go.Maps Go.Proofs.YtagbnacffiagcaaDoor.Mem Go.Proofs.YtagbnacffiagcaaDoor.MapsW Go.Proofs.YtagbnacffiagcaaDoor.DevG
set_option linter.unusedVariables false
set_option maxRecDepth 100000

theorem turn_cells (b : Nat) : ∀ (vs : List Value) (o : Nat) (w : World), Turn [b] w (w.setCells b o vs)
  | [], _, w => Turn.refl _ w
  | v :: r, o, w => (Turn.setCell w b o v (by simp)).then (turn_cells b r (o + 1) _)
theorem blk_cells (b : Nat) {t : TypeId} : ∀ (vs : List Value) (o : Nat) (w : World), (∃ cs, w.heap[b]? = some (.cells cs t)) → ∃ cs, (w.setCells b o vs).heap[b]? = some (.cells cs t)
  | [], _, w, h => h
  | v :: r, o, w, ⟨cs, h⟩ => blk_cells b r (o + 1) _ ⟨cs.setIfInBounds o v, by
      show (w.setCell ⟨b, o, none⟩ v).heap[b]? = _
      simp [World.setCell, Array.getElem?_modify, h]⟩
/-- what the store of the zero array gives -/
theorem clear_w {w : World} {b : Nat} {F : Nat → Bool} (h : InA w b F) : ∃ w2, (storeCells ⟨b, 0, none⟩ Tryd.zeroCells98.toList).run Tryd.prog w = .ok () w2 ∧ InA w2 b (fun _ => false) ∧ Turn [b] w w2 := by
  have hc : ∀ j, j < (Array.replicate 300 (Value.bool false)).toList.length → (w.cell? ⟨b, 0 + j, none⟩).isSome = true := fun j hj => by
    have hj' : j < 300 := by simpa using hj
    rw [Nat.zero_add, h.at_ j hj']; rfl
  rw [zbool]
  refine ⟨w.setCells b 0 (Array.replicate 300 (Value.bool false)).toList, run_storeCells_cells b 0 _ 0 w hc (fun j hj => h.frozen _) (by decide), ⟨blk_cells b _ 0 w h.blk, fun q hq => ?_⟩, turn_cells b _ 0 w⟩
  have := World.cell?_setCells_in b (Array.replicate 300 (Value.bool false)).toList 0 w hc q (by simpa using hq)
  rw [Nat.zero_add] at this
  rw [this]
  simp only [Array.getElem_toList, Array.getElem_replicate]
end Go.Proofs.YtagbnacffiagcaaDoor.BlobW
