/- The chapter's examples on areas (9). -/
import Derived.Test.YtagbnacffiagcaaDoorAreaOpen
namespace Go.Proofs.YtagbnacffiagcaaDoor.BlobW
open Go Go.RowKit Go.Maps Go.Proofs.YtagbnacffiagcaaDoor.Mem Go.Proofs.YtagbnacffiagcaaDoor.MapsW Go.Proofs.YtagbnacffiagcaaDoor.SeeW Go.Proofs.YtagbnacffiagcaaDoor.DevG
set_option linter.unusedVariables false
set_option maxRecDepth 100000

theorem new1 (w : World) (x : Nat) : Nums .u8 (w.alloc (.cells #[.int .u8 (x : Int)] 5)) (some ⟨w.heap.size, 0, none⟩) 1 1 [x] :=
  Row.fresh w #[.int .u8 (x : Int)] 5 (0, 0) 1 rfl (by decide)
theorem newb2 (w : World) (x y : Nat) : Nums .u8 (w.alloc (.cells #[.int .u8 (x : Int), .int .u8 (y : Int)] 5)) (some ⟨w.heap.size, 0, none⟩) 2 2 [x, y] := Row.fresh w #[.int .u8 (x : Int), .int .u8 (y : Int)] 5 (0, 0) 2 rfl (by decide)
theorem next_of {A : Ar} {b : Nat} (K : Nat) (hK : K < datas b) (hf : A.free (spot b A.last K : Nat) = true) (hp : ∀ j, j < K → A.free (spot b A.last j : Nat) = false) : A.next b = some (spot b A.last K) := by
  refine List.find?_eq_some_iff_getElem.2 ⟨hf, K, by rw [List.length_map, List.length_range]; exact hK, ?_, fun j hj => ?_⟩
  · rw [List.getElem_map, List.getElem_range]
  · rw [List.getElem_map, List.getElem_range, hp j hj]; rfl
theorem next_zero {A : Ar} {b i : Nat} (hb : 300 ≤ b) (hi : spot b A.last 0 = i) (hf : A.free (i : Int) = true) : A.next b = some i := by
  subst hi
  exact next_of 0 (datas_pos hb).1 hf fun j hj => absurd hj (Nat.not_lt_zero j)
/-- a device of 300 blocks that is up and unarmed -/
structure Okd (D : Dv) (c : Nat) : Prop where
  blocks : D.blocks = 300
  fuse : D.fuse = 0
  down : D.down = false
  calls : D.calls = c
  bytes : ∀ i l, D.read i = some l → Crc.Bytes l
theorem put_read (D : Dv) (i : Int) (l : List Nat) (j : Int) : (D.put i l).read j = if j = i then some l else D.read j := by
  unfold Dv.read keptOf Dv.put
  show (match upd D.pe i (some l) j with
    | some l => some l
    | none => _) = _
  by_cases h : j = i
  · subst h; rw [upd_same, if_pos rfl]
  · rw [upd_other _ _ h, if_neg h]; rfl
theorem Okd.new : Okd (Dv.new 300) 0 := ⟨rfl, rfl, rfl, rfl, fun i l h => by
  rw [show (Dv.new 300).read i = some (List.replicate 256 0) from rfl] at h; cases h; intro x hx; rw [(List.mem_replicate.1 hx).2]; decide⟩
theorem Okd.put {D : Dv} {c : Nat} (h : Okd D c) (i : Int) {l : List Nat} (hl : Crc.Bytes l) : Okd (D.put i l) (c + 1) := by
  refine ⟨h.blocks, h.fuse, h.down, by show D.calls + 1 = _; rw [h.calls], fun j q hq => ?_⟩
  rw [put_read] at hq
  split at hq
  · cases hq; exact hl
  · exact h.bytes j q hq
theorem Okd.got {D : Dv} {c : Nat} (h : Okd D c) {i : Int} (hi : 150 ≤ i ∧ i < 300) {l : List Nat} (hr : D.read i = some l) (s : Nat) : got D i s = if Crc.sum l = s then .ok l else .error 6 := by
  have hh : GeoW.half D.blocks = 75 := by rw [h.blocks]; decide
  unfold BlobW.got Dv.get
  rw [hh, h.down, h.blocks, if_pos (by omega), if_neg (by decide), if_pos (by omega), hr]
theorem half_300 {D : Dv} {c : Nat} (h : Okd D c) : BlobW.first D.blocks = 150 := by rw [h.blocks]; decide
set_option maxHeartbeats 3200000 in
theorem lawfirst_w (bs : List Addr) (w : World) (hB : Ev w w.heap.size bs RootW.six) : Calls Tryd.prog 58 #[] w fun e w' => e = .returned (.bool true) ∧ Below w.heap.size w w' := by
  have hP : Crc.Bytes (Crc.pad [5]) := Crc.pad_bytes (by intro x hx; simp at hx; subst hx; decide)
  have HP := hid hP
  clear hP
  go_enter Tryd.func58, Tryd.ntmps58
  go_wp2_with fail
  refine (opened_w 300 w (by decide) (by decide)).mono ?_
  rintro e w1 ⟨a, u, k, rfl, A1, b1⟩
  have E1 := hid (hB.below b1)
  have c1 := (Below.refl w1.heap.size w1).alloc (Nat.le_refl _) (.cells #[.int .u8 ((5 : Nat) : Int)] 5)
  have hput := put_w _ _ _ _ _ a u k _ 150 _ 1 1 [5] _ (A1.below c1) (new1 w1 5) (by intro x hx; simp at hx; subst hx; decide) (by decide) (by decide) (by decide) rfl rfl (by decide) (next_zero (by decide) (by decide) (by decide))
  unfold Put at hput
  simp only [Int.cast_ofNat_Int] at hput
  have C1 := hid (b1.trans (c1.mono b1.size))
  have D1 := (Okd.new.put 150 HP.out)
  have hr := D1.got (i := 150) (by decide) (by rw [put_read, if_pos rfl]) (Crc.sum (Crc.pad [5]))
  rw [if_pos rfl] at hr
  have HD := hid D1
  have hget := fun a u k w' n (A : Ar) (h : AAt w' w.heap.size (w.heap.size + 5) n (mp w.heap.size) ((Dv.new 300).put 150 (Crc.pad [5])) a u k A) (hE : Ev w' w.heap.size bs RootW.six) => get_w bs _ _ _ _ _ a u k A 150 (Crc.sum (Crc.pad [5])) w' h (by decide) (Crc.sum_lt HP.out) hE HD.out.bytes
  simp only [hr] at hget
  clear D1 hr A1 c1 b1
  generalize (Dv.new 300).put 150 (Crc.pad [5]) = D at *
  go_wp2_with fail
  refine hput.mono ?_
  rintro e w2 ⟨rfl, A2, T2⟩
  have b3 := (Below.refl w2.heap.size w2).alloc (Nat.le_refl _) (.cells #[.int .i64 150, .int .u32 (Crc.sum (Crc.pad [5]) : Nat)] 32)
  obtain ⟨x0, x1⟩ := Mem.new2 w2 (.int .i64 150) (.int .u32 (Crc.sum (Crc.pad [5]) : Nat)) 32
  have A3 := A2.below b3
  have B3 := hid (C1.out.trans ((T2.below C1.out.size A3.own_lo).trans (b3.mono (Nat.le_trans C1.out.size T2.size))))
  have E3 := (hB.below B3.out)
  have hg := hget a u k _ _ _ A3 E3
  clear hput hget T2 b3 A2 A3 E1 C1
  go_wp2_with fail
  refine hg.mono ?_
  rintro e w4 ⟨⟨g, gc, rfl, hn, hge⟩, b4⟩
  replace x0 := kept b4 x0
  have B4 := hid (B3.out.trans (b4.mono B3.out.size))
  have b5 := (Below.refl w4.heap.size w4).alloc (Nat.le_refl _) (.cells #[.int .u8 ((5 : Nat) : Int)] 5)
  have B5 := hid (B4.out.trans (b5.mono B4.out.size))
  have N5 := hid (hn.below b5)
  replace x0 := kept b5 x0
  have hfl := full_w _ 1 1 [5] _ (new1 w4 5) (by decide)
  clear hg hn b4 b5 B4 B3 x1 E3
  go_wp2_with fail
  refine hfl.mono ?_
  rintro e w6 ⟨g6, gc6, rfl, n6, _, b6⟩
  replace x0 := kept b6 x0
  have B6 := hid (B5.out.trans (b6.mono B5.out.size))
  have hsm := RefW.same_w _ 256 gc _ _ 256 gc6 _ w6 (N5.out.below b6) n6
  rw [decide_eq_true rfl] at hsm
  clear hfl n6 b6 B5 N5
  go_wp2_with fail
  refine hsm.mono ?_
  rintro e w7 ⟨rfl, b7⟩
  replace x0 := kept b7 x0
  have B7 := B6.out.trans (b7.mono B6.out.size)
  clear hsm b7 B6
  go_wp2_with fail
  go_ret
  exact ⟨rfl, B7⟩
end Go.Proofs.YtagbnacffiagcaaDoor.BlobW
