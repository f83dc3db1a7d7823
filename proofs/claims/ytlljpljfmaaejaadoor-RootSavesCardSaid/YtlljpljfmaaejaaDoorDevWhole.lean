/- What the laws on devices begin with: a block of one byte. -/
import Derived.Test.YtlljpljfmaaejaaDoorDevCrash
import Derived.Test.YtlljpljfmaaejaaDoorFull
import Derived.Test.YtlljpljfmaaejaaDoorGDevNew
import Derived.Test.YtlljpljfmaaejaaDoorGDevAsk
namespace Go.Proofs.YtlljpljfmaaejaaDoor.DevL
open Go Go.RowKit Go.Maps Go.Proofs.YtlljpljfmaaejaaDoor.Mem Go.Proofs.YtlljpljfmaaejaaDoor.MapsW Go.Proofs.YtlljpljfmaaejaaDoor.SeeW Go.Proofs.YtlljpljfmaaejaaDoor.DevG Go.Proofs.YtlljpljfmaaejaaDoor.BlobW Go.Proofs.YtlljpljfmaaejaaDoor.Ints
set_option linter.unusedVariables false
set_option maxRecDepth 100000

theorem ev_of {w : World} {bs : List Addr} (h : SeeW.Bs w bs) (I : List Nat) (hI : ∀ i ∈ I, i < 24) : Ev w w.heap.size bs I := by
  obtain ⟨h1, h2, h3⟩ := h
  refine ⟨fun i hi g hg => ?_, fun i hi j hj e => (List.getElem?_inj (by rw [h1]; exact hI i hi) h2).1 e⟩
  obtain ⟨a, ha, hA⟩ := h3 i g hg
  exact ⟨a, ha, hA, World.block_lt_of_cell? w ⟨g, 0, none⟩ hA.1, hA.lt⟩
/-- a block of one byte -/
def wh (b : Nat) : List Nat := List.replicate 256 b
theorem wh_bytes {b : Nat} (h : b < 256) : Crc.Bytes (wh b) := fun x hx => by rw [(List.mem_replicate.1 hx).2]; exact h
theorem wh_length (b : Nat) : (wh b).length = 256 := List.length_replicate
theorem wh_ne {a b : Nat} (h : a ≠ b) : wh a ≠ wh b := fun e => h (by
  have := congrArg (fun l => l[0]?) e
  simpa [wh] using this)
theorem wh_set {k b : Nat} (h : k < 256) : (List.replicate k b ++ List.replicate (256 - k) 0).set k b = List.replicate (k + 1) b ++ List.replicate (256 - (k + 1)) 0 := by
  have e : List.replicate (256 - k) (0 : Nat) = 0 :: List.replicate (256 - (k + 1)) 0 := by
    rw [show 256 - k = (256 - (k + 1)) + 1 by omega, List.replicate_succ]
  rw [e, List.set_append_right _ _ (by simp), List.length_replicate, Nat.sub_self, List.set_cons_zero, List.replicate_succ', List.append_assoc]
  rfl
set_option maxHeartbeats 1600000 in
theorem whole_w (b : Nat) (w : World) : Calls Tryd.prog 27 #[.int .u8 b] w (NewBlock w (wh b)) := by
  go_enter Tryd.func27, Tryd.ntmps27
  go_wp2_with (at_make; go_must (refine wpList_mkn RefW.elU8 rfl _ _ rfl w.heap.size _ _ _ _ 256 rfl rfl rfl rfl (by decide) (by decide) (Nat.le_refl _) ?_); intro w2 own2 hg2)
  rw [RefW.made_nums] at own2
  have g2 := below_growns hg2 (Nat.le_refl _)
  clear hg2
  go_loopw [4] (fun i wr => ∃ k : Nat, k ≤ 256 ∧ i = .int .i64 k ∧ OwnN wr w.heap.size 5 .u8 w.heap.size 256 256 (List.replicate k b ++ List.replicate (256 - k) 0) ∧ Below w.heap.size w wr) (fun i _ => 256 - (RowKit.intOf i).toNat)
  case atStart => exact ⟨0, by omega, rfl, by simpa using own2, g2⟩
  case round =>
    clear own2 g2
    obtain ⟨k, hk, rfl, hown, hb⟩ := hrel
    by_cases hlt : k < 256
    · have HF := hid (wh_set (b := b) hlt)
      have hlen : (List.replicate k b ++ List.replicate (256 - k) 0).length = 256 := OwnN.len hown
      obtain ⟨y, hy⟩ : ∃ y, wr.cell? ⟨w.heap.size, k, none⟩ = some y := ⟨_, OwnN.cell hown (j := k) (by omega)⟩
      have hf := World.ownsRow.frozenAt hown k
      have k256 : (k : Int) < 256 := by omega
      have HO := hid hown
      clear hown hlen
      go_wp2
      go_roundw
      case rel => exact ⟨k + 1, by omega, by go_num, by rw [← HF.out]; exact OwnN.set HO.out k b, hb.setCell (Nat.le_refl _) _⟩
      case measure => simp [RowKit.intOf]; omega
    · obtain rfl : k = 256 := by omega
      have e : List.replicate 256 b ++ List.replicate (256 - 256) 0 = wh b := by unfold wh; rw [Nat.sub_self, List.replicate_zero, List.append_nil]
      rw [e] at hown
      have HO := hid hown
      clear hown e
      go_wp2
      go_ret
      exact ⟨_, _, rfl, OwnN.nums HO.out, Nat.le_refl _, hb⟩
/-- a call by its contract, in a region that draws its order -/
theorem step_calls {P : Program} {ops : Array Oper} {o : Oper} {a : Act} {K : Act → World → Prop} {Q : Exit → Act → World → Prop} {E : Prop} {w : World} (hw : Region.wanted o (yielded ops a.tmps) = true)
    (f : FuncId) (args : Array Value) (hrun : (execOp a.eval o).run P w = .ok (.enter f args) w) (R : Value) (S : World → Prop) (hc : Calls P f args w fun e w' => e = .returned R ∧ S w') (h : ∀ w', S w' → K (a.put o.dst R) w') :
    if Region.wanted o (yielded ops a.tmps) = true then Oper.wp P o a w K Q else E := by
  rw [if_pos hw]
  unfold Oper.wp
  rw [hrun, Oper.upon_enter]
  refine hc.mono ?_
  rintro e w' ⟨rfl, hs⟩
  exact h w' hs
theorem get_some {D : Dv} (hd : D.down = false) {i : Int} (hi : 0 ≤ i ∧ i < (D.blocks : Int)) {l : List Nat} (hr : D.read i = some l) : D.get i = .ok l := by
  unfold Dv.get
  rw [hd, if_neg (by decide), if_pos hi, hr]
theorem get_none {D : Dv} (hd : D.down = false) {i : Int} (hi : 0 ≤ i ∧ i < (D.blocks : Int)) (hr : D.read i = none) : D.get i = .error 6 := by
  unfold Dv.get
  rw [hd, if_neg (by decide), if_pos hi, hr]
theorem get_out {D : Dv} (hd : D.down = false) {i : Int} (hi : ¬ (0 ≤ i ∧ i < (D.blocks : Int))) : D.get i = .error 4 := by
  unfold Dv.get
  rw [hd, if_neg (by decide), if_neg hi]
theorem Is.nil (w : World) : Is w none 0 0 [] := ⟨rfl, Nat.le_refl _, Nat.zero_le _, fun _ => rfl, fun j u h => by simp [ints] at h⟩
theorem sel_nil (ks : List Int) (i : Int) : sel ks [] i = false := by
  unfold sel
  rw [List.any_eq_false]
  intro x _
  simp [pick]
/-- nothing is picked: what was pending is gone -/
theorem crash_none (D : Dv) (ks : List Int) : D.crash ks [] = { D with pe := fun _ => none, np := 0, down := false, fuse := 0 } := by
  unfold Dv.crash
  simp only [sel_nil]
  rfl
set_option maxHeartbeats 3200000 in
theorem first_w (bs : List Addr) (w : World) (hB : Ev w w.heap.size bs five) : Calls Tryd.prog 15 #[] w fun e w' => e = .returned (.bool true) ∧ Below w.heap.size w w' := by
  go_enter Tryd.func15, Tryd.ntmps15
  go_wp2_with fail
  refine (new_w 4 w (by decide) (by decide)).mono ?_
  rintro e w1 ⟨rfl, h1, b1, z1⟩
  go_wp2_with fail
  refine (whole_w 5 w1).mono ?_
  rintro e w2 ⟨g, gc, rfl, hn, hg, b2⟩
  have h2 := h1.below b2
  have B2 := b1.trans (b2.mono b1.size)
  have hw := write_ok _ _ _ _ _ 1 _ gc (wh 5) w2 h2 (by decide) (by decide) hn (by decide) (by decide) (by decide) rfl
  clear h1 b1 b2 hn hg z1
  go_wp2_with fail
  refine hw.mono ?_
  rintro e w3 ⟨rfl, h3, t3⟩
  have B3 := B2.trans (t3.below B2.size h2.own_lo)
  have hc := crash_w _ _ _ _ _ none 0 0 [] w3 h3 (fun w' _ => Is.nil w') (by decide) (by decide)
  clear hw h2 t3 B2
  go_wp2_with fail
  refine hc.mono ?_
  rintro e w4 ⟨rfl, ks, p', hK, hp', h4, t4⟩
  have B4 := B3.trans (t4.below B3.size h3.own_lo)
  rw [crash_none] at h4
  have hr := read_w bs _ _ _ _ _ 1 w4 h4 (hB.below B4) (by decide)
  have HB4 := hid B4
  have hget : Dv.get { ((Dv.new 4).tick.put ((1 : Nat) : Int) (wh 5)) with pe := fun _ => none, np := 0, down := false, fuse := 0 } 1 = .ok (wh 0) := rfl
  rw [hget] at hr
  clear hc h3 t4 B3 h4 B4 hK hget
  go_wp2_with fail
  refine hr.mono ?_
  rintro e w5 ⟨⟨g5, gc5, rfl, n5, _⟩, b5⟩
  have B5 := hid (HB4.out.trans (b5.mono HB4.out.size))
  have N5 := hid n5
  clear hr n5 b5 HB4
  go_wp2_with fail
  refine (whole_w 0 w5).mono ?_
  rintro e w6 ⟨g6, gc6, rfl, n6, _, b6⟩
  have hsm := RefW.same_w _ 256 gc5 _ _ 256 gc6 _ w6 (N5.out.below b6) n6
  rw [decide_eq_true rfl] at hsm
  have B6 := hid (B5.out.trans (b6.mono B5.out.size))
  clear n6 b6 N5 B5
  go_wp2_with fail
  refine hsm.mono ?_
  rintro e w7 ⟨rfl, b7⟩
  have B7 := B6.out.trans (b7.mono B6.out.size)
  clear hsm b7 B6
  go_wp2_with fail
  go_ret
  exact ⟨rfl, B7⟩
end Go.Proofs.YtlljpljfmaaejaaDoor.DevL
