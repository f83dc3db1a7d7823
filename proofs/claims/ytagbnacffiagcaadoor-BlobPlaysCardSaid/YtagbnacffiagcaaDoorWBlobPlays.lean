/- The walk of BlobPlays. -/
import Derived.Test.YtagbnacffiagcaaDoorWBlobPlaysC
import Derived.Test.YtagbnacffiagcaaDoorBlobPlaysP4
namespace Go.Proofs.YtagbnacffiagcaaDoor.blobPlays
open Go Go.RowKit Go.Maps Go.Proofs.YtagbnacffiagcaaDoor.Mem Go.Proofs.YtagbnacffiagcaaDoor.MapsW Go.Proofs.YtagbnacffiagcaaDoor.SeeW Go.Proofs.YtagbnacffiagcaaDoor.DevG Go.Proofs.YtagbnacffiagcaaDoor.BlobW Go.Proofs.YtagbnacffiagcaaDoor.RefsW Go.Proofs.YtagbnacffiagcaaDoor.Ints
set_option linter.unusedVariables false
set_option maxRecDepth 1000000
theorem over (bs : List Addr) (a0 : Option Addr) (len0 cap0 : Nat) (w : World) (hB : Ev w w.heap.size bs RootW.six) (hn : 60 < len0) :
    Calls Tryd.prog 8 #[.slice a0 len0 cap0] w fun e w' => e = .returned (.bool true) ∧ Below w.heap.size w w' := by
  have d1 : decide ((60 : Int) < (len0 : Int)) = true := decide_eq_true (by omega)
  clear hn
  go_enter Tryd.func8, Tryd.ntmps8
  go_wp2_with fail
  refine (lawfirst_w bs _ hB).mono ?_
  rintro e w1 ⟨rfl, hb1⟩
  go_wp2_with fail
  go_ret
  exact ⟨rfl, hb1⟩
set_option maxHeartbeats 16000000 in
theorem done (bs : List Addr) (a0 : Option Addr) (len0 cap0 : Nat) (w : World) (hB : Ev w w.heap.size bs RootW.six) (hbs : Bs w bs) (hn : len0 ≤ 60) (hd : ∀ i, i < len0 → ∃ b o, a0 = some ⟨b, o, none⟩ ∧ ∃ K N A T s sl sc l, DoAt w b o i K N A T s sl sc l) :
    Calls Tryd.prog 8 #[.slice a0 len0 cap0] w fun e w' => e = .returned (.bool true) ∧ Below w.heap.size w w' := by
  have d1 : decide ((60 : Int) < (len0 : Int)) = false := decide_eq_false (by omega)
  go_enter Tryd.func8, Tryd.ntmps8
  go_wp2_with fail
  refine (lawfirst_w bs _ hB).mono ?_
  rintro e w1 ⟨rfl, hb1⟩
  have HB1 := hid hb1
  have HBS := hid (hbs.below hb1)
  have HB := hid ((hB.below hb1).mono hb1.size)
  have HD : Hid (∀ i, i < len0 → ∃ b o, a0 = some ⟨b, o, none⟩ ∧ ∃ K N A T s sl sc l, DoAt w1 b o i K N A T s sl sc l) := hid (fun i hi => by
    obtain ⟨b, o, e, K, N, A, T, s, sl, sc, l, h⟩ := hd i hi
    exact ⟨b, o, e, K, N, A, T, s, sl, sc, l, h.below hb1⟩)
  clear hb1 hbs hB hd
  go_wp2_with fail
  refine (BlobW.opened_w 300 w1 (by decide) (by decide)).mono ?_
  rintro e w2 ⟨ar, u, k, rfl, A2, b2⟩
  have b3 := ((Below.refl w2.heap.size w2).alloc (Nat.le_refl _) (.cells Tryd.zeroCells98 98)).alloc (by simp) (.cells Tryd.zeroCells98 98)
  have b4 := (Below.refl (w2.alloc (.cells Tryd.zeroCells98 98)).heap.size (w2.alloc (.cells Tryd.zeroCells98 98))).alloc (Nat.le_refl _) (.cells Tryd.zeroCells98 98)
  have hsz : (w2.alloc (.cells Tryd.zeroCells98 98)).heap.size = w2.heap.size + 1 := by simp
  have i1 := (InA.made w2).below b4
  have i2 := InA.made (w2.alloc (.cells Tryd.zeroCells98 98))
  rw [hsz] at i2
  have hold := A2.old
  have HST := hid (show St w1 ((w2.alloc (.cells Tryd.zeroCells98 98)).alloc (.cells Tryd.zeroCells98 98)) ar (w1.heap.size + 5) w2.heap.size 0 299 (.slice none 0 0) from
    ⟨⟨_, _, _, _, _, _, _, _, 0, [], ⟨A2.below b3, i1, i2, World.ownsRow_nil _ _ _ _, fun _ => rfl, fun x hx => (by cases hx), fun g hg => (by cases hg), fun e => (by have := hold _ e; omega), fun e => (by have := hold _ e; omega)⟩, Dk.new, by decide, Pl.start, by decide, rfl, b2.trans (b3.mono b2.size)⟩⟩)
  have hub := b2.size
  clear A2 b2 b3 b4 i1 i2 hsz hold
  go_wp2_with fail
  generalize hH : w2.heap.size = ub at *
  generalize (w2.alloc (.cells Tryd.zeroCells98 98)).alloc (.cells Tryd.zeroCells98 98) = w3 at *
  clear hH w2
  refine loop bs HB.out HBS.out hn hub HD.out HST.out ?_ ?_
  · intros
    rename_i w4 hb4
    have HB4 := hid hb4
    clear hb4
    go_wp2_with fail
    go_ret
    exact ⟨rfl, HB1.out.trans (HB4.out.mono HB1.out.size)⟩
  · intros
    rename_i w4 hb4
    have HB4 := hid hb4
    clear hb4
    go_wp2_with fail
    go_ret
    exact ⟨rfl, HB1.out.trans (HB4.out.mono HB1.out.size)⟩
theorem walk {H : Type} {enc : TypeId × Value → H} (a0 : Option Addr) (len0 cap0 : Nat) (w : World) (hE : Err.All w gl) {fs : Array Field} (he : Tryd.prog.underlying 108 = some (.struct fs)) (w0 : Structs enc Tryd.prog w 0 (fun _ => true) true fs a0 len0 cap0) :
    Calls Tryd.prog 8 #[.slice a0 len0 cap0] w fun e w' => e = .returned (.bool true) ∧ Below w.heap.size w w' := by
  obtain ⟨bs, hbs⟩ := bs_of hE
  have hB := Ev.of_bs hbs RootW.six (by decide)
  rcases Nat.lt_or_ge 60 len0 with h | h
  · exact over bs a0 len0 cap0 w hB h
  · have hfs : fs.toList.map (·.type) = [3, 3, 3, 30, 28] := by
      have e := Option.some.inj (he.symm.trans Tryd.underlying108)
      cases e
      rfl
    exact done bs a0 len0 cap0 w hB hbs h fun i hi => do_at w0 hfs hi
end Go.Proofs.YtagbnacffiagcaaDoor.blobPlays
