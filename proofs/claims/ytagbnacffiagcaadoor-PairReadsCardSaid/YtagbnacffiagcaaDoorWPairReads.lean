/- The walk of PairReads. -/
import Derived.Test.YtagbnacffiagcaaDoorWPairReadsC
namespace Go.Proofs.YtagbnacffiagcaaDoor.pairReads
open Go Go.RowKit Go.Maps Go.Proofs.YtagbnacffiagcaaDoor.Mem Go.Proofs.YtagbnacffiagcaaDoor.MapsW Go.Proofs.YtagbnacffiagcaaDoor.SeeW Go.Proofs.YtagbnacffiagcaaDoor.DevG Go.Proofs.YtagbnacffiagcaaDoor.PairG Go.Proofs.YtagbnacffiagcaaDoor.BlobW
set_option linter.unusedVariables false
set_option maxRecDepth 1000000
theorem over (bs : List Addr) (a0 : Option Addr) (len0 cap0 : Nat) (w : World) (hB : Ev w w.heap.size bs five) (hn : 60 < len0) :
    Calls Tryd.prog 3 #[.slice a0 len0 cap0] w fun e w' => e = .returned (.bool true) ∧ Below w.heap.size w w' := by
  have d1 : decide ((60 : Int) < (len0 : Int)) = true := decide_eq_true (by omega)
  clear hn
  go_enter Tryd.func3, Tryd.ntmps3
  go_wp2_with fail
  refine (first_w bs _ hB).mono ?_
  rintro e w1 ⟨rfl, hb1⟩
  go_wp2_with fail
  go_ret
  exact ⟨rfl, hb1⟩
set_option maxHeartbeats 16000000 in
theorem done (bs : List Addr) (a0 : Option Addr) (len0 cap0 : Nat) (w : World) (hB : Ev w w.heap.size bs five) (hbs : Bs w bs) (hn : len0 ≤ 60) (hd : ∀ i, i < len0 → ∃ b o, a0 = some ⟨b, o, none⟩ ∧ ∃ K N A T s sl sc l, DoAt w b o i K N A T s sl sc l) :
    Calls Tryd.prog 3 #[.slice a0 len0 cap0] w fun e w' => e = .returned (.bool true) ∧ Below w.heap.size w w' := by
  have d1 : decide ((60 : Int) < (len0 : Int)) = false := decide_eq_false (by omega)
  have hh : GeoW.half 300 = 75 := by decide
  go_enter Tryd.func3, Tryd.ntmps3
  go_wp2_with fail
  refine (first_w bs _ hB).mono ?_
  rintro e w1 ⟨rfl, hb1⟩
  have HB1 := hid hb1
  have HBS := hid (hbs.below hb1)
  have HB := hid ((hB.below hb1).mono hb1.size)
  have HD : Hid (∀ i, i < len0 → ∃ b o, a0 = some ⟨b, o, none⟩ ∧ ∃ K N A T s sl sc l, DoAt w1 b o i K N A T s sl sc l) := hid (fun i hi => by
    obtain ⟨b, o, e, K, N, A, T, s, sl, sc, l, h⟩ := hd i hi
    exact ⟨b, o, e, K, N, A, T, s, sl, sc, l, h.below hb1⟩)
  clear hb1 hbs hB hd
  go_wp2_with fail
  refine (ses_open 300 w1 (by decide) (by decide)).mono ?_
  rintro e w2 ⟨p, rfl, s2⟩
  rw [hh] at s2
  have hp2 := s2.plt
  have hd2 := s2.dlt
  have b3 := ((Below.refl w2.heap.size w2).alloc (Nat.le_refl _) (.cells Tryd.zeroCells29 29)).alloc (by simp) (.cells Tryd.zeroCells33 33)
  have HV := hid (Hv.made w2)
  have HS := hid (s2.below b3)
  clear s2 b3
  go_wp2_with fail
  generalize hH : w2.heap.size = hv at *
  generalize (w2.alloc (.cells Tryd.zeroCells29 29)).alloc (.cells Tryd.zeroCells33 33) = w3 at *
  clear hH w2
  refine loop bs HB.out HBS.out hn hp2 hd2 HD.out ⟨_, _, _, _, _, HS.out, rfl, by show 0 + 3 * 0 ≤ 0; decide, by show 0 ≤ 0; decide, by decide, HV.out, fun j P _ h => by cases h⟩ ?_ ?_
  · intros
    rename_i w4 hb4
    have HB4 := hid hb4
    clear hb4
    go_wp2_with fail
    go_ret
    exact ⟨rfl, HB1.out.trans (HB4.out.mono HB1.out.size)⟩
  · intros
    rename_i w4 hb4
    have HB4 := hid hb4
    clear hb4
    go_wp2_with fail
    go_ret
    exact ⟨rfl, HB1.out.trans (HB4.out.mono HB1.out.size)⟩
theorem walk {H : Type} {enc : TypeId × Value → H} (a0 : Option Addr) (len0 cap0 : Nat) (w : World) (hE : Err.All w gl) {fs : Array Field} (he : Tryd.prog.underlying 35 = some (.struct fs)) (w0 : Structs enc Tryd.prog w 0 (fun _ => true) true fs a0 len0 cap0) :
    Calls Tryd.prog 3 #[.slice a0 len0 cap0] w fun e w' => e = .returned (.bool true) ∧ Below w.heap.size w w' := by
  obtain ⟨bs, hbs⟩ := bs_of hE
  have hB := ev_of_bs hbs five (by decide)
  rcases Nat.lt_or_ge 60 len0 with h | h
  · exact over bs a0 len0 cap0 w hB h
  · have hfs : fs.toList.map (·.type) = [3, 3, 3, 30, 28] := by
      have e := Option.some.inj (he.symm.trans Tryd.underlying35)
      cases e
      rfl
    exact done bs a0 len0 cap0 w hB hbs h fun i hi => do_at w0 hfs hi
end Go.Proofs.YtagbnacffiagcaaDoor.pairReads
