/- The walk of DevPlays. -/
import Derived.Test.YtagbnacffiagcaaDoorWDevPlaysC
namespace Go.Proofs.YtagbnacffiagcaaDoor.devPlays
open Go Go.RowKit Go.Maps Go.Proofs.YtagbnacffiagcaaDoor.Mem Go.Proofs.YtagbnacffiagcaaDoor.MapsW Go.Proofs.YtagbnacffiagcaaDoor.SeeW Go.Proofs.YtagbnacffiagcaaDoor.DevG Go.Proofs.YtagbnacffiagcaaDoor.RDevW Go.Proofs.YtagbnacffiagcaaDoor.Ints Go.Proofs.YtagbnacffiagcaaDoor.DevL
set_option linter.unusedVariables false
set_option maxRecDepth 1000000
theorem out (bs : List Addr) (b : Int) (a0 : Option Addr) (len0 cap0 : Nat) (w : World) (hB : Ev w w.heap.size bs five) (hbs : Bs w bs) (hf : Fits b) (hb : b < 1 ∨ 6000 < b) :
    Calls Tryd.prog 6 #[.int .i64 b, .slice a0 len0 cap0] w fun e w' => e = .returned (.bool true) ∧ Below w.heap.size w w' := by
  go_enter Tryd.func6, Tryd.ntmps6
  go_wp2_with fail
  refine (first_w bs _ hB).mono ?_
  rintro e w1 ⟨rfl, hb1⟩
  have hnw := new_no bs w.heap.size b w1 (hB.below hb1) hf hb
  have HBS := hid (hbs.below hb1)
  have HB1 := hid hb1
  clear hB hbs hb1
  go_wp2_with fail
  refine hnw.mono ?_
  rintro e w2 ⟨⟨x, hx, rfl⟩, b2⟩
  have his := is_w bs w2 (HBS.out.below b2) 2 x hx 103
  rw [show ((101 : Int) + ((2 : Nat) : Int) == 103) = true from rfl] at his
  have B2 := hid (HB1.out.trans (b2.mono HB1.out.size))
  clear hnw b2
  by_cases h1 : b < 1
  · have d1 : decide (b < 1) = true := decide_eq_true h1
    clear hb h1
    go_wp2_with fail
    refine his.mono ?_
    rintro e w3 ⟨rfl, b3⟩
    have B3 := hid (B2.out.trans (b3.mono B2.out.size))
    clear his b3
    go_wp2_with fail
    go_ret
    exact ⟨rfl, B3.out⟩
  · have d1 : decide (b < 1) = false := decide_eq_false h1
    have d2 : decide ((6000 : Int) < b) = true := decide_eq_true (by omega)
    clear hb h1
    go_wp2_with fail
    refine his.mono ?_
    rintro e w3 ⟨rfl, b3⟩
    have B3 := hid (B2.out.trans (b3.mono B2.out.size))
    clear his b3
    go_wp2_with fail
    go_ret
    exact ⟨rfl, B3.out⟩
set_option maxHeartbeats 16000000 in
theorem done (bs : List Addr) (bk : Nat) (a0 : Option Addr) (len0 cap0 : Nat) (w : World) (hB : Ev w w.heap.size bs five) (hbs : Bs w bs) (hk1 : 1 ≤ bk) (hk2 : bk ≤ 6000) (hln : len0 ≤ 9223372036854775807) (hd : ∀ i, i < len0 → ∃ b o, a0 = some ⟨b, o, none⟩ ∧ ∃ K N A B T s sl sc l p pl pc zs, D7 w b o i K N A B T s sl sc l p pl pc zs) :
    Calls Tryd.prog 6 #[.int .i64 (bk : Int), .slice a0 len0 cap0] w fun e w' => e = .returned (.bool true) ∧ Below w.heap.size w w' := by
  have d1 : decide ((bk : Int) < 1) = false := decide_eq_false (by omega)
  have d2 : decide ((6000 : Int) < (bk : Int)) = false := decide_eq_false (by omega)
  go_enter Tryd.func6, Tryd.ntmps6
  go_wp2_with fail
  refine (first_w bs _ hB).mono ?_
  rintro e w1 ⟨rfl, hb1⟩
  have hnw := new_w bk w1 hk1 hk2
  have HB1 := hid hb1
  have HBS := hid (hbs.below hb1)
  have HB := hid ((hB.below hb1).mono hb1.size)
  have HD : Hid (∀ i, i < len0 → ∃ b o, a0 = some ⟨b, o, none⟩ ∧ ∃ K N A B T s sl sc l p pl pc zs, D7 w1 b o i K N A B T s sl sc l p pl pc zs) := hid (fun i hi => by
    obtain ⟨b, o, e, K, N, A, B, T, s, sl, sc, l, p, pl, pc, zs, h⟩ := hd i hi
    exact ⟨b, o, e, K, N, A, B, T, s, sl, sc, l, p, pl, pc, zs, h.below hb1⟩)
  clear hb1 hbs hB hd
  go_wp2_with fail
  refine hnw.mono ?_
  rintro e w2 ⟨rfl, A2, b2, z2⟩
  have B2 := hid b2
  have HA2 := hid A2
  have HZ2 := hid z2
  clear hnw A2 b2 z2
  by_cases h12 : 12 < bk
  · have d3 : decide ((12 : Int) < (bk : Int)) = true := decide_eq_true (by omega)
    clear h12
    go_wp2_with fail
    go_ret
    exact ⟨rfl, HB1.out.trans (B2.out.mono HB1.out.size)⟩
  have d3 : decide ((12 : Int) < (bk : Int)) = false := decide_eq_false (by omega)
  by_cases h60 : 60 < len0
  · have d4 : decide ((60 : Int) < (len0 : Int)) = true := decide_eq_true (by omega)
    clear h12 h60
    go_wp2_with fail
    go_ret
    exact ⟨rfl, HB1.out.trans (B2.out.mono HB1.out.size)⟩
  have d4 : decide ((60 : Int) < (len0 : Int)) = false := decide_eq_false (by omega)
  have hrn := rnew_w bk w2 hk1 hk2
  have H12 := hid h12
  have H60 := hid h60
  clear h12 h60
  go_wp2_with fail
  refine hrn.mono ?_
  rintro e w3 ⟨xr, G, R, rfl, X3, rel3, b3⟩
  have hst := hid (show St w1 w3 bk (w1.heap.size + 5) xr 0 from ⟨⟨0, mp w1.heap.size, Dv.new bk, G, R, ⟨HA2.out.below b3, ⟨X3.b1, X3.b2, X3.cells, X3.rf, X3.rw, X3.rp, X3.ra, X3.ri, X3.re, X3.n8, X3.nd, fun y hy => Nat.le_trans B2.out.size (X3.lo_ y hy)⟩, rel3, Ok.new bk, fun y hy hx => by
      have h1 := X3.lo_ y hx
      have h2 : y < w1.heap.size + 6 := by
        simp only [own, Mp.list, List.mem_cons, List.not_mem_nil, or_false] at hy
        omega
      rw [HZ2.out] at h1
      omega, by show bk ≤ 12; have := H12.out; omega, Nat.zero_le _⟩, rfl, Nat.zero_le _, Nat.zero_le _, B2.out.trans (b3.mono B2.out.size)⟩⟩)
  clear hrn X3 rel3 b3
  go_wp2_with fail
  refine loop bs HB.out HBS.out (by have := H60.out; omega) HD.out hst.out ?_ ?_
  · intros
    rename_i w4 hb4
    have HB4 := hid hb4
    clear hb4
    go_wp2_with fail
    go_ret
    exact ⟨rfl, HB1.out.trans (HB4.out.mono HB1.out.size)⟩
  · intros
    rename_i w4 hb4
    have HB4 := hid hb4
    clear hb4
    go_wp2_with fail
    go_ret
    exact ⟨rfl, HB1.out.trans (HB4.out.mono HB1.out.size)⟩
theorem walk {H : Type} {enc : TypeId × Value → H} (b : Int) (a0 : Option Addr) (len0 cap0 : Nat) (w : World) (hE : Err.All w gl) (w0 : (Lit.int .i64 b).wf = true) {fs : Array Field} (he : Tryd.prog.underlying 79 = some (.struct fs)) (w1 : Structs enc Tryd.prog w 0 (fun _ => true) true fs a0 len0 cap0) :
    Calls Tryd.prog 6 #[.int .i64 b, .slice a0 len0 cap0] w fun e w' => e = .returned (.bool true) ∧ Below w.heap.size w w' := by
  obtain ⟨bs, hbs⟩ := bs_of hE
  have hB := ev_of hbs five (by decide)
  have hf : Fits b := int_of w0
  have hln : len0 ≤ 9223372036854775807 := by
    rcases w1 with ⟨_, h, _⟩ | ⟨a, _, _, h1, h2, _⟩
    · omega
    · unfold maxLen at h2; omega
  by_cases h : b < 1 ∨ 6000 < b
  · exact out bs b a0 len0 cap0 w hB hbs hf h
  · obtain ⟨bk, rfl⟩ : ∃ bk : Nat, b = (bk : Int) := ⟨b.toNat, by omega⟩
    have hfs : fs.toList.map (·.type) = [3, 3, 3, 5, 30, 28, 54] := by
      have e := Option.some.inj (he.symm.trans Tryd.underlying79)
      cases e
      rfl
    exact done bs bk a0 len0 cap0 w hB hbs (by omega) (by omega) hln fun i hi => d7_at w1 hfs hi
end Go.Proofs.YtagbnacffiagcaaDoor.devPlays
