/- The walk of GeoSays. -/
import Derived.Test.YtdgbgdkfoeoppaaDoorGeoSaysB
import Derived.Test.YtdgbgdkfoeoppaaDoorGeoSaysC
namespace Go.Proofs.YtdgbgdkfoeoppaaDoor.geoSays
open Go Go.RowKit Go.Proofs.YtdgbgdkfoeoppaaDoor.Mem Go.Proofs.YtdgbgdkfoeoppaaDoor.GeoW
set_option linter.unusedVariables false
set_option maxRecDepth 100000

theorem walk (a0 a1 : Int) (a2 : Option Addr) (len2 cap2 : Nat) (z2 : List Int) (w : World) (hA : Err.All w SeeW.gl) (w0 : (Lit.int .i64 a0).wf = true) (w1 : (Lit.int .i64 a1).wf = true) (w2 : IsRow .i64 w a2 len2 cap2 z2) :
    Calls Tryd.prog 6 #[.int .i64 a0, .int .i64 a1, .slice a2 len2 cap2] w fun e w' => e = .returned (.bool true) ∧ Below w.heap.size w w' := by
  obtain ⟨bs, hB⟩ := SeeW.bs_of hA
  obtain ⟨l, hl, hx⟩ := Ints.is_of w2
  have h1 := int_of w1
  by_cases hn : 40 < len2
  · exact long a0 a1 a2 len2 cap2 w hn
  · by_cases h : a0 < 300 ∨ 6000 < a0
    · exact bad a0 a1 a2 len2 cap2 bs w (by omega) hB h
    · obtain ⟨b, rfl⟩ := Int.eq_ofNat_of_zero_le (a := a0) (by omega)
      exact good b a1 a2 len2 cap2 l w (by omega) (by omega) (by omega) h1.2 hl fun x m => (int_of (hx x m)).2
end Go.Proofs.YtdgbgdkfoeoppaaDoor.geoSays
