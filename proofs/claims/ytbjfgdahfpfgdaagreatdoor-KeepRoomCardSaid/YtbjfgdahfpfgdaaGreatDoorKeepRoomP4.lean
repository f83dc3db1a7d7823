/- The walks of package root: a root's bytes; Slices of places and their sums ([]api.Ref); The walks of package root: what is amiss with a root; slices.Grow of nothing, slices.Concat of two slices: bytes, ints; The walk of root.Bytes; Small parts that the texts on roots and on areas share. -/
import Derived.Test.YtbjfgdahfpfgdaaGreatDoorKeepRoomP3
import Derived.Test.YtbjfgdahfpfgdaaGreatDoorKeepRoomP1
import Derived.Test.YtbjfgdahfpfgdaaGreatDoorKeepRoomP2
import Derived.Deep.RegionHeld3
import Derived.BigQuiet
import Derived.Lib.AppendZeros
import Derived.Deep.AppendLies
import Derived.Deep.RegionLaw
import Derived.WalkSpells
import Derived.StillTactics
import Derived.OwnWalk
namespace Go.Proofs.YtbjfgdahfpfgdaaGreatDoor.RootW
open Go Go.RowKit Go.Proofs.YtbjfgdahfpfgdaaGreatDoor.Mem Go.Proofs.YtbjfgdahfpfgdaaGreatDoor.RootP Go.Proofs.YtbjfgdahfpfgdaaGreatDoor.SeeW
set_option linter.unusedVariables false
set_option maxRecDepth 100000

theorem le_take_succ (k n i : Nat) (h : i < k) : (le k n).take (i + 1) = (le k n).take i ++ [n / 256 ^ i % 256] := by
  rw [List.take_add_one, le_get k n i h]; rfl
theorem pow8 (i : Nat) : 2 ^ (8 * i) = 256 ^ i := by rw [Nat.pow_mul]
theorem ownb {w : World} {base : Nat} {g n cap : Nat} {l : List Nat} (h : OwnN w base 5 .u8 g n cap l) (j x : Nat) : OwnN (w.setCell ⟨g, j, none⟩ (.int .u8 (x : Int))) base 5 .u8 g n cap (l.set j x) := OwnN.set h j x
theorem shr_byte (n i : Nat) (hi : 8 * i < 64) : ((n : Int) / 2 ^ (8 * i) % 256) = ((n / 256 ^ i % 256 : Nat) : Int) := by
  rw [← pow8]; simp

set_option maxHeartbeats 1600000 in
/-- a number's bytes laid -/
theorem lay_w (base g N cap : Nat) (L : List Nat) (o len c n many : Nat) (w : World) (h : OwnN w base 5 .u8 g N cap L) (hb : base ≤ g) (hm : many ≤ len) (ho : o + len ≤ N) (hN : N ≤ 1000) (hlc : len ≤ c) (hc : c ≤ 1000) (hn : n < 18446744073709551616) (hk : many ≤ 8) :
    Calls Tryz.prog 136 #[.slice (some ⟨g, o, none⟩) len c, .int .u64 n, .int .i64 many] w fun e w' => e = .returned (.tuple #[]) ∧ OwnN w' base 5 .u8 g N cap (lays L o (le many n)) ∧ Below base w w' ∧ ∀ q, q ≠ g → w'.heap[q]? = w.heap[q]? := by
  have HL := hid (OwnN.len h)
  go_enter Tryz.func136, Tryz.ntmps136
  go_wp2
  go_loopw [8] (fun i wr => ∃ k : Nat, k ≤ many ∧ i = .int .i64 k ∧ OwnN wr base 5 .u8 g N cap (lays L o ((le many n).take k)) ∧ Below base w wr ∧ ∀ q, q ≠ g → wr.heap[q]? = w.heap[q]?) (fun i _ => many - (RowKit.intOf i).toNat)
  case atStart => exact ⟨0, by omega, rfl, by simpa [lays] using h, Below.refl _ _, fun _ _ => rfl⟩
  case round =>
    clear h
    obtain ⟨k, hk1, rfl, hown, hb1, hq⟩ := hrel
    have HQ := hid hq
    clear hq
    by_cases hlt : k < many
    · have HS := hid (show lays L o ((le many n).take (k + 1)) = (lays L o ((le many n).take k)).set (o + k) (n / 256 ^ k % 256) by
        rw [le_take_succ _ _ _ hlt, lays_snoc, List.length_take, le_length, Nat.min_eq_left (by omega)])
      have hlen : (lays L o ((le many n).take k)).length = N := by rw [lays_length]; exact HL.out
      obtain ⟨y, hy⟩ : ∃ y, wr.cell? ⟨g, o + k, none⟩ = some y := ⟨_, OwnN.cell hown (j := o + k) (by omega)⟩
      have hf := World.ownsRow.frozenAt hown (o + k)
      have HB := hid (shr_byte n k (by omega))
      have k8 : 8 * k < 64 := by omega
      have HO := hid hown
      clear hown hlen
      go_wp2
      go_roundw
      case rel => exact ⟨k + 1, by omega, by go_num, by rw [HS.out]; rw [HB.out]; exact ownb HO.out (o + k) _, hb1.setCell hb _, fun q hq => (heap_setCell_other _ ⟨g, o + k, none⟩ q _ hq).trans (HQ.out q hq)⟩
      case measure => simp [RowKit.intOf]; omega
    · obtain rfl : k = many := by omega
      rw [List.take_of_length_le (by rw [le_length]; exact Nat.le_refl _)] at hown
      go_wp2
      refine bodyPost_end (v := .tuple #[]) (by simp [results, Tryz.results136, go_sem]) rfl ?_
      exact ⟨rfl, hown, hb1, HQ.out⟩

theorem or_byte (acc c k : Nat) (hc : c < 256) (hk : k < 8) (ha : acc < 256 ^ k) :
    bits .or .u64 (acc : Int) (IntKind.u64.wrap (IntKind.u64.wrap (c : Int) * 2 ^ (8 * k))) = ((acc + 256 ^ k * c : Nat) : Int) ∧ acc + 256 ^ k * c < 256 ^ (k + 1) := by
  have h1 : acc + 256 ^ k * c < 256 ^ (k + 1) := by
    have : 256 ^ k * c ≤ 256 ^ k * 255 := Nat.mul_le_mul_left _ (by omega)
    rw [Nat.pow_succ]; omega
  have h2 : 256 ^ (k + 1) ≤ 256 ^ 8 := Nat.pow_le_pow_right (by decide) (by omega)
  have h3 : (256 : Nat) ^ 8 = 18446744073709551616 := by decide
  refine ⟨?_, h1⟩
  have e0 : IntKind.u64.wrap (c : Int) = c := by rw [IntKind.wrap_u64]; omega
  rw [e0]
  have e1 : IntKind.u64.wrap ((c : Int) * 2 ^ (8 * k)) = ((c * 2 ^ (8 * k) : Nat) : Int) := by
    rw [IntKind.wrap_u64]
    have : c * 2 ^ (8 * k) < 18446744073709551616 := by rw [pow8, Nat.mul_comm]; omega
    have e : ((c : Int) * 2 ^ (8 * k)) = ((c * 2 ^ (8 * k) : Nat) : Int) := by simp
    rw [e]; omega
  rw [e1, bits_or_u64_nat _ _ (by omega) (by rw [pow8, Nat.mul_comm]; omega)]
  have e2 : acc ||| c * 2 ^ (8 * k) = acc + 256 ^ k * c := by
    rw [Nat.or_comm, ← Nat.shiftLeft_eq, ← Nat.shiftLeft_add_eq_or_of_lt (by rw [pow8]; exact ha), Nat.shiftLeft_eq, pow8, Nat.mul_comm]
    omega
  rw [e2]

set_option maxHeartbeats 1600000 in
/-- the number that bytes say -/
theorem says_w (a : Option Addr) (n cap : Nat) (l : List Nat) (many : Nat) (w : World) (h : Nums .u8 w a n cap l) (hb : Crc.Bytes l) (hm : many ≤ n) (hk : many ≤ 8) :
    Calls Tryz.prog 160 #[.slice a n cap, .int .i64 many] w fun e w' => e = .returned (.int .u64 (un (l.take many))) ∧ w = w' := by
  have HL := hid h.len
  have hbd := h.bound
  obtain ⟨c1, c2⟩ := hbd
  go_enter Tryz.func160, Tryz.ntmps160
  go_wp2
  go_loop [5, 8] (fun s i => ∃ k : Nat, k ≤ many ∧ i = .int .i64 k ∧ s = .int .u64 (un (l.take k))) (fun _ i => many - (RowKit.intOf i).toNat)
  case atStart => exact ⟨0, by omega, rfl, rfl⟩
  case round =>
    obtain ⟨k, hk1, rfl, rfl⟩ := hrel
    by_cases hlt : k < many
    · have hkl : k < l.length := by rw [HL.out]; omega
      obtain ⟨b, o, rfl, hc⟩ := h.at hkl
      have hcb : l[k] < 256 := hb _ (List.getElem_mem _)
      have hu := un_lt (l.take k) fun x hx => hb x (List.mem_of_mem_take hx)
      rw [List.length_take, Nat.min_eq_left (by omega)] at hu
      have HS := hid (show un (l.take (k + 1)) = un (l.take k) + 256 ^ k * l[k] by
        rw [List.take_succ_eq_append_getElem hkl, un_snoc, List.length_take, Nat.min_eq_left (by omega)])
      generalize l[k] = x at hc hcb HS
      generalize un (l.take k) = acc at hu HS ⊢
      have HO := hid (or_byte acc x k hcb (by omega) hu).1
      have k8 : 8 * k < 64 := by omega
      have kn : (k : Int) < n := by omega
      clear h hcb hu
      go_wp2
      go_round
      case rel => exact ⟨k + 1, by omega, by go_num, by rw [HS.out, ← HO.out]⟩
      case measure => simp [RowKit.intOf]; omega
    · obtain rfl : k = many := by omega
      go_wp2
      go_ret
      exact ⟨rfl, rfl⟩
end Go.Proofs.YtbjfgdahfpfgdaaGreatDoor.RootW

namespace Go.Proofs.YtbjfgdahfpfgdaaGreatDoor.RefsW
open Go Go.RowKit Go.Proofs.YtbjfgdahfpfgdaaGreatDoor.Mem
set_option linter.unusedVariables false
set_option maxRecDepth 100000

def refCells : List (Int × Nat) → List Value
  | [] => []
  | r :: rs => .int .i64 r.1 :: .int .u32 (r.2 : Int) :: refCells rs
theorem refCells_length (rs : List (Int × Nat)) : (refCells rs).length = rs.length * 2 := by
  induction rs with
  | nil => rfl
  | cons r rs ih => simp only [refCells, List.length_cons, ih]; omega
theorem refCells_append (rs qs : List (Int × Nat)) : refCells (rs ++ qs) = refCells rs ++ refCells qs := by
  induction rs with
  | nil => rfl
  | cons r rs ih => simp only [List.cons_append, refCells, ih]
theorem refCells_get (rs : List (Int × Nat)) (j : Nat) (h : j < rs.length) : (refCells rs)[j * 2]? = some (.int .i64 rs[j].1) ∧ (refCells rs)[j * 2 + 1]? = some (.int .u32 (rs[j].2 : Int)) := by
  induction rs generalizing j with
  | nil => simp at h
  | cons r rs ih =>
    cases j with
    | zero => exact ⟨rfl, rfl⟩
    | succ j =>
      have := ih j (by simpa using h)
      rw [Nat.succ_mul]
      exact this
theorem refCells_one (rs : List (Int × Nat)) : ∀ u ∈ refCells rs, u.oneCell' = true := by
  induction rs with
  | nil => simp [refCells]
  | cons r rs ih =>
    intro u hu
    simp only [refCells, List.mem_cons] at hu
    rcases hu with rfl | rfl | hu
    · rfl
    · rfl
    · exact ih u hu
/-- a slice of places -/
def Refs (w : World) (a : Option Addr) (n cap : Nat) (rs : List (Int × Nat)) : Prop := Row w 2 a n cap (refCells rs)
theorem Refs.below {w w' : World} {a : Option Addr} {n cap : Nat} {rs : List (Int × Nat)} (h : Refs w a n cap rs) (hb : Below w.heap.size w w') : Refs w' a n cap rs := Row.below h hb
theorem Refs.len {w : World} {a : Option Addr} {n cap : Nat} {rs : List (Int × Nat)} (h : Refs w a n cap rs) : rs.length = n := by
  have := h.1; rw [refCells_length] at this; omega
theorem Refs.bound {w : World} {a : Option Addr} {n cap : Nat} {rs : List (Int × Nat)} (h : Refs w a n cap rs) : n ≤ cap ∧ cap ≤ 9223372036854775807 := by
  have := h.2.2.1; unfold maxLen at this; exact ⟨h.2.1, by omega⟩
theorem Refs.at {w : World} {a : Option Addr} {n cap : Nat} {rs : List (Int × Nat)} (h : Refs w a n cap rs) {j : Nat} (hj : j < rs.length) :
    ∃ b off, a = some ⟨b, off, none⟩ ∧ w.cell? ⟨b, off + j * 2, none⟩ = some (.int .i64 rs[j].1) ∧ w.cell? ⟨b, off + j * 2 + 1, none⟩ = some (.int .u32 (rs[j].2 : Int)) := by
  obtain ⟨g1, g2⟩ := refCells_get rs j hj
  obtain ⟨b, o, rfl, h1⟩ := h.2.2.2.2 _ _ g1
  obtain ⟨b', o', e, h2⟩ := h.2.2.2.2 _ _ g2
  cases e
  exact ⟨b, o, rfl, h1, h2⟩
theorem Refs.nil (w : World) : Refs w none 0 0 [] := ⟨rfl, Nat.le_refl _, Nat.zero_le _, fun _ => rfl, fun j u h => by simp [refCells] at h⟩
theorem elRef : El Tryz.prog 87 111 (.agg #[.int .i64 0, .int .u32 0]) 2 16 := ⟨Tryz.underlying87, by kernel_rfl, rfl, by decide⟩
abbrev OwnRefs (w : World) (base : Nat) (v : Value) (n : Nat) (rs : List (Int × Nat)) : Prop := w.ownsRow base 111 2 v n (refCells rs)
theorem refs_of {w : World} {base : Nat} {v : Value} {n : Nat} {rs : List (Int × Nat)} (h : OwnRefs w base v n rs) : ∃ a cap, v = .slice a n cap ∧ Refs w a n cap rs := ownsRow_slice h
end Go.Proofs.YtbjfgdahfpfgdaaGreatDoor.RefsW

namespace Go.Proofs.YtbjfgdahfpfgdaaGreatDoor.RootW
open Go Go.RowKit Go.Proofs.YtbjfgdahfpfgdaaGreatDoor.Mem Go.Proofs.YtbjfgdahfpfgdaaGreatDoor.RootP Go.Proofs.YtbjfgdahfpfgdaaGreatDoor.SeeW Go.Proofs.YtbjfgdahfpfgdaaGreatDoor.RefsW Go.Proofs.YtbjfgdahfpfgdaaGreatDoor.DevG
set_option linter.unusedVariables false
set_option maxRecDepth 100000

abbrev Rf (x : Int × Nat) : Value := .agg #[.int .i64 x.1, .int .u32 (x.2 : Int)]
theorem bad_w (x : Int × Nat) (w : World) : Calls Tryz.prog 159 #[Rf x] w fun e w' => e = .returned (.bool (badR x)) ∧ Below w.heap.size w w' := by
  unfold badR
  have b1 := (Below.refl w.heap.size w).alloc (Nat.le_refl _) (.cells #[.int .i64 x.1, .int .u32 (x.2 : Int)] 111)
  by_cases h : x.1 < 0
  · have h1 : decide (x.1 < 0) = true := decide_eq_true h
    rw [h1]
    go_enter Tryz.func159, Tryz.ntmps159
    go_wp2
    go_ret
    exact ⟨ret_bool (by simp), b1⟩
  · have h1 : decide (x.1 < 0) = false := decide_eq_false h
    rw [h1]
    go_enter Tryz.func159, Tryz.ntmps159
    go_wp2
    go_ret
    exact ⟨ret_bool (by simp), b1⟩

theorem any_take_succ {rs : List (Int × Nat)} {k : Nat} (h : k < rs.length) (f : Int × Nat → Bool) : (rs.take (k + 1)).any f = ((rs.take k).any f || f rs[k]) := by
  rw [List.take_succ_eq_append_getElem h, List.any_append]; simp
/-- the closure as a value -/
abbrev fv : Value := .func (.func 159) #[] #[]
set_option maxHeartbeats 800000 in
theorem indexf_w (a : Option Addr) (n cap : Nat) (rs : List (Int × Nat)) (w : World) (hl : Refs w a n cap rs) :
    Calls Tryz.prog 150 #[.slice a n cap, fv] w fun e w' => (∃ r : Int, e = .returned (.int .i64 r) ∧ decide (0 ≤ r) = rs.any badR) ∧ Below w.heap.size w w' := by
  have HL := hid hl.len
  obtain ⟨c1, c2⟩ := hl.bound
  go_enter Tryz.func150, Tryz.ntmps150
  go_wp2_with fail
  go_loopw [8] (fun i wr => ∃ k : Nat, k ≤ n ∧ i = .int .i64 k ∧ (rs.take k).any badR = false ∧ Below w.heap.size w wr) (fun i _ => n - (RowKit.intOf i).toNat)
  case atStart => exact ⟨0, by omega, rfl, by simp, Below.refl _ _⟩
  case round =>
    obtain ⟨k, hk, rfl, hT, hbel⟩ := hrel
    have HT := hid hT
    clear hT
    replace hl := hl.below hbel
    have hsz := hbel.size
    have HB := hid hbel
    clear hbel
    by_cases hlt : k < n
    · have hkl : k < rs.length := by rw [HL.out]; exact hlt
      obtain ⟨b0, o0, rfl, hc0, hc1⟩ := hl.at hkl
      have HS := hid (any_take_succ hkl badR)
      have HM := hid (List.getElem_mem hkl)
      generalize rs[k] = y at hc0 hc1 HS HM
      go_wp2_with fail
      refine (bad_w y _).mono ?_
      rintro e w2 ⟨rfl, hb2⟩
      have hbb := HB.out.trans (hb2.mono hsz)
      clear hb2 hc0 hl HB
      by_cases hy : badR y = true
      · have HY := hid hy
        rw [hy]
        clear hy
        go_wp2_with fail
        go_ret
        refine ⟨⟨_, rfl, ?_⟩, hbb⟩
        rw [List.any_eq_true.2 ⟨y, HM.out, HY.out⟩]
        simp
      · have hy : badR y = false := by simpa using hy
        have HY := hid hy
        rw [hy]
        clear hy
        go_wp2_with fail
        go_roundw
        case rel => exact ⟨k + 1, by omega, by go_num, by rw [HS.out, HT.out, HY.out]; rfl, hbb⟩
        case measure => simp [RowKit.intOf]; omega
    · obtain rfl : k = n := by omega
      clear hl
      go_wp2_with fail
      go_ret
      refine ⟨⟨_, rfl, ?_⟩, HB.out⟩
      have h1 := HT.out
      rw [List.take_of_length_le (by rw [HL.out]; omega)] at h1
      rw [h1]
      decide
theorem containsf_w (a : Option Addr) (n cap : Nat) (rs : List (Int × Nat)) (w : World) (hl : Refs w a n cap rs) :
    Calls Tryz.prog 158 #[.slice a n cap, .func (.func 159) #[] #[]] w fun e w' => e = .returned (.bool (rs.any badR)) ∧ Below w.heap.size w w' := by
  have ci := indexf_w a n cap rs w hl
  clear hl
  go_enter Tryz.func158, Tryz.ntmps158
  go_wp2_with fail
  refine ci.mono ?_
  rintro e w' ⟨⟨r, rfl, hr⟩, hbel⟩
  have HR := hid hr
  have HB := hid hbel
  clear hr hbel
  go_wp2_with fail
  go_ret
  exact ⟨ret_bool HR.out, HB.out⟩

/-- a root as a value -/
abbrev Rv (ep : Int) (a : Option Addr) (n cap : Nat) : Value := .agg #[.int .i64 ep, .slice a n cap]
/-- the errors of a root -/
abbrev rerr : List Nat := [2, 3]
set_option maxHeartbeats 1600000 in
theorem fits_w (bs : List Addr) (lo : Nat) (r : Rt) (a : Option Addr) (n cap : Nat) (w : World) (hl : Refs w a n cap r.rs) (hB : Ev w lo bs rerr) :
    Calls Tryz.prog 135 #[Rv r.ep a n cap] w fun e w' => (∃ v, Says bs (amiss r) v ∧ e = .returned v) ∧ Below w.heap.size w w' := by
  have HL := hid hl.len
  obtain ⟨c1, c2⟩ := hl.bound
  obtain ⟨aR, haR, hAR⟩ := hB.get 2 _ (by decide) rfl
  obtain ⟨aM, haM, hAM⟩ := hB.get 3 _ (by decide) rfl
  have bx := (Below.refl w.heap.size w).alloc (Nat.le_refl _) (.cells #[.int .i64 r.ep, .slice a n cap] 89)
  obtain ⟨q0, q1⟩ := new2 w (.int .i64 r.ep) (.slice a n cap) 89
  have hR := hAR.below bx
  have hM := hAM.below bx
  have hlx := hl.below bx
  have A1 := hR.1
  have A2 := hM.1
  by_cases e1 : r.ep < 1
  · have hm : amiss r = some 2 := by unfold amiss badE; rw [decide_eq_true e1]; rfl
    rw [hm]
    have d1 : decide (r.ep < 1) = true := decide_eq_true e1
    go_enter Tryz.func135, Tryz.ntmps135
    go_wp2
    go_ret
    exact ⟨⟨_, ⟨aR, haR, rfl⟩, rfl⟩, bx⟩
  · have d1 : decide (r.ep < 1) = false := decide_eq_false e1
    by_cases e2 : 1099511627776 < r.ep
    · have hm : amiss r = some 2 := by unfold amiss badE; rw [decide_eq_true e2, Bool.or_true]; rfl
      rw [hm]
      have d2 : decide (1099511627776 < r.ep) = true := decide_eq_true e2
      go_enter Tryz.func135, Tryz.ntmps135
      go_wp2
      go_ret
      exact ⟨⟨_, ⟨aR, haR, rfl⟩, rfl⟩, bx⟩
    · have d2 : decide (1099511627776 < r.ep) = false := decide_eq_false e2
      have cf := containsf_w a n cap r.rs _ hlx
      cases ha : r.rs.any badR
      · rw [ha] at cf
        by_cases e3 : 16 < n
        · have hm : amiss r = some 3 := by unfold amiss badE; rw [d1, d2, ha, if_neg (by decide), if_pos (by rw [HL.out]; exact e3)]
          rw [hm]
          clear hm ha
          go_enter Tryz.func135, Tryz.ntmps135
          go_wp2_with fail
          refine cf.mono ?_
          rintro e w2 ⟨rfl, hb2⟩
          replace A1 := kept hb2 A1
          replace A2 := kept hb2 A2
          replace q0 := kept hb2 q0
          replace q1 := kept hb2 q1
          go_wp2
          go_ret
          exact ⟨⟨_, ⟨aM, haM, rfl⟩, rfl⟩, bx.trans (hb2.mono (by simp))⟩
        · have hm : amiss r = none := by unfold amiss badE; rw [d1, d2, ha, if_neg (by decide), if_neg (by rw [HL.out]; exact e3)]
          rw [hm]
          clear hm ha
          go_enter Tryz.func135, Tryz.ntmps135
          go_wp2_with fail
          refine cf.mono ?_
          rintro e w2 ⟨rfl, hb2⟩
          replace A1 := kept hb2 A1
          replace A2 := kept hb2 A2
          replace q0 := kept hb2 q0
          replace q1 := kept hb2 q1
          go_wp2
          go_ret
          exact ⟨⟨_, rfl, rfl⟩, bx.trans (hb2.mono (by simp))⟩
      · rw [ha] at cf
        have hm : amiss r = some 2 := by unfold amiss; rw [ha, Bool.or_true]; rfl
        rw [hm]
        clear hm ha
        go_enter Tryz.func135, Tryz.ntmps135
        go_wp2_with fail
        refine cf.mono ?_
        rintro e w2 ⟨rfl, hb2⟩
        replace A1 := kept hb2 A1
        go_wp2
        go_ret
        exact ⟨⟨_, ⟨aR, haR, rfl⟩, rfl⟩, bx.trans (hb2.mono (by simp))⟩
end Go.Proofs.YtbjfgdahfpfgdaaGreatDoor.RootW

namespace Go.Proofs.YtbjfgdahfpfgdaaGreatDoor.ConcatW
open Go Go.RowKit Go.Proofs.YtbjfgdahfpfgdaaGreatDoor.Mem
set_option linter.unusedVariables false
set_option maxRecDepth 100000

theorem elInt : El Tryz.prog 62 3 (.int .i64 0) 1 8 := ⟨Tryz.underlying62, by kernel_rfl, rfl, by decide⟩

set_option maxHeartbeats 1600000 in
/-- room for n, of nothing -/
theorem growB (n : Nat) (w : World) (h0 : 0 < n) (hn : n ≤ 1000000) :
    Calls Tryz.prog 134 #[.slice none 0 0, .int .i64 n] w fun e w' => (∃ cap, e = .returned (.slice (some ⟨w.heap.size, 0, none⟩) 0 cap) ∧ w'.ownsRow w.heap.size 5 1 (.slice (some ⟨w.heap.size, 0, none⟩) 0 cap) 0 [] ∧ n ≤ cap ∧ cap ≤ maxLen) ∧ Below w.heap.size w w' := by
  obtain ⟨i, hi, hz0, hz1, hz2⟩ := info_parts RefW.elU8.hi
  have hz := Lib.run_append_nil_zeros (P := Tryz.prog) w 35 3 35 5 i _ .i64 .i64 Tryz.underlying35 Tryz.underlying3 hi hz0 n h0 (by omega) (by omega) (by rw [hz2]; omega)
  have g1 := grownCap_ge w n 0 5
  have g2 := grownCap_le_maxLen w n 0 5 (by unfold maxLen; omega)
  generalize hG : grownCap w n 0 5 = G at hz g1 g2
  have g3 : G ≤ 9223372036854775807 := by unfold maxLen at g2; omega
  have hsz : (Builtin.zeroCells (Value.int .u8 0).cells n ++ Builtin.zeroCells (Value.int .u8 0).cells (G - n)).size = G * 1 := by
    simp [Builtin.zeroCells, Value.cells]; omega
  clear hG
  generalize Builtin.zeroCells (Value.int .u8 0).cells n ++ Builtin.zeroCells (Value.int .u8 0).cells (G - n) = cs at hz hsz
  have hp : decide ((0 : Int) < n) = true := decide_eq_true (by omega)
  go_enter Tryz.func134, Tryz.ntmps134
  go_wp2_with (at_builtin; go_must (refine Lib.wpList_append_run _ rfl _ _ _ _ rfl _ _ rfl rfl _ _ hz ?_))
  go_ret
  refine ⟨⟨G, rfl, ?_, g1, g2⟩, (Below.refl _ _).drew.alloc (by simp) _⟩
  exact World.ownsRow_made (base := w.heap.size) (e := 5) (size := 1) w.drew cs G (by simp) g2 hsz

set_option maxHeartbeats 3200000 in
/-- two slices, one behind the other -/
theorem concatB (g : Nat) (a1 a2 : Option Addr) (n1 c1 n2 c2 : Nat) (xs ys : List Value) (w : World) (h1 : Row w 1 a1 n1 c1 xs) (h2 : Row w 1 a2 n2 c2 ys) (o1 : ∀ u ∈ xs, u.oneCell' = true) (o2 : ∀ u ∈ ys, u.oneCell' = true)
    (s0 : w.cell? ⟨g, 0, none⟩ = some (.slice a1 n1 c1)) (s1 : w.cell? ⟨g, 1, none⟩ = some (.slice a2 n2 c2)) (hp : 0 < n1 + n2) (k1 : n1 ≤ 100000) (k2 : n2 ≤ 100000) :
    Calls Tryz.prog 105 #[.slice (some ⟨g, 0, none⟩) 2 2] w fun e w' => (∃ v, e = .returned v ∧ w'.ownsRow w.heap.size 5 1 v (n1 + n2) (xs ++ ys)) ∧ Below w.heap.size w w' := by
  have q1 := h1.2.1
  have q2 := h2.2.1
  have q3 := h1.2.2.1
  have q4 := h2.2.2.1
  have d1 : decide ((n1 : Int) < 0) = false := decide_eq_false (by omega)
  have d2 : decide ((n1 : Int) + n2 < 0) = false := decide_eq_false (by omega)
  unfold maxLen at q3 q4
  go_enter Tryz.func105, Tryz.ntmps105
  go_wp2
  go_loop [3, 11] (fun s i => (i = .int .i64 0 ∧ s = .int .i64 0) ∨ (i = .int .i64 1 ∧ s = .int .i64 n1) ∨ (i = .int .i64 2 ∧ s = .int .i64 ((n1 + n2 : Nat) : Int))) (fun _ i => 2 - (RowKit.intOf i).toNat)
  case atStart => exact .inl ⟨rfl, rfl⟩
  case round =>
    rcases hrel with ⟨rfl, rfl⟩ | ⟨rfl, rfl⟩ | ⟨rfl, rfl⟩
    · go_wp2
      go_round
      case rel => exact .inr (.inl ⟨by go_num, by go_num⟩)
      case measure => simp [RowKit.intOf]
    · go_wp2
      go_round
      case rel => exact .inr (.inr ⟨by go_num, by go_num⟩)
      case measure => simp [RowKit.intOf]
    · go_wp2_with fail
      refine (growB (n1 + n2) _ hp (by omega)).mono ?_
      rintro e w1 ⟨⟨G, rfl, own1, hG1, hG2⟩, hb1⟩
      have z1 := hb1.size
      clear d1 d2
      go_wp2_with fail
      go_loopw [6, 27] (fun v i wr => (i = .int .i64 0 ∧ wr.ownsRow w.heap.size 5 1 v 0 [] ∨ i = .int .i64 1 ∧ wr.ownsRow w.heap.size 5 1 v n1 xs ∨ i = .int .i64 2 ∧ wr.ownsRow w.heap.size 5 1 v (n1 + n2) (xs ++ ys)) ∧ Below w.heap.size w wr) (fun _ i _ => 2 - (RowKit.intOf i).toNat)
      case atStart => exact ⟨.inl ⟨rfl, own1⟩, hb1⟩
      case round =>
        clear own1 hb1
        obtain ⟨hc, hb⟩ := hrel
        have zz := hb.size
        replace h1 := h1.below hb
        replace h2 := h2.below hb
        replace s0 := kept hb s0
        replace s1 := kept hb s1
        rcases hc with ⟨rfl, own⟩ | ⟨rfl, own⟩ | ⟨rfl, own⟩
        · go_wp2_with (at_builtin; go_must (refine wpList_app RefW.elU8 rfl _ _ rfl w.heap.size _ 0 [] rfl own a1 n1 c1 xs rfl h1 o1 (by unfold maxLen; omega) (by omega) zz ?_); intro v' w2 own2 hb2 _)
          go_roundw
          case rel => exact ⟨.inr (.inl ⟨by go_num, by simpa using own2⟩), hb.trans hb2⟩
          case measure => simp [RowKit.intOf]
        · go_wp2_with (at_builtin; go_must (refine wpList_app RefW.elU8 rfl _ _ rfl w.heap.size _ n1 xs rfl own a2 n2 c2 ys rfl h2 o2 (by unfold maxLen; omega) (by omega) zz ?_); intro v' w2 own2 hb2 _)
          go_roundw
          case rel => exact ⟨.inr (.inr ⟨by go_num, own2⟩), hb.trans hb2⟩
          case measure => simp [RowKit.intOf]
        · go_wp2
          go_ret
          exact ⟨⟨_, rfl, own⟩, hb⟩

set_option maxHeartbeats 1600000 in
/-- room for n, of nothing -/
theorem growI (n : Nat) (w : World) (h0 : 0 < n) (hn : n ≤ 1000000) :
    Calls Tryz.prog 154 #[.slice none 0 0, .int .i64 n] w fun e w' => (∃ cap, e = .returned (.slice (some ⟨w.heap.size, 0, none⟩) 0 cap) ∧ w'.ownsRow w.heap.size 3 1 (.slice (some ⟨w.heap.size, 0, none⟩) 0 cap) 0 [] ∧ n ≤ cap ∧ cap ≤ maxLen) ∧ Below w.heap.size w w' := by
  obtain ⟨i, hi, hz0, hz1, hz2⟩ := info_parts elInt.hi
  have hz := Lib.run_append_nil_zeros (P := Tryz.prog) w 62 3 62 3 i _ .i64 .i64 Tryz.underlying62 Tryz.underlying3 hi hz0 n h0 (by omega) (by omega) (by rw [hz2]; omega)
  have g1 := grownCap_ge w n 0 3
  have g2 := grownCap_le_maxLen w n 0 3 (by unfold maxLen; omega)
  generalize hG : grownCap w n 0 3 = G at hz g1 g2
  have g3 : G ≤ 9223372036854775807 := by unfold maxLen at g2; omega
  have hsz : (Builtin.zeroCells (Value.int .i64 0).cells n ++ Builtin.zeroCells (Value.int .i64 0).cells (G - n)).size = G * 1 := by
    simp [Builtin.zeroCells, Value.cells]; omega
  clear hG
  generalize Builtin.zeroCells (Value.int .i64 0).cells n ++ Builtin.zeroCells (Value.int .i64 0).cells (G - n) = cs at hz hsz
  have hp : decide ((0 : Int) < n) = true := decide_eq_true (by omega)
  go_enter Tryz.func154, Tryz.ntmps154
  go_wp2_with (at_builtin; go_must (refine Lib.wpList_append_run _ rfl _ _ _ _ rfl _ _ rfl rfl _ _ hz ?_))
  go_ret
  refine ⟨⟨G, rfl, ?_, g1, g2⟩, (Below.refl _ _).drew.alloc (by simp) _⟩
  exact World.ownsRow_made (base := w.heap.size) (e := 3) (size := 1) w.drew cs G (by simp) g2 hsz

set_option maxHeartbeats 3200000 in
/-- two slices, one behind the other -/
theorem concatI (g : Nat) (a1 a2 : Option Addr) (n1 c1 n2 c2 : Nat) (xs ys : List Value) (w : World) (h1 : Row w 1 a1 n1 c1 xs) (h2 : Row w 1 a2 n2 c2 ys) (o1 : ∀ u ∈ xs, u.oneCell' = true) (o2 : ∀ u ∈ ys, u.oneCell' = true)
    (s0 : w.cell? ⟨g, 0, none⟩ = some (.slice a1 n1 c1)) (s1 : w.cell? ⟨g, 1, none⟩ = some (.slice a2 n2 c2)) (hp : 0 < n1 + n2) (k1 : n1 ≤ 100000) (k2 : n2 ≤ 100000) :
    Calls Tryz.prog 129 #[.slice (some ⟨g, 0, none⟩) 2 2] w fun e w' => (∃ v, e = .returned v ∧ w'.ownsRow w.heap.size 3 1 v (n1 + n2) (xs ++ ys)) ∧ Below w.heap.size w w' := by
  have q1 := h1.2.1
  have q2 := h2.2.1
  have q3 := h1.2.2.1
  have q4 := h2.2.2.1
  have d1 : decide ((n1 : Int) < 0) = false := decide_eq_false (by omega)
  have d2 : decide ((n1 : Int) + n2 < 0) = false := decide_eq_false (by omega)
  unfold maxLen at q3 q4
  go_enter Tryz.func129, Tryz.ntmps129
  go_wp2
  go_loop [3, 11] (fun s i => (i = .int .i64 0 ∧ s = .int .i64 0) ∨ (i = .int .i64 1 ∧ s = .int .i64 n1) ∨ (i = .int .i64 2 ∧ s = .int .i64 ((n1 + n2 : Nat) : Int))) (fun _ i => 2 - (RowKit.intOf i).toNat)
  case atStart => exact .inl ⟨rfl, rfl⟩
  case round =>
    rcases hrel with ⟨rfl, rfl⟩ | ⟨rfl, rfl⟩ | ⟨rfl, rfl⟩
    · go_wp2
      go_round
      case rel => exact .inr (.inl ⟨by go_num, by go_num⟩)
      case measure => simp [RowKit.intOf]
    · go_wp2
      go_round
      case rel => exact .inr (.inr ⟨by go_num, by go_num⟩)
      case measure => simp [RowKit.intOf]
    · go_wp2_with fail
      refine (growI (n1 + n2) _ hp (by omega)).mono ?_
      rintro e w1 ⟨⟨G, rfl, own1, hG1, hG2⟩, hb1⟩
      have z1 := hb1.size
      clear d1 d2
      go_wp2_with fail
      go_loopw [6, 27] (fun v i wr => (i = .int .i64 0 ∧ wr.ownsRow w.heap.size 3 1 v 0 [] ∨ i = .int .i64 1 ∧ wr.ownsRow w.heap.size 3 1 v n1 xs ∨ i = .int .i64 2 ∧ wr.ownsRow w.heap.size 3 1 v (n1 + n2) (xs ++ ys)) ∧ Below w.heap.size w wr) (fun _ i _ => 2 - (RowKit.intOf i).toNat)
      case atStart => exact ⟨.inl ⟨rfl, own1⟩, hb1⟩
      case round =>
        clear own1 hb1
        obtain ⟨hc, hb⟩ := hrel
        have zz := hb.size
        replace h1 := h1.below hb
        replace h2 := h2.below hb
        replace s0 := kept hb s0
        replace s1 := kept hb s1
        rcases hc with ⟨rfl, own⟩ | ⟨rfl, own⟩ | ⟨rfl, own⟩
        · go_wp2_with (at_builtin; go_must (refine wpList_app elInt rfl _ _ rfl w.heap.size _ 0 [] rfl own a1 n1 c1 xs rfl h1 o1 (by unfold maxLen; omega) (by omega) zz ?_); intro v' w2 own2 hb2 _)
          go_roundw
          case rel => exact ⟨.inr (.inl ⟨by go_num, by simpa using own2⟩), hb.trans hb2⟩
          case measure => simp [RowKit.intOf]
        · go_wp2_with (at_builtin; go_must (refine wpList_app elInt rfl _ _ rfl w.heap.size _ n1 xs rfl own a2 n2 c2 ys rfl h2 o2 (by unfold maxLen; omega) (by omega) zz ?_); intro v' w2 own2 hb2 _)
          go_roundw
          case rel => exact ⟨.inr (.inr ⟨by go_num, own2⟩), hb.trans hb2⟩
          case measure => simp [RowKit.intOf]
        · go_wp2
          go_ret
          exact ⟨⟨_, rfl, own⟩, hb⟩
end Go.Proofs.YtbjfgdahfpfgdaaGreatDoor.ConcatW

namespace Go.Proofs.YtbjfgdahfpfgdaaGreatDoor.RootW
open Go Go.RowKit Go.Proofs.YtbjfgdahfpfgdaaGreatDoor.Mem Go.Proofs.YtbjfgdahfpfgdaaGreatDoor.RootP Go.Proofs.YtbjfgdahfpfgdaaGreatDoor.SeeW Go.Proofs.YtbjfgdahfpfgdaaGreatDoor.RefsW Go.Proofs.YtbjfgdahfpfgdaaGreatDoor.DevG Go.Proofs.YtbjfgdahfpfgdaaGreatDoor.ConcatW
set_option linter.unusedVariables false
set_option maxRecDepth 100000

theorem refsB_take_succ {rs : List (Int × Nat)} {k : Nat} (h : k < rs.length) : refsB (rs.take (k + 1)) = refsB (rs.take k) ++ (le 2 rs[k].1.toNat ++ le 4 rs[k].2) := by
  unfold refsB
  rw [List.take_succ_eq_append_getElem h, List.flatMap_append]
  simp [refB]
/-- what is laid when k places are -/
def upto (r : Rt) (k : Nat) : List Nat := lays (zeros 128) 0 (le 6 r.ep.toNat ++ [r.rs.length] ++ refsB (r.rs.take k))
theorem upto_succ {r : Rt} {k : Nat} (h : k < r.rs.length) : upto r (k + 1) = lays (lays (upto r k) (7 + 6 * k) (le 2 r.rs[k].1.toNat)) (7 + 6 * k + 2) (le 4 r.rs[k].2) := by
  unfold upto
  rw [refsB_take_succ h, ← List.append_assoc (le 6 r.ep.toNat ++ [r.rs.length]), lays_append _ 0 (le 6 r.ep.toNat ++ [r.rs.length] ++ refsB (r.rs.take k)), lays_append _ _ (le 2 _)]
  have e : (le 6 r.ep.toNat ++ [r.rs.length] ++ refsB (r.rs.take k)).length = 7 + 6 * k := by
    simp [le_length, refsB_length]; omega
  rw [e, le_length, Nat.zero_add]
theorem upto_zero (r : Rt) : upto r 0 = (lays (zeros 128) 0 (le 6 r.ep.toNat)).set 6 r.rs.length := by
  unfold upto
  rw [List.take_zero]
  show lays _ 0 (le 6 r.ep.toNat ++ [r.rs.length] ++ []) = _
  rw [List.append_nil, lays_snoc, le_length]
theorem upto_all (r : Rt) : upto r r.rs.length = half r := by unfold upto; rw [List.take_length]; rfl

set_option maxHeartbeats 3200000 in
theorem bytes_ok (bs : List Addr) (lo : Nat) (r : Rt) (a : Option Addr) (n cap : Nat) (w : World) (hl : Refs w a n cap r.rs) (hB : Ev w lo bs rerr) (hg : RootP.Good r) (hs : ∀ x ∈ r.rs, x.2 < 4294967296) :
    Calls Tryz.prog 110 #[Rv r.ep a n cap] w fun e w' => (∃ v, e = .returned (.tuple #[v, .nilIface]) ∧ w'.ownsRow w.heap.size 5 1 v 256 (nums .u8 (enc r))) ∧ Below w.heap.size w w' := by
  have HL := hid hl.len
  obtain ⟨c1, c2⟩ := hl.bound
  obtain ⟨e1, e2, hn16, ha⟩ := hg
  obtain ⟨ep, hep⟩ := Int.eq_ofNat_of_zero_le (show 0 ≤ r.ep by omega)
  have bx := (Below.refl w.heap.size w).alloc (Nat.le_refl _) (.cells #[.int .i64 (ep : Int), .slice a n cap] 89)
  obtain ⟨q0, q1⟩ := new2 w (.int .i64 (ep : Int)) (.slice a n cap) 89
  have hfit := fits_w bs lo r a n cap _ (hl.below bx) (hB.below bx)
  rw [(good_iff r).2 ⟨e1, e2, hn16, ha⟩] at hfit
  have hx := hl.below bx
  have HE := hid hep
  rw [hep] at hfit ⊢
  have hepn : ep ≤ 1099511627776 := by omega
  have HEP := hid hepn
  have hw : IntKind.u64.wrap (ep : Int) = ep := by rw [IntKind.wrap_u64]; omega
  have HA := hid ha
  have HS := hid hs
  have hn : n ≤ 16 := by rw [← HL.out]; exact hn16
  clear e1 e2 ha hs hepn hn16 hep
  go_enter Tryz.func110, Tryz.ntmps110
  go_wp2_with fail
  refine hfit.mono ?_
  rintro e w1 ⟨⟨v, hv, rfl⟩, hb1⟩
  cases hv
  have B1 : Below w.heap.size w w1 := bx.trans (hb1.mono (by simp))
  replace q0 := kept hb1 q0
  replace q1 := kept hb1 q1
  have hx1 := hx.below hb1
  clear hx hfit bx hb1 hB
  have zz1 := B1.size
  have q0n := World.block_lt_of_cell? w1 _ q0
  go_wp2_with (at_make; go_must (refine wpList_mkn RefW.elU8 rfl _ _ rfl w1.heap.size _ _ _ _ 128 rfl rfl rfl rfl (by decide) (by decide) (Nat.le_refl _) ?_); intro w2 own2 hg2; rw [RefW.made_nums] at own2; have b2 : Below w1.heap.size w1 w2 := below_growns hg2 (Nat.le_refl _); replace q0 := kept b2 q0; replace q1 := kept b2 q1; clear hg2)
  have B2 := B1.trans (b2.mono zz1)
  have z2 := b2.size
  have g2 : w1.heap.size < w2.heap.size := (own2.lt _ rfl).2
  refine (lay_w w1.heap.size _ 128 128 _ 0 128 128 ep 6 _ own2 (Nat.le_refl _) (by decide) (by decide) (by decide) (by decide) (by decide) (by have := HEP.out; omega) (by decide)).mono ?_
  rintro e w3 ⟨rfl, own3, b3, _⟩
  have b3' := b2.trans b3
  replace q0 := keep b3 q0 q0n
  replace q1 := keep b3 q1 q0n
  have hx3 := hx1.below b3'
  have hln : ((r.rs.length : Nat) : Int) = n := by have := HL.out; omega
  obtain ⟨y, hy⟩ : ∃ y, w3.cell? ⟨w1.heap.size, 6, none⟩ = some y := ⟨_, OwnN.cell own3 (j := 6) (by rw [lays_length]; simp)⟩
  have hf := World.ownsRow.frozenAt own3 6
  have HO := hid own3
  have hc8 : IntKind.u8.wrap (n : Int) = n := by rw [IntKind.wrap_u8]; omega
  clear hw own3 b2 own2
  go_wp2_with fail
  clear hy hf hc8
  have own4 : OwnN (w3.setCell ⟨w1.heap.size, 6, none⟩ (.int .u8 (n : Int))) w1.heap.size 5 .u8 w1.heap.size 128 128 (upto r 0) := by
    rw [upto_zero, HE.out, HL.out]
    exact ownb HO.out 6 n
  have b4 : Below w1.heap.size w1 (w3.setCell ⟨w1.heap.size, 6, none⟩ (.int .u8 (n : Int))) := b3'.setCell (Nat.le_refl _) _
  replace q1 := q1
  clear HO q0 q1 hx3 b3 b3' y
  generalize w3.setCell ⟨w1.heap.size, 6, none⟩ (.int .u8 (n : Int)) = w4 at *
  go_loopw [29] (fun i wr => ∃ k : Nat, k ≤ n ∧ i = .int .i64 k ∧ OwnN wr w1.heap.size 5 .u8 w1.heap.size 128 128 (upto r k) ∧ Below w1.heap.size w1 wr) (fun i _ => n - (RowKit.intOf i).toNat)
  case atStart => exact ⟨0, by omega, rfl, own4, b4⟩
  case round =>
    clear own4 b4
    obtain ⟨k, hk, rfl, own, hb⟩ := hrel
    have hxr := hx1.below hb
    by_cases hlt : k < n
    · have hkl : k < r.rs.length := by rw [HL.out]; exact hlt
      obtain ⟨b0, o0, rfl, hc0, hc1⟩ := hxr.at hkl
      have HAd := HA.out _ (List.getElem_mem hkl)
      have HSm := HS.out _ (List.getElem_mem hkl)
      have HU := hid (upto_succ hkl)
      obtain ⟨ad, had⟩ := Int.eq_ofNat_of_zero_le HAd.1
      generalize r.rs[k] = x at hc0 hc1 HAd HSm HU had
      obtain ⟨x1, x2⟩ := x
      simp only at hc0 hc1 HAd HSm HU had
      subst had
      have ha6 : ad ≤ 6000 := by omega
      have hw1 : IntKind.u64.wrap (ad : Int) = ad := by rw [IntKind.wrap_u64]; omega
      have hw2 : IntKind.u64.wrap (x2 : Int) = x2 := by rw [IntKind.wrap_u64]; omega
      have HM := hid HSm
      clear HAd HSm
      have hz := hb.size
      have f1 : IntKind.i64.wrap (7 + 6 * (k : Int)) = ((7 + 6 * k : Nat) : Int) := by rw [IntKind.wrap_i64]; omega
      have HO := hid own
      go_wp2_with fail
      have b5 : Below w1.heap.size w1 (wr.alloc (.cells #[.int .i64 (ad : Int), .int .u32 (x2 : Int)] 111)) := hb.alloc hz _
      have t1 : (wr.alloc (.cells #[.int .i64 (ad : Int), .int .u32 (x2 : Int)] 111)).cell? ⟨wr.heap.size, 1, none⟩ = some (.int .u32 (x2 : Int)) := (new2 wr _ _ _).2
      have hgr := own.lt.2
      have z5 : (wr.alloc (.cells #[.int .i64 (ad : Int), .int .u32 (x2 : Int)] 111)).heap.size = wr.heap.size + 1 := by simp
      have own5 := own.alloc (.cells #[.int .i64 (ad : Int), .int .u32 (x2 : Int)] 111)
      generalize wr.alloc (.cells #[.int .i64 (ad : Int), .int .u32 (x2 : Int)] 111) = w5 at *
      refine (lay_w w1.heap.size _ 128 128 _ (7 + 6 * k) (128 - (7 + 6 * k)) (128 - (7 + 6 * k)) ad 2 _ own5 (Nat.le_refl _) (by omega) (by omega) (by decide) (Nat.le_refl _) (by omega) (by omega) (by decide)).mono ?_
      rintro e w6 ⟨rfl, own6, b6, o6⟩
      replace t1 : w6.cell? ⟨wr.heap.size, 1, none⟩ = some (.int .u32 (x2 : Int)) := (World.cell?_of_block (o6 wr.heap.size (by omega))).trans t1
      have B6 := b5.trans b6
      obtain ⟨M, hM⟩ : ∃ M, M = 128 - (7 + 6 * k) := ⟨_, rfl⟩
      rw [← hM]
      have HMM := hid hM
      have hM2 : (2 : Int) ≤ (M : Int) := by omega
      have hMne : ¬ M = 2 := by omega
      have hM3 : M ≤ 128 := by omega
      clear o6 b5 b6 HO own f1 hw1 hM
      go_wp2_with fail
      go_region_held3 (fun w' => w'.cell? ⟨wr.heap.size, 1, none⟩ = some (.int .u32 (x2 : Int))) (first | exact t1 | exact t7 | go_keep)
        ((go_at_call 136; refine (lay_w w1.heap.size _ 128 128 _ (7 + 6 * k + 2) (M - 2) (M - 2) x2 4 _ (World.ownsRow.drew own6) (Nat.le_refl _) (by have := HMM.out; omega) (by have := HMM.out; omega) (by decide) (Nat.le_refl _) (by omega) (by have := HM.out; omega) (by decide)).mono ?_; rintro e w7 ⟨rfl, own7, b7, o7⟩; have t7 : w7.cell? ⟨wr.heap.size, 1, none⟩ = some (.int .u32 (x2 : Int)) := (World.cell?_of_block (o7 wr.heap.size (by omega))).trans t1))
      have B7 : Below w1.heap.size w1 w7 := (B6.drew).trans b7
      have HO := hid own7
      clear own7 t1 t7 o7 b7 B6 own6 own5 hM2 hMne hM3
      go_wp2
      go_roundw
      case rel => exact ⟨k + 1, by omega, by go_num, by rw [HU.out]; exact HO.out, B7⟩
      case measure => simp [RowKit.intOf]; omega
    · obtain rfl : k = n := by omega
      have hup : upto r k = half r := by have h1 := upto_all r; rw [HL.out] at h1; exact h1
      rw [hup] at own
      have hz := hb.size
      have hr := OwnN.nums own
      have bz := (Below.refl wr.heap.size wr).alloc (Nat.le_refl _) (.cells #[.slice (some ⟨w1.heap.size, 0, none⟩) 128 128, .slice (some ⟨w1.heap.size, 0, none⟩) 128 128] 35)
      have hrz := Row.below hr bz
      obtain ⟨s0, s1⟩ := new2 wr (.slice (some ⟨w1.heap.size, 0, none⟩) 128 128) (.slice (some ⟨w1.heap.size, 0, none⟩) 128 128) 35
      clear hup own
      go_wp2_with fail
      refine (concatB wr.heap.size _ _ 128 128 128 128 _ _ _ hrz hrz (nums_oneCell _ _) (nums_oneCell _ _) s0 s1 (by decide) (by decide) (by decide)).mono ?_
      rintro e w9 ⟨⟨v, rfl, own9⟩, b9⟩
      have B9 : Below w.heap.size w w9 := (B1.trans (hb.mono zz1)).trans ((bz.mono (by omega)).trans (b9.mono (by simp; omega)))
      have e9 : nums .u8 (half r) ++ nums .u8 (half r) = nums .u8 (enc r) := by unfold nums enc; rw [List.map_append]
      rw [e9] at own9
      have own9' := ownsRow_base (base' := w.heap.size) own9 (by simp; omega)
      clear hr hrz s0 s1 own9 b9 bz e9
      go_wp2
      refine bodyPost_ret (v := .tuple #[v, .nilIface]) (by simp [results, Tryz.results110, go_sem]) rfl ⟨⟨v, rfl, own9'⟩, B9⟩

theorem bytes_no (bs : List Addr) (lo : Nat) (r : Rt) (a : Option Addr) (n cap : Nat) (w : World) (hl : Refs w a n cap r.rs) (hB : Ev w lo bs rerr) (k : Nat) (hk : amiss r = some k) :
    Calls Tryz.prog 110 #[Rv r.ep a n cap] w fun e w' => (∃ x, bs[k]? = some x ∧ e = .returned (.tuple #[.slice none 0 0, ev x])) ∧ Below w.heap.size w w' := by
  have bx := (Below.refl w.heap.size w).alloc (Nat.le_refl _) (.cells #[.int .i64 r.ep, .slice a n cap] 89)
  obtain ⟨q0, q1⟩ := new2 w (.int .i64 r.ep) (.slice a n cap) 89
  have hfit := fits_w bs lo r a n cap _ (hl.below bx) (hB.below bx)
  rw [hk] at hfit
  go_enter Tryz.func110, Tryz.ntmps110
  go_wp2_with fail
  refine hfit.mono ?_
  rintro e w1 ⟨⟨v, ⟨x, hx, rfl⟩, rfl⟩, hb1⟩
  go_wp2
  refine bodyPost_ret (v := .tuple #[.slice none 0 0, ev x]) (by simp [results, Tryz.results110, go_sem]) rfl ⟨⟨x, hx, rfl⟩, bx.trans (hb1.mono (by simp))⟩
end Go.Proofs.YtbjfgdahfpfgdaaGreatDoor.RootW

namespace Go.Proofs.YtbjfgdahfpfgdaaGreatDoor.DevG
open Go Go.RowKit Go.Maps Go.Proofs.YtbjfgdahfpfgdaaGreatDoor.Mem Go.Proofs.YtbjfgdahfpfgdaaGreatDoor.MapsW Go.Proofs.YtbjfgdahfpfgdaaGreatDoor.SeeW
theorem At.old {w : World} {lo d n : Nat} {m : Mp} {D : Dv} (h : At w lo d n m D) : ∀ x ∈ own d m, x < w.heap.size := by
  intro x hx
  rcases List.mem_cons.1 hx with rfl | hx
  · exact h.dlt
  · obtain ⟨es, ck, hb⟩ := h.maps x hx
    exact (Array.getElem?_eq_some_iff.1 hb).1
end Go.Proofs.YtbjfgdahfpfgdaaGreatDoor.DevG
namespace Go.Proofs.YtbjfgdahfpfgdaaGreatDoor.RootW
open Go Go.RowKit Go.Maps Go.Proofs.YtbjfgdahfpfgdaaGreatDoor.Mem Go.Proofs.YtbjfgdahfpfgdaaGreatDoor.MapsW Go.Proofs.YtbjfgdahfpfgdaaGreatDoor.SeeW Go.Proofs.YtbjfgdahfpfgdaaGreatDoor.RefsW Go.Proofs.YtbjfgdahfpfgdaaGreatDoor.DevG
set_option linter.unusedVariables false
set_option maxRecDepth 100000

/-- a root's errors, and a device's -/
abbrev six : List Nat := [1, 2, 3, 4, 5, 6]
theorem blk_c {w : World} {R : Nat} {x y : Value} {t : TypeId} (h : w.heap[R]? = some (.cells #[x, y] t)) : w.cell? ⟨R, 0, none⟩ = some x ∧ w.cell? ⟨R, 1, none⟩ = some y ∧ w.frozen? ⟨R, 0, none⟩ = false ∧ w.frozen? ⟨R, 1, none⟩ = false := by
  refine ⟨by simp [World.cell?, h], by simp [World.cell?, h], by simp [World.frozen?, h], by simp [World.frozen?, h]⟩
theorem own_ge {w : World} {base : Nat} {e : TypeId} {size : Nat} {a : Option Addr} {n cap m : Nat} {xs : List Value} (h : w.ownsRow base e size (.slice a n cap) m xs) : ∀ b o, a = some ⟨b, o, none⟩ → base ≤ b := by
  rintro b o rfl
  rcases h.2 with ⟨h0, _⟩ | ⟨g, c, cur, hv, hb, _⟩
  · cases h0
  · cases hv; exact hb
theorem Refs.far {w : World} {a : Option Addr} {n cap : Nat} {rs : List (Int × Nat)} (h : Refs w a n cap rs) {B : Nat} (hB : ∀ b o, a = some ⟨b, o, none⟩ → B < b) (j : Nat) (x : Value) : Refs (w.setCell ⟨B, j, none⟩ x) a n cap rs :=
  Row.keep h fun b o e _ => heap_setCell_other _ ⟨B, j, none⟩ _ _ (by have := hB b o e; simp; omega)
theorem frozen_keep {B : Nat} {w w' : World} {b o : Nat} (hb : Below B w w') (hlt : b < B) : w'.frozen? ⟨b, o, none⟩ = w.frozen? ⟨b, o, none⟩ :=
  World.frozen?_of_block (hb.block b hlt)
/-- a call that changes nothing, in a region that draws its order -/
theorem step_call {P : Program} {ops : Array Oper} {o : Oper} {a : Act} {K : Act → World → Prop} {Q : Exit → Act → World → Prop} {E : Prop} {w : World} (hgd : o.guard = none)
    (f : FuncId) (args : Array Value) (hrun : (execOp a.eval o).run P w = .ok (.enter f args) w) (R : Value) (hc : Calls P f args w fun e w' => e = .returned R ∧ w = w') (h : K (a.put o.dst R) w) :
    if Region.wanted o (yielded ops a.tmps) = true then Oper.wp P o a w K Q else E := by
  have hw : Region.wanted o (yielded ops a.tmps) = true := by simp [Region.wanted, hgd]
  rw [if_pos hw]
  unfold Oper.wp
  rw [hrun, Oper.upon_enter]
  refine hc.mono ?_
  rintro e w' ⟨rfl, rfl⟩
  exact h
/-- a place appended, in a region that draws its order -/
theorem step_push2 {ops : Array Oper} {o : Oper} {a : Act} {K : Act → World → Prop} {Q : Exit → Act → World → Prop} {E : Prop} {w : World} (hgd : o.guard = none) (s x : Operand)
    (ho : o.op = .call { callee := .builtin .append, args := #[s, x], argTypes := #[87, 87] })
    (base : Nat) (v : Value) (n : Nat) (rs : List (Int × Nat)) (hs : a.eval s = v) (hown : OwnRefs w base v n rs)
    (g : Nat) (y : Int) (z : Nat) (hx : a.eval x = .slice (some ⟨g, 0, none⟩) 1 1) (hr : Row w 2 (some ⟨g, 0, none⟩) 1 1 [.int .i64 y, .int .u32 (z : Int)]) (hn : n ≤ 1000000000) (hbase : base ≤ w.heap.size)
    (h : ∀ g' cap' w', OwnRefs w' base (.slice (some ⟨g', 0, none⟩) (n + 1) cap') (n + 1) (rs ++ [(y, z)]) → Below base w w' → w.grownBy w' v.ownBlock → K (a.put o.dst (.slice (some ⟨g', 0, none⟩) (n + 1) cap')) w') :
    if Region.wanted o (yielded ops a.tmps) = true then Oper.wp Tryz.prog o a w K Q else E := by
  obtain ⟨i, hi, hz0, hz1, hz2⟩ := info_parts elRef.hi
  refine step_append_lies w hgd s x _ ho base _ i _ 2 16 elRef.ht hi hz0 hz1 hz2 elRef.hz elRef.h0 v n _ hs hown ⟨g, 0, none⟩ 1 1 [.int .i64 y, .int .u32 (z : Int)] hx rfl ?_ (oneCell2 rfl rfl) (by decide) (by unfold maxLen; omega) (by omega) hbase _ rfl ?_
  · intro j u hj
    obtain ⟨b, off, ha, hc⟩ := hr.2.2.2.2 j u hj
    cases ha
    rw [Addr.add_lit]
    exact hc
  · intro g' cap' w' h2 h3 _ _
    refine h _ _ w' ?_ ((Below.refl _ _).grown h3 hbase fun b hb => (hown.lt b hb).1) h3
    show World.ownsRow _ _ _ _ _ _ (refCells (rs ++ [(y, z)]))
    rw [refCells_append]
    exact h2

end Go.Proofs.YtbjfgdahfpfgdaaGreatDoor.RootW
