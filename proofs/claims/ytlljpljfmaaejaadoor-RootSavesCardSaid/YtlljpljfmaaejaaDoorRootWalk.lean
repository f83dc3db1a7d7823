/- The walks of package root: a root's bytes. -/
import Derived.Test.YtlljpljfmaaejaaDoorRootPlain
import Derived.Test.YtlljpljfmaaejaaDoorRefWalk
import Derived.Test.YtlljpljfmaaejaaDoorSeeWalk
import Derived.Deep.RegionHeld3
import Derived.BigQuiet
namespace Go.Proofs.YtlljpljfmaaejaaDoor.RootW
open Go Go.RowKit Go.Proofs.YtlljpljfmaaejaaDoor.Mem Go.Proofs.YtlljpljfmaaejaaDoor.RootP Go.Proofs.YtlljpljfmaaejaaDoor.SeeW
set_option linter.unusedVariables false
set_option maxRecDepth 100000

theorem le_take_succ (k n i : Nat) (h : i < k) : (le k n).take (i + 1) = (le k n).take i ++ [n / 256 ^ i % 256] := by
  rw [List.take_add_one, le_get k n i h]; rfl
theorem pow8 (i : Nat) : 2 ^ (8 * i) = 256 ^ i := by rw [Nat.pow_mul]
theorem ownb {w : World} {base : Nat} {g n cap : Nat} {l : List Nat} (h : OwnN w base 5 .u8 g n cap l) (j x : Nat) : OwnN (w.setCell ⟨g, j, none⟩ (.int .u8 (x : Int))) base 5 .u8 g n cap (l.set j x) := OwnN.set h j x
theorem shr_byte (n i : Nat) (hi : 8 * i < 64) : ((n : Int) / 2 ^ (8 * i) % 256) = ((n / 256 ^ i % 256 : Nat) : Int) := by
  rw [← pow8]; simp

set_option maxHeartbeats 1600000 in
/-- a number's bytes laid -/
theorem lay_w (base g N cap : Nat) (L : List Nat) (o len c n many : Nat) (w : World) (h : OwnN w base 5 .u8 g N cap L) (hb : base ≤ g) (hm : many ≤ len) (ho : o + len ≤ N) (hN : N ≤ 1000) (hlc : len ≤ c) (hc : c ≤ 1000) (hn : n < 18446744073709551616) (hk : many ≤ 8) :
    Calls Tryd.prog 112 #[.slice (some ⟨g, o, none⟩) len c, .int .u64 n, .int .i64 many] w fun e w' => e = .returned (.tuple #[]) ∧ OwnN w' base 5 .u8 g N cap (lays L o (le many n)) ∧ Below base w w' ∧ ∀ q, q ≠ g → w'.heap[q]? = w.heap[q]? := by
  have HL := hid (OwnN.len h)
  go_enter Tryd.func112, Tryd.ntmps112
  go_wp2
  go_loopw [8] (fun i wr => ∃ k : Nat, k ≤ many ∧ i = .int .i64 k ∧ OwnN wr base 5 .u8 g N cap (lays L o ((le many n).take k)) ∧ Below base w wr ∧ ∀ q, q ≠ g → wr.heap[q]? = w.heap[q]?) (fun i _ => many - (intOf i).toNat)
  case atStart => exact ⟨0, by omega, rfl, by simpa [lays] using h, Below.refl _ _, fun _ _ => rfl⟩
  case round =>
    clear h
    obtain ⟨k, hk1, rfl, hown, hb1, hq⟩ := hrel
    have HQ := hid hq
    clear hq
    by_cases hlt : k < many
    · have HS := hid (show lays L o ((le many n).take (k + 1)) = (lays L o ((le many n).take k)).set (o + k) (n / 256 ^ k % 256) by
        rw [le_take_succ _ _ _ hlt, lays_snoc, List.length_take, le_length, Nat.min_eq_left (by omega)])
      have hlen : (lays L o ((le many n).take k)).length = N := by rw [lays_length]; exact HL.out
      obtain ⟨y, hy⟩ : ∃ y, wr.cell? ⟨g, o + k, none⟩ = some y := ⟨_, OwnN.cell hown (j := o + k) (by omega)⟩
      have hf := World.ownsRow.frozenAt hown (o + k)
      have HB := hid (shr_byte n k (by omega))
      have k8 : 8 * k < 64 := by omega
      have HO := hid hown
      clear hown hlen
      go_wp2
      go_roundw
      case rel => exact ⟨k + 1, by omega, by go_num, by rw [HS.out]; rw [HB.out]; exact ownb HO.out (o + k) _, hb1.setCell hb _, fun q hq => (heap_setCell_other _ ⟨g, o + k, none⟩ q _ hq).trans (HQ.out q hq)⟩
      case measure => simp [intOf]; omega
    · obtain rfl : k = many := by omega
      rw [List.take_of_length_le (by rw [le_length]; exact Nat.le_refl _)] at hown
      go_wp2
      refine bodyPost_end (v := .tuple #[]) (by simp [results, Tryd.results112, go_sem]) rfl ?_
      exact ⟨rfl, hown, hb1, HQ.out⟩

theorem or_byte (acc c k : Nat) (hc : c < 256) (hk : k < 8) (ha : acc < 256 ^ k) :
    bits .or .u64 (acc : Int) (IntKind.u64.wrap (IntKind.u64.wrap (c : Int) * 2 ^ (8 * k))) = ((acc + 256 ^ k * c : Nat) : Int) ∧ acc + 256 ^ k * c < 256 ^ (k + 1) := by
  have h1 : acc + 256 ^ k * c < 256 ^ (k + 1) := by
    have : 256 ^ k * c ≤ 256 ^ k * 255 := Nat.mul_le_mul_left _ (by omega)
    rw [Nat.pow_succ]; omega
  have h2 : 256 ^ (k + 1) ≤ 256 ^ 8 := Nat.pow_le_pow_right (by decide) (by omega)
  have h3 : (256 : Nat) ^ 8 = 18446744073709551616 := by decide
  refine ⟨?_, h1⟩
  have e0 : IntKind.u64.wrap (c : Int) = c := by rw [IntKind.wrap_u64]; omega
  rw [e0]
  have e1 : IntKind.u64.wrap ((c : Int) * 2 ^ (8 * k)) = ((c * 2 ^ (8 * k) : Nat) : Int) := by
    rw [IntKind.wrap_u64]
    have : c * 2 ^ (8 * k) < 18446744073709551616 := by rw [pow8, Nat.mul_comm]; omega
    have e : ((c : Int) * 2 ^ (8 * k)) = ((c * 2 ^ (8 * k) : Nat) : Int) := by simp
    rw [e]; omega
  rw [e1, bits_or_u64_nat _ _ (by omega) (by rw [pow8, Nat.mul_comm]; omega)]
  have e2 : acc ||| c * 2 ^ (8 * k) = acc + 256 ^ k * c := by
    rw [Nat.or_comm, ← Nat.shiftLeft_eq, ← Nat.shiftLeft_add_eq_or_of_lt (by rw [pow8]; exact ha), Nat.shiftLeft_eq, pow8, Nat.mul_comm]
    omega
  rw [e2]

set_option maxHeartbeats 1600000 in
/-- the number that bytes say -/
theorem says_w (a : Option Addr) (n cap : Nat) (l : List Nat) (many : Nat) (w : World) (h : Nums .u8 w a n cap l) (hb : Crc.Bytes l) (hm : many ≤ n) (hk : many ≤ 8) :
    Calls Tryd.prog 135 #[.slice a n cap, .int .i64 many] w fun e w' => e = .returned (.int .u64 (un (l.take many))) ∧ w = w' := by
  have HL := hid h.len
  have hbd := h.bound
  obtain ⟨c1, c2⟩ := hbd
  go_enter Tryd.func135, Tryd.ntmps135
  go_wp2
  go_loop [5, 8] (fun s i => ∃ k : Nat, k ≤ many ∧ i = .int .i64 k ∧ s = .int .u64 (un (l.take k))) (fun _ i => many - (intOf i).toNat)
  case atStart => exact ⟨0, by omega, rfl, rfl⟩
  case round =>
    obtain ⟨k, hk1, rfl, rfl⟩ := hrel
    by_cases hlt : k < many
    · have hkl : k < l.length := by rw [HL.out]; omega
      obtain ⟨b, o, rfl, hc⟩ := h.at hkl
      have hcb : l[k] < 256 := hb _ (List.getElem_mem _)
      have hu := un_lt (l.take k) fun x hx => hb x (List.mem_of_mem_take hx)
      rw [List.length_take, Nat.min_eq_left (by omega)] at hu
      have HS := hid (show un (l.take (k + 1)) = un (l.take k) + 256 ^ k * l[k] by
        rw [List.take_succ_eq_append_getElem hkl, un_snoc, List.length_take, Nat.min_eq_left (by omega)])
      generalize l[k] = x at hc hcb HS
      generalize un (l.take k) = acc at hu HS ⊢
      have HO := hid (or_byte acc x k hcb (by omega) hu).1
      have k8 : 8 * k < 64 := by omega
      have kn : (k : Int) < n := by omega
      clear h hcb hu
      go_wp2
      go_round
      case rel => exact ⟨k + 1, by omega, by go_num, by rw [HS.out, ← HO.out]⟩
      case measure => simp [intOf]; omega
    · obtain rfl : k = many := by omega
      go_wp2
      go_ret
      exact ⟨rfl, rfl⟩
end Go.Proofs.YtlljpljfmaaejaaDoor.RootW
