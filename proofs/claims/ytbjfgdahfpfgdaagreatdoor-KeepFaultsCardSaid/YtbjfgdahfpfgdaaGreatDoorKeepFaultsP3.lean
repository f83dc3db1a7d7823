/- Plain facts about the sum of chapter 2: one step by a bit is linear and one-to-one on words of 32 bits; so are many. No program stands here; The walks of package crc: each function computes the plain sum's words; The walks of package dev: faults, reading; The walk of package dev's Flush, and of New; The walk of package dev's New; Pairs of blocks (package pair); The walk of geo.Of; Pairs opened on a device. -/
import Derived.Test.YtbjfgdahfpfgdaaGreatDoorProg
import Derived.Deep.DeepMust
import Derived.Lib.SlBytesConst
import Derived.Test.YtbjfgdahfpfgdaaGreatDoorKeepFaultsP1
import Derived.Test.YtbjfgdahfpfgdaaGreatDoorKeepFaultsP2
import Derived.Deep.QuietTactic
import Derived.Deep.RegionWith
import Derived.BigQuiet
namespace Go.Proofs.YtbjfgdahfpfgdaaGreatDoor.Crc

def P : Nat := 2197175160
def W : Nat := 4294967296
/-- one bit's step -/
def bit (n : Nat) : Nat := if n % 2 = 1 then n / 2 ^^^ P else n / 2
/-- k bits' steps -/
def bits : Nat → Nat → Nat
  | 0, n => n
  | k + 1, n => bits k (bit n)
/-- a byte's step -/
def step (n : Nat) : Nat := bits 8 n
theorem step_def (n : Nat) : step n = bits 8 n := rfl
attribute [irreducible] step
/-- the words that come of bytes -/
def run : Nat → List Nat → Nat
  | s, [] => s
  | s, c :: l => run (step (s ^^^ c)) l
/-- the sum -/
def sum (l : List Nat) : Nat := run (W - 1) l ^^^ (W - 1)

theorem xor_lt {a b : Nat} (ha : a < W) (hb : b < W) : a ^^^ b < W := Nat.xor_lt_two_pow (n := 32) ha hb
theorem xor_div (a b : Nat) : (a ^^^ b) / 2 = a / 2 ^^^ b / 2 := by
  have := Nat.shiftRight_xor_distrib (a := a) (b := b) (i := 1)
  simpa [Nat.shiftRight_succ] using this
theorem xor_mod (a b : Nat) : (a ^^^ b) % 2 = (a % 2 + b % 2) % 2 := by
  have := Nat.xor_mod_two_eq_one (a := a) (b := b)
  omega

theorem bit_lt {n : Nat} (h : n < W) : bit n < W := by
  unfold bit
  split
  · exact xor_lt (by simp only [W] at *; omega) (by decide)
  · simp only [W] at *; omega
theorem bit_xor (a b : Nat) : bit (a ^^^ b) = bit a ^^^ bit b := by
  unfold bit
  rw [xor_div, xor_mod]
  rcases Nat.mod_two_eq_zero_or_one a with ha | ha <;> rcases Nat.mod_two_eq_zero_or_one b with hb | hb <;> simp only [ha, hb]
  · simp
  · simp [Nat.xor_assoc]
  · simp only [if_true, show (0 : Nat) ≠ 1 by omega, if_false]
    rw [Nat.xor_assoc, Nat.xor_comm (b / 2), ← Nat.xor_assoc]
  · simp only [show (1 + 1) % 2 = 0 from rfl, show (0 : Nat) ≠ 1 by omega, if_false, if_true]
    rw [Nat.xor_assoc, Nat.xor_comm P, Nat.xor_assoc, Nat.xor_self, Nat.xor_zero]
theorem bit_eq_zero {n : Nat} (h : n < W) (hb : bit n = 0) : n = 0 := by
  unfold bit at hb
  split at hb
  · have h1 : n / 2 = P := by
      have := congrArg (· ^^^ P) hb
      simpa [Nat.xor_assoc] using this
    simp only [W, P] at *; omega
  · omega
theorem bits_lt (k : Nat) : ∀ {n : Nat}, n < W → bits k n < W := by
  induction k with
  | zero => intro n h; exact h
  | succ k ih => intro n h; exact ih (bit_lt h)
theorem bits_xor (k : Nat) : ∀ a b, bits k (a ^^^ b) = bits k a ^^^ bits k b := by
  induction k with
  | zero => intro a b; rfl
  | succ k ih => intro a b; simp only [bits, bit_xor, ih]
theorem bits_eq_zero (k : Nat) : ∀ {n : Nat}, n < W → bits k n = 0 → n = 0 := by
  induction k with
  | zero => intro n _ h; exact h
  | succ k ih => intro n h hb; exact bit_eq_zero h (ih (bit_lt h) hb)
theorem bits_add (j k n : Nat) : bits (j + k) n = bits k (bits j n) := by
  induction j generalizing n with
  | zero => simp [bits]
  | succ j ih => rw [Nat.add_right_comm]; simp only [bits, ih]
theorem bits_snoc (k n : Nat) : bits (k + 1) n = bit (bits k n) := by rw [bits_add]; rfl
/-- bits that stand high enough are only moved -/
theorem bits_high (k : Nat) : ∀ n, bits k (n * 2 ^ k) = n := by
  induction k with
  | zero => intro n; simp [bits]
  | succ k ih =>
    intro n
    have h2 : n * 2 ^ (k + 1) = 2 * (n * 2 ^ k) := by rw [Nat.pow_succ, ← Nat.mul_assoc, Nat.mul_comm]
    have : bit (n * 2 ^ (k + 1)) = n * 2 ^ k := by
      rw [h2]; unfold bit
      rw [if_neg (by omega)]
      omega
    simp only [bits, this, ih]
theorem step_lt {n : Nat} (h : n < W) : step n < W := by rw [step_def]; exact bits_lt 8 h
theorem step_xor (a b : Nat) : step (a ^^^ b) = step a ^^^ step b := by rw [step_def, step_def, step_def]; exact bits_xor 8 a b
theorem step_inj {a b : Nat} (ha : a < W) (hb : b < W) (h : step a = step b) : a = b := by
  have h1 : step (a ^^^ b) = 0 := by rw [step_xor, h, Nat.xor_self]
  rw [step_def] at h1
  have h2 := bits_eq_zero 8 (xor_lt ha hb) h1
  have := congrArg (· ^^^ b) h2
  simpa [Nat.xor_assoc] using this

def Bytes (l : List Nat) : Prop := ∀ x ∈ l, x < 256
theorem Bytes.head {c : Nat} {l : List Nat} (h : Bytes (c :: l)) : c < 256 := h c (by simp)
theorem Bytes.tail {c : Nat} {l : List Nat} (h : Bytes (c :: l)) : Bytes l := fun x hx => h x (by simp [hx])
theorem byte_lt {c : Nat} (h : c < 256) : c < W := by simp only [W]; omega

theorem run_lt (l : List Nat) : ∀ {s : Nat}, s < W → Bytes l → run s l < W := by
  induction l with
  | nil => intro s h _; exact h
  | cons c l ih => intro s h hb; exact ih (step_lt (xor_lt h (byte_lt hb.head))) hb.tail
theorem run_append (a b : List Nat) : ∀ s, run s (a ++ b) = run (run s a) b := by
  induction a with
  | nil => intro s; rfl
  | cons c l ih => intro s; exact ih _
theorem run_snoc (a : List Nat) (c s : Nat) : run s (a ++ [c]) = step (run s a ^^^ c) := run_append a [c] s
theorem run_inj (l : List Nat) : ∀ {s t : Nat}, s < W → t < W → Bytes l → run s l = run t l → s = t := by
  induction l with
  | nil => intro s t _ _ _ h; exact h
  | cons c l ih =>
    intro s t hs ht hb h
    have hc := byte_lt hb.head
    have h1 := step_inj (xor_lt hs hc) (xor_lt ht hc) (ih (step_lt (xor_lt hs hc)) (step_lt (xor_lt ht hc)) hb.tail h)
    have := congrArg (· ^^^ c) h1
    simpa [Nat.xor_assoc] using this
/-- what turns two lists into one another turns their words into one another -/
def turn : List Nat → List Nat → List Nat
  | a :: l, b :: m => (a ^^^ b) :: turn l m
  | _, _ => []
theorem run_xor (a : List Nat) : ∀ (b : List Nat) (s t : Nat), a.length = b.length → run s a ^^^ run t b = run (s ^^^ t) (turn a b) := by
  induction a with
  | nil =>
    intro b s t h
    obtain rfl : b = [] := by cases b; rfl; simp at h
    rfl
  | cons x l ih =>
    intro b s t h
    cases b with
    | nil => simp at h
    | cons y m =>
      have e : s ^^^ x ^^^ (t ^^^ y) = s ^^^ t ^^^ (x ^^^ y) := by
        rw [Nat.xor_assoc, ← Nat.xor_assoc x, Nat.xor_comm x, Nat.xor_assoc t, ← Nat.xor_assoc s]
      show run (step (s ^^^ x)) l ^^^ run (step (t ^^^ y)) m = run (step (s ^^^ t ^^^ (x ^^^ y))) (turn l m)
      rw [ih m (step (s ^^^ x)) (step (t ^^^ y)) (by simpa using h), ← step_xor, e]

theorem top_lt : W - 1 < W := by decide
theorem sum_lt {l : List Nat} (h : Bytes l) : sum l < W := by
  unfold sum
  exact xor_lt (run_lt l top_lt h) top_lt
theorem sum_inj {a b : List Nat} (h : sum a = sum b) : run (W - 1) a = run (W - 1) b := by
  have := congrArg (· ^^^ (W - 1)) h
  simpa [sum, Nat.xor_assoc] using this
/-- the table -/
def tab (k : Nat) : List Nat := (List.range 256).map fun i => if i < k then step i else 0
/-- byte i of a word -/
def byteOf (t i : Nat) : Nat := (t >>> (8 * i)) % 256
/-- one byte turned -/
def turn1 (l : List Nat) (at_ : Int) (t i : Nat) : List Nat :=
  if 0 ≤ at_ ∧ at_ < (l.length : Int) - i then l.set (at_.toNat + i) (l.getD (at_.toNat + i) 0 ^^^ byteOf t i) else l
/-- the first k bytes turned -/
def turnK (l : List Nat) (at_ : Int) (t : Nat) : Nat → List Nat
  | 0 => l
  | k + 1 => turn1 (turnK l at_ t k) at_ t k
def turned (l : List Nat) (at_ : Int) (t : Nat) : List Nat := turnK l at_ t 4
theorem turn1_length (l : List Nat) (at_ : Int) (t i : Nat) : (turn1 l at_ t i).length = l.length := by
  unfold turn1; split <;> simp
theorem turnK_length (l : List Nat) (at_ : Int) (t k : Nat) : (turnK l at_ t k).length = l.length := by
  induction k with
  | zero => rfl
  | succ k ih => rw [turnK, turn1_length, ih]
theorem byteOf_lt (t i : Nat) : byteOf t i < 256 := Nat.mod_lt _ (by decide)
theorem xor_byte {a b : Nat} (ha : a < 256) (hb : b < 256) : a ^^^ b < 256 := Nat.xor_lt_two_pow (n := 8) ha hb
theorem turn1_bytes {l : List Nat} (h : Bytes l) (at_ : Int) (t i : Nat) : Bytes (turn1 l at_ t i) := by
  unfold turn1
  split
  · rename_i hc
    intro x hx
    rcases List.mem_or_eq_of_mem_set hx with h1 | h1
    · exact h x h1
    · subst h1
      refine xor_byte ?_ (byteOf_lt _ _)
      have hj : at_.toNat + i < l.length := by omega
      rw [List.getD_eq_getElem?_getD, List.getElem?_eq_getElem hj]
      exact h _ (List.getElem_mem hj)
  · exact h
theorem turnK_bytes {l : List Nat} (h : Bytes l) (at_ : Int) (t k : Nat) : Bytes (turnK l at_ t k) := by
  induction k with
  | zero => exact h
  | succ k ih => exact turn1_bytes ih _ _ _

end Go.Proofs.YtbjfgdahfpfgdaaGreatDoor.Crc

namespace Go.Proofs.YtbjfgdahfpfgdaaGreatDoor.CrcW
open Go Go.RowKit Go.Proofs.YtbjfgdahfpfgdaaGreatDoor.Mem Go.Proofs.YtbjfgdahfpfgdaaGreatDoor.RefW
set_option linter.unusedVariables false
set_option maxRecDepth 100000

theorem ret_u32 {a b : Int} (h : a = b) : Ending.returned (.int .u32 a) = .returned (.int .u32 b) := by rw [h]

set_option maxHeartbeats 400000 in
theorem step_w (n : Nat) (hn : n < Crc.W) (w : World) :
    Calls Tryz.prog 151 #[.int .u32 n] w fun e w' => e = .returned (.int .u32 (Crc.step n)) ∧ w = w' := by
  go_enter Tryz.func151, Tryz.ntmps151
  go_wp2
  go_loop [0, 4] (fun x i => ∃ k : Nat, k ≤ 8 ∧ i = .int .i64 k ∧ x = .int .u32 (Crc.bits k n)) (fun _ i => 8 - (RowKit.intOf i).toNat)
  case atStart => exact ⟨0, by omega, rfl, rfl⟩
  case round =>
    obtain ⟨k, hk, rfl, rfl⟩ := hrel
    have hm : Crc.bits k n < 4294967296 := Crc.bits_lt k hn
    have hs : Hid (Crc.bits (k + 1) n = Crc.bit (Crc.bits k n)) := Crc.bits_snoc k n
    generalize he : Crc.bits k n = m at hm hs ⊢
    have HE : Hid (Crc.bits k n = m) := he
    clear he
    by_cases hlt : k < 8
    · go_wp2
      all_goals
        go_round
        case rel =>
          refine ⟨k + 1, by omega, by go_num, ?_⟩
          rw [hs.out]
          have hand : bits .and .u32 (m : Int) 1 = ((m % 2 : Nat) : Int) := by
            have := u32_and_nat m 1 hm (by omega)
            rw [Nat.and_one_is_mod] at this
            exact this
          rename_i hb
          rw [hand] at hb
          simp at hb
          unfold Crc.bit
          first
            | (rw [if_pos (by omega)]
               have := u32_xor_nat (m / 2) 2197175160 (by omega) (by omega)
               rw [show ((m : Int) / 2) = ((m / 2 : Nat) : Int) by omega]
               exact congrArg _ this)
            | (rw [if_neg (by omega)]; go_num)
        case measure => simp [RowKit.intOf]; omega
    · obtain rfl : k = 8 := by omega
      go_wp2
      go_ret
      exact ⟨ret_u32 (by rw [Crc.step_def, HE.out]), rfl⟩

theorem not_u32 (m : Nat) (hm : m < 4294967296) : bits .xor .u32 (IntKind.max .u32) (m : Int) = ((m ^^^ 4294967295 : Nat) : Int) := by
  have := u32_xor_nat 4294967295 m (by omega) hm
  rw [Nat.xor_comm m]
  exact this
theorem Bytes_take {l : List Nat} (h : Crc.Bytes l) (k : Nat) : Crc.Bytes (l.take k) := fun x hx => h x (List.mem_of_mem_take hx)

set_option maxHeartbeats 400000 in
theorem sum_w (a : Option Addr) (n cap : Nat) (l : List Nat) (w : World) (hr : Nums .u8 w a n cap l) (hb : Crc.Bytes l) :
    Calls Tryz.prog 123 #[.slice a n cap] w fun e w' => e = .returned (.int .u32 (Crc.sum l)) ∧ w = w' := by
  have hbd := hr.bound
  obtain ⟨hb1, hb2⟩ := hbd
  have HL : Hid (l.length = n) := hr.len
  go_enter Tryz.func123, Tryz.ntmps123
  go_wp2
  go_loop [3, 8] (fun s i => ∃ k : Nat, k ≤ n ∧ i = .int .i64 k ∧ s = .int .u32 (Crc.run (Crc.W - 1) (l.take k))) (fun _ i => n - (RowKit.intOf i).toNat)
  case atStart => exact ⟨0, by omega, rfl, congrArg (Value.int .u32) (show (4294967295 : Int) = ((Crc.W - 1 : Nat) : Int) by decide)⟩
  case round =>
    obtain ⟨k, hk, rfl, rfl⟩ := hrel
    have hm : Crc.run (Crc.W - 1) (l.take k) < 4294967296 := Crc.run_lt _ Crc.top_lt (Bytes_take hb k)
    by_cases hlt : k < n
    · have hkl : k < l.length := by rw [HL.out]; exact hlt
      obtain ⟨b, off, rfl, hc⟩ := hr.at hkl
      have hcb : l[k] < 256 := hb _ (List.getElem_mem _)
      have HS : Hid (Crc.run (Crc.W - 1) (l.take (k + 1)) = Crc.step (Crc.run (Crc.W - 1) (l.take k) ^^^ l[k])) := by
        show _ = _
        rw [take_snoc l k hkl, Crc.run_snoc]
      generalize l[k] = c at hc hcb HS
      generalize Crc.run (Crc.W - 1) (l.take k) = m at hm HS ⊢
      have hx := u32_xor_nat m c hm (by omega)
      have hxl : m ^^^ c < Crc.W := Crc.xor_lt hm (Crc.byte_lt hcb)
      clear hr
      go_wp2_with (go_at_call 151; refine (step_w _ hxl _).mono ?_; rintro e w' ⟨rfl, rfl⟩)
      go_round
      case rel => exact ⟨k + 1, by omega, by go_num, by rw [HS.out]⟩
      case measure => simp [RowKit.intOf]; omega
    · obtain rfl : k = n := by omega
      have HE : Hid (l.take k = l) := List.take_of_length_le (by rw [HL.out]; exact Nat.le_refl _)
      rw [HE.out] at hm ⊢
      generalize hs : Crc.run (Crc.W - 1) l = m at hm ⊢
      have HS : Hid (Crc.sum l = m ^^^ 4294967295) := by show _ = _; unfold Crc.sum; rw [hs]; rfl
      clear hs
      go_wp2
      go_ret
      exact ⟨ret_u32 (by rw [HS.out]; exact not_u32 m hm), rfl⟩

theorem xor_byteOf (x t k : Nat) (hx : x < 256) : bits .xor .u8 (x : Int) ((t : Int) / 2 ^ (8 * k) % 256) = ((x ^^^ Crc.byteOf t k : Nat) : Int) := by
  have e : ((t : Int) / 2 ^ (8 * k) % 256) = ((Crc.byteOf t k : Nat) : Int) := by
    unfold Crc.byteOf
    rw [Nat.shiftRight_eq_div_pow]
    simp
  rw [e]
  exact u8_xor_nat x _ hx (Crc.byteOf_lt t k)
theorem turn1_in {m : List Nat} {p t k x : Nat} (hpk : p + k < m.length) (hx : m[p + k] = x) : Crc.turn1 m (p : Int) t k = m.set (p + k) (x ^^^ Crc.byteOf t k) := by
  unfold Crc.turn1
  rw [if_pos (by omega)]
  simp only [Int.toNat_natCast]
  rw [List.getD_eq_getElem?_getD, List.getElem?_eq_getElem hpk, hx]
  rfl
theorem turn1_out {m : List Nat} {at_ : Int} {t k : Nat} (h : ¬ (0 ≤ at_ ∧ at_ < (m.length : Int) - k)) : Crc.turn1 m at_ t k = m := by
  unfold Crc.turn1; rw [if_neg h]

set_option maxHeartbeats 1600000 in
/-- some of the bytes turned -/
theorem turned_w (a : Option Addr) (n cap : Nat) (l : List Nat) (at_ : Int) (t : Nat) (w : World) (hr : Nums .u8 w a n cap l) (hbt : Crc.Bytes l) (hn : n ≤ 140737488355328)
    (hlo : -9223372036854775808 ≤ at_) (hhi : at_ ≤ 9223372036854775807) (ht : t < 4294967296) :
    Calls Tryz.prog 72 #[.slice a n cap, .int .i64 at_, .int .u32 t] w fun e w' => ∃ v, e = .returned v ∧ w'.ownsRow w.heap.size 5 1 v n (nums .u8 (Crc.turned l at_ t)) ∧ Below w.heap.size w w' := by
  have hbd := hr.bound
  obtain ⟨hb1, hb2⟩ := hbd
  have HL : Hid (l.length = n) := hr.len
  go_enter Tryz.func72, Tryz.ntmps72
  go_wp2_with (at_builtin; go_must (refine wpList_app elU8 rfl _ _ rfl w.heap.size (.slice none 0 0) 0 [] rfl (World.ownsRow_nil _ _ _ _) a n cap (nums .u8 l) rfl hr (nums_oneCell _ _) (by unfold maxLen; omega) (by omega) (Nat.le_refl _) ?_); intro v1 w1 own1 hb1 _)
  rw [Nat.zero_add, List.nil_append] at own1
  obtain ⟨a1, c1, rfl, _⟩ := ownsRow_slice own1
  clear hr
  have z1 := hb1.size
  have hcap : n ≤ c1 ∧ c1 ≤ 9223372036854775807 := by
    have h := (Row.owned own1).2; have := h.2.2.1; unfold maxLen at this; exact ⟨h.2.1, by omega⟩
  go_loopw [11] (fun i wr => ∃ k : Nat, k ≤ 4 ∧ i = .int .i64 k ∧ wr.ownsRow w.heap.size 5 1 (.slice a1 n c1) n (nums .u8 (Crc.turnK l at_ t k)) ∧ Below w.heap.size w wr) (fun i _ => 4 - (RowKit.intOf i).toNat)
  case atStart => exact ⟨0, by omega, rfl, own1, hb1⟩
  case round =>
    obtain ⟨k, hk, rfl, hown, hb⟩ := hrel
    have HT := hid (show Crc.turnK l at_ t (k + 1) = Crc.turn1 (Crc.turnK l at_ t k) at_ t k from rfl)
    have hbt' := Crc.turnK_bytes hbt at_ t k
    have HL' : Hid ((Crc.turnK l at_ t k).length = n) := hid (by rw [Crc.turnK_length]; exact HL.out)
    generalize he : Crc.turnK l at_ t k = m at hown HT hbt' HL'
    have HE := hid he
    clear he
    clear own1
    by_cases hlt : k < 4
    · by_cases hin : 0 ≤ at_ ∧ at_ < (n : Int) - k
      · obtain ⟨h0, h1⟩ := hin
        obtain ⟨p, rfl⟩ := Int.eq_ofNat_of_zero_le h0
        obtain ⟨g, rfl⟩ := own_some hown (by omega)
        have hpk : p + k < m.length := by rw [HL'.out]; omega
        have hc := OwnN.cell hown hpk
        have hf := World.ownsRow.frozenAt hown (p + k)
        have hcb : m[p + k] < 256 := hbt' _ (List.getElem_mem hpk)
        generalize hx : m[p + k] = x at hc hcb
        have HX := hid hx
        clear hx
        have HO := hid hown
        clear hown
        go_wp2
        go_region
        all_goals go_wp2
        go_roundw
        case rel =>
          refine ⟨k + 1, by omega, by go_num, ?_, (hb.setCell (by simpa using (World.ownsRow.lt HO.out g rfl).1) _).drew⟩
          rw [xor_byteOf x t k hcb, HT.out, turn1_in hpk HX.out]
          exact World.ownsRow.drew (OwnN.set HO.out (p + k) _)
        case measure => simp [RowKit.intOf]; omega
      · rw [turn1_out (by rw [HL'.out]; exact hin)] at HT
        by_cases h0 : 0 ≤ at_
        · have h1 : (n : Int) - k ≤ at_ := by omega
          clear hin
          go_wp2
          go_roundw
          case rel => exact ⟨k + 1, by omega, by go_num, by rw [HT.out]; exact hown, hb⟩
          case measure => simp [RowKit.intOf]; omega
        · have h1 : at_ < 0 := by omega
          clear hin h0
          go_wp2
          go_roundw
          case rel => exact ⟨k + 1, by omega, by go_num, by rw [HT.out]; exact hown, hb⟩
          case measure => simp [RowKit.intOf]; omega
    · obtain rfl : k = 4 := by omega
      have HM : Hid (Crc.turned l at_ t = m) := hid (by rw [← HE.out]; rfl)
      go_wp2
      go_ret
      exact ⟨_, rfl, by rw [HM.out]; exact hown, hb⟩

end Go.Proofs.YtbjfgdahfpfgdaaGreatDoor.CrcW

namespace Go.Proofs.YtbjfgdahfpfgdaaGreatDoor.DevG
open Go Go.RowKit Go.Maps Go.Proofs.YtbjfgdahfpfgdaaGreatDoor.Mem Go.Proofs.YtbjfgdahfpfgdaaGreatDoor.MapsW Go.Proofs.YtbjfgdahfpfgdaaGreatDoor.SeeW
set_option linter.unusedVariables false
set_option maxRecDepth 100000

/-- what a device has behind Fail -/
def Dv.fail (D : Dv) (i : Int) : Dv := if D.may i then { D with fi := upd D.fi i true }.fault i else D

set_option maxHeartbeats 800000 in
theorem fail_w (d lo n : Nat) (m : Mp) (D : Dv) (i : Int) (w : World) (h : At w lo d n m D) (hf : Fits i) (hn : n < 890000) :
    Calls Tryz.prog 38 #[ptr d, .int .i64 i] w fun e w' => e = .returned (.bool (D.may i)) ∧ At w' lo d (n + 3) m (D.fail i) ∧ Turn (own d m) w w' := by
  obtain ⟨c0, c1, c2, c3, c4, c5, c6, c7, c8, f6, f2, f7, f8⟩ := h.c
  have hm := may_w d lo n m D i w h hf
  cases hM : D.may i
  · rw [hM] at hm
    have e1 : D.fail i = D := by unfold Dv.fail; rw [hM]; rfl
    rw [e1]
    go_enter Tryz.func38, Tryz.ntmps38
    go_wp2_with fail
    refine hm.mono ?_
    rintro e w' ⟨rfl, rfl⟩
    go_wp2
    go_ret
    exact ⟨rfl, h.mono (by omega) (Nat.le_refl _), Turn.refl _ _⟩
  · rw [hM] at hm
    have e1 : D.fail i = { D with fi := upd D.fi i true }.fault i := by unfold Dv.fail; rw [hM]; rfl
    rw [e1]
    go_enter Tryz.func38, Tryz.ntmps38
    go_wp2_with fail
    refine hm.mono ?_
    rintro e w' ⟨rfl, rfl⟩
    go_wp2_with (at_mapUpdate; refine wpList_putBool _ rfl _ _ _ rfl h.bi (by omega) hf true rfl rfl rfl ?_; intro w1 hr1 hg1)
    have h1 := h.putI hr1 hg1
    refine (fault_w d lo (n + 1) m _ i _ h1 hf (by omega)).mono ?_
    rintro e w2 ⟨rfl, h2, t2⟩
    go_wp2
    go_ret
    exact ⟨rfl, h2, (Turn.of_grown hg1 (mem_own d m).2.2.2.2.1).then t2⟩

/-- what a read gives, of a block that is, of a device that is up: the bytes, or none -/
def Dv.read (D : Dv) (i : Int) : Option (List Nat) :=
  match D.pe i with
  | some l => some l
  | none => if D.fi i then none else some (keptOf D i)
/-- a read, whatever is: the error's place, or the bytes -/
def Dv.get (D : Dv) (i : Int) : Except Nat (List Nat) :=
  if D.down then .error 5 else if 0 ≤ i ∧ i < D.blocks then (match D.read i with
    | some l => .ok l
    | none => .error 6) else .error 4
/-- what is handed back of a read -/
def Got (bs : List Addr) (w : World) (r : Except Nat (List Nat)) (e : Ending) (w' : World) : Prop := match r with
  | .ok l => ∃ g cap, e = .returned (.tuple #[.slice (some ⟨g, 0, none⟩) 256 cap, .nilIface]) ∧ Nums .u8 w' (some ⟨g, 0, none⟩) 256 cap l ∧ w.heap.size ≤ g
  | .error k => ∃ a, bs[k]? = some a ∧ e = .returned (.tuple #[.slice none 0 0, ev a])
set_option maxHeartbeats 1600000 in
theorem read_up (bs : List Addr) (d lo n : Nat) (m : Mp) (D : Dv) (i : Int) (w : World) (h : At w lo d n m D) (hB : Ev w lo bs five) (hf : Fits i) (hu : D.down = false) (hi : 0 ≤ i ∧ i < D.blocks) :
    Calls Tryz.prog 131 #[ptr d, .int .i64 i] w fun e w' => Got bs w (match D.read i with
      | some l => .ok l
      | none => .error 6) e w' ∧ Below w.heap.size w w' := by
  have hd : decide (0 ≤ i ∧ i < D.blocks) = true := decide_eq_true hi
  clear hi
  obtain ⟨c0, c1, c2, c3, c4, c5, c6, c7, c8, f6, f2, f7, f8⟩ := h.c
  rw [hu] at c8
  have hfi := h.bi.look hf
  cases hF : D.pe i with
  | some l =>
    obtain ⟨g, cap, hl, hn, _⟩ := h.rp.look_some hf hF
    have e1 : D.read i = some l := by unfold Dv.read; rw [hF]
    rw [e1]
    go_enter Tryz.func131, Tryz.ntmps131
    go_wp2_with fail
    refine (is_w d lo n m D i _ h hf).mono ?_
    rintro e w' ⟨rfl, rfl⟩
    rw [hd]
    go_wp2_with fail
    refine (RefW.clone_w _ 256 cap l _ hn (by decide)).mono ?_
    rintro e w1 ⟨v, rfl, own1, hb1⟩
    obtain ⟨g1, cap1, rfl, hn1, hg1⟩ := row_of own1
    go_wp2
    refine bodyPost_ret (v := .tuple #[.slice (some ⟨g1, 0, none⟩) 256 cap1, .nilIface]) (by simp [results, Tryz.results131, go_sem]) rfl ⟨⟨_, _, rfl, hn1, hg1⟩, hb1⟩
  | none =>
    have hl := h.rp.look_none hf hF
    cases hI : D.fi i
    · have e1 : D.read i = some (keptOf D i) := by unfold Dv.read; rw [hF]; simp only; rw [hI]; rfl
      rw [e1]
      rw [hI] at hfi
      go_enter Tryz.func131, Tryz.ntmps131
      go_wp2_with fail
      refine (is_w d lo n m D i _ h hf).mono ?_
      rintro e w' ⟨rfl, rfl⟩
      rw [hd]
      go_wp2_with fail
      refine (kept_w d lo n m D i _ h hf).mono ?_
      rintro e w1 ⟨g, cap, rfl, hn, _, hb1⟩
      go_wp2_with fail
      refine (RefW.clone_w _ 256 cap _ _ hn (by decide)).mono ?_
      rintro e w2 ⟨v, rfl, own2, hb2⟩
      obtain ⟨g1, cap1, rfl, hn1, hg1⟩ := row_of own2
      have z1 := hb1.size
      go_wp2
      refine bodyPost_ret (v := .tuple #[.slice (some ⟨g1, 0, none⟩) 256 cap1, .nilIface]) (by simp [results, Tryz.results131, go_sem]) rfl ⟨⟨_, _, rfl, hn1, by omega⟩, hb1.trans (hb2.mono z1)⟩
    · have e1 : D.read i = none := by unfold Dv.read; rw [hF]; simp only; rw [hI]; rfl
      rw [e1]
      rw [hI] at hfi
      obtain ⟨aI, haI, hAI⟩ := hB.get 6 _ (by decide) rfl
      have hA1 := hAI.1
      go_enter Tryz.func131, Tryz.ntmps131
      go_wp2_with fail
      refine (is_w d lo n m D i _ h hf).mono ?_
      rintro e w' ⟨rfl, rfl⟩
      rw [hd]
      go_wp2
      go_quiet (fail)
      go_wp2
      refine bodyPost_ret (v := .tuple #[.slice none 0 0, ev aI]) (by simp [results, Tryz.results131, go_sem]) rfl ⟨⟨aI, haI, rfl⟩, below_drewN (Below.refl _ _) _⟩
set_option maxHeartbeats 1600000 in
theorem read_w (bs : List Addr) (d lo n : Nat) (m : Mp) (D : Dv) (i : Int) (w : World) (h : At w lo d n m D) (hB : Ev w lo bs five) (hf : Fits i) :
    Calls Tryz.prog 131 #[ptr d, .int .i64 i] w fun e w' => Got bs w (D.get i) e w' ∧ Below w.heap.size w w' := by
  unfold Dv.get
  cases hu : D.down
  · by_cases hi : 0 ≤ i ∧ i < D.blocks
    · rw [if_neg (by decide), if_pos hi]
      exact read_up bs d lo n m D i w h hB hf hu hi
    · rw [if_neg (by decide), if_neg hi]
      have hd : decide (0 ≤ i ∧ i < D.blocks) = false := decide_eq_false hi
      clear hi
      obtain ⟨c0, c1, c2, c3, c4, c5, c6, c7, c8, f6, f2, f7, f8⟩ := h.c
      rw [hu] at c8
      obtain ⟨aF, haF, hAF⟩ := hB.get 4 _ (by decide) rfl
      have hA1 := hAF.1
      go_enter Tryz.func131, Tryz.ntmps131
      go_wp2_with fail
      refine (is_w d lo n m D i _ h hf).mono ?_
      rintro e w' ⟨rfl, rfl⟩
      rw [hd]
      go_wp2
      go_quiet (fail)
      go_wp2
      refine bodyPost_ret (v := .tuple #[.slice none 0 0, ev aF]) (by simp [results, Tryz.results131, go_sem]) rfl ⟨⟨aF, haF, rfl⟩, below_drewN (Below.refl _ _) _⟩
  · rw [if_pos rfl]
    obtain ⟨c0, c1, c2, c3, c4, c5, c6, c7, c8, f6, f2, f7, f8⟩ := h.c
    rw [hu] at c8
    obtain ⟨aF, haF, hAF⟩ := hB.get 5 _ (by decide) rfl
    have hA1 := hAF.1
    go_enter Tryz.func131, Tryz.ntmps131
    go_wp2
    go_quiet (fail)
    go_wp2
    refine bodyPost_ret (v := .tuple #[.slice none 0 0, ev aF]) (by simp [results, Tryz.results131, go_sem]) rfl ⟨⟨aF, haF, rfl⟩, below_drewN (Below.refl _ _) _⟩

/-- may a block be turned so? -/
def Dv.mayS (D : Dv) (i at_ : Int) (t : Nat) : Bool := D.may i && decide (0 ≤ at_ ∧ at_ ≤ 252 ∧ t ≠ 0)
/-- what a device has behind Spoil -/
def Dv.spoil (D : Dv) (i : Int) (at_ : Int) (t : Nat) : Dv := if D.mayS i at_ t then { D with fl := upd D.fl i (some (Crc.turned (keptOf D i) at_ t)) }.fault i else D
theorem spoil_no {D : Dv} {i at_ : Int} {t : Nat} (h : D.mayS i at_ t = false) : D.spoil i at_ t = D := by unfold Dv.spoil; rw [h]; rfl
theorem spoil_yes {D : Dv} {i at_ : Int} {t : Nat} (h : D.mayS i at_ t = true) : D.spoil i at_ t = { D with fl := upd D.fl i (some (Crc.turned (keptOf D i) at_ t)) }.fault i := by unfold Dv.spoil; rw [h]; rfl
set_option maxHeartbeats 1600000 in
theorem spoil_w (d lo n : Nat) (m : Mp) (D : Dv) (i at_ : Int) (t : Nat) (w : World) (h : At w lo d n m D) (hf : Fits i) (hn : n < 890000) (ha : Fits at_) (ht : t < 4294967296) (hbt : Crc.Bytes (keptOf D i)) :
    Calls Tryz.prog 39 #[ptr d, .int .i64 i, .int .i64 at_, .int .u32 t] w fun e w' => e = .returned (.bool (D.mayS i at_ t)) ∧ At w' lo d (n + 3) m (D.spoil i at_ t) ∧ Turn (own d m) w w' := by
  obtain ⟨c0, c1, c2, c3, c4, c5, c6, c7, c8, f6, f2, f7, f8⟩ := h.c
  have hm := may_w d lo n m D i w h hf
  have hdl := h.dlt
  cases hM : D.may i
  · rw [hM] at hm
    have e2 : D.mayS i at_ t = false := by unfold Dv.mayS; rw [hM]; rfl
    rw [spoil_no e2, e2]
    clear e2
    go_enter Tryz.func39, Tryz.ntmps39
    go_wp2_with fail
    refine hm.mono ?_
    rintro e w' ⟨rfl, rfl⟩
    go_wp2
    go_ret
    exact ⟨rfl, h.mono (by omega) (Nat.le_refl _), Turn.refl _ _⟩
  · rw [hM] at hm
    by_cases ha0 : 0 ≤ at_
    · by_cases ha1 : at_ ≤ 252
      · by_cases h0 : t = 0
        · subst h0
          have e2 : D.mayS i at_ 0 = false := by unfold Dv.mayS; rw [hM]; simp
          rw [spoil_no e2, e2]
          clear e2
          go_enter Tryz.func39, Tryz.ntmps39
          go_wp2_with fail
          refine hm.mono ?_
          rintro e w' ⟨rfl, rfl⟩
          go_wp2
          go_ret
          exact ⟨rfl, h.mono (by omega) (Nat.le_refl _), Turn.refl _ _⟩
        · have e2 : D.mayS i at_ t = true := by unfold Dv.mayS; rw [hM, decide_eq_true ⟨ha0, ha1, h0⟩]; rfl
          rw [spoil_yes e2, e2]
          have t0 : ((t : Int) == 0) = false := by rw [beq_eq_false_iff_ne]; omega
          clear e2
          go_enter Tryz.func39, Tryz.ntmps39
          go_wp2_with fail
          refine hm.mono ?_
          rintro e w' ⟨rfl, rfl⟩
          go_wp2_with fail
          go_region_held3 (fun w' => w'.cell? ⟨d, 1, none⟩ = some (.map (some m.f))) (first | exact c1 | exact x3 | exact x4 | exact x5 | go_keep)
            (first
              | (go_at_call 73; refine (kept_w d lo n m D i _ (At.below h (below_drewN (Below.refl _ _) 1)) hf).mono ?_; rintro e w3 ⟨g3, gc3, rfl, hg3, hlt3, hb3⟩; have h3 := (At.below h (below_drewN (Below.refl _ _) 1)).below hb3; have x3 := h3.c.2.1)
              | (go_at_call 72; refine (CrcW.turned_w _ 256 gc3 _ at_ t _ hg3 hbt (by decide) ha.1 ha.2 ht).mono ?_; rintro e w4 ⟨v, rfl, own4, hb4⟩; obtain ⟨g, gc, rfl, hg, hgb⟩ := row_of own4; have h4 := h3.below hb4; have hd3 := h3.dlt; obtain ⟨k4, hk4⟩ := h4.rf; obtain ⟨w5, hrun, hr5, hg5⟩ := RowMap.store hk4 (by omega) hf hg (show 0 ≤ g by omega); have x4 := h4.c.2.1; have h5 := h4.putF hr5 hg5; have x5 := h5.c.2.1))
          have hT : Turn (own d m) w w5 := (((Turn.of_below (below_drewN (Below.refl _ w) 1)).then (Turn.of_below hb3)).then (Turn.of_below hb4)).then (Turn.of_grown hg5 (mem_own d m).2.1)
          go_wp2_with fail
          refine (fault_w d lo (n + 1) m _ i _ h5 hf (by omega)).mono ?_
          rintro e w6 ⟨rfl, h6, t6⟩
          go_wp2
          go_ret
          exact ⟨rfl, h6, hT.then t6⟩
      · have e2 : D.mayS i at_ t = false := by unfold Dv.mayS; rw [hM, decide_eq_false (fun x => ha1 x.2.1)]; rfl
        rw [spoil_no e2, e2]
        clear e2
        have g2 : decide ((252 : Int) < at_) = true := decide_eq_true (by omega)
        go_enter Tryz.func39, Tryz.ntmps39
        go_wp2_with fail
        refine hm.mono ?_
        rintro e w' ⟨rfl, rfl⟩
        go_wp2
        go_ret
        exact ⟨rfl, h.mono (by omega) (Nat.le_refl _), Turn.refl _ _⟩
    · have e2 : D.mayS i at_ t = false := by unfold Dv.mayS; rw [hM, decide_eq_false (fun x => ha0 x.1)]; rfl
      rw [spoil_no e2, e2]
      clear e2
      have g2 : decide (at_ < (0 : Int)) = true := decide_eq_true (by omega)
      go_enter Tryz.func39, Tryz.ntmps39
      go_wp2_with fail
      refine hm.mono ?_
      rintro e w' ⟨rfl, rfl⟩
      go_wp2
      go_ret
      exact ⟨rfl, h.mono (by omega) (Nat.le_refl _), Turn.refl _ _⟩

end Go.Proofs.YtbjfgdahfpfgdaaGreatDoor.DevG

namespace Go.Proofs.YtbjfgdahfpfgdaaGreatDoor.DevG
open Go Go.RowKit Go.Maps Go.Proofs.YtbjfgdahfpfgdaaGreatDoor.Mem Go.Proofs.YtbjfgdahfpfgdaaGreatDoor.MapsW Go.Proofs.YtbjfgdahfpfgdaaGreatDoor.SeeW
set_option linter.unusedVariables false
set_option maxRecDepth 100000

/-- what a device has behind a flush -/
def Dv.flush (D : Dv) : Dv :=
  { D with fl := fun i => if (D.pe i).isSome then D.pe i else D.fl i, fa := fun i => if (D.pe i).isSome then false else D.fa i, fi := fun i => if (D.pe i).isSome then false else D.fi i, pe := fun _ => none, np := 0, calls := D.calls + 1 }
/-- .. under way: what is still to come is as it was -/
def Dv.mid (D : Dv) (left : Lit → Bool) : Dv :=
  { D with fl := fun i => if (D.pe i).isSome && !left (.int .i64 i) then D.pe i else D.fl i, fa := fun i => if (D.pe i).isSome && !left (.int .i64 i) then false else D.fa i, fi := fun i => if (D.pe i).isSome && !left (.int .i64 i) then false else D.fi i }
theorem mid_start (D : Dv) (left : Lit → Bool) (h : ∀ i, (D.pe i).isSome = true → left (.int .i64 i) = true) : D.mid left = D := by
  have : ∀ i, ((D.pe i).isSome && !left (.int .i64 i)) = false := by
    intro i
    cases hp : (D.pe i).isSome
    · rfl
    · rw [h i hp]; rfl
  unfold Dv.mid
  simp [this]
theorem same_int (i j : Int) : (Lit.int .i64 i).sameKey (.int .i64 j) = decide (i = j) := by
  by_cases h : i = j
  · subst h; rw [WideAt.sameKey_self (islit i)]; simp
  · rw [sameKey_ne (litne h)]; simp [h]
theorem mid_step (D : Dv) (left : Lit → Bool) (x : Int) (l : List Nat) (hp : D.pe x = some l) : (D.mid left).lay x l = D.mid (fun z => left z && !z.sameKey (.int .i64 x)) := by
  have hs : (D.pe x).isSome = true := by rw [hp]; rfl
  unfold Dv.lay Dv.mid
  simp only [same_int]
  congr 1
  · funext j
    by_cases hj : j = x
    · subst hj; rw [upd_same, hs]; simp [hp]
    · rw [upd_other _ _ hj]; simp [hj]
  · funext j
    by_cases hj : j = x
    · subst hj; rw [upd_same, hs]; simp
    · rw [upd_other _ _ hj]; simp [hj]
  · funext j
    by_cases hj : j = x
    · subst hj; rw [upd_same, hs]; simp
    · rw [upd_other _ _ hj]; simp [hj]

theorem ranges_of {w w' : World} {b r n : Nat} {D : DataW Unit} {left : Lit → Bool} {cnt : Nat} (h : w.ranges Tryz.prog 3 rowR b r n D left cnt) (e1 : w'.heap[b]? = w.heap[b]?) (e2 : w'.heap[r]? = w.heap[r]?) : w'.ranges Tryz.prog 3 rowR b r n D left cnt := by
  obtain ⟨es, clock, since, seen, c0, h1, h2, h3, h4, h5, h6⟩ := h
  exact ⟨es, clock, since, seen, c0, e1.trans h1, h2, h3, h4, e2.trans h5, h6⟩
theorem ranges_iter {w : World} {b r n : Nat} {D : DataW Unit} {left : Lit → Bool} {cnt : Nat} (h : w.ranges Tryz.prog 3 rowR b r n D left cnt) : NoCells w r ∧ (∀ es ck, w.heap[r]? ≠ some (.map es ck)) ∧ r < w.heap.size := by
  obtain ⟨es, clock, since, seen, c0, h1, h2, h3, h4, h5, h6⟩ := h
  refine ⟨fun c t f e => ?_, fun es ck e => ?_, (Array.getElem?_eq_some_iff.1 h5).1⟩ <;> rw [h5] at e <;> cases e
/-- an element as it is met -/
def mkV : Option (Nat × Nat × Nat) → Value
  | none => .slice none 0 0
  | some (g, n, cap) => .slice (some ⟨g, 0, none⟩) n cap
theorem invV (v : Value) (y : DataW Unit × List MemPlace) (h : rowR v = some y) : ∃ c, v = mkV c := by
  unfold rowR at h
  split at h
  · exact ⟨none, rfl⟩
  · exact ⟨some (_, _, _), rfl⟩
  · cases h
theorem invK (k : Value) (kl : Lit) (h : keyOf Tryz.prog 3 k = some kl) : ∃ x : Int, k = .int .i64 x := by
  obtain ⟨x, rfl, _⟩ := Maps.keyOf_int_inv Tryz.underlying3 h
  exact ⟨x, rfl⟩

theorem Turn.of_none {S : List Nat} {a b : World} (h : a.grownBy b none) : Turn S a b := ⟨h.os, h.tape, h.output, h.size, fun k hk _ => h.block k hk (by simp)⟩
/-- another map of what is pending -/
theorem At.swapP {w : World} {lo d n p' : Nat} {m : Mp} {D : Dv} (h : At w lo d n m D) (hr : RowMap w 0 p' n (fun _ => none) 0) (hlo : lo ≤ p') (hp : p' ∉ m.list) :
    At (w.setCell ⟨d, 2, none⟩ (.map (some p'))) lo d n { m with p := p' } { D with pe := fun _ => none, np := 0 } := by
  have ht : Turn [d] w (w.setCell ⟨d, 2, none⟩ (.map (some p'))) := Turn.setCell w d 2 _ (by simp)
  obtain ⟨n1, n2, n3, n4, n5⟩ := h.ne
  obtain ⟨e1, e2, e3, e4, e5, e6, e7, e8, e9, e10⟩ := h.nd
  obtain ⟨k, hk⟩ := h.rf
  have hS : ∀ x ∈ [d], x < 0 ∨ NoCells w x ∨ ∃ v, w.cell? ⟨x, 0, none⟩ = some v ∧ ∀ z, v ≠ .int .u8 z := by
    intro x hx
    rw [List.mem_singleton.1 hx]
    exact .inr (.inr ⟨_, h.c.1, fun z e => by cases e⟩)
  have hpd : p' ≠ d := by
    obtain ⟨es, ck, hb⟩ := hr.block
    rintro rfl
    rw [h.cells] at hb
    cases hb
  simp [Mp.list] at hp
  obtain ⟨q1, q2, q3, q4, q5⟩ := hp
  refine ⟨?_, ⟨k, rows_turn hk ht (by simp; omega) hS⟩, rows_turn hr ht (by simp; omega) hS, bools_turn h.ba ht (by simp; omega), bools_turn h.bi ht (by simp; omega), sets_turn h.be ht (by simp; omega), ?_, h.lod, ?_⟩
  · have := h.cells
    simp [World.setCell, Array.getElem?_modify, this]
  · simp only [Mp.list, List.nodup_cons, List.mem_cons, List.not_mem_nil, or_false, not_or, not_false_eq_true, List.nodup_nil, and_true]
    exact ⟨⟨fun e => q1 e.symm, e2, e3, e4⟩, ⟨q3, q4, q5⟩, ⟨e8, e9⟩, e10⟩
  · intro x hx
    simp only [Mp.list, List.mem_cons, List.not_mem_nil, or_false] at hx
    rcases hx with rfl | rfl | rfl | rfl | rfl
    · exact h.lom _ (by simp [Mp.list])
    · exact hlo
    · exact h.lom _ (by simp [Mp.list])
    · exact h.lom _ (by simp [Mp.list])
    · exact h.lom _ (by simp [Mp.list])

/-- a flush: what is told, what the device has then -/
def Dv.flushT (D : Dv) : Option Nat × Dv := if D.tick.down then (some 5, D.tick) else (none, D.tick.flush)
set_option maxHeartbeats 3200000 in
theorem flush_ok (d lo n : Nat) (m : Mp) (D0 : Dv) (w : World) (h : At w lo d n m D0) (hn : n < 830000) (hp : D0.np < 20000) (hc : D0.calls < 1000000) (hz : D0.fuse ≤ 9223372036854775807) (hdn : D0.tick.down = false) :
    Calls Tryz.prog 41 #[ptr d] w fun e w' => e = .returned .nilIface ∧ ∃ p', w.heap.size ≤ p' ∧ At w' lo d (n + 3 * D0.np) { m with p := p' } D0.tick.flush ∧ Turn (own d m) w w' := by
  have hmm := @run_makeMap Tryz.prog
  have hmp : m.p ∈ m.list ∧ m.f ∈ m.list ∧ m.a ∈ m.list ∧ m.i ∈ m.list := by simp [Mp.list]
  have hnpe : D0.np = D0.tick.np := D0.tick_same.2.2.2.2.2.2.1.symm
  have hce : D0.calls = D0.tick.calls := D0.tick_same.2.2.2.2.2.2.2.2.1.symm
  rw [hnpe] at hp ⊢
  rw [hce] at hc
  clear hnpe hce
  obtain ⟨D, hDt⟩ : ∃ x, x = D0.tick := ⟨_, rfl⟩
  rw [← hDt] at hp hc hdn ⊢
  go_enter Tryz.func41, Tryz.ntmps41
  go_wp2_with fail
  refine (gone_w d lo n m D0 _ h hz).mono ?_
  rintro e w0 ⟨rfl, h0, t0⟩
  rw [← hDt] at h0 ⊢
  rw [hdn]
  have hs0 := t0.size
  have T0 := own1 (m := m) t0
  clear h hdn t0 hz hDt
  have h := h0
  obtain ⟨c0, c1, c2, c3, c4, c5, c6, c7, c8, f6, f2, f7, f8⟩ := h.c
  have hrp := h.rp
  obtain ⟨E, hE, hnp, hEi⟩ := hrp
  have hdl := h.dlt
  have hml : ∀ x ∈ m.list, x < w0.heap.size := fun x hx => by
    obtain ⟨es, ck, hb⟩ := h.maps x hx
    exact (Array.getElem?_eq_some_iff.1 hb).1
  go_wp2_with (at_range; refine wpList_range_own _ rfl _ 91 rfl 3 35 law Tryz.underlying91 rowR m.p n E rfl hE ?_; intro wq hrg0 hg0 hsq)
  go_frame
  have hE0 : ∀ i, (D.pe i).isSome = true → has E (.int .i64 i) = true := by
    intro i hi
    have := hEi i
    cases hF : D.pe i with
    | none => rw [hF] at hi; cases hi
    | some l => rw [hF] at this; exact this.1
  have H := hid h
  clear c0 c1 c2 c3 c4 c5 c6 c7 c8 f6 f2 f7 f8
  go_loopw [3] (fun _ wr => ∃ (left : Lit → Bool) (cnt : Nat), wr.ranges Tryz.prog 3 rowR m.p w0.heap.size n E left cnt ∧ At wr lo d (n + 3 * (D.np - cnt)) m (D.mid left) ∧ cnt ≤ D.np ∧ Turn (own d m) w0 wr ∧ w0.heap.size < wr.heap.size)
    (fun _ wr => wr.rangeLeft m.p w0.heap.size)
  case atStart =>
    refine ⟨_, _, hrg0, ?_, by omega, Turn.of_none hg0, by omega⟩
    rw [mid_start D _ hE0]
    exact (h.turn (S := []) (Turn.of_none hg0) (by simp) (by simp) (by simp)).mono (by omega) (Nat.le_refl _)
  case round =>
    clear hrg0 hg0 hsq
    obtain ⟨left, cnt, hrg, hat, hcnt, hT, hsz⟩ := hrel
    go_wp2_with (at_next; refine wpList_next_ranges _ rfl _ rfl 3 law rowR (Value.int .i64) mkV invK invV m.p w0.heap.size n _ _ _ rfl hrg ?_ ?_)
    · intro h0 hl0
      have ha := hat.below ((Below.refl _ wr).alloc (Nat.le_refl _) (.map #[] 0))
      obtain ⟨c0, c1, c2, c3, c4, c5, c6, c7, c8, f6, f2, f7, f8⟩ := ha.c
      simp only [Dv.mid] at c0 c6
      have hr0 := RowMap.made wr 0
      have hsw := ha.swapP (hr0.mono (n' := n + 3 * (D.np - cnt)) (by omega) (Nat.le_refl _)) (by have := hat.dlt; have := hat.lod; omega) (fun hm => by have := hml _ hm; omega)
      have htk := hsw.count (D.calls + 1)
      rw [show ((D.calls + 1 : Nat) : Int) = (D.calls : Int) + 1 by omega] at htk
      have hT2 : Turn (own d m) w0 (((wr.alloc (.map #[] 0)).setCell ⟨d, 2, none⟩ (.map (some wr.heap.size))).setCell ⟨d, 6, none⟩ (.int .i64 ((D.calls : Int) + 1))) :=
        ((hT.then (Turn.of_below ((Below.refl _ wr).alloc (Nat.le_refl _) _))).then (Turn.setCell _ _ _ _ (mem_own d m).1)).then (Turn.setCell _ _ _ _ (mem_own d m).1)
      have HK := hid htk
      clear htk hsw hr0 ha hat hrg hE hEi hE0
      go_wp2
      go_ret
      refine ⟨rfl, wr.heap.size, by omega, ?_, T0.then hT2⟩
      have e1 : { (D.mid left) with pe := fun _ => none, np := 0, calls := D.calls + 1 } = D.flush := by
        unfold Dv.mid Dv.flush
        simp [hl0]
      rw [← e1]
      exact HK.out.mono (by omega) (Nat.le_refl _)
    · intro x c kl ya yb w1 cnt1 hkey hlx hR hat1 hrg1 hlt hg1 hs1 hen
      obtain ⟨x', ex, rfl, hwx⟩ := Maps.keyOf_int_inv Tryz.underlying3 hkey
      cases ex
      have hfx : Fits x := int_of hwx
      obtain ⟨ri1, ri2, ri3⟩ := ranges_iter hrg
      have hrm : w0.heap.size ∉ m.list := fun hm => absurd (hml _ hm) (by omega)
      have h1 : At w1 lo d (n + 3 * (D.np - cnt)) m (D.mid left) := hat.turn (S := [w0.heap.size]) (Turn.of_grown hg1 (by simp)) (by simp; omega) (fun z hz => by simp; rintro rfl; exact hrm hz) (fun z hz => by rw [List.mem_singleton.1 hz]; exact .inl ri1)
      have hT1 : Turn (own d m) w0 w1 := hT.trans (Turn.of_grown (S := [w0.heap.size]) hg1 (by simp)) (fun z hz => by rw [List.mem_singleton.1 hz]; exact .inr (Nat.le_refl _))
      have hx := hEi x
      cases hF : D.pe x with
      | none =>
        exfalso
        rw [hF] at hx
        have e1 := hat1 .nil
        have e2 := hat1 (.agg [])
        rw [atKey_of_not_has hx] at e1 e2
        rw [← e1] at e2
        cases e2
      | some l =>
        rw [hF] at hx
        obtain ⟨_, g, cap, b1, b2, b3⟩ := hx
        have ey : ya = rowd g 256 cap := (hat1 .nil).symm.trans (b1 .nil)
        have hc1 : mkV c = .slice (some ⟨g, 0, none⟩) 256 cap := rowR_row (ps := yb) (by rw [hR, ← ey])
        obtain ⟨cc, tt, ff, hcc⟩ := nums_cells b2 (by decide)
        have hn1 := nums_of_cells b2 (hT1.block g (Array.getElem?_eq_some_iff.1 hcc).1 (h.out hcc (h.nerow b2)))
        rw [hc1] at hen ⊢
        have hM := mid_step D left x l hF
        clear hat1 hR b1 b2 ey hkey
        go_wp2_with fail
        refine (lay_w d lo _ m _ x g cap l _ h1 hfx hn1 (by omega) (by omega)).mono ?_
        rintro e w2 ⟨rfl, h2, t2⟩
        rw [hM] at h2
        have z1 := t2.size
        have rr := ranges_of hrg1 (t2.block m.p (by have := hml _ hmp.1; omega) (by
          obtain ⟨q1, q2, q3, q4, q5, q6, q7, q8, q9, q10⟩ := h.nd
          simp
          exact ⟨fun e => q1 e.symm, q5, q6⟩)) (t2.block w0.heap.size (by omega) (by
          simp
          exact ⟨fun e => by have := hml _ hmp.2.1; omega, fun e => by have := hml _ hmp.2.2.1; omega, fun e => by have := hml _ hmp.2.2.2; omega⟩))
        have t3 : Turn (own d m) w0 w2 := hT1.then (t2.mono (by simp [own, Mp.list]))
        go_wp2_with fail
        go_roundw
        case rel => exact ⟨_, cnt1, rr, h2.mono (by omega) (Nat.le_refl _), by omega, t3, by omega⟩
        case measure => rw [rr.left_eq, hrg.left_eq]; exact hlt
theorem flush_w (bs : List Addr) (d lo n : Nat) (m : Mp) (D : Dv) (w : World) (h : At w lo d n m D) (hB : Ev w lo bs five) (hn : n < 830000) (hp : D.np < 20000) (hc : D.calls < 1000000) (hz : D.fuse ≤ 9223372036854775807) :
    Calls Tryz.prog 41 #[ptr d] w fun e w' => (∃ v, Says bs D.flushT.1 v ∧ e = .returned v) ∧ ∃ p', (p' = m.p ∨ w.heap.size ≤ p') ∧ At w' lo d (n + 3 * D.np) { m with p := p' } D.flushT.2 ∧ Turn (own d m) w w' := by
  unfold Dv.flushT
  by_cases h1 : D.tick.down = true
  · rw [if_pos h1]
    obtain ⟨aF, haF, hAF⟩ := hB.get 5 _ (by decide) rfl
    go_enter Tryz.func41, Tryz.ntmps41
    go_wp2_with fail
    refine (gone_w d lo n m D _ h hz).mono ?_
    rintro e w0 ⟨rfl, h0, t0⟩
    rw [h1]
    have hA1 := ((hB.turn t0 (fun x hx => by rw [List.mem_singleton.1 hx]; exact h.lod)).get 5 _ (by decide) rfl)
    obtain ⟨a', ha', hA1, _⟩ := hA1
    obtain rfl := Option.some.inj (ha'.symm.trans haF)
    go_wp2
    go_ret
    exact ⟨⟨_, ⟨_, haF, rfl⟩, rfl⟩, m.p, .inl rfl, h0.mono (by omega) (Nat.le_refl _), own1 t0⟩
  · rw [if_neg h1]
    refine (flush_ok d lo n m D w h hn hp hc hz (by simpa using h1)).mono ?_
    rintro e w' ⟨rfl, p', h2, h3, h4⟩
    exact ⟨⟨_, rfl, rfl⟩, p', .inr h2, h3, h4⟩
end Go.Proofs.YtbjfgdahfpfgdaaGreatDoor.DevG

namespace Go.Proofs.YtbjfgdahfpfgdaaGreatDoor.DevG
open Go Go.RowKit Go.Maps Go.Proofs.YtbjfgdahfpfgdaaGreatDoor.Mem Go.Proofs.YtbjfgdahfpfgdaaGreatDoor.MapsW Go.Proofs.YtbjfgdahfpfgdaaGreatDoor.SeeW
set_option linter.unusedVariables false
set_option maxRecDepth 100000

/-- a new device -/
def Dv.new (b : Nat) : Dv := { blocks := b, fl := fun _ => none, pe := fun _ => none, fa := fun _ => false, fi := fun _ => false, ev := fun _ => false, np := 0, ne := 0, calls := 0 }
abbrev mp (s : Nat) : Mp := ⟨s, s + 1, s + 2, s + 3, s + 4⟩
abbrev MO : Obj := .map #[] 0
theorem alloc_old {w : World} {o o' : Obj} {k : Nat} (h : w.heap[k]? = some o') : (w.alloc o).heap[k]? = some o' := by
  rw [((Below.refl w.heap.size w).alloc (Nat.le_refl _) o).block k (Array.getElem?_eq_some_iff.1 h).1]; exact h
theorem alloc_at {w : World} {k : Nat} (h : w.heap.size = k) (o : Obj) : (w.alloc o).heap[k]? = some o := by
  subst h; exact heap_alloc_new _ _
theorem rows_at {w : World} {base b : Nat} (h : w.heap[b]? = some MO) : RowMap w base b 0 (fun _ => none) 0 := by
  obtain ⟨D, h1, h2, h3⟩ := RowMap.made w base
  obtain ⟨es, ck, hb, h4⟩ := h1
  rw [heap_alloc_new] at hb
  cases hb
  exact ⟨D, ⟨_, _, h, h4⟩, h2, fun i => h3 i⟩
theorem bools_at {w : World} {b : Nat} (h : w.heap[b]? = some MO) : BoolMap w b 0 (fun _ => false) := by
  obtain ⟨D, h1, h2⟩ := BoolMap.made w
  obtain ⟨es, ck, hb, h4⟩ := h1
  rw [heap_alloc_new] at hb
  cases hb
  exact ⟨D, ⟨_, _, h, h4⟩, h2⟩

theorem sets_at {w : World} {b : Nat} (h : w.heap[b]? = some MO) : SetMap w b 0 (fun _ => false) 0 := by
  obtain ⟨D, h1, h2⟩ := SetMap.made w
  obtain ⟨es, ck, hb, h4⟩ := h1
  rw [heap_alloc_new] at hb
  cases hb
  exact ⟨D, ⟨_, _, h, h4⟩, h2⟩

theorem new_w (b : Nat) (w : World) (h1 : 1 ≤ b) (h2 : b ≤ 6000) :
    Calls Tryz.prog 46 #[.int .i64 b] w fun e w' => e = .returned (.tuple #[ptr (w.heap.size + 5), .nilIface]) ∧ At w' w.heap.size (w.heap.size + 5) 0 (mp w.heap.size) (Dv.new b) ∧ Below w.heap.size w w' ∧ w'.heap.size = w.heap.size + 6 := by
  have hmm := @run_makeMap Tryz.prog
  go_enter Tryz.func46, Tryz.ntmps46
  go_wp2
  have s1 : (w.alloc MO).heap.size = w.heap.size + 1 := by simp
  have s2 : ((w.alloc MO).alloc MO).heap.size = w.heap.size + 2 := by simp
  have s3 : (((w.alloc MO).alloc MO).alloc MO).heap.size = w.heap.size + 3 := by simp
  have s4 : ((((w.alloc MO).alloc MO).alloc MO).alloc MO).heap.size = w.heap.size + 4 := by simp
  have s5 : (((((w.alloc MO).alloc MO).alloc MO).alloc MO).alloc MO).heap.size = w.heap.size + 5 := by simp
  have hb : ∀ o, Below w.heap.size w ((((((w.alloc MO).alloc MO).alloc MO).alloc MO).alloc MO).alloc o) := fun o =>
    ((((((Below.refl _ w).alloc (Nat.le_refl _) MO).alloc (by omega) MO).alloc (by omega) MO).alloc (by omega) MO).alloc (by omega) MO).alloc (by omega) o
  refine bodyPost_ret (v := .tuple #[ptr (w.heap.size + 5), .nilIface]) (by simp [results, Tryz.results46, go_sem]) rfl ⟨rfl, ?_, hb _, by simp⟩
  refine ⟨alloc_at s5 _, ⟨0, rows_at (alloc_old (alloc_old (alloc_old (alloc_old (alloc_old (alloc_at rfl _))))))⟩, rows_at (alloc_old (alloc_old (alloc_old (alloc_old (alloc_at s1 _))))), bools_at (alloc_old (alloc_old (alloc_old (alloc_at s2 _)))), bools_at (alloc_old (alloc_old (alloc_at s3 _))), sets_at (alloc_old (alloc_at s4 _)), ?_, by omega, ?_⟩
  · simp [Mp.list]
  · intro x hx
    simp [Mp.list] at hx
    omega
end Go.Proofs.YtbjfgdahfpfgdaaGreatDoor.DevG

namespace Go.Proofs.YtbjfgdahfpfgdaaGreatDoor.PairG
open Go Go.RowKit Go.Maps Go.Proofs.YtbjfgdahfpfgdaaGreatDoor.Mem Go.Proofs.YtbjfgdahfpfgdaaGreatDoor.MapsW Go.Proofs.YtbjfgdahfpfgdaaGreatDoor.SeeW Go.Proofs.YtbjfgdahfpfgdaaGreatDoor.DevG
set_option linter.unusedVariables false
set_option maxRecDepth 100000

/-- a write of a device that is up, and not armed -/
theorem write_q (d lo n : Nat) (m : Mp) (D : Dv) (i : Nat) (a : Option Addr) (cap : Nat) (l : List Nat) (w : World) (h : At w lo d n m D) (hi : i < D.blocks) (hb : D.blocks ≤ 6000) (hl : Nums .u8 w a 256 cap l) (hn : n < 890000) (hc : D.calls < 1000000) (hu : D.down = false) (hz : D.fuse = 0) :
    Calls Tryz.prog 112 #[ptr d, .int .i64 i, .slice a 256 cap] w fun e w' => e = .returned .nilIface ∧ At w' lo d (n + 1) m (D.put i l) ∧ Turn (own d m) w w' := by
  have := write_ok d lo n m D i a cap l w h hi hb hl (by omega) hc (by omega) (by rw [Dv.tick_zero hz]; exact hu)
  rw [Dv.tick_zero hz] at this
  exact this
abbrev pcells (d b h c : Nat) : Array Value := #[ptr d, .int .i64 b, .int .i64 h, .int .i64 c]
/-- block p of w holds pairs on the device d: b blocks, half of them h; c were mended -/
structure PAt (w : World) (lo d n : Nat) (m : Mp) (D : Dv) (p h c : Nat) : Prop where
  dev : At w lo d n m D
  cells : w.heap[p]? = some (.cells (pcells d D.blocks h c) 160)
  half : 2 * h ≤ D.blocks
  most : D.blocks ≤ 6000
  lop : lo ≤ p
  up : D.down = false
  still : D.fuse = 0
theorem PAt.ne {w : World} {lo d n : Nat} {m : Mp} {D : Dv} {p h c : Nat} (k : PAt w lo d n m D p h c) : p ≠ d := by
  rintro rfl
  have h1 := k.cells
  rw [k.dev.cells] at h1
  have h2 := (Obj.cells.inj (Option.some.inj h1)).1
  have h3 := congrArg (·[0]?) h2
  simp at h3
theorem PAt.c {w : World} {lo d n : Nat} {m : Mp} {D : Dv} {p h c : Nat} (k : PAt w lo d n m D p h c) :
    w.cell? ⟨p, 0, none⟩ = some (ptr d) ∧ w.cell? ⟨p, 1, none⟩ = some (.int .i64 D.blocks) ∧ w.cell? ⟨p, 2, none⟩ = some (.int .i64 h) ∧ w.cell? ⟨p, 3, none⟩ = some (.int .i64 c) ∧ w.frozen? ⟨p, 3, none⟩ = false := by
  have := k.cells
  simp [World.cell?, World.frozen?, this]
/-- what the device does leaves the pairs -/
theorem PAt.turn {w w' : World} {lo d n n' : Nat} {m m' : Mp} {D D' : Dv} {p h c : Nat} (k : PAt w lo d n m D p h c) (hd : At w' lo d n' m' D') (ht : Turn (own d m) w w') (hb : D'.blocks = D.blocks) (hu : D'.down = false) (hz : D'.fuse = 0) : PAt w' lo d n' m' D' p h c := by
  refine ⟨hd, ?_, by rw [hb]; exact k.half, by rw [hb]; exact k.most, k.lop, hu, hz⟩
  rw [hb]
  exact ht.cells k.cells (k.dev.out k.cells k.ne)
theorem PAt.below {w w' : World} {lo d n : Nat} {m : Mp} {D : Dv} {p h c : Nat} (k : PAt w lo d n m D p h c) (hb : Below w.heap.size w w') : PAt w' lo d n m D p h c :=
  k.turn (k.dev.below hb) (Turn.of_below hb) rfl k.up k.still
theorem PAt.mono {w : World} {lo lo' d n n' : Nat} {m : Mp} {D : Dv} {p h c : Nat} (k : PAt w lo d n m D p h c) (hn : n ≤ n') (hl : lo' ≤ lo) : PAt w lo' d n' m D p h c :=
  ⟨k.dev.mono hn hl, k.cells, k.half, k.most, Nat.le_trans hl k.lop, k.up, k.still⟩
/-- one more was mended -/
theorem PAt.tick {w : World} {lo d n : Nat} {m : Mp} {D : Dv} {p h c : Nat} (k : PAt w lo d n m D p h c) (c' : Nat) : PAt (w.setCell ⟨p, 3, none⟩ (.int .i64 c')) lo d n m D p h c' ∧ Turn [p] w (w.setCell ⟨p, 3, none⟩ (.int .i64 c')) := by
  have ht : Turn [p] w (w.setCell ⟨p, 3, none⟩ (.int .i64 c')) := Turn.setCell w p 3 _ (by simp)
  have hout := k.dev.out k.cells k.ne
  refine ⟨⟨k.dev.turn ht (by simp; exact fun e => k.ne e.symm) (fun x hx => by
    simp
    rintro rfl
    exact hout (List.mem_cons_of_mem _ hx)) (fun x hx => ?_), ?_, k.half, k.most, k.lop, k.up, k.still⟩, ht⟩
  · rw [List.mem_singleton.1 hx]
    exact .inr ⟨_, k.c.1, fun z e => by cases e⟩
  · have := k.cells
    simp [World.setCell, Array.getElem?_modify, this]

theorem is_w (lo d n : Nat) (m : Mp) (D : Dv) (p h c : Nat) (i : Int) (w : World) (k : PAt w lo d n m D p h c) (hi : Fits i) :
    Calls Tryz.prog 98 #[ptr p, .int .i64 i] w fun e w' => e = .returned (.bool (decide (0 ≤ i ∧ i < h))) ∧ w = w' := by
  obtain ⟨c0, c1, c2, c3, f3⟩ := k.c
  clear k
  by_cases h0 : 0 ≤ i
  · by_cases h1 : i < h
    · go_enter Tryz.func98, Tryz.ntmps98
      go_wp2
      go_ret
      exact ⟨ret_bool (by simp [h0, h1]), rfl⟩
    · have h2 : decide (i < (h : Int)) = false := decide_eq_false h1
      go_enter Tryz.func98, Tryz.ntmps98
      go_wp2
      go_ret
      exact ⟨ret_bool (by simp), rfl⟩
  · have h2 : decide ((0 : Int) ≤ i) = false := decide_eq_false h0
    go_enter Tryz.func98, Tryz.ntmps98
    go_wp2
    go_ret
    exact ⟨ret_bool (by simp), rfl⟩
set_option maxHeartbeats 800000 in
/-- a block written anew -/
theorem mend_w (lo d n : Nat) (m : Mp) (D : Dv) (p h c : Nat) (i : Nat) (a : Option Addr) (cap : Nat) (l : List Nat) (w : World) (k : PAt w lo d n m D p h c) (hi : i < D.blocks) (hl : Nums .u8 w a 256 cap l) (hn : n < 880000) (hc : D.calls < 1000000) (hc2 : c < 1000000) :
    Calls Tryz.prog 100 #[ptr p, .int .i64 i, .slice a 256 cap] w fun e w' => e = .returned .nilIface ∧ PAt w' lo d (n + 1) m (D.put i l) p h (c + 1) ∧ Turn (p :: own d m) w w' := by
  obtain ⟨c0, c1, c2, c3, f3⟩ := k.c
  go_enter Tryz.func100, Tryz.ntmps100
  go_wp2_with fail
  refine (write_q d lo n m D i a cap l _ k.dev hi k.most hl (by omega) hc k.up k.still).mono ?_
  rintro e w1 ⟨rfl, h1, t1⟩
  have k1 := k.turn h1 t1 rfl k.up k.still
  obtain ⟨x0, x1, x2, x3, g3⟩ := k1.c
  obtain ⟨k2, t2⟩ := k1.tick (c + 1)
  rw [show ((c + 1 : Nat) : Int) = (c : Int) + 1 by omega] at k2 t2
  have K2 := hid k2
  clear k k1 k2 c0 c1 c2 c3 f3 h1
  go_wp2
  go_ret
  exact ⟨rfl, K2.out, (t1.mono (fun x hx => List.mem_cons_of_mem _ hx)).then (t2.mono (fun x hx => by rw [List.mem_singleton.1 hx]; exact List.mem_cons_self ..))⟩
end Go.Proofs.YtbjfgdahfpfgdaaGreatDoor.PairG

namespace Go.Proofs.YtbjfgdahfpfgdaaGreatDoor.GeoW
open Go Go.RowKit Go.Proofs.YtbjfgdahfpfgdaaGreatDoor.Mem
set_option linter.unusedVariables false
set_option maxRecDepth 100000

/-- a half's blocks -/
def half (b : Nat) : Nat := min (b / 4) 512
theorem half_le (b : Nat) : 2 * half b ≤ b := by unfold half; omega
theorem half_512 (b : Nat) : half b ≤ 512 := by unfold half; omega

/-- a geometry as a value -/
abbrev G (b h : Int) : Value := .agg #[.int .i64 b, .int .i64 h]

theorem of_good (b : Nat) (w : World) (h1 : 300 ≤ b) (h2 : b ≤ 6000) :
    Calls Tryz.prog 95 #[.int .i64 b] w fun e w' => e = .returned (.tuple #[G b (half b), .nilIface]) ∧ Below w.heap.size w w' := by
  have HH := hid (show half b = min (b / 4) 512 from rfl)
  have d1 : decide ((b : Int) < 300) = false := by rw [decide_eq_false_iff_not]; omega
  have d2 : decide ((6000 : Int) < (b : Int)) = false := by rw [decide_eq_false_iff_not]; omega
  rcases Nat.lt_or_ge (b / 4) 512 with h | h
  · have d3 : (b : Int) / 4 < 512 := by omega
    rw [Nat.min_eq_left (by omega)] at HH
    go_enter Tryz.func95, Tryz.ntmps95
    go_wp2
    refine bodyPost_ret (v := .tuple #[G b (((b / 4 : Nat)) : Int), .nilIface]) (by simp [results, Tryz.results95, go_sem] <;> omega) rfl ⟨by rw [HH.out], (Below.refl _ _).alloc (Nat.le_refl _) _⟩
  · have d3 : (512 : Int) ≤ (b : Int) / 4 := by omega
    rw [Nat.min_eq_right (by omega)] at HH
    go_enter Tryz.func95, Tryz.ntmps95
    go_wp2
    all_goals refine bodyPost_ret (v := .tuple #[G b 512, .nilIface]) (by simp [results, Tryz.results95, go_sem]; try omega) rfl ⟨by rw [HH.out]; rfl, (Below.refl _ _).alloc (Nat.le_refl _) _⟩

end Go.Proofs.YtbjfgdahfpfgdaaGreatDoor.GeoW

namespace Go.Proofs.YtbjfgdahfpfgdaaGreatDoor.PairG
open Go Go.RowKit Go.Maps Go.Proofs.YtbjfgdahfpfgdaaGreatDoor.Mem Go.Proofs.YtbjfgdahfpfgdaaGreatDoor.MapsW Go.Proofs.YtbjfgdahfpfgdaaGreatDoor.SeeW Go.Proofs.YtbjfgdahfpfgdaaGreatDoor.DevG
set_option linter.unusedVariables false
set_option maxRecDepth 100000

set_option maxHeartbeats 1600000 in
theorem popen_w (b : Nat) (lo d n : Nat) (m : Mp) (D : Dv) (w : World) (k : At w lo d n m D) (h1 : 300 ≤ D.blocks) (h2 : D.blocks ≤ 6000) (hlo : lo ≤ w.heap.size) (hu : D.down = false) (hz : D.fuse = 0) :
    Calls Tryz.prog 53 #[ptr d] w fun e w' => ∃ p, e = .returned (.tuple #[ptr p, .nilIface]) ∧ PAt w' lo d n m D p (GeoW.half D.blocks) 0 ∧ Below w.heap.size w w' := by
  go_enter Tryz.func53, Tryz.ntmps53
  go_wp2_with fail
  refine (DevG.blocks_w d lo n m D _ k).mono ?_
  rintro e w' ⟨rfl, rfl⟩
  go_wp2_with fail
  refine (GeoW.of_good D.blocks _ h1 h2).mono ?_
  rintro e w1 ⟨rfl, hb1⟩
  have k1 := k.below hb1
  have hhf := GeoW.half_le D.blocks
  have z1 := hb1.size
  go_wp2
  have bb : ∀ o o', Below w1.heap.size w1 ((w1.alloc o).alloc o') := fun o o' => ((Below.refl _ w1).alloc (Nat.le_refl _) o).alloc (by simp) o'
  refine bodyPost_ret (v := .tuple #[ptr (w1.heap.size + 1), .nilIface]) (by simp [results, Tryz.results53, go_sem]) rfl ⟨w1.heap.size + 1, rfl, ⟨k1.below (bb _ _), alloc_at (by simp) _, hhf, h2, by omega, hu, hz⟩, hb1.trans ((bb _ _).mono z1)⟩
end Go.Proofs.YtbjfgdahfpfgdaaGreatDoor.PairG
