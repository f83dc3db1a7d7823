/- Plain facts about the sum: bytes turned, four in a row or fewer, are told. No program stands here; Plain facts about roots: a root's bytes, the root of bytes; Plain facts: bytes turned are others, and so is their sum; a block of some bytes; The plain law of pages: what their blocks hold, how all is to lie behind a commit; Maps of rows and of places: stores, deletes, sizes; Slices of places and their sums ([]api.Ref); Sets: maps of bools that hold what is true alone; how many; What a row's listed error variables give a walk: each variable holds a pointer of its own. -/
import Derived.Test.YtbjfgdahfpfgdaaGreatDoorPageFaultsP1
import Derived.Lib.SlKeysI
import Derived.Sort.KeysCollected
import Derived.BigQuiet
import Derived.Test.YtbjfgdahfpfgdaaGreatDoorProg
import Derived.LaidLaws
import Derived.LaidMore
import Derived.LaidHandle
import Derived.MakeChecks
import Derived.Stop.LaidErr
import Derived.KernelRfl
import Derived.Below
namespace Go.Proofs.YtbjfgdahfpfgdaaGreatDoor.Crc

/-- bytes as one word, the first the lowest -/
def val : List Nat → Nat
  | [] => 0
  | c :: l => c ^^^ (val l * 256)
theorem run_val (l : List Nat) : ∀ s, run s l = bits (8 * l.length) (s ^^^ val l) := by
  induction l with
  | nil => intro s; simp [run, val, bits]
  | cons c l ih =>
    intro s
    have h1 : val l = step (val l * 256) := by rw [step_def]; exact (bits_high 8 (val l)).symm
    have hr : run s (c :: l) = run (step (s ^^^ c)) l := by rw [run]
    have hv : val (c :: l) = c ^^^ val l * 256 := by rw [val]
    have h2 : step (s ^^^ c) ^^^ val l = bits 8 (s ^^^ val (c :: l)) := by
      rw [hv, ← step_def, ← Nat.xor_assoc, step_xor (s ^^^ c), ← h1]
    have hl : 8 * (c :: l).length = 8 + 8 * l.length := by simp only [List.length_cons]; omega
    rw [hr, ih, h2, hl, bits_add]
theorem val_lt (l : List Nat) (h : Bytes l) : val l < 2 ^ (8 * l.length) := by
  induction l with
  | nil => simp [val]
  | cons c l ih =>
    have h1 := ih h.tail
    have hc := h.head
    have e : 8 * (c :: l).length = 8 * l.length + 8 := by simp; omega
    rw [e]
    refine Nat.xor_lt_two_pow ?_ ?_
    · exact Nat.lt_of_lt_of_le hc (Nat.pow_le_pow_right (n := 2) (i := 8) (by decide) (by omega))
    · rw [Nat.pow_add]
      exact Nat.mul_lt_mul_of_pos_right h1 (by decide)
theorem val_zero (l : List Nat) (h : Bytes l) (hv : val l = 0) : ∀ x ∈ l, x = 0 := by
  induction l with
  | nil => simp
  | cons c l ih =>
    have hc := h.head
    have h1 : c = val l * 256 := by
      have := congrArg (· ^^^ (val l * 256)) hv
      simpa [val, Nat.xor_assoc] using this
    have h2 : val l = 0 := by omega
    intro x hx
    rcases List.mem_cons.1 hx with rfl | hx
    · omega
    · exact ih h.tail h2 x hx
theorem turn_bytes : ∀ (a b : List Nat), Bytes a → Bytes b → Bytes (turn a b)
  | [], _, _, _ => by simp [turn, Bytes]
  | _ :: _, [], _, _ => by simp [turn, Bytes]
  | x :: a, y :: b, ha, hb => by
    intro z hz
    rcases List.mem_cons.1 hz with rfl | hz
    · exact xor_byte ha.head hb.head
    · exact turn_bytes a b ha.tail hb.tail z hz
theorem turn_length : ∀ (a b : List Nat), a.length = b.length → (turn a b).length = a.length
  | [], _, _ => by simp [turn]
  | _ :: _, [], h => by simp at h
  | _ :: a, _ :: b, h => by simp [turn, turn_length a b (by simpa using h)]
theorem turn_zero : ∀ (a b : List Nat), a.length = b.length → (∀ x ∈ turn a b, x = 0) → a = b
  | [], b, h, _ => by cases b; rfl; simp at h
  | x :: a, [], h, _ => by simp at h
  | x :: a, y :: b, h, hz => by
    have h1 : x ^^^ y = 0 := hz _ (by simp [turn])
    have h2 : x = y := by
      have := congrArg (· ^^^ y) h1
      simpa [Nat.xor_assoc] using this
    rw [h2, turn_zero a b (by simpa using h) (fun z hz' => hz z (by simp [turn, hz']))]
/-- four bytes or fewer -/
theorem run_four {a b : List Nat} (ha : Bytes a) (hb : Bytes b) (hl : a.length = b.length) (h4 : a.length ≤ 4) {s : Nat} (h : run s a = run s b) : a = b := by
  have h1 : run 0 (turn a b) = 0 := by
    have := run_xor a b s s hl
    rw [h, Nat.xor_self, Nat.xor_self] at this
    exact this.symm
  rw [run_val, Nat.zero_xor] at h1
  have ht := turn_bytes a b ha hb
  have hv := val_lt _ ht
  rw [turn_length a b hl] at hv
  have hW : val (turn a b) < W := Nat.lt_of_lt_of_le hv (Nat.pow_le_pow_right (n := 2) (j := 32) (by decide) (by omega))
  exact turn_zero a b hl (val_zero _ ht (bits_eq_zero _ hW h1))
theorem Bytes_append {a b : List Nat} (h : Bytes (a ++ b)) : Bytes a ∧ Bytes b := ⟨fun x hx => h x (by simp [hx]), fun x hx => h x (by simp [hx])⟩
theorem sum_four {a m m' b : List Nat} (h : Bytes (a ++ (m ++ b))) (h' : Bytes (a ++ (m' ++ b))) (hl : m.length = m'.length) (h4 : m.length ≤ 4)
    (hs : sum (a ++ (m ++ b)) = sum (a ++ (m' ++ b))) : m = m' := by
  have h1 := sum_inj hs
  rw [run_append, run_append, run_append, run_append] at h1
  have ha := (Bytes_append h).1
  have hm := (Bytes_append (Bytes_append h).2).1
  have hb := (Bytes_append (Bytes_append h).2).2
  have hm' := (Bytes_append (Bytes_append h').2).1
  have hr := run_lt a (s := W - 1) top_lt ha
  exact run_four hm hm' hl h4 (run_inj b (run_lt m hr hm) (run_lt m' hr hm') hb h1)

/-- which bytes were turned -/
theorem turnK_get (l : List Nat) (p t k : Nat) : ∀ j, (turnK l (p : Int) t k)[j]? = (l[j]?).map fun c => if p ≤ j ∧ j < p + k then c ^^^ byteOf t (j - p) else c := by
  induction k with
  | zero => intro j; simp only [turnK]; cases l[j]? with
    | none => rfl
    | some c => simp only [Option.map_some]; rw [if_neg (by omega)]
  | succ k ih =>
    intro j
    show (turn1 (turnK l p t k) p t k)[j]? = _
    unfold turn1
    rw [turnK_length]
    by_cases hin : p + k < l.length
    · rw [if_pos (by omega)]
      simp only [Int.toNat_natCast]
      rw [List.getElem?_set, turnK_length, List.getD_eq_getElem?_getD, ih (p + k), List.getElem?_eq_getElem hin]
      by_cases e : p + k = j
      · subst e
        rw [if_pos rfl, if_pos hin]
        rw [List.getElem?_eq_getElem hin]
        simp only [Option.map_some, Option.getD_some]
        rw [if_neg (by omega), if_pos (by omega)]
        rw [Nat.add_sub_cancel_left]
      · rw [if_neg e, ih j]
        cases l[j]? with
        | none => rfl
        | some c =>
          simp only [Option.map_some]
          by_cases h2 : p ≤ j ∧ j < p + k
          · rw [if_pos h2, if_pos (by omega)]
          · rw [if_neg h2, if_neg (by omega)]
    · rw [if_neg (by omega), ih j]
      by_cases hj : j < l.length
      · rw [List.getElem?_eq_getElem hj]
        simp only [Option.map_some]
        by_cases h2 : p ≤ j ∧ j < p + k
        · rw [if_pos h2, if_pos (by omega)]
        · rw [if_neg h2, if_neg (by omega)]
      · rw [List.getElem?_eq_none (by omega)]; rfl
theorem turned_neg (l : List Nat) {at_ : Int} (t : Nat) (h : at_ < 0) : ∀ k, turnK l at_ t k = l
  | 0 => rfl
  | k + 1 => by rw [turnK, turned_neg l t h k]; unfold turn1; rw [if_neg (by omega)]
theorem turned_length (l : List Nat) (at_ : Int) (t : Nat) : (turned l at_ t).length = l.length := turnK_length l at_ t 4
theorem turned_bytes {l : List Nat} (h : Bytes l) (at_ : Int) (t : Nat) : Bytes (turned l at_ t) := turnK_bytes h at_ t 4
theorem parts (l : List Nat) (p : Nat) : l = l.take p ++ ((l.drop p).take 4 ++ l.drop (p + 4)) := by
  have h1 : (l.drop p).take 4 ++ (l.drop p).drop 4 = l.drop p := List.take_append_drop 4 _
  rw [List.drop_drop] at h1
  rw [h1, List.take_append_drop]
/-- turned bytes have another sum, but where nothing was turned -/
theorem turned_sum {l : List Nat} (hb : Bytes l) (at_ : Int) (t : Nat) : (sum (turned l at_ t) = sum l) ↔ l = turned l at_ t := by
  constructor
  · intro h
    by_cases hn : at_ < 0
    · unfold turned; rw [turned_neg _ _ hn]
    · obtain ⟨p, rfl⟩ := Int.eq_ofNat_of_zero_le (a := at_) (by omega)
      have hb' := turned_bytes hb (p : Int) t
      have hlen := turned_length l (p : Int) t
      have hget : ∀ j, (turned l (p : Int) t)[j]? = _ := turnK_get l p t 4
      generalize hm : turned l (p : Int) t = m at *
      have e1 : m.take p = l.take p := by
        apply List.ext_getElem?
        intro j
        rw [List.getElem?_take, List.getElem?_take]
        by_cases hj : j < p
        · rw [if_pos hj, if_pos hj, hget j]
          cases l[j]? with
          | none => rfl
          | some c => simp only [Option.map_some]; rw [if_neg (by omega)]
        · rw [if_neg hj, if_neg hj]
      have e2 : m.drop (p + 4) = l.drop (p + 4) := by
        apply List.ext_getElem?
        intro j
        rw [List.getElem?_drop, List.getElem?_drop, hget]
        cases l[p + 4 + j]? with
        | none => rfl
        | some c => simp only [Option.map_some]; rw [if_neg (by omega)]
      have pm := parts m p
      have pl := parts l p
      rw [e1, e2] at pm
      have hs : sum (l.take p ++ ((l.drop p).take 4 ++ l.drop (p + 4))) = sum (l.take p ++ ((m.drop p).take 4 ++ l.drop (p + 4))) := by
        rw [← pm, ← pl]; exact h.symm
      have e3 := sum_four (by rw [← pl]; exact hb) (by rw [← pm]; exact hb') (by simp [hlen]) (by simp; omega) hs
      rw [pm, ← e3, ← pl]
  · intro h; rw [← h]

end Go.Proofs.YtbjfgdahfpfgdaaGreatDoor.Crc

namespace Go.Proofs.YtbjfgdahfpfgdaaGreatDoor.RootP
open Go
set_option linter.unusedVariables false

/-- a root: its epoch, its places and their sums -/
structure Rt where
  ep : Int
  rs : List (Int × Nat)
deriving DecidableEq

/-- k bytes of a number, the lowest first -/
def le : Nat → Nat → List Nat
  | 0, _ => []
  | k + 1, n => (n % 256) :: le k (n / 256)
/-- the number of bytes -/
def un : List Nat → Nat
  | [] => 0
  | b :: l => b + 256 * un l
theorem le_length (k n : Nat) : (le k n).length = k := by
  induction k generalizing n with
  | zero => rfl
  | succ k ih => simp [le, ih]
theorem le_get (k n i : Nat) (h : i < k) : (le k n)[i]? = some (n / 256 ^ i % 256) := by
  induction k generalizing n i with
  | zero => omega
  | succ k ih =>
    cases i with
    | zero => simp [le]
    | succ i =>
      show (le k (n / 256))[i]? = _
      rw [ih _ _ (by omega), Nat.div_div_eq_div_mul, Nat.pow_succ, Nat.mul_comm]
theorem le_bytes (k n : Nat) : ∀ x ∈ le k n, x < 256 := by
  induction k generalizing n with
  | zero => simp [le]
  | succ k ih =>
    intro x hx
    simp only [le, List.mem_cons] at hx
    rcases hx with rfl | hx
    · exact Nat.mod_lt _ (by decide)
    · exact ih _ x hx
theorem un_le (k n : Nat) (h : n < 256 ^ k) : un (le k n) = n := by
  induction k generalizing n with
  | zero => simp at h; simp [le, un]; omega
  | succ k ih =>
    have : n / 256 < 256 ^ k := by rw [Nat.pow_succ] at h; omega
    simp only [le, un, ih _ this]
    omega
theorem un_lt (l : List Nat) (h : ∀ x ∈ l, x < 256) : un l < 256 ^ l.length := by
  induction l with
  | nil => simp [un]
  | cons b l ih =>
    have h1 := h b (by simp)
    have h2 := ih fun x hx => h x (by simp [hx])
    simp only [un, List.length_cons, Nat.pow_succ]
    omega
theorem un_append (l m : List Nat) : un (l ++ m) = un l + 256 ^ l.length * un m := by
  induction l with
  | nil => simp [un]
  | cons b l ih =>
    simp only [List.cons_append, un, ih, List.length_cons, Nat.pow_succ]
    rw [Nat.mul_add, ← Nat.mul_assoc, Nat.mul_comm 256 (256 ^ l.length)]
    omega
theorem un_snoc (l : List Nat) (b : Nat) : un (l ++ [b]) = un l + 256 ^ l.length * b := by rw [un_append]; simp [un]

/-- bytes laid over others, from a place on -/
def lays : List Nat → Nat → List Nat → List Nat
  | L, _, [] => L
  | L, o, b :: l => lays (L.set o b) (o + 1) l
theorem lays_length (L : List Nat) (o : Nat) (l : List Nat) : (lays L o l).length = L.length := by
  induction l generalizing L o with
  | nil => rfl
  | cons b l ih => simp [lays, ih]
theorem lays_append (L : List Nat) (o : Nat) (l m : List Nat) : lays L o (l ++ m) = lays (lays L o l) (o + l.length) m := by
  induction l generalizing L o with
  | nil => simp [lays]
  | cons b l ih =>
    simp only [List.cons_append, lays, ih, List.length_cons]
    congr 1
    omega
theorem lays_snoc (L : List Nat) (o : Nat) (l : List Nat) (b : Nat) : lays L o (l ++ [b]) = (lays L o l).set (o + l.length) b := by
  rw [lays_append]; rfl
theorem lays_cons (x : Nat) (L : List Nat) (o : Nat) (l : List Nat) : lays (x :: L) (o + 1) l = x :: lays L o l := by
  induction l generalizing L o with
  | nil => rfl
  | cons b l ih => simp only [lays, List.set_cons_succ, ih]
theorem lays_zero (L l : List Nat) (h : l.length ≤ L.length) : lays L 0 l = l ++ L.drop l.length := by
  induction l generalizing L with
  | nil => simp [lays]
  | cons b l ih =>
    cases L with
    | nil => simp at h
    | cons x L =>
      simp only [lays, List.set_cons_zero, lays_cons]
      rw [ih L (by simpa using h)]
      simp
theorem lays_bytes {L l : List Nat} (o : Nat) (hL : Crc.Bytes L) (hl : Crc.Bytes l) : Crc.Bytes (lays L o l) := by
  induction l generalizing L o with
  | nil => exact hL
  | cons b l ih =>
    refine ih (o + 1) (fun x hx => ?_) fun x hx => hl x (by simp [hx])
    rcases List.mem_or_eq_of_mem_set hx with h | h
    · exact hL x h
    · subst h; exact hl x (by simp)

/-- a place and its sum as bytes -/
def refB (r : Int × Nat) : List Nat := le 2 r.1.toNat ++ le 4 r.2
def refsB (rs : List (Int × Nat)) : List Nat := rs.flatMap refB
theorem refB_length (r : Int × Nat) : (refB r).length = 6 := by simp [refB, le_length]
theorem refsB_length (rs : List (Int × Nat)) : (refsB rs).length = 6 * rs.length := by
  induction rs with
  | nil => rfl
  | cons r rs ih =>
    show (refB r ++ refsB rs).length = _
    rw [List.length_append, ih, refB_length, List.length_cons]
    omega
/-- what a half of a root's block begins with -/
def head (r : Rt) : List Nat := le 6 r.ep.toNat ++ [r.rs.length] ++ refsB r.rs
theorem head_length (r : Rt) : (head r).length = 7 + 6 * r.rs.length := by simp [head, le_length, refsB_length]; omega
abbrev zeros (n : Nat) : List Nat := List.replicate n 0
def half (r : Rt) : List Nat := lays (zeros 128) 0 (head r)
def enc (r : Rt) : List Nat := half r ++ half r
theorem half_length (r : Rt) : (half r).length = 128 := by simp [half, lays_length]
theorem enc_length (r : Rt) : (enc r).length = 256 := by simp [enc, half_length]

/-- what may be -/
def badR (x : Int × Nat) : Bool := decide (x.1 < 0) || decide (6000 < x.1)
def badE (ep : Int) : Bool := decide (ep < 1) || decide (1099511627776 < ep)
/-- what is amiss: the error's place -/
def amiss (r : Rt) : Option Nat := if badE r.ep || r.rs.any badR then some 2 else if 16 < r.rs.length then some 3 else none
structure Good (r : Rt) : Prop where
  e1 : 1 ≤ r.ep
  e2 : r.ep ≤ 1099511627776
  n : r.rs.length ≤ 16
  a : ∀ x ∈ r.rs, 0 ≤ x.1 ∧ x.1 ≤ 6000
theorem good_iff (r : Rt) : amiss r = none ↔ Good r := by
  unfold amiss
  constructor
  · intro h
    split at h
    · cases h
    · rename_i h1
      split at h
      · cases h
      · rename_i h2
        simp only [Bool.or_eq_true, List.any_eq_true, not_or, not_exists, not_and, badE, badR, decide_eq_true_eq] at h1
        exact ⟨by omega, by omega, by omega, fun x hx => by have := h1.2 x hx; omega⟩
  · intro h
    have h1 : ¬ ((badE r.ep || r.rs.any badR) = true) := by
      simp only [Bool.or_eq_true, List.any_eq_true, not_or, not_exists, not_and, badE, badR, decide_eq_true_eq]
      have := h.e1; have := h.e2
      exact ⟨by omega, fun x hx => by have := h.a x hx; omega⟩
    rw [if_neg h1, if_neg (by have := h.n; omega)]
instance (r : Rt) : Decidable (Good r) := decidable_of_iff _ (good_iff r)
theorem head_bytes {r : Rt} (h : r.rs.length ≤ 16) : Crc.Bytes (head r) := by
  intro x hx
  simp only [head, List.mem_append, List.mem_singleton, refsB, List.mem_flatMap] at hx
  rcases hx with (hx | hx) | ⟨y, _, hx⟩
  · exact le_bytes _ _ x hx
  · omega
  · rcases List.mem_append.1 hx with hx | hx <;> exact le_bytes _ _ x hx
theorem zeros_bytes (n : Nat) : Crc.Bytes (zeros n) := by
  intro x hx; rw [(List.mem_replicate.1 hx).2]; decide
theorem enc_bytes {r : Rt} (h : r.rs.length ≤ 16) : Crc.Bytes (enc r) := by
  intro x hx
  rcases List.mem_append.1 hx with hx | hx <;> exact lays_bytes _ (zeros_bytes _) (head_bytes h) x hx

/-- the i-th place of bytes, and its sum -/
def refAt (l : List Nat) (i : Nat) : Int × Nat := (((un ((l.drop (7 + 6 * i)).take 2) : Nat) : Int), un ((l.drop (7 + 6 * i + 2)).take 4))
/-- what bytes say, right or not -/
def dec (l : List Nat) : Rt := ⟨((un (l.take 6) : Nat) : Int), (List.range (l.getD 6 0)).map (refAt l)⟩
/-- the root of bytes -/
def parse (l : List Nat) : Option Rt := if l.length = 256 ∧ l.getD 6 0 ≤ 16 then (if Good (dec l) ∧ enc (dec l) = l then some (dec l) else none) else none
theorem parse_some {l : List Nat} {r : Rt} (h : parse l = some r) : Good r ∧ enc r = l := by
  unfold parse at h
  split at h
  · split at h
    · rename_i h2
      cases h
      exact h2
    · cases h
  · cases h

theorem enc_eq {r : Rt} (h : r.rs.length ≤ 16) : ∃ t, enc r = head r ++ t := by
  refine ⟨(zeros 128).drop (head r).length ++ half r, ?_⟩
  unfold enc half
  rw [lays_zero _ _ (by rw [head_length]; simp; omega), List.append_assoc]
theorem refsB_at (rs : List (Int × Nat)) (t : List Nat) (i : Nat) (h : i < rs.length) : ∃ u, (refsB rs ++ t).drop (6 * i) = refB rs[i] ++ u := by
  induction rs generalizing i with
  | nil => simp at h
  | cons r rs ih =>
    have e : refsB (r :: rs) ++ t = refB r ++ (refsB rs ++ t) := by
      show (refB r ++ refsB rs) ++ t = _
      rw [List.append_assoc]
    rw [e]
    cases i with
    | zero => exact ⟨refsB rs ++ t, rfl⟩
    | succ i =>
      obtain ⟨u, hu⟩ := ih i (by simpa using h)
      refine ⟨u, ?_⟩
      rw [List.drop_append, List.drop_of_length_le (by rw [refB_length]; omega), refB_length, show 6 * (i + 1) - 6 = 6 * i by omega, hu]
      rfl
theorem dec_enc {r : Rt} (h : Good r) (hs : ∀ x ∈ r.rs, x.2 < 4294967296) : dec (enc r) = r := by
  obtain ⟨t, ht⟩ := enc_eq h.n
  have e1 : enc r = le 6 r.ep.toNat ++ ([r.rs.length] ++ (refsB r.rs ++ t)) := by
    rw [ht]; unfold head; simp
  have h6 : (enc r).getD 6 0 = r.rs.length := by
    rw [e1, List.getD_eq_getElem?_getD, List.getElem?_append_right (by rw [le_length]; omega), le_length]
    rfl
  have he : un ((enc r).take 6) = r.ep.toNat := by
    rw [e1, List.take_append_of_le_length (by rw [le_length]; omega), List.take_of_length_le (by rw [le_length]; omega)]
    exact un_le _ _ (by have := h.e2; have := h.e1; omega)
  have h7 : (enc r).drop 7 = refsB r.rs ++ t := by
    rw [e1, List.drop_append, List.drop_of_length_le (by rw [le_length]; omega), le_length]
    rfl
  have hr : ∀ i (hi : i < r.rs.length), refAt (enc r) i = r.rs[i] := by
    intro i hi
    obtain ⟨u, hu⟩ := refsB_at r.rs t i hi
    have hd : (enc r).drop (7 + 6 * i) = le 2 r.rs[i].1.toNat ++ (le 4 r.rs[i].2 ++ u) := by
      rw [← List.drop_drop, h7, hu]; unfold refB; rw [List.append_assoc]
    have hd2 : (enc r).drop (7 + 6 * i + 2) = le 4 r.rs[i].2 ++ u := by
      rw [← List.drop_drop, hd, List.drop_append, List.drop_of_length_le (by rw [le_length]; omega), le_length]
      rfl
    have ha := h.a _ (List.getElem_mem hi)
    have hb := hs _ (List.getElem_mem hi)
    unfold refAt
    rw [hd, hd2, List.take_append_of_le_length (by rw [le_length]; omega), List.take_append_of_le_length (by rw [le_length]; omega), List.take_of_length_le (by rw [le_length]; omega), List.take_of_length_le (by rw [le_length]; omega), un_le _ _ (by omega), un_le _ _ (by omega)]
    refine Prod.ext ?_ rfl
    show ((r.rs[i].1.toNat : Nat) : Int) = _
    omega
  unfold dec
  rw [h6, he]
  have e3 : (List.range r.rs.length).map (refAt (enc r)) = r.rs := by
    refine List.ext_getElem (by simp) fun i h1 h2 => ?_
    simp only [List.getElem_map, List.getElem_range]
    exact hr i h2
  rw [e3]
  cases r with
  | mk ep rs =>
    have := h.e1
    simp only at this ⊢
    congr 1
    omega
theorem parse_enc {r : Rt} (h : Good r) (hs : ∀ x ∈ r.rs, x.2 < 4294967296) : parse (enc r) = some r := by
  obtain ⟨t, ht⟩ := enc_eq h.n
  have h6 : (enc r).getD 6 0 = r.rs.length := by
    rw [ht]
    unfold head
    rw [List.append_assoc, List.append_assoc, List.getD_eq_getElem?_getD, List.getElem?_append_right (by rw [le_length]; omega), le_length]
    rfl
  unfold parse
  rw [if_pos ⟨enc_length r, by rw [h6]; exact h.n⟩, dec_enc h hs, if_pos ⟨h, rfl⟩]
/-- where a few bytes in a row differ the bytes are none -/
theorem halves_eq {r r' : Rt} (p : Nat) (h : ∀ i, ¬ (p ≤ i ∧ i < p + 4) → (enc r')[i]? = (enc r)[i]?) : half r' = half r := by
  have e1 : ∀ (q : Rt) i, i < 128 → (enc q)[i]? = (half q)[i]? ∧ (enc q)[i + 128]? = (half q)[i]? := by
    intro q i hi
    unfold enc
    constructor
    · rw [List.getElem?_append_left (by rw [half_length]; exact hi)]
    · rw [List.getElem?_append_right (by rw [half_length]; omega), half_length, Nat.add_sub_cancel]
  refine List.ext_getElem? fun i => ?_
  by_cases hi : i < 128
  · by_cases hp : p ≤ i ∧ i < p + 4
    · rw [← (e1 r' i hi).2, ← (e1 r i hi).2]
      exact h _ (by omega)
    · rw [← (e1 r' i hi).1, ← (e1 r i hi).1]
      exact h _ hp
  · rw [List.getElem?_eq_none (by rw [half_length]; omega), List.getElem?_eq_none (by rw [half_length]; omega)]
theorem refAt_sum (l : List Nat) (hl : Crc.Bytes l) (i : Nat) : (refAt l i).2 < 4294967296 := by
  unfold refAt
  have h1 := un_lt ((l.drop (7 + 6 * i + 2)).take 4) fun x hx => hl x (List.mem_of_mem_drop (List.mem_of_mem_take hx))
  have h2 : ((l.drop (7 + 6 * i + 2)).take 4).length ≤ 4 := by rw [List.length_take]; omega
  have h3 : 256 ^ ((l.drop (7 + 6 * i + 2)).take 4).length ≤ 256 ^ 4 := Nat.pow_le_pow_right (by decide) h2
  show un _ < _
  omega
end Go.Proofs.YtbjfgdahfpfgdaaGreatDoor.RootP

namespace Go.Proofs.YtbjfgdahfpfgdaaGreatDoor.Crc
open Go

theorem turned_ne {l : List Nat} {p t : Nat} (hl : p + 4 ≤ l.length) (h0 : t ≠ 0) (ht : t < 4294967296) : turned l (p : Int) t ≠ l := by
  intro e
  have hb : ∀ k, k < 4 → byteOf t k = 0 := by
    intro k hk
    have h1 := turnK_get l p t 4 (p + k)
    rw [show turnK l (p : Int) t 4 = l from e] at h1
    have hlt : p + k < l.length := by omega
    rw [List.getElem?_eq_getElem hlt] at h1
    simp only [Option.map_some] at h1
    rw [if_pos (by omega), Nat.add_sub_cancel_left] at h1
    have h2 := Option.some.inj h1
    have h3 := congrArg (· ^^^ l[p + k]) h2
    simp only [Nat.xor_self] at h3
    rw [Nat.xor_comm l[p + k] (byteOf t k), Nat.xor_assoc, Nat.xor_self, Nat.xor_zero] at h3
    exact h3.symm
  have b0 := hb 0 (by omega)
  have b1 := hb 1 (by omega)
  have b2 := hb 2 (by omega)
  have b3 := hb 3 (by omega)
  unfold byteOf at b0 b1 b2 b3
  simp only [Nat.shiftRight_eq_div_pow] at b0 b1 b2 b3
  simp at b0 b1 b2 b3
  omega
theorem turned_sum_ne {l : List Nat} (hb : Bytes l) {p t : Nat} (hl : p + 4 ≤ l.length) (h0 : t ≠ 0) (ht : t < 4294967296) : sum (turned l (p : Int) t) ≠ sum l := by
  intro e
  exact turned_ne hl h0 ht ((turned_sum hb p t).1 e).symm

/-- a block of some bytes -/
def pad (l : List Nat) : List Nat := l ++ List.replicate (256 - l.length) 0
theorem pad_length {l : List Nat} (h : l.length ≤ 256) : (pad l).length = 256 := by
  unfold pad; rw [List.length_append, List.length_replicate]; omega
theorem pad_bytes {l : List Nat} (h : Bytes l) : Bytes (pad l) := by
  intro x hx
  rcases List.mem_append.1 hx with hx | hx
  · exact h x hx
  · rw [(List.mem_replicate.1 hx).2]; decide
theorem zeros_bytes (n : Nat) : Bytes (List.replicate n 0) := by
  intro x hx
  rw [(List.mem_replicate.1 hx).2]; decide
end Go.Proofs.YtbjfgdahfpfgdaaGreatDoor.Crc

namespace Go.Proofs.YtbjfgdahfpfgdaaGreatDoor.PgP
open Go.Proofs.YtbjfgdahfpfgdaaGreatDoor.RootP Go.Proofs.YtbjfgdahfpfgdaaGreatDoor.MapsW
set_option linter.unusedVariables false
set_option maxRecDepth 100000

abbrev Ref := Int × Nat
/-- a page's block -/
def pblk (l : List Nat) : List Nat := Crc.pad (l.length :: l)
/-- where a page lies -/
def tref (F : Int → Option Ref) (p : Nat) : Ref := (F (p : Int)).getD (0, 0)
/-- a table's block -/
def tblk (F : Int → Option Ref) (t : Nat) : List Nat := Crc.pad ((List.range 42).flatMap fun i => refB (tref F (t * 42 + i)))
theorem pblk_length {l : List Nat} (h : l.length ≤ 255) : (pblk l).length = 256 := Crc.pad_length (by simpa using h)
theorem pblk_bytes {l : List Nat} (h : l.length ≤ 255) (hb : Crc.Bytes l) : Crc.Bytes (pblk l) :=
  Crc.pad_bytes (by intro x hx; rcases List.mem_cons.1 hx with rfl | hx; omega; exact hb x hx)
theorem trefs_length (F : Int → Option Ref) (t : Nat) : ((List.range 42).flatMap fun i => refB (tref F (t * 42 + i))).length = 252 := by
  rw [List.length_flatMap]
  simp only [refB_length]
  decide
theorem refB_bytes (r : Ref) : Crc.Bytes (refB r) := by
  intro x hx
  rcases List.mem_append.1 hx with hx | hx
  · exact le_bytes _ _ x hx
  · exact le_bytes _ _ x hx
theorem tblk_length (F : Int → Option Ref) (t : Nat) : (tblk F t).length = 256 := Crc.pad_length (by rw [trefs_length]; omega)
theorem tblk_bytes (F : Int → Option Ref) (t : Nat) : Crc.Bytes (tblk F t) :=
  Crc.pad_bytes (by intro x hx; obtain ⟨i, _, hi⟩ := List.mem_flatMap.1 hx; exact refB_bytes _ x hi)

/-- has a table a page? -/
def has (F : Int → Option Ref) (t : Nat) : Bool := (List.range 42).any fun i => (F ((t * 42 + i : Nat) : Int)).isSome
theorem has_iff {F : Int → Option Ref} {t : Nat} : has F t = true ↔ ∃ p : Nat, (F (p : Int)).isSome = true ∧ p / 42 = t := by
  unfold has
  rw [List.any_eq_true]
  constructor
  · rintro ⟨i, hi, h⟩
    have := List.mem_range.1 hi
    exact ⟨t * 42 + i, h, by omega⟩
  · rintro ⟨p, h1, h2⟩
    exact ⟨p - t * 42, List.mem_range.2 (by omega), by rw [show t * 42 + (p - t * 42) = p by omega]; exact h1⟩
/-- how many pages there are -/
def cnt {α : Type} (F : Int → Option α) : Nat := (List.range 256).countP fun (p : Nat) => (F (p : Int)).isSome
/-- how many tables -/
def tcnt (T : List Ref) : Nat := T.countP fun r => decide (r.1 ≠ 0)

/-- a store: how often it was committed, its root's places, its tables, its pages, what was changed -/
structure St where
  ep : Nat
  rs : List Ref
  tabs : List Ref
  at_ : Int → Option Ref
  now : Int → Option (List Nat)
/-- how all is to lie -/
structure Lay where
  tabs : List Ref
  at_ : Int → Option Ref
  nt : List Nat
  pg : List Nat
  free : List Nat
/-- is there a page? -/
def St.there (S : St) (p : Int) : Bool := match S.now p with
  | some l => decide (0 < l.length)
  | none => decide (0 < ((S.at_ p).getD (0, 0)).1)
/-- the blocks in use, rising -/
def used (T : List Ref) (F : Int → Option Ref) (H : Nat) : List Nat := (List.range H).filter fun (a : Nat) => decide (a < 2) || T.any (fun r => decide (r.1 = (a : Int))) || (List.range 256).any fun (p : Nat) => (F (p : Int)).any fun r => decide (r.1 = (a : Int))
def frees (T : List Ref) (F : Int → Option Ref) (H : Nat) : List Nat := (List.range H).filter fun (a : Nat) => decide (2 ≤ a) && !(used T F H).contains a
/-- a page is to lie -/
def layP (N : Int → Option (List Nat)) (x : Lay) (p : Nat) : Option Lay :=
  if (N (p : Int)).getD [] = [] then some { x with at_ := upd x.at_ p none } else
  match x.free with
  | [] => none
  | f :: fs => some { x with at_ := upd x.at_ p (some ((f : Int), 0)), pg := x.pg ++ [p], free := fs }
/-- a table is to lie -/
def layT (x : Lay) (t : Nat) : Option Lay :=
  if has x.at_ t then
    match x.free with
    | [] => none
    | f :: fs => some { x with tabs := x.tabs.set t ((f : Int), 0), nt := x.nt ++ [t], free := fs }
  else some { x with tabs := x.tabs.set t (0, 0) }
def start (S : St) (H : Nat) : Lay := ⟨S.tabs, S.at_, [], [], frees S.tabs S.at_ H⟩
def laid0 (S : St) (H : Nat) (ks ts : List Nat) : Option Lay := (ks.foldlM (layP S.now) (start S H)).bind fun x => ts.foldlM layT x
def fits (x : Lay) (H : Nat) : Bool := decide (2 + cnt x.at_ + tcnt x.tabs ≤ H / 2)
/-- the pages that were changed, rising; their tables -/
def keys (N : Int → Option (List Nat)) : List Nat := (List.range 256).filter fun (p : Nat) => (N (p : Int)).isSome
def touched (ks : List Nat) : List Nat := (List.range 7).filter fun t => ks.any fun p => decide (p / 42 = t)
def laid (S : St) (H : Nat) : Option Lay := laid0 S H (keys S.now) (touched (keys S.now))
/-- the sums of what is written -/
def sumP (N : Int → Option (List Nat)) (F : Int → Option Ref) (p : Nat) : Int → Option Ref := upd F p (some ((tref F p).1, Crc.sum (pblk ((N (p : Int)).getD []))))
def sumsP (N : Int → Option (List Nat)) (F : Int → Option Ref) (pg : List Nat) : Int → Option Ref := pg.foldl (sumP N) F
def sumT (F : Int → Option Ref) (T : List Ref) (t : Nat) : List Ref := T.set t ((T.getD t (0, 0)).1, Crc.sum (tblk F t))
def sumsT (F : Int → Option Ref) (T : List Ref) (nt : List Nat) : List Ref := nt.foldl (sumT F) T
/-- what is written, in its order -/
def wrP (N : Int → Option (List Nat)) (x : Lay) : List (Nat × List Nat) := x.pg.map fun p => ((tref x.at_ p).1.toNat, pblk ((N (p : Int)).getD []))
def wrT (F : Int → Option Ref) (x : Lay) : List (Nat × List Nat) := x.nt.map fun t => ((x.tabs.getD t (0, 0)).1.toNat, tblk F t)
/-- the store behind a commit -/
def behind (S : St) (x : Lay) : St :=
  let F := sumsP S.now x.at_ x.pg
  let T := sumsT F x.tabs x.nt
  ⟨S.ep + 1, T, T, F, fun _ => none⟩
def writes (S : St) (x : Lay) : List (Nat × List Nat) := wrP S.now x ++ wrT (sumsP S.now x.at_ x.pg) x
end Go.Proofs.YtbjfgdahfpfgdaaGreatDoor.PgP

namespace Go.Proofs.YtbjfgdahfpfgdaaGreatDoor.MapsW
open Go Go.RowKit Go.Maps Go.Proofs.YtbjfgdahfpfgdaaGreatDoor.Mem
set_option linter.unusedVariables false
set_option maxRecDepth 100000

theorem NowMap.mono {w : World} {base base' b n n' k : Nat} {F : Int → Option (List Nat)} (h : NowMap w base b n F k) (hn : n ≤ n') (hb : base' ≤ base) : NowMap w base' b n' F k := by
  obtain ⟨D, h1, h2, h3⟩ := h
  refine ⟨D, h1.mono hn, h2, fun i => ?_⟩
  have := h3 i
  cases hF : F i with
  | none => rw [hF] at this; exact this
  | some l =>
    cases l with
    | nil => rw [hF] at this; exact this
    | cons x l =>
      rw [hF] at this
      obtain ⟨a, g, cap, b1, b2, b3⟩ := this
      exact ⟨a, g, cap, b1, b2, by omega⟩
theorem now_rows {w w' : World} {b g cap : Nat} {x : Nat} {l : List Nat} (hgw : w.grownBy w' (some b)) (hb : ∃ es ck, w.heap[b]? = some (.map es ck)) (hn : Nums .u8 w (some ⟨g, 0, none⟩) (l.length + 1) cap (x :: l)) : Nums .u8 w' (some ⟨g, 0, none⟩) (l.length + 1) cap (x :: l) := by
  obtain ⟨c, t, f, hc⟩ := nums_cells hn (by omega)
  refine nums_of_cells hn (hgw.block g (Array.getElem?_eq_some_iff.1 hc).1 fun e => ?_)
  obtain ⟨es, ck, hm⟩ := hb
  rw [Option.some.inj e] at hc
  rw [hm] at hc
  cases hc
/-- how an element of such a map reads -/
def NowIs (w : World) (base : Nat) (D : DataW Unit) (i : Int) : Option (List Nat) → Prop
  | none => Maps.has D (.int .i64 i) = false
  | some [] => Maps.has D (.int .i64 i) = true ∧ ∀ z, D.atKey (.int .i64 i) z = .nil
  | some (x :: l) => Maps.has D (.int .i64 i) = true ∧ ∃ g cap, (∀ z, D.atKey (.int .i64 i) z = rowd g (l.length + 1) cap) ∧ Nums .u8 w (some ⟨g, 0, none⟩) (l.length + 1) cap (x :: l) ∧ base ≤ g
theorem NowMap.of {w : World} {base b n k : Nat} {F : Int → Option (List Nat)} (D : DataW Unit) (h1 : w.ownsMap Tryz.prog 3 rowR b n D) (h2 : Maps.size D = k) (h3 : ∀ i, NowIs w base D i (F i)) : NowMap w base b n F k := by
  refine ⟨D, h1, h2, fun i => ?_⟩
  have := h3 i
  cases hF : F i with
  | none => rw [hF] at this; exact this
  | some l =>
    cases l with
    | nil => rw [hF] at this; exact this
    | cons x l => rw [hF] at this; exact this
theorem NowMap.is {w : World} {base b n k : Nat} {F : Int → Option (List Nat)} (h : NowMap w base b n F k) : ∃ D, w.ownsMap Tryz.prog 3 rowR b n D ∧ Maps.size D = k ∧ ∀ i, NowIs w base D i (F i) := by
  obtain ⟨D, h1, h2, h3⟩ := h
  refine ⟨D, h1, h2, fun i => ?_⟩
  have := h3 i
  cases hF : F i with
  | none => rw [hF] at this; exact this
  | some l =>
    cases l with
    | nil => rw [hF] at this; exact this
    | cons x l => rw [hF] at this; exact this
theorem NowIs.has {w : World} {base : Nat} {D : DataW Unit} {i : Int} {o : Option (List Nat)} (h : NowIs w base D i o) : Maps.has D (.int .i64 i) = o.isSome := by
  match o, h with
  | none, h => exact h
  | some [], h => exact h.1
  | some (x :: l), h => exact h.1
theorem NowIs.other {w w' : World} {base b : Nat} {D : DataW Unit} {i j : Int} {o : Option (List Nat)} {y : DataW Unit} (h : NowIs w base D j o) (hj : j ≠ i) (hgw : w.grownBy w' (some b)) (hb : ∃ es ck, w.heap[b]? = some (.map es ck)) : NowIs w' base (D.put (.int .i64 i) y) j o := by
  match o, h with
  | none, h => exact (has_put_other (litne hj) _).trans h
  | some [], h => exact ⟨(has_put_other (litne hj) _).trans h.1, fun z => (atKey_put_other (litne hj) _ z).trans (h.2 z)⟩
  | some (x :: l), ⟨a, g, cap, b1, b2, b3⟩ => exact ⟨(has_put_other (litne hj) _).trans a, g, cap, fun z => (atKey_put_other (litne hj) _ z).trans (b1 z), now_rows hgw hb b2, b3⟩
/-- 'm[i] = b' -/
theorem NowMap.store {w : World} {base b n k : Nat} {F : Int → Option (List Nat)} (h : NowMap w base b n F k) (hn : n < 1000000) {i : Int} (hi : Fits i) {g cap x : Nat} {l : List Nat} (hl : Nums .u8 w (some ⟨g, 0, none⟩) (l.length + 1) cap (x :: l)) (hbg : base ≤ g) :
    ∃ w', (Instr.mapUpdate 91 (.map (some b)) (.int .i64 i) (.slice (some ⟨g, 0, none⟩) (l.length + 1) cap)).run Tryz.prog w = .ok () w' ∧ NowMap w' base b (n + 1) (upd F i (some (x :: l))) (if (F i).isSome then k else k + 1) ∧ w.grownBy w' (some b) := by
  have hb := h.block
  obtain ⟨D, h1, h2, h3⟩ := h.is
  obtain ⟨w', hr, ho, hgw⟩ := h1.update law Tryz.underlying91 (by unfold maxLen; omega) (key hi) (rowR_mk g (l.length + 1) cap)
  have hT := h1.tidy law
  refine ⟨w', hr, NowMap.of _ ho ?_ fun j => ?_, hgw⟩
  · rw [size_put hT, h2, (h3 i).has]
  · by_cases hj : j = i
    · subst hj
      rw [upd_same]
      exact ⟨has_put_same hT.isMap (islit j) _, g, cap, fun z => atKey_put_same hT.isMap (islit j) _ z, now_rows hgw hb hl, hbg⟩
    · rw [upd_other _ _ hj]
      exact (h3 j).other hj hgw hb
/-- 'm[i] = nil' -/
theorem NowMap.storeNil {w : World} {base b n k : Nat} {F : Int → Option (List Nat)} (h : NowMap w base b n F k) (hn : n < 1000000) {i : Int} (hi : Fits i) :
    ∃ w', (Instr.mapUpdate 91 (.map (some b)) (.int .i64 i) (.slice none 0 0)).run Tryz.prog w = .ok () w' ∧ NowMap w' base b (n + 1) (upd F i (some [])) (if (F i).isSome then k else k + 1) ∧ w.grownBy w' (some b) := by
  have hb := h.block
  obtain ⟨D, h1, h2, h3⟩ := h.is
  obtain ⟨w', hr, ho, hgw⟩ := h1.update law Tryz.underlying91 (by unfold maxLen; omega) (key hi) (show rowR (.slice none 0 0) = some (.nil, []) from rfl)
  have hT := h1.tidy law
  refine ⟨w', hr, NowMap.of _ ho ?_ fun j => ?_, hgw⟩
  · rw [size_put hT, h2, (h3 i).has]
  · by_cases hj : j = i
    · subst hj
      rw [upd_same]
      exact ⟨has_put_same hT.isMap (islit j) _, fun z => atKey_put_same hT.isMap (islit j) _ z⟩
    · rw [upd_other _ _ hj]
      exact (h3 j).other hj hgw hb
/-- 'm[i]' -/
theorem NowMap.look_none {w : World} {base b n k : Nat} {F : Int → Option (List Nat)} (h : NowMap w base b n F k) {i : Int} (hi : Fits i) (hF : (F i).getD [] = []) :
    (Instr.lookup 91 (.map (some b)) (.int .i64 i) false).run Tryz.prog w = .ok (.slice none 0 0) w := by
  obtain ⟨D, h1, _, h3⟩ := h.is
  have := h3 i
  obtain ⟨v, ps, hr, hv⟩ := h1.lookup law Tryz.underlying91 (zeroRow w) (zd := .nil) (zp := []) rfl (key hi)
  have e : D.atKey (.int .i64 i) .nil = .nil := by
    cases hF' : F i with
    | none => rw [hF'] at this; exact atKey_of_not_has this _
    | some l =>
      rw [hF'] at this hF
      obtain rfl : l = [] := hF
      exact this.2 _
  rw [e] at hv
  rw [rowR_nil hv] at hr
  exact hr
theorem NowMap.look_some {w : World} {base b n k : Nat} {F : Int → Option (List Nat)} (h : NowMap w base b n F k) {i : Int} (hi : Fits i) {x : Nat} {l : List Nat} (hF : F i = some (x :: l)) :
    ∃ g cap, (Instr.lookup 91 (.map (some b)) (.int .i64 i) false).run Tryz.prog w = .ok (.slice (some ⟨g, 0, none⟩) (l.length + 1) cap) w ∧ Nums .u8 w (some ⟨g, 0, none⟩) (l.length + 1) cap (x :: l) ∧ base ≤ g := by
  obtain ⟨D, h1, _, h3⟩ := h.is
  have := h3 i
  rw [hF] at this
  obtain ⟨a, g, cap, b1, b2, b3⟩ := this
  obtain ⟨v, ps, hr, hv⟩ := h1.lookup law Tryz.underlying91 (zeroRow w) (zd := .nil) (zp := []) rfl (key hi)
  rw [b1] at hv
  rw [rowR_row hv] at hr
  exact ⟨g, cap, hr, b2, b3⟩
theorem NowMap.len {w : World} {base b n k : Nat} {F : Int → Option (List Nat)} (h : NowMap w base b n F k) : ∃ D : DataW Unit, w.ownsMap Tryz.prog 3 rowR b n D ∧ Maps.size D = k := by
  obtain ⟨D, h1, h2, _⟩ := h
  exact ⟨D, h1, h2⟩
/-- the keys of a map -/
theorem ikeys_is {H : Type} {w : World} {b n : Nat} {D : DataW H} {R : Value → Option (DataW H × List MemPlace)} (h : w.ownsMap Tryz.prog 3 R b n D) : (intKeys D).Nodup ∧ (intKeys D).length = Maps.size D ∧ ∀ x, x ∈ intKeys D ↔ Maps.has D (.int .i64 x) = true := by
  obtain ⟨es, rfl, hpw⟩ := h.tidy law
  obtain ⟨es', hD', hko⟩ := h.keysOf
  obtain rfl : es = es' := by simpa using hD'
  have hk : ∀ p ∈ es, ∃ x, p.1 = .int .i64 x := fun p hp => by
    obtain ⟨v, hv⟩ := hko p hp
    obtain ⟨x, _, hx, _⟩ := Maps.keyOf_i64 Tryz.underlying3 hv
    exact ⟨x, hx⟩
  refine ⟨?_, by simp [intKeys, Maps.size], fun x => ?_⟩
  · show (es.map fun p => Go.intOf p.1).Nodup
    refine List.pairwise_map.2 (hpw.imp_of_mem fun {p q} hp' hq' hne e => hne ?_)
    obtain ⟨a, ha⟩ := hk p hp'
    obtain ⟨b, hb⟩ := hk q hq'
    rw [ha, hb] at e ⊢
    exact congrArg _ e
  · rw [has_eq, List.any_eq_true]
    show x ∈ es.map (fun p => Go.intOf p.1) ↔ _
    rw [List.mem_map]
    constructor
    · rintro ⟨p, hp', rfl⟩
      obtain ⟨a, ha⟩ := hk p hp'
      exact ⟨p, hp', by rw [ha]; simp [Lit.sameKey, Go.intOf]⟩
    · rintro ⟨p, hp', hs⟩
      obtain ⟨a, ha⟩ := hk p hp'
      rw [ha] at hs
      exact ⟨p, hp', by rw [ha]; simpa [Lit.sameKey, Go.intOf] using hs⟩
theorem cnt_of {α : Type} {F : Int → Option α} (hd : ∀ i, (F i).isSome = true → 0 ≤ i ∧ i < 256) {l : List Int} (hn : l.Nodup) (hm : ∀ i, i ∈ l ↔ (F i).isSome = true) : l.length = PgP.cnt F := by
  have hp : l.Perm (((List.range 256).filter fun (p : Nat) => (F (p : Int)).isSome).map fun (p : Nat) => (p : Int)) := by
    refine (List.perm_ext_iff_of_nodup hn ?_).2 fun i => ?_
    · exact List.pairwise_map.2 ((List.nodup_range.filter _).imp fun {a b} h e => h (Int.natCast_inj.1 e))
    · rw [hm, List.mem_map]
      constructor
      · intro h
        obtain ⟨h1, h2⟩ := hd i h
        exact ⟨i.toNat, List.mem_filter.2 ⟨List.mem_range.2 (by omega), by rw [show ((i.toNat : Nat) : Int) = i by omega]; exact h⟩, by omega⟩
      · rintro ⟨p, hp, rfl⟩
        exact (List.mem_filter.1 hp).2
  rw [hp.length_eq, List.length_map]
  unfold PgP.cnt
  rw [List.countP_eq_length_filter]
theorem NowMap.cnt {w : World} {base b n k : Nat} {F : Int → Option (List Nat)} (h : NowMap w base b n F k) (hd : ∀ i, (F i).isSome = true → 0 ≤ i ∧ i < 256) : k = PgP.cnt F := by
  obtain ⟨D, h1, h2, h3⟩ := h.is
  obtain ⟨k1, k2, k3⟩ := ikeys_is h1
  rw [← h2, ← k2]
  exact cnt_of hd k1 fun i => by rw [k3, (h3 i).has]
theorem RefMap.has {w : World} {b n k : Nat} {F : Int → Option (Int × Nat)} {D : DataW Unit} (h3 : ∀ i, match F i with
      | none => Maps.has D (.int .i64 i) = false
      | some r => Maps.has D (.int .i64 i) = true ∧ ∀ z, D.atKey (.int .i64 i) z = refd r.1 (r.2 : Int)) (i : Int) : Maps.has D (.int .i64 i) = (F i).isSome := by
  have := h3 i
  cases hF : F i with
  | none => rw [hF] at this; exact this
  | some r => rw [hF] at this; exact this.1
theorem RefMap.cnt {w : World} {b n k : Nat} {F : Int → Option (Int × Nat)} (h : RefMap w b n F k) (hd : ∀ i, (F i).isSome = true → 0 ≤ i ∧ i < 256) : k = PgP.cnt F := by
  obtain ⟨D, h1, h2, h3⟩ := h
  obtain ⟨k1, k2, k3⟩ := ikeys_is h1
  rw [← h2, ← k2]
  exact cnt_of hd k1 fun i => by rw [k3, RefMap.has (w := w) (b := b) (n := n) (k := k) h3]
/-- 'm[i] = r' -/
theorem RefMap.store {w : World} {b n k : Nat} {F : Int → Option (Int × Nat)} (h : RefMap w b n F k) (hn : n < 1000000) {i : Int} (hi : Fits i) (r : Int × Nat) :
    ∃ w', (Instr.mapUpdate 90 (.map (some b)) (.int .i64 i) (refV r)).run Tryz.prog w = .ok () w' ∧ RefMap w' b (n + 1) (upd F i (some r)) (if (F i).isSome then k else k + 1) ∧ w.grownBy w' (some b) := by
  obtain ⟨D, h1, h2, h3⟩ := h
  have hh := RefMap.has (w := w) (b := b) (n := n) (k := k) h3
  obtain ⟨w', hr, ho, hgw⟩ := h1.update law Tryz.underlying90 (by unfold maxLen; omega) (key hi) (refR_mk r)
  have hT := h1.tidy law
  refine ⟨w', hr, ⟨_, ho, ?_, fun j => ?_⟩, hgw⟩
  · rw [size_put hT, h2, hh]
  · by_cases hj : j = i
    · subst hj
      rw [upd_same]
      exact ⟨has_put_same hT.isMap (islit j) _, fun z => atKey_put_same hT.isMap (islit j) _ z⟩
    · rw [upd_other _ _ hj]
      have := h3 j
      cases hF : F j with
      | none => rw [hF] at this; exact (has_put_other (litne hj) _).trans this
      | some l' =>
        rw [hF] at this
        exact ⟨(has_put_other (litne hj) _).trans this.1, fun z => (atKey_put_other (litne hj) _ z).trans (this.2 z)⟩
theorem wpList_delRef (w : World) {ops : Array Oper} {rest : List Oper} {o : Oper} {a : Act} {Q : Exit → Act → World → Prop} (hg : o.guard = none) (m x : Operand) (hop : o.op = Op.call { callee := Callee.builtin Builtin.delete, args := #[m, x], argTypes := #[90, 3] })
    {b n k : Nat} {F : Int → Option (Int × Nat)} (h : RefMap w b n F k) {i : Int} (hi : Fits i)
    (hm : a.eval m = .map (some b)) (hx : a.eval x = .int .i64 i)
    (hK : ∀ w', RefMap w' b n (upd F i none) (if (F i).isSome then k - 1 else k) → w.grownBy w' (some b) → wpList Tryz.prog ops Q rest (a.put o.dst (.tuple #[])) w') : wpList Tryz.prog ops Q (o :: rest) a w := by
  obtain ⟨D, h1, h2, h3⟩ := h
  have hh := RefMap.has (w := w) (b := b) (n := n) (k := k) h3
  refine wpList_delete_own w hg m x _ _ hop 111 law Tryz.underlying90 _ b n D hm h1 _ _ hx (key hi) fun w' ho hgw => ?_
  refine hK w' ⟨_, ho, ?_, fun j => ?_⟩ hgw.grown
  · have hs := size_del (k := .int .i64 i) (h1.tidy law)
    rw [h2, hh] at hs
    cases hF : (F i).isSome with
    | false => rw [hF] at hs; simpa using hs
    | true => rw [hF] at hs; simp at hs ⊢; omega
  · by_cases hj : j = i
    · subst hj
      rw [upd_same]
      exact has_del_same
    · rw [upd_other _ _ hj]
      have := h3 j
      cases hF : F j with
      | none => rw [hF] at this; exact (has_del_other (litne hj)).trans this
      | some l' =>
        rw [hF] at this
        exact ⟨(has_del_other (litne hj)).trans this.1, fun z => (atKey_del_other (litne hj) z).trans (this.2 z)⟩
end Go.Proofs.YtbjfgdahfpfgdaaGreatDoor.MapsW

namespace Go.Proofs.YtbjfgdahfpfgdaaGreatDoor.RefsW
open Go Go.RowKit Go.Proofs.YtbjfgdahfpfgdaaGreatDoor.Mem
set_option linter.unusedVariables false
set_option maxRecDepth 100000

def refCells : List (Int × Nat) → List Value
  | [] => []
  | r :: rs => .int .i64 r.1 :: .int .u32 (r.2 : Int) :: refCells rs
theorem refCells_length (rs : List (Int × Nat)) : (refCells rs).length = rs.length * 2 := by
  induction rs with
  | nil => rfl
  | cons r rs ih => simp only [refCells, List.length_cons, ih]; omega
theorem refCells_append (rs qs : List (Int × Nat)) : refCells (rs ++ qs) = refCells rs ++ refCells qs := by
  induction rs with
  | nil => rfl
  | cons r rs ih => simp only [List.cons_append, refCells, ih]
theorem refCells_get (rs : List (Int × Nat)) (j : Nat) (h : j < rs.length) : (refCells rs)[j * 2]? = some (.int .i64 rs[j].1) ∧ (refCells rs)[j * 2 + 1]? = some (.int .u32 (rs[j].2 : Int)) := by
  induction rs generalizing j with
  | nil => simp at h
  | cons r rs ih =>
    cases j with
    | zero => exact ⟨rfl, rfl⟩
    | succ j =>
      have := ih j (by simpa using h)
      rw [Nat.succ_mul]
      exact this
theorem refCells_one (rs : List (Int × Nat)) : ∀ u ∈ refCells rs, u.oneCell' = true := by
  induction rs with
  | nil => simp [refCells]
  | cons r rs ih =>
    intro u hu
    simp only [refCells, List.mem_cons] at hu
    rcases hu with rfl | rfl | hu
    · rfl
    · rfl
    · exact ih u hu
/-- a slice of places -/
def Refs (w : World) (a : Option Addr) (n cap : Nat) (rs : List (Int × Nat)) : Prop := Row w 2 a n cap (refCells rs)
theorem Refs.below {w w' : World} {a : Option Addr} {n cap : Nat} {rs : List (Int × Nat)} (h : Refs w a n cap rs) (hb : Below w.heap.size w w') : Refs w' a n cap rs := Row.below h hb
theorem Refs.len {w : World} {a : Option Addr} {n cap : Nat} {rs : List (Int × Nat)} (h : Refs w a n cap rs) : rs.length = n := by
  have := h.1; rw [refCells_length] at this; omega
theorem Refs.bound {w : World} {a : Option Addr} {n cap : Nat} {rs : List (Int × Nat)} (h : Refs w a n cap rs) : n ≤ cap ∧ cap ≤ 9223372036854775807 := by
  have := h.2.2.1; unfold maxLen at this; exact ⟨h.2.1, by omega⟩
theorem Refs.at {w : World} {a : Option Addr} {n cap : Nat} {rs : List (Int × Nat)} (h : Refs w a n cap rs) {j : Nat} (hj : j < rs.length) :
    ∃ b off, a = some ⟨b, off, none⟩ ∧ w.cell? ⟨b, off + j * 2, none⟩ = some (.int .i64 rs[j].1) ∧ w.cell? ⟨b, off + j * 2 + 1, none⟩ = some (.int .u32 (rs[j].2 : Int)) := by
  obtain ⟨g1, g2⟩ := refCells_get rs j hj
  obtain ⟨b, o, rfl, h1⟩ := h.2.2.2.2 _ _ g1
  obtain ⟨b', o', e, h2⟩ := h.2.2.2.2 _ _ g2
  cases e
  exact ⟨b, o, rfl, h1, h2⟩
theorem Refs.nil (w : World) : Refs w none 0 0 [] := ⟨rfl, Nat.le_refl _, Nat.zero_le _, fun _ => rfl, fun j u h => by simp [refCells] at h⟩
theorem elRef : El Tryz.prog 87 111 (.agg #[.int .i64 0, .int .u32 0]) 2 16 := ⟨Tryz.underlying87, by kernel_rfl, rfl, by decide⟩
abbrev OwnRefs (w : World) (base : Nat) (v : Value) (n : Nat) (rs : List (Int × Nat)) : Prop := w.ownsRow base 111 2 v n (refCells rs)
theorem refs_of {w : World} {base : Nat} {v : Value} {n : Nat} {rs : List (Int × Nat)} (h : OwnRefs w base v n rs) : ∃ a cap, v = .slice a n cap ∧ Refs w a n cap rs := ownsRow_slice h
end Go.Proofs.YtbjfgdahfpfgdaaGreatDoor.RefsW

namespace Go.Proofs.YtbjfgdahfpfgdaaGreatDoor.MapsW
open Go Go.RowKit Go.Maps Go.Proofs.YtbjfgdahfpfgdaaGreatDoor.Mem
set_option linter.unusedVariables false
set_option maxRecDepth 100000

/-- block b of w is a map of bools: true at each of its keys, k of them -/
def SetMap (w : World) (b n : Nat) (F : Int → Bool) (k : Nat) : Prop :=
  ∃ D : DataW Unit, w.ownsMap Tryz.prog 3 (plainElem Tryz.prog 4) b n D ∧ Maps.size D = k ∧ ∀ i, D.atKey (.int .i64 i) (.lit (.bool false)) = .lit (.bool (F i)) ∧ Maps.has D (.int .i64 i) = F i
theorem SetMap.bool {w : World} {b n k : Nat} {F : Int → Bool} (h : SetMap w b n F k) : BoolMap w b n F := by
  obtain ⟨D, h1, _, h2⟩ := h
  exact ⟨D, h1, fun i => (h2 i).1⟩
theorem SetMap.mono {w : World} {b n n' k : Nat} {F : Int → Bool} (h : SetMap w b n F k) (hn : n ≤ n') : SetMap w b n' F k := by
  obtain ⟨D, h1, h2⟩ := h
  exact ⟨D, h1.mono hn, h2⟩
theorem SetMap.block {w : World} {b n k : Nat} {F : Int → Bool} (h : SetMap w b n F k) : ∃ es ck, w.heap[b]? = some (.map es ck) := h.bool.block
theorem SetMap.still {w w' : World} {b n k : Nat} {F : Int → Bool} (h : SetMap w b n F k) (e : w'.heap[b]? = w.heap[b]?) : SetMap w' b n F k := by
  obtain ⟨D, h1, h2⟩ := h
  exact ⟨D, ownsMap_of h1 e, h2⟩
theorem SetMap.made (w : World) : SetMap (w.alloc (.map #[] 0)) w.heap.size 0 (fun _ => false) 0 :=
  ⟨.map [], World.ownsMap_made _ _ _ _, rfl, fun i => ⟨rfl, rfl⟩⟩
theorem wpList_putSet (w : World) {ops : Array Oper} {rest : List Oper} {o : Oper} {a : Act} {Q : Exit → Act → World → Prop} (hg : o.guard = none) (m x v : Operand) (hop : o.op = Op.mapUpdate 115 m x v)
    {b n k : Nat} {F : Int → Bool} (h : SetMap w b n F k) (hn : n < 1000000) {i : Int} (hi : Fits i)
    (hm : a.eval m = .map (some b)) (hx : a.eval x = .int .i64 i) (hv : a.eval v = .bool true)
    (hK : ∀ w', SetMap w' b (n + 1) (upd F i true) (if F i then k else k + 1) → w.grownBy w' (some b) → wpList Tryz.prog ops Q rest (a.put o.dst undef) w') : wpList Tryz.prog ops Q (o :: rest) a w := by
  obtain ⟨D, h1, h3, h2⟩ := h
  refine wpList_mapUpdate_own w hg m x v _ hop 3 4 law Tryz.underlying115 _ b n D hm h1 (by unfold maxLen; omega) _ _ _ hx hv (key hi) _ [] (plainElem_bool Tryz.underlying4 true) fun w' ho hgw => ?_
  refine hK w' ⟨_, ho, ?_, fun j => ?_⟩ hgw
  · rw [size_put (h1.tidy law), (h2 i).2, h3]
  · by_cases hj : j = i
    · subst hj
      rw [upd_same, atKey_put_same (h1.tidy law).isMap (islit j)]
      exact ⟨rfl, has_put_same (h1.tidy law).isMap (islit j) _⟩
    · rw [upd_other _ _ hj, atKey_put_other (litne hj), (h2 j).1]
      exact ⟨rfl, (has_put_other (litne hj) _).trans (h2 j).2⟩
theorem SetMap.len {w : World} {b n k : Nat} {F : Int → Bool} (h : SetMap w b n F k) : ∃ D : DataW Unit, w.ownsMap Tryz.prog 3 (plainElem Tryz.prog 4) b n D ∧ Maps.size D = k := by
  obtain ⟨D, h1, h2, _⟩ := h
  exact ⟨D, h1, h2⟩
end Go.Proofs.YtbjfgdahfpfgdaaGreatDoor.MapsW

namespace Go.Proofs.YtbjfgdahfpfgdaaGreatDoor.Err
open Go Go.RowKit Go.ChangeShapes
set_option maxRecDepth 100000

abbrev tp : TypeId := 247
/-- the variable at g holds the error at a -/
def At (w : World) (g : Nat) (a : Addr) : Prop := w.cell? ⟨g, 0, none⟩ = some (.iface tp (.pointer (some a))) ∧ ∃ c t, w.heap[a.block]? = some (.cells c t (0, 0))
theorem At.lt {w : World} {g : Nat} {a : Addr} (h : At w g a) : a.block < w.heap.size := by
  obtain ⟨_, c, t, h2⟩ := h
  rcases Nat.lt_or_ge a.block w.heap.size with h | h
  · exact h
  · rw [Array.getElem?_eq_none h] at h2; cases h2
theorem At.below {w w' : World} {g : Nat} {a : Addr} (h : At w g a) (hb : Below w.heap.size w w') : At w' g a := by
  have hl := h.lt
  obtain ⟨h1, c, t, h2⟩ := h
  refine ⟨?_, c, t, ?_⟩
  · have := World.block_lt_of_cell? w ⟨g, 0, none⟩ h1
    rw [hb.cell (p := ⟨g, 0, none⟩) this]
    exact h1
  · rw [hb.block _ hl]; exact h2

theorem star : "*" ++ "errors.errorString" = "*errors.errorString" := by decide
theorem hrow (u : TypeId) (h : Tryz.prog.typeName? 3 u = some "*errors.errorString") : u = tp :=
  typeName_ptr_named (P := Tryz.prog) (nm := "errors.errorString") (by rw [star]; kernel_rfl) (by kernel_rfl) (by decide) u (by rw [star]; exact h)

/-- each of the variables gl holds an error of its own -/
def All (w : World) (gl : List Nat) : Prop := ∃ bs : List Addr, bs.length = gl.length ∧ bs.Nodup ∧ ∀ (i g : Nat), gl[i]? = some g → ∃ a, bs[i]? = some a ∧ At w g a
theorem All.at {w : World} {gl : List Nat} (h : All w gl) (i g : Nat) (hi : gl[i]? = some g) : ∃ a, At w g a := by
  obtain ⟨bs, _, _, h3⟩ := h
  obtain ⟨a, _, ha⟩ := h3 i g hi
  exact ⟨a, ha⟩
theorem All.below {w w' : World} {gl : List Nat} (h : All w gl) (hb : Below w.heap.size w w') : All w' gl := by
  obtain ⟨bs, h1, h2, h3⟩ := h
  exact ⟨bs, h1, h2, fun i g hi => let ⟨a, ha, hA⟩ := h3 i g hi; ⟨a, ha, hA.below hb⟩⟩
end Go.Proofs.YtbjfgdahfpfgdaaGreatDoor.Err
