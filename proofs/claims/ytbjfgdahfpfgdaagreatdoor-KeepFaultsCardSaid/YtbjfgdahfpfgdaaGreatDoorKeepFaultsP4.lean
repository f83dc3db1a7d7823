/- Plain facts about the sum: bytes turned, four in a row or fewer, are told. No program stands here; Plain facts about roots: a root's bytes, the root of bytes; The walks of package root: a root's bytes; Slices of places and their sums ([]api.Ref); The walks of package root: what is amiss with a root; slices.Grow of nothing, slices.Concat of two slices: bytes, ints. -/
import Derived.Test.YtbjfgdahfpfgdaaGreatDoorKeepFaultsP3
import Derived.Test.YtbjfgdahfpfgdaaGreatDoorKeepFaultsP1
import Derived.Test.YtbjfgdahfpfgdaaGreatDoorKeepFaultsP2
import Derived.Deep.RegionHeld3
import Derived.BigQuiet
import Derived.Lib.AppendZeros
namespace Go.Proofs.YtbjfgdahfpfgdaaGreatDoor.Crc

/-- bytes as one word, the first the lowest -/
def val : List Nat → Nat
  | [] => 0
  | c :: l => c ^^^ (val l * 256)
theorem run_val (l : List Nat) : ∀ s, run s l = bits (8 * l.length) (s ^^^ val l) := by
  induction l with
  | nil => intro s; simp [run, val, bits]
  | cons c l ih =>
    intro s
    have h1 : val l = step (val l * 256) := by rw [step_def]; exact (bits_high 8 (val l)).symm
    have hr : run s (c :: l) = run (step (s ^^^ c)) l := by rw [run]
    have hv : val (c :: l) = c ^^^ val l * 256 := by rw [val]
    have h2 : step (s ^^^ c) ^^^ val l = bits 8 (s ^^^ val (c :: l)) := by
      rw [hv, ← step_def, ← Nat.xor_assoc, step_xor (s ^^^ c), ← h1]
    have hl : 8 * (c :: l).length = 8 + 8 * l.length := by simp only [List.length_cons]; omega
    rw [hr, ih, h2, hl, bits_add]
theorem val_lt (l : List Nat) (h : Bytes l) : val l < 2 ^ (8 * l.length) := by
  induction l with
  | nil => simp [val]
  | cons c l ih =>
    have h1 := ih h.tail
    have hc := h.head
    have e : 8 * (c :: l).length = 8 * l.length + 8 := by simp; omega
    rw [e]
    refine Nat.xor_lt_two_pow ?_ ?_
    · exact Nat.lt_of_lt_of_le hc (Nat.pow_le_pow_right (n := 2) (i := 8) (by decide) (by omega))
    · rw [Nat.pow_add]
      exact Nat.mul_lt_mul_of_pos_right h1 (by decide)
theorem val_zero (l : List Nat) (h : Bytes l) (hv : val l = 0) : ∀ x ∈ l, x = 0 := by
  induction l with
  | nil => simp
  | cons c l ih =>
    have hc := h.head
    have h1 : c = val l * 256 := by
      have := congrArg (· ^^^ (val l * 256)) hv
      simpa [val, Nat.xor_assoc] using this
    have h2 : val l = 0 := by omega
    intro x hx
    rcases List.mem_cons.1 hx with rfl | hx
    · omega
    · exact ih h.tail h2 x hx
theorem turn_bytes : ∀ (a b : List Nat), Bytes a → Bytes b → Bytes (turn a b)
  | [], _, _, _ => by simp [turn, Bytes]
  | _ :: _, [], _, _ => by simp [turn, Bytes]
  | x :: a, y :: b, ha, hb => by
    intro z hz
    rcases List.mem_cons.1 hz with rfl | hz
    · exact xor_byte ha.head hb.head
    · exact turn_bytes a b ha.tail hb.tail z hz
theorem turn_length : ∀ (a b : List Nat), a.length = b.length → (turn a b).length = a.length
  | [], _, _ => by simp [turn]
  | _ :: _, [], h => by simp at h
  | _ :: a, _ :: b, h => by simp [turn, turn_length a b (by simpa using h)]
theorem turn_zero : ∀ (a b : List Nat), a.length = b.length → (∀ x ∈ turn a b, x = 0) → a = b
  | [], b, h, _ => by cases b; rfl; simp at h
  | x :: a, [], h, _ => by simp at h
  | x :: a, y :: b, h, hz => by
    have h1 : x ^^^ y = 0 := hz _ (by simp [turn])
    have h2 : x = y := by
      have := congrArg (· ^^^ y) h1
      simpa [Nat.xor_assoc] using this
    rw [h2, turn_zero a b (by simpa using h) (fun z hz' => hz z (by simp [turn, hz']))]
/-- four bytes or fewer -/
theorem run_four {a b : List Nat} (ha : Bytes a) (hb : Bytes b) (hl : a.length = b.length) (h4 : a.length ≤ 4) {s : Nat} (h : run s a = run s b) : a = b := by
  have h1 : run 0 (turn a b) = 0 := by
    have := run_xor a b s s hl
    rw [h, Nat.xor_self, Nat.xor_self] at this
    exact this.symm
  rw [run_val, Nat.zero_xor] at h1
  have ht := turn_bytes a b ha hb
  have hv := val_lt _ ht
  rw [turn_length a b hl] at hv
  have hW : val (turn a b) < W := Nat.lt_of_lt_of_le hv (Nat.pow_le_pow_right (n := 2) (j := 32) (by decide) (by omega))
  exact turn_zero a b hl (val_zero _ ht (bits_eq_zero _ hW h1))
theorem Bytes_append {a b : List Nat} (h : Bytes (a ++ b)) : Bytes a ∧ Bytes b := ⟨fun x hx => h x (by simp [hx]), fun x hx => h x (by simp [hx])⟩
theorem sum_four {a m m' b : List Nat} (h : Bytes (a ++ (m ++ b))) (h' : Bytes (a ++ (m' ++ b))) (hl : m.length = m'.length) (h4 : m.length ≤ 4)
    (hs : sum (a ++ (m ++ b)) = sum (a ++ (m' ++ b))) : m = m' := by
  have h1 := sum_inj hs
  rw [run_append, run_append, run_append, run_append] at h1
  have ha := (Bytes_append h).1
  have hm := (Bytes_append (Bytes_append h).2).1
  have hb := (Bytes_append (Bytes_append h).2).2
  have hm' := (Bytes_append (Bytes_append h').2).1
  have hr := run_lt a (s := W - 1) top_lt ha
  exact run_four hm hm' hl h4 (run_inj b (run_lt m hr hm) (run_lt m' hr hm') hb h1)

/-- which bytes were turned -/
theorem turnK_get (l : List Nat) (p t k : Nat) : ∀ j, (turnK l (p : Int) t k)[j]? = (l[j]?).map fun c => if p ≤ j ∧ j < p + k then c ^^^ byteOf t (j - p) else c := by
  induction k with
  | zero => intro j; simp only [turnK]; cases l[j]? with
    | none => rfl
    | some c => simp only [Option.map_some]; rw [if_neg (by omega)]
  | succ k ih =>
    intro j
    show (turn1 (turnK l p t k) p t k)[j]? = _
    unfold turn1
    rw [turnK_length]
    by_cases hin : p + k < l.length
    · rw [if_pos (by omega)]
      simp only [Int.toNat_natCast]
      rw [List.getElem?_set, turnK_length, List.getD_eq_getElem?_getD, ih (p + k), List.getElem?_eq_getElem hin]
      by_cases e : p + k = j
      · subst e
        rw [if_pos rfl, if_pos hin]
        rw [List.getElem?_eq_getElem hin]
        simp only [Option.map_some, Option.getD_some]
        rw [if_neg (by omega), if_pos (by omega)]
        rw [Nat.add_sub_cancel_left]
      · rw [if_neg e, ih j]
        cases l[j]? with
        | none => rfl
        | some c =>
          simp only [Option.map_some]
          by_cases h2 : p ≤ j ∧ j < p + k
          · rw [if_pos h2, if_pos (by omega)]
          · rw [if_neg h2, if_neg (by omega)]
    · rw [if_neg (by omega), ih j]
      by_cases hj : j < l.length
      · rw [List.getElem?_eq_getElem hj]
        simp only [Option.map_some]
        by_cases h2 : p ≤ j ∧ j < p + k
        · rw [if_pos h2, if_pos (by omega)]
        · rw [if_neg h2, if_neg (by omega)]
      · rw [List.getElem?_eq_none (by omega)]; rfl
theorem turned_neg (l : List Nat) {at_ : Int} (t : Nat) (h : at_ < 0) : ∀ k, turnK l at_ t k = l
  | 0 => rfl
  | k + 1 => by rw [turnK, turned_neg l t h k]; unfold turn1; rw [if_neg (by omega)]
theorem turned_length (l : List Nat) (at_ : Int) (t : Nat) : (turned l at_ t).length = l.length := turnK_length l at_ t 4
theorem turned_bytes {l : List Nat} (h : Bytes l) (at_ : Int) (t : Nat) : Bytes (turned l at_ t) := turnK_bytes h at_ t 4
theorem parts (l : List Nat) (p : Nat) : l = l.take p ++ ((l.drop p).take 4 ++ l.drop (p + 4)) := by
  have h1 : (l.drop p).take 4 ++ (l.drop p).drop 4 = l.drop p := List.take_append_drop 4 _
  rw [List.drop_drop] at h1
  rw [h1, List.take_append_drop]
/-- turned bytes have another sum, but where nothing was turned -/
theorem turned_sum {l : List Nat} (hb : Bytes l) (at_ : Int) (t : Nat) : (sum (turned l at_ t) = sum l) ↔ l = turned l at_ t := by
  constructor
  · intro h
    by_cases hn : at_ < 0
    · unfold turned; rw [turned_neg _ _ hn]
    · obtain ⟨p, rfl⟩ := Int.eq_ofNat_of_zero_le (a := at_) (by omega)
      have hb' := turned_bytes hb (p : Int) t
      have hlen := turned_length l (p : Int) t
      have hget : ∀ j, (turned l (p : Int) t)[j]? = _ := turnK_get l p t 4
      generalize hm : turned l (p : Int) t = m at *
      have e1 : m.take p = l.take p := by
        apply List.ext_getElem?
        intro j
        rw [List.getElem?_take, List.getElem?_take]
        by_cases hj : j < p
        · rw [if_pos hj, if_pos hj, hget j]
          cases l[j]? with
          | none => rfl
          | some c => simp only [Option.map_some]; rw [if_neg (by omega)]
        · rw [if_neg hj, if_neg hj]
      have e2 : m.drop (p + 4) = l.drop (p + 4) := by
        apply List.ext_getElem?
        intro j
        rw [List.getElem?_drop, List.getElem?_drop, hget]
        cases l[p + 4 + j]? with
        | none => rfl
        | some c => simp only [Option.map_some]; rw [if_neg (by omega)]
      have pm := parts m p
      have pl := parts l p
      rw [e1, e2] at pm
      have hs : sum (l.take p ++ ((l.drop p).take 4 ++ l.drop (p + 4))) = sum (l.take p ++ ((m.drop p).take 4 ++ l.drop (p + 4))) := by
        rw [← pm, ← pl]; exact h.symm
      have e3 := sum_four (by rw [← pl]; exact hb) (by rw [← pm]; exact hb') (by simp [hlen]) (by simp; omega) hs
      rw [pm, ← e3, ← pl]
  · intro h; rw [← h]

end Go.Proofs.YtbjfgdahfpfgdaaGreatDoor.Crc

namespace Go.Proofs.YtbjfgdahfpfgdaaGreatDoor.RootP
open Go
set_option linter.unusedVariables false

/-- a root: its epoch, its places and their sums -/
structure Rt where
  ep : Int
  rs : List (Int × Nat)
deriving DecidableEq

/-- k bytes of a number, the lowest first -/
def le : Nat → Nat → List Nat
  | 0, _ => []
  | k + 1, n => (n % 256) :: le k (n / 256)
/-- the number of bytes -/
def un : List Nat → Nat
  | [] => 0
  | b :: l => b + 256 * un l
theorem le_length (k n : Nat) : (le k n).length = k := by
  induction k generalizing n with
  | zero => rfl
  | succ k ih => simp [le, ih]
theorem le_get (k n i : Nat) (h : i < k) : (le k n)[i]? = some (n / 256 ^ i % 256) := by
  induction k generalizing n i with
  | zero => omega
  | succ k ih =>
    cases i with
    | zero => simp [le]
    | succ i =>
      show (le k (n / 256))[i]? = _
      rw [ih _ _ (by omega), Nat.div_div_eq_div_mul, Nat.pow_succ, Nat.mul_comm]
theorem le_bytes (k n : Nat) : ∀ x ∈ le k n, x < 256 := by
  induction k generalizing n with
  | zero => simp [le]
  | succ k ih =>
    intro x hx
    simp only [le, List.mem_cons] at hx
    rcases hx with rfl | hx
    · exact Nat.mod_lt _ (by decide)
    · exact ih _ x hx
theorem un_le (k n : Nat) (h : n < 256 ^ k) : un (le k n) = n := by
  induction k generalizing n with
  | zero => simp at h; simp [le, un]; omega
  | succ k ih =>
    have : n / 256 < 256 ^ k := by rw [Nat.pow_succ] at h; omega
    simp only [le, un, ih _ this]
    omega
theorem un_lt (l : List Nat) (h : ∀ x ∈ l, x < 256) : un l < 256 ^ l.length := by
  induction l with
  | nil => simp [un]
  | cons b l ih =>
    have h1 := h b (by simp)
    have h2 := ih fun x hx => h x (by simp [hx])
    simp only [un, List.length_cons, Nat.pow_succ]
    omega
theorem un_append (l m : List Nat) : un (l ++ m) = un l + 256 ^ l.length * un m := by
  induction l with
  | nil => simp [un]
  | cons b l ih =>
    simp only [List.cons_append, un, ih, List.length_cons, Nat.pow_succ]
    rw [Nat.mul_add, ← Nat.mul_assoc, Nat.mul_comm 256 (256 ^ l.length)]
    omega
theorem un_snoc (l : List Nat) (b : Nat) : un (l ++ [b]) = un l + 256 ^ l.length * b := by rw [un_append]; simp [un]

/-- bytes laid over others, from a place on -/
def lays : List Nat → Nat → List Nat → List Nat
  | L, _, [] => L
  | L, o, b :: l => lays (L.set o b) (o + 1) l
theorem lays_length (L : List Nat) (o : Nat) (l : List Nat) : (lays L o l).length = L.length := by
  induction l generalizing L o with
  | nil => rfl
  | cons b l ih => simp [lays, ih]
theorem lays_append (L : List Nat) (o : Nat) (l m : List Nat) : lays L o (l ++ m) = lays (lays L o l) (o + l.length) m := by
  induction l generalizing L o with
  | nil => simp [lays]
  | cons b l ih =>
    simp only [List.cons_append, lays, ih, List.length_cons]
    congr 1
    omega
theorem lays_snoc (L : List Nat) (o : Nat) (l : List Nat) (b : Nat) : lays L o (l ++ [b]) = (lays L o l).set (o + l.length) b := by
  rw [lays_append]; rfl
theorem lays_cons (x : Nat) (L : List Nat) (o : Nat) (l : List Nat) : lays (x :: L) (o + 1) l = x :: lays L o l := by
  induction l generalizing L o with
  | nil => rfl
  | cons b l ih => simp only [lays, List.set_cons_succ, ih]
theorem lays_zero (L l : List Nat) (h : l.length ≤ L.length) : lays L 0 l = l ++ L.drop l.length := by
  induction l generalizing L with
  | nil => simp [lays]
  | cons b l ih =>
    cases L with
    | nil => simp at h
    | cons x L =>
      simp only [lays, List.set_cons_zero, lays_cons]
      rw [ih L (by simpa using h)]
      simp
theorem lays_bytes {L l : List Nat} (o : Nat) (hL : Crc.Bytes L) (hl : Crc.Bytes l) : Crc.Bytes (lays L o l) := by
  induction l generalizing L o with
  | nil => exact hL
  | cons b l ih =>
    refine ih (o + 1) (fun x hx => ?_) fun x hx => hl x (by simp [hx])
    rcases List.mem_or_eq_of_mem_set hx with h | h
    · exact hL x h
    · subst h; exact hl x (by simp)

/-- a place and its sum as bytes -/
def refB (r : Int × Nat) : List Nat := le 2 r.1.toNat ++ le 4 r.2
def refsB (rs : List (Int × Nat)) : List Nat := rs.flatMap refB
theorem refB_length (r : Int × Nat) : (refB r).length = 6 := by simp [refB, le_length]
theorem refsB_length (rs : List (Int × Nat)) : (refsB rs).length = 6 * rs.length := by
  induction rs with
  | nil => rfl
  | cons r rs ih =>
    show (refB r ++ refsB rs).length = _
    rw [List.length_append, ih, refB_length, List.length_cons]
    omega
/-- what a half of a root's block begins with -/
def head (r : Rt) : List Nat := le 6 r.ep.toNat ++ [r.rs.length] ++ refsB r.rs
theorem head_length (r : Rt) : (head r).length = 7 + 6 * r.rs.length := by simp [head, le_length, refsB_length]; omega
abbrev zeros (n : Nat) : List Nat := List.replicate n 0
def half (r : Rt) : List Nat := lays (zeros 128) 0 (head r)
def enc (r : Rt) : List Nat := half r ++ half r
theorem half_length (r : Rt) : (half r).length = 128 := by simp [half, lays_length]
theorem enc_length (r : Rt) : (enc r).length = 256 := by simp [enc, half_length]

/-- what may be -/
def badR (x : Int × Nat) : Bool := decide (x.1 < 0) || decide (6000 < x.1)
def badE (ep : Int) : Bool := decide (ep < 1) || decide (1099511627776 < ep)
/-- what is amiss: the error's place -/
def amiss (r : Rt) : Option Nat := if badE r.ep || r.rs.any badR then some 2 else if 16 < r.rs.length then some 3 else none
structure Good (r : Rt) : Prop where
  e1 : 1 ≤ r.ep
  e2 : r.ep ≤ 1099511627776
  n : r.rs.length ≤ 16
  a : ∀ x ∈ r.rs, 0 ≤ x.1 ∧ x.1 ≤ 6000
theorem good_iff (r : Rt) : amiss r = none ↔ Good r := by
  unfold amiss
  constructor
  · intro h
    split at h
    · cases h
    · rename_i h1
      split at h
      · cases h
      · rename_i h2
        simp only [Bool.or_eq_true, List.any_eq_true, not_or, not_exists, not_and, badE, badR, decide_eq_true_eq] at h1
        exact ⟨by omega, by omega, by omega, fun x hx => by have := h1.2 x hx; omega⟩
  · intro h
    have h1 : ¬ ((badE r.ep || r.rs.any badR) = true) := by
      simp only [Bool.or_eq_true, List.any_eq_true, not_or, not_exists, not_and, badE, badR, decide_eq_true_eq]
      have := h.e1; have := h.e2
      exact ⟨by omega, fun x hx => by have := h.a x hx; omega⟩
    rw [if_neg h1, if_neg (by have := h.n; omega)]
instance (r : Rt) : Decidable (Good r) := decidable_of_iff _ (good_iff r)
theorem head_bytes {r : Rt} (h : r.rs.length ≤ 16) : Crc.Bytes (head r) := by
  intro x hx
  simp only [head, List.mem_append, List.mem_singleton, refsB, List.mem_flatMap] at hx
  rcases hx with (hx | hx) | ⟨y, _, hx⟩
  · exact le_bytes _ _ x hx
  · omega
  · rcases List.mem_append.1 hx with hx | hx <;> exact le_bytes _ _ x hx
theorem zeros_bytes (n : Nat) : Crc.Bytes (zeros n) := by
  intro x hx; rw [(List.mem_replicate.1 hx).2]; decide
theorem enc_bytes {r : Rt} (h : r.rs.length ≤ 16) : Crc.Bytes (enc r) := by
  intro x hx
  rcases List.mem_append.1 hx with hx | hx <;> exact lays_bytes _ (zeros_bytes _) (head_bytes h) x hx

/-- the i-th place of bytes, and its sum -/
def refAt (l : List Nat) (i : Nat) : Int × Nat := (((un ((l.drop (7 + 6 * i)).take 2) : Nat) : Int), un ((l.drop (7 + 6 * i + 2)).take 4))
/-- what bytes say, right or not -/
def dec (l : List Nat) : Rt := ⟨((un (l.take 6) : Nat) : Int), (List.range (l.getD 6 0)).map (refAt l)⟩
/-- the root of bytes -/
def parse (l : List Nat) : Option Rt := if l.length = 256 ∧ l.getD 6 0 ≤ 16 then (if Good (dec l) ∧ enc (dec l) = l then some (dec l) else none) else none
theorem parse_some {l : List Nat} {r : Rt} (h : parse l = some r) : Good r ∧ enc r = l := by
  unfold parse at h
  split at h
  · split at h
    · rename_i h2
      cases h
      exact h2
    · cases h
  · cases h

theorem enc_eq {r : Rt} (h : r.rs.length ≤ 16) : ∃ t, enc r = head r ++ t := by
  refine ⟨(zeros 128).drop (head r).length ++ half r, ?_⟩
  unfold enc half
  rw [lays_zero _ _ (by rw [head_length]; simp; omega), List.append_assoc]
theorem refsB_at (rs : List (Int × Nat)) (t : List Nat) (i : Nat) (h : i < rs.length) : ∃ u, (refsB rs ++ t).drop (6 * i) = refB rs[i] ++ u := by
  induction rs generalizing i with
  | nil => simp at h
  | cons r rs ih =>
    have e : refsB (r :: rs) ++ t = refB r ++ (refsB rs ++ t) := by
      show (refB r ++ refsB rs) ++ t = _
      rw [List.append_assoc]
    rw [e]
    cases i with
    | zero => exact ⟨refsB rs ++ t, rfl⟩
    | succ i =>
      obtain ⟨u, hu⟩ := ih i (by simpa using h)
      refine ⟨u, ?_⟩
      rw [List.drop_append, List.drop_of_length_le (by rw [refB_length]; omega), refB_length, show 6 * (i + 1) - 6 = 6 * i by omega, hu]
      rfl
theorem dec_enc {r : Rt} (h : Good r) (hs : ∀ x ∈ r.rs, x.2 < 4294967296) : dec (enc r) = r := by
  obtain ⟨t, ht⟩ := enc_eq h.n
  have e1 : enc r = le 6 r.ep.toNat ++ ([r.rs.length] ++ (refsB r.rs ++ t)) := by
    rw [ht]; unfold head; simp
  have h6 : (enc r).getD 6 0 = r.rs.length := by
    rw [e1, List.getD_eq_getElem?_getD, List.getElem?_append_right (by rw [le_length]; omega), le_length]
    rfl
  have he : un ((enc r).take 6) = r.ep.toNat := by
    rw [e1, List.take_append_of_le_length (by rw [le_length]; omega), List.take_of_length_le (by rw [le_length]; omega)]
    exact un_le _ _ (by have := h.e2; have := h.e1; omega)
  have h7 : (enc r).drop 7 = refsB r.rs ++ t := by
    rw [e1, List.drop_append, List.drop_of_length_le (by rw [le_length]; omega), le_length]
    rfl
  have hr : ∀ i (hi : i < r.rs.length), refAt (enc r) i = r.rs[i] := by
    intro i hi
    obtain ⟨u, hu⟩ := refsB_at r.rs t i hi
    have hd : (enc r).drop (7 + 6 * i) = le 2 r.rs[i].1.toNat ++ (le 4 r.rs[i].2 ++ u) := by
      rw [← List.drop_drop, h7, hu]; unfold refB; rw [List.append_assoc]
    have hd2 : (enc r).drop (7 + 6 * i + 2) = le 4 r.rs[i].2 ++ u := by
      rw [← List.drop_drop, hd, List.drop_append, List.drop_of_length_le (by rw [le_length]; omega), le_length]
      rfl
    have ha := h.a _ (List.getElem_mem hi)
    have hb := hs _ (List.getElem_mem hi)
    unfold refAt
    rw [hd, hd2, List.take_append_of_le_length (by rw [le_length]; omega), List.take_append_of_le_length (by rw [le_length]; omega), List.take_of_length_le (by rw [le_length]; omega), List.take_of_length_le (by rw [le_length]; omega), un_le _ _ (by omega), un_le _ _ (by omega)]
    refine Prod.ext ?_ rfl
    show ((r.rs[i].1.toNat : Nat) : Int) = _
    omega
  unfold dec
  rw [h6, he]
  have e3 : (List.range r.rs.length).map (refAt (enc r)) = r.rs := by
    refine List.ext_getElem (by simp) fun i h1 h2 => ?_
    simp only [List.getElem_map, List.getElem_range]
    exact hr i h2
  rw [e3]
  cases r with
  | mk ep rs =>
    have := h.e1
    simp only at this ⊢
    congr 1
    omega
theorem parse_enc {r : Rt} (h : Good r) (hs : ∀ x ∈ r.rs, x.2 < 4294967296) : parse (enc r) = some r := by
  obtain ⟨t, ht⟩ := enc_eq h.n
  have h6 : (enc r).getD 6 0 = r.rs.length := by
    rw [ht]
    unfold head
    rw [List.append_assoc, List.append_assoc, List.getD_eq_getElem?_getD, List.getElem?_append_right (by rw [le_length]; omega), le_length]
    rfl
  unfold parse
  rw [if_pos ⟨enc_length r, by rw [h6]; exact h.n⟩, dec_enc h hs, if_pos ⟨h, rfl⟩]
/-- where a few bytes in a row differ the bytes are none -/
theorem halves_eq {r r' : Rt} (p : Nat) (h : ∀ i, ¬ (p ≤ i ∧ i < p + 4) → (enc r')[i]? = (enc r)[i]?) : half r' = half r := by
  have e1 : ∀ (q : Rt) i, i < 128 → (enc q)[i]? = (half q)[i]? ∧ (enc q)[i + 128]? = (half q)[i]? := by
    intro q i hi
    unfold enc
    constructor
    · rw [List.getElem?_append_left (by rw [half_length]; exact hi)]
    · rw [List.getElem?_append_right (by rw [half_length]; omega), half_length, Nat.add_sub_cancel]
  refine List.ext_getElem? fun i => ?_
  by_cases hi : i < 128
  · by_cases hp : p ≤ i ∧ i < p + 4
    · rw [← (e1 r' i hi).2, ← (e1 r i hi).2]
      exact h _ (by omega)
    · rw [← (e1 r' i hi).1, ← (e1 r i hi).1]
      exact h _ hp
  · rw [List.getElem?_eq_none (by rw [half_length]; omega), List.getElem?_eq_none (by rw [half_length]; omega)]
theorem refAt_sum (l : List Nat) (hl : Crc.Bytes l) (i : Nat) : (refAt l i).2 < 4294967296 := by
  unfold refAt
  have h1 := un_lt ((l.drop (7 + 6 * i + 2)).take 4) fun x hx => hl x (List.mem_of_mem_drop (List.mem_of_mem_take hx))
  have h2 : ((l.drop (7 + 6 * i + 2)).take 4).length ≤ 4 := by rw [List.length_take]; omega
  have h3 : 256 ^ ((l.drop (7 + 6 * i + 2)).take 4).length ≤ 256 ^ 4 := Nat.pow_le_pow_right (by decide) h2
  show un _ < _
  omega
end Go.Proofs.YtbjfgdahfpfgdaaGreatDoor.RootP

namespace Go.Proofs.YtbjfgdahfpfgdaaGreatDoor.RootW
open Go Go.RowKit Go.Proofs.YtbjfgdahfpfgdaaGreatDoor.Mem Go.Proofs.YtbjfgdahfpfgdaaGreatDoor.RootP Go.Proofs.YtbjfgdahfpfgdaaGreatDoor.SeeW
set_option linter.unusedVariables false
set_option maxRecDepth 100000

theorem le_take_succ (k n i : Nat) (h : i < k) : (le k n).take (i + 1) = (le k n).take i ++ [n / 256 ^ i % 256] := by
  rw [List.take_add_one, le_get k n i h]; rfl
theorem pow8 (i : Nat) : 2 ^ (8 * i) = 256 ^ i := by rw [Nat.pow_mul]
theorem ownb {w : World} {base : Nat} {g n cap : Nat} {l : List Nat} (h : OwnN w base 5 .u8 g n cap l) (j x : Nat) : OwnN (w.setCell ⟨g, j, none⟩ (.int .u8 (x : Int))) base 5 .u8 g n cap (l.set j x) := OwnN.set h j x
theorem shr_byte (n i : Nat) (hi : 8 * i < 64) : ((n : Int) / 2 ^ (8 * i) % 256) = ((n / 256 ^ i % 256 : Nat) : Int) := by
  rw [← pow8]; simp

set_option maxHeartbeats 1600000 in
/-- a number's bytes laid -/
theorem lay_w (base g N cap : Nat) (L : List Nat) (o len c n many : Nat) (w : World) (h : OwnN w base 5 .u8 g N cap L) (hb : base ≤ g) (hm : many ≤ len) (ho : o + len ≤ N) (hN : N ≤ 1000) (hlc : len ≤ c) (hc : c ≤ 1000) (hn : n < 18446744073709551616) (hk : many ≤ 8) :
    Calls Tryz.prog 136 #[.slice (some ⟨g, o, none⟩) len c, .int .u64 n, .int .i64 many] w fun e w' => e = .returned (.tuple #[]) ∧ OwnN w' base 5 .u8 g N cap (lays L o (le many n)) ∧ Below base w w' ∧ ∀ q, q ≠ g → w'.heap[q]? = w.heap[q]? := by
  have HL := hid (OwnN.len h)
  go_enter Tryz.func136, Tryz.ntmps136
  go_wp2
  go_loopw [8] (fun i wr => ∃ k : Nat, k ≤ many ∧ i = .int .i64 k ∧ OwnN wr base 5 .u8 g N cap (lays L o ((le many n).take k)) ∧ Below base w wr ∧ ∀ q, q ≠ g → wr.heap[q]? = w.heap[q]?) (fun i _ => many - (RowKit.intOf i).toNat)
  case atStart => exact ⟨0, by omega, rfl, by simpa [lays] using h, Below.refl _ _, fun _ _ => rfl⟩
  case round =>
    clear h
    obtain ⟨k, hk1, rfl, hown, hb1, hq⟩ := hrel
    have HQ := hid hq
    clear hq
    by_cases hlt : k < many
    · have HS := hid (show lays L o ((le many n).take (k + 1)) = (lays L o ((le many n).take k)).set (o + k) (n / 256 ^ k % 256) by
        rw [le_take_succ _ _ _ hlt, lays_snoc, List.length_take, le_length, Nat.min_eq_left (by omega)])
      have hlen : (lays L o ((le many n).take k)).length = N := by rw [lays_length]; exact HL.out
      obtain ⟨y, hy⟩ : ∃ y, wr.cell? ⟨g, o + k, none⟩ = some y := ⟨_, OwnN.cell hown (j := o + k) (by omega)⟩
      have hf := World.ownsRow.frozenAt hown (o + k)
      have HB := hid (shr_byte n k (by omega))
      have k8 : 8 * k < 64 := by omega
      have HO := hid hown
      clear hown hlen
      go_wp2
      go_roundw
      case rel => exact ⟨k + 1, by omega, by go_num, by rw [HS.out]; rw [HB.out]; exact ownb HO.out (o + k) _, hb1.setCell hb _, fun q hq => (heap_setCell_other _ ⟨g, o + k, none⟩ q _ hq).trans (HQ.out q hq)⟩
      case measure => simp [RowKit.intOf]; omega
    · obtain rfl : k = many := by omega
      rw [List.take_of_length_le (by rw [le_length]; exact Nat.le_refl _)] at hown
      go_wp2
      refine bodyPost_end (v := .tuple #[]) (by simp [results, Tryz.results136, go_sem]) rfl ?_
      exact ⟨rfl, hown, hb1, HQ.out⟩

theorem or_byte (acc c k : Nat) (hc : c < 256) (hk : k < 8) (ha : acc < 256 ^ k) :
    bits .or .u64 (acc : Int) (IntKind.u64.wrap (IntKind.u64.wrap (c : Int) * 2 ^ (8 * k))) = ((acc + 256 ^ k * c : Nat) : Int) ∧ acc + 256 ^ k * c < 256 ^ (k + 1) := by
  have h1 : acc + 256 ^ k * c < 256 ^ (k + 1) := by
    have : 256 ^ k * c ≤ 256 ^ k * 255 := Nat.mul_le_mul_left _ (by omega)
    rw [Nat.pow_succ]; omega
  have h2 : 256 ^ (k + 1) ≤ 256 ^ 8 := Nat.pow_le_pow_right (by decide) (by omega)
  have h3 : (256 : Nat) ^ 8 = 18446744073709551616 := by decide
  refine ⟨?_, h1⟩
  have e0 : IntKind.u64.wrap (c : Int) = c := by rw [IntKind.wrap_u64]; omega
  rw [e0]
  have e1 : IntKind.u64.wrap ((c : Int) * 2 ^ (8 * k)) = ((c * 2 ^ (8 * k) : Nat) : Int) := by
    rw [IntKind.wrap_u64]
    have : c * 2 ^ (8 * k) < 18446744073709551616 := by rw [pow8, Nat.mul_comm]; omega
    have e : ((c : Int) * 2 ^ (8 * k)) = ((c * 2 ^ (8 * k) : Nat) : Int) := by simp
    rw [e]; omega
  rw [e1, bits_or_u64_nat _ _ (by omega) (by rw [pow8, Nat.mul_comm]; omega)]
  have e2 : acc ||| c * 2 ^ (8 * k) = acc + 256 ^ k * c := by
    rw [Nat.or_comm, ← Nat.shiftLeft_eq, ← Nat.shiftLeft_add_eq_or_of_lt (by rw [pow8]; exact ha), Nat.shiftLeft_eq, pow8, Nat.mul_comm]
    omega
  rw [e2]

set_option maxHeartbeats 1600000 in
/-- the number that bytes say -/
theorem says_w (a : Option Addr) (n cap : Nat) (l : List Nat) (many : Nat) (w : World) (h : Nums .u8 w a n cap l) (hb : Crc.Bytes l) (hm : many ≤ n) (hk : many ≤ 8) :
    Calls Tryz.prog 160 #[.slice a n cap, .int .i64 many] w fun e w' => e = .returned (.int .u64 (un (l.take many))) ∧ w = w' := by
  have HL := hid h.len
  have hbd := h.bound
  obtain ⟨c1, c2⟩ := hbd
  go_enter Tryz.func160, Tryz.ntmps160
  go_wp2
  go_loop [5, 8] (fun s i => ∃ k : Nat, k ≤ many ∧ i = .int .i64 k ∧ s = .int .u64 (un (l.take k))) (fun _ i => many - (RowKit.intOf i).toNat)
  case atStart => exact ⟨0, by omega, rfl, rfl⟩
  case round =>
    obtain ⟨k, hk1, rfl, rfl⟩ := hrel
    by_cases hlt : k < many
    · have hkl : k < l.length := by rw [HL.out]; omega
      obtain ⟨b, o, rfl, hc⟩ := h.at hkl
      have hcb : l[k] < 256 := hb _ (List.getElem_mem _)
      have hu := un_lt (l.take k) fun x hx => hb x (List.mem_of_mem_take hx)
      rw [List.length_take, Nat.min_eq_left (by omega)] at hu
      have HS := hid (show un (l.take (k + 1)) = un (l.take k) + 256 ^ k * l[k] by
        rw [List.take_succ_eq_append_getElem hkl, un_snoc, List.length_take, Nat.min_eq_left (by omega)])
      generalize l[k] = x at hc hcb HS
      generalize un (l.take k) = acc at hu HS ⊢
      have HO := hid (or_byte acc x k hcb (by omega) hu).1
      have k8 : 8 * k < 64 := by omega
      have kn : (k : Int) < n := by omega
      clear h hcb hu
      go_wp2
      go_round
      case rel => exact ⟨k + 1, by omega, by go_num, by rw [HS.out, ← HO.out]⟩
      case measure => simp [RowKit.intOf]; omega
    · obtain rfl : k = many := by omega
      go_wp2
      go_ret
      exact ⟨rfl, rfl⟩
end Go.Proofs.YtbjfgdahfpfgdaaGreatDoor.RootW

namespace Go.Proofs.YtbjfgdahfpfgdaaGreatDoor.RefsW
open Go Go.RowKit Go.Proofs.YtbjfgdahfpfgdaaGreatDoor.Mem
set_option linter.unusedVariables false
set_option maxRecDepth 100000

def refCells : List (Int × Nat) → List Value
  | [] => []
  | r :: rs => .int .i64 r.1 :: .int .u32 (r.2 : Int) :: refCells rs
theorem refCells_length (rs : List (Int × Nat)) : (refCells rs).length = rs.length * 2 := by
  induction rs with
  | nil => rfl
  | cons r rs ih => simp only [refCells, List.length_cons, ih]; omega
theorem refCells_append (rs qs : List (Int × Nat)) : refCells (rs ++ qs) = refCells rs ++ refCells qs := by
  induction rs with
  | nil => rfl
  | cons r rs ih => simp only [List.cons_append, refCells, ih]
theorem refCells_get (rs : List (Int × Nat)) (j : Nat) (h : j < rs.length) : (refCells rs)[j * 2]? = some (.int .i64 rs[j].1) ∧ (refCells rs)[j * 2 + 1]? = some (.int .u32 (rs[j].2 : Int)) := by
  induction rs generalizing j with
  | nil => simp at h
  | cons r rs ih =>
    cases j with
    | zero => exact ⟨rfl, rfl⟩
    | succ j =>
      have := ih j (by simpa using h)
      rw [Nat.succ_mul]
      exact this
theorem refCells_one (rs : List (Int × Nat)) : ∀ u ∈ refCells rs, u.oneCell' = true := by
  induction rs with
  | nil => simp [refCells]
  | cons r rs ih =>
    intro u hu
    simp only [refCells, List.mem_cons] at hu
    rcases hu with rfl | rfl | hu
    · rfl
    · rfl
    · exact ih u hu
/-- a slice of places -/
def Refs (w : World) (a : Option Addr) (n cap : Nat) (rs : List (Int × Nat)) : Prop := Row w 2 a n cap (refCells rs)
theorem Refs.below {w w' : World} {a : Option Addr} {n cap : Nat} {rs : List (Int × Nat)} (h : Refs w a n cap rs) (hb : Below w.heap.size w w') : Refs w' a n cap rs := Row.below h hb
theorem Refs.len {w : World} {a : Option Addr} {n cap : Nat} {rs : List (Int × Nat)} (h : Refs w a n cap rs) : rs.length = n := by
  have := h.1; rw [refCells_length] at this; omega
theorem Refs.bound {w : World} {a : Option Addr} {n cap : Nat} {rs : List (Int × Nat)} (h : Refs w a n cap rs) : n ≤ cap ∧ cap ≤ 9223372036854775807 := by
  have := h.2.2.1; unfold maxLen at this; exact ⟨h.2.1, by omega⟩
theorem Refs.at {w : World} {a : Option Addr} {n cap : Nat} {rs : List (Int × Nat)} (h : Refs w a n cap rs) {j : Nat} (hj : j < rs.length) :
    ∃ b off, a = some ⟨b, off, none⟩ ∧ w.cell? ⟨b, off + j * 2, none⟩ = some (.int .i64 rs[j].1) ∧ w.cell? ⟨b, off + j * 2 + 1, none⟩ = some (.int .u32 (rs[j].2 : Int)) := by
  obtain ⟨g1, g2⟩ := refCells_get rs j hj
  obtain ⟨b, o, rfl, h1⟩ := h.2.2.2.2 _ _ g1
  obtain ⟨b', o', e, h2⟩ := h.2.2.2.2 _ _ g2
  cases e
  exact ⟨b, o, rfl, h1, h2⟩
theorem Refs.nil (w : World) : Refs w none 0 0 [] := ⟨rfl, Nat.le_refl _, Nat.zero_le _, fun _ => rfl, fun j u h => by simp [refCells] at h⟩
theorem elRef : El Tryz.prog 87 111 (.agg #[.int .i64 0, .int .u32 0]) 2 16 := ⟨Tryz.underlying87, by kernel_rfl, rfl, by decide⟩
abbrev OwnRefs (w : World) (base : Nat) (v : Value) (n : Nat) (rs : List (Int × Nat)) : Prop := w.ownsRow base 111 2 v n (refCells rs)
theorem refs_of {w : World} {base : Nat} {v : Value} {n : Nat} {rs : List (Int × Nat)} (h : OwnRefs w base v n rs) : ∃ a cap, v = .slice a n cap ∧ Refs w a n cap rs := ownsRow_slice h
end Go.Proofs.YtbjfgdahfpfgdaaGreatDoor.RefsW

namespace Go.Proofs.YtbjfgdahfpfgdaaGreatDoor.RootW
open Go Go.RowKit Go.Proofs.YtbjfgdahfpfgdaaGreatDoor.Mem Go.Proofs.YtbjfgdahfpfgdaaGreatDoor.RootP Go.Proofs.YtbjfgdahfpfgdaaGreatDoor.SeeW Go.Proofs.YtbjfgdahfpfgdaaGreatDoor.RefsW Go.Proofs.YtbjfgdahfpfgdaaGreatDoor.DevG
set_option linter.unusedVariables false
set_option maxRecDepth 100000

abbrev Rf (x : Int × Nat) : Value := .agg #[.int .i64 x.1, .int .u32 (x.2 : Int)]
theorem bad_w (x : Int × Nat) (w : World) : Calls Tryz.prog 159 #[Rf x] w fun e w' => e = .returned (.bool (badR x)) ∧ Below w.heap.size w w' := by
  unfold badR
  have b1 := (Below.refl w.heap.size w).alloc (Nat.le_refl _) (.cells #[.int .i64 x.1, .int .u32 (x.2 : Int)] 111)
  by_cases h : x.1 < 0
  · have h1 : decide (x.1 < 0) = true := decide_eq_true h
    rw [h1]
    go_enter Tryz.func159, Tryz.ntmps159
    go_wp2
    go_ret
    exact ⟨ret_bool (by simp), b1⟩
  · have h1 : decide (x.1 < 0) = false := decide_eq_false h
    rw [h1]
    go_enter Tryz.func159, Tryz.ntmps159
    go_wp2
    go_ret
    exact ⟨ret_bool (by simp), b1⟩

theorem any_take_succ {rs : List (Int × Nat)} {k : Nat} (h : k < rs.length) (f : Int × Nat → Bool) : (rs.take (k + 1)).any f = ((rs.take k).any f || f rs[k]) := by
  rw [List.take_succ_eq_append_getElem h, List.any_append]; simp
/-- the closure as a value -/
abbrev fv : Value := .func (.func 159) #[] #[]
set_option maxHeartbeats 800000 in
theorem indexf_w (a : Option Addr) (n cap : Nat) (rs : List (Int × Nat)) (w : World) (hl : Refs w a n cap rs) :
    Calls Tryz.prog 150 #[.slice a n cap, fv] w fun e w' => (∃ r : Int, e = .returned (.int .i64 r) ∧ decide (0 ≤ r) = rs.any badR) ∧ Below w.heap.size w w' := by
  have HL := hid hl.len
  obtain ⟨c1, c2⟩ := hl.bound
  go_enter Tryz.func150, Tryz.ntmps150
  go_wp2_with fail
  go_loopw [8] (fun i wr => ∃ k : Nat, k ≤ n ∧ i = .int .i64 k ∧ (rs.take k).any badR = false ∧ Below w.heap.size w wr) (fun i _ => n - (RowKit.intOf i).toNat)
  case atStart => exact ⟨0, by omega, rfl, by simp, Below.refl _ _⟩
  case round =>
    obtain ⟨k, hk, rfl, hT, hbel⟩ := hrel
    have HT := hid hT
    clear hT
    replace hl := hl.below hbel
    have hsz := hbel.size
    have HB := hid hbel
    clear hbel
    by_cases hlt : k < n
    · have hkl : k < rs.length := by rw [HL.out]; exact hlt
      obtain ⟨b0, o0, rfl, hc0, hc1⟩ := hl.at hkl
      have HS := hid (any_take_succ hkl badR)
      have HM := hid (List.getElem_mem hkl)
      generalize rs[k] = y at hc0 hc1 HS HM
      go_wp2_with fail
      refine (bad_w y _).mono ?_
      rintro e w2 ⟨rfl, hb2⟩
      have hbb := HB.out.trans (hb2.mono hsz)
      clear hb2 hc0 hl HB
      by_cases hy : badR y = true
      · have HY := hid hy
        rw [hy]
        clear hy
        go_wp2_with fail
        go_ret
        refine ⟨⟨_, rfl, ?_⟩, hbb⟩
        rw [List.any_eq_true.2 ⟨y, HM.out, HY.out⟩]
        simp
      · have hy : badR y = false := by simpa using hy
        have HY := hid hy
        rw [hy]
        clear hy
        go_wp2_with fail
        go_roundw
        case rel => exact ⟨k + 1, by omega, by go_num, by rw [HS.out, HT.out, HY.out]; rfl, hbb⟩
        case measure => simp [RowKit.intOf]; omega
    · obtain rfl : k = n := by omega
      clear hl
      go_wp2_with fail
      go_ret
      refine ⟨⟨_, rfl, ?_⟩, HB.out⟩
      have h1 := HT.out
      rw [List.take_of_length_le (by rw [HL.out]; omega)] at h1
      rw [h1]
      decide
theorem containsf_w (a : Option Addr) (n cap : Nat) (rs : List (Int × Nat)) (w : World) (hl : Refs w a n cap rs) :
    Calls Tryz.prog 158 #[.slice a n cap, .func (.func 159) #[] #[]] w fun e w' => e = .returned (.bool (rs.any badR)) ∧ Below w.heap.size w w' := by
  have ci := indexf_w a n cap rs w hl
  clear hl
  go_enter Tryz.func158, Tryz.ntmps158
  go_wp2_with fail
  refine ci.mono ?_
  rintro e w' ⟨⟨r, rfl, hr⟩, hbel⟩
  have HR := hid hr
  have HB := hid hbel
  clear hr hbel
  go_wp2_with fail
  go_ret
  exact ⟨ret_bool HR.out, HB.out⟩

/-- a root as a value -/
abbrev Rv (ep : Int) (a : Option Addr) (n cap : Nat) : Value := .agg #[.int .i64 ep, .slice a n cap]
/-- the errors of a root -/
abbrev rerr : List Nat := [2, 3]
set_option maxHeartbeats 1600000 in
theorem fits_w (bs : List Addr) (lo : Nat) (r : Rt) (a : Option Addr) (n cap : Nat) (w : World) (hl : Refs w a n cap r.rs) (hB : Ev w lo bs rerr) :
    Calls Tryz.prog 135 #[Rv r.ep a n cap] w fun e w' => (∃ v, Says bs (amiss r) v ∧ e = .returned v) ∧ Below w.heap.size w w' := by
  have HL := hid hl.len
  obtain ⟨c1, c2⟩ := hl.bound
  obtain ⟨aR, haR, hAR⟩ := hB.get 2 _ (by decide) rfl
  obtain ⟨aM, haM, hAM⟩ := hB.get 3 _ (by decide) rfl
  have bx := (Below.refl w.heap.size w).alloc (Nat.le_refl _) (.cells #[.int .i64 r.ep, .slice a n cap] 89)
  obtain ⟨q0, q1⟩ := new2 w (.int .i64 r.ep) (.slice a n cap) 89
  have hR := hAR.below bx
  have hM := hAM.below bx
  have hlx := hl.below bx
  have A1 := hR.1
  have A2 := hM.1
  by_cases e1 : r.ep < 1
  · have hm : amiss r = some 2 := by unfold amiss badE; rw [decide_eq_true e1]; rfl
    rw [hm]
    have d1 : decide (r.ep < 1) = true := decide_eq_true e1
    go_enter Tryz.func135, Tryz.ntmps135
    go_wp2
    go_ret
    exact ⟨⟨_, ⟨aR, haR, rfl⟩, rfl⟩, bx⟩
  · have d1 : decide (r.ep < 1) = false := decide_eq_false e1
    by_cases e2 : 1099511627776 < r.ep
    · have hm : amiss r = some 2 := by unfold amiss badE; rw [decide_eq_true e2, Bool.or_true]; rfl
      rw [hm]
      have d2 : decide (1099511627776 < r.ep) = true := decide_eq_true e2
      go_enter Tryz.func135, Tryz.ntmps135
      go_wp2
      go_ret
      exact ⟨⟨_, ⟨aR, haR, rfl⟩, rfl⟩, bx⟩
    · have d2 : decide (1099511627776 < r.ep) = false := decide_eq_false e2
      have cf := containsf_w a n cap r.rs _ hlx
      cases ha : r.rs.any badR
      · rw [ha] at cf
        by_cases e3 : 16 < n
        · have hm : amiss r = some 3 := by unfold amiss badE; rw [d1, d2, ha, if_neg (by decide), if_pos (by rw [HL.out]; exact e3)]
          rw [hm]
          clear hm ha
          go_enter Tryz.func135, Tryz.ntmps135
          go_wp2_with fail
          refine cf.mono ?_
          rintro e w2 ⟨rfl, hb2⟩
          replace A1 := kept hb2 A1
          replace A2 := kept hb2 A2
          replace q0 := kept hb2 q0
          replace q1 := kept hb2 q1
          go_wp2
          go_ret
          exact ⟨⟨_, ⟨aM, haM, rfl⟩, rfl⟩, bx.trans (hb2.mono (by simp))⟩
        · have hm : amiss r = none := by unfold amiss badE; rw [d1, d2, ha, if_neg (by decide), if_neg (by rw [HL.out]; exact e3)]
          rw [hm]
          clear hm ha
          go_enter Tryz.func135, Tryz.ntmps135
          go_wp2_with fail
          refine cf.mono ?_
          rintro e w2 ⟨rfl, hb2⟩
          replace A1 := kept hb2 A1
          replace A2 := kept hb2 A2
          replace q0 := kept hb2 q0
          replace q1 := kept hb2 q1
          go_wp2
          go_ret
          exact ⟨⟨_, rfl, rfl⟩, bx.trans (hb2.mono (by simp))⟩
      · rw [ha] at cf
        have hm : amiss r = some 2 := by unfold amiss; rw [ha, Bool.or_true]; rfl
        rw [hm]
        clear hm ha
        go_enter Tryz.func135, Tryz.ntmps135
        go_wp2_with fail
        refine cf.mono ?_
        rintro e w2 ⟨rfl, hb2⟩
        replace A1 := kept hb2 A1
        go_wp2
        go_ret
        exact ⟨⟨_, ⟨aR, haR, rfl⟩, rfl⟩, bx.trans (hb2.mono (by simp))⟩
end Go.Proofs.YtbjfgdahfpfgdaaGreatDoor.RootW

namespace Go.Proofs.YtbjfgdahfpfgdaaGreatDoor.ConcatW
open Go Go.RowKit Go.Proofs.YtbjfgdahfpfgdaaGreatDoor.Mem
set_option linter.unusedVariables false
set_option maxRecDepth 100000

theorem elInt : El Tryz.prog 62 3 (.int .i64 0) 1 8 := ⟨Tryz.underlying62, by kernel_rfl, rfl, by decide⟩

set_option maxHeartbeats 1600000 in
/-- room for n, of nothing -/
theorem growB (n : Nat) (w : World) (h0 : 0 < n) (hn : n ≤ 1000000) :
    Calls Tryz.prog 134 #[.slice none 0 0, .int .i64 n] w fun e w' => (∃ cap, e = .returned (.slice (some ⟨w.heap.size, 0, none⟩) 0 cap) ∧ w'.ownsRow w.heap.size 5 1 (.slice (some ⟨w.heap.size, 0, none⟩) 0 cap) 0 [] ∧ n ≤ cap ∧ cap ≤ maxLen) ∧ Below w.heap.size w w' := by
  obtain ⟨i, hi, hz0, hz1, hz2⟩ := info_parts RefW.elU8.hi
  have hz := Lib.run_append_nil_zeros (P := Tryz.prog) w 35 3 35 5 i _ .i64 .i64 Tryz.underlying35 Tryz.underlying3 hi hz0 n h0 (by omega) (by omega) (by rw [hz2]; omega)
  have g1 := grownCap_ge w n 0 5
  have g2 := grownCap_le_maxLen w n 0 5 (by unfold maxLen; omega)
  generalize hG : grownCap w n 0 5 = G at hz g1 g2
  have g3 : G ≤ 9223372036854775807 := by unfold maxLen at g2; omega
  have hsz : (Builtin.zeroCells (Value.int .u8 0).cells n ++ Builtin.zeroCells (Value.int .u8 0).cells (G - n)).size = G * 1 := by
    simp [Builtin.zeroCells, Value.cells]; omega
  clear hG
  generalize Builtin.zeroCells (Value.int .u8 0).cells n ++ Builtin.zeroCells (Value.int .u8 0).cells (G - n) = cs at hz hsz
  have hp : decide ((0 : Int) < n) = true := decide_eq_true (by omega)
  go_enter Tryz.func134, Tryz.ntmps134
  go_wp2_with (at_builtin; go_must (refine Lib.wpList_append_run _ rfl _ _ _ _ rfl _ _ rfl rfl _ _ hz ?_))
  go_ret
  refine ⟨⟨G, rfl, ?_, g1, g2⟩, (Below.refl _ _).drew.alloc (by simp) _⟩
  exact World.ownsRow_made (base := w.heap.size) (e := 5) (size := 1) w.drew cs G (by simp) g2 hsz

set_option maxHeartbeats 3200000 in
/-- two slices, one behind the other -/
theorem concatB (g : Nat) (a1 a2 : Option Addr) (n1 c1 n2 c2 : Nat) (xs ys : List Value) (w : World) (h1 : Row w 1 a1 n1 c1 xs) (h2 : Row w 1 a2 n2 c2 ys) (o1 : ∀ u ∈ xs, u.oneCell' = true) (o2 : ∀ u ∈ ys, u.oneCell' = true)
    (s0 : w.cell? ⟨g, 0, none⟩ = some (.slice a1 n1 c1)) (s1 : w.cell? ⟨g, 1, none⟩ = some (.slice a2 n2 c2)) (hp : 0 < n1 + n2) (k1 : n1 ≤ 100000) (k2 : n2 ≤ 100000) :
    Calls Tryz.prog 105 #[.slice (some ⟨g, 0, none⟩) 2 2] w fun e w' => (∃ v, e = .returned v ∧ w'.ownsRow w.heap.size 5 1 v (n1 + n2) (xs ++ ys)) ∧ Below w.heap.size w w' := by
  have q1 := h1.2.1
  have q2 := h2.2.1
  have q3 := h1.2.2.1
  have q4 := h2.2.2.1
  have d1 : decide ((n1 : Int) < 0) = false := decide_eq_false (by omega)
  have d2 : decide ((n1 : Int) + n2 < 0) = false := decide_eq_false (by omega)
  unfold maxLen at q3 q4
  go_enter Tryz.func105, Tryz.ntmps105
  go_wp2
  go_loop [3, 11] (fun s i => (i = .int .i64 0 ∧ s = .int .i64 0) ∨ (i = .int .i64 1 ∧ s = .int .i64 n1) ∨ (i = .int .i64 2 ∧ s = .int .i64 ((n1 + n2 : Nat) : Int))) (fun _ i => 2 - (RowKit.intOf i).toNat)
  case atStart => exact .inl ⟨rfl, rfl⟩
  case round =>
    rcases hrel with ⟨rfl, rfl⟩ | ⟨rfl, rfl⟩ | ⟨rfl, rfl⟩
    · go_wp2
      go_round
      case rel => exact .inr (.inl ⟨by go_num, by go_num⟩)
      case measure => simp [RowKit.intOf]
    · go_wp2
      go_round
      case rel => exact .inr (.inr ⟨by go_num, by go_num⟩)
      case measure => simp [RowKit.intOf]
    · go_wp2_with fail
      refine (growB (n1 + n2) _ hp (by omega)).mono ?_
      rintro e w1 ⟨⟨G, rfl, own1, hG1, hG2⟩, hb1⟩
      have z1 := hb1.size
      clear d1 d2
      go_wp2_with fail
      go_loopw [6, 27] (fun v i wr => (i = .int .i64 0 ∧ wr.ownsRow w.heap.size 5 1 v 0 [] ∨ i = .int .i64 1 ∧ wr.ownsRow w.heap.size 5 1 v n1 xs ∨ i = .int .i64 2 ∧ wr.ownsRow w.heap.size 5 1 v (n1 + n2) (xs ++ ys)) ∧ Below w.heap.size w wr) (fun _ i _ => 2 - (RowKit.intOf i).toNat)
      case atStart => exact ⟨.inl ⟨rfl, own1⟩, hb1⟩
      case round =>
        clear own1 hb1
        obtain ⟨hc, hb⟩ := hrel
        have zz := hb.size
        replace h1 := h1.below hb
        replace h2 := h2.below hb
        replace s0 := kept hb s0
        replace s1 := kept hb s1
        rcases hc with ⟨rfl, own⟩ | ⟨rfl, own⟩ | ⟨rfl, own⟩
        · go_wp2_with (at_builtin; go_must (refine wpList_app RefW.elU8 rfl _ _ rfl w.heap.size _ 0 [] rfl own a1 n1 c1 xs rfl h1 o1 (by unfold maxLen; omega) (by omega) zz ?_); intro v' w2 own2 hb2 _)
          go_roundw
          case rel => exact ⟨.inr (.inl ⟨by go_num, by simpa using own2⟩), hb.trans hb2⟩
          case measure => simp [RowKit.intOf]
        · go_wp2_with (at_builtin; go_must (refine wpList_app RefW.elU8 rfl _ _ rfl w.heap.size _ n1 xs rfl own a2 n2 c2 ys rfl h2 o2 (by unfold maxLen; omega) (by omega) zz ?_); intro v' w2 own2 hb2 _)
          go_roundw
          case rel => exact ⟨.inr (.inr ⟨by go_num, own2⟩), hb.trans hb2⟩
          case measure => simp [RowKit.intOf]
        · go_wp2
          go_ret
          exact ⟨⟨_, rfl, own⟩, hb⟩

set_option maxHeartbeats 1600000 in
/-- room for n, of nothing -/
theorem growI (n : Nat) (w : World) (h0 : 0 < n) (hn : n ≤ 1000000) :
    Calls Tryz.prog 154 #[.slice none 0 0, .int .i64 n] w fun e w' => (∃ cap, e = .returned (.slice (some ⟨w.heap.size, 0, none⟩) 0 cap) ∧ w'.ownsRow w.heap.size 3 1 (.slice (some ⟨w.heap.size, 0, none⟩) 0 cap) 0 [] ∧ n ≤ cap ∧ cap ≤ maxLen) ∧ Below w.heap.size w w' := by
  obtain ⟨i, hi, hz0, hz1, hz2⟩ := info_parts elInt.hi
  have hz := Lib.run_append_nil_zeros (P := Tryz.prog) w 62 3 62 3 i _ .i64 .i64 Tryz.underlying62 Tryz.underlying3 hi hz0 n h0 (by omega) (by omega) (by rw [hz2]; omega)
  have g1 := grownCap_ge w n 0 3
  have g2 := grownCap_le_maxLen w n 0 3 (by unfold maxLen; omega)
  generalize hG : grownCap w n 0 3 = G at hz g1 g2
  have g3 : G ≤ 9223372036854775807 := by unfold maxLen at g2; omega
  have hsz : (Builtin.zeroCells (Value.int .i64 0).cells n ++ Builtin.zeroCells (Value.int .i64 0).cells (G - n)).size = G * 1 := by
    simp [Builtin.zeroCells, Value.cells]; omega
  clear hG
  generalize Builtin.zeroCells (Value.int .i64 0).cells n ++ Builtin.zeroCells (Value.int .i64 0).cells (G - n) = cs at hz hsz
  have hp : decide ((0 : Int) < n) = true := decide_eq_true (by omega)
  go_enter Tryz.func154, Tryz.ntmps154
  go_wp2_with (at_builtin; go_must (refine Lib.wpList_append_run _ rfl _ _ _ _ rfl _ _ rfl rfl _ _ hz ?_))
  go_ret
  refine ⟨⟨G, rfl, ?_, g1, g2⟩, (Below.refl _ _).drew.alloc (by simp) _⟩
  exact World.ownsRow_made (base := w.heap.size) (e := 3) (size := 1) w.drew cs G (by simp) g2 hsz

set_option maxHeartbeats 3200000 in
/-- two slices, one behind the other -/
theorem concatI (g : Nat) (a1 a2 : Option Addr) (n1 c1 n2 c2 : Nat) (xs ys : List Value) (w : World) (h1 : Row w 1 a1 n1 c1 xs) (h2 : Row w 1 a2 n2 c2 ys) (o1 : ∀ u ∈ xs, u.oneCell' = true) (o2 : ∀ u ∈ ys, u.oneCell' = true)
    (s0 : w.cell? ⟨g, 0, none⟩ = some (.slice a1 n1 c1)) (s1 : w.cell? ⟨g, 1, none⟩ = some (.slice a2 n2 c2)) (hp : 0 < n1 + n2) (k1 : n1 ≤ 100000) (k2 : n2 ≤ 100000) :
    Calls Tryz.prog 129 #[.slice (some ⟨g, 0, none⟩) 2 2] w fun e w' => (∃ v, e = .returned v ∧ w'.ownsRow w.heap.size 3 1 v (n1 + n2) (xs ++ ys)) ∧ Below w.heap.size w w' := by
  have q1 := h1.2.1
  have q2 := h2.2.1
  have q3 := h1.2.2.1
  have q4 := h2.2.2.1
  have d1 : decide ((n1 : Int) < 0) = false := decide_eq_false (by omega)
  have d2 : decide ((n1 : Int) + n2 < 0) = false := decide_eq_false (by omega)
  unfold maxLen at q3 q4
  go_enter Tryz.func129, Tryz.ntmps129
  go_wp2
  go_loop [3, 11] (fun s i => (i = .int .i64 0 ∧ s = .int .i64 0) ∨ (i = .int .i64 1 ∧ s = .int .i64 n1) ∨ (i = .int .i64 2 ∧ s = .int .i64 ((n1 + n2 : Nat) : Int))) (fun _ i => 2 - (RowKit.intOf i).toNat)
  case atStart => exact .inl ⟨rfl, rfl⟩
  case round =>
    rcases hrel with ⟨rfl, rfl⟩ | ⟨rfl, rfl⟩ | ⟨rfl, rfl⟩
    · go_wp2
      go_round
      case rel => exact .inr (.inl ⟨by go_num, by go_num⟩)
      case measure => simp [RowKit.intOf]
    · go_wp2
      go_round
      case rel => exact .inr (.inr ⟨by go_num, by go_num⟩)
      case measure => simp [RowKit.intOf]
    · go_wp2_with fail
      refine (growI (n1 + n2) _ hp (by omega)).mono ?_
      rintro e w1 ⟨⟨G, rfl, own1, hG1, hG2⟩, hb1⟩
      have z1 := hb1.size
      clear d1 d2
      go_wp2_with fail
      go_loopw [6, 27] (fun v i wr => (i = .int .i64 0 ∧ wr.ownsRow w.heap.size 3 1 v 0 [] ∨ i = .int .i64 1 ∧ wr.ownsRow w.heap.size 3 1 v n1 xs ∨ i = .int .i64 2 ∧ wr.ownsRow w.heap.size 3 1 v (n1 + n2) (xs ++ ys)) ∧ Below w.heap.size w wr) (fun _ i _ => 2 - (RowKit.intOf i).toNat)
      case atStart => exact ⟨.inl ⟨rfl, own1⟩, hb1⟩
      case round =>
        clear own1 hb1
        obtain ⟨hc, hb⟩ := hrel
        have zz := hb.size
        replace h1 := h1.below hb
        replace h2 := h2.below hb
        replace s0 := kept hb s0
        replace s1 := kept hb s1
        rcases hc with ⟨rfl, own⟩ | ⟨rfl, own⟩ | ⟨rfl, own⟩
        · go_wp2_with (at_builtin; go_must (refine wpList_app elInt rfl _ _ rfl w.heap.size _ 0 [] rfl own a1 n1 c1 xs rfl h1 o1 (by unfold maxLen; omega) (by omega) zz ?_); intro v' w2 own2 hb2 _)
          go_roundw
          case rel => exact ⟨.inr (.inl ⟨by go_num, by simpa using own2⟩), hb.trans hb2⟩
          case measure => simp [RowKit.intOf]
        · go_wp2_with (at_builtin; go_must (refine wpList_app elInt rfl _ _ rfl w.heap.size _ n1 xs rfl own a2 n2 c2 ys rfl h2 o2 (by unfold maxLen; omega) (by omega) zz ?_); intro v' w2 own2 hb2 _)
          go_roundw
          case rel => exact ⟨.inr (.inr ⟨by go_num, own2⟩), hb.trans hb2⟩
          case measure => simp [RowKit.intOf]
        · go_wp2
          go_ret
          exact ⟨⟨_, rfl, own⟩, hb⟩
end Go.Proofs.YtbjfgdahfpfgdaaGreatDoor.ConcatW
