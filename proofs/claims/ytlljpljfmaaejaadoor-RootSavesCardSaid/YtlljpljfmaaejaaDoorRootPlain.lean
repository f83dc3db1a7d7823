/- Plain facts about roots: a root's bytes, the root of bytes. -/
import Derived.Test.YtlljpljfmaaejaaDoorCrcPlainB
namespace Go.Proofs.YtlljpljfmaaejaaDoor.RootP
open Go
set_option linter.unusedVariables false

/-- a root: its epoch, its places and their sums -/
structure Rt where
  ep : Int
  rs : List (Int × Nat)
deriving DecidableEq

/-- k bytes of a number, the lowest first -/
def le : Nat → Nat → List Nat
  | 0, _ => []
  | k + 1, n => (n % 256) :: le k (n / 256)
/-- the number of bytes -/
def un : List Nat → Nat
  | [] => 0
  | b :: l => b + 256 * un l
theorem le_length (k n : Nat) : (le k n).length = k := by
  induction k generalizing n with
  | zero => rfl
  | succ k ih => simp [le, ih]
theorem le_get (k n i : Nat) (h : i < k) : (le k n)[i]? = some (n / 256 ^ i % 256) := by
  induction k generalizing n i with
  | zero => omega
  | succ k ih =>
    cases i with
    | zero => simp [le]
    | succ i =>
      show (le k (n / 256))[i]? = _
      rw [ih _ _ (by omega), Nat.div_div_eq_div_mul, Nat.pow_succ, Nat.mul_comm]
theorem le_bytes (k n : Nat) : ∀ x ∈ le k n, x < 256 := by
  induction k generalizing n with
  | zero => simp [le]
  | succ k ih =>
    intro x hx
    simp only [le, List.mem_cons] at hx
    rcases hx with rfl | hx
    · exact Nat.mod_lt _ (by decide)
    · exact ih _ x hx
theorem un_le (k n : Nat) (h : n < 256 ^ k) : un (le k n) = n := by
  induction k generalizing n with
  | zero => simp at h; simp [le, un]; omega
  | succ k ih =>
    have : n / 256 < 256 ^ k := by rw [Nat.pow_succ] at h; omega
    simp only [le, un, ih _ this]
    omega
theorem un_lt (l : List Nat) (h : ∀ x ∈ l, x < 256) : un l < 256 ^ l.length := by
  induction l with
  | nil => simp [un]
  | cons b l ih =>
    have h1 := h b (by simp)
    have h2 := ih fun x hx => h x (by simp [hx])
    simp only [un, List.length_cons, Nat.pow_succ]
    omega
theorem le_un (l : List Nat) (h : ∀ x ∈ l, x < 256) : le l.length (un l) = l := by
  induction l with
  | nil => rfl
  | cons b l ih =>
    have h1 := h b (by simp)
    have h2 := ih fun x hx => h x (by simp [hx])
    have e1 : (b + 256 * un l) % 256 = b := by omega
    have e2 : (b + 256 * un l) / 256 = un l := by omega
    simp only [List.length_cons, le, un, e1, e2, h2]
theorem un_append (l m : List Nat) : un (l ++ m) = un l + 256 ^ l.length * un m := by
  induction l with
  | nil => simp [un]
  | cons b l ih =>
    simp only [List.cons_append, un, ih, List.length_cons, Nat.pow_succ]
    rw [Nat.mul_add, ← Nat.mul_assoc, Nat.mul_comm 256 (256 ^ l.length)]
    omega
theorem un_snoc (l : List Nat) (b : Nat) : un (l ++ [b]) = un l + 256 ^ l.length * b := by rw [un_append]; simp [un]

/-- bytes laid over others, from a place on -/
def lays : List Nat → Nat → List Nat → List Nat
  | L, _, [] => L
  | L, o, b :: l => lays (L.set o b) (o + 1) l
theorem lays_length (L : List Nat) (o : Nat) (l : List Nat) : (lays L o l).length = L.length := by
  induction l generalizing L o with
  | nil => rfl
  | cons b l ih => simp [lays, ih]
theorem lays_append (L : List Nat) (o : Nat) (l m : List Nat) : lays L o (l ++ m) = lays (lays L o l) (o + l.length) m := by
  induction l generalizing L o with
  | nil => simp [lays]
  | cons b l ih =>
    simp only [List.cons_append, lays, ih, List.length_cons]
    congr 1
    omega
theorem lays_snoc (L : List Nat) (o : Nat) (l : List Nat) (b : Nat) : lays L o (l ++ [b]) = (lays L o l).set (o + l.length) b := by
  rw [lays_append]; rfl
theorem lays_cons (x : Nat) (L : List Nat) (o : Nat) (l : List Nat) : lays (x :: L) (o + 1) l = x :: lays L o l := by
  induction l generalizing L o with
  | nil => rfl
  | cons b l ih => simp only [lays, List.set_cons_succ, ih]
theorem lays_zero (L l : List Nat) (h : l.length ≤ L.length) : lays L 0 l = l ++ L.drop l.length := by
  induction l generalizing L with
  | nil => simp [lays]
  | cons b l ih =>
    cases L with
    | nil => simp at h
    | cons x L =>
      simp only [lays, List.set_cons_zero, lays_cons]
      rw [ih L (by simpa using h)]
      simp
theorem lays_bytes {L l : List Nat} (o : Nat) (hL : Crc.Bytes L) (hl : Crc.Bytes l) : Crc.Bytes (lays L o l) := by
  induction l generalizing L o with
  | nil => exact hL
  | cons b l ih =>
    refine ih (o + 1) (fun x hx => ?_) fun x hx => hl x (by simp [hx])
    rcases List.mem_or_eq_of_mem_set hx with h | h
    · exact hL x h
    · subst h; exact hl x (by simp)

/-- a place and its sum as bytes -/
def refB (r : Int × Nat) : List Nat := le 2 r.1.toNat ++ le 4 r.2
def refsB (rs : List (Int × Nat)) : List Nat := rs.flatMap refB
theorem refB_length (r : Int × Nat) : (refB r).length = 6 := by simp [refB, le_length]
theorem refsB_length (rs : List (Int × Nat)) : (refsB rs).length = 6 * rs.length := by
  induction rs with
  | nil => rfl
  | cons r rs ih =>
    show (refB r ++ refsB rs).length = _
    rw [List.length_append, ih, refB_length, List.length_cons]
    omega
/-- what a half of a root's block begins with -/
def head (r : Rt) : List Nat := le 6 r.ep.toNat ++ [r.rs.length] ++ refsB r.rs
theorem head_length (r : Rt) : (head r).length = 7 + 6 * r.rs.length := by simp [head, le_length, refsB_length]; omega
abbrev zeros (n : Nat) : List Nat := List.replicate n 0
def half (r : Rt) : List Nat := lays (zeros 128) 0 (head r)
def enc (r : Rt) : List Nat := half r ++ half r
theorem half_length (r : Rt) : (half r).length = 128 := by simp [half, lays_length]
theorem enc_length (r : Rt) : (enc r).length = 256 := by simp [enc, half_length]

/-- what may be -/
def badR (x : Int × Nat) : Bool := decide (x.1 < 0) || decide (6000 < x.1)
def badE (ep : Int) : Bool := decide (ep < 1) || decide (1099511627776 < ep)
/-- what is amiss: the error's place -/
def amiss (r : Rt) : Option Nat := if badE r.ep || r.rs.any badR then some 2 else if 16 < r.rs.length then some 3 else none
structure Good (r : Rt) : Prop where
  e1 : 1 ≤ r.ep
  e2 : r.ep ≤ 1099511627776
  n : r.rs.length ≤ 16
  a : ∀ x ∈ r.rs, 0 ≤ x.1 ∧ x.1 ≤ 6000
theorem good_iff (r : Rt) : amiss r = none ↔ Good r := by
  unfold amiss
  constructor
  · intro h
    split at h
    · cases h
    · rename_i h1
      split at h
      · cases h
      · rename_i h2
        simp only [Bool.or_eq_true, List.any_eq_true, not_or, not_exists, not_and, badE, badR, decide_eq_true_eq] at h1
        exact ⟨by omega, by omega, by omega, fun x hx => by have := h1.2 x hx; omega⟩
  · intro h
    have h1 : ¬ ((badE r.ep || r.rs.any badR) = true) := by
      simp only [Bool.or_eq_true, List.any_eq_true, not_or, not_exists, not_and, badE, badR, decide_eq_true_eq]
      have := h.e1; have := h.e2
      exact ⟨by omega, fun x hx => by have := h.a x hx; omega⟩
    rw [if_neg h1, if_neg (by have := h.n; omega)]
instance (r : Rt) : Decidable (Good r) := decidable_of_iff _ (good_iff r)
theorem head_bytes {r : Rt} (h : r.rs.length ≤ 16) : Crc.Bytes (head r) := by
  intro x hx
  simp only [head, List.mem_append, List.mem_singleton, refsB, List.mem_flatMap] at hx
  rcases hx with (hx | hx) | ⟨y, _, hx⟩
  · exact le_bytes _ _ x hx
  · omega
  · rcases List.mem_append.1 hx with hx | hx <;> exact le_bytes _ _ x hx
theorem zeros_bytes (n : Nat) : Crc.Bytes (zeros n) := by
  intro x hx; rw [(List.mem_replicate.1 hx).2]; decide
theorem enc_bytes {r : Rt} (h : r.rs.length ≤ 16) : Crc.Bytes (enc r) := by
  intro x hx
  rcases List.mem_append.1 hx with hx | hx <;> exact lays_bytes _ (zeros_bytes _) (head_bytes h) x hx

/-- the i-th place of bytes, and its sum -/
def refAt (l : List Nat) (i : Nat) : Int × Nat := (((un ((l.drop (7 + 6 * i)).take 2) : Nat) : Int), un ((l.drop (7 + 6 * i + 2)).take 4))
/-- what bytes say, right or not -/
def dec (l : List Nat) : Rt := ⟨((un (l.take 6) : Nat) : Int), (List.range (l.getD 6 0)).map (refAt l)⟩
/-- the root of bytes -/
def parse (l : List Nat) : Option Rt := if l.length = 256 ∧ l.getD 6 0 ≤ 16 then (if Good (dec l) ∧ enc (dec l) = l then some (dec l) else none) else none
theorem parse_some {l : List Nat} {r : Rt} (h : parse l = some r) : Good r ∧ enc r = l := by
  unfold parse at h
  split at h
  · split at h
    · rename_i h2
      cases h
      exact h2
    · cases h
  · cases h

theorem enc_eq {r : Rt} (h : r.rs.length ≤ 16) : ∃ t, enc r = head r ++ t := by
  refine ⟨(zeros 128).drop (head r).length ++ half r, ?_⟩
  unfold enc half
  rw [lays_zero _ _ (by rw [head_length]; simp; omega), List.append_assoc]
theorem refsB_at (rs : List (Int × Nat)) (t : List Nat) (i : Nat) (h : i < rs.length) : ∃ u, (refsB rs ++ t).drop (6 * i) = refB rs[i] ++ u := by
  induction rs generalizing i with
  | nil => simp at h
  | cons r rs ih =>
    have e : refsB (r :: rs) ++ t = refB r ++ (refsB rs ++ t) := by
      show (refB r ++ refsB rs) ++ t = _
      rw [List.append_assoc]
    rw [e]
    cases i with
    | zero => exact ⟨refsB rs ++ t, rfl⟩
    | succ i =>
      obtain ⟨u, hu⟩ := ih i (by simpa using h)
      refine ⟨u, ?_⟩
      rw [List.drop_append, List.drop_of_length_le (by rw [refB_length]; omega), refB_length, show 6 * (i + 1) - 6 = 6 * i by omega, hu]
      rfl
theorem dec_enc {r : Rt} (h : Good r) (hs : ∀ x ∈ r.rs, x.2 < 4294967296) : dec (enc r) = r := by
  obtain ⟨t, ht⟩ := enc_eq h.n
  have e1 : enc r = le 6 r.ep.toNat ++ ([r.rs.length] ++ (refsB r.rs ++ t)) := by
    rw [ht]; unfold head; simp
  have h6 : (enc r).getD 6 0 = r.rs.length := by
    rw [e1, List.getD_eq_getElem?_getD, List.getElem?_append_right (by rw [le_length]; omega), le_length]
    rfl
  have he : un ((enc r).take 6) = r.ep.toNat := by
    rw [e1, List.take_append_of_le_length (by rw [le_length]; omega), List.take_of_length_le (by rw [le_length]; omega)]
    exact un_le _ _ (by have := h.e2; have := h.e1; omega)
  have h7 : (enc r).drop 7 = refsB r.rs ++ t := by
    rw [e1, List.drop_append, List.drop_of_length_le (by rw [le_length]; omega), le_length]
    rfl
  have hr : ∀ i (hi : i < r.rs.length), refAt (enc r) i = r.rs[i] := by
    intro i hi
    obtain ⟨u, hu⟩ := refsB_at r.rs t i hi
    have hd : (enc r).drop (7 + 6 * i) = le 2 r.rs[i].1.toNat ++ (le 4 r.rs[i].2 ++ u) := by
      rw [← List.drop_drop, h7, hu]; unfold refB; rw [List.append_assoc]
    have hd2 : (enc r).drop (7 + 6 * i + 2) = le 4 r.rs[i].2 ++ u := by
      rw [← List.drop_drop, hd, List.drop_append, List.drop_of_length_le (by rw [le_length]; omega), le_length]
      rfl
    have ha := h.a _ (List.getElem_mem hi)
    have hb := hs _ (List.getElem_mem hi)
    unfold refAt
    rw [hd, hd2, List.take_append_of_le_length (by rw [le_length]; omega), List.take_append_of_le_length (by rw [le_length]; omega), List.take_of_length_le (by rw [le_length]; omega), List.take_of_length_le (by rw [le_length]; omega), un_le _ _ (by omega), un_le _ _ (by omega)]
    refine Prod.ext ?_ rfl
    show ((r.rs[i].1.toNat : Nat) : Int) = _
    omega
  unfold dec
  rw [h6, he]
  have e3 : (List.range r.rs.length).map (refAt (enc r)) = r.rs := by
    refine List.ext_getElem (by simp) fun i h1 h2 => ?_
    simp only [List.getElem_map, List.getElem_range]
    exact hr i h2
  rw [e3]
  cases r with
  | mk ep rs =>
    have := h.e1
    simp only at this ⊢
    congr 1
    omega
theorem parse_enc {r : Rt} (h : Good r) (hs : ∀ x ∈ r.rs, x.2 < 4294967296) : parse (enc r) = some r := by
  obtain ⟨t, ht⟩ := enc_eq h.n
  have h6 : (enc r).getD 6 0 = r.rs.length := by
    rw [ht]
    unfold head
    rw [List.append_assoc, List.append_assoc, List.getD_eq_getElem?_getD, List.getElem?_append_right (by rw [le_length]; omega), le_length]
    rfl
  unfold parse
  rw [if_pos ⟨enc_length r, by rw [h6]; exact h.n⟩, dec_enc h hs, if_pos ⟨h, rfl⟩]
/-- where a few bytes in a row differ the bytes are none -/
theorem halves_eq {r r' : Rt} (p : Nat) (h : ∀ i, ¬ (p ≤ i ∧ i < p + 4) → (enc r')[i]? = (enc r)[i]?) : half r' = half r := by
  have e1 : ∀ (q : Rt) i, i < 128 → (enc q)[i]? = (half q)[i]? ∧ (enc q)[i + 128]? = (half q)[i]? := by
    intro q i hi
    unfold enc
    constructor
    · rw [List.getElem?_append_left (by rw [half_length]; exact hi)]
    · rw [List.getElem?_append_right (by rw [half_length]; omega), half_length, Nat.add_sub_cancel]
  refine List.ext_getElem? fun i => ?_
  by_cases hi : i < 128
  · by_cases hp : p ≤ i ∧ i < p + 4
    · rw [← (e1 r' i hi).2, ← (e1 r i hi).2]
      exact h _ (by omega)
    · rw [← (e1 r' i hi).1, ← (e1 r i hi).1]
      exact h _ hp
  · rw [List.getElem?_eq_none (by rw [half_length]; omega), List.getElem?_eq_none (by rw [half_length]; omega)]
theorem enc_inj {r r' : Rt} (h : Good r) (h' : Good r') (hs : ∀ x ∈ r.rs, x.2 < 4294967296) (hs' : ∀ x ∈ r'.rs, x.2 < 4294967296) (e : enc r = enc r') : r = r' := by
  rw [← dec_enc h hs, ← dec_enc h' hs', e]
theorem refAt_sum (l : List Nat) (hl : Crc.Bytes l) (i : Nat) : (refAt l i).2 < 4294967296 := by
  unfold refAt
  have h1 := un_lt ((l.drop (7 + 6 * i + 2)).take 4) fun x hx => hl x (List.mem_of_mem_drop (List.mem_of_mem_take hx))
  have h2 : ((l.drop (7 + 6 * i + 2)).take 4).length ≤ 4 := by rw [List.length_take]; omega
  have h3 : 256 ^ ((l.drop (7 + 6 * i + 2)).take 4).length ≤ 256 ^ 4 := Nat.pow_le_pow_right (by decide) h2
  show un _ < _
  omega
end Go.Proofs.YtlljpljfmaaejaaDoor.RootP
