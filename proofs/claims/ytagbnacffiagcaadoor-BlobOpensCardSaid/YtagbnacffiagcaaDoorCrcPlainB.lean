/- Plain facts about the sum: bytes turned, four in a row or fewer, are told. No program stands here. -/
import Derived.Test.YtagbnacffiagcaaDoorCrcPlain
namespace Go.Proofs.YtagbnacffiagcaaDoor.Crc

/-- bytes as one word, the first the lowest -/
def val : List Nat → Nat
  | [] => 0
  | c :: l => c ^^^ (val l * 256)
theorem run_val (l : List Nat) : ∀ s, run s l = bits (8 * l.length) (s ^^^ val l) := by
  induction l with
  | nil => intro s; simp [run, val, bits]
  | cons c l ih =>
    intro s
    have h1 : val l = step (val l * 256) := by rw [step_def]; exact (bits_high 8 (val l)).symm
    have hr : run s (c :: l) = run (step (s ^^^ c)) l := by rw [run]
    have hv : val (c :: l) = c ^^^ val l * 256 := by rw [val]
    have h2 : step (s ^^^ c) ^^^ val l = bits 8 (s ^^^ val (c :: l)) := by
      rw [hv, ← step_def, ← Nat.xor_assoc, step_xor (s ^^^ c), ← h1]
    have hl : 8 * (c :: l).length = 8 + 8 * l.length := by simp only [List.length_cons]; omega
    rw [hr, ih, h2, hl, bits_add]
theorem val_lt (l : List Nat) (h : Bytes l) : val l < 2 ^ (8 * l.length) := by
  induction l with
  | nil => simp [val]
  | cons c l ih =>
    have h1 := ih h.tail
    have hc := h.head
    have e : 8 * (c :: l).length = 8 * l.length + 8 := by simp; omega
    rw [e]
    refine Nat.xor_lt_two_pow ?_ ?_
    · exact Nat.lt_of_lt_of_le hc (Nat.pow_le_pow_right (n := 2) (i := 8) (by decide) (by omega))
    · rw [Nat.pow_add]
      exact Nat.mul_lt_mul_of_pos_right h1 (by decide)
theorem val_zero (l : List Nat) (h : Bytes l) (hv : val l = 0) : ∀ x ∈ l, x = 0 := by
  induction l with
  | nil => simp
  | cons c l ih =>
    have hc := h.head
    have h1 : c = val l * 256 := by
      have := congrArg (· ^^^ (val l * 256)) hv
      simpa [val, Nat.xor_assoc] using this
    have h2 : val l = 0 := by omega
    intro x hx
    rcases List.mem_cons.1 hx with rfl | hx
    · omega
    · exact ih h.tail h2 x hx
theorem turn_bytes : ∀ (a b : List Nat), Bytes a → Bytes b → Bytes (turn a b)
  | [], _, _, _ => by simp [turn, Bytes]
  | _ :: _, [], _, _ => by simp [turn, Bytes]
  | x :: a, y :: b, ha, hb => by
    intro z hz
    rcases List.mem_cons.1 hz with rfl | hz
    · exact xor_byte ha.head hb.head
    · exact turn_bytes a b ha.tail hb.tail z hz
theorem turn_length : ∀ (a b : List Nat), a.length = b.length → (turn a b).length = a.length
  | [], _, _ => by simp [turn]
  | _ :: _, [], h => by simp at h
  | _ :: a, _ :: b, h => by simp [turn, turn_length a b (by simpa using h)]
theorem turn_zero : ∀ (a b : List Nat), a.length = b.length → (∀ x ∈ turn a b, x = 0) → a = b
  | [], b, h, _ => by cases b; rfl; simp at h
  | x :: a, [], h, _ => by simp at h
  | x :: a, y :: b, h, hz => by
    have h1 : x ^^^ y = 0 := hz _ (by simp [turn])
    have h2 : x = y := by
      have := congrArg (· ^^^ y) h1
      simpa [Nat.xor_assoc] using this
    rw [h2, turn_zero a b (by simpa using h) (fun z hz' => hz z (by simp [turn, hz']))]
/-- four bytes or fewer -/
theorem run_four {a b : List Nat} (ha : Bytes a) (hb : Bytes b) (hl : a.length = b.length) (h4 : a.length ≤ 4) {s : Nat} (h : run s a = run s b) : a = b := by
  have h1 : run 0 (turn a b) = 0 := by
    have := run_xor a b s s hl
    rw [h, Nat.xor_self, Nat.xor_self] at this
    exact this.symm
  rw [run_val, Nat.zero_xor] at h1
  have ht := turn_bytes a b ha hb
  have hv := val_lt _ ht
  rw [turn_length a b hl] at hv
  have hW : val (turn a b) < W := Nat.lt_of_lt_of_le hv (Nat.pow_le_pow_right (n := 2) (j := 32) (by decide) (by omega))
  exact turn_zero a b hl (val_zero _ ht (bits_eq_zero _ hW h1))
theorem Bytes_append {a b : List Nat} (h : Bytes (a ++ b)) : Bytes a ∧ Bytes b := ⟨fun x hx => h x (by simp [hx]), fun x hx => h x (by simp [hx])⟩
theorem sum_four {a m m' b : List Nat} (h : Bytes (a ++ (m ++ b))) (h' : Bytes (a ++ (m' ++ b))) (hl : m.length = m'.length) (h4 : m.length ≤ 4)
    (hs : sum (a ++ (m ++ b)) = sum (a ++ (m' ++ b))) : m = m' := by
  have h1 := sum_inj hs
  rw [run_append, run_append, run_append, run_append] at h1
  have ha := (Bytes_append h).1
  have hm := (Bytes_append (Bytes_append h).2).1
  have hb := (Bytes_append (Bytes_append h).2).2
  have hm' := (Bytes_append (Bytes_append h').2).1
  have hr := run_lt a (s := W - 1) top_lt ha
  exact run_four hm hm' hl h4 (run_inj b (run_lt m hr hm) (run_lt m' hr hm') hb h1)

/-- which bytes were turned -/
theorem turnK_get (l : List Nat) (p t k : Nat) : ∀ j, (turnK l (p : Int) t k)[j]? = (l[j]?).map fun c => if p ≤ j ∧ j < p + k then c ^^^ byteOf t (j - p) else c := by
  induction k with
  | zero => intro j; simp only [turnK]; cases l[j]? with
    | none => rfl
    | some c => simp only [Option.map_some]; rw [if_neg (by omega)]
  | succ k ih =>
    intro j
    show (turn1 (turnK l p t k) p t k)[j]? = _
    unfold turn1
    rw [turnK_length]
    by_cases hin : p + k < l.length
    · rw [if_pos (by omega)]
      simp only [Int.toNat_natCast]
      rw [List.getElem?_set, turnK_length, List.getD_eq_getElem?_getD, ih (p + k), List.getElem?_eq_getElem hin]
      by_cases e : p + k = j
      · subst e
        rw [if_pos rfl, if_pos hin]
        rw [List.getElem?_eq_getElem hin]
        simp only [Option.map_some, Option.getD_some]
        rw [if_neg (by omega), if_pos (by omega)]
        rw [Nat.add_sub_cancel_left]
      · rw [if_neg e, ih j]
        cases l[j]? with
        | none => rfl
        | some c =>
          simp only [Option.map_some]
          by_cases h2 : p ≤ j ∧ j < p + k
          · rw [if_pos h2, if_pos (by omega)]
          · rw [if_neg h2, if_neg (by omega)]
    · rw [if_neg (by omega), ih j]
      by_cases hj : j < l.length
      · rw [List.getElem?_eq_getElem hj]
        simp only [Option.map_some]
        by_cases h2 : p ≤ j ∧ j < p + k
        · rw [if_pos h2, if_pos (by omega)]
        · rw [if_neg h2, if_neg (by omega)]
      · rw [List.getElem?_eq_none (by omega)]; rfl
theorem turned_neg (l : List Nat) {at_ : Int} (t : Nat) (h : at_ < 0) : ∀ k, turnK l at_ t k = l
  | 0 => rfl
  | k + 1 => by rw [turnK, turned_neg l t h k]; unfold turn1; rw [if_neg (by omega)]
theorem turned_length (l : List Nat) (at_ : Int) (t : Nat) : (turned l at_ t).length = l.length := turnK_length l at_ t 4
theorem turned_bytes {l : List Nat} (h : Bytes l) (at_ : Int) (t : Nat) : Bytes (turned l at_ t) := turnK_bytes h at_ t 4
/-- turned twice -/
theorem turned_twice (l : List Nat) (at_ : Int) (t : Nat) : turned (turned l at_ t) at_ t = l := by
  by_cases h : at_ < 0
  · unfold turned; rw [turned_neg _ _ h, turned_neg _ _ h]
  · obtain ⟨p, rfl⟩ := Int.eq_ofNat_of_zero_le (a := at_) (by omega)
    apply List.ext_getElem?
    intro j
    show (turnK _ (p : Int) t 4)[j]? = _
    rw [turnK_get]
    show Option.map _ (turnK l (p : Int) t 4)[j]? = _
    rw [turnK_get]
    cases l[j]? with
    | none => rfl
    | some c =>
      simp only [Option.map_some]
      by_cases h2 : p ≤ j ∧ j < p + 4
      · rw [if_pos h2, if_pos h2, Nat.xor_assoc, Nat.xor_self, Nat.xor_zero]
      · rw [if_neg h2, if_neg h2]
theorem parts (l : List Nat) (p : Nat) : l = l.take p ++ ((l.drop p).take 4 ++ l.drop (p + 4)) := by
  have h1 : (l.drop p).take 4 ++ (l.drop p).drop 4 = l.drop p := List.take_append_drop 4 _
  rw [List.drop_drop] at h1
  rw [h1, List.take_append_drop]
/-- turned bytes have another sum, but where nothing was turned -/
theorem turned_sum {l : List Nat} (hb : Bytes l) (at_ : Int) (t : Nat) : (sum (turned l at_ t) = sum l) ↔ l = turned l at_ t := by
  constructor
  · intro h
    by_cases hn : at_ < 0
    · unfold turned; rw [turned_neg _ _ hn]
    · obtain ⟨p, rfl⟩ := Int.eq_ofNat_of_zero_le (a := at_) (by omega)
      have hb' := turned_bytes hb (p : Int) t
      have hlen := turned_length l (p : Int) t
      have hget : ∀ j, (turned l (p : Int) t)[j]? = _ := turnK_get l p t 4
      generalize hm : turned l (p : Int) t = m at *
      have e1 : m.take p = l.take p := by
        apply List.ext_getElem?
        intro j
        rw [List.getElem?_take, List.getElem?_take]
        by_cases hj : j < p
        · rw [if_pos hj, if_pos hj, hget j]
          cases l[j]? with
          | none => rfl
          | some c => simp only [Option.map_some]; rw [if_neg (by omega)]
        · rw [if_neg hj, if_neg hj]
      have e2 : m.drop (p + 4) = l.drop (p + 4) := by
        apply List.ext_getElem?
        intro j
        rw [List.getElem?_drop, List.getElem?_drop, hget]
        cases l[p + 4 + j]? with
        | none => rfl
        | some c => simp only [Option.map_some]; rw [if_neg (by omega)]
      have pm := parts m p
      have pl := parts l p
      rw [e1, e2] at pm
      have hs : sum (l.take p ++ ((l.drop p).take 4 ++ l.drop (p + 4))) = sum (l.take p ++ ((m.drop p).take 4 ++ l.drop (p + 4))) := by
        rw [← pm, ← pl]; exact h.symm
      have e3 := sum_four (by rw [← pl]; exact hb) (by rw [← pm]; exact hb') (by simp [hlen]) (by simp; omega) hs
      rw [pm, ← e3, ← pl]
  · intro h; rw [← h]

/-- nothing, as long -/
theorem turn_turned (l : List Nat) (at_ : Int) (t : Nat) : turn l (turned l at_ t) = turn (turned (List.replicate l.length 0) at_ t) (List.replicate l.length 0) := by
  have get : ∀ (a b : List Nat) (j : Nat), (turn a b)[j]? = (match a[j]?, b[j]? with | some x, some y => some (x ^^^ y) | _, _ => none) := by
    intro a
    induction a with
    | nil => intro b j; simp [turn]
    | cons x a ih =>
      intro b j
      cases b with
      | nil => cases j <;> simp [turn]
      | cons y b =>
        cases j with
        | zero => simp [turn]
        | succ j => simp only [turn, List.getElem?_cons_succ]; exact ih b j
  apply List.ext_getElem?
  intro j
  rw [get, get]
  by_cases hn : at_ < 0
  · unfold turned; rw [turned_neg _ _ hn, turned_neg _ _ hn]
    by_cases hj : j < l.length
    · simp [hj]
    · simp [hj]
  · obtain ⟨p, rfl⟩ := Int.eq_ofNat_of_zero_le (a := at_) (by omega)
    show (match l[j]?, (turnK l (p : Int) t 4)[j]? with | some x, some y => some (x ^^^ y) | _, _ => none) = (match (turnK (List.replicate l.length 0) (p : Int) t 4)[j]?, (List.replicate l.length 0)[j]? with | some x, some y => some (x ^^^ y) | _, _ => none)
    rw [turnK_get, turnK_get]
    by_cases hj : j < l.length
    · rw [List.getElem?_eq_getElem hj, List.getElem?_replicate, if_pos hj]
      simp only [Option.map_some]
      by_cases h2 : p ≤ j ∧ j < p + 4
      · rw [if_pos h2, if_pos h2, ← Nat.xor_assoc]; simp
      · rw [if_neg h2, if_neg h2]; simp
    · rw [List.getElem?_eq_none (by omega), List.getElem?_replicate, if_neg hj]; rfl
theorem four_xor (a b c d q : Nat) (h : a ^^^ b = c ^^^ d) : (a ^^^ q) ^^^ (b ^^^ q) ^^^ (c ^^^ q) ^^^ (d ^^^ q) = 0 := by
  have e : ∀ x y : Nat, (x ^^^ q) ^^^ (y ^^^ q) = x ^^^ y := by
    intro x y
    rw [Nat.xor_assoc, ← Nat.xor_assoc q, Nat.xor_comm q, Nat.xor_assoc y, Nat.xor_self, Nat.xor_zero]
  rw [e, Nat.xor_assoc, e, h, Nat.xor_self]
/-- the four sums of CrcXors -/
theorem sum_turned (l : List Nat) (at_ : Int) (t : Nat) :
    sum l ^^^ sum (turned l at_ t) ^^^ sum (turned (List.replicate l.length 0) at_ t) ^^^ sum (List.replicate l.length 0) = 0 := by
  refine four_xor _ _ _ _ _ ?_
  rw [run_xor _ _ _ _ (by rw [turned_length]), run_xor _ _ _ _ (by rw [turned_length]), turn_turned]
end Go.Proofs.YtagbnacffiagcaaDoor.Crc
