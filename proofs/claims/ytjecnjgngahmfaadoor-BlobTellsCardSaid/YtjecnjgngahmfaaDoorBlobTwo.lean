/- Plain facts: the areas and devices of BlobTells. -/
import Derived.Test.YtjecnjgngahmfaaDoorBlobPlain
import Derived.Test.YtjecnjgngahmfaaDoorRootFault
namespace Go.Proofs.YtjecnjgngahmfaaDoor.BlobW
open Go Go.RowKit Go.Maps Go.Proofs.YtjecnjgngahmfaaDoor.Mem Go.Proofs.YtjecnjgngahmfaaDoor.MapsW Go.Proofs.YtjecnjgngahmfaaDoor.DevG
set_option linter.unusedVariables false

/-- i blocks put, one behind the other -/
def uA (i : Nat) : Ar := ⟨fun x => decide (150 ≤ x ∧ x < 150 + (i : Int)), fun _ => false, i, 0, if i = 0 then 299 else 149 + i⟩
theorem uA_zero : Ar.none 300 = uA 0 := by
  refine Ar.same (fun x => ?_) (fun x => rfl) rfl rfl rfl
  show false = decide (150 ≤ x ∧ x < 150 + ((0 : Nat) : Int))
  symm; rw [decide_eq_false_iff_not]; omega
theorem uA_last {i : Nat} (h : i < 150) : first 300 ≤ (uA i).last ∧ (uA i).last < 300 := by
  rw [first_300]
  show 150 ≤ (if i = 0 then 299 else 149 + i) ∧ (if i = 0 then 299 else 149 + i) < 300
  split <;> omega
theorem uA_next {i : Nat} (h : i < 150) : (uA i).next 300 = some (150 + i) := by
  refine next_zero (by decide) ?_ ?_
  · rw [spot_300]
    show 150 + ((if i = 0 then 299 else 149 + i) - 150 + 1 + 0) % 150 = _
    split <;> omega
  · show (!decide (150 ≤ ((150 + i : Nat) : Int) ∧ ((150 + i : Nat) : Int) < 150 + (i : Int)) && !false) = true
    rw [decide_eq_false (by omega)]; rfl
theorem uA_put {i : Nat} : (uA i).put (150 + i) = uA (i + 1) := by
  refine Ar.same (fun x => ?_) (fun x => rfl) ?_ rfl ?_
  · show upd (fun x => decide (150 ≤ x ∧ x < 150 + (i : Int))) ((150 + i : Nat) : Int) true x = decide (150 ≤ x ∧ x < 150 + ((i + 1 : Nat) : Int))
    rw [upd_eq]
    split
    · symm; rw [decide_eq_true_eq]; omega
    · rw [Bool.eq_iff_iff, decide_eq_true_eq, decide_eq_true_eq]; omega
  · show (if decide (150 ≤ ((150 + i : Nat) : Int) ∧ ((150 + i : Nat) : Int) < 150 + (i : Int)) = true then i else i + 1) = i + 1
    rw [decide_eq_false (by omega)]; rfl
  · show 150 + i = (if i + 1 = 0 then 299 else 149 + (i + 1))
    rw [if_neg (by omega)]; omega
/-- the i-th block's bytes -/
def tb (i : Nat) : List Nat := Crc.pad [i, 9]
theorem tb_bytes {i : Nat} (h : i < 256) : Crc.Bytes (tb i) := Crc.pad_bytes (by intro x hx; simp at hx; rcases hx with rfl | rfl <;> omega)
theorem tb_length (i : Nat) : (tb i).length = 256 := Crc.pad_length (by show 2 ≤ 256; decide)
/-- a device of 300 blocks, i of them written, none flushed -/
structure Okt (D : Dv) (i : Nat) : Prop where
  blocks : D.blocks = 300
  fuse : D.fuse = 0
  down : D.down = false
  calls : D.calls = i
  np : D.np ≤ i
  pe : ∀ j, D.pe j = if 150 ≤ j ∧ j < 150 + (i : Int) then some (tb (j - 150).toNat) else none
  fl : ∀ j, D.fl j = none
  fi : ∀ j, D.fi j = false
  fa : ∀ j, D.fa j = false
theorem Okt.new : Okt (Dv.new 300) 0 := ⟨rfl, rfl, rfl, rfl, Nat.le_refl _, fun j => (by rw [if_neg (by omega)]; rfl), fun _ => rfl, fun _ => rfl, fun _ => rfl⟩
theorem Okt.put {D : Dv} {i : Nat} (h : Okt D i) : Okt (D.put ((150 + i : Nat) : Int) (tb i)) (i + 1) := by
  refine ⟨h.blocks, h.fuse, h.down, by show D.calls + 1 = _; rw [h.calls], ?_, fun j => ?_, h.fl, h.fi, h.fa⟩
  · show (if (D.pe ((150 + i : Nat) : Int)).isSome then D.np else D.np + 1) ≤ i + 1
    have := h.np
    split <;> omega
  · show upd D.pe ((150 + i : Nat) : Int) (some (tb i)) j = _
    rw [upd_eq, h.pe]
    by_cases c : j = ((150 + i : Nat) : Int)
    · rw [if_pos c, if_pos (by omega)]
      congr 2
      omega
    · rw [if_neg c]
      by_cases c2 : 150 ≤ j ∧ j < 150 + (i : Int)
      · rw [if_pos c2, if_pos (by omega)]
      · rw [if_neg c2, if_neg (by omega)]
/-- .. flushed -/
structure Okf (F : Dv) (n : Nat) : Prop where
  idle : F.Idle
  blocks : F.blocks = 300
  read : ∀ i, i < n → F.read ((150 + i : Nat) : Int) = some (tb i)
  may : ∀ i, i < n → F.may ((150 + i : Nat) : Int) = true
theorem Okt.flush {D : Dv} {n : Nat} (h : Okt D n) (hn : n ≤ 20) : Okf D.flush n := by
  have hfl : ∀ j, D.flush.fl j = if 150 ≤ j ∧ j < 150 + (n : Int) then some (tb (j - 150).toNat) else none := fun j => by
    show (if (D.pe j).isSome then D.pe j else D.fl j) = _
    rw [h.pe, h.fl]
    split <;> rfl
  have hi : D.flush.Idle := ⟨h.down, h.fuse, rfl, fun _ => rfl, fun j l hl => by
    rw [hfl] at hl
    split at hl
    · cases hl; exact tb_bytes (by omega)
    · cases hl⟩
  refine ⟨hi, h.blocks, fun i hin => ?_, fun i hin => ?_⟩
  · rw [hi.read]
    have e1 : D.flush.fi ((150 + i : Nat) : Int) = false := by
      show (if (D.pe ((150 + i : Nat) : Int)).isSome then false else D.fi _) = false
      rw [h.fi]; split <;> rfl
    rw [e1]
    rw [if_neg (by decide)]
    unfold keptOf
    rw [hfl, if_pos (by omega), show ((150 + i : Nat) : Int) - 150 = (i : Int) by omega, Int.toNat_natCast]
    rfl
  · unfold Dv.may
    rw [hi.pe]
    have e2 : D.flush.fa ((150 + i : Nat) : Int) = false := by
      show (if (D.pe ((150 + i : Nat) : Int)).isSome then false else D.fa _) = false
      rw [h.fa]; split <;> rfl
    rw [e2, decide_eq_true (show 0 ≤ ((150 + i : Nat) : Int) ∧ ((150 + i : Nat) : Int) < (D.flush.blocks : Int) by rw [show D.flush.blocks = 300 from h.blocks]; omega)]
    rfl
/-- what is got of a device of which the p-th block is faulted -/
structure Oke (F : Dv) (n p : Nat) : Prop where
  blocks : F.blocks = 300
  bytes : ∀ i l, F.read i = some l → Crc.Bytes l
  ok : ∀ i, i < n → i ≠ p → got F (150 + (i : Int)) (Crc.sum (tb i)) = .ok (tb i)
  no : got F (150 + (p : Int)) (Crc.sum (tb p)) = .error 6
theorem got_idle {F : Dv} (hi : F.Idle) (hb : F.blocks = 300) {i : Int} (h : 150 ≤ i ∧ i < 300) (s : Nat) : got F i s = match F.read i with
    | none => .error 6
    | some l => if Crc.sum l = s then .ok l else .error 6 := by
  have hh : GeoW.half F.blocks = 75 := by rw [hb]; decide
  unfold got Dv.get
  rw [hh, hi.down, hb, if_pos (by omega), if_neg (by decide), if_pos (by omega)]
  cases F.read i <;> rfl
theorem Oke.of {F F' : Dv} {n p : Nat} (h : Okf F n) (hn : n ≤ 20) (hp : p < n) {x : Option (List Nat)} (hf : Faulted F F' ((150 + p : Nat) : Int) x) (hx : ∀ l, x = some l → Crc.sum l ≠ Crc.sum (tb p)) : Oke F' n p := by
  have hb : F'.blocks = 300 := hf.blocks.trans h.blocks
  refine ⟨hb, hf.idle.bytes, fun i hi hne => ?_, ?_⟩
  · rw [got_idle hf.idle hb (by omega), show (150 : Int) + (i : Int) = ((150 + i : Nat) : Int) by omega, hf.read, if_neg (by omega), h.read i hi]
    simp
  · rw [got_idle hf.idle hb (by omega), show (150 : Int) + (p : Int) = ((150 + p : Nat) : Int) by omega, hf.read, if_pos rfl]
    cases x with
    | none => rfl
    | some l =>
      show (if Crc.sum l = Crc.sum (tb p) then _ else _) = _
      rw [if_neg (hx l rfl)]
theorem Okf.fail {F : Dv} {n p : Nat} (h : Okf F n) (hn : n ≤ 20) (hp : p < n) : Oke (F.fail ((150 + p : Nat) : Int)) n p :=
  Oke.of h hn hp (Dv.fail_is h.idle (h.may p hp)) (fun l e => by cases e)
theorem Okf.spoil {F : Dv} {n p : Nat} (h : Okf F n) (hn : n ≤ 20) (hp : p < n) {q : Nat} (hq : q ≤ 252) {t : Nat} (h0 : t ≠ 0) (ht : t < 4294967296) : Oke (F.spoil ((150 + p : Nat) : Int) (q : Int) t) n p :=
  Oke.of h hn hp (Dv.spoil_is h.idle (h.may p hp) (h.read p hp) (p := (q : Int)) (by omega) h0) (fun l e => by
    have h1 : Crc.sum (Crc.turned (tb p) (q : Int) t) ≠ Crc.sum (tb p) := Crc.turned_sum_ne (tb_bytes (by omega)) (by rw [tb_length]; omega) h0 ht
    rw [← Option.some.inj e]
    exact h1)
end Go.Proofs.YtjecnjgngahmfaaDoor.BlobW
