/- Plain facts: texts of paths, as PathBack makes them. -/
import Derived.Test.YtagbnacffiagcaaDoorPathPick
namespace Go.Proofs.YtagbnacffiagcaaDoor.PathW
open Go Go.RowKit Go.Proofs.YtagbnacffiagcaaDoor.Mem Go.Proofs.YtagbnacffiagcaaDoor.SeeW
set_option linter.unusedVariables false
set_option maxRecDepth 100000

/-- the parts that are picked from; what stands between -/
def choice6 : List ByteArray := [⟨#[97]⟩, ⟨#[98, 98]⟩, ⟨#[46, 46]⟩, ⟨#[99, 46, 100]⟩, ⟨#[46, 46, 46]⟩, ⟨#[120, 32, 121]⟩]
def pick6 (z : Int) : ByteArray := choice6.getD (z % 6).toNat ⟨#[]⟩
def gaps : List ByteArray := [⟨#[]⟩, ⟨#[47]⟩, ⟨#[46, 47]⟩, ⟨#[47, 46, 47, 46, 47, 47]⟩]
def gap (z : Int) : ByteArray := gaps.getD (z % 4).toNat ⟨#[]⟩
theorem pick6_at (z : Int) : choice6[(z % 6).toNat]? = some (pick6 z) := by
  have h1 := Int.emod_nonneg z (b := 6) (by omega)
  have h2 := Int.emod_lt_of_pos z (b := 6) (by omega)
  unfold pick6
  rw [List.getD_eq_getElem?_getD]
  have : (z % 6).toNat < choice6.length := by show _ < 6; omega
  rw [List.getElem?_eq_getElem this]
  rfl
theorem gap_at (z : Int) : gaps[(z % 4).toNat]? = some (gap z) := by
  have h1 := Int.emod_nonneg z (b := 4) (by omega)
  have h2 := Int.emod_lt_of_pos z (b := 4) (by omega)
  unfold gap
  rw [List.getD_eq_getElem?_getD]
  have : (z % 4).toNat < gaps.length := by show _ < 4; omega
  rw [List.getElem?_eq_getElem this]
  rfl
/-- a part as it is here -/
def Fine (x : List UInt8) : Prop := Path.Nice x ∧ 0 < x.length ∧ x.length ≤ 3
theorem pick6_fine (z : Int) : Fine (pick6 z).data.toList := by
  have h := List.mem_of_getElem? (pick6_at z)
  simp only [choice6, List.mem_cons, List.not_mem_nil, or_false] at h
  unfold Fine Path.Nice
  rcases h with h | h | h | h | h | h <;> rw [h] <;> decide
/-- what stands between changes nothing -/
def Thin (g : List UInt8) : Prop := (∀ x, Path.Nice x → Path.parts (g ++ x) = [x]) ∧ (0 : UInt8) ∉ g ∧ g.length ≤ 6
theorem thin_nil : Thin [] := ⟨fun x h => Path.parts_one h, by decide, by decide⟩
theorem gap_thin (z : Int) : Thin (gap z).data.toList := by
  have h := List.mem_of_getElem? (gap_at z)
  simp only [gaps, List.mem_cons, List.not_mem_nil, or_false] at h
  have dot : ∀ l, Path.parts (46 :: 47 :: l) = Path.parts l := fun l => by
    have := Path.parts_mid [46] l
    exact this
  rcases h with h | h | h | h <;> rw [h]
  · exact thin_nil
  · exact ⟨fun x hx => (Path.parts_slash x).trans (Path.parts_one hx), by decide, by decide⟩
  · exact ⟨fun x hx => (dot x).trans (Path.parts_one hx), by decide, by decide⟩
  · exact ⟨fun x hx => by
      show Path.parts (47 :: 46 :: 47 :: 46 :: 47 :: 47 :: x) = _
      rw [Path.parts_slash, dot, dot, Path.parts_slash]
      exact Path.parts_one hx, by decide, by decide⟩

/-- a text of parts, each behind a slash and something that changes nothing -/
inductive Body : List (List UInt8) → List UInt8 → Prop where
  | nil : Body [] []
  | snoc {xs : List (List UInt8)} {t g x : List UInt8} (h : Body xs t) (hg : Thin g) (hx : Fine x) : Body (xs ++ [x]) (t ++ 47 :: (g ++ x))
theorem Body.fine {xs : List (List UInt8)} {t : List UInt8} (h : Body xs t) : ∀ x ∈ xs, Fine x := by
  induction h with
  | nil => intro x hx; cases hx
  | snoc h hg hx ih =>
    intro y hy
    rcases List.mem_append.1 hy with hy | hy
    · exact ih y hy
    · rw [List.mem_singleton.1 hy]; exact hx
theorem Body.parts {xs : List (List UInt8)} {t : List UInt8} (h : Body xs t) : Path.parts t = xs := by
  induction h with
  | nil => rfl
  | snoc h hg hx ih => rw [Path.parts_mid, ih, hg.1 _ hx.1]
theorem Body.size {xs : List (List UInt8)} {t : List UInt8} (h : Body xs t) : t.length ≤ xs.length * 10 := by
  induction h with
  | nil => exact Nat.zero_le _
  | snoc h hg hx ih =>
    have h1 := hg.2.2
    have h2 := hx.2.2
    rw [List.length_append, List.length_append, List.length_cons, List.length_append, List.length_singleton]
    omega
theorem Body.zero {xs : List (List UInt8)} {t : List UInt8} (h : Body xs t) : (0 : UInt8) ∉ t := by
  induction h with
  | nil => decide
  | snoc h hg hx ih =>
    intro hm
    rw [List.mem_append, List.mem_cons, List.mem_append] at hm
    rcases hm with hm | hm | hm | hm
    · exact ih hm
    · revert hm; decide
    · exact hg.2.1 hm
    · exact hx.1.2.2.1 hm
theorem Body.head {xs : List (List UInt8)} {t : List UInt8} (h : Body xs t) : t = [] ∧ xs = [] ∨ t.head? = some 47 ∧ xs ≠ [] := by
  induction h with
  | nil => exact .inl ⟨rfl, rfl⟩
  | snoc h hg hx ih =>
    refine .inr ⟨?_, by simp⟩
    rcases ih with ⟨rfl, _⟩ | ⟨h1, _⟩
    · rfl
    · rw [List.head?_append, h1]; rfl
theorem Body.last {xs : List (List UInt8)} {t : List UInt8} (h : Body xs t) : t.getLast? ≠ some 47 := by
  cases h with
  | nil => simp
  | snoc h hg hx =>
    rename_i xs t g x
    have hl := hx.2.1
    have e : (t ++ 47 :: (g ++ x)).getLast? = x.getLast? := by
      rw [show t ++ 47 :: (g ++ x) = (t ++ 47 :: g) ++ x by simp, List.getLast?_append]
      cases hq : x.getLast? with
      | none => rw [List.getLast?_eq_none_iff] at hq; rw [hq] at hl; cases hl
      | some c => rfl
    rw [e]
    intro h47
    have := List.mem_of_getLast? h47
    exact hx.1.2.1 _ this rfl
/-- such a text is read as it is: a slash may stand behind it -/
theorem Body.read {xs : List (List UInt8)} {t : List UInt8} (h : Body xs t) (h8 : xs.length ≤ 8) (s : ByteArray) (sl : Bool) (hs : s.data.toList = t ++ if sl then [47] else []) (hz : xs = [] → sl = true) :
    bad s = 0 ∧ out s = (xs.map fun l => ⟨l.toArray⟩) ∧ slash s = (sl && decide (0 < xs.length)) ∧ s.size ≤ 81 := by
  have hp : Path.parts s.data.toList = xs := by
    rw [hs]
    cases sl
    · simpa using h.parts
    · show Path.parts (t ++ 47 :: []) = xs
      rw [Path.parts_mid, h.parts]
      exact List.append_nil _
  have hl := h.size
  have hsz : s.data.toList.length ≤ 81 := by
    rw [hs, List.length_append]
    cases sl <;> simp <;> omega
  have hb : bad s = 0 := by
    refine Path.bad_zero ?_ (by omega) ?_ ?_
    · rw [hs]
      rcases h.head with ⟨rfl, h2⟩ | ⟨h1, h2⟩
      · rw [hz h2]; rfl
      · rw [List.head?_append, h1]; rfl
    · rw [hs]
      intro hm
      rw [List.mem_append] at hm
      rcases hm with hm | hm
      · exact h.zero hm
      · cases sl
        · cases hm
        · revert hm; decide
    · rw [hp]
      intro x hx
      exact (h.fine x hx).1.2.2.2
  refine ⟨hb, out_eq hb hp, ?_, ?_⟩
  · unfold slash
    rw [if_pos hb]
    unfold Path.slash
    rw [hp, hs]
    cases sl
    · have : ((t ++ if false = true then [47] else []).getLast? == some 47) = false := by
        rw [beq_eq_false_iff_ne]
        simpa using h.last
      rw [this, Bool.and_false, Bool.false_and]
    · have : ((t ++ if true = true then [47] else []).getLast? == some 47) = true := by
        rw [beq_iff_eq]
        simp
      rw [this, Bool.and_true, Bool.true_and]
      cases xs <;> simp
  · have : s.data.toList.length = s.size := by rw [Array.length_toList]; rfl
    omega
/-- the path's own text, and joined parts -/
theorem body_joined (xs : List ByteArray) (h : ∀ x ∈ xs, Fine x.data.toList) : Body (ls xs) (joined [] xs) := by
  have key : ∀ k, k ≤ xs.length → Body (ls (xs.take k)) (joined [] (xs.take k)) := by
    intro k
    induction k with
    | zero => intro _; exact Body.nil
    | succ k ih =>
      intro hk
      rw [List.take_succ_eq_append_getElem hk, joined_succ]
      have := (ih (by omega)).snoc (g := []) thin_nil (h xs[k] (List.getElem_mem _))
      rw [List.nil_append] at this
      show Body ((xs.take k ++ [xs[k]]).map _) _
      rw [List.map_append]
      exact this
  have := key xs.length (Nat.le_refl _)
  rwa [List.take_length] at this
theorem join_joined : ∀ (xs : List ByteArray), xs ≠ [] → 47 :: Lib.join (ls xs) [47] = joined [] xs := by
  intro xs
  induction xs with
  | nil => intro h; exact absurd rfl h
  | cons x r ih =>
    intro _
    cases r with
    | nil => show 47 :: Lib.join [x.data.toList] [47] = _; rw [Lib.join_one]; simp [joined]
    | cons y r =>
      show 47 :: Lib.join (x.data.toList :: y.data.toList :: ls r) [47] = _
      rw [Path.join_cons2]
      have := ih (by simp)
      rw [show 47 :: (x.data.toList ++ 47 :: Lib.join (y.data.toList :: ls r) [47]) = (47 :: x.data.toList) ++ (47 :: Lib.join (ls (y :: r)) [47]) from by simp, this]
      simp [joined]
theorem Body.again {xs : List ByteArray} {t : List UInt8} (h : Body (ls xs) t) (h8 : xs.length ≤ 8) (s : ByteArray) (f : Bool) (hs : s.data.toList = t ++ if f then [47] else []) (hz : xs = [] → f = true) :
    bad s = 0 ∧ out s = xs ∧ slash s = (f && decide (0 < xs.length)) ∧ s.size ≤ 81 := by
  have := h.read (by simpa using h8) s f hs (fun e => hz (List.map_eq_nil_iff.1 e))
  refine ⟨this.1, ?_, by simpa using this.2.2.1, this.2.2.2⟩
  rw [this.2.1, List.map_map]
  have : ((fun l : List UInt8 => (⟨l.toArray⟩ : ByteArray)) ∘ fun x : ByteArray => x.data.toList) = id := by funext x; rfl
  rw [this, List.map_id]
end Go.Proofs.YtagbnacffiagcaaDoor.PathW
