/- Plain facts: roots saved one behind the other, the last save cut off at any call. -/
import Derived.Test.YtlljpljfmaaejaaDoorRootCut
import Derived.Test.YtlljpljfmaaejaaDoorRootMade
namespace Go.Proofs.YtlljpljfmaaejaaDoor.RootW
open Go Go.RowKit Go.Maps Go.Proofs.YtlljpljfmaaejaaDoor.Mem Go.Proofs.YtlljpljfmaaejaaDoor.MapsW Go.Proofs.YtlljpljfmaaejaaDoor.RootP Go.Proofs.YtlljpljfmaaejaaDoor.DevG Go.Proofs.YtlljpljfmaaejaaDoor.DevL
set_option linter.unusedVariables false
set_option maxRecDepth 100000

/-- the numbers of the i-th root -/
def listOf (l : List Int) (i : Nat) : List Int := if i < l.length then [l.getD i 0 % 5000, (i : Int)] else [(i : Int), 7, 8]
def rs (l : List Int) (i : Nat) : Rt := madeR (i : Int) (listOf l i)
theorem rs_ep (l : List Int) (i : Nat) : (rs l i).ep = (i : Int) ∧ (rs l i).ep.toNat = i := ⟨rfl, Int.toNat_natCast i⟩
theorem rs_fine (l : List Int) {i : Nat} (h1 : 1 ≤ i) (h2 : i ≤ 21) : Fine (rs l i) := by
  refine ⟨(good_iff _).1 ?_, fun x hx => ?_⟩
  · unfold rs listOf amiss badE badR madeR
    split
    · have hm := Int.emod_nonneg (l.getD i 0) (b := 5000) (by decide)
      have hl := Int.emod_lt_of_pos (l.getD i 0) (b := 5000) (by decide)
      simp [refOf]
      omega
    · simp [refOf]
      omega
  · obtain ⟨z, _, rfl⟩ := List.mem_map.1 hx
    exact sumOf_lt z
/-- i roots saved -/
def svs (l : List Int) : Nat → Dv
  | 0 => Dv.new 300
  | i + 1 => (svs l i).saved 75 (i + 1) (enc (rs l (i + 1)))
structure Saves (l : List Int) (n : Nat) (D : Dv) : Prop where
  idle : D.Idle
  blocks : D.blocks = 300
  calls : D.calls ≤ 3 * n
  le : ∀ s ∈ spots 75, ∀ q, oneOf D (s : Int) = some q → q.ep ≤ (n : Int)
  top : 1 ≤ n → oneOf D ((n % 2 : Nat) : Int) = some (rs l n)
  eq : ∀ s ∈ spots 75, ∀ q, oneOf D (s : Int) = some q → q.ep = (n : Int) → q = rs l n
  none : n = 0 → ∀ i, oneOf D i = Option.none
theorem Saves.start (l : List Int) : Saves l 0 (Dv.new 300) := by
  have h : ∀ i, oneOf (Dv.new 300) i = Option.none := fun i => by unfold oneOf; rw [Dv.new_read]; exact parse_zeros
  exact ⟨Dv.Idle.new 300, rfl, Nat.le_refl _, fun s _ q hq => (by rw [h] at hq; cases hq), fun h => absurd h (by decide), fun s _ q hq => (by rw [h] at hq; cases hq), fun _ => h⟩
theorem Saves.next {l : List Int} {n : Nat} {D : Dv} (h : Saves l n D) (hn : n ≤ 20) : Saves l (n + 1) (D.saved 75 (n + 1) (enc (rs l (n + 1)))) := by
  have hf := rs_fine l (i := n + 1) (by omega) (by omega)
  have hs := saved_one h.idle 75 hf
  rw [(rs_ep l (n + 1)).2] at hs
  refine ⟨Dv.saved_idle h.idle 75 _ hf.bytes, h.blocks, by show D.calls + 1 + 1 + 1 ≤ _; have := h.calls; omega, fun s hs' q hq => ?_, fun _ => ?_, fun s hs' q hq he => ?_, fun e => absurd e (by omega)⟩
  · rw [hs] at hq
    split at hq
    · cases hq; exact Int.le_refl _
    · have := h.le s hs' q hq; omega
  · rw [hs]; exact if_pos (.inl rfl)
  · rw [hs] at hq
    split at hq
    · cases hq; rfl
    · have := h.le s hs' q hq; omega
theorem Saves.of (l : List Int) : ∀ n, n ≤ 21 → Saves l n (svs l n)
  | 0, _ => Saves.start l
  | n + 1, h => (Saves.of l n (by omega)).next (by omega)
theorem Saves.best {l : List Int} {n : Nat} {D : Dv} (h : Saves l n D) (h1 : 1 ≤ n) (h2 : n ≤ 21) : bestOf D 75 = rs l n := by
  refine best_of (by rw [(rs_ep l n).1]; omega) ⟨n % 2, (spot_of 75 n).1, h.top h1⟩ fun s hs q hq => ?_
  by_cases e : q.ep = (n : Int)
  · exact .inl (h.eq s hs q hq e)
  · have := h.le s hs q hq
    rw [(rs_ep l n).1]
    exact .inr (by omega)
/-- the device behind k - 1 calls of a save, the power gone -/
def stop (D : Dv) (n : Nat) (b : List Nat) : Nat → Dv
  | 1 => { D with fuse := 0, down := true }
  | 2 => { D.put ((n % 2 : Nat) : Int) b with fuse := 0, down := true }
  | _ => cut D 75 n b
theorem save_stop {D : Dv} (h : D.Idle) (n : Nat) (b : List Nat) (k : Nat) (h1 : 1 ≤ k) (h3 : k ≤ 3) : ({ D with fuse := k } : Dv).save 75 n b = (some 5, stop D n b k) := by
  rcases (by omega : k = 1 ∨ k = 2 ∨ k = 3) with rfl | rfl | rfl
  · have e1 : ({ D with fuse := 1 } : Dv).tick = { D with fuse := 0, down := true } := Dv.tick_some h.down (by show 0 < 1; decide)
    unfold Dv.save
    rw [e1]
    rfl
  · have e1 : ({ D with fuse := 2 } : Dv).tick = { D with fuse := 1, down := false } := Dv.tick_some h.down (by show 0 < 2; decide)
    have e2 : ({ D with fuse := 2 } : Dv).wrote (n % 2) b = { D.put ((n % 2 : Nat) : Int) b with fuse := 1, down := false } := by unfold Dv.wrote; rw [e1]; rfl
    have e3 : ({ D.put ((n % 2 : Nat) : Int) b with fuse := 1, down := false } : Dv).tick = { D.put ((n % 2 : Nat) : Int) b with fuse := 0, down := true } := Dv.tick_some rfl (by show 0 < 1; decide)
    unfold Dv.save
    rw [e1, e2, e3]
    rfl
  · exact save_cut h 75 n b
theorem save_four {D : Dv} (h : D.Idle) (n : Nat) (b : List Nat) : ({ D with fuse := 4 } : Dv).save 75 n b = (none, { D.saved 75 n b with fuse := 1 }) := by
  have e1 : ({ D with fuse := 4 } : Dv).tick = { D with fuse := 3, down := false } := Dv.tick_some h.down (by show 0 < 4; decide)
  have e2 : ({ D with fuse := 4 } : Dv).wrote (n % 2) b = { D.put ((n % 2 : Nat) : Int) b with fuse := 3, down := false } := by unfold Dv.wrote; rw [e1]; rfl
  have e3 : ({ D.put ((n % 2 : Nat) : Int) b with fuse := 3, down := false } : Dv).tick = { D.put ((n % 2 : Nat) : Int) b with fuse := 2, down := false } := Dv.tick_some rfl (by show 0 < 3; decide)
  have e4 : ({ D.put ((n % 2 : Nat) : Int) b with fuse := 3, down := false } : Dv).wrote (n % 2 + 75) b = { (D.put ((n % 2 : Nat) : Int) b).put ((n % 2 + 75 : Nat) : Int) b with fuse := 2, down := false } := by unfold Dv.wrote; rw [e3]; rfl
  have e5 : ({ (D.put ((n % 2 : Nat) : Int) b).put ((n % 2 + 75 : Nat) : Int) b with fuse := 2, down := false } : Dv).tick = { (D.put ((n % 2 : Nat) : Int) b).put ((n % 2 + 75 : Nat) : Int) b with fuse := 1, down := false } := Dv.tick_some rfl (by show 0 < 2; decide)
  have hd := h.down
  unfold Dv.save Dv.flushT
  rw [e1, e2, e3, e4, e5]
  show (none, _) = (none, _)
  congr 1
  unfold Dv.saved Dv.flush
  refine Dv.same rfl rfl rfl rfl rfl rfl rfl rfl rfl rfl ?_
  exact hd.symm
theorem stop_pe {D : Dv} (h : D.Idle) (n : Nat) (b : List Nat) (k : Nat) (i : Int) (q : List Nat) (hq : (stop D n b k).pe i = some q) : q = b ∧ (i = ((n % 2 : Nat) : Int) ∨ i = ((n % 2 + 75 : Nat) : Int)) := by
  unfold stop at hq
  split at hq
  · change D.pe i = some q at hq
    rw [h.pe] at hq; cases hq
  · change upd D.pe ((n % 2 : Nat) : Int) (some b) i = some q at hq
    by_cases e : i = ((n % 2 : Nat) : Int)
    · rw [e, upd_same] at hq; cases hq; exact ⟨rfl, .inl e⟩
    · rw [upd_other _ _ e, h.pe] at hq; cases hq
  · change ((D.put ((n % 2 : Nat) : Int) b).put ((n % 2 + 75 : Nat) : Int) b).pe i = some q at hq
    rw [Dv.saved_pe h 75 n b i] at hq
    split at hq
    · cases hq; exact ⟨rfl, by assumption⟩
    · cases hq
theorem stop_same (D : Dv) (n : Nat) (b : List Nat) (k : Nat) : (stop D n b k).fl = D.fl ∧ (stop D n b k).fi = D.fi ∧ (stop D n b k).blocks = D.blocks ∧ (stop D n b k).calls ≤ D.calls + 2 ∧ (stop D n b k).np ≤ D.np + 2 := by
  have h1 : ∀ (E : Dv) (j : Int), (E.put j b).np ≤ E.np + 1 := fun E j => by
    show (if (E.pe j).isSome then E.np else E.np + 1) ≤ _
    split <;> omega
  unfold stop
  split
  · exact ⟨rfl, rfl, rfl, by show D.calls ≤ _; omega, by show D.np ≤ _; omega⟩
  · exact ⟨rfl, rfl, rfl, by show D.calls + 1 ≤ _; omega, by have := h1 D ((n % 2 : Nat) : Int); show (D.put _ b).np ≤ _; omega⟩
  · exact ⟨rfl, rfl, rfl, by show D.calls + 1 + 1 ≤ _; omega, by have := h1 D ((n % 2 : Nat) : Int); have := h1 (D.put ((n % 2 : Nat) : Int) b) ((n % 2 + 75 : Nat) : Int); show ((D.put _ b).put _ b).np ≤ _; omega⟩
/-- what there is behind the crash: some copies of the last one, else as it was -/
structure Rest (D E : Dv) (n : Nat) (b : List Nat) : Prop where
  idle : E.Idle
  blocks : E.blocks = D.blocks
  read : ∃ K : Int → Bool, (∀ i, K i = true → i = ((n % 2 : Nat) : Int) ∨ i = ((n % 2 + 75 : Nat) : Int)) ∧ ∀ i, E.read i = if K i then some b else D.read i
theorem rest {D : Dv} (h : D.Idle) (n : Nat) {b : List Nat} (hb : Crc.Bytes b) (k : Nat) {ks zs : List Int} (hK : Keys (stop D n b k).pe ks) : Rest D ((stop D n b k).crash ks zs) n b := by
  obtain ⟨s1, s2, s3, _, _⟩ := stop_same D n b k
  have hsel : ∀ i, sel ks zs i = true → (stop D n b k).pe i = some b ∧ (i = ((n % 2 : Nat) : Int) ∨ i = ((n % 2 + 75 : Nat) : Int)) := fun i hi => by
    unfold sel at hi
    obtain ⟨x, hx, hx2⟩ := List.any_eq_true.1 hi
    rw [Bool.and_eq_true, decide_eq_true_eq] at hx2
    have hxl := List.mem_range.1 hx
    have hm : i ∈ ks := by
      rw [← hx2.2, List.getD_eq_getElem?_getD, List.getElem?_eq_getElem hxl]
      exact List.getElem_mem _
    obtain ⟨q, hq⟩ := Option.isSome_iff_exists.1 ((hK.mem i).1 hm)
    obtain ⟨rfl, h2⟩ := stop_pe h n b k i q hq
    exact ⟨hq, h2⟩
  have hid : ((stop D n b k).crash ks zs).Idle := ⟨rfl, rfl, rfl, fun _ => rfl, fun i l hl => by
    change (if sel ks zs i then (stop D n b k).pe i else (stop D n b k).fl i) = some l at hl
    by_cases c : sel ks zs i = true
    · rw [if_pos c, (hsel i c).1] at hl; cases hl; exact hb
    · rw [if_neg c, s1] at hl; exact h.fl i l hl⟩
  refine ⟨hid, s3, sel ks zs, fun i hi => (hsel i hi).2, fun i => ?_⟩
  rw [hid.read, h.read]
  unfold keptOf
  show (if (if sel ks zs i then false else (stop D n b k).fi i) then none else some ((if sel ks zs i then (stop D n b k).pe i else (stop D n b k).fl i).getD _)) = _
  by_cases c : sel ks zs i = true
  · rw [if_pos c, if_pos c, if_pos c, (hsel i c).1]; rfl
  · rw [if_neg c, if_neg c, if_neg c, s1, s2]
/-- the last one, or the one ahead, or none ahead of the first -/
theorem Rest.best {l : List Int} {n : Nat} {D E : Dv} (hD : Saves l n D) (hn : n ≤ 20) (h : Rest D E (n + 1) (enc (rs l (n + 1)))) : bestOf E 75 = rs l (n + 1) ∨ (1 ≤ n ∧ bestOf E 75 = rs l n) ∨ (n = 0 ∧ bestOf E 75 = ⟨0, []⟩) := by
  obtain ⟨K, hK, hR⟩ := h.read
  have hf := rs_fine l (i := n + 1) (by omega) (by omega)
  have ho : ∀ i, oneOf E i = if K i then some (rs l (n + 1)) else oneOf D i := fun i => by
    unfold oneOf
    rw [hR]
    cases K i
    · rfl
    · exact hf.parse
  by_cases hk : ∃ s ∈ spots 75, K (s : Int) = true
  · obtain ⟨s, hs, hk⟩ := hk
    refine .inl (best_of (by rw [(rs_ep l (n + 1)).1]; omega) ⟨s, hs, by rw [ho, hk]; rfl⟩ fun s' hs' q hq => ?_)
    rw [ho] at hq
    split at hq
    · cases hq; exact .inl rfl
    · have := hD.le s' hs' q hq
      rw [(rs_ep l (n + 1)).1]
      exact .inr (by omega)
  · have hk0 : ∀ s ∈ spots 75, K (s : Int) = false := fun s hs => by
      cases h : K (s : Int)
      · rfl
      · exact absurd ⟨s, hs, h⟩ hk
    have ho' : ∀ s ∈ spots 75, oneOf E (s : Int) = oneOf D (s : Int) := fun s hs => by rw [ho, hk0 s hs]; rfl
    rcases Nat.eq_zero_or_pos n with h0 | h0
    · exact .inr (.inr ⟨h0, best_none fun s hs => by rw [ho' s hs]; exact hD.none h0 _⟩)
    · refine .inr (.inl ⟨h0, best_of (by rw [(rs_ep l n).1]; omega) ⟨n % 2, (spot_of 75 n).1, by rw [ho' _ (spot_of 75 n).1]; exact hD.top h0⟩ fun s hs q hq => ?_⟩)
      rw [ho' s hs] at hq
      by_cases e : q.ep = (n : Int)
      · exact .inl (hD.eq s hs q hq e)
      · have := hD.le s hs q hq
        rw [(rs_ep l n).1]
        exact .inr (by omega)
/-- where nothing was pending a crash changes nothing but the fuse -/
theorem crash_idle {D : Dv} (h : D.Idle) (f : Nat) {ks zs : List Int} (hK : Keys ({ D with fuse := f } : Dv).pe ks) : ({ D with fuse := f } : Dv).crash ks zs = D := by
  have hk : ks = [] := by
    cases ks with
    | nil => rfl
    | cons x ks =>
      have := (hK.mem x).1 List.mem_cons_self
      rw [show ({ D with fuse := f } : Dv).pe x = none from h.pe x] at this
      cases this
  subst hk
  have hs : ∀ i, sel [] zs i = false := fun i => rfl
  unfold Dv.crash
  simp only [hs]
  exact Dv.same rfl rfl (funext fun i => (h.pe i).symm) rfl rfl rfl h.np.symm rfl rfl h.fuse.symm h.down.symm
end Go.Proofs.YtlljpljfmaaejaaDoor.RootW
