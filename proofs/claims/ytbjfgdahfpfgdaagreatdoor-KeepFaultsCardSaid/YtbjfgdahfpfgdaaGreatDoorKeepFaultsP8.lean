/- How all lies behind a commit: what is laid, and that it is, where there is room; What a store has, and what it has behind a commit; What a store has behind a commit fits what it is to have; Where there is room a commit is laid; The keys of a map of rows, rising: slices.Sorted of maps.Keys; Maps of ints keyed by an int: 1 at each of the keys; how many. -/
import Derived.Test.YtbjfgdahfpfgdaaGreatDoorKeepFaultsP7
import Derived.Test.YtbjfgdahfpfgdaaGreatDoorShelf
import Derived.Test.YtbjfgdahfpfgdaaGreatDoorKeepFaultsP1
namespace Go.Proofs.YtbjfgdahfpfgdaaGreatDoor.PgP
open Go.Proofs.YtbjfgdahfpfgdaaGreatDoor.RootP Go.Proofs.YtbjfgdahfpfgdaaGreatDoor.MapsW
set_option linter.unusedVariables false
set_option maxRecDepth 100000

/-- is a page to be there? -/
def needs (N : Int → Option (List Nat)) (p : Nat) : Bool := decide ((N (p : Int)).getD [] ≠ [])
/-- behind some pages -/
structure PInv (N : Int → Option (List Nat)) (T : List Ref) (F : Int → Option Ref) (fr ks : List Nat) (x : Lay) : Prop where
  tabs : x.tabs = T
  nt : x.nt = []
  pg : x.pg = ks.filter (needs N)
  free : ∃ us : List Nat, fr = us ++ x.free ∧ us.length = x.pg.length ∧ ∀ (j : Nat) (h1 : j < x.pg.length) (h2 : j < us.length), x.at_ ((x.pg[j] : Nat) : Int) = some ((us[j] : Int), 0)
  old : ∀ i : Int, (∀ p ∈ ks, (p : Int) ≠ i) → x.at_ i = F i
  gone : ∀ p ∈ ks, needs N p = false → x.at_ (p : Int) = none
theorem PInv.init (N : Int → Option (List Nat)) (T : List Ref) (F : Int → Option Ref) (fr : List Nat) : PInv N T F fr [] ⟨T, F, [], [], fr⟩ :=
  ⟨rfl, rfl, rfl, ⟨[], rfl, rfl, fun j h => absurd h (Nat.not_lt_zero _)⟩, fun _ _ => rfl, fun p hp => absurd hp List.not_mem_nil⟩
theorem needs_false {N : Int → Option (List Nat)} {p : Nat} (h : needs N p = false) : (N (p : Int)).getD [] = [] := by
  unfold needs at h
  simpa using h
theorem needs_true {N : Int → Option (List Nat)} {p : Nat} (h : needs N p = true) : (N (p : Int)).getD [] ≠ [] := by
  unfold needs at h
  simpa using h
theorem PInv.skip {N : Int → Option (List Nat)} {T : List Ref} {F : Int → Option Ref} {fr ks : List Nat} {x : Lay} (h : PInv N T F fr ks x) {p : Nat} (hp : p ∉ ks) (hn : needs N p = false) :
    layP N x p = some { x with at_ := upd x.at_ p none } ∧ PInv N T F fr (ks ++ [p]) { x with at_ := upd x.at_ p none } := by
  have hmem : ∀ z ∈ x.pg, z ∈ ks := by
    intro z hz
    rw [h.pg] at hz
    exact (List.mem_filter.1 hz).1
  refine ⟨by unfold layP; rw [if_pos (needs_false hn)], h.tabs, h.nt, ?_, ?_, ?_, ?_⟩
  · show x.pg = _
    rw [List.filter_append, h.pg]
    simp [hn]
  · obtain ⟨us, h1, h2, h3⟩ := h.free
    refine ⟨us, h1, h2, fun j h4 h5 => ?_⟩
    show upd x.at_ p none _ = _
    have hm : x.pg[j] ∈ ks := hmem _ (List.getElem_mem h4)
    rw [upd_other _ _ (fun e => hp (by rw [← Int.natCast_inj.1 e]; exact hm))]
    exact h3 j h4 h5
  · intro i hi
    show upd x.at_ p none i = _
    rw [upd_other _ _ (fun e => hi p (by simp) e.symm)]
    exact h.old i fun q hq => hi q (by simp [hq])
  · intro q hq hqn
    show upd x.at_ p none _ = _
    by_cases e : q = p
    · subst e; exact upd_same _ _ _
    · rw [upd_other _ _ (fun e' => e (Int.natCast_inj.1 e'))]
      refine h.gone q ?_ hqn
      rcases List.mem_append.1 hq with hq | hq
      · exact hq
      · exact absurd (List.mem_singleton.1 hq) e
theorem PInv.take {N : Int → Option (List Nat)} {T : List Ref} {F : Int → Option Ref} {fr ks : List Nat} {x : Lay} (h : PInv N T F fr ks x) {p : Nat} (hp : p ∉ ks) (hn : needs N p = true) {f : Nat} {fs : List Nat} (hf : x.free = f :: fs) :
    layP N x p = some { x with at_ := upd x.at_ p (some ((f : Int), 0)), pg := x.pg ++ [p], free := fs } ∧ PInv N T F fr (ks ++ [p]) { x with at_ := upd x.at_ p (some ((f : Int), 0)), pg := x.pg ++ [p], free := fs } := by
  have hmem : ∀ z ∈ x.pg, z ∈ ks := by
    intro z hz
    rw [h.pg] at hz
    exact (List.mem_filter.1 hz).1
  refine ⟨by unfold layP; rw [if_neg (needs_true hn), hf], h.tabs, h.nt, ?_, ?_, ?_, ?_⟩
  · show x.pg ++ [p] = _
    rw [List.filter_append, h.pg]
    simp [hn]
  · obtain ⟨us, h1, h2, h3⟩ := h.free
    refine ⟨us ++ [f], by rw [h1, hf]; simp, by simp [h2], fun j h4 h5 => ?_⟩
    show upd x.at_ p (some ((f : Int), 0)) (((x.pg ++ [p])[j] : Nat) : Int) = _
    have h4' : j < (x.pg ++ [p]).length := h4
    rw [List.length_append, List.length_singleton] at h4'
    by_cases e : j < x.pg.length
    · have hm : x.pg[j] ∈ ks := hmem _ (List.getElem_mem e)
      rw [List.getElem_append_left e, List.getElem_append_left (by omega), upd_other _ _ (fun e => hp (by rw [← Int.natCast_inj.1 e]; exact hm))]
      exact h3 j e (by omega)
    · obtain rfl : j = x.pg.length := by omega
      rw [List.getElem_append_right (Nat.le_refl _), List.getElem_append_right (by omega)]
      simp [h2, upd_same]
  · intro i hi
    show upd x.at_ p _ i = _
    rw [upd_other _ _ (fun e => hi p (by simp) e.symm)]
    exact h.old i fun q hq => hi q (by simp [hq])
  · intro q hq hqn
    show upd x.at_ p _ _ = _
    have e : q ≠ p := by rintro rfl; rw [hn] at hqn; cases hqn
    rw [upd_other _ _ (fun e' => e (Int.natCast_inj.1 e'))]
    refine h.gone q ?_ hqn
    rcases List.mem_append.1 hq with hq | hq
    · exact hq
    · exact absurd (List.mem_singleton.1 hq) e
theorem foldlM_snoc {α β : Type} (f : β → α → Option β) : ∀ (l : List α) (x : β) (a : α), (l ++ [a]).foldlM f x = (l.foldlM f x).bind fun y => f y a
  | [], x, a => by
    show (f x a).bind (fun y => some y) = f x a
    cases f x a <;> rfl
  | b :: l, x, a => by
    show (f x b).bind (fun y => (l ++ [a]).foldlM f y) = ((f x b).bind fun y => l.foldlM f y).bind fun y => f y a
    cases f x b with
    | none => rfl
    | some y => exact foldlM_snoc f l y a
theorem layP_all (N : Int → Option (List Nat)) (T : List Ref) (F : Int → Option Ref) (fr : List Nat) (ks : List Nat) (hk : ks.Nodup) :
    (∃ x, ks.foldlM (layP N) ⟨T, F, [], [], fr⟩ = some x ∧ PInv N T F fr ks x) ∨ (ks.foldlM (layP N) ⟨T, F, [], [], fr⟩ = none ∧ fr.length < (ks.filter (needs N)).length) := by
  suffices h : ∀ n, ∀ ks : List Nat, ks.length = n → ks.Nodup → (∃ x, ks.foldlM (layP N) ⟨T, F, [], [], fr⟩ = some x ∧ PInv N T F fr ks x) ∨ (ks.foldlM (layP N) ⟨T, F, [], [], fr⟩ = none ∧ fr.length < (ks.filter (needs N)).length) from h _ ks rfl hk
  intro n
  induction n with
  | zero => intro ks hl _; obtain rfl := List.length_eq_zero_iff.1 hl; exact .inl ⟨_, rfl, PInv.init N T F fr⟩
  | succ n ih =>
    intro ks hl hnd
    obtain ⟨ks, p, rfl⟩ : ∃ l a, ks = l ++ [a] := by
      have : ks ≠ [] := by rintro rfl; simp at hl
      exact ⟨_, _, (List.dropLast_concat_getLast this).symm⟩
    have hnp : p ∉ ks := by
      have := List.nodup_append.1 hnd
      intro hm
      exact this.2.2 p hm p (by simp) rfl
    rw [foldlM_snoc]
    rcases ih ks (by simpa using hl) (List.nodup_append.1 hnd).1 with ⟨x, hx, hI⟩ | ⟨hx, hlt⟩
    · rw [hx]
      show (∃ y, layP N x p = some y ∧ _) ∨ (layP N x p = none ∧ _)
      cases hn : needs N p with
      | false => exact .inl ⟨_, hI.skip hnp hn⟩
      | true =>
        cases hf : x.free with
        | cons f fs => exact .inl ⟨_, hI.take hnp hn hf⟩
        | nil =>
          refine .inr ⟨by unfold layP; rw [if_neg (needs_true hn), hf], ?_⟩
          obtain ⟨us, h1, h2, _⟩ := hI.free
          rw [hf, List.append_nil] at h1
          rw [List.filter_append, List.length_append, ← hI.pg, ← h2, h1]
          simp [hn]
    · rw [hx]
      refine .inr ⟨rfl, ?_⟩
      rw [List.filter_append, List.length_append]
      omega
/-- behind some tables -/
structure TInv (T : List Ref) (F : Int → Option Ref) (pg fr ts : List Nat) (x : Lay) : Prop where
  at_ : x.at_ = F
  pg : x.pg = pg
  nt : x.nt = ts.filter (has F)
  len : x.tabs.length = T.length
  free : ∃ us : List Nat, fr = us ++ x.free ∧ us.length = x.nt.length ∧ ∀ (j : Nat) (h1 : j < x.nt.length) (h2 : j < us.length), x.tabs.getD x.nt[j] (0, 0) = ((us[j] : Int), 0)
  old : ∀ t, t ∉ ts → x.tabs[t]? = T[t]?
  gone : ∀ t ∈ ts, has F t = false → x.tabs.getD t (0, 0) = (0, 0)
theorem TInv.init (T : List Ref) (F : Int → Option Ref) (pg fr : List Nat) : TInv T F pg fr [] ⟨T, F, [], pg, fr⟩ :=
  ⟨rfl, rfl, rfl, rfl, ⟨[], rfl, rfl, fun j h => absurd h (Nat.not_lt_zero _)⟩, fun _ _ => rfl, fun p hp => absurd hp List.not_mem_nil⟩
theorem getD_set_ne {α : Type} (l : List α) {i j : Nat} (a d : α) (h : i ≠ j) : (l.set i a).getD j d = l.getD j d := by
  simp only [List.getD_eq_getElem?_getD, List.getElem?_set_ne h]
theorem getD_set_same {α : Type} (l : List α) {i : Nat} (a d : α) (h : i < l.length) : (l.set i a).getD i d = a := by
  simp [List.getD_eq_getElem?_getD, h]
theorem TInv.skip {T : List Ref} {F : Int → Option Ref} {pg fr ts : List Nat} {x : Lay} (h : TInv T F pg fr ts x) {t : Nat} (ht : t ∉ ts) (hn : has F t = false) :
    layT x t = some { x with tabs := x.tabs.set t (0, 0) } ∧ TInv T F pg fr (ts ++ [t]) { x with tabs := x.tabs.set t (0, 0) } := by
  have hmem : ∀ z ∈ x.nt, z ∈ ts := by
    intro z hz
    rw [h.nt] at hz
    exact (List.mem_filter.1 hz).1
  refine ⟨by unfold layT; rw [h.at_, if_neg (by simp [hn])], h.at_, h.pg, ?_, by simp [h.len], ?_, ?_, ?_⟩
  · show x.nt = _
    rw [List.filter_append, h.nt]
    simp [hn]
  · obtain ⟨us, h1, h2, h3⟩ := h.free
    refine ⟨us, h1, h2, fun j h4 h5 => ?_⟩
    show (x.tabs.set t (0, 0)).getD x.nt[j] (0, 0) = _
    have hm : x.nt[j] ∈ ts := hmem _ (List.getElem_mem h4)
    rw [getD_set_ne _ _ _ (fun e => ht (by rw [e]; exact hm))]
    exact h3 j h4 h5
  · intro u hu
    show (x.tabs.set t (0, 0))[u]? = _
    rw [List.getElem?_set_ne (by rintro rfl; exact hu (by simp))]
    exact h.old u fun hm => hu (by simp [hm])
  · intro u hu hun
    show (x.tabs.set t (0, 0)).getD u (0, 0) = _
    by_cases e : t = u
    · subst e
      by_cases hl : t < x.tabs.length
      · exact getD_set_same _ _ _ hl
      · simp [List.getD_eq_getElem?_getD, List.getElem?_eq_none (Nat.le_of_not_lt hl), List.set_eq_of_length_le (Nat.le_of_not_lt hl)]
    · rw [getD_set_ne _ _ _ e]
      refine h.gone u ?_ hun
      rcases List.mem_append.1 hu with hu | hu
      · exact hu
      · exact absurd (List.mem_singleton.1 hu).symm e
theorem TInv.take {T : List Ref} {F : Int → Option Ref} {pg fr ts : List Nat} {x : Lay} (h : TInv T F pg fr ts x) {t : Nat} (ht : t ∉ ts) (htl : t < T.length) (hn : has F t = true) {f : Nat} {fs : List Nat} (hf : x.free = f :: fs) :
    layT x t = some { x with tabs := x.tabs.set t ((f : Int), 0), nt := x.nt ++ [t], free := fs } ∧ TInv T F pg fr (ts ++ [t]) { x with tabs := x.tabs.set t ((f : Int), 0), nt := x.nt ++ [t], free := fs } := by
  have hmem : ∀ z ∈ x.nt, z ∈ ts := by
    intro z hz
    rw [h.nt] at hz
    exact (List.mem_filter.1 hz).1
  refine ⟨by unfold layT; rw [h.at_, if_pos hn, hf], h.at_, h.pg, ?_, by simp [h.len], ?_, ?_, ?_⟩
  · show x.nt ++ [t] = _
    rw [List.filter_append, h.nt]
    simp [hn]
  · obtain ⟨us, h1, h2, h3⟩ := h.free
    refine ⟨us ++ [f], by rw [h1, hf]; simp, by simp [h2], fun j h4 h5 => ?_⟩
    show (x.tabs.set t ((f : Int), 0)).getD (x.nt ++ [t])[j] (0, 0) = _
    have h4' : j < (x.nt ++ [t]).length := h4
    rw [List.length_append, List.length_singleton] at h4'
    by_cases e : j < x.nt.length
    · have hm : x.nt[j] ∈ ts := hmem _ (List.getElem_mem e)
      rw [List.getElem_append_left e, List.getElem_append_left (by omega), getD_set_ne _ _ _ (fun e => ht (by rw [e]; exact hm))]
      exact h3 j e (by omega)
    · obtain rfl : j = x.nt.length := by omega
      rw [List.getElem_append_right (Nat.le_refl _), List.getElem_append_right (by omega)]
      simp only [Nat.sub_self, List.getElem_singleton, h2]
      rw [getD_set_same _ _ _ (by rw [h.len]; exact htl)]
  · intro u hu
    show (x.tabs.set t _)[u]? = _
    rw [List.getElem?_set_ne (by rintro rfl; exact hu (by simp))]
    exact h.old u fun hm => hu (by simp [hm])
  · intro u hu hun
    show (x.tabs.set t _).getD u (0, 0) = _
    have e : t ≠ u := by rintro rfl; rw [hn] at hun; cases hun
    rw [getD_set_ne _ _ _ e]
    refine h.gone u ?_ hun
    rcases List.mem_append.1 hu with hu | hu
    · exact hu
    · exact absurd (List.mem_singleton.1 hu).symm e
theorem layT_all (T : List Ref) (F : Int → Option Ref) (pg fr : List Nat) (ts : List Nat) (hk : ts.Nodup) (hts : ∀ t ∈ ts, t < T.length) :
    (∃ x, ts.foldlM layT ⟨T, F, [], pg, fr⟩ = some x ∧ TInv T F pg fr ts x) ∨ (ts.foldlM layT ⟨T, F, [], pg, fr⟩ = none ∧ fr.length < (ts.filter (has F)).length) := by
  suffices h : ∀ n, ∀ ts : List Nat, ts.length = n → ts.Nodup → (∀ t ∈ ts, t < T.length) → (∃ x, ts.foldlM layT ⟨T, F, [], pg, fr⟩ = some x ∧ TInv T F pg fr ts x) ∨ (ts.foldlM layT ⟨T, F, [], pg, fr⟩ = none ∧ fr.length < (ts.filter (has F)).length) from h _ ts rfl hk hts
  intro n
  induction n with
  | zero => intro ts hl _ _; obtain rfl := List.length_eq_zero_iff.1 hl; exact .inl ⟨_, rfl, TInv.init T F pg fr⟩
  | succ n ih =>
    intro ts hl hnd hT
    obtain ⟨ts, t, rfl⟩ : ∃ l a, ts = l ++ [a] := by
      have : ts ≠ [] := by rintro rfl; simp at hl
      exact ⟨_, _, (List.dropLast_concat_getLast this).symm⟩
    have hnp : t ∉ ts := by
      have := List.nodup_append.1 hnd
      intro hm
      exact this.2.2 t hm t (by simp) rfl
    rw [foldlM_snoc]
    rcases ih ts (by simpa using hl) (List.nodup_append.1 hnd).1 (fun u hu => hT u (by simp [hu])) with ⟨x, hx, hI⟩ | ⟨hx, hlt⟩
    · rw [hx]
      show (∃ y, layT x t = some y ∧ _) ∨ (layT x t = none ∧ _)
      cases hn : has F t with
      | false => exact .inl ⟨_, hI.skip hnp hn⟩
      | true =>
        cases hf : x.free with
        | cons f fs => exact .inl ⟨_, hI.take hnp (hT t (by simp)) hn hf⟩
        | nil =>
          refine .inr ⟨by unfold layT; rw [hI.at_, if_pos hn, hf], ?_⟩
          obtain ⟨us, h1, h2, _⟩ := hI.free
          rw [hf, List.append_nil] at h1
          rw [List.filter_append, List.length_append, ← hI.nt, ← h2, h1]
          simp [hn]
    · rw [hx]
      refine .inr ⟨rfl, ?_⟩
      rw [List.filter_append, List.length_append]
      omega
end Go.Proofs.YtbjfgdahfpfgdaaGreatDoor.PgP

namespace Go.Proofs.YtbjfgdahfpfgdaaGreatDoor.PgP
open Go.Proofs.YtbjfgdahfpfgdaaGreatDoor.RootP Go.Proofs.YtbjfgdahfpfgdaaGreatDoor.MapsW
set_option linter.unusedVariables false
set_option maxRecDepth 100000

/-- a store has the pages V, and blocks of which R speaks -/
structure Fit (H : Nat) (S : St) (V : Int → Option (List Nat)) (R : Nat → List Nat → Prop) : Prop where
  t7 : S.tabs.length = 7
  dom : ∀ i, (V i).isSome = true → 0 ≤ i ∧ i < 256
  len : ∀ i l, V i = some l → 1 ≤ l.length ∧ l.length ≤ 248 ∧ Crc.Bytes l
  off : ∀ i, V i = none → S.at_ i = none
  pg : ∀ i l, V i = some l → ∃ a : Nat, S.at_ i = some ((a : Int), Crc.sum (pblk l)) ∧ 2 ≤ a ∧ a < H ∧ R a (pblk l)
  tno : ∀ t, t < 7 → has S.at_ t = false → S.tabs.getD t (0, 0) = (0, 0)
  tb : ∀ t, t < 7 → has S.at_ t = true → ∃ a : Nat, S.tabs.getD t (0, 0) = ((a : Int), Crc.sum (tblk S.at_ t)) ∧ 2 ≤ a ∧ a < H ∧ R a (tblk S.at_ t)
  inj : ∀ i j r q, S.at_ i = some r → S.at_ j = some q → r.1 = q.1 → i = j
  tinj : ∀ t u, t < 7 → u < 7 → (S.tabs.getD t (0, 0)).1 = (S.tabs.getD u (0, 0)).1 → (S.tabs.getD t (0, 0)).1 ≠ 0 → t = u
  pt : ∀ i r t, S.at_ i = some r → t < 7 → (S.tabs.getD t (0, 0)).1 ≠ r.1
  rs : 0 < S.ep → S.rs = S.tabs
  zero : S.ep = 0 → ∀ i, V i = none
/-- what is changed over what is there -/
def view (N V : Int → Option (List Nat)) : Int → Option (List Nat) := fun i => match N i with
  | none => V i
  | some [] => none
  | some (x :: l) => some (x :: l)
theorem mem_keys {N : Int → Option (List Nat)} {p : Nat} : p ∈ keys N ↔ p < 256 ∧ (N (p : Int)).isSome = true := by
  unfold keys
  rw [List.mem_filter, List.mem_range]
theorem keys_nodup (N : Int → Option (List Nat)) : (keys N).Nodup := List.nodup_range.filter _
theorem mem_touched {ks : List Nat} {t : Nat} : t ∈ touched ks ↔ t < 7 ∧ ∃ p ∈ ks, p / 42 = t := by
  unfold touched
  rw [List.mem_filter, List.mem_range, List.any_eq_true]
  simp
theorem touched_nodup (ks : List Nat) : (touched ks).Nodup := List.nodup_range.filter _
theorem frees_nodup (T : List Ref) (F : Int → Option Ref) (H : Nat) : (frees T F H).Nodup := List.nodup_range.filter _
theorem mem_used {T : List Ref} {F : Int → Option Ref} {H a : Nat} : a ∈ used T F H ↔ a < H ∧ (a < 2 ∨ (∃ r ∈ T, r.1 = (a : Int)) ∨ ∃ p : Nat, p < 256 ∧ ∃ r, F (p : Int) = some r ∧ r.1 = (a : Int)) := by
  unfold used
  rw [List.mem_filter, List.mem_range]
  simp only [Bool.or_eq_true, decide_eq_true_eq, List.any_eq_true, List.mem_range, Option.any_eq_true, or_assoc]
theorem mem_frees {T : List Ref} {F : Int → Option Ref} {H a : Nat} : a ∈ frees T F H ↔ a < H ∧ 2 ≤ a ∧ a ∉ used T F H := by
  unfold frees
  rw [List.mem_filter, List.mem_range]
  simp
/-- how the sums stand behind the writes -/
theorem sumsP_is (N : Int → Option (List Nat)) : ∀ (pg : List Nat) (F : Int → Option Ref), pg.Nodup → ∀ i, sumsP N F pg i = if ∃ p ∈ pg, (p : Int) = i then some ((tref F i.toNat).1, Crc.sum (pblk ((N i).getD []))) else F i
  | [], F, _, i => by simp [sumsP]
  | p :: pg, F, h, i => by
    show sumsP N (sumP N F p) pg i = _
    rw [sumsP_is N pg _ (List.nodup_cons.1 h).2 i]
    have hp := (List.nodup_cons.1 h).1
    by_cases h1 : ∃ q ∈ pg, (q : Int) = i
    · obtain ⟨q, hq, rfl⟩ := h1
      have hne : (q : Int) ≠ (p : Int) := fun e => hp (by rw [← Int.natCast_inj.1 e]; exact hq)
      rw [if_pos ⟨q, hq, rfl⟩, if_pos ⟨q, by simp [hq], rfl⟩]
      simp only [Int.toNat_natCast, tref, sumP]
      rw [upd_other _ _ hne]
    · rw [if_neg h1]
      by_cases h2 : (p : Int) = i
      · subst h2
        rw [if_pos ⟨p, by simp, rfl⟩]
        simp only [sumP, upd_same, Int.toNat_natCast]
      · rw [if_neg (by rintro ⟨q, hq, e⟩; rcases List.mem_cons.1 hq with rfl | hq; exact h2 e; exact h1 ⟨q, hq, e⟩)]
        exact upd_other _ _ (fun e => h2 e.symm)
theorem sumsT_is (F : Int → Option Ref) : ∀ (nt : List Nat) (T : List Ref), nt.Nodup → (∀ t ∈ nt, t < T.length) → (sumsT F T nt).length = T.length ∧ ∀ t, (sumsT F T nt).getD t (0, 0) = if t ∈ nt then ((T.getD t (0, 0)).1, Crc.sum (tblk F t)) else T.getD t (0, 0)
  | [], T, _, _ => ⟨rfl, fun t => by simp [sumsT]⟩
  | u :: nt, T, h, hl => by
    have ih := sumsT_is F nt (sumT F T u) (List.nodup_cons.1 h).2 (fun t ht => by simp only [sumT, List.length_set]; exact hl t (by simp [ht]))
    have hu := (List.nodup_cons.1 h).1
    refine ⟨by show (sumsT F (sumT F T u) nt).length = _; rw [ih.1]; simp [sumT], fun t => ?_⟩
    show (sumsT F (sumT F T u) nt).getD t (0, 0) = _
    rw [ih.2 t]
    by_cases h1 : t ∈ nt
    · rw [if_pos h1, if_pos (by simp [h1])]
      have hne : u ≠ t := by rintro rfl; exact hu h1
      unfold sumT
      rw [getD_set_ne _ _ _ hne]
    · rw [if_neg h1]
      by_cases h2 : u = t
      · subst h2
        rw [if_pos (by simp)]
        unfold sumT
        exact getD_set_same _ _ _ (hl u (by simp))
      · rw [if_neg (by simp only [List.mem_cons, not_or]; exact ⟨fun e => h2 e.symm, h1⟩)]
        unfold sumT
        exact getD_set_ne _ _ _ h2
/-- how all is to lie -/
structure Laid (S : St) (H : Nat) (x : Lay) (us vs : List Nat) : Prop where
  pg : x.pg = (keys S.now).filter (needs S.now)
  nt : x.nt = (touched (keys S.now)).filter (has x.at_)
  len : x.tabs.length = S.tabs.length
  pre : ∃ r, frees S.tabs S.at_ H = us ++ (vs ++ r)
  ul : us.length = x.pg.length
  vl : vs.length = x.nt.length
  new : ∀ (j : Nat) (h1 : j < x.pg.length) (h2 : j < us.length), x.at_ ((x.pg[j] : Nat) : Int) = some ((us[j] : Int), 0)
  old : ∀ i : Int, (∀ p ∈ keys S.now, (p : Int) ≠ i) → x.at_ i = S.at_ i
  gone : ∀ p ∈ keys S.now, needs S.now p = false → x.at_ (p : Int) = none
  tnew : ∀ (j : Nat) (h1 : j < x.nt.length) (h2 : j < vs.length), x.tabs.getD x.nt[j] (0, 0) = ((vs[j] : Int), 0)
  told : ∀ t, t ∉ touched (keys S.now) → x.tabs[t]? = S.tabs[t]?
  tgone : ∀ t ∈ touched (keys S.now), has x.at_ t = false → x.tabs.getD t (0, 0) = (0, 0)
theorem laid_is {S : St} {H : Nat} {x : Lay} (h7 : S.tabs.length = 7) (h : laid S H = some x) : ∃ us vs, Laid S H x us vs := by
  unfold laid laid0 at h
  rcases layP_all S.now S.tabs S.at_ (frees S.tabs S.at_ H) (keys S.now) (keys_nodup _) with ⟨y, hy, hP⟩ | ⟨hy, _⟩
  · rw [show start S H = ⟨S.tabs, S.at_, [], [], frees S.tabs S.at_ H⟩ from rfl, hy] at h
    have h' : (touched (keys S.now)).foldlM layT y = some x := h
    obtain ⟨us, f1, f2, f3⟩ := hP.free
    have hye : y = ⟨S.tabs, y.at_, [], y.pg, y.free⟩ := by
      have h1 := hP.tabs
      have h2 := hP.nt
      cases y
      simp only at h1 h2
      subst h1; subst h2
      rfl
    rw [hye] at h'
    rcases layT_all S.tabs y.at_ y.pg y.free (touched (keys S.now)) (touched_nodup _) (fun t ht => by have := (mem_touched.1 ht).1; omega) with ⟨z, hz, hT⟩ | ⟨hz, _⟩
    · rw [hz] at h'
      obtain rfl := Option.some.inj h'
      obtain ⟨vs, g1, g2, g3⟩ := hT.free
      have ea := hT.at_
      have ep := hT.pg
      refine ⟨us, vs, by rw [ep, hP.pg], by rw [hT.nt, ea], hT.len, ⟨z.free, by rw [f1, g1]⟩, by rw [f2, ep], g2, ?_, ?_, ?_, g3, hT.old, ?_⟩
      · intro j h1 h2
        have := f3 j (by rw [← ep]; exact h1) h2
        rw [ea]
        simp only [ep]
        exact this
      · intro i hi; rw [ea]; exact hP.old i hi
      · intro p hp hn; rw [ea]; exact hP.gone p hp hn
      · intro t ht hn; rw [ea] at hn; exact hT.gone t ht hn
    · rw [hz] at h'; cases h'
  · rw [show start S H = ⟨S.tabs, S.at_, [], [], frees S.tabs S.at_ H⟩ from rfl, hy] at h
    cases h
theorem has_congr {F G : Int → Option Ref} {t : Nat} (h : ∀ p : Nat, p / 42 = t → (F (p : Int)).isSome = (G (p : Int)).isSome) : has F t = has G t := by
  rw [Bool.eq_iff_iff, has_iff, has_iff]
  exact ⟨fun ⟨p, h1, h2⟩ => ⟨p, by rw [← h p h2]; exact h1, h2⟩, fun ⟨p, h1, h2⟩ => ⟨p, by rw [h p h2]; exact h1, h2⟩⟩
theorem tblk_congr {F G : Int → Option Ref} {t : Nat} (h : ∀ p : Nat, p / 42 = t → F (p : Int) = G (p : Int)) : tblk F t = tblk G t := by
  unfold tblk
  rw [List.flatMap_def, List.flatMap_def]
  congr 2
  apply List.map_congr_left
  intro i hi
  have := List.mem_range.1 hi
  unfold tref
  rw [h (t * 42 + i) (by omega)]
end Go.Proofs.YtbjfgdahfpfgdaaGreatDoor.PgP

namespace Go.Proofs.YtbjfgdahfpfgdaaGreatDoor.PgP
open Go.Proofs.YtbjfgdahfpfgdaaGreatDoor.RootP Go.Proofs.YtbjfgdahfpfgdaaGreatDoor.MapsW
set_option linter.unusedVariables false
set_option maxRecDepth 100000

/-- what was changed may be a store's -/
structure NowOk (N : Int → Option (List Nat)) : Prop where
  dom : ∀ i, (N i).isSome = true → 0 ≤ i ∧ i < 256
  len : ∀ i l, N i = some l → l.length ≤ 248 ∧ Crc.Bytes l
theorem Fit.old_pg {H : Nat} {S : St} {V : Int → Option (List Nat)} {R : Nat → List Nat → Prop} (h : Fit H S V R) {i : Int} {r : Ref} (hi : S.at_ i = some r) :
    ∃ (a : Nat) (l : List Nat), V i = some l ∧ r = ((a : Int), Crc.sum (pblk l)) ∧ 2 ≤ a ∧ a < H ∧ a ∈ used S.tabs S.at_ H ∧ R a (pblk l) := by
  cases hV : V i with
  | none => rw [h.off i hV] at hi; cases hi
  | some l =>
    obtain ⟨a, h1, h2, h3, h4⟩ := h.pg i l hV
    rw [hi] at h1
    obtain rfl := Option.some.inj h1
    obtain ⟨d1, d2⟩ := h.dom i (by rw [hV]; rfl)
    refine ⟨a, l, rfl, rfl, h2, h3, mem_used.2 ⟨h3, .inr (.inr ⟨i.toNat, by omega, _, by rw [show ((i.toNat : Nat) : Int) = i by omega]; exact hi, rfl⟩)⟩, h4⟩
theorem Fit.old_tb {H : Nat} {S : St} {V : Int → Option (List Nat)} {R : Nat → List Nat → Prop} (h : Fit H S V R) {t : Nat} (ht : t < 7) (hh : has S.at_ t = true) :
    ∃ a : Nat, S.tabs.getD t (0, 0) = ((a : Int), Crc.sum (tblk S.at_ t)) ∧ 2 ≤ a ∧ a < H ∧ a ∈ used S.tabs S.at_ H ∧ R a (tblk S.at_ t) := by
  obtain ⟨a, h1, h2, h3, h4⟩ := h.tb t ht hh
  have hl : t < S.tabs.length := by rw [h.t7]; exact ht
  have hm : S.tabs.getD t (0, 0) ∈ S.tabs := by
    rw [List.getD_eq_getElem?_getD, List.getElem?_eq_getElem hl]
    exact List.getElem_mem hl
  exact ⟨a, h1, h2, h3, mem_used.2 ⟨h3, .inr (.inl ⟨_, hm, by rw [h1]⟩)⟩, h4⟩
theorem mem_get {α : Type} {l : List α} {a : α} (h : a ∈ l) : ∃ (j : Nat) (hj : j < l.length), l[j] = a := List.mem_iff_getElem.1 h

/-- a page behind a commit -/
inductive PgCase (S : St) (x : Lay) (us : List Nat) (F : Int → Option Ref) (i : Int) : Prop
  | new (j : Nat) (hj : j < x.pg.length) (hu : j < us.length) (l : List Nat) (e : i = ((x.pg[j] : Nat) : Int)) (hn : S.now i = some l) (hl : l ≠ []) (hF : F i = some ((us[j] : Int), Crc.sum (pblk l)))
  | gone (hn : S.now i = some []) (hF : F i = none)
  | old (hn : S.now i = none) (hF : F i = S.at_ i)
theorem Laid.cases {S : St} {H : Nat} {x : Lay} {us vs : List Nat} (L : Laid S H x us vs) (hN : NowOk S.now) (i : Int) : PgCase S x us (sumsP S.now x.at_ x.pg) i := by
  have hpn : x.pg.Nodup := by rw [L.pg]; exact (keys_nodup _).filter _
  have hs := sumsP_is S.now x.pg x.at_ hpn i
  cases hn : S.now i with
  | none =>
    have hne : ∀ p ∈ keys S.now, (p : Int) ≠ i := by
      rintro p hp rfl
      have := (mem_keys.1 hp).2
      rw [hn] at this
      cases this
    refine .old hn ?_
    rw [hs, if_neg, L.old i hne]
    rintro ⟨p, hp, e⟩
    rw [L.pg] at hp
    exact hne p (List.mem_filter.1 hp).1 e
  | some l =>
    obtain ⟨d1, d2⟩ := hN.dom i (by rw [hn]; rfl)
    obtain ⟨p, rfl⟩ : ∃ p : Nat, i = (p : Int) := ⟨i.toNat, by omega⟩
    have hk : p ∈ keys S.now := mem_keys.2 ⟨by omega, by rw [hn]; rfl⟩
    cases l with
    | nil =>
      have hnd : needs S.now p = false := by unfold needs; rw [hn]; simp
      refine .gone hn ?_
      rw [hs, if_neg, L.gone p hk hnd]
      rintro ⟨q, hq, e⟩
      obtain rfl := Int.natCast_inj.1 e
      rw [L.pg] at hq
      rw [(List.mem_filter.1 hq).2] at hnd
      cases hnd
    | cons y l =>
      have hnd : needs S.now p = true := by unfold needs; rw [hn]; simp
      have hm : p ∈ x.pg := by rw [L.pg]; exact List.mem_filter.2 ⟨hk, hnd⟩
      obtain ⟨j, hj, e⟩ := mem_get hm
      have hu : j < us.length := by rw [L.ul]; exact hj
      refine .new j hj hu (y :: l) (by rw [e]) hn (by simp) ?_
      rw [hs, if_pos ⟨p, hm, rfl⟩]
      have := L.new j hj hu
      rw [e] at this
      simp only [Int.toNat_natCast, tref, this, hn, Option.getD_some]
/-- a table behind a commit -/
inductive TbCase (S : St) (x : Lay) (vs : List Nat) (F : Int → Option Ref) (T : List Ref) (t : Nat) : Prop
  | new (j : Nat) (hj : j < x.nt.length) (hv : j < vs.length) (e : t = x.nt[j]) (hh : has F t = true) (hT : T.getD t (0, 0) = ((vs[j] : Int), Crc.sum (tblk F t)))
  | gone (hh : has F t = false) (hT : T.getD t (0, 0) = (0, 0))
  | old (hh : has F t = has S.at_ t) (hb : tblk F t = tblk S.at_ t) (hT : T.getD t (0, 0) = S.tabs.getD t (0, 0))
theorem Laid.has_eq {S : St} {H : Nat} {x : Lay} {us vs : List Nat} (L : Laid S H x us vs) (t : Nat) : has (sumsP S.now x.at_ x.pg) t = has x.at_ t := by
  have hpn : x.pg.Nodup := by rw [L.pg]; exact (keys_nodup _).filter _
  refine has_congr fun p hp => ?_
  rw [sumsP_is S.now x.pg x.at_ hpn]
  split
  · rename_i h
    obtain ⟨q, hq, e⟩ := h
    obtain rfl := Int.natCast_inj.1 e
    obtain ⟨j, hj, e2⟩ := mem_get hq
    have := L.new j hj (by rw [L.ul]; exact hj)
    rw [e2] at this
    rw [this]
    rfl
  · rfl
theorem Laid.tcases {S : St} {H : Nat} {x : Lay} {us vs : List Nat} (L : Laid S H x us vs) (h7 : S.tabs.length = 7) (t : Nat) (ht : t < 7) :
    TbCase S x vs (sumsP S.now x.at_ x.pg) (sumsT (sumsP S.now x.at_ x.pg) x.tabs x.nt) t := by
  have hpn : x.pg.Nodup := by rw [L.pg]; exact (keys_nodup _).filter _
  have hnn : x.nt.Nodup := by rw [L.nt]; exact (touched_nodup _).filter _
  have hnl : ∀ t ∈ x.nt, t < x.tabs.length := by
    intro t ht
    rw [L.nt] at ht
    rw [L.len, h7]
    exact (mem_touched.1 (List.mem_filter.1 ht).1).1
  have hs := (sumsT_is (sumsP S.now x.at_ x.pg) x.nt x.tabs hnn hnl).2 t
  by_cases htt : t ∈ touched (keys S.now)
  · cases hh : has x.at_ t with
    | true =>
      have hm : t ∈ x.nt := by rw [L.nt]; exact List.mem_filter.2 ⟨htt, hh⟩
      obtain ⟨j, hj, e⟩ := mem_get hm
      have hv : j < vs.length := by rw [L.vl]; exact hj
      refine .new j hj hv e.symm (by rw [L.has_eq]; exact hh) ?_
      rw [hs, if_pos hm]
      have := L.tnew j hj hv
      rw [e] at this
      rw [this]
    | false =>
      have hm : t ∉ x.nt := by rw [L.nt]; intro hm; rw [(List.mem_filter.1 hm).2] at hh; cases hh
      exact .gone (by rw [L.has_eq]; exact hh) (by rw [hs, if_neg hm]; exact L.tgone t htt hh)
  · have hm : t ∉ x.nt := by rw [L.nt]; intro hm; exact htt (List.mem_filter.1 hm).1
    have hsame : ∀ p : Nat, p / 42 = t → sumsP S.now x.at_ x.pg (p : Int) = S.at_ (p : Int) := by
      intro p hp
      have hk : ∀ q ∈ keys S.now, (q : Int) ≠ (p : Int) := by
        rintro q hq e
        obtain rfl := Int.natCast_inj.1 e
        exact htt (mem_touched.2 ⟨ht, q, hq, hp⟩)
      rw [sumsP_is S.now x.pg x.at_ hpn, if_neg, L.old _ hk]
      rintro ⟨q, hq, e⟩
      rw [L.pg] at hq
      exact hk q (List.mem_filter.1 hq).1 e
    refine .old (has_congr fun p hp => by rw [hsame p hp]) (tblk_congr hsame) ?_
    rw [hs, if_neg hm, List.getD_eq_getElem?_getD, List.getD_eq_getElem?_getD, L.told t htt]
theorem Laid.wr_pg {S : St} {H : Nat} {x : Lay} {us vs : List Nat} (L : Laid S H x us vs) {j : Nat} (hj : j < x.pg.length) (hu : j < us.length) : (us[j], pblk ((S.now ((x.pg[j] : Nat) : Int)).getD [])) ∈ writes S x := by
  refine List.mem_append.2 (.inl (List.mem_map.2 ⟨x.pg[j], List.getElem_mem hj, ?_⟩))
  simp only [tref, L.new j hj hu, Option.getD_some, Int.toNat_natCast]
theorem Laid.wr_tb {S : St} {H : Nat} {x : Lay} {us vs : List Nat} (L : Laid S H x us vs) {j : Nat} (hj : j < x.nt.length) (hv : j < vs.length) : (vs[j], tblk (sumsP S.now x.at_ x.pg) x.nt[j]) ∈ writes S x := by
  refine List.mem_append.2 (.inr (List.mem_map.2 ⟨x.nt[j], List.getElem_mem hj, ?_⟩))
  simp only [L.tnew j hj hv, Int.toNat_natCast]
theorem nodup_get {l : List Nat} (h : l.Nodup) {i j : Nat} (hi : i < l.length) (hj : j < l.length) (e : l[i] = l[j]) : i = j := (List.getElem_inj h).1 e
/-- the store behind a commit -/
theorem Fit.behind {H : Nat} {S : St} {V : Int → Option (List Nat)} {R R' : Nat → List Nat → Prop} {x : Lay} (h : Fit H S V R) (hN : NowOk S.now) (hx : laid S H = some x)
    (hold : ∀ a l, 2 ≤ a → a < H → a ∈ used S.tabs S.at_ H → R a l → R' a l) (hnew : ∀ b ∈ writes S x, R' b.1 b.2) : Fit H (behind S x) (view S.now V) R' := by
  obtain ⟨us, vs, L⟩ := laid_is h.t7 hx
  obtain ⟨r, hr⟩ := L.pre
  have hnd := frees_nodup S.tabs S.at_ H
  rw [hr] at hnd
  have hund := (List.nodup_append.1 hnd).1
  have hvnd := (List.nodup_append.1 (List.nodup_append.1 hnd).2.1).1
  have huf : ∀ a ∈ us, a ∈ frees S.tabs S.at_ H := fun a ha => by rw [hr]; simp [ha]
  have hvf : ∀ a ∈ vs, a ∈ frees S.tabs S.at_ H := fun a ha => by rw [hr]; simp [ha]
  have huv : ∀ a ∈ us, ∀ b ∈ vs, a ≠ b := fun a ha b hb => (List.nodup_append.1 hnd).2.2 a ha b (by simp [hb])
  have hC := L.cases hN
  have hT := fun t ht => L.tcases h.t7 t ht
  have hpf : ∀ {i : Int} {a : Nat} {s : Nat}, S.at_ i = some ((a : Int), s) → a ∉ frees S.tabs S.at_ H := by
    intro i a s hi hf
    obtain ⟨b, l, _, e, _, _, hu, _⟩ := h.old_pg hi
    have : b = a := by have := (Prod.mk.inj e).1; omega
    subst this
    exact (mem_frees.1 hf).2.2 hu
  have htf : ∀ {t : Nat}, t < 7 → ∀ {a : Nat}, a ∈ frees S.tabs S.at_ H → (S.tabs.getD t (0, 0)).1 ≠ (a : Int) := by
    intro t ht a ha e
    have h2 := (mem_frees.1 ha).2.1
    cases hh : has S.at_ t with
    | false => rw [h.tno t ht hh] at e; simp only at e; omega
    | true =>
      obtain ⟨b, e2, _, _, hu, _⟩ := h.old_tb ht hh
      rw [e2] at e
      obtain rfl : b = a := by simp only at e; omega
      exact (mem_frees.1 ha).2.2 hu
  have hgu : ∀ {j : Nat} (hj : j < us.length), us[j] ∈ us := fun hj => List.getElem_mem hj
  have hgv : ∀ {j : Nat} (hj : j < vs.length), vs[j] ∈ vs := fun hj => List.getElem_mem hj
  refine ⟨?_, ?_, ?_, ?_, ?_, ?_, ?_, ?_, ?_, ?_, fun _ => rfl, fun e => absurd e (Nat.succ_ne_zero _)⟩
  · show (sumsT _ _ _).length = 7
    have hnn : x.nt.Nodup := by rw [L.nt]; exact (touched_nodup _).filter _
    rw [(sumsT_is _ x.nt x.tabs hnn (fun t ht => by rw [L.nt] at ht; rw [L.len, h.t7]; exact (mem_touched.1 (List.mem_filter.1 ht).1).1)).1, L.len, h.t7]
  · intro i hi
    unfold view at hi
    cases hn : S.now i with
    | none => rw [hn] at hi; exact h.dom i hi
    | some l => exact hN.dom i (by rw [hn]; rfl)
  · intro i l hi
    unfold view at hi
    cases hn : S.now i with
    | none => rw [hn] at hi; exact h.len i l hi
    | some k =>
      rw [hn] at hi
      cases k with
      | nil => cases hi
      | cons y k =>
        obtain rfl := Option.some.inj hi
        have := hN.len i _ hn
        exact ⟨by simp, this.1, this.2⟩
  · intro i hi
    show sumsP S.now x.at_ x.pg i = none
    unfold view at hi
    rcases hC i with ⟨j, hj, hu, l, e, hn, hl, hF⟩ | ⟨hn, hF⟩ | ⟨hn, hF⟩
    · rw [hn] at hi
      cases l with
      | nil => exact absurd rfl hl
      | cons y l => cases hi
    · exact hF
    · rw [hn] at hi
      rw [hF]
      exact h.off i hi
  · intro i l hi
    show ∃ a : Nat, sumsP S.now x.at_ x.pg i = _ ∧ _
    unfold view at hi
    rcases hC i with ⟨j, hj, hu, k, e, hn, hl, hF⟩ | ⟨hn, hF⟩ | ⟨hn, hF⟩
    · rw [hn] at hi
      have hk : k = l := by
        cases k with
        | nil => exact absurd rfl hl
        | cons y k => exact Option.some.inj hi
      subst hk
      have hf := mem_frees.1 (huf _ (hgu hu))
      refine ⟨us[j], hF, hf.2.1, hf.1, ?_⟩
      have := hnew _ (L.wr_pg hj hu)
      rw [← e, hn] at this
      exact this
    · rw [hn] at hi; cases hi
    · rw [hn] at hi
      obtain ⟨a, h1, h2, h3, h4⟩ := h.pg i l hi
      obtain ⟨b, k, e1, e2, _, _, hu, _⟩ := h.old_pg h1
      refine ⟨a, by rw [hF]; exact h1, h2, h3, hold a _ h2 h3 ?_ h4⟩
      have : b = a := by have := (Prod.mk.inj e2).1; omega
      subst this
      exact hu
  · intro t ht hh
    show (sumsT _ _ _).getD t (0, 0) = _
    have hh' : has (sumsP S.now x.at_ x.pg) t = false := hh
    rcases hT t ht with ⟨j, hj, hv, e, h1, h2⟩ | ⟨h1, h2⟩ | ⟨h1, h2, h3⟩
    · rw [h1] at hh'; cases hh'
    · exact h2
    · rw [h3]; exact h.tno t ht (by rw [← h1]; exact hh')
  · intro t ht hh
    show ∃ a : Nat, (sumsT _ _ _).getD t (0, 0) = ((a : Int), Crc.sum (tblk (sumsP S.now x.at_ x.pg) t)) ∧ 2 ≤ a ∧ a < H ∧ R' a (tblk (sumsP S.now x.at_ x.pg) t)
    have hh' : has (sumsP S.now x.at_ x.pg) t = true := hh
    rcases hT t ht with ⟨j, hj, hv, e, h1, h2⟩ | ⟨h1, h2⟩ | ⟨h1, h2, h3⟩
    · have hf := mem_frees.1 (hvf _ (hgv hv))
      refine ⟨vs[j], h2, hf.2.1, hf.1, ?_⟩
      have := hnew _ (L.wr_tb hj hv)
      rw [← e] at this
      exact this
    · rw [h1] at hh'; cases hh'
    · obtain ⟨a, g1, g2, g3, g4, g5⟩ := h.old_tb ht (by rw [← h1]; exact hh')
      exact ⟨a, by rw [h3, h2]; exact g1, g2, g3, by rw [h2]; exact hold a _ g2 g3 g4 g5⟩
  · intro i k q s hi hk e
    have hi' : sumsP S.now x.at_ x.pg i = some q := hi
    have hk' : sumsP S.now x.at_ x.pg k = some s := hk
    rcases hC i with ⟨j, hj, hu, l, e1, hn, hl, hF⟩ | ⟨hn, hF⟩ | ⟨hn, hF⟩
    · rw [hF] at hi'
      obtain rfl := Option.some.inj hi'
      rcases hC k with ⟨j2, hj2, hu2, l2, e2, hn2, hl2, hF2⟩ | ⟨hn2, hF2⟩ | ⟨hn2, hF2⟩
      · rw [hF2] at hk'
        obtain rfl := Option.some.inj hk'
        have ej : us[j] = us[j2] := by simp only at e; omega
        have := nodup_get hund hu hu2 ej
        subst this
        rw [e1, e2]
      · rw [hF2] at hk'; cases hk'
      · rw [hF2] at hk'
        obtain ⟨b, l3, _, e3, _, _, hu3, _⟩ := h.old_pg hk'
        subst e3
        have : us[j] = b := by simp only at e; omega
        exact absurd (huf _ (hgu hu)) (by rw [this]; exact hpf hk')
    · rw [hF] at hi'; cases hi'
    · rw [hF] at hi'
      rcases hC k with ⟨j2, hj2, hu2, l2, e2, hn2, hl2, hF2⟩ | ⟨hn2, hF2⟩ | ⟨hn2, hF2⟩
      · rw [hF2] at hk'
        obtain rfl := Option.some.inj hk'
        obtain ⟨b, l3, _, e3, _, _, hu3, _⟩ := h.old_pg hi'
        subst e3
        have : us[j2] = b := by simp only at e; omega
        exact absurd (huf _ (hgu hu2)) (by rw [this]; exact hpf hi')
      · rw [hF2] at hk'; cases hk'
      · rw [hF2] at hk'
        exact h.inj i k q s hi' hk' e
  · intro t u ht hu e hne
    have e' : ((sumsT (sumsP S.now x.at_ x.pg) x.tabs x.nt).getD t (0, 0)).1 = ((sumsT (sumsP S.now x.at_ x.pg) x.tabs x.nt).getD u (0, 0)).1 := e
    have hne' : ((sumsT (sumsP S.now x.at_ x.pg) x.tabs x.nt).getD t (0, 0)).1 ≠ 0 := hne
    rcases hT t ht with ⟨j, hj, hv, e1, h1, h2⟩ | ⟨h1, h2⟩ | ⟨h1, h2, h3⟩
    · rw [h2] at e'
      rcases hT u hu with ⟨j2, hj2, hv2, e2, k1, k2⟩ | ⟨k1, k2⟩ | ⟨k1, k2, k3⟩
      · rw [k2] at e'
        have ej : vs[j] = vs[j2] := by simp only at e'; omega
        have := nodup_get hvnd hv hv2 ej
        subst this
        rw [e1, e2]
      · rw [k2] at e'
        have := (mem_frees.1 (hvf _ (hgv hv))).2.1
        simp only at e'; omega
      · rw [k3] at e'
        exact absurd e'.symm (htf hu (hvf _ (hgv hv)))
    · rw [h2] at hne'; exact absurd rfl hne'
    · rw [h3] at e' hne'
      rcases hT u hu with ⟨j2, hj2, hv2, e2, k1, k2⟩ | ⟨k1, k2⟩ | ⟨k1, k2, k3⟩
      · rw [k2] at e'
        exact absurd e' (htf ht (hvf _ (hgv hv2)))
      · rw [k2] at e'; exact absurd e' hne'
      · rw [k3] at e'
        exact h.tinj t u ht hu e' hne'
  · intro i q t hi ht e
    have hi' : sumsP S.now x.at_ x.pg i = some q := hi
    have e' : ((sumsT (sumsP S.now x.at_ x.pg) x.tabs x.nt).getD t (0, 0)).1 = q.1 := e
    rcases hC i with ⟨j, hj, hu, l, e1, hn, hl, hF⟩ | ⟨hn, hF⟩ | ⟨hn, hF⟩
    · rw [hF] at hi'
      obtain rfl := Option.some.inj hi'
      rcases hT t ht with ⟨j2, hj2, hv2, e2, k1, k2⟩ | ⟨k1, k2⟩ | ⟨k1, k2, k3⟩
      · rw [k2] at e'
        have : us[j] = vs[j2] := by simp only at e'; omega
        exact huv _ (hgu hu) _ (hgv hv2) this
      · rw [k2] at e'
        have := (mem_frees.1 (huf _ (hgu hu))).2.1
        simp only at e'; omega
      · rw [k3] at e'
        exact htf ht (huf _ (hgu hu)) e'
    · rw [hF] at hi'; cases hi'
    · rw [hF] at hi'
      obtain ⟨b, l3, _, e3, hb2, _, hu3, _⟩ := h.old_pg hi'
      subst e3
      rcases hT t ht with ⟨j2, hj2, hv2, e2, k1, k2⟩ | ⟨k1, k2⟩ | ⟨k1, k2, k3⟩
      · rw [k2] at e'
        have : vs[j2] = b := by simp only at e'; omega
        exact absurd (hvf _ (hgv hv2)) (by rw [this]; exact hpf hi')
      · rw [k2] at e'; simp only at e'; omega
      · rw [k3] at e'
        exact h.pt i _ t hi' ht e'
end Go.Proofs.YtbjfgdahfpfgdaaGreatDoor.PgP

namespace Go.Proofs.YtbjfgdahfpfgdaaGreatDoor.PgP
open Go.Proofs.YtbjfgdahfpfgdaaGreatDoor.RootP Go.Proofs.YtbjfgdahfpfgdaaGreatDoor.MapsW
set_option linter.unusedVariables false
set_option maxRecDepth 100000

theorem pigeon : ∀ (S L : List Nat), S.Nodup → (∀ x ∈ S, x ∈ L) → S.length ≤ L.length := by
  intro S
  induction S with
  | nil => intro L _ _; exact Nat.zero_le _
  | cons x S ih =>
    intro L hn h
    rw [List.nodup_cons] at hn
    have hx := h x List.mem_cons_self
    have h1 := ih (L.erase x) hn.2 fun y hy => by
      have hne : y ≠ x := by rintro rfl; exact hn.1 hy
      exact (List.mem_erase_of_ne hne).2 (h y (List.mem_cons_of_mem _ hy))
    rw [List.length_erase_of_mem hx] at h1
    have := List.length_pos_of_mem hx
    simp only [List.length_cons]
    omega
theorem used_nodup (T : List Ref) (F : Int → Option Ref) (H : Nat) : (used T F H).Nodup := List.nodup_range.filter _
theorem used_length (T : List Ref) (F : Int → Option Ref) (H : Nat) : (used T F H).length ≤ 2 + T.length + cnt F := by
  have h := pigeon (used T F H) ([0, 1] ++ (T.map (·.1.toNat) ++ ((List.range 256).filter fun (p : Nat) => (F (p : Int)).isSome).map fun p => (tref F p).1.toNat)) (used_nodup T F H) fun a ha => by
    obtain ⟨_, h1 | ⟨r, hr, e⟩ | ⟨p, hp, r, hF, e⟩⟩ := mem_used.1 ha
    · refine List.mem_append.2 (.inl ?_)
      have : a = 0 ∨ a = 1 := by omega
      rcases this with rfl | rfl <;> simp
    · refine List.mem_append.2 (.inr (List.mem_append.2 (.inl (List.mem_map.2 ⟨r, hr, ?_⟩))))
      show r.1.toNat = a
      rw [e]; exact Int.toNat_natCast a
    · refine List.mem_append.2 (.inr (List.mem_append.2 (.inr (List.mem_map.2 ⟨p, List.mem_filter.2 ⟨List.mem_range.2 hp, by rw [hF]; rfl⟩, ?_⟩))))
      unfold tref
      rw [hF]
      show r.1.toNat = a
      rw [e]; exact Int.toNat_natCast a
  simp only [List.length_append, List.length_map, List.length_cons, List.length_nil] at h
  have e : ((List.range 256).filter fun (p : Nat) => (F (p : Int)).isSome).length = cnt F := by unfold cnt; rw [List.countP_eq_length_filter]
  omega
theorem frees_length (T : List Ref) (F : Int → Option Ref) (H : Nat) : H ≤ (frees T F H).length + (used T F H).length := by
  have h := pigeon (List.range H) (frees T F H ++ used T F H) List.nodup_range fun a ha => by
    have ha' := List.mem_range.1 ha
    by_cases hu : a ∈ used T F H
    · exact List.mem_append.2 (.inr hu)
    · refine List.mem_append.2 (.inl (mem_frees.2 ⟨ha', ?_, hu⟩))
      rcases Nat.lt_or_ge a 2 with h | h
      · exact absurd (mem_used.2 ⟨ha', .inl h⟩) hu
      · exact h
  simp only [List.length_append, List.length_range] at h
  omega
theorem cnt_congr {α β : Type} {F : Int → Option α} {G : Int → Option β} (h : ∀ p : Nat, p < 256 → (F (p : Int)).isSome = (G (p : Int)).isSome) : cnt F = cnt G := by
  unfold cnt
  refine List.countP_congr fun p hp => ?_
  rw [h p (List.mem_range.1 hp)]
theorem cnt_le {α : Type} {F : Int → Option α} {n : Nat} (h : ∀ p : Nat, (F (p : Int)).isSome = true → p < n) : cnt F ≤ n := by
  unfold cnt
  rw [List.countP_eq_length_filter]
  have := pigeon ((List.range 256).filter fun (p : Nat) => (F (p : Int)).isSome) (List.range n) (List.nodup_range.filter _) fun x hx => List.mem_range.2 (h x (List.mem_filter.1 hx).2)
  simpa using this
theorem cnt_le256 {α : Type} (F : Int → Option α) : cnt F ≤ 256 := by
  unfold cnt
  have := List.countP_le_length (p := fun (p : Nat) => (F (p : Int)).isSome) (l := List.range 256)
  simpa using this
theorem cnt_pos {α : Type} {F : Int → Option α} {i : Int} (h0 : 0 ≤ i) (h1 : i < 256) (h : (F i).isSome = true) : cnt F ≠ 0 := by
  unfold cnt
  have : 0 < (List.range 256).countP fun (p : Nat) => (F (p : Int)).isSome := by
    rw [List.countP_pos_iff]
    exact ⟨i.toNat, List.mem_range.2 (by omega), by rw [show ((i.toNat : Nat) : Int) = i by omega]; exact h⟩
  omega
theorem cnt_zero {α : Type} {F : Int → Option α} (hd : ∀ i, (F i).isSome = true → 0 ≤ i ∧ i < 256) (h : cnt F = 0) : F = fun _ => none := by
  funext i
  cases hF : F i with
  | none => rfl
  | some r =>
    have hs : (F i).isSome = true := by rw [hF]; rfl
    have := hd i hs
    exact absurd h (cnt_pos this.1 this.2 hs)
theorem sumsP_isSome {S : St} {H : Nat} {x : Lay} {us vs : List Nat} (L : Laid S H x us vs) (p : Nat) : (sumsP S.now x.at_ x.pg (p : Int)).isSome = (x.at_ (p : Int)).isSome := by
  have hpn : x.pg.Nodup := by rw [L.pg]; exact (keys_nodup _).filter _
  rw [sumsP_is S.now x.pg x.at_ hpn]
  split
  · rename_i h
    obtain ⟨q, hq, e⟩ := h
    obtain rfl := Int.natCast_inj.1 e
    obtain ⟨j, hj, e2⟩ := mem_get hq
    have := L.new j hj (by rw [L.ul]; exact hj)
    rw [e2] at this
    rw [this]
    rfl
  · rfl
/-- how many pages a layout has -/
theorem Fit.laid_cnt {H : Nat} {S : St} {V : Int → Option (List Nat)} {R : Nat → List Nat → Prop} {x : Lay} (h : Fit H S V R) (hN : NowOk S.now) (hx : laid S H = some x) : cnt x.at_ = cnt (view S.now V) := by
  obtain ⟨us, vs, L⟩ := laid_is h.t7 hx
  have hb := h.behind (R' := fun _ _ => True) hN hx (fun _ _ _ _ _ _ => trivial) (fun _ _ => trivial)
  refine cnt_congr fun p _ => ?_
  rw [← sumsP_isSome L p]
  cases hv : view S.now V (p : Int) with
  | none => have := hb.off _ hv; rw [show sumsP S.now x.at_ x.pg (p : Int) = none from this]; rfl
  | some l =>
    obtain ⟨a, h1, _⟩ := hb.pg _ l hv
    rw [show sumsP S.now x.at_ x.pg (p : Int) = _ from h1]; rfl
theorem tcnt_le (T : List Ref) : tcnt T ≤ T.length := List.countP_le_length
/-- where there is room -/
theorem Fit.room {H : Nat} {S : St} {V : Int → Option (List Nat)} {R : Nat → List Nat → Prop} (h : Fit H S V R) (hN : NowOk S.now) {q : Nat} (h1 : cnt V ≤ q) (h2 : cnt (view S.now V) ≤ q) (hq : 2 * q + 18 ≤ H) : ∃ x, laid S H = some x ∧ fits x H = true := by
  have hat : cnt S.at_ = cnt V := cnt_congr fun p _ => by
    cases hv : V (p : Int) with
    | none => rw [h.off _ hv]; rfl
    | some l => obtain ⟨a, h3, _⟩ := h.pg _ l hv; rw [h3]; rfl
  have hu := used_length S.tabs S.at_ H
  have hf := frees_length S.tabs S.at_ H
  have h7 := h.t7
  have hneed : ((keys S.now).filter (needs S.now)).length ≤ cnt (view S.now V) := by
    unfold keys cnt
    rw [List.filter_filter, List.countP_eq_length_filter]
    rw [← List.countP_eq_length_filter, ← List.countP_eq_length_filter]
    refine List.countP_mono_left fun p hp hc => ?_
    rw [Bool.and_eq_true] at hc
    have hn := needs_true hc.1
    unfold view
    cases hN' : S.now (p : Int) with
    | none => rw [hN'] at hn; exact absurd rfl hn
    | some l =>
      rw [hN'] at hn
      cases l with
      | nil => exact absurd rfl hn
      | cons y l => rfl
  have htl : ∀ F : Int → Option Ref, ((touched (keys S.now)).filter (has F)).length ≤ 7 := fun F => by
    refine Nat.le_trans (List.length_filter_le _ _) ?_
    unfold touched
    refine Nat.le_trans (List.length_filter_le _ _) ?_
    simp
  have hx : ∃ x, laid S H = some x := by
    unfold laid laid0
    rcases layP_all S.now S.tabs S.at_ (frees S.tabs S.at_ H) (keys S.now) (keys_nodup _) with ⟨y, hy, hP⟩ | ⟨hy, hlt⟩
    · rw [show start S H = ⟨S.tabs, S.at_, [], [], frees S.tabs S.at_ H⟩ from rfl, hy]
      show ∃ x, (touched (keys S.now)).foldlM layT y = some x
      obtain ⟨us, f1, f2, f3⟩ := hP.free
      have hye : y = ⟨S.tabs, y.at_, [], y.pg, y.free⟩ := by
        have h1 := hP.tabs
        have h2 := hP.nt
        cases y
        simp only at h1 h2
        subst h1; subst h2
        rfl
      rw [hye]
      rcases layT_all S.tabs y.at_ y.pg y.free (touched (keys S.now)) (touched_nodup _) (fun t ht => by have := (mem_touched.1 ht).1; omega) with ⟨z, hz, hT⟩ | ⟨hz, hlt⟩
      · exact ⟨z, hz⟩
      · exfalso
        have := htl y.at_
        have e := congrArg List.length f1
        rw [List.length_append] at e
        have hpl : y.pg.length ≤ q := by rw [hP.pg]; omega
        omega
    · exfalso; omega
  obtain ⟨x, hx⟩ := hx
  refine ⟨x, hx, ?_⟩
  have hc := h.laid_cnt hN hx
  obtain ⟨us, vs, L⟩ := laid_is h.t7 hx
  have ht := tcnt_le x.tabs
  have hl := L.len
  unfold fits
  rw [decide_eq_true_eq]
  omega
end Go.Proofs.YtbjfgdahfpfgdaaGreatDoor.PgP

namespace Go.Proofs.YtbjfgdahfpfgdaaGreatDoor.MapsW
open Go Go.RowKit Go.Maps Go.Sort Go.Shelf Go.Proofs Go.Proofs.YtbjfgdahfpfgdaaGreatDoor.Mem
set_option linter.unusedVariables false
set_option maxRecDepth 100000

theorem keys_w (mb : Option Nat) (w : World) : Calls Tryz.prog 63 #[.map mb] w fun e w' => e = .returned (.func (.func 103) #[] #[.pointer (some ⟨w.heap.size, 0, none⟩)]) ∧ w' = w.alloc (.cells #[.map mb] 91) :=
  (callsIn_wide (n := 5)).1 (AnyZI.keys_in Tryz.keysA Fence.wide 5 trivial rfl mb w)
theorem sorts_in (m : Nat) : AnyZI.SortsIn Tryz.prog Tryz.sortedA_ren Fence.wide m :=
  ⟨fun blk off cap ss W hH hblk hsz => callsIn_wide.2 (AnyM.slices_Sort_int Tryz.sortA blk off cap ss W hH hblk hsz),
   fun p cap W => callsIn_wide.2 (AnyM.slices_Sort_int_none Tryz.sortA p cap W)⟩
theorem sorted_w {H : Type} (b nn Bm : Nat) (D0 : DataW H) (R : Value → Option (DataW H × List MemPlace)) (w : World) (hBm : Bm < w.heap.size) (hm : w.cell? ⟨Bm, 0, none⟩ = some (.map (some b))) (hown : w.ownsMap Tryz.prog 3 R b nn D0) (hmax : Maps.size D0 ≤ 1000000) :
    Calls Tryz.prog 62 #[.func (.func 103) #[] #[.pointer (some ⟨Bm, 0, none⟩)]] w fun e w' => ∃ (v : Value) (ss : List Int), e = .returned v ∧ ss.Perm (intKeys D0) ∧
      w'.ownsRow w.heap.size 3 1 v ss.length ((ss.mergeSort (fun x y => decide (x ≤ y))).map encZ) ∧ (v = .slice none 0 0 ↔ ss = []) ∧ Below w.heap.size w w' := by
  have hseq : SeqGives Fence.wide 2 Tryz.prog 103 #[.pointer (some ⟨Bm, 0, none⟩)] encZ (fun ss => ss.Perm (intKeys D0)) (Maps.size D0) w :=
    AnyZI.keys_gives (ρ := Tryz.keysA_ren) { Tryz.keysA with } Fence.wide _ trivial rfl (by omega) Bm b nn D0 _ hBm hm hown
  have cS := AnyZI.sorted_in Tryz.sortedA Fence.wide 5 trivial trivial trivial trivial rfl (by omega) (sorts_in _) (enters_of Tryz.func78 (by kernel_rfl) rfl) 103 #[.pointer (some ⟨Bm, 0, none⟩)] trivial (enters_of Tryz.func103 (by kernel_rfl) rfl) _ _ (by unfold maxLen; omega) (by omega) _ hseq
  exact callsIn_wide.1 cS
/-- what a map of rows has keys at: rising -/
structure Keys (F : Int → Option (List Nat)) (ks : List Int) : Prop where
  rise : ks.Pairwise (· < ·)
  mem : ∀ i, i ∈ ks ↔ (F i).isSome = true
  fit : ∀ i ∈ ks, Fits i
theorem intKeys_is {H : Type} {w : World} {b n : Nat} {D : DataW H} {R : Value → Option (DataW H × List MemPlace)} (h : w.ownsMap Tryz.prog 3 R b n D) : (intKeys D).Nodup ∧ ∀ x, x ∈ intKeys D ↔ Maps.has D (.int .i64 x) = true := by
  obtain ⟨es, rfl, hpw, _⟩ := h.entries law
  obtain ⟨es', hD', hko⟩ := h.keysOf
  obtain rfl : es = es' := by simpa using hD'
  have hk : ∀ p ∈ es, ∃ x, p.1 = .int .i64 x := fun p hp => by
    obtain ⟨v, hv⟩ := hko p hp
    obtain ⟨x, _, hx, _⟩ := Maps.keyOf_i64 Tryz.underlying3 hv
    exact ⟨x, hx⟩
  constructor
  · show (es.map fun p => Go.intOf p.1).Nodup
    refine List.pairwise_map.2 (hpw.imp_of_mem fun {p q} hp' hq' hne e => hne ?_)
    obtain ⟨a, ha⟩ := hk p hp'
    obtain ⟨b, hb⟩ := hk q hq'
    rw [ha, hb] at e ⊢
    exact congrArg _ e
  · intro x
    rw [has_eq, List.any_eq_true]
    show x ∈ es.map (fun p => Go.intOf p.1) ↔ _
    rw [List.mem_map]
    constructor
    · rintro ⟨p, hp', rfl⟩
      obtain ⟨a, ha⟩ := hk p hp'
      exact ⟨p, hp', by rw [ha]; simp [Lit.sameKey, Go.intOf]⟩
    · rintro ⟨p, hp', hs⟩
      obtain ⟨a, ha⟩ := hk p hp'
      rw [ha] at hs
      exact ⟨p, hp', by rw [ha]; simpa [Lit.sameKey, Go.intOf] using hs⟩
/-- slices.Sorted of a map's keys -/
theorem keys_sorted (b n Bm base np : Nat) (F : Int → Option (List Nat)) (w : World) (hBm : Bm < w.heap.size) (hm : w.cell? ⟨Bm, 0, none⟩ = some (.map (some b))) (h : RowMap w base b n F np) (hnp : np ≤ 1000000) :
    Calls Tryz.prog 62 #[.func (.func 103) #[] #[.pointer (some ⟨Bm, 0, none⟩)]] w fun e w' => ∃ (v : Value) (ks : List Int), e = .returned v ∧ Keys F ks ∧ ks.length = np ∧
      w'.ownsRow w.heap.size 3 1 v ks.length (ks.map fun z => .int .i64 z) ∧ Below w.heap.size w w' := by
  obtain ⟨D, h1, h2, h3⟩ := h
  obtain ⟨k1, k2⟩ := intKeys_is h1
  refine (sorted_w b n Bm D rowR w hBm hm h1 (by omega)).mono ?_
  rintro e w' ⟨v, ss, rfl, hp, ho, _, hb⟩
  have hle : ∀ a b c : Int, decide (a ≤ b) = true → decide (b ≤ c) = true → decide (a ≤ c) = true := fun a b c x y => by
    simp only [decide_eq_true_eq] at *; omega
  have hto : ∀ a b : Int, (decide (a ≤ b) || decide (b ≤ a)) = true := fun a b => by
    simp only [Bool.or_eq_true, decide_eq_true_eq]; omega
  have hs := List.pairwise_mergeSort hle hto ss
  have hpm := List.mergeSort_perm ss (fun x y => decide (x ≤ y))
  have hnd : (ss.mergeSort fun x y => decide (x ≤ y)).Nodup := (hpm.trans hp).nodup_iff.2 k1
  refine ⟨v, ss.mergeSort (fun x y => decide (x ≤ y)), rfl, ⟨?_, fun i => ?_, fun i hi => int_of (intKeys_wf h1 Tryz.underlying3 i ((hpm.trans hp).mem_iff.1 hi))⟩, ?_, ?_, hb⟩
  · refine (hs.and hnd).imp fun {a b} q => ?_
    have := q.1
    simp only [decide_eq_true_eq] at this
    have := q.2
    omega
  · rw [(hpm.trans hp).mem_iff, k2]
    have := h3 i
    cases hF : F i with
    | none => rw [hF] at this; rw [this]; rfl
    | some l => rw [hF] at this; rw [this.1]; rfl
  · rw [hpm.length_eq, hp.length_eq, ← h2]
    obtain ⟨es, hD, _⟩ := h1.tidy law
    rw [hD]; simp [intKeys, Maps.size]
  · rw [hpm.length_eq]
    exact ho
end Go.Proofs.YtbjfgdahfpfgdaaGreatDoor.MapsW

namespace Go.Proofs.YtbjfgdahfpfgdaaGreatDoor.MapsW
open Go Go.RowKit Go.Maps Go.Proofs.YtbjfgdahfpfgdaaGreatDoor.Mem
set_option linter.unusedVariables false
set_option maxRecDepth 100000

def one? (x : Bool) : Int := if x then 1 else 0
/-- block b of w is a map of ints: 1 at each of its keys, k of them -/
def NumMap (w : World) (b n : Nat) (F : Int → Bool) (k : Nat) : Prop :=
  ∃ D : DataW Unit, w.ownsMap Tryz.prog 3 (plainElem Tryz.prog 3) b n D ∧ Maps.size D = k ∧ ∀ i, D.atKey (.int .i64 i) (.lit (.int .i64 0)) = .lit (.int .i64 (one? (F i))) ∧ Maps.has D (.int .i64 i) = F i
theorem zeroInt (w : World) : (zeroValue 3).run Tryz.prog w = .ok (.int .i64 0) w := by kernel_rfl
theorem NumMap.mono {w : World} {b n n' k : Nat} {F : Int → Bool} (h : NumMap w b n F k) (hn : n ≤ n') : NumMap w b n' F k := by
  obtain ⟨D, h1, h2⟩ := h
  exact ⟨D, h1.mono hn, h2⟩
theorem NumMap.block {w : World} {b n k : Nat} {F : Int → Bool} (h : NumMap w b n F k) : ∃ es ck, w.heap[b]? = some (.map es ck) := by
  obtain ⟨D, ⟨es, ck, h1, _⟩, _⟩ := h
  exact ⟨es, ck, h1⟩
theorem NumMap.still {w w' : World} {b n k : Nat} {F : Int → Bool} (h : NumMap w b n F k) (e : w'.heap[b]? = w.heap[b]?) : NumMap w' b n F k := by
  obtain ⟨D, h1, h2⟩ := h
  exact ⟨D, ownsMap_of h1 e, h2⟩
theorem NumMap.made (w : World) : NumMap (w.alloc (.map #[] 0)) w.heap.size 0 (fun _ => false) 0 :=
  ⟨.map [], World.ownsMap_made _ _ _ _, rfl, fun i => ⟨rfl, rfl⟩⟩
theorem NumMap.look {w : World} {b n k : Nat} {F : Int → Bool} (h : NumMap w b n F k) {i : Int} (hi : Fits i) :
    (Instr.lookup 145 (.map (some b)) (.int .i64 i) false).run Tryz.prog w = .ok (.int .i64 (one? (F i))) w := by
  obtain ⟨D, h1, _, h2⟩ := h
  obtain ⟨v, ps, hr, hv⟩ := h1.lookup law Tryz.underlying145 (zeroInt w) (zd := .lit (.int .i64 0)) (zp := []) (plainElem_int Tryz.underlying3 (by decide)) (key hi)
  rw [(h2 i).1] at hv
  obtain ⟨a, rfl, e, _⟩ := plainElem_int_inv Tryz.underlying3 hv
  cases e
  exact hr
theorem wpList_putNum (w : World) {ops : Array Oper} {rest : List Oper} {o : Oper} {a : Act} {Q : Exit → Act → World → Prop} (hg : o.guard = none) (m x v : Operand) (hop : o.op = Op.mapUpdate 145 m x v)
    {b n k : Nat} {F : Int → Bool} (h : NumMap w b n F k) (hn : n < 1000000) {i : Int} (hi : Fits i)
    (hm : a.eval m = .map (some b)) (hx : a.eval x = .int .i64 i) (hv : a.eval v = .int .i64 1)
    (hK : ∀ w', NumMap w' b (n + 1) (upd F i true) (if F i then k else k + 1) → w.grownBy w' (some b) → wpList Tryz.prog ops Q rest (a.put o.dst undef) w') : wpList Tryz.prog ops Q (o :: rest) a w := by
  obtain ⟨D, h1, h3, h2⟩ := h
  refine wpList_mapUpdate_own w hg m x v _ hop 3 3 law Tryz.underlying145 _ b n D hm h1 (by unfold maxLen; omega) _ _ _ hx hv (key hi) _ [] (plainElem_int Tryz.underlying3 (by decide)) fun w' ho hgw => ?_
  refine hK w' ⟨_, ho, ?_, fun j => ?_⟩ hgw
  · rw [size_put (h1.tidy law), (h2 i).2, h3]
  · by_cases hj : j = i
    · subst hj
      rw [upd_same, atKey_put_same (h1.tidy law).isMap (islit j)]
      exact ⟨rfl, has_put_same (h1.tidy law).isMap (islit j) _⟩
    · rw [upd_other _ _ hj, atKey_put_other (litne hj), (h2 j).1]
      exact ⟨rfl, (has_put_other (litne hj) _).trans (h2 j).2⟩
theorem NumMap.len {w : World} {b n k : Nat} {F : Int → Bool} (h : NumMap w b n F k) : ∃ D : DataW Unit, w.ownsMap Tryz.prog 3 (plainElem Tryz.prog 3) b n D ∧ Maps.size D = k := by
  obtain ⟨D, h1, h2, _⟩ := h
  exact ⟨D, h1, h2⟩
end Go.Proofs.YtbjfgdahfpfgdaaGreatDoor.MapsW
