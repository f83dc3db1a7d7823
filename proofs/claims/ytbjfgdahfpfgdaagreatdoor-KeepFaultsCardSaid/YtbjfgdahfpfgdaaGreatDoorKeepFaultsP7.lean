/- The walk of package keep's Scan; Pairs packed on pages: plain facts; Slices of bytes, one behind the other: as many as one likes; The walk of package keep's packed; Plain facts: bytes turned are others, and so is their sum; a block of some bytes; The plain law of pages: what their blocks hold, how all is to lie behind a commit. -/
import Derived.Test.YtbjfgdahfpfgdaaGreatDoorKeepFaultsP6
import Derived.Lib.ConvBytes
import Derived.Lib.AtoiErrMem
import Derived.Laws.Cover1
import Derived.Test.YtbjfgdahfpfgdaaGreatDoorKeepFaultsP3
import Derived.Test.YtbjfgdahfpfgdaaGreatDoorKeepFaultsP4
import Derived.Deep.CutRange
import Derived.Test.YtbjfgdahfpfgdaaGreatDoorKeepFaultsP1
namespace Go.Proofs.YtbjfgdahfpfgdaaGreatDoor.KeepW
open Go Go.RowKit Go.Maps Go.Proofs.YtbjfgdahfpfgdaaGreatDoor.Mem Go.Proofs.YtbjfgdahfpfgdaaGreatDoor.MapsW Go.Proofs.YtbjfgdahfpfgdaaGreatDoor.DevG Go.Proofs.YtbjfgdahfpfgdaaGreatDoor.Text Go.Proofs.YtbjfgdahfpfgdaaGreatDoor.KeepP
set_option linter.unusedVariables false
set_option maxRecDepth 100000

/-- []byte(s) -/
theorem bytes_run (K : List UInt8) (hK : K.length ≤ maxLen) (w : World) : ∃ cap w', (convert 9 35 (.string ⟨K.toArray⟩)).run Tryz.prog w = .ok (.slice (some ⟨w.heap.size, 0, none⟩) K.length cap) w' ∧
    Nums .u8 w' (some ⟨w.heap.size, 0, none⟩) K.length cap (KeepP.nat K) ∧ Below w.heap.size w w' ∧ w'.heap.size = w.heap.size + 1 := by
  have hs : (ByteArray.mk K.toArray).size = K.length := by show K.toArray.size = _; simp
  have h := Lib.run_convert_string_bytes (P := Tryz.prog) w 9 35 5 ⟨K.toArray⟩ Tryz.underlying9 Tryz.underlying35 Tryz.underlying5
  rw [hs] at h
  refine ⟨_, _, h, ⟨?_, grownCap_ge _ _ _ _, ?_, (fun e => nomatch e), fun j u hj => ?_⟩, Lib.bytesWorld_below _ _ _, Lib.bytesWorld_size _ _ _⟩
  · simp [nums, KeepP.nat]
  · exact grownCap_le_maxLen _ _ _ _ hK
  · refine ⟨_, _, rfl, ?_⟩
    have hj1 : j < K.length := by
      have := (List.getElem?_eq_some_iff.1 hj).1
      simpa [nums, KeepP.nat] using this
    rw [Nat.zero_add, Lib.bytesWorld_cell w _ _ j (by rw [hs]; exact hj1)]
    rw [← hj]
    simp [nums, KeepP.nat, hj1]
/-- pairs as cells -/
def pc : List (Value × Value) → List Value
  | [] => []
  | x :: r => x.1 :: x.2 :: pc r
theorem pc_append (a b : List (Value × Value)) : pc (a ++ b) = pc a ++ pc b := by
  induction a with
  | nil => rfl
  | cons x r ih => simp only [List.cons_append, pc, ih]
theorem pc_get : ∀ (a : List (Value × Value)) (j : Nat) (h : j < a.length), (pc a)[j * 2]? = some a[j].1 ∧ (pc a)[j * 2 + 1]? = some a[j].2
  | x :: r, 0, _ => ⟨rfl, rfl⟩
  | x :: r, j + 1, h => by
    have := pc_get r j (by simpa using h)
    rw [Nat.succ_mul]
    exact this
/-- bytes at the head of a block -/
def Bt (w : World) (v : Value) (l : List Nat) : Prop := ∃ g cap, v = .slice (some ⟨g, 0, none⟩) l.length cap ∧ Nums .u8 w (some ⟨g, 0, none⟩) l.length cap l ∧ 0 < l.length
theorem Bt.below {w w' : World} {v : Value} {l : List Nat} (h : Bt w v l) (hb : Below w.heap.size w w') : Bt w' v l := by
  obtain ⟨g, cap, h1, h2, h3⟩ := h
  exact ⟨g, cap, h1, h2.below hb, h3⟩
/-- the pairs of keys -/
def Pt (w : World) (F : List UInt8 → Option (List Nat)) : List (Value × Value) → List (List UInt8) → Prop
  | [], [] => True
  | x :: vs, s :: ks => Bt w x.1 (KeepP.nat s) ∧ (∃ l, F s = some l ∧ Bt w x.2 l) ∧ Pt w F vs ks
  | _, _ => False
theorem Pt.len {w : World} {F : List UInt8 → Option (List Nat)} : ∀ {vs : List (Value × Value)} {ks : List (List UInt8)}, Pt w F vs ks → vs.length = ks.length
  | [], [], _ => rfl
  | x :: vs, s :: ks, h => by simp only [List.length_cons]; rw [Pt.len h.2.2]
theorem Pt.imp {w w' : World} {F : List UInt8 → Option (List Nat)} (hw : ∀ v l, Bt w v l → Bt w' v l) : ∀ {vs : List (Value × Value)} {ks : List (List UInt8)}, Pt w F vs ks → Pt w' F vs ks
  | [], [], _ => trivial
  | x :: vs, s :: ks, h => by
    obtain ⟨h1, ⟨l, h2, h3⟩, h4⟩ := h
    exact ⟨hw _ _ h1, ⟨l, h2, hw _ _ h3⟩, Pt.imp hw h4⟩
theorem Pt.below {w w' : World} {F : List UInt8 → Option (List Nat)} {vs : List (Value × Value)} {ks : List (List UInt8)} (h : Pt w F vs ks) (hb : Below w.heap.size w w') : Pt w' F vs ks := h.imp fun _ _ k => k.below hb
theorem Pt.snoc {w : World} {F : List UInt8 → Option (List Nat)} {x y : Value} {s : List UInt8} {l : List Nat} (hx : Bt w x (KeepP.nat s)) (hF : F s = some l) (hy : Bt w y l) : ∀ {vs : List (Value × Value)} {ks : List (List UInt8)}, Pt w F vs ks → Pt w F (vs ++ [(x, y)]) (ks ++ [s])
  | [], [], _ => ⟨hx, ⟨l, hF, hy⟩, trivial⟩
  | z :: vs, t :: ks, h => ⟨h.1, h.2.1, Pt.snoc hx hF hy h.2.2⟩
theorem Pt.get {w : World} {F : List UInt8 → Option (List Nat)} : ∀ {vs : List (Value × Value)} {ks : List (List UInt8)}, Pt w F vs ks → ∀ (j : Nat) (h1 : j < vs.length) (h2 : j < ks.length), Bt w vs[j].1 (KeepP.nat ks[j]) ∧ ∃ l, F ks[j] = some l ∧ Bt w vs[j].2 l
  | x :: vs, s :: ks, h, 0, _, _ => ⟨h.1, h.2.1⟩
  | x :: vs, s :: ks, h, j + 1, h1, h2 => Pt.get h.2.2 j (by simpa using h1) (by simpa using h2)
theorem elPair : El Tryz.prog 122 125 (.agg #[.slice none 0 0, .slice none 0 0]) 2 48 := ⟨Tryz.underlying122, by kernel_rfl, rfl, by decide⟩
/-- bytes are not the pairs' own block -/
theorem Bt.away {w w' : World} {base : Nat} {v : Value} {n : Nat} {vs : List (Value × Value)} {F : List UInt8 → Option (List Nat)} {ks : List (List UInt8)} (own : w.ownsRow base 125 2 v n (pc vs)) (hp : Pt w F vs ks) (h0 : vs = [] → v = .slice none 0 0) (hn : n = vs.length) (hg : w.grownBy w' v.ownBlock) {x : Value} {l : List Nat} (hx : Bt w x l) : Bt w' x l := by
  obtain ⟨g, cap, h1, h2, h3⟩ := hx
  refine ⟨g, cap, h1, nums_of_cells h2 ?_, h3⟩
  obtain ⟨c, t, f, hc⟩ := nums_cells h2 h3
  refine hg.block g (Array.getElem?_eq_some_iff.1 hc).1 fun e => ?_
  cases vs with
  | nil => rw [h0 rfl] at e; cases e
  | cons z r =>
    obtain ⟨va, vc, rfl, hr⟩ := ownsRow_slice own
    obtain ⟨b, rfl⟩ := own_some own (by rw [hn]; simp)
    cases e
    obtain ⟨b', o', e1, e2⟩ := hr.2.2.2.2 0 z.1 rfl
    cases e1
    obtain ⟨b'', o'', e3, e4⟩ := h2.at (j := 0) (by rw [h2.len]; exact h3)
    cases e3
    cases ks with
    | nil => exact hp
    | cons s ks =>
      obtain ⟨g', cap', hz, _⟩ := hp.1
      rw [hz] at e2
      rw [e2] at e4
      cases e4
end Go.Proofs.YtbjfgdahfpfgdaaGreatDoor.KeepW

namespace Go.Proofs.YtbjfgdahfpfgdaaGreatDoor.KeepP
open Go
set_option linter.unusedVariables false

/-- a key, and its value -/
abbrev Kv := List UInt8 × List Nat
/-- a pair as bytes -/
def encK (p : Kv) : List Nat := p.1.length :: p.2.length :: (nat p.1 ++ p.2)
theorem nat_length (K : List UInt8) : (nat K).length = K.length := by unfold nat; rw [List.length_map]
theorem encK_length (p : Kv) : (encK p).length = 2 + p.1.length + p.2.length := by
  unfold encK
  rw [List.length_cons, List.length_cons, List.length_append, nat_length]
  omega
/-- pairs as bytes -/
def encG (g : List Kv) : List Nat := g.flatMap encK
theorem encG_nil : encG [] = [] := rfl
theorem encG_snoc (g : List Kv) (p : Kv) : encG (g ++ [p]) = encG g ++ encK p := by unfold encG; rw [List.flatMap_append]; simp
theorem encG_cons (p : Kv) (g : List Kv) : encG (p :: g) = encK p ++ encG g := rfl
/-- a pair that may be -/
structure Kok (p : Kv) : Prop where
  k1 : 1 ≤ p.1.length
  k40 : p.1.length ≤ 40
  v1 : 1 ≤ p.2.length
  v120 : p.2.length ≤ 120
  by_ : Crc.Bytes p.2
theorem nat_bytes (K : List UInt8) : Crc.Bytes (nat K) := by
  intro x hx
  obtain ⟨b, _, rfl⟩ := List.mem_map.1 hx
  exact b.toNat_lt
theorem encK_bytes {p : Kv} (h : Kok p) : Crc.Bytes (encK p) := by
  intro x hx
  have h1 := h.k40
  have h2 := h.v120
  unfold encK at hx
  rcases List.mem_cons.1 hx with rfl | hx
  · omega
  · rcases List.mem_cons.1 hx with rfl | hx
    · omega
    · rcases List.mem_append.1 hx with hx | hx
      · exact nat_bytes _ x hx
      · exact h.by_ x hx
theorem encG_bytes {g : List Kv} (h : ∀ p ∈ g, Kok p) : Crc.Bytes (encG g) := by
  intro x hx
  obtain ⟨p, hp, hx⟩ := List.mem_flatMap.1 hx
  exact encK_bytes (h p hp) x hx
/-- the pairs of the pages that are full, those of the one behind them -/
def gstep (st : List (List Kv) × List Kv) (p : Kv) : List (List Kv) × List Kv := if 248 < (encG st.2).length + 2 + p.1.length + p.2.length then (st.1 ++ [st.2], [p]) else (st.1, st.2 ++ [p])
def gfold (ps : List Kv) : List (List Kv) × List Kv := ps.foldl gstep ([], [])
theorem gfold_snoc (ps : List Kv) (p : Kv) : gfold (ps ++ [p]) = gstep (gfold ps) p := by unfold gfold; rw [List.foldl_append]; rfl
def groups (ps : List Kv) : List (List Kv) := if (gfold ps).2 = [] then (gfold ps).1 else (gfold ps).1 ++ [(gfold ps).2]
/-- what the fold has, always -/
structure Gok (ps : List Kv) (st : List (List Kv) × List Kv) : Prop where
  all : st.1.flatten ++ st.2 = ps
  ne : ∀ g ∈ st.1, g ≠ []
  le : ∀ g ∈ st.1, (encG g).length ≤ 248
  le2 : (encG st.2).length ≤ 248
  pos : ps ≠ [] → st.2 ≠ []
theorem encG_eq_nil {g : List Kv} (h : g ≠ []) : 0 < (encG g).length := by
  cases g with
  | nil => exact absurd rfl h
  | cons p g =>
    rw [encG_cons, List.length_append, encK_length]
    omega
theorem gfold_ok : ∀ (n : Nat) (ps : List Kv), ps.length = n → (∀ p ∈ ps, Kok p) → Gok ps (gfold ps)
  | 0, ps, hn, _ => by
    obtain rfl := List.length_eq_zero_iff.1 hn
    exact ⟨rfl, fun g hg => (by cases hg), fun g hg => (by cases hg), by decide, fun h => absurd rfl h⟩
  | n + 1, ps, hn, h => by
    obtain ⟨qs, p, rfl⟩ : ∃ qs p, ps = qs ++ [p] := by
      have hne : ps ≠ [] := fun e => by rw [e] at hn; cases hn
      exact ⟨ps.dropLast, ps.getLast hne, (List.dropLast_concat_getLast hne).symm⟩
    have ih := gfold_ok n qs (by simp at hn; omega) fun q hq => h q (by simp [hq])
    have hp := h p (by simp)
    rw [gfold_snoc]
    have h1 := hp.k40
    have h2 := hp.v120
    unfold gstep
    by_cases hc : 248 < (encG (gfold qs).2).length + 2 + p.1.length + p.2.length
    · rw [if_pos hc]
      have hne : (gfold qs).2 ≠ [] := fun e => by rw [e, encG_nil] at hc; simp at hc; omega
      refine ⟨?_, fun g hg => ?_, fun g hg => ?_, ?_, fun _ => by simp⟩
      · show ((gfold qs).1 ++ [(gfold qs).2]).flatten ++ [p] = _
        rw [List.flatten_append, List.flatten_cons, List.flatten_nil, List.append_nil, ih.all]
      · rcases List.mem_append.1 hg with hg | hg
        · exact ih.ne g hg
        · rw [List.mem_singleton.1 hg]; exact hne
      · rcases List.mem_append.1 hg with hg | hg
        · exact ih.le g hg
        · rw [List.mem_singleton.1 hg]; exact ih.le2
      · show (encG [p]).length ≤ 248
        rw [show encG [p] = encK p by simp [encG], encK_length]
        omega
    · rw [if_neg hc]
      refine ⟨?_, ih.ne, ih.le, ?_, fun _ => by simp⟩
      · show (gfold qs).1.flatten ++ ((gfold qs).2 ++ [p]) = _
        rw [← List.append_assoc, ih.all]
      · show (encG ((gfold qs).2 ++ [p])).length ≤ 248
        rw [encG_snoc, List.length_append, encK_length]
        omega
/-- pairs of one size: how many pages -/
theorem gfold_count (z c : Nat) (hc : 1 ≤ c) (hz : ∀ k, 248 < z * k + z ↔ c ≤ k) : ∀ (n : Nat) (ps : List Kv), ps.length = n → (∀ p ∈ ps, (encK p).length = z) → c * (gfold ps).1.length + (gfold ps).2.length = ps.length ∧ (gfold ps).2.length ≤ c ∧ (0 < ps.length → 0 < (gfold ps).2.length) ∧ (encG (gfold ps).2).length = z * (gfold ps).2.length
  | 0, ps, hn, _ => by
    obtain rfl := List.length_eq_zero_iff.1 hn
    exact ⟨rfl, Nat.zero_le _, fun h => absurd h (by decide), rfl⟩
  | n + 1, ps, hn, h => by
    obtain ⟨qs, p, rfl⟩ : ∃ qs p, ps = qs ++ [p] := by
      have hne : ps ≠ [] := fun e => by rw [e] at hn; cases hn
      exact ⟨ps.dropLast, ps.getLast hne, (List.dropLast_concat_getLast hne).symm⟩
    obtain ⟨i1, i2, i3, i4⟩ := gfold_count z c hc hz n qs (by simp at hn; omega) fun q hq => h q (by simp [hq])
    have hp := h p (by simp)
    have hp' := hp
    rw [encK_length] at hp'
    rw [gfold_snoc]
    unfold gstep
    by_cases hcc : 248 < (encG (gfold qs).2).length + 2 + p.1.length + p.2.length
    · rw [if_pos hcc]
      have h1 : c ≤ (gfold qs).2.length := (hz _).1 (by rw [← i4]; omega)
      refine ⟨?_, by simpa using hc, fun _ => by simp, ?_⟩
      · show c * ((gfold qs).1 ++ [(gfold qs).2]).length + [p].length = _
        rw [List.length_append, List.length_append, List.length_singleton, List.length_singleton, Nat.mul_add, Nat.mul_one]
        omega
      · show (encG [p]).length = z * [p].length
        rw [show encG [p] = encK p by simp [encG], hp]
        simp
    · rw [if_neg hcc]
      have h1 : ¬ c ≤ (gfold qs).2.length := fun h => hcc (by have := (hz _).2 h; rw [← i4] at this; omega)
      refine ⟨?_, ?_, fun _ => by simp, ?_⟩
      · show c * (gfold qs).1.length + ((gfold qs).2 ++ [p]).length = _
        rw [List.length_append, List.length_append]
        omega
      · show ((gfold qs).2 ++ [p]).length ≤ c
        rw [List.length_append, List.length_singleton]
        omega
      · show (encG ((gfold qs).2 ++ [p])).length = z * ((gfold qs).2 ++ [p]).length
        rw [encG_snoc, List.length_append, List.length_append, hp, i4, List.length_singleton, Nat.mul_add, Nat.mul_one]
theorem groups_count {z c : Nat} (hc : 1 ≤ c) (hz : ∀ k, 248 < z * k + z ↔ c ≤ k) {ps : List Kv} (h : ∀ p ∈ ps, (encK p).length = z) : (groups ps).length ≤ ps.length ∧ (0 < ps.length → c * ((groups ps).length - 1) ≤ ps.length - 1) := by
  obtain ⟨i1, i2, i3, i4⟩ := gfold_count z c hc hz _ ps rfl h
  have h1 : (gfold ps).1.length ≤ c * (gfold ps).1.length := Nat.le_mul_of_pos_left _ (by omega)
  unfold groups
  by_cases hn : (gfold ps).2 = []
  · rw [if_pos hn]
    rw [hn] at i1 i3
    simp only [List.length_nil, Nat.add_zero, Nat.lt_irrefl] at i1 i3
    exact ⟨by omega, fun h0 => absurd (i3 h0) (by simp)⟩
  · rw [if_neg hn]
    have h2 : 0 < (gfold ps).2.length := List.length_pos_iff.2 hn
    rw [List.length_append, List.length_singleton]
    refine ⟨by omega, fun h0 => ?_⟩
    rw [Nat.add_sub_cancel]
    omega
/-- what the pages are -/
theorem groups_ok {ps : List Kv} (h : ∀ p ∈ ps, Kok p) : (groups ps).flatten = ps ∧ (∀ g ∈ groups ps, g ≠ [] ∧ (encG g).length ≤ 248) := by
  have ok := gfold_ok _ ps rfl h
  unfold groups
  by_cases hn : (gfold ps).2 = []
  · rw [if_pos hn]
    have := ok.all
    rw [hn, List.append_nil] at this
    exact ⟨this, fun g hg => ⟨ok.ne g hg, ok.le g hg⟩⟩
  · rw [if_neg hn]
    refine ⟨by rw [List.flatten_append]; simpa using ok.all, fun g hg => ?_⟩
    rcases List.mem_append.1 hg with hg | hg
    · exact ⟨ok.ne g hg, ok.le g hg⟩
    · rw [List.mem_singleton.1 hg]; exact ⟨hn, ok.le2⟩
/-- the pages' bytes -/
def pagesOf (ps : List Kv) : List (List Nat) := (groups ps).map encG
theorem pagesOf_mem {ps : List Kv} (h : ∀ p ∈ ps, Kok p) : ∀ l ∈ pagesOf ps, 1 ≤ l.length ∧ l.length ≤ 248 ∧ Crc.Bytes l := by
  obtain ⟨h1, h2⟩ := groups_ok h
  intro l hl
  obtain ⟨g, hg, rfl⟩ := List.mem_map.1 hl
  obtain ⟨h3, h4⟩ := h2 g hg
  refine ⟨encG_eq_nil h3, h4, encG_bytes fun p hp => h p ?_⟩
  rw [← h1]
  exact List.mem_flatten.2 ⟨g, hg, hp⟩
end Go.Proofs.YtbjfgdahfpfgdaaGreatDoor.KeepP

namespace Go.Proofs.YtbjfgdahfpfgdaaGreatDoor.ConcatW
open Go Go.RowKit Go.Proofs.YtbjfgdahfpfgdaaGreatDoor.Mem
set_option linter.unusedVariables false
set_option maxRecDepth 100000

/-- a slice of bytes: where, how many, room, its cells -/
structure Sl where
  a : Option Addr
  n : Nat
  c : Nat
  xs : List Value
def tot (rs : List Sl) : Nat := (rs.map (·.n)).sum
def cat (rs : List Sl) : List Value := rs.flatMap (·.xs)
theorem tot_succ {rs : List Sl} {j : Nat} (h : j < rs.length) : tot (rs.take (j + 1)) = tot (rs.take j) + rs[j].n := by
  unfold tot
  rw [List.take_succ_eq_append_getElem h, List.map_append, List.sum_append]
  simp
theorem cat_succ {rs : List Sl} {j : Nat} (h : j < rs.length) : cat (rs.take (j + 1)) = cat (rs.take j) ++ rs[j].xs := by
  unfold cat
  rw [List.take_succ_eq_append_getElem h, List.flatMap_append]
  simp
theorem tot_le (rs : List Sl) (j : Nat) : tot (rs.take j) ≤ tot rs := by
  unfold tot
  conv => rhs; rw [← List.take_append_drop j rs]
  rw [List.map_append, List.sum_append]
  omega
set_option maxHeartbeats 3200000 in
theorem concatN (g m : Nat) (rs : List Sl) (w : World) (hm : rs.length = m) (hr : ∀ j (h : j < rs.length), Row w 1 rs[j].a rs[j].n rs[j].c rs[j].xs ∧ (∀ u ∈ rs[j].xs, u.oneCell' = true) ∧ w.cell? ⟨g, j, none⟩ = some (.slice rs[j].a rs[j].n rs[j].c)) (hp : 0 < tot rs) (k1 : tot rs ≤ 100000) (hm2 : m ≤ 1000) :
    Calls Tryz.prog 105 #[.slice (some ⟨g, 0, none⟩) m m] w fun e w' => (∃ v, e = .returned v ∧ w'.ownsRow w.heap.size 5 1 v (tot rs) (cat rs)) ∧ Below w.heap.size w w' := by
  have HR := hid hr
  have HM := hid hm
  have HTL := hid (tot_le rs)
  have HTS := hid (fun (j : Nat) (h : j < rs.length) => tot_succ h)
  have HCS := hid (fun (j : Nat) (h : j < rs.length) => cat_succ h)
  have hta : tot (rs.take m) = tot rs := by rw [List.take_of_length_le (by omega)]
  have hca : cat (rs.take m) = cat rs := by rw [List.take_of_length_le (by omega)]
  have HTA := hid hta
  have HCA := hid hca
  have ht0 : tot (rs.take 0) = 0 := rfl
  have hc0 : cat (rs.take 0) = [] := rfl
  obtain ⟨tt, htt⟩ : ∃ f : Nat → Nat, f = fun j => tot (rs.take j) := ⟨_, rfl⟩
  obtain ⟨cc, hcc⟩ : ∃ f : Nat → List Value, f = fun j => cat (rs.take j) := ⟨_, rfl⟩
  have htt' : ∀ j, tot (rs.take j) = tt j := fun j => by rw [htt]
  have hcc' : ∀ j, cat (rs.take j) = cc j := fun j => by rw [hcc]
  simp only [htt', hcc'] at HTS HCS HTA HCA HTL ht0 hc0
  have HL := hid (fun j => Nat.le_trans (HTL.out j) k1)
  clear hr hm hta hca htt hcc htt' hcc'
  go_enter Tryz.func105, Tryz.ntmps105
  go_wp2
  go_loop [3, 11] (fun s i => ∃ j : Nat, j ≤ m ∧ i = .int .i64 j ∧ s = .int .i64 (tt j : Nat)) (fun _ i => m - (RowKit.intOf i).toNat)
  case atStart => exact ⟨0, by omega, rfl, by rw [ht0]; rfl⟩
  case round =>
    obtain ⟨j, hj, rfl, rfl⟩ := hrel
    by_cases hlt : j < m
    · have hjl : j < rs.length := by rw [HM.out]; exact hlt
      obtain ⟨r1, r2, r3⟩ := HR.out j hjl
      have hs := HTS.out j hjl
      have hl := HL.out (j + 1)
      have q1 := r1.2.1
      have q3 := r1.2.2.1
      have hl2 := HL.out j
      generalize rs[j] = r at hs q1 q3 r3
      obtain ⟨ra, rn, rc, rx⟩ := r
      simp only at hs q1 q3 r3
      have d1 : decide ((tt j : Int) + (rn : Int) < 0) = false := decide_eq_false (by omega)
      have HS := hid hs
      rw [hs] at hl
      unfold maxLen at q3
      clear hs r1 r2
      generalize tt j = T at *
      go_wp2
      go_round
      case rel => exact ⟨j + 1, by omega, by go_num, by rw [HS.out]; go_num⟩
      case measure => simp [RowKit.intOf]; omega
    · obtain rfl : j = m := by omega
      have hl := HL.out j
      have htp : 0 < tt j := by rw [HTA.out]; exact hp
      have HTJ := hid (show tt j = tot rs from HTA.out)
      generalize hT : tt j = T at *
      go_wp2_with fail
      refine (growB T _ htp (by omega)).mono ?_
      rintro e w1 ⟨⟨G, rfl, own1, hG1, hG2⟩, hb1⟩
      have z1 := hb1.size
      have own1' : w1.ownsRow w.heap.size 5 1 (.slice (some ⟨w.heap.size, 0, none⟩) 0 G) (tt 0) (cc 0) := by rw [ht0, hc0]; exact own1
      have HT := hid hT
      clear own1 hT
      go_wp2_with fail
      go_loopw [6, 27] (fun v i wr => ∃ q : Nat, q ≤ j ∧ i = .int .i64 q ∧ wr.ownsRow w.heap.size 5 1 v (tt q) (cc q) ∧ Below w.heap.size w wr) (fun _ i _ => j - (RowKit.intOf i).toNat)
      case atStart => exact ⟨0, by omega, rfl, own1', hb1⟩
      case round =>
        clear own1' hb1
        obtain ⟨q, hq, rfl, own, hb⟩ := hrel
        have zz := hb.size
        have hlq := HL.out q
        by_cases hlt2 : q < j
        · have hql : q < rs.length := by rw [HM.out]; exact hlt2
          obtain ⟨r1, r2, r3⟩ := HR.out q hql
          have hs := HTS.out q hql
          have hcs := HCS.out q hql
          have hl3 := HL.out (q + 1)
          replace r1 := r1.below hb
          replace r3 := kept hb r3
          generalize rs[q] = r at hs hcs r1 r2 r3
          obtain ⟨ra, rn, rc, rx⟩ := r
          simp only at hs hcs r1 r2 r3
          have HS := hid hs
          have HCC := hid hcs
          rw [hs] at hl3
          have q1 := r1.2.1
          have q3 := r1.2.2.1
          unfold maxLen at q3
          clear hs hcs ht0 hc0
          generalize tt q = T' at *
          generalize cc q = C' at *
          go_wp2_with (at_builtin; go_must (refine wpList_app RefW.elU8 rfl _ _ rfl w.heap.size _ T' C' rfl own ra rn rc rx rfl r1 r2 (by unfold maxLen; omega) (by omega) zz ?_); intro v' w2 own2 hb2 _)
          go_roundw
          case rel => exact ⟨q + 1, by omega, by go_num, by rw [HS.out, HCC.out]; exact own2, hb.trans hb2⟩
          case measure => simp [RowKit.intOf]; omega
        · obtain rfl : q = j := by omega
          have HO := hid own
          have HB := hid hb
          clear own hb
          go_wp2
          go_ret
          refine ⟨⟨_, rfl, ?_⟩, HB.out⟩
          have := HO.out
          rw [HCA.out, HT.out, HTJ.out] at this
          exact this
end Go.Proofs.YtbjfgdahfpfgdaaGreatDoor.ConcatW

namespace Go.Proofs.YtbjfgdahfpfgdaaGreatDoor.KeepW
open Go Go.RowKit Go.Maps Go.Proofs.YtbjfgdahfpfgdaaGreatDoor.Mem Go.Proofs.YtbjfgdahfpfgdaaGreatDoor.MapsW Go.Proofs.YtbjfgdahfpfgdaaGreatDoor.DevG Go.Proofs.YtbjfgdahfpfgdaaGreatDoor.Text Go.Proofs.YtbjfgdahfpfgdaaGreatDoor.KeepP Go.Proofs.YtbjfgdahfpfgdaaGreatDoor.ConcatW
set_option linter.unusedVariables false
set_option maxRecDepth 100000

/-- rows of bytes, as values -/
def Rows (w : World) : List Value → List (List Nat) → Prop
  | [], [] => True
  | v :: vs, l :: ls => Bt w v l ∧ Rows w vs ls
  | _, _ => False
theorem Rows.len {w : World} : ∀ {vs : List Value} {ls : List (List Nat)}, Rows w vs ls → vs.length = ls.length
  | [], [], _ => rfl
  | v :: vs, l :: ls, h => by simp only [List.length_cons]; rw [Rows.len h.2]
theorem Rows.imp {w w' : World} (hw : ∀ v l, Bt w v l → Bt w' v l) : ∀ {vs : List Value} {ls : List (List Nat)}, Rows w vs ls → Rows w' vs ls
  | [], [], _ => trivial
  | v :: vs, l :: ls, h => ⟨hw _ _ h.1, Rows.imp hw h.2⟩
theorem Rows.below {w w' : World} {vs : List Value} {ls : List (List Nat)} (h : Rows w vs ls) (hb : Below w.heap.size w w') : Rows w' vs ls := h.imp fun _ _ k => k.below hb
theorem Rows.snoc {w : World} {x : Value} {m : List Nat} (hx : Bt w x m) : ∀ {vs : List Value} {ls : List (List Nat)}, Rows w vs ls → Rows w (vs ++ [x]) (ls ++ [m])
  | [], [], _ => ⟨hx, trivial⟩
  | v :: vs, l :: ls, h => ⟨h.1, Rows.snoc hx h.2⟩
theorem Rows.get {w : World} : ∀ {vs : List Value} {ls : List (List Nat)}, Rows w vs ls → ∀ (j : Nat) (h1 : j < vs.length) (h2 : j < ls.length), Bt w vs[j] ls[j]
  | v :: vs, l :: ls, h, 0, _, _ => h.1
  | v :: vs, l :: ls, h, j + 1, h1, h2 => Rows.get h.2 j (by simpa using h1) (by simpa using h2)
theorem elRow : El Tryz.prog 127 35 (.slice none 0 0) 1 24 := ⟨Tryz.underlying127, by kernel_rfl, rfl, by decide⟩
/-- bytes are not where rows are -/
theorem Bt.far {w w' : World} {base : Nat} {e : TypeId} {v : Value} {n : Nat} {vs : List Value} (own : w.ownsRow base e 1 v n vs) (hv : ∀ u ∈ vs, ∀ z, u ≠ .int .u8 z) (h0 : vs = [] → v = .slice none 0 0) (hg : w.grownBy w' v.ownBlock) {x : Value} {l : List Nat} (hx : Bt w x l) : Bt w' x l := by
  obtain ⟨g, cap, h1, h2, h3⟩ := hx
  refine ⟨g, cap, h1, nums_of_cells h2 ?_, h3⟩
  obtain ⟨c, t, f, hc⟩ := nums_cells h2 h3
  refine hg.block g (Array.getElem?_eq_some_iff.1 hc).1 fun e => ?_
  cases vs with
  | nil => rw [h0 rfl] at e; cases e
  | cons z r =>
    obtain ⟨va, vc, rfl, hr⟩ := ownsRow_slice own
    obtain ⟨b, rfl⟩ := own_some own (by have := hr.1; simp at this; omega)
    cases e
    obtain ⟨b', o', e1, e2⟩ := hr.2.2.2.2 0 z rfl
    cases e1
    obtain ⟨b'', o'', e3, e4⟩ := h2.at (j := 0) (by rw [h2.len]; exact h3)
    cases e3
    rw [e2] at e4
    exact hv z (by simp) _ (Option.some.inj e4)
theorem Rows.nou8 {w : World} : ∀ {vs : List Value} {ls : List (List Nat)}, Rows w vs ls → ∀ u ∈ vs, ∀ z, u ≠ .int .u8 z
  | v :: vs, l :: ls, h, u, hu, z => by
    rcases List.mem_cons.1 hu with rfl | hu
    · obtain ⟨g, cap, e, _⟩ := h.1
      rw [e]
      exact fun e => by cases e
    · exact Rows.nou8 h.2 u hu z
/-- bytes, or nothing -/
def BB (w : World) (v : Value) (l : List Nat) : Prop := (l = [] ∧ v = .slice none 0 0) ∨ Bt w v l
theorem BB.below {w w' : World} {v : Value} {l : List Nat} (h : BB w v l) (hb : Below w.heap.size w w') : BB w' v l := h.imp id fun k => k.below hb
theorem BB.sl {w : World} {v : Value} {l : List Nat} (h : BB w v l) : ∃ a c, v = .slice a l.length c ∧ Nums .u8 w a l.length c l := by
  rcases h with ⟨rfl, rfl⟩ | ⟨g, cap, rfl, h2, _⟩
  · exact ⟨none, 0, rfl, Nums.nil _ _⟩
  · exact ⟨_, _, rfl, h2⟩
/-- the pairs of keys -/
def kvs (F : List UInt8 → Option (List Nat)) (ks : List (List UInt8)) : List Kv := ks.map fun K => (K, (F K).getD [])
theorem kvs_take (F : List UInt8 → Option (List Nat)) (ks : List (List UInt8)) (j : Nat) (h : j < ks.length) : kvs F (ks.take (j + 1)) = kvs F (ks.take j) ++ [(ks[j], (F ks[j]).getD [])] := by
  unfold kvs
  rw [List.take_succ_eq_append_getElem h, List.map_append]
  rfl
theorem nums_one (l : List Nat) : ∀ u ∈ nums .u8 l, u.oneCell' = true := by
  intro u hu
  obtain ⟨x, _, rfl⟩ := List.mem_map.1 hu
  rfl
theorem four_cells {w : World} {a b c d : Value} {t : TypeId} : (w.alloc (.cells #[a, b, c, d] t)).cell? ⟨w.heap.size, 0, none⟩ = some a ∧ (w.alloc (.cells #[a, b, c, d] t)).cell? ⟨w.heap.size, 1, none⟩ = some b ∧ (w.alloc (.cells #[a, b, c, d] t)).cell? ⟨w.heap.size, 2, none⟩ = some c ∧ (w.alloc (.cells #[a, b, c, d] t)).cell? ⟨w.heap.size, 3, none⟩ = some d := by
  refine ⟨?_, ?_, ?_, ?_⟩ <;> (rw [World.cell?, heap_alloc_new]; rfl)
/-- b, the lengths, the key, the value: one behind the other -/
theorem concat4 (a : Option Addr) (c : Nat) (l : List Nat) (W3 : World) (t1 : Nat) (K : List UInt8) (kg kc : Nat) (x : List Nat) (xa : Option Addr) (xc : Nat) (hl : Nums .u8 W3 a l.length c l) (ht : Nums .u8 W3 (some ⟨t1, 0, none⟩) 2 2 [K.length, x.length]) (hk : Nums .u8 W3 (some ⟨kg, 0, none⟩) K.length kc (KeepP.nat K)) (hx : Nums .u8 W3 xa x.length xc x) (hle : l.length + 2 + K.length + x.length ≤ 10000) :
    Calls Tryz.prog 105 #[.slice (some ⟨W3.heap.size, 0, none⟩) 4 4] (W3.alloc (.cells #[.slice a l.length c, .slice (some ⟨t1, 0, none⟩) 2 2, .slice (some ⟨kg, 0, none⟩) K.length kc, .slice xa x.length xc] 35)) fun e w' => (∃ v, e = .returned v ∧ Bt w' v (l ++ encK (K, x))) ∧ Below W3.heap.size W3 w' := by
  have bA := (Below.refl W3.heap.size W3).alloc (Nat.le_refl _) (.cells #[.slice a l.length c, .slice (some ⟨t1, 0, none⟩) 2 2, .slice (some ⟨kg, 0, none⟩) K.length kc, .slice xa x.length xc] 35)
  obtain ⟨c0, c1, c2, c3⟩ := four_cells (w := W3) (a := .slice a l.length c) (b := .slice (some ⟨t1, 0, none⟩) 2 2) (c := .slice (some ⟨kg, 0, none⟩) K.length kc) (d := .slice xa x.length xc) (t := 35)
  have hc := concatN W3.heap.size 4 [⟨a, l.length, c, nums .u8 l⟩, ⟨some ⟨t1, 0, none⟩, 2, 2, nums .u8 [K.length, x.length]⟩, ⟨some ⟨kg, 0, none⟩, K.length, kc, nums .u8 (KeepP.nat K)⟩, ⟨xa, x.length, xc, nums .u8 x⟩] (W3.alloc (.cells #[.slice a l.length c, .slice (some ⟨t1, 0, none⟩) 2 2, .slice (some ⟨kg, 0, none⟩) K.length kc, .slice xa x.length xc] 35)) rfl (fun j hj => ?_) (by simp [tot]; omega) (by simp [tot]; omega) (by decide)
  · refine hc.mono ?_
    rintro e w' ⟨⟨v, rfl, own⟩, hb⟩
    refine ⟨⟨v, rfl, ?_⟩, bA.trans (hb.mono (by simp))⟩
    have e1 : cat [⟨a, l.length, c, nums .u8 l⟩, ⟨some ⟨t1, 0, none⟩, 2, 2, nums .u8 [K.length, x.length]⟩, ⟨some ⟨kg, 0, none⟩, K.length, kc, nums .u8 (KeepP.nat K)⟩, ⟨xa, x.length, xc, nums .u8 x⟩] = nums .u8 (l ++ encK (K, x)) := by
      simp [cat, nums, encK]
    have e2 : tot [⟨a, l.length, c, nums .u8 l⟩, ⟨some ⟨t1, 0, none⟩, 2, 2, nums .u8 [K.length, x.length]⟩, ⟨some ⟨kg, 0, none⟩, K.length, kc, nums .u8 (KeepP.nat K)⟩, ⟨xa, x.length, xc, nums .u8 x⟩] = (l ++ encK (K, x)).length := by
      rw [List.length_append, encK_length]
      simp [tot]
      omega
    rw [e1, e2] at own
    have hp : 0 < (l ++ encK (K, x)).length := by rw [List.length_append, encK_length]; omega
    obtain ⟨g, cap, rfl, hn, _⟩ := row1 own hp
    exact ⟨g, cap, rfl, hn, hp⟩
  · match j, hj with
    | 0, _ => exact ⟨Nums.below hl bA, nums_one _, c0⟩
    | 1, _ => exact ⟨Nums.below ht bA, nums_one _, c1⟩
    | 2, _ => exact ⟨Nums.below hk bA, nums_one _, c2⟩
    | 3, _ => exact ⟨Nums.below hx bA, nums_one _, c3⟩
theorem ownsRow_base {w : World} {B B' : Nat} {e : TypeId} {size : Nat} {v : Value} {n : Nat} {xs : List Value} (h : w.ownsRow B e size v n xs) (hB : B' ≤ B) : w.ownsRow B' e size v n xs := by
  rcases h with ⟨h1, h2 | ⟨g, c, cur, h2, h3, h4⟩⟩
  · exact ⟨h1, .inl h2⟩
  · exact ⟨h1, .inr ⟨g, c, cur, h2, Nat.le_trans hB h3, h4⟩⟩
/-- what packed gives -/
def PackTo (w : World) (F : List UInt8 → Option (List Nat)) (np : Nat) (e : Ending) (w' : World) : Prop :=
  ∃ (ks : List (List UInt8)) (a : Option Addr) (cap : Nat) (vs : List Value), e = .returned (.slice a (pagesOf (kvs F ks)).length cap) ∧ SKeys F ks ∧ ks.length = np ∧ w'.ownsRow w.heap.size 35 1 (.slice a (pagesOf (kvs F ks)).length cap) (pagesOf (kvs F ks)).length vs ∧ Rows w' vs (pagesOf (kvs F ks)) ∧ Below w.heap.size w w'
set_option maxHeartbeats 6400000 in
theorem packed_w (base k l n np : Nat) (F : List UInt8 → Option (List Nat)) (w : World) (h : KAt w base k l n F np) (hnp : np ≤ 1000) (hF0 : ∀ s x, F s = some x → Kok (s, x)) :
    Calls Tryz.prog 66 #[ptr k] w (PackTo w F np) := by
  go_enter Tryz.func66, Tryz.ntmps66
  go_wp2_with fail
  refine (keys_w base k l n np F w h (by omega)).mono ?_
  rintro e w1 ⟨a, cap, ks, rfl, hK, hkl, hR, b1⟩
  have HK := hid hK
  have HR := hid hR
  have HA := hid (h.below b1)
  have Hb := hid b1
  have hb40 := hR.2.1
  have hb41 := hR.2.2.1
  unfold maxLen at hb41
  have HF0 := hid hF0
  have hok : ∀ p ∈ kvs F ks, Kok p := fun p hp => by
    obtain ⟨K, hKm, rfl⟩ := List.mem_map.1 hp
    obtain ⟨x, hx⟩ := Option.isSome_iff_exists.1 ((hK.mem _).1 hKm)
    rw [hx]
    exact hF0 _ _ hx
  have HOK := hid hok
  have HKL := hid hkl
  obtain ⟨st, hst⟩ : ∃ f : Nat → List (List Kv) × List Kv, f = fun j => gfold (kvs F (ks.take j)) := ⟨_, rfl⟩
  have HST := hid hst
  have hs0 : st 0 = ([], []) := by rw [hst]; rfl
  have HGO := hid (show ∀ j, (encG (st j).2).length ≤ 248 ∧ (st j).1.length ≤ 1000 from fun j => by
    rw [hst]
    have hq : ∀ p ∈ kvs F (ks.take j), Kok p := fun p hp => by
      obtain ⟨K, hKm, rfl⟩ := List.mem_map.1 hp
      exact hok _ (List.mem_map.2 ⟨K, List.mem_of_mem_take hKm, rfl⟩)
    have ok := gfold_ok _ _ rfl hq
    refine ⟨ok.le2, ?_⟩
    have h1 : (gfold (kvs F (ks.take j))).1.length ≤ (gfold (kvs F (ks.take j))).1.flatten.length := by
      have hne := ok.ne
      generalize (gfold (kvs F (ks.take j))).1 = G at hne ⊢
      induction G with
      | nil => simp
      | cons g G ih =>
        have h2 := hne g (by simp)
        have h3 := List.length_pos_iff.2 h2
        have h4 := ih fun x hx => hne x (by simp [hx])
        rw [List.flatten_cons, List.length_append, List.length_cons]
        omega
    have h2 : ((gfold (kvs F (ks.take j))).1.flatten ++ (gfold (kvs F (ks.take j))).2).length = (kvs F (ks.take j)).length := by rw [ok.all]
    rw [List.length_append] at h2
    have h3 : (kvs F (ks.take j)).length ≤ ks.length := by unfold kvs; rw [List.length_map, List.length_take]; omega
    show (gfold (kvs F (ks.take j))).1.length ≤ 1000
    omega)
  have HSU := hid (show ∀ j (hj : j < ks.length), st (j + 1) = gstep (st j) (ks[j], (F ks[j]).getD []) from fun j hj => by
    rw [hst]
    show gfold (kvs F (ks.take (j + 1))) = _
    rw [kvs_take F ks j hj, gfold_snoc])
  clear h hK hR b1 hF0 hok hkl hst
  go_wp2_with fail
  go_loopw [3, 4, 11] (fun ov bv iv wr => ∃ (j : Nat) (vs : List Value), j ≤ ks.length ∧ iv = .int .i64 j ∧ wr.ownsRow w1.heap.size 35 1 ov (st j).1.length vs ∧ (vs = [] → ov = .slice none 0 0) ∧ Rows wr vs ((st j).1.map encG) ∧ BB wr bv (encG (st j).2) ∧ Below w1.heap.size w1 wr) (fun _ _ iv _ => ks.length - (RowKit.intOf iv).toNat)
  case atStart => exact ⟨0, [], by omega, rfl, by rw [hs0]; exact World.ownsRow_nil _ _ _ _, fun _ => rfl, by rw [hs0]; trivial, by rw [hs0]; exact .inl ⟨rfl, rfl⟩, Below.refl _ _⟩
  case round =>
    obtain ⟨j, vs, hj, rfl, hown, h0, hP, hBB, hB⟩ := hrel
    by_cases hlt : j < ks.length
    · have KA := HA.out.below hB
      have c1 := KA.c1
      obtain ⟨b, off, rfl, hc⟩ := (Row.below HR.out hB).2.2.2.2 j (encStr ks[j]) (by simp [hlt])
      have hmem : ks[j] ∈ ks := List.getElem_mem hlt
      have hsu := HSU.out j hlt
      obtain ⟨go1, go2⟩ := HGO.out j
      have hsl := HK.out.fit _ hmem
      obtain ⟨xl, hFs⟩ := Option.isSome_iff_exists.1 ((HK.out.mem _).1 hmem)
      have hko := HF0.out _ _ hFs
      rw [hFs] at hsu
      obtain ⟨k1, k40, v1, v120⟩ := (⟨hko.k1, hko.k40, hko.v1, hko.v120⟩ : _ ∧ _ ∧ _ ∧ _)
      simp only at k1 k40 v1 v120
      have i1 : (0 : Int) ≤ (j : Int) := by omega
      have i2 : (j : Int) < (ks.length : Int) := by omega
      generalize ks[j] = s at hc hsl hFs hsu k1 k40
      have hc' : wr.cell? ⟨b, off + j, none⟩ = some (.string ⟨s.toArray⟩) := hc
      have hsz : (ByteArray.mk s.toArray).size ≤ maxLen := by show s.toArray.size ≤ maxLen; rw [List.size_toArray]; exact hsl
      have hssz : ((ByteArray.mk s.toArray).size : Int) = (s.length : Int) := by show (s.toArray.size : Int) = _; simp
      obtain ⟨gl, cl, hlook, hnl, hgl, hl0⟩ := KA.map.look_some (s := ⟨s.toArray⟩) hsz (l := xl) hFs
      have HS := hid (show st (j + 1) = gstep (st j) (s, xl) from hsu)
      have HOW := hid hown
      have HH0 := hid h0
      have HP := hid hP
      have HNL := hid hnl
      have HB := hid hB
      obtain ⟨ba, bc, rfl, hbn⟩ := hBB.sl
      obtain ⟨bl, hbl⟩ : ∃ bl, bl = (encG (st j).2).length := ⟨_, rfl⟩
      have HBB := hid (show BB wr (.slice ba bl bc) (encG (st j).2) by rw [hbl]; exact hBB)
      rw [← hbl] at go1 ⊢
      have HBL := hid hbl
      clear hown h0 hP hBB hc hmem hsu hko hFs hnl hB hbn hbl KA
      obtain ⟨cv, d1⟩ : ∃ cv : Bool, decide ((248 : Int) < (bl : Int) + 2 + (s.length : Int) + (xl.length : Int)) = cv := ⟨_, rfl⟩
      have HCV := hid (show cv = decide (248 < bl + 2 + s.length + xl.length) by rw [← d1, Bool.eq_iff_iff, decide_eq_true_eq, decide_eq_true_eq]; omega)
      go_upto_if 30 with fail
      clear d1
      go_cut [3, 4] from 31 to 34 (fun ov bv wx => ∃ (G : List (List Kv)) (g : List Kv) (vs' : List Value), gstep (st j) (s, xl) = (G, g ++ [(s, xl)]) ∧ G.length ≤ 1001 ∧ (encG g).length ≤ 248 ∧ wx.ownsRow w1.heap.size 35 1 ov G.length vs' ∧ (vs' = [] → ov = .slice none 0 0) ∧ Rows wx vs' (G.map encG) ∧ BB wx bv (encG g) ∧ Below w1.heap.size w1 wx ∧ Nums .u8 wx (some ⟨gl, 0, none⟩) xl.length cl xl)
      case first =>
        cases cv with
        | true =>
          have hcc : 248 < bl + 2 + s.length + xl.length := of_decide_eq_true HCV.out.symm
          have hgs : gstep (st j) (s, xl) = ((st j).1 ++ [(st j).2], [] ++ [(s, xl)]) := by
            unfold gstep
            rw [if_pos (by rw [← HBL.out]; exact hcc)]
            rfl
          have HGS := hid hgs
          have hbt : Bt wr (.slice ba bl bc) (encG (st j).2) := by
            rcases HBB.out with ⟨e, _⟩ | hbt
            · have := HBL.out
              rw [e] at this
              simp at this
              omega
            · exact hbt
          have HBT := hid hbt
          clear hcc hgs hbt
          go_wp2_with (at_builtin; go_must (refine wpList_push elRow rfl _ _ rfl w1.heap.size _ _ _ rfl (HOW.out.alloc _) wr.heap.size (.slice ba bl bc) rfl (by simp) rfl (by unfold maxLen; omega) (by omega) (by have := HB.out.size; simp; omega) ?_); intro ov3 w3 o3 hb3 hg3)
          have bA := (Below.refl wr.heap.size wr).alloc (Nat.le_refl _) (.cells #[.slice ba bl bc] 35)
          have im : ∀ x l', Bt (wr.alloc (.cells #[.slice ba bl bc] 35)) x l' → Bt w3 x l' := fun x l' hx => Bt.far (ownsRow_below HOW.out bA) HP.out.nou8 HH0.out hg3 hx
          have HR3 := hid (Rows.snoc (im _ _ (HBT.out.below bA)) ((HP.out.below bA).imp im))
          have HN3 := hid (show Nums .u8 w3 (some ⟨gl, 0, none⟩) xl.length cl xl from by
            obtain ⟨g', c', e', hn', _⟩ := im (.slice (some ⟨gl, 0, none⟩) xl.length cl) xl ⟨gl, cl, rfl, HNL.out.below bA, by omega⟩
            cases e'
            exact hn')
          have HB3 := hid (HB.out.trans ((bA.mono HB.out.size).trans hb3))
          clear hg3
          go_wp2_with fail
          go_meet
          case rel => exact ⟨_, [], _, HGS.out, by rw [List.length_append, List.length_singleton]; omega, by decide, by rw [List.length_append, List.length_singleton]; exact o3, fun e => by simp at e, by rw [List.map_append]; exact HR3.out, .inl ⟨rfl, rfl⟩, HB3.out, HN3.out⟩
        | false =>
          have hcc : ¬ 248 < bl + 2 + s.length + xl.length := of_decide_eq_false HCV.out.symm
          have hgs : gstep (st j) (s, xl) = ((st j).1, (st j).2 ++ [(s, xl)]) := by
            unfold gstep
            rw [if_neg (by rw [← HBL.out]; exact hcc)]
          have HGS := hid hgs
          clear hcc hgs
          go_wp2_with fail
          go_meet
          case rel => exact ⟨_, _, vs, HGS.out, by omega, by rw [← HBL.out]; exact go1, HOW.out, HH0.out, HP.out, HBB.out, HB.out, HNL.out⟩
      case rest =>
        obtain ⟨G, g, vs', e1, e2, e3, o', h0', r', b', B', n'⟩ := hcut
        obtain ⟨ga, gc, rfl, gn⟩ := b'.sl
        have hwz := B'.size
        have fs : IntKind.u8.wrap (s.length : Int) = (s.length : Int) := by rw [IntKind.wrap_u8]; omega
        have fx : IntKind.u8.wrap (xl.length : Int) = (xl.length : Int) := by rw [IntKind.wrap_u8]; omega
        have bT := (Below.refl wc.heap.size wc).alloc (Nat.le_refl _) (.cells #[.int .u8 (s.length : Int), .int .u8 (xl.length : Int)] 5)
        have hT : Nums .u8 (wc.alloc (.cells #[.int .u8 (s.length : Int), .int .u8 (xl.length : Int)] 5)) (some ⟨wc.heap.size, 0, none⟩) 2 2 [s.length, xl.length] := Row.fresh wc #[.int .u8 (s.length : Int), .int .u8 (xl.length : Int)] 5 (0, 0) 2 rfl (by decide)
        obtain ⟨kc, W3, hrun, hn1, hb1, hz1⟩ := bytes_run s hsl (wc.alloc (.cells #[.int .u8 (s.length : Int), .int .u8 (xl.length : Int)] 5))
        have b03 : Below wc.heap.size wc W3 := bT.trans (hb1.mono (by simp))
        have hcat := concat4 ga gc (encG g) W3 wc.heap.size s _ kc xl (some ⟨gl, 0, none⟩) cl (gn.below b03) (hT.below hb1) hn1 (n'.below b03) (by omega)
        rw [show (wc.alloc (.cells #[.int .u8 (s.length : Int), .int .u8 (xl.length : Int)] 5)).heap.size = wc.heap.size + 1 by simp] at hrun hcat
        have HG := hid e1
        have HO := hid (And.intro o' (And.intro h0' (And.intro r' B')))
        have HB03 := hid b03
        obtain ⟨gm, hgm⟩ : ∃ gm, gm = (encG g).length := ⟨_, rfl⟩
        rw [← hgm] at hcat ⊢
        clear e1 o' h0' r' b' B' n' gn hT bT hb1 hn1 b03 e3 hgm hz1
        go_wp2_with fail
        refine hcat.mono ?_
        rintro e w4 ⟨⟨v, rfl, hv⟩, hb4⟩
        have b4 := HB03.out.trans (hb4.mono HB03.out.size)
        have HV := hid hv
        have HO4 := hid (ownsRow_below HO.out.1 b4)
        have HR4 := hid (HO.out.2.2.1.below b4)
        have HB4 := hid (HO.out.2.2.2.trans (b4.mono hwz))
        clear hcat hv hb4 b4 hrun
        go_wp2_with fail
        go_roundw
        case rel => exact ⟨j + 1, vs', by omega, by go_num, by rw [HS.out, HG.out]; exact HO4.out, HO.out.2.1, by rw [HS.out, HG.out]; exact HR4.out, by rw [HS.out, HG.out, encG_snoc]; exact .inr HV.out, HB4.out⟩
        case measure => simp [RowKit.intOf]; omega
    · obtain rfl : j = ks.length := by omega
      have hall : ks.take ks.length = ks := List.take_length
      have hst' : st ks.length = gfold (kvs F ks) := by rw [HST.out]; show gfold (kvs F (ks.take ks.length)) = _; rw [hall]
      have hpg : pagesOf (kvs F ks) = if (st ks.length).2 = [] then (st ks.length).1.map encG else (st ks.length).1.map encG ++ [encG (st ks.length).2] := by
        unfold pagesOf groups
        rw [hst']
        split
        · rfl
        · rw [List.map_append]; rfl
      obtain ⟨go1, go2⟩ := HGO.out ks.length
      obtain ⟨ba, bc, rfl, hbn⟩ := hBB.sl
      obtain ⟨oa, oc, rfl, hor⟩ := ownsRow_slice hown
      have HPG := hid hpg
      clear hall hst' hpg hbn hor
      by_cases hn0 : (st ks.length).2 = []
      · have hl0 : (encG (st ks.length).2).length = 0 := by rw [hn0]; rfl
        have e1 : pagesOf (kvs F ks) = (st ks.length).1.map encG := by rw [HPG.out, if_pos hn0]
        have HF := hid (show PackTo w F np (.returned (.slice oa (st ks.length).1.length oc)) wr from ⟨ks, oa, oc, vs, by rw [e1, List.length_map], HK.out, HKL.out, by rw [e1, List.length_map]; exact ownsRow_base hown Hb.out.size, by rw [e1]; exact hP, Hb.out.trans (hB.mono Hb.out.size)⟩)
        rw [hl0]
        clear hn0 hl0 e1 hown h0 hP hBB hB
        go_wp2_with fail
        go_ret
        exact HF.out
      · have hl0 : 0 < (encG (st ks.length).2).length := encG_eq_nil hn0
        have e1 : pagesOf (kvs F ks) = (st ks.length).1.map encG ++ [encG (st ks.length).2] := by rw [HPG.out, if_neg hn0]
        have hbt : Bt wr (.slice ba (encG (st ks.length).2).length bc) (encG (st ks.length).2) := by
          rcases hBB with ⟨e, _⟩ | hbt
          · rw [e] at hl0; simp at hl0
          · exact hbt
        have hl0i := hl0
        have HE1 := hid e1
        have HOW := hid hown
        have HBT := hid hbt
        have HP := hid hP
        have HH0 := hid h0
        have HB := hid hB
        obtain ⟨bl, hbl⟩ : ∃ bl, bl = (encG (st ks.length).2).length := ⟨_, rfl⟩
        have HBT2 := hid (show Bt wr (.slice ba bl bc) (encG (st ks.length).2) by rw [hbl]; exact hbt)
        rw [← hbl] at hl0i ⊢
        clear hn0 hl0 e1 hown h0 hP hBB hB hbt hbl
        go_wp2_with (at_builtin; go_must (refine wpList_push elRow rfl _ _ rfl w1.heap.size _ _ _ rfl (HOW.out.alloc _) wr.heap.size (.slice ba bl bc) rfl (by simp) rfl (by unfold maxLen; omega) (by omega) (by have := HB.out.size; simp; omega) ?_); intro ov3 w3 o3 hb3 hg3)
        have bA := (Below.refl wr.heap.size wr).alloc (Nat.le_refl _) (.cells #[.slice ba bl bc] 35)
        have im : ∀ x l', Bt (wr.alloc (.cells #[.slice ba bl bc] 35)) x l' → Bt w3 x l' := fun x l' hx => Bt.far (ownsRow_below HOW.out bA) HP.out.nou8 HH0.out hg3 hx
        have HR3 := hid (Rows.snoc (im _ _ (HBT2.out.below bA)) ((HP.out.below bA).imp im))
        have HB3 := hid (HB.out.trans ((bA.mono HB.out.size).trans hb3))
        obtain ⟨va, vc, rfl, _⟩ := ownsRow_slice o3
        have HF := hid (show PackTo w F np (.returned (.slice va ((st ks.length).1.length + 1) vc)) w3 from ⟨ks, va, vc, _, by rw [HE1.out, List.length_append, List.length_map]; rfl, HK.out, HKL.out, by rw [HE1.out, List.length_append, List.length_map]; exact ownsRow_base o3 Hb.out.size, by rw [HE1.out]; exact HR3.out, Hb.out.trans (HB3.out.mono Hb.out.size)⟩)
        clear hg3 hb3 bA im o3
        go_wp2_with fail
        go_ret
        exact HF.out
end Go.Proofs.YtbjfgdahfpfgdaaGreatDoor.KeepW

namespace Go.Proofs.YtbjfgdahfpfgdaaGreatDoor.Crc
open Go

theorem turned_ne {l : List Nat} {p t : Nat} (hl : p + 4 ≤ l.length) (h0 : t ≠ 0) (ht : t < 4294967296) : turned l (p : Int) t ≠ l := by
  intro e
  have hb : ∀ k, k < 4 → byteOf t k = 0 := by
    intro k hk
    have h1 := turnK_get l p t 4 (p + k)
    rw [show turnK l (p : Int) t 4 = l from e] at h1
    have hlt : p + k < l.length := by omega
    rw [List.getElem?_eq_getElem hlt] at h1
    simp only [Option.map_some] at h1
    rw [if_pos (by omega), Nat.add_sub_cancel_left] at h1
    have h2 := Option.some.inj h1
    have h3 := congrArg (· ^^^ l[p + k]) h2
    simp only [Nat.xor_self] at h3
    rw [Nat.xor_comm l[p + k] (byteOf t k), Nat.xor_assoc, Nat.xor_self, Nat.xor_zero] at h3
    exact h3.symm
  have b0 := hb 0 (by omega)
  have b1 := hb 1 (by omega)
  have b2 := hb 2 (by omega)
  have b3 := hb 3 (by omega)
  unfold byteOf at b0 b1 b2 b3
  simp only [Nat.shiftRight_eq_div_pow] at b0 b1 b2 b3
  simp at b0 b1 b2 b3
  omega
theorem turned_sum_ne {l : List Nat} (hb : Bytes l) {p t : Nat} (hl : p + 4 ≤ l.length) (h0 : t ≠ 0) (ht : t < 4294967296) : sum (turned l (p : Int) t) ≠ sum l := by
  intro e
  exact turned_ne hl h0 ht ((turned_sum hb p t).1 e).symm

/-- a block of some bytes -/
def pad (l : List Nat) : List Nat := l ++ List.replicate (256 - l.length) 0
theorem pad_length {l : List Nat} (h : l.length ≤ 256) : (pad l).length = 256 := by
  unfold pad; rw [List.length_append, List.length_replicate]; omega
theorem pad_bytes {l : List Nat} (h : Bytes l) : Bytes (pad l) := by
  intro x hx
  rcases List.mem_append.1 hx with hx | hx
  · exact h x hx
  · rw [(List.mem_replicate.1 hx).2]; decide
theorem zeros_bytes (n : Nat) : Bytes (List.replicate n 0) := by
  intro x hx
  rw [(List.mem_replicate.1 hx).2]; decide
end Go.Proofs.YtbjfgdahfpfgdaaGreatDoor.Crc

namespace Go.Proofs.YtbjfgdahfpfgdaaGreatDoor.PgP
open Go.Proofs.YtbjfgdahfpfgdaaGreatDoor.RootP Go.Proofs.YtbjfgdahfpfgdaaGreatDoor.MapsW
set_option linter.unusedVariables false
set_option maxRecDepth 100000

abbrev Ref := Int × Nat
/-- a page's block -/
def pblk (l : List Nat) : List Nat := Crc.pad (l.length :: l)
/-- where a page lies -/
def tref (F : Int → Option Ref) (p : Nat) : Ref := (F (p : Int)).getD (0, 0)
/-- a table's block -/
def tblk (F : Int → Option Ref) (t : Nat) : List Nat := Crc.pad ((List.range 42).flatMap fun i => refB (tref F (t * 42 + i)))
theorem pblk_length {l : List Nat} (h : l.length ≤ 255) : (pblk l).length = 256 := Crc.pad_length (by simpa using h)
theorem pblk_bytes {l : List Nat} (h : l.length ≤ 255) (hb : Crc.Bytes l) : Crc.Bytes (pblk l) :=
  Crc.pad_bytes (by intro x hx; rcases List.mem_cons.1 hx with rfl | hx; omega; exact hb x hx)
theorem trefs_length (F : Int → Option Ref) (t : Nat) : ((List.range 42).flatMap fun i => refB (tref F (t * 42 + i))).length = 252 := by
  rw [List.length_flatMap]
  simp only [refB_length]
  decide
theorem refB_bytes (r : Ref) : Crc.Bytes (refB r) := by
  intro x hx
  rcases List.mem_append.1 hx with hx | hx
  · exact le_bytes _ _ x hx
  · exact le_bytes _ _ x hx
theorem tblk_length (F : Int → Option Ref) (t : Nat) : (tblk F t).length = 256 := Crc.pad_length (by rw [trefs_length]; omega)
theorem tblk_bytes (F : Int → Option Ref) (t : Nat) : Crc.Bytes (tblk F t) :=
  Crc.pad_bytes (by intro x hx; obtain ⟨i, _, hi⟩ := List.mem_flatMap.1 hx; exact refB_bytes _ x hi)

/-- has a table a page? -/
def has (F : Int → Option Ref) (t : Nat) : Bool := (List.range 42).any fun i => (F ((t * 42 + i : Nat) : Int)).isSome
theorem has_iff {F : Int → Option Ref} {t : Nat} : has F t = true ↔ ∃ p : Nat, (F (p : Int)).isSome = true ∧ p / 42 = t := by
  unfold has
  rw [List.any_eq_true]
  constructor
  · rintro ⟨i, hi, h⟩
    have := List.mem_range.1 hi
    exact ⟨t * 42 + i, h, by omega⟩
  · rintro ⟨p, h1, h2⟩
    exact ⟨p - t * 42, List.mem_range.2 (by omega), by rw [show t * 42 + (p - t * 42) = p by omega]; exact h1⟩
/-- how many pages there are -/
def cnt {α : Type} (F : Int → Option α) : Nat := (List.range 256).countP fun (p : Nat) => (F (p : Int)).isSome
/-- how many tables -/
def tcnt (T : List Ref) : Nat := T.countP fun r => decide (r.1 ≠ 0)

/-- a store: how often it was committed, its root's places, its tables, its pages, what was changed -/
structure St where
  ep : Nat
  rs : List Ref
  tabs : List Ref
  at_ : Int → Option Ref
  now : Int → Option (List Nat)
/-- how all is to lie -/
structure Lay where
  tabs : List Ref
  at_ : Int → Option Ref
  nt : List Nat
  pg : List Nat
  free : List Nat
/-- is there a page? -/
def St.there (S : St) (p : Int) : Bool := match S.now p with
  | some l => decide (0 < l.length)
  | none => decide (0 < ((S.at_ p).getD (0, 0)).1)
/-- the blocks in use, rising -/
def used (T : List Ref) (F : Int → Option Ref) (H : Nat) : List Nat := (List.range H).filter fun (a : Nat) => decide (a < 2) || T.any (fun r => decide (r.1 = (a : Int))) || (List.range 256).any fun (p : Nat) => (F (p : Int)).any fun r => decide (r.1 = (a : Int))
def frees (T : List Ref) (F : Int → Option Ref) (H : Nat) : List Nat := (List.range H).filter fun (a : Nat) => decide (2 ≤ a) && !(used T F H).contains a
/-- a page is to lie -/
def layP (N : Int → Option (List Nat)) (x : Lay) (p : Nat) : Option Lay :=
  if (N (p : Int)).getD [] = [] then some { x with at_ := upd x.at_ p none } else
  match x.free with
  | [] => none
  | f :: fs => some { x with at_ := upd x.at_ p (some ((f : Int), 0)), pg := x.pg ++ [p], free := fs }
/-- a table is to lie -/
def layT (x : Lay) (t : Nat) : Option Lay :=
  if has x.at_ t then
    match x.free with
    | [] => none
    | f :: fs => some { x with tabs := x.tabs.set t ((f : Int), 0), nt := x.nt ++ [t], free := fs }
  else some { x with tabs := x.tabs.set t (0, 0) }
def start (S : St) (H : Nat) : Lay := ⟨S.tabs, S.at_, [], [], frees S.tabs S.at_ H⟩
def laid0 (S : St) (H : Nat) (ks ts : List Nat) : Option Lay := (ks.foldlM (layP S.now) (start S H)).bind fun x => ts.foldlM layT x
def fits (x : Lay) (H : Nat) : Bool := decide (2 + cnt x.at_ + tcnt x.tabs ≤ H / 2)
/-- the pages that were changed, rising; their tables -/
def keys (N : Int → Option (List Nat)) : List Nat := (List.range 256).filter fun (p : Nat) => (N (p : Int)).isSome
def touched (ks : List Nat) : List Nat := (List.range 7).filter fun t => ks.any fun p => decide (p / 42 = t)
def laid (S : St) (H : Nat) : Option Lay := laid0 S H (keys S.now) (touched (keys S.now))
/-- the sums of what is written -/
def sumP (N : Int → Option (List Nat)) (F : Int → Option Ref) (p : Nat) : Int → Option Ref := upd F p (some ((tref F p).1, Crc.sum (pblk ((N (p : Int)).getD []))))
def sumsP (N : Int → Option (List Nat)) (F : Int → Option Ref) (pg : List Nat) : Int → Option Ref := pg.foldl (sumP N) F
def sumT (F : Int → Option Ref) (T : List Ref) (t : Nat) : List Ref := T.set t ((T.getD t (0, 0)).1, Crc.sum (tblk F t))
def sumsT (F : Int → Option Ref) (T : List Ref) (nt : List Nat) : List Ref := nt.foldl (sumT F) T
/-- what is written, in its order -/
def wrP (N : Int → Option (List Nat)) (x : Lay) : List (Nat × List Nat) := x.pg.map fun p => ((tref x.at_ p).1.toNat, pblk ((N (p : Int)).getD []))
def wrT (F : Int → Option Ref) (x : Lay) : List (Nat × List Nat) := x.nt.map fun t => ((x.tabs.getD t (0, 0)).1.toNat, tblk F t)
/-- the store behind a commit -/
def behind (S : St) (x : Lay) : St :=
  let F := sumsP S.now x.at_ x.pg
  let T := sumsT F x.tabs x.nt
  ⟨S.ep + 1, T, T, F, fun _ => none⟩
def writes (S : St) (x : Lay) : List (Nat × List Nat) := wrP S.now x ++ wrT (sumsP S.now x.at_ x.pg) x
end Go.Proofs.YtbjfgdahfpfgdaaGreatDoor.PgP
