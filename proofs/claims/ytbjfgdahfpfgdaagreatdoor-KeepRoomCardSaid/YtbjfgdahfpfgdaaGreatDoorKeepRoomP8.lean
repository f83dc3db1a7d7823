/- What a store has behind a commit fits what it is to have; Where there is room a commit is laid; The keys of a map of rows, rising: slices.Sorted of maps.Keys; Maps of ints keyed by an int: 1 at each of the keys; how many; The keys of a map of ints, rising: slices.Sorted of maps.Keys; A slice of integers; slices.Sort and slices.Compact of a row of integers of one's own. -/
import Derived.Test.YtbjfgdahfpfgdaaGreatDoorKeepRoomP7
import Derived.Test.YtbjfgdahfpfgdaaGreatDoorShelf
import Derived.Test.YtbjfgdahfpfgdaaGreatDoorKeepRoomP1
import Derived.Test.YtbjfgdahfpfgdaaGreatDoorShelfN
import Derived.Test.YtbjfgdahfpfgdaaGreatDoorProg
import Derived.Test.YtbjfgdahfpfgdaaGreatDoorShelfG
import Derived.Lib.OwnBridge
import Derived.Lib.SlKeysI
namespace Go.Proofs.YtbjfgdahfpfgdaaGreatDoor.PgP
open Go.Proofs.YtbjfgdahfpfgdaaGreatDoor.RootP Go.Proofs.YtbjfgdahfpfgdaaGreatDoor.MapsW
set_option linter.unusedVariables false
set_option maxRecDepth 100000

/-- what was changed may be a store's -/
structure NowOk (N : Int → Option (List Nat)) : Prop where
  dom : ∀ i, (N i).isSome = true → 0 ≤ i ∧ i < 256
  len : ∀ i l, N i = some l → l.length ≤ 248 ∧ Crc.Bytes l
theorem Fit.old_pg {H : Nat} {S : St} {V : Int → Option (List Nat)} {R : Nat → List Nat → Prop} (h : Fit H S V R) {i : Int} {r : Ref} (hi : S.at_ i = some r) :
    ∃ (a : Nat) (l : List Nat), V i = some l ∧ r = ((a : Int), Crc.sum (pblk l)) ∧ 2 ≤ a ∧ a < H ∧ a ∈ used S.tabs S.at_ H ∧ R a (pblk l) := by
  cases hV : V i with
  | none => rw [h.off i hV] at hi; cases hi
  | some l =>
    obtain ⟨a, h1, h2, h3, h4⟩ := h.pg i l hV
    rw [hi] at h1
    obtain rfl := Option.some.inj h1
    obtain ⟨d1, d2⟩ := h.dom i (by rw [hV]; rfl)
    refine ⟨a, l, rfl, rfl, h2, h3, mem_used.2 ⟨h3, .inr (.inr ⟨i.toNat, by omega, _, by rw [show ((i.toNat : Nat) : Int) = i by omega]; exact hi, rfl⟩)⟩, h4⟩
theorem Fit.old_tb {H : Nat} {S : St} {V : Int → Option (List Nat)} {R : Nat → List Nat → Prop} (h : Fit H S V R) {t : Nat} (ht : t < 7) (hh : has S.at_ t = true) :
    ∃ a : Nat, S.tabs.getD t (0, 0) = ((a : Int), Crc.sum (tblk S.at_ t)) ∧ 2 ≤ a ∧ a < H ∧ a ∈ used S.tabs S.at_ H ∧ R a (tblk S.at_ t) := by
  obtain ⟨a, h1, h2, h3, h4⟩ := h.tb t ht hh
  have hl : t < S.tabs.length := by rw [h.t7]; exact ht
  have hm : S.tabs.getD t (0, 0) ∈ S.tabs := by
    rw [List.getD_eq_getElem?_getD, List.getElem?_eq_getElem hl]
    exact List.getElem_mem hl
  exact ⟨a, h1, h2, h3, mem_used.2 ⟨h3, .inr (.inl ⟨_, hm, by rw [h1]⟩)⟩, h4⟩
theorem mem_get {α : Type} {l : List α} {a : α} (h : a ∈ l) : ∃ (j : Nat) (hj : j < l.length), l[j] = a := List.mem_iff_getElem.1 h

/-- a page behind a commit -/
inductive PgCase (S : St) (x : Lay) (us : List Nat) (F : Int → Option Ref) (i : Int) : Prop
  | new (j : Nat) (hj : j < x.pg.length) (hu : j < us.length) (l : List Nat) (e : i = ((x.pg[j] : Nat) : Int)) (hn : S.now i = some l) (hl : l ≠ []) (hF : F i = some ((us[j] : Int), Crc.sum (pblk l)))
  | gone (hn : S.now i = some []) (hF : F i = none)
  | old (hn : S.now i = none) (hF : F i = S.at_ i)
theorem Laid.cases {S : St} {H : Nat} {x : Lay} {us vs : List Nat} (L : Laid S H x us vs) (hN : NowOk S.now) (i : Int) : PgCase S x us (sumsP S.now x.at_ x.pg) i := by
  have hpn : x.pg.Nodup := by rw [L.pg]; exact (keys_nodup _).filter _
  have hs := sumsP_is S.now x.pg x.at_ hpn i
  cases hn : S.now i with
  | none =>
    have hne : ∀ p ∈ keys S.now, (p : Int) ≠ i := by
      rintro p hp rfl
      have := (mem_keys.1 hp).2
      rw [hn] at this
      cases this
    refine .old hn ?_
    rw [hs, if_neg, L.old i hne]
    rintro ⟨p, hp, e⟩
    rw [L.pg] at hp
    exact hne p (List.mem_filter.1 hp).1 e
  | some l =>
    obtain ⟨d1, d2⟩ := hN.dom i (by rw [hn]; rfl)
    obtain ⟨p, rfl⟩ : ∃ p : Nat, i = (p : Int) := ⟨i.toNat, by omega⟩
    have hk : p ∈ keys S.now := mem_keys.2 ⟨by omega, by rw [hn]; rfl⟩
    cases l with
    | nil =>
      have hnd : needs S.now p = false := by unfold needs; rw [hn]; simp
      refine .gone hn ?_
      rw [hs, if_neg, L.gone p hk hnd]
      rintro ⟨q, hq, e⟩
      obtain rfl := Int.natCast_inj.1 e
      rw [L.pg] at hq
      rw [(List.mem_filter.1 hq).2] at hnd
      cases hnd
    | cons y l =>
      have hnd : needs S.now p = true := by unfold needs; rw [hn]; simp
      have hm : p ∈ x.pg := by rw [L.pg]; exact List.mem_filter.2 ⟨hk, hnd⟩
      obtain ⟨j, hj, e⟩ := mem_get hm
      have hu : j < us.length := by rw [L.ul]; exact hj
      refine .new j hj hu (y :: l) (by rw [e]) hn (by simp) ?_
      rw [hs, if_pos ⟨p, hm, rfl⟩]
      have := L.new j hj hu
      rw [e] at this
      simp only [Int.toNat_natCast, tref, this, hn, Option.getD_some]
/-- a table behind a commit -/
inductive TbCase (S : St) (x : Lay) (vs : List Nat) (F : Int → Option Ref) (T : List Ref) (t : Nat) : Prop
  | new (j : Nat) (hj : j < x.nt.length) (hv : j < vs.length) (e : t = x.nt[j]) (hh : has F t = true) (hT : T.getD t (0, 0) = ((vs[j] : Int), Crc.sum (tblk F t)))
  | gone (hh : has F t = false) (hT : T.getD t (0, 0) = (0, 0))
  | old (hh : has F t = has S.at_ t) (hb : tblk F t = tblk S.at_ t) (hT : T.getD t (0, 0) = S.tabs.getD t (0, 0))
theorem Laid.has_eq {S : St} {H : Nat} {x : Lay} {us vs : List Nat} (L : Laid S H x us vs) (t : Nat) : has (sumsP S.now x.at_ x.pg) t = has x.at_ t := by
  have hpn : x.pg.Nodup := by rw [L.pg]; exact (keys_nodup _).filter _
  refine has_congr fun p hp => ?_
  rw [sumsP_is S.now x.pg x.at_ hpn]
  split
  · rename_i h
    obtain ⟨q, hq, e⟩ := h
    obtain rfl := Int.natCast_inj.1 e
    obtain ⟨j, hj, e2⟩ := mem_get hq
    have := L.new j hj (by rw [L.ul]; exact hj)
    rw [e2] at this
    rw [this]
    rfl
  · rfl
theorem Laid.tcases {S : St} {H : Nat} {x : Lay} {us vs : List Nat} (L : Laid S H x us vs) (h7 : S.tabs.length = 7) (t : Nat) (ht : t < 7) :
    TbCase S x vs (sumsP S.now x.at_ x.pg) (sumsT (sumsP S.now x.at_ x.pg) x.tabs x.nt) t := by
  have hpn : x.pg.Nodup := by rw [L.pg]; exact (keys_nodup _).filter _
  have hnn : x.nt.Nodup := by rw [L.nt]; exact (touched_nodup _).filter _
  have hnl : ∀ t ∈ x.nt, t < x.tabs.length := by
    intro t ht
    rw [L.nt] at ht
    rw [L.len, h7]
    exact (mem_touched.1 (List.mem_filter.1 ht).1).1
  have hs := (sumsT_is (sumsP S.now x.at_ x.pg) x.nt x.tabs hnn hnl).2 t
  by_cases htt : t ∈ touched (keys S.now)
  · cases hh : has x.at_ t with
    | true =>
      have hm : t ∈ x.nt := by rw [L.nt]; exact List.mem_filter.2 ⟨htt, hh⟩
      obtain ⟨j, hj, e⟩ := mem_get hm
      have hv : j < vs.length := by rw [L.vl]; exact hj
      refine .new j hj hv e.symm (by rw [L.has_eq]; exact hh) ?_
      rw [hs, if_pos hm]
      have := L.tnew j hj hv
      rw [e] at this
      rw [this]
    | false =>
      have hm : t ∉ x.nt := by rw [L.nt]; intro hm; rw [(List.mem_filter.1 hm).2] at hh; cases hh
      exact .gone (by rw [L.has_eq]; exact hh) (by rw [hs, if_neg hm]; exact L.tgone t htt hh)
  · have hm : t ∉ x.nt := by rw [L.nt]; intro hm; exact htt (List.mem_filter.1 hm).1
    have hsame : ∀ p : Nat, p / 42 = t → sumsP S.now x.at_ x.pg (p : Int) = S.at_ (p : Int) := by
      intro p hp
      have hk : ∀ q ∈ keys S.now, (q : Int) ≠ (p : Int) := by
        rintro q hq e
        obtain rfl := Int.natCast_inj.1 e
        exact htt (mem_touched.2 ⟨ht, q, hq, hp⟩)
      rw [sumsP_is S.now x.pg x.at_ hpn, if_neg, L.old _ hk]
      rintro ⟨q, hq, e⟩
      rw [L.pg] at hq
      exact hk q (List.mem_filter.1 hq).1 e
    refine .old (has_congr fun p hp => by rw [hsame p hp]) (tblk_congr hsame) ?_
    rw [hs, if_neg hm, List.getD_eq_getElem?_getD, List.getD_eq_getElem?_getD, L.told t htt]
theorem Laid.wr_pg {S : St} {H : Nat} {x : Lay} {us vs : List Nat} (L : Laid S H x us vs) {j : Nat} (hj : j < x.pg.length) (hu : j < us.length) : (us[j], pblk ((S.now ((x.pg[j] : Nat) : Int)).getD [])) ∈ writes S x := by
  refine List.mem_append.2 (.inl (List.mem_map.2 ⟨x.pg[j], List.getElem_mem hj, ?_⟩))
  simp only [tref, L.new j hj hu, Option.getD_some, Int.toNat_natCast]
theorem Laid.wr_tb {S : St} {H : Nat} {x : Lay} {us vs : List Nat} (L : Laid S H x us vs) {j : Nat} (hj : j < x.nt.length) (hv : j < vs.length) : (vs[j], tblk (sumsP S.now x.at_ x.pg) x.nt[j]) ∈ writes S x := by
  refine List.mem_append.2 (.inr (List.mem_map.2 ⟨x.nt[j], List.getElem_mem hj, ?_⟩))
  simp only [L.tnew j hj hv, Int.toNat_natCast]
theorem nodup_get {l : List Nat} (h : l.Nodup) {i j : Nat} (hi : i < l.length) (hj : j < l.length) (e : l[i] = l[j]) : i = j := (List.getElem_inj h).1 e
/-- the store behind a commit -/
theorem Fit.behind {H : Nat} {S : St} {V : Int → Option (List Nat)} {R R' : Nat → List Nat → Prop} {x : Lay} (h : Fit H S V R) (hN : NowOk S.now) (hx : laid S H = some x)
    (hold : ∀ a l, 2 ≤ a → a < H → a ∈ used S.tabs S.at_ H → R a l → R' a l) (hnew : ∀ b ∈ writes S x, R' b.1 b.2) : Fit H (behind S x) (view S.now V) R' := by
  obtain ⟨us, vs, L⟩ := laid_is h.t7 hx
  obtain ⟨r, hr⟩ := L.pre
  have hnd := frees_nodup S.tabs S.at_ H
  rw [hr] at hnd
  have hund := (List.nodup_append.1 hnd).1
  have hvnd := (List.nodup_append.1 (List.nodup_append.1 hnd).2.1).1
  have huf : ∀ a ∈ us, a ∈ frees S.tabs S.at_ H := fun a ha => by rw [hr]; simp [ha]
  have hvf : ∀ a ∈ vs, a ∈ frees S.tabs S.at_ H := fun a ha => by rw [hr]; simp [ha]
  have huv : ∀ a ∈ us, ∀ b ∈ vs, a ≠ b := fun a ha b hb => (List.nodup_append.1 hnd).2.2 a ha b (by simp [hb])
  have hC := L.cases hN
  have hT := fun t ht => L.tcases h.t7 t ht
  have hpf : ∀ {i : Int} {a : Nat} {s : Nat}, S.at_ i = some ((a : Int), s) → a ∉ frees S.tabs S.at_ H := by
    intro i a s hi hf
    obtain ⟨b, l, _, e, _, _, hu, _⟩ := h.old_pg hi
    have : b = a := by have := (Prod.mk.inj e).1; omega
    subst this
    exact (mem_frees.1 hf).2.2 hu
  have htf : ∀ {t : Nat}, t < 7 → ∀ {a : Nat}, a ∈ frees S.tabs S.at_ H → (S.tabs.getD t (0, 0)).1 ≠ (a : Int) := by
    intro t ht a ha e
    have h2 := (mem_frees.1 ha).2.1
    cases hh : has S.at_ t with
    | false => rw [h.tno t ht hh] at e; simp only at e; omega
    | true =>
      obtain ⟨b, e2, _, _, hu, _⟩ := h.old_tb ht hh
      rw [e2] at e
      obtain rfl : b = a := by simp only at e; omega
      exact (mem_frees.1 ha).2.2 hu
  have hgu : ∀ {j : Nat} (hj : j < us.length), us[j] ∈ us := fun hj => List.getElem_mem hj
  have hgv : ∀ {j : Nat} (hj : j < vs.length), vs[j] ∈ vs := fun hj => List.getElem_mem hj
  refine ⟨?_, ?_, ?_, ?_, ?_, ?_, ?_, ?_, ?_, ?_, fun _ => rfl, fun e => absurd e (Nat.succ_ne_zero _)⟩
  · show (sumsT _ _ _).length = 7
    have hnn : x.nt.Nodup := by rw [L.nt]; exact (touched_nodup _).filter _
    rw [(sumsT_is _ x.nt x.tabs hnn (fun t ht => by rw [L.nt] at ht; rw [L.len, h.t7]; exact (mem_touched.1 (List.mem_filter.1 ht).1).1)).1, L.len, h.t7]
  · intro i hi
    unfold view at hi
    cases hn : S.now i with
    | none => rw [hn] at hi; exact h.dom i hi
    | some l => exact hN.dom i (by rw [hn]; rfl)
  · intro i l hi
    unfold view at hi
    cases hn : S.now i with
    | none => rw [hn] at hi; exact h.len i l hi
    | some k =>
      rw [hn] at hi
      cases k with
      | nil => cases hi
      | cons y k =>
        obtain rfl := Option.some.inj hi
        have := hN.len i _ hn
        exact ⟨by simp, this.1, this.2⟩
  · intro i hi
    show sumsP S.now x.at_ x.pg i = none
    unfold view at hi
    rcases hC i with ⟨j, hj, hu, l, e, hn, hl, hF⟩ | ⟨hn, hF⟩ | ⟨hn, hF⟩
    · rw [hn] at hi
      cases l with
      | nil => exact absurd rfl hl
      | cons y l => cases hi
    · exact hF
    · rw [hn] at hi
      rw [hF]
      exact h.off i hi
  · intro i l hi
    show ∃ a : Nat, sumsP S.now x.at_ x.pg i = _ ∧ _
    unfold view at hi
    rcases hC i with ⟨j, hj, hu, k, e, hn, hl, hF⟩ | ⟨hn, hF⟩ | ⟨hn, hF⟩
    · rw [hn] at hi
      have hk : k = l := by
        cases k with
        | nil => exact absurd rfl hl
        | cons y k => exact Option.some.inj hi
      subst hk
      have hf := mem_frees.1 (huf _ (hgu hu))
      refine ⟨us[j], hF, hf.2.1, hf.1, ?_⟩
      have := hnew _ (L.wr_pg hj hu)
      rw [← e, hn] at this
      exact this
    · rw [hn] at hi; cases hi
    · rw [hn] at hi
      obtain ⟨a, h1, h2, h3, h4⟩ := h.pg i l hi
      obtain ⟨b, k, e1, e2, _, _, hu, _⟩ := h.old_pg h1
      refine ⟨a, by rw [hF]; exact h1, h2, h3, hold a _ h2 h3 ?_ h4⟩
      have : b = a := by have := (Prod.mk.inj e2).1; omega
      subst this
      exact hu
  · intro t ht hh
    show (sumsT _ _ _).getD t (0, 0) = _
    have hh' : has (sumsP S.now x.at_ x.pg) t = false := hh
    rcases hT t ht with ⟨j, hj, hv, e, h1, h2⟩ | ⟨h1, h2⟩ | ⟨h1, h2, h3⟩
    · rw [h1] at hh'; cases hh'
    · exact h2
    · rw [h3]; exact h.tno t ht (by rw [← h1]; exact hh')
  · intro t ht hh
    show ∃ a : Nat, (sumsT _ _ _).getD t (0, 0) = ((a : Int), Crc.sum (tblk (sumsP S.now x.at_ x.pg) t)) ∧ 2 ≤ a ∧ a < H ∧ R' a (tblk (sumsP S.now x.at_ x.pg) t)
    have hh' : has (sumsP S.now x.at_ x.pg) t = true := hh
    rcases hT t ht with ⟨j, hj, hv, e, h1, h2⟩ | ⟨h1, h2⟩ | ⟨h1, h2, h3⟩
    · have hf := mem_frees.1 (hvf _ (hgv hv))
      refine ⟨vs[j], h2, hf.2.1, hf.1, ?_⟩
      have := hnew _ (L.wr_tb hj hv)
      rw [← e] at this
      exact this
    · rw [h1] at hh'; cases hh'
    · obtain ⟨a, g1, g2, g3, g4, g5⟩ := h.old_tb ht (by rw [← h1]; exact hh')
      exact ⟨a, by rw [h3, h2]; exact g1, g2, g3, by rw [h2]; exact hold a _ g2 g3 g4 g5⟩
  · intro i k q s hi hk e
    have hi' : sumsP S.now x.at_ x.pg i = some q := hi
    have hk' : sumsP S.now x.at_ x.pg k = some s := hk
    rcases hC i with ⟨j, hj, hu, l, e1, hn, hl, hF⟩ | ⟨hn, hF⟩ | ⟨hn, hF⟩
    · rw [hF] at hi'
      obtain rfl := Option.some.inj hi'
      rcases hC k with ⟨j2, hj2, hu2, l2, e2, hn2, hl2, hF2⟩ | ⟨hn2, hF2⟩ | ⟨hn2, hF2⟩
      · rw [hF2] at hk'
        obtain rfl := Option.some.inj hk'
        have ej : us[j] = us[j2] := by simp only at e; omega
        have := nodup_get hund hu hu2 ej
        subst this
        rw [e1, e2]
      · rw [hF2] at hk'; cases hk'
      · rw [hF2] at hk'
        obtain ⟨b, l3, _, e3, _, _, hu3, _⟩ := h.old_pg hk'
        subst e3
        have : us[j] = b := by simp only at e; omega
        exact absurd (huf _ (hgu hu)) (by rw [this]; exact hpf hk')
    · rw [hF] at hi'; cases hi'
    · rw [hF] at hi'
      rcases hC k with ⟨j2, hj2, hu2, l2, e2, hn2, hl2, hF2⟩ | ⟨hn2, hF2⟩ | ⟨hn2, hF2⟩
      · rw [hF2] at hk'
        obtain rfl := Option.some.inj hk'
        obtain ⟨b, l3, _, e3, _, _, hu3, _⟩ := h.old_pg hi'
        subst e3
        have : us[j2] = b := by simp only at e; omega
        exact absurd (huf _ (hgu hu2)) (by rw [this]; exact hpf hi')
      · rw [hF2] at hk'; cases hk'
      · rw [hF2] at hk'
        exact h.inj i k q s hi' hk' e
  · intro t u ht hu e hne
    have e' : ((sumsT (sumsP S.now x.at_ x.pg) x.tabs x.nt).getD t (0, 0)).1 = ((sumsT (sumsP S.now x.at_ x.pg) x.tabs x.nt).getD u (0, 0)).1 := e
    have hne' : ((sumsT (sumsP S.now x.at_ x.pg) x.tabs x.nt).getD t (0, 0)).1 ≠ 0 := hne
    rcases hT t ht with ⟨j, hj, hv, e1, h1, h2⟩ | ⟨h1, h2⟩ | ⟨h1, h2, h3⟩
    · rw [h2] at e'
      rcases hT u hu with ⟨j2, hj2, hv2, e2, k1, k2⟩ | ⟨k1, k2⟩ | ⟨k1, k2, k3⟩
      · rw [k2] at e'
        have ej : vs[j] = vs[j2] := by simp only at e'; omega
        have := nodup_get hvnd hv hv2 ej
        subst this
        rw [e1, e2]
      · rw [k2] at e'
        have := (mem_frees.1 (hvf _ (hgv hv))).2.1
        simp only at e'; omega
      · rw [k3] at e'
        exact absurd e'.symm (htf hu (hvf _ (hgv hv)))
    · rw [h2] at hne'; exact absurd rfl hne'
    · rw [h3] at e' hne'
      rcases hT u hu with ⟨j2, hj2, hv2, e2, k1, k2⟩ | ⟨k1, k2⟩ | ⟨k1, k2, k3⟩
      · rw [k2] at e'
        exact absurd e' (htf ht (hvf _ (hgv hv2)))
      · rw [k2] at e'; exact absurd e' hne'
      · rw [k3] at e'
        exact h.tinj t u ht hu e' hne'
  · intro i q t hi ht e
    have hi' : sumsP S.now x.at_ x.pg i = some q := hi
    have e' : ((sumsT (sumsP S.now x.at_ x.pg) x.tabs x.nt).getD t (0, 0)).1 = q.1 := e
    rcases hC i with ⟨j, hj, hu, l, e1, hn, hl, hF⟩ | ⟨hn, hF⟩ | ⟨hn, hF⟩
    · rw [hF] at hi'
      obtain rfl := Option.some.inj hi'
      rcases hT t ht with ⟨j2, hj2, hv2, e2, k1, k2⟩ | ⟨k1, k2⟩ | ⟨k1, k2, k3⟩
      · rw [k2] at e'
        have : us[j] = vs[j2] := by simp only at e'; omega
        exact huv _ (hgu hu) _ (hgv hv2) this
      · rw [k2] at e'
        have := (mem_frees.1 (huf _ (hgu hu))).2.1
        simp only at e'; omega
      · rw [k3] at e'
        exact htf ht (huf _ (hgu hu)) e'
    · rw [hF] at hi'; cases hi'
    · rw [hF] at hi'
      obtain ⟨b, l3, _, e3, hb2, _, hu3, _⟩ := h.old_pg hi'
      subst e3
      rcases hT t ht with ⟨j2, hj2, hv2, e2, k1, k2⟩ | ⟨k1, k2⟩ | ⟨k1, k2, k3⟩
      · rw [k2] at e'
        have : vs[j2] = b := by simp only at e'; omega
        exact absurd (hvf _ (hgv hv2)) (by rw [this]; exact hpf hi')
      · rw [k2] at e'; simp only at e'; omega
      · rw [k3] at e'
        exact h.pt i _ t hi' ht e'
end Go.Proofs.YtbjfgdahfpfgdaaGreatDoor.PgP

namespace Go.Proofs.YtbjfgdahfpfgdaaGreatDoor.PgP
open Go.Proofs.YtbjfgdahfpfgdaaGreatDoor.RootP Go.Proofs.YtbjfgdahfpfgdaaGreatDoor.MapsW
set_option linter.unusedVariables false
set_option maxRecDepth 100000

theorem pigeon : ∀ (S L : List Nat), S.Nodup → (∀ x ∈ S, x ∈ L) → S.length ≤ L.length := by
  intro S
  induction S with
  | nil => intro L _ _; exact Nat.zero_le _
  | cons x S ih =>
    intro L hn h
    rw [List.nodup_cons] at hn
    have hx := h x List.mem_cons_self
    have h1 := ih (L.erase x) hn.2 fun y hy => by
      have hne : y ≠ x := by rintro rfl; exact hn.1 hy
      exact (List.mem_erase_of_ne hne).2 (h y (List.mem_cons_of_mem _ hy))
    rw [List.length_erase_of_mem hx] at h1
    have := List.length_pos_of_mem hx
    simp only [List.length_cons]
    omega
theorem used_nodup (T : List Ref) (F : Int → Option Ref) (H : Nat) : (used T F H).Nodup := List.nodup_range.filter _
theorem used_length (T : List Ref) (F : Int → Option Ref) (H : Nat) : (used T F H).length ≤ 2 + T.length + cnt F := by
  have h := pigeon (used T F H) ([0, 1] ++ (T.map (·.1.toNat) ++ ((List.range 256).filter fun (p : Nat) => (F (p : Int)).isSome).map fun p => (tref F p).1.toNat)) (used_nodup T F H) fun a ha => by
    obtain ⟨_, h1 | ⟨r, hr, e⟩ | ⟨p, hp, r, hF, e⟩⟩ := mem_used.1 ha
    · refine List.mem_append.2 (.inl ?_)
      have : a = 0 ∨ a = 1 := by omega
      rcases this with rfl | rfl <;> simp
    · refine List.mem_append.2 (.inr (List.mem_append.2 (.inl (List.mem_map.2 ⟨r, hr, ?_⟩))))
      show r.1.toNat = a
      rw [e]; exact Int.toNat_natCast a
    · refine List.mem_append.2 (.inr (List.mem_append.2 (.inr (List.mem_map.2 ⟨p, List.mem_filter.2 ⟨List.mem_range.2 hp, by rw [hF]; rfl⟩, ?_⟩))))
      unfold tref
      rw [hF]
      show r.1.toNat = a
      rw [e]; exact Int.toNat_natCast a
  simp only [List.length_append, List.length_map, List.length_cons, List.length_nil] at h
  have e : ((List.range 256).filter fun (p : Nat) => (F (p : Int)).isSome).length = cnt F := by unfold cnt; rw [List.countP_eq_length_filter]
  omega
theorem frees_length (T : List Ref) (F : Int → Option Ref) (H : Nat) : H ≤ (frees T F H).length + (used T F H).length := by
  have h := pigeon (List.range H) (frees T F H ++ used T F H) List.nodup_range fun a ha => by
    have ha' := List.mem_range.1 ha
    by_cases hu : a ∈ used T F H
    · exact List.mem_append.2 (.inr hu)
    · refine List.mem_append.2 (.inl (mem_frees.2 ⟨ha', ?_, hu⟩))
      rcases Nat.lt_or_ge a 2 with h | h
      · exact absurd (mem_used.2 ⟨ha', .inl h⟩) hu
      · exact h
  simp only [List.length_append, List.length_range] at h
  omega
theorem cnt_congr {α β : Type} {F : Int → Option α} {G : Int → Option β} (h : ∀ p : Nat, p < 256 → (F (p : Int)).isSome = (G (p : Int)).isSome) : cnt F = cnt G := by
  unfold cnt
  refine List.countP_congr fun p hp => ?_
  rw [h p (List.mem_range.1 hp)]
theorem cnt_le {α : Type} {F : Int → Option α} {n : Nat} (h : ∀ p : Nat, (F (p : Int)).isSome = true → p < n) : cnt F ≤ n := by
  unfold cnt
  rw [List.countP_eq_length_filter]
  have := pigeon ((List.range 256).filter fun (p : Nat) => (F (p : Int)).isSome) (List.range n) (List.nodup_range.filter _) fun x hx => List.mem_range.2 (h x (List.mem_filter.1 hx).2)
  simpa using this
theorem cnt_le256 {α : Type} (F : Int → Option α) : cnt F ≤ 256 := by
  unfold cnt
  have := List.countP_le_length (p := fun (p : Nat) => (F (p : Int)).isSome) (l := List.range 256)
  simpa using this
theorem cnt_pos {α : Type} {F : Int → Option α} {i : Int} (h0 : 0 ≤ i) (h1 : i < 256) (h : (F i).isSome = true) : cnt F ≠ 0 := by
  unfold cnt
  have : 0 < (List.range 256).countP fun (p : Nat) => (F (p : Int)).isSome := by
    rw [List.countP_pos_iff]
    exact ⟨i.toNat, List.mem_range.2 (by omega), by rw [show ((i.toNat : Nat) : Int) = i by omega]; exact h⟩
  omega
theorem cnt_zero {α : Type} {F : Int → Option α} (hd : ∀ i, (F i).isSome = true → 0 ≤ i ∧ i < 256) (h : cnt F = 0) : F = fun _ => none := by
  funext i
  cases hF : F i with
  | none => rfl
  | some r =>
    have hs : (F i).isSome = true := by rw [hF]; rfl
    have := hd i hs
    exact absurd h (cnt_pos this.1 this.2 hs)
theorem sumsP_isSome {S : St} {H : Nat} {x : Lay} {us vs : List Nat} (L : Laid S H x us vs) (p : Nat) : (sumsP S.now x.at_ x.pg (p : Int)).isSome = (x.at_ (p : Int)).isSome := by
  have hpn : x.pg.Nodup := by rw [L.pg]; exact (keys_nodup _).filter _
  rw [sumsP_is S.now x.pg x.at_ hpn]
  split
  · rename_i h
    obtain ⟨q, hq, e⟩ := h
    obtain rfl := Int.natCast_inj.1 e
    obtain ⟨j, hj, e2⟩ := mem_get hq
    have := L.new j hj (by rw [L.ul]; exact hj)
    rw [e2] at this
    rw [this]
    rfl
  · rfl
/-- how many pages a layout has -/
theorem Fit.laid_cnt {H : Nat} {S : St} {V : Int → Option (List Nat)} {R : Nat → List Nat → Prop} {x : Lay} (h : Fit H S V R) (hN : NowOk S.now) (hx : laid S H = some x) : cnt x.at_ = cnt (view S.now V) := by
  obtain ⟨us, vs, L⟩ := laid_is h.t7 hx
  have hb := h.behind (R' := fun _ _ => True) hN hx (fun _ _ _ _ _ _ => trivial) (fun _ _ => trivial)
  refine cnt_congr fun p _ => ?_
  rw [← sumsP_isSome L p]
  cases hv : view S.now V (p : Int) with
  | none => have := hb.off _ hv; rw [show sumsP S.now x.at_ x.pg (p : Int) = none from this]; rfl
  | some l =>
    obtain ⟨a, h1, _⟩ := hb.pg _ l hv
    rw [show sumsP S.now x.at_ x.pg (p : Int) = _ from h1]; rfl
theorem tcnt_le (T : List Ref) : tcnt T ≤ T.length := List.countP_le_length
/-- where there is room -/
theorem Fit.room {H : Nat} {S : St} {V : Int → Option (List Nat)} {R : Nat → List Nat → Prop} (h : Fit H S V R) (hN : NowOk S.now) {q : Nat} (h1 : cnt V ≤ q) (h2 : cnt (view S.now V) ≤ q) (hq : 2 * q + 18 ≤ H) : ∃ x, laid S H = some x ∧ fits x H = true := by
  have hat : cnt S.at_ = cnt V := cnt_congr fun p _ => by
    cases hv : V (p : Int) with
    | none => rw [h.off _ hv]; rfl
    | some l => obtain ⟨a, h3, _⟩ := h.pg _ l hv; rw [h3]; rfl
  have hu := used_length S.tabs S.at_ H
  have hf := frees_length S.tabs S.at_ H
  have h7 := h.t7
  have hneed : ((keys S.now).filter (needs S.now)).length ≤ cnt (view S.now V) := by
    unfold keys cnt
    rw [List.filter_filter, List.countP_eq_length_filter]
    rw [← List.countP_eq_length_filter, ← List.countP_eq_length_filter]
    refine List.countP_mono_left fun p hp hc => ?_
    rw [Bool.and_eq_true] at hc
    have hn := needs_true hc.1
    unfold view
    cases hN' : S.now (p : Int) with
    | none => rw [hN'] at hn; exact absurd rfl hn
    | some l =>
      rw [hN'] at hn
      cases l with
      | nil => exact absurd rfl hn
      | cons y l => rfl
  have htl : ∀ F : Int → Option Ref, ((touched (keys S.now)).filter (has F)).length ≤ 7 := fun F => by
    refine Nat.le_trans (List.length_filter_le _ _) ?_
    unfold touched
    refine Nat.le_trans (List.length_filter_le _ _) ?_
    simp
  have hx : ∃ x, laid S H = some x := by
    unfold laid laid0
    rcases layP_all S.now S.tabs S.at_ (frees S.tabs S.at_ H) (keys S.now) (keys_nodup _) with ⟨y, hy, hP⟩ | ⟨hy, hlt⟩
    · rw [show start S H = ⟨S.tabs, S.at_, [], [], frees S.tabs S.at_ H⟩ from rfl, hy]
      show ∃ x, (touched (keys S.now)).foldlM layT y = some x
      obtain ⟨us, f1, f2, f3⟩ := hP.free
      have hye : y = ⟨S.tabs, y.at_, [], y.pg, y.free⟩ := by
        have h1 := hP.tabs
        have h2 := hP.nt
        cases y
        simp only at h1 h2
        subst h1; subst h2
        rfl
      rw [hye]
      rcases layT_all S.tabs y.at_ y.pg y.free (touched (keys S.now)) (touched_nodup _) (fun t ht => by have := (mem_touched.1 ht).1; omega) with ⟨z, hz, hT⟩ | ⟨hz, hlt⟩
      · exact ⟨z, hz⟩
      · exfalso
        have := htl y.at_
        have e := congrArg List.length f1
        rw [List.length_append] at e
        have hpl : y.pg.length ≤ q := by rw [hP.pg]; omega
        omega
    · exfalso; omega
  obtain ⟨x, hx⟩ := hx
  refine ⟨x, hx, ?_⟩
  have hc := h.laid_cnt hN hx
  obtain ⟨us, vs, L⟩ := laid_is h.t7 hx
  have ht := tcnt_le x.tabs
  have hl := L.len
  unfold fits
  rw [decide_eq_true_eq]
  omega
end Go.Proofs.YtbjfgdahfpfgdaaGreatDoor.PgP

namespace Go.Proofs.YtbjfgdahfpfgdaaGreatDoor.MapsW
open Go Go.RowKit Go.Maps Go.Sort Go.Shelf Go.Proofs Go.Proofs.YtbjfgdahfpfgdaaGreatDoor.Mem
set_option linter.unusedVariables false
set_option maxRecDepth 100000

theorem keys_w (mb : Option Nat) (w : World) : Calls Tryz.prog 63 #[.map mb] w fun e w' => e = .returned (.func (.func 103) #[] #[.pointer (some ⟨w.heap.size, 0, none⟩)]) ∧ w' = w.alloc (.cells #[.map mb] 91) :=
  (callsIn_wide (n := 5)).1 (AnyZI.keys_in Tryz.keysA Fence.wide 5 trivial rfl mb w)
theorem sorts_in (m : Nat) : AnyZI.SortsIn Tryz.prog Tryz.sortedA_ren Fence.wide m :=
  ⟨fun blk off cap ss W hH hblk hsz => callsIn_wide.2 (AnyM.slices_Sort_int Tryz.sortA blk off cap ss W hH hblk hsz),
   fun p cap W => callsIn_wide.2 (AnyM.slices_Sort_int_none Tryz.sortA p cap W)⟩
theorem sorted_w {H : Type} (b nn Bm : Nat) (D0 : DataW H) (R : Value → Option (DataW H × List MemPlace)) (w : World) (hBm : Bm < w.heap.size) (hm : w.cell? ⟨Bm, 0, none⟩ = some (.map (some b))) (hown : w.ownsMap Tryz.prog 3 R b nn D0) (hmax : Maps.size D0 ≤ 1000000) :
    Calls Tryz.prog 62 #[.func (.func 103) #[] #[.pointer (some ⟨Bm, 0, none⟩)]] w fun e w' => ∃ (v : Value) (ss : List Int), e = .returned v ∧ ss.Perm (intKeys D0) ∧
      w'.ownsRow w.heap.size 3 1 v ss.length ((ss.mergeSort (fun x y => decide (x ≤ y))).map encZ) ∧ (v = .slice none 0 0 ↔ ss = []) ∧ Below w.heap.size w w' := by
  have hseq : SeqGives Fence.wide 2 Tryz.prog 103 #[.pointer (some ⟨Bm, 0, none⟩)] encZ (fun ss => ss.Perm (intKeys D0)) (Maps.size D0) w :=
    AnyZI.keys_gives (ρ := Tryz.keysA_ren) { Tryz.keysA with } Fence.wide _ trivial rfl (by omega) Bm b nn D0 _ hBm hm hown
  have cS := AnyZI.sorted_in Tryz.sortedA Fence.wide 5 trivial trivial trivial trivial rfl (by omega) (sorts_in _) (enters_of Tryz.func78 (by kernel_rfl) rfl) 103 #[.pointer (some ⟨Bm, 0, none⟩)] trivial (enters_of Tryz.func103 (by kernel_rfl) rfl) _ _ (by unfold maxLen; omega) (by omega) _ hseq
  exact callsIn_wide.1 cS
/-- what a map of rows has keys at: rising -/
structure Keys (F : Int → Option (List Nat)) (ks : List Int) : Prop where
  rise : ks.Pairwise (· < ·)
  mem : ∀ i, i ∈ ks ↔ (F i).isSome = true
  fit : ∀ i ∈ ks, Fits i
theorem intKeys_is {H : Type} {w : World} {b n : Nat} {D : DataW H} {R : Value → Option (DataW H × List MemPlace)} (h : w.ownsMap Tryz.prog 3 R b n D) : (intKeys D).Nodup ∧ ∀ x, x ∈ intKeys D ↔ Maps.has D (.int .i64 x) = true := by
  obtain ⟨es, rfl, hpw, _⟩ := h.entries law
  obtain ⟨es', hD', hko⟩ := h.keysOf
  obtain rfl : es = es' := by simpa using hD'
  have hk : ∀ p ∈ es, ∃ x, p.1 = .int .i64 x := fun p hp => by
    obtain ⟨v, hv⟩ := hko p hp
    obtain ⟨x, _, hx, _⟩ := Maps.keyOf_i64 Tryz.underlying3 hv
    exact ⟨x, hx⟩
  constructor
  · show (es.map fun p => Go.intOf p.1).Nodup
    refine List.pairwise_map.2 (hpw.imp_of_mem fun {p q} hp' hq' hne e => hne ?_)
    obtain ⟨a, ha⟩ := hk p hp'
    obtain ⟨b, hb⟩ := hk q hq'
    rw [ha, hb] at e ⊢
    exact congrArg _ e
  · intro x
    rw [has_eq, List.any_eq_true]
    show x ∈ es.map (fun p => Go.intOf p.1) ↔ _
    rw [List.mem_map]
    constructor
    · rintro ⟨p, hp', rfl⟩
      obtain ⟨a, ha⟩ := hk p hp'
      exact ⟨p, hp', by rw [ha]; simp [Lit.sameKey, Go.intOf]⟩
    · rintro ⟨p, hp', hs⟩
      obtain ⟨a, ha⟩ := hk p hp'
      rw [ha] at hs
      exact ⟨p, hp', by rw [ha]; simpa [Lit.sameKey, Go.intOf] using hs⟩
/-- slices.Sorted of a map's keys -/
theorem keys_sorted (b n Bm base np : Nat) (F : Int → Option (List Nat)) (w : World) (hBm : Bm < w.heap.size) (hm : w.cell? ⟨Bm, 0, none⟩ = some (.map (some b))) (h : RowMap w base b n F np) (hnp : np ≤ 1000000) :
    Calls Tryz.prog 62 #[.func (.func 103) #[] #[.pointer (some ⟨Bm, 0, none⟩)]] w fun e w' => ∃ (v : Value) (ks : List Int), e = .returned v ∧ Keys F ks ∧ ks.length = np ∧
      w'.ownsRow w.heap.size 3 1 v ks.length (ks.map fun z => .int .i64 z) ∧ Below w.heap.size w w' := by
  obtain ⟨D, h1, h2, h3⟩ := h
  obtain ⟨k1, k2⟩ := intKeys_is h1
  refine (sorted_w b n Bm D rowR w hBm hm h1 (by omega)).mono ?_
  rintro e w' ⟨v, ss, rfl, hp, ho, _, hb⟩
  have hle : ∀ a b c : Int, decide (a ≤ b) = true → decide (b ≤ c) = true → decide (a ≤ c) = true := fun a b c x y => by
    simp only [decide_eq_true_eq] at *; omega
  have hto : ∀ a b : Int, (decide (a ≤ b) || decide (b ≤ a)) = true := fun a b => by
    simp only [Bool.or_eq_true, decide_eq_true_eq]; omega
  have hs := List.pairwise_mergeSort hle hto ss
  have hpm := List.mergeSort_perm ss (fun x y => decide (x ≤ y))
  have hnd : (ss.mergeSort fun x y => decide (x ≤ y)).Nodup := (hpm.trans hp).nodup_iff.2 k1
  refine ⟨v, ss.mergeSort (fun x y => decide (x ≤ y)), rfl, ⟨?_, fun i => ?_, fun i hi => int_of (intKeys_wf h1 Tryz.underlying3 i ((hpm.trans hp).mem_iff.1 hi))⟩, ?_, ?_, hb⟩
  · refine (hs.and hnd).imp fun {a b} q => ?_
    have := q.1
    simp only [decide_eq_true_eq] at this
    have := q.2
    omega
  · rw [(hpm.trans hp).mem_iff, k2]
    have := h3 i
    cases hF : F i with
    | none => rw [hF] at this; rw [this]; rfl
    | some l => rw [hF] at this; rw [this.1]; rfl
  · rw [hpm.length_eq, hp.length_eq, ← h2]
    obtain ⟨es, hD, _⟩ := h1.tidy law
    rw [hD]; simp [intKeys, Maps.size]
  · rw [hpm.length_eq]
    exact ho
end Go.Proofs.YtbjfgdahfpfgdaaGreatDoor.MapsW

namespace Go.Proofs.YtbjfgdahfpfgdaaGreatDoor.MapsW
open Go Go.RowKit Go.Maps Go.Proofs.YtbjfgdahfpfgdaaGreatDoor.Mem
set_option linter.unusedVariables false
set_option maxRecDepth 100000

def one? (x : Bool) : Int := if x then 1 else 0
/-- block b of w is a map of ints: 1 at each of its keys, k of them -/
def NumMap (w : World) (b n : Nat) (F : Int → Bool) (k : Nat) : Prop :=
  ∃ D : DataW Unit, w.ownsMap Tryz.prog 3 (plainElem Tryz.prog 3) b n D ∧ Maps.size D = k ∧ ∀ i, D.atKey (.int .i64 i) (.lit (.int .i64 0)) = .lit (.int .i64 (one? (F i))) ∧ Maps.has D (.int .i64 i) = F i
theorem zeroInt (w : World) : (zeroValue 3).run Tryz.prog w = .ok (.int .i64 0) w := by kernel_rfl
theorem NumMap.mono {w : World} {b n n' k : Nat} {F : Int → Bool} (h : NumMap w b n F k) (hn : n ≤ n') : NumMap w b n' F k := by
  obtain ⟨D, h1, h2⟩ := h
  exact ⟨D, h1.mono hn, h2⟩
theorem NumMap.block {w : World} {b n k : Nat} {F : Int → Bool} (h : NumMap w b n F k) : ∃ es ck, w.heap[b]? = some (.map es ck) := by
  obtain ⟨D, ⟨es, ck, h1, _⟩, _⟩ := h
  exact ⟨es, ck, h1⟩
theorem NumMap.still {w w' : World} {b n k : Nat} {F : Int → Bool} (h : NumMap w b n F k) (e : w'.heap[b]? = w.heap[b]?) : NumMap w' b n F k := by
  obtain ⟨D, h1, h2⟩ := h
  exact ⟨D, ownsMap_of h1 e, h2⟩
theorem NumMap.made (w : World) : NumMap (w.alloc (.map #[] 0)) w.heap.size 0 (fun _ => false) 0 :=
  ⟨.map [], World.ownsMap_made _ _ _ _, rfl, fun i => ⟨rfl, rfl⟩⟩
theorem NumMap.look {w : World} {b n k : Nat} {F : Int → Bool} (h : NumMap w b n F k) {i : Int} (hi : Fits i) :
    (Instr.lookup 145 (.map (some b)) (.int .i64 i) false).run Tryz.prog w = .ok (.int .i64 (one? (F i))) w := by
  obtain ⟨D, h1, _, h2⟩ := h
  obtain ⟨v, ps, hr, hv⟩ := h1.lookup law Tryz.underlying145 (zeroInt w) (zd := .lit (.int .i64 0)) (zp := []) (plainElem_int Tryz.underlying3 (by decide)) (key hi)
  rw [(h2 i).1] at hv
  obtain ⟨a, rfl, e, _⟩ := plainElem_int_inv Tryz.underlying3 hv
  cases e
  exact hr
theorem wpList_putNum (w : World) {ops : Array Oper} {rest : List Oper} {o : Oper} {a : Act} {Q : Exit → Act → World → Prop} (hg : o.guard = none) (m x v : Operand) (hop : o.op = Op.mapUpdate 145 m x v)
    {b n k : Nat} {F : Int → Bool} (h : NumMap w b n F k) (hn : n < 1000000) {i : Int} (hi : Fits i)
    (hm : a.eval m = .map (some b)) (hx : a.eval x = .int .i64 i) (hv : a.eval v = .int .i64 1)
    (hK : ∀ w', NumMap w' b (n + 1) (upd F i true) (if F i then k else k + 1) → w.grownBy w' (some b) → wpList Tryz.prog ops Q rest (a.put o.dst undef) w') : wpList Tryz.prog ops Q (o :: rest) a w := by
  obtain ⟨D, h1, h3, h2⟩ := h
  refine wpList_mapUpdate_own w hg m x v _ hop 3 3 law Tryz.underlying145 _ b n D hm h1 (by unfold maxLen; omega) _ _ _ hx hv (key hi) _ [] (plainElem_int Tryz.underlying3 (by decide)) fun w' ho hgw => ?_
  refine hK w' ⟨_, ho, ?_, fun j => ?_⟩ hgw
  · rw [size_put (h1.tidy law), (h2 i).2, h3]
  · by_cases hj : j = i
    · subst hj
      rw [upd_same, atKey_put_same (h1.tidy law).isMap (islit j)]
      exact ⟨rfl, has_put_same (h1.tidy law).isMap (islit j) _⟩
    · rw [upd_other _ _ hj, atKey_put_other (litne hj), (h2 j).1]
      exact ⟨rfl, (has_put_other (litne hj) _).trans (h2 j).2⟩
theorem NumMap.len {w : World} {b n k : Nat} {F : Int → Bool} (h : NumMap w b n F k) : ∃ D : DataW Unit, w.ownsMap Tryz.prog 3 (plainElem Tryz.prog 3) b n D ∧ Maps.size D = k := by
  obtain ⟨D, h1, h2, _⟩ := h
  exact ⟨D, h1, h2⟩
end Go.Proofs.YtbjfgdahfpfgdaaGreatDoor.MapsW

namespace Go.Proofs.YtbjfgdahfpfgdaaGreatDoor.MapsW
open Go Go.RowKit Go.Maps Go.Sort Go.Shelf Go.Proofs Go.Proofs.YtbjfgdahfpfgdaaGreatDoor.Mem
set_option linter.unusedVariables false
set_option maxRecDepth 100000

theorem nkeys_w (mb : Option Nat) (w : World) : Calls Tryz.prog 84 #[.map mb] w fun e w' => e = .returned (.func (.func 117) #[] #[.pointer (some ⟨w.heap.size, 0, none⟩)]) ∧ w' = w.alloc (.cells #[.map mb] 145) :=
  (callsIn_wide (n := 5)).1 (AnyZI.keys_in Tryz.keysN Fence.wide 5 trivial rfl mb w)
theorem nsorted_w {H : Type} (b nn Bm : Nat) (D0 : DataW H) (R : Value → Option (DataW H × List MemPlace)) (w : World) (hBm : Bm < w.heap.size) (hm : w.cell? ⟨Bm, 0, none⟩ = some (.map (some b))) (hown : w.ownsMap Tryz.prog 3 R b nn D0) (hmax : Maps.size D0 ≤ 1000000) :
    Calls Tryz.prog 62 #[.func (.func 117) #[] #[.pointer (some ⟨Bm, 0, none⟩)]] w fun e w' => ∃ (v : Value) (ss : List Int), e = .returned v ∧ ss.Perm (intKeys D0) ∧
      w'.ownsRow w.heap.size 3 1 v ss.length ((ss.mergeSort (fun x y => decide (x ≤ y))).map encZ) ∧ (v = .slice none 0 0 ↔ ss = []) ∧ Below w.heap.size w w' := by
  have hseq : SeqGives Fence.wide 2 Tryz.prog 117 #[.pointer (some ⟨Bm, 0, none⟩)] encZ (fun ss => ss.Perm (intKeys D0)) (Maps.size D0) w :=
    AnyZI.keys_gives (ρ := Tryz.keysN_ren) { Tryz.keysN with } Fence.wide _ trivial rfl (by omega) Bm b nn D0 _ hBm hm hown
  have cS := AnyZI.sorted_in Tryz.sortedA Fence.wide 5 trivial trivial trivial trivial rfl (by omega) (sorts_in _) (enters_of Tryz.func78 (by kernel_rfl) rfl) 117 #[.pointer (some ⟨Bm, 0, none⟩)] trivial (enters_of Tryz.func117 (by kernel_rfl) rfl) _ _ (by unfold maxLen; omega) (by omega) _ hseq
  exact callsIn_wide.1 cS
/-- what a map of ints has keys at: rising -/
structure NKeys (F : Int → Bool) (ks : List Int) : Prop where
  rise : ks.Pairwise (· < ·)
  mem : ∀ i, i ∈ ks ↔ F i = true
  fit : ∀ i ∈ ks, Fits i
/-- slices.Sorted of a map's keys -/
theorem nkeys_sorted (b n Bm np : Nat) (F : Int → Bool) (w : World) (hBm : Bm < w.heap.size) (hm : w.cell? ⟨Bm, 0, none⟩ = some (.map (some b))) (h : NumMap w b n F np) (hnp : np ≤ 1000000) :
    Calls Tryz.prog 62 #[.func (.func 117) #[] #[.pointer (some ⟨Bm, 0, none⟩)]] w fun e w' => ∃ (v : Value) (ks : List Int), e = .returned v ∧ NKeys F ks ∧ ks.length = np ∧
      w'.ownsRow w.heap.size 3 1 v ks.length (ks.map fun z => .int .i64 z) ∧ Below w.heap.size w w' := by
  obtain ⟨D, h1, h2, h3⟩ := h
  obtain ⟨k1, k2⟩ := intKeys_is h1
  refine (nsorted_w b n Bm D _ w hBm hm h1 (by omega)).mono ?_
  rintro e w' ⟨v, ss, rfl, hp, ho, _, hb⟩
  have hle : ∀ a b c : Int, decide (a ≤ b) = true → decide (b ≤ c) = true → decide (a ≤ c) = true := fun a b c x y => by
    simp only [decide_eq_true_eq] at *; omega
  have hto : ∀ a b : Int, (decide (a ≤ b) || decide (b ≤ a)) = true := fun a b => by
    simp only [Bool.or_eq_true, decide_eq_true_eq]; omega
  have hs := List.pairwise_mergeSort hle hto ss
  have hpm := List.mergeSort_perm ss (fun x y => decide (x ≤ y))
  have hnd : (ss.mergeSort fun x y => decide (x ≤ y)).Nodup := (hpm.trans hp).nodup_iff.2 k1
  refine ⟨v, ss.mergeSort (fun x y => decide (x ≤ y)), rfl, ⟨?_, fun i => ?_, fun i hi => int_of (intKeys_wf h1 Tryz.underlying3 i ((hpm.trans hp).mem_iff.1 hi))⟩, ?_, ?_, hb⟩
  · refine (hs.and hnd).imp fun {a b} q => ?_
    have := q.1
    simp only [decide_eq_true_eq] at this
    have := q.2
    omega
  · rw [(hpm.trans hp).mem_iff, k2, (h3 i).2]
  · rw [hpm.length_eq, hp.length_eq, ← h2]
    obtain ⟨es, hD, _⟩ := h1.tidy law
    rw [hD]; simp [intKeys, Maps.size]
  · rw [hpm.length_eq]
    exact ho
end Go.Proofs.YtbjfgdahfpfgdaaGreatDoor.MapsW

namespace Go.Proofs.YtbjfgdahfpfgdaaGreatDoor.Ints
open Go Go.RowKit Go.Proofs.YtbjfgdahfpfgdaaGreatDoor.Mem
set_option linter.unusedVariables false
set_option maxRecDepth 100000

def ints (zs : List Int) : List Value := zs.map fun z => .int .i64 z
/-- a slice of integers -/
def Is (w : World) (a : Option Addr) (n cap : Nat) (zs : List Int) : Prop := Row w 1 a n cap (ints zs)
theorem Is.below {w w' : World} {a : Option Addr} {n cap : Nat} {zs : List Int} (h : Is w a n cap zs) (hb : Below w.heap.size w w') : Is w' a n cap zs := Row.below h hb
theorem Is.len {w : World} {a : Option Addr} {n cap : Nat} {zs : List Int} (h : Is w a n cap zs) : zs.length = n := by
  have := h.1; simp [ints] at this; omega
theorem Is.bound {w : World} {a : Option Addr} {n cap : Nat} {zs : List Int} (h : Is w a n cap zs) : n ≤ cap ∧ cap ≤ 9223372036854775807 := by
  have := h.2.2.1; unfold maxLen at this; exact ⟨h.2.1, by omega⟩
theorem Is.at {w : World} {a : Option Addr} {n cap : Nat} {zs : List Int} (h : Is w a n cap zs) {j : Nat} (hj : j < zs.length) :
    ∃ b off, a = some ⟨b, off, none⟩ ∧ w.cell? ⟨b, off + j, none⟩ = some (.int .i64 zs[j]) :=
  h.2.2.2.2 j _ (by simp [ints, hj])
end Go.Proofs.YtbjfgdahfpfgdaaGreatDoor.Ints

namespace Go.Proofs.YtbjfgdahfpfgdaaGreatDoor.SortW
open Go Go.RowKit Go.Maps Go.Sort Go.Shelf Go.Proofs Go.Proofs.YtbjfgdahfpfgdaaGreatDoor.Mem Go.Proofs.YtbjfgdahfpfgdaaGreatDoor.Ints
set_option linter.unusedVariables false
set_option maxRecDepth 100000

/-- rising, each once -/
def uniq (zs : List Int) : List Int := Lib.compact (zs.mergeSort fun x y => decide (x ≤ y))
theorem keeps_iff {d : Array Int} {j : Nat} (h : Lib.keeps d j = false) : 0 < j ∧ d[j]! = d[j - 1]! := by
  unfold Lib.keeps at h
  simp at h
  exact ⟨by omega, h.2⟩
theorem keeps_ne {d : Array Int} {j : Nat} (h : Lib.keeps d j = true) (hj : 0 < j) : d[j]! ≠ d[j - 1]! := by
  unfold Lib.keeps at h
  simp at h
  intro e
  rcases h with h | h
  · omega
  · exact h e
theorem get!_of {l : List Int} {i : Nat} (h : i < l.length) : l.toArray[i]! = l[i] := by
  rw [getElem!_pos _ _ (by simpa using h)]
  simp
theorem compact_mem {l : List Int} {x : Int} : x ∈ Lib.compact l ↔ x ∈ l := by
  unfold Lib.compact Lib.compactUpTo
  rw [List.mem_map]
  constructor
  · rintro ⟨j, hj, rfl⟩
    have := List.mem_range.1 (List.mem_filter.1 hj).1
    rw [get!_of this]
    exact List.getElem_mem this
  · intro hx
    obtain ⟨i, hi, rfl⟩ := List.mem_iff_getElem.1 hx
    suffices h : ∀ i (hi : i < l.length), ∃ a ∈ (List.range l.length).filter (Lib.keeps l.toArray), l.toArray[a]! = l[i] from h i hi
    intro i
    induction i with
    | zero => intro hi; exact ⟨0, List.mem_filter.2 ⟨List.mem_range.2 hi, by simp [Lib.keeps]⟩, get!_of hi⟩
    | succ i ih =>
      intro hi
      cases hk : Lib.keeps l.toArray (i + 1) with
      | true => exact ⟨i + 1, List.mem_filter.2 ⟨List.mem_range.2 hi, hk⟩, get!_of hi⟩
      | false =>
        obtain ⟨_, h2⟩ := keeps_iff hk
        rw [get!_of hi, Nat.add_sub_cancel, get!_of (by omega)] at h2
        obtain ⟨a, ha, e⟩ := ih (by omega)
        exact ⟨a, ha, by rw [e, h2]⟩
theorem compact_rise {l : List Int} (h : l.Pairwise (· ≤ ·)) : (Lib.compact l).Pairwise (· < ·) := by
  unfold Lib.compact Lib.compactUpTo
  rw [List.pairwise_map]
  have hp : ((List.range l.length).filter (Lib.keeps l.toArray)).Pairwise (· < ·) := List.pairwise_lt_range.filter _
  refine hp.imp_of_mem fun {i j} hi hj hlt => ?_
  have h1 := List.mem_range.1 (List.mem_filter.1 hi).1
  have h2 := List.mem_range.1 (List.mem_filter.1 hj).1
  have h3 := keeps_ne (List.mem_filter.1 hj).2 (by omega)
  rw [get!_of h2, get!_of (by omega)] at h3
  rw [get!_of h1, get!_of h2]
  have hle := List.pairwise_iff_getElem.1 h
  have h4 := hle (j - 1) j (by omega) h2 (by omega)
  rcases Nat.lt_or_ge i (j - 1) with h5 | h5
  · have := hle i (j - 1) h1 (by omega) h5
    omega
  · have : i = j - 1 := by omega
    subst this
    omega
theorem sorted_le (zs : List Int) : (zs.mergeSort fun x y => decide (x ≤ y)).Pairwise (· ≤ ·) := by
  have hle : ∀ a b c : Int, decide (a ≤ b) = true → decide (b ≤ c) = true → decide (a ≤ c) = true := fun a b c x y => by
    simp only [decide_eq_true_eq] at *; omega
  have hto : ∀ a b : Int, (decide (a ≤ b) || decide (b ≤ a)) = true := fun a b => by
    simp only [Bool.or_eq_true, decide_eq_true_eq]; omega
  exact (List.pairwise_mergeSort hle hto zs).imp fun h => by simpa using h
theorem uniq_mem {zs : List Int} {x : Int} : x ∈ uniq zs ↔ x ∈ zs := by
  unfold uniq
  rw [compact_mem, (List.mergeSort_perm zs _).mem_iff]
theorem uniq_rise (zs : List Int) : (uniq zs).Pairwise (· < ·) := compact_rise (sorted_le zs)
/-- what is rising is told by what is in it -/
theorem rise_eq {a b : List Int} (ha : a.Pairwise (· < ·)) (hb : b.Pairwise (· < ·)) (h : ∀ x, x ∈ a ↔ x ∈ b) : a = b := by
  have hn : ∀ {l : List Int}, l.Pairwise (· < ·) → l.Nodup := fun h => h.imp fun {a b} hlt e => by omega
  exact List.Perm.eq_of_pairwise (le := fun a b => a < b) (fun a b _ _ h1 h2 => by omega) ha hb ((List.perm_ext_iff_of_nodup (hn ha) (hn hb)).2 h)
theorem sort_w (base g n c : Nat) (zs : List Int) (w : World) (h : w.ownsRow base 3 1 (.slice (some ⟨g, 0, none⟩) n c) n (ints zs)) (hn : n ≤ 1000000) (hb : base ≤ w.heap.size) :
    Calls Tryz.prog 78 #[.slice (some ⟨g, 0, none⟩) n c] w fun e w' => e = .returned (.tuple #[]) ∧ w'.ownsRow base 3 1 (.slice (some ⟨g, 0, none⟩) n c) n (ints (zs.mergeSort fun x y => decide (x ≤ y))) ∧ Below base w w' := by
  have h' : w.ownsRow base 3 1 (.slice (some ⟨g, 0, none⟩) n c) n (zs.map encZ) := h
  obtain ⟨g', c', e, h1, h2, h3, h4, h5, h6⟩ := Lib.holds_of_ownsRow h' (by simp)
  cases e
  subst h5
  have hs := AnyM.slices_Sort_int Tryz.sortA g 0 c zs w h6 h2 (by omega)
  refine hs.mono ?_
  rintro e w' ⟨rfl, nn, os, rfl⟩
  rcases h'.2 with ⟨e0, _⟩ | ⟨g', cap', cur, hv, hbase, hbl, r1, r2, r3, r4⟩
  · cases e0
  · cases hv
    exact ⟨rfl, ownsRow_sorted_i (by simp) hbase hbl r1 r2 r3, (Below.refl base w).grown (grownBy_sorted_i _) hb (fun j hj => by cases hj; exact hbase)⟩
theorem compact_w (base g n c : Nat) (zs : List Int) (w : World) (h : w.ownsRow base 3 1 (.slice (some ⟨g, 0, none⟩) n c) n (ints zs)) (hn : n ≤ 1000000) :
    Calls Tryz.prog 79 #[.slice (some ⟨g, 0, none⟩) n c] w fun e w' => e = .returned (.slice (some ⟨g, 0, none⟩) (Lib.compact zs).length c) ∧ w'.ownsRow base 3 1 (.slice (some ⟨g, 0, none⟩) (Lib.compact zs).length c) (Lib.compact zs).length (ints (Lib.compact zs)) ∧ Below base w w' := by
  have h' : w.ownsRow base 3 1 (.slice (some ⟨g, 0, none⟩) n c) n (zs.map encZ) := h
  obtain ⟨g', c', e, h1, h2, h3, h4, h5, h6⟩ := Lib.holds_of_ownsRow h' (by simp)
  cases e
  subst h5
  have hs := AnyG.slices_Compact_int Tryz.compactA g 0 c zs w h6 (by omega) h3
  have hle := Lib.compact_length_le zs
  refine hs.mono ?_
  rintro e w' ⟨rfl, q, rfl⟩
  have hc := Lib.ownsRow_putRow (q := q) (k := (Lib.compact zs).length) (ys := Lib.compact zs ++ List.replicate (zs.length - (Lib.compact zs).length) 0) h' (by simp; omega) hle
  rw [List.take_left] at hc
  exact ⟨rfl, hc, Lib.below_putRow (Below.refl base w) h1⟩
end Go.Proofs.YtbjfgdahfpfgdaaGreatDoor.SortW
