/- breviaryref.SameTexts; the chapter's example. -/
import Derived.Test.YtagbnacffiagcaaDoorPathParseB
namespace Go.Proofs.YtagbnacffiagcaaDoor.PathW
open Go Go.RowKit Go.Proofs.YtagbnacffiagcaaDoor.Mem Go.Proofs.YtagbnacffiagcaaDoor.SeeW
set_option linter.unusedVariables false
set_option maxRecDepth 100000

theorem same_of_take {α : Type} {l m : List α} {k : Nat} (hl : k = l.length) (hm : k = m.length) (h : l.take k = m.take k) : l = m := by
  rwa [List.take_of_length_le (by omega), List.take_of_length_le (by omega)] at h

theorem ba_inj {x y : ByteArray} (h : x.toList = y.toList) : x = y := by
  rw [Lib.toList_data, Lib.toList_data] at h
  cases x; cases y
  simp at h
  rw [h]
theorem ba_ne {x y : ByteArray} (h : x ≠ y) : (x.toList == y.toList) = false := by
  rw [beq_eq_false_iff_ne]; exact fun e => h (ba_inj e)

set_option maxHeartbeats 1600000 in
/-- two lists of texts held against one another -/
theorem same_w (a : Option Addr) (n cap : Nat) (l : List ByteArray) (b : Option Addr) (m cap' : Nat) (l' : List ByteArray) (w : World) (h0 : Texts w a n cap l) (h1 : Texts w b m cap' l') :
    Calls Tryd.prog 27 #[.slice a n cap, .slice b m cap'] w fun e w' => e = .returned (.bool (decide (l = l'))) ∧ Below w.heap.size w w' := by
  have hbd0 := h0.bound
  have hbd1 := h1.bound
  have HL0 := hid h0.len
  have HL1 := hid h1.len
  obtain ⟨c1, c2⟩ := hbd0
  obtain ⟨c3, c4⟩ := hbd1
  by_cases hn : n = m
  · subst hn
    go_enter Tryd.func27, Tryd.ntmps27
    go_wp2
    go_loopw [5] (fun i wr => ∃ k : Nat, k ≤ n ∧ i = .int .i64 k ∧ l.take k = l'.take k ∧ Below w.heap.size w wr) (fun i _ => n - (intOf i).toNat)
    case atStart => exact ⟨0, by omega, rfl, by simp, Below.refl _ _⟩
    case round =>
      obtain ⟨k, hk, rfl, hT, hb⟩ := hrel
      have HT := hid hT
      clear hT
      by_cases hlt : k < n
      · have hkl : k < l.length := by rw [HL0.out]; exact hlt
        have hkl' : k < l'.length := by rw [HL1.out]; exact hlt
        obtain ⟨b0, o0, rfl, hc0⟩ := (h0.below hb).at hkl
        obtain ⟨b1, o1, rfl, hc1⟩ := (h1.below hb).at hkl'
        have HS0 := hid (List.take_succ_eq_append_getElem hkl)
        have HS1 := hid (List.take_succ_eq_append_getElem hkl')
        have HE0 := hid (List.getElem?_eq_getElem hkl)
        have HE1 := hid (List.getElem?_eq_getElem hkl')
        generalize l[k] = x at hc0 HS0 HE0
        generalize l'[k] = y at hc1 HS1 HE1
        clear h0 h1
        by_cases hxy : x = y
        · subst hxy
          go_wp2
          go_quiet (fail)
          go_wp2
          go_roundw
          case rel => exact ⟨k + 1, by omega, by go_num, by rw [HS0.out, HS1.out, HT.out], below_drewN hb _⟩
          case measure => simp [intOf]; omega
        · have hne := ba_ne hxy
          go_wp2
          go_quiet (fail)
          go_wp2
          go_ret
          refine ⟨ret_bool ?_, below_drewN hb _⟩
          simp only [decide_eq_false_iff_not, Bool.false_eq, decide_eq_false_iff_not]
          intro he
          have h2 := HE0.out
          rw [he, HE1.out] at h2
          exact hxy (Option.some.inj h2).symm
      · obtain rfl : k = n := by omega
        have he : l = l' := same_of_take HL0.out.symm HL1.out.symm HT.out
        go_wp2
        go_ret
        exact ⟨ret_bool (by simp [he]), hb⟩
  · have hne : ((n : Int) != (m : Int)) = true := by rw [bne_iff_ne]; omega
    go_enter Tryd.func27, Tryd.ntmps27
    go_wp2
    go_ret
    exact ⟨ret_bool (by simp; intro h; exact hn (by rw [← HL0.out, ← HL1.out, h])), Below.refl _ _⟩

/-- what is handed back, read off the bytes -/
theorem out_eq {s : ByteArray} {ls : List (List UInt8)} (h : bad s = 0) (h2 : Path.parts s.data.toList = ls) : out s = ls.map fun l => ⟨l.toArray⟩ := by
  unfold out good
  rw [if_pos h, ← h2]
  unfold Path.parts
  rw [← pieces_map, List.filter_map, List.map_map]
  have : ((fun l : List UInt8 => (⟨l.toArray⟩ : ByteArray)) ∘ fun x : ByteArray => x.data.toList) = id := by funext x; rfl
  rw [this, List.map_id]
  rfl
theorem texts_of {w : World} {base : Nat} {v : Value} {n : Nat} {xs : List ByteArray} (h : w.ownsRow base 9 1 v n (xs.map Value.string)) : ∃ a cap, v = .slice a n cap ∧ Texts w a n cap xs := ownsRow_slice h
theorem texts_new (w : World) (xs : List ByteArray) (n : Nat) (hn : n = xs.length) (hm : n ≤ maxLen) : Texts (w.alloc (.cells (xs.map Value.string).toArray 9)) (some ⟨w.heap.size, 0, none⟩) n n xs := by
  subst hn
  exact Row.fresh w (xs.map Value.string).toArray 9 (0, 0) xs.length (by simp) hm
theorem first_w (bs : List Addr) (w : World) (h : Bp w bs) : Calls Tryd.prog 23 #[] w fun e w' => e = .returned (.bool true) ∧ Below w.heap.size w w' := by
  have hg : bad ⟨#[47, 47, 97, 47, 46, 47, 98, 47]⟩ = 0 := by decide
  have hs : slash ⟨#[47, 47, 97, 47, 46, 47, 98, 47]⟩ = true := by decide
  have ho : out ⟨#[47, 47, 97, 47, 46, 47, 98, 47]⟩ = [⟨#[97]⟩, ⟨#[98]⟩] := out_eq (ls := [[97], [98]]) hg (by decide)
  go_enter Tryd.func23, Tryd.ntmps23
  go_wp2_with fail
  refine (parse_w bs _ _ h (by decide)).mono ?_
  rintro e w1 ⟨v, rfl, own, hb1⟩
  rw [hg, hs, show errv bs 0 = .nilIface from rfl]
  rw [ho] at own
  obtain ⟨va, vc, rfl, hT⟩ := texts_of own
  have z1 := hb1.size
  clear own hg hs ho
  go_wp2_with fail
  have b1 := (Below.refl w1.heap.size w1).alloc (Nat.le_refl _) (.cells #[.slice va 2 vc, .bool true] 57)
  have b2 := b1.alloc (by simp) (.cells #[.string ⟨#[97]⟩, .string ⟨#[98]⟩] 9)
  have T2 := texts_new (w1.alloc (.cells #[.slice va 2 vc, .bool true] 57)) [⟨#[97]⟩, ⟨#[98]⟩] 2 rfl (by decide)
  have e1 : (w1.alloc (.cells #[.slice va 2 vc, .bool true] 57)).heap.size = w1.heap.size + 1 := by simp
  rw [e1] at T2
  have q1 : ((w1.alloc (.cells #[.slice va 2 vc, .bool true] 57)).alloc (.cells #[.string ⟨#[97]⟩, .string ⟨#[98]⟩] 9)).cell? ⟨w1.heap.size, 1, none⟩ = some (.bool true) := by simp
  refine (same_w va 2 vc _ _ 2 2 _ _ (hT.below b2) T2).mono ?_
  rintro e w3 ⟨rfl, hb3⟩
  replace q1 := Mem.kept hb3 q1
  have hb4 := hb1.trans ((b2.trans (hb3.mono (by simp; omega))).mono z1)
  rw [decide_eq_true (show ([⟨#[97]⟩, ⟨#[98]⟩] : List ByteArray) = [⟨#[97]⟩, ⟨#[98]⟩] from rfl)]
  clear b1 b2 T2 hT hb3 e1
  go_wp2
  go_ret
  exact ⟨rfl, hb4⟩
end Go.Proofs.YtagbnacffiagcaaDoor.PathW
