/- The walk of PathSays. -/
import Derived.Test.YtagbnacffiagcaaDoorRefParse
import Derived.Test.YtagbnacffiagcaaDoorIsErrv
import Derived.Test.YtagbnacffiagcaaDoorOpenTexts
namespace Go.Proofs.YtagbnacffiagcaaDoor.pathSays
open Go Go.RowKit Go.Proofs.YtagbnacffiagcaaDoor.Mem Go.Proofs.YtagbnacffiagcaaDoor.SeeW Go.Proofs.YtagbnacffiagcaaDoor.PathW
set_option linter.unusedVariables false
set_option maxRecDepth 100000

theorem over (bs : List Addr) (s : ByteArray) (a : Option Addr) (n cap : Nat) (sl : Bool) (w : World) (hB : Bs w bs) (hn : 400 < s.size) (h63 : s.size ≤ 9223372036854775807) :
    Calls Tryd.prog 5 #[.string s, Pt (.slice a n cap) sl] w fun e w' => e = .returned (.bool true) ∧ Below w.heap.size w w' := by
  have d1 : decide ((400 : Int) < (s.size : Int)) = true := decide_eq_true (by omega)
  have bx := (Below.refl w.heap.size w).alloc (Nat.le_refl _) (.cells #[.slice a n cap, .bool sl] 57)
  clear hn
  go_enter Tryd.func5, Tryd.ntmps5
  go_wp2_with fail
  refine (first_w bs _ (Bs.path (hB.below bx))).mono ?_
  rintro e w1 ⟨rfl, hb1⟩
  go_wp2_with fail
  go_ret
  exact ⟨rfl, bx.trans (hb1.mono (by simp))⟩
theorem over2 (bs : List Addr) (s : ByteArray) (a : Option Addr) (n cap : Nat) (xs : List ByteArray) (sl : Bool) (w : World) (hB : Bs w bs) (hT : Texts w a n cap xs) (hn : s.size ≤ 400) (h20 : 20 < n) :
    Calls Tryd.prog 5 #[.string s, Pt (.slice a n cap) sl] w fun e w' => e = .returned (.bool true) ∧ Below w.heap.size w w' := by
  obtain ⟨c1, c2⟩ := hT.bound
  have d1 : decide ((400 : Int) < (s.size : Int)) = false := decide_eq_false (by omega)
  have d2 : decide ((20 : Int) < (n : Int)) = true := decide_eq_true (by omega)
  have bx := (Below.refl w.heap.size w).alloc (Nat.le_refl _) (.cells #[.slice a n cap, .bool sl] 57)
  obtain ⟨q0, q1⟩ := new2 w (.slice a n cap) (.bool sl) 57
  clear hn h20 hT
  go_enter Tryd.func5, Tryd.ntmps5
  go_wp2_with fail
  refine (first_w bs _ (Bs.path (hB.below bx))).mono ?_
  rintro e w1 ⟨rfl, hb1⟩
  replace q0 := Mem.kept hb1 q0
  replace q1 := Mem.kept hb1 q1
  go_wp2_with fail
  go_ret
  exact ⟨rfl, bx.trans (hb1.mono (by simp))⟩
theorem bad_le (s : ByteArray) : bad s = 0 ∨ 101 ≤ bad s ∧ bad s ≤ 124 := by
  unfold bad Path.bad
  repeat' split
  all_goals omega
theorem ba_ext {s t : ByteArray} (h : s.data.toList = t.data.toList) : s = t := by
  cases s; cases t
  exact congrArg ByteArray.mk (Array.toList_inj.1 h)
/-- what both split alike -/
theorem splits (bs : List Addr) (a : Option Addr) (k cap : Nat) (xs : List ByteArray) (sl : Bool) (h20 : k ≤ 20) (hl : xs.length = k) :
    ∃ (YS : List ByteArray) (L : ByteArray) (C : Nat), (C = 0 ∨ 101 ≤ C ∧ C ≤ 124) ∧
      (∀ wz, Texts wz a k cap xs → Bp wz bs → Calls Tryd.prog 29 #[Pt (.slice a k cap) sl] wz fun e w' => ∃ v, e = .returned (.tuple #[Pt v false, .string L, errv bs C]) ∧ w'.ownsRow wz.heap.size 9 1 v YS.length (YS.map Value.string) ∧ Below wz.heap.size wz w') ∧
      (∀ wz, Texts wz a k cap xs → Calls Tryd.prog 30 #[Rt (.slice a k cap) sl] wz fun e w' => ∃ v, e = .returned (.tuple #[Rt v false, .string L, .int .i64 (C : Nat)]) ∧ w'.ownsRow wz.heap.size 9 1 v YS.length (YS.map Value.string) ∧ Below wz.heap.size wz w') := by
  have none : (xs = [] ∨ ∃ ys, xs = ys ++ [⟨#[46, 46]⟩]) → _ := fun hx => (⟨[], ⟨#[]⟩, 114, .inr ⟨by decide, by decide⟩, fun wz hT hB => by
      refine (psplit_none bs a k cap xs sl wz hB hT hx).mono ?_
      rintro e w' ⟨rfl, hb⟩
      exact ⟨_, rfl, World.ownsRow_nil _ _ _ _, hb⟩, fun wz hT => by
      refine (rsplit_none a k cap xs sl wz hT hx).mono ?_
      rintro e w' ⟨rfl, hb⟩
      exact ⟨_, rfl, World.ownsRow_nil _ _ _ _, hb⟩⟩ : ∃ (YS : List ByteArray) (L : ByteArray) (C : Nat), (C = 0 ∨ 101 ≤ C ∧ C ≤ 124) ∧
      (∀ wz, Texts wz a k cap xs → Bp wz bs → Calls Tryd.prog 29 #[Pt (.slice a k cap) sl] wz fun e w' => ∃ v, e = .returned (.tuple #[Pt v false, .string L, errv bs C]) ∧ w'.ownsRow wz.heap.size 9 1 v YS.length (YS.map Value.string) ∧ Below wz.heap.size wz w') ∧
      (∀ wz, Texts wz a k cap xs → Calls Tryd.prog 30 #[Rt (.slice a k cap) sl] wz fun e w' => ∃ v, e = .returned (.tuple #[Rt v false, .string L, .int .i64 (C : Nat)]) ∧ w'.ownsRow wz.heap.size 9 1 v YS.length (YS.map Value.string) ∧ Below wz.heap.size wz w'))
  rcases List.eq_nil_or_concat xs with h | ⟨ys, x, h⟩
  · exact none (.inl h)
  · rw [List.concat_eq_append] at h
    by_cases hx : x = ⟨#[46, 46]⟩
    · exact none (.inr ⟨ys, by rw [h, hx]⟩)
    · subst h
      have hk : k = ys.length + 1 := by rw [← hl]; simp
      subst hk
      refine ⟨ys, x, 0, .inl rfl, fun wz hT hB => ?_, fun wz hT => ?_⟩
      · exact psplit_ok a cap ys x sl wz hT hx (by omega)
      · exact rsplit_ok a cap ys x sl wz hT hx (by omega)
set_option maxHeartbeats 16000000 in
theorem done (bs : List Addr) (s : ByteArray) (a : Option Addr) (n cap : Nat) (xs : List ByteArray) (sl : Bool) (w : World) (hB : Bs w bs) (hT : Texts w a n cap xs) (hn : s.size ≤ 400) (h20 : n ≤ 20) :
    Calls Tryd.prog 5 #[.string s, Pt (.slice a n cap) sl] w fun e w' => e = .returned (.bool true) ∧ Below w.heap.size w w' := by
  obtain ⟨c1, c2⟩ := hT.bound
  have HL := hid hT.len
  have d1 : decide ((400 : Int) < (s.size : Int)) = false := decide_eq_false (by omega)
  have d2 : decide ((20 : Int) < (n : Int)) = false := decide_eq_false (by omega)
  have bx := (Below.refl w.heap.size w).alloc (Nat.le_refl _) (.cells #[.slice a n cap, .bool sl] 57)
  have hq : (w.alloc (.cells #[.slice a n cap, .bool sl] 57)).heap[w.heap.size]? = some (.cells #[.slice a n cap, .bool sl] 57) := alloc_at rfl _
  obtain ⟨q0, q1, _, _⟩ := two hq
  go_enter Tryd.func5, Tryd.ntmps5
  go_wp2_with fail
  refine (first_w bs _ (Bs.path (hB.below bx))).mono ?_
  rintro e w1 ⟨rfl, hb1⟩
  have b1 := bx.trans (hb1.mono (by simp))
  have H1 := hid (hB.below b1)
  have T1 := hid (hT.below b1)
  have Q1 := hid ((hb1.block w.heap.size (by simp)).trans hq)
  have B1 := hid b1
  have HN := hid hn
  clear hB hT hq bx hb1 q0 q1 b1
  obtain ⟨q0, q1, _, _⟩ := two Q1.out
  go_wp2_with fail
  go_loopw [6] (fun iv wr => ∃ k : Nat, k ≤ n ∧ iv = .int .i64 (k : Int) ∧ (∀ x ∈ xs.take k, x.size ≤ 40) ∧ wr = w1) (fun iv _ => n - (intOf iv).toNat)
  case atStart => exact ⟨0, by omega, rfl, by simp, rfl⟩
  case round =>
    obtain ⟨k, hk, rfl, h40, rfl⟩ := hrel
    by_cases hlt : k < n
    · have hkl : k < xs.length := by rw [HL.out]; exact hlt
      obtain ⟨b0, o0, rfl, hc0⟩ := T1.out.at hkl
      have HS := hid (List.take_succ_eq_append_getElem hkl)
      have H40 := hid h40
      generalize xs[k] = x at hc0 HS
      clear h40
      by_cases hx : x.size ≤ 40
      · have d3 : decide ((40 : Int) < (x.size : Int)) = false := decide_eq_false (by omega)
        go_wp2_with fail
        go_roundw
        case rel =>
          refine ⟨k + 1, by omega, by go_num, fun y hy => ?_, trivial⟩
          rw [HS.out] at hy
          rcases List.mem_append.1 hy with hy | hy
          · exact H40.out y hy
          · rw [List.mem_singleton.1 hy]; exact hx
        case measure => simp [intOf]; omega
      · have d3 : decide ((40 : Int) < (x.size : Int)) = true := decide_eq_true (by omega)
        go_wp2_with fail
        go_ret
        exact ⟨rfl, B1.out⟩
    · obtain rfl : k = n := by omega
      rw [List.take_of_length_le (by rw [HL.out]; exact Nat.le_refl _)] at h40
      have H40 := hid h40
      clear h40
      have hp := parse_w bs s wr (Bs.path H1.out) (by omega)
      unfold Parsed at hp
      go_wp2_with fail
      refine hp.mono ?_
      rintro e w3 ⟨v3, rfl, own3, b3⟩
      obtain ⟨a3, c3, rfl, T3⟩ := texts_of own3
      have bA := (Below.refl w3.heap.size w3).alloc (Nat.le_refl _) (.cells #[.slice a3 (out s).length c3, .bool (slash s)] 57)
      have b4 := b3.trans (bA.mono b3.size)
      have HP4 : Hid ((w3.alloc (.cells #[.slice a3 (out s).length c3, .bool (slash s)] 57)).heap[w3.heap.size]? = some (.cells #[.slice a3 (out s).length c3, .bool (slash s)] 57)) := hid (alloc_at rfl _)
      have TP4 := hid (T3.below bA)
      have T4 := hid (T1.out.below b4)
      have H4 := hid (H1.out.below b4)
      have Q4 := hid ((b4.block w.heap.size (Array.getElem?_eq_some_iff.1 Q1.out).1).trans Q1.out)
      have B4 := hid (B1.out.trans (b4.mono B1.out.size))
      have hr := fun wz => rparse_w s wz (by omega)
      unfold RParsed at hr
      clear hp b3 own3 T3 bA b4 T1 H1 Q1 B1 q0 q1
      obtain ⟨q0, q1, _, _⟩ := two Q4.out
      go_wp2_with fail
      generalize w3.alloc (.cells #[.slice a3 (out s).length c3, .bool (slash s)] 57) = w4 at *
      generalize w3.heap.size = PB at *
      refine (hr w4).mono ?_
      rintro e w5 ⟨v5, rfl, own5, b5⟩
      obtain ⟨a5, c5, rfl, T5⟩ := texts_of own5
      have bA := (Below.refl w5.heap.size w5).alloc (Nat.le_refl _) (.cells #[.slice a5 (out s).length c5, .bool (slash s)] 64)
      have b6 := b5.trans (bA.mono b5.size)
      have HP6 := hid ((b6.block PB (Array.getElem?_eq_some_iff.1 HP4.out).1).trans HP4.out)
      have TP6 := hid (TP4.out.below b6)
      have HX6 : Hid ((w5.alloc (.cells #[.slice a5 (out s).length c5, .bool (slash s)] 64)).heap[w5.heap.size]? = some (.cells #[.slice a5 (out s).length c5, .bool (slash s)] 64)) := hid (alloc_at rfl _)
      have TX6 := hid (T5.below bA)
      have T6 := hid (T4.out.below b6)
      have H6 := hid (H4.out.below b6)
      have Q6 := hid ((b6.block w.heap.size (Array.getElem?_eq_some_iff.1 Q4.out).1).trans Q4.out)
      have B6 := hid (B4.out.trans (b6.mono B4.out.size))
      have his := fun wz (hb : Bs wz bs) => is_errv bs (bad s) wz hb (bad_le s) (bad s : Nat)
      rw [show (((bad s : Nat) : Int) == ((bad s : Nat) : Int)) = true by simp] at his
      clear hr b5 own5 T5 bA b6 T4 H4 Q4 B4 q0 q1 HP4 TP4
      obtain ⟨q0, q1, _, _⟩ := two Q6.out
      generalize hOUT : out s = OS at *
      generalize hSL : slash s = SS at *
      generalize hBD : bad s = BD at *
      have hsl0 : (SS != SS) = false := by simp
      clear hOUT hSL hBD
      go_wp2_with fail
      generalize w5.alloc (.cells #[.slice a5 OS.length c5, .bool SS] 64) = w6 at *
      generalize w5.heap.size = XB at *
      refine (his w6 H6.out).mono ?_
      rintro e w7 ⟨rfl, b7⟩
      have HP7 := hid ((b7.block PB (Array.getElem?_eq_some_iff.1 HP6.out).1).trans HP6.out)
      have HX7 := hid ((b7.block XB (Array.getElem?_eq_some_iff.1 HX6.out).1).trans HX6.out)
      have TP7 := hid (TP6.out.below b7)
      have TX7 := hid (TX6.out.below b7)
      have T7 := hid (T6.out.below b7)
      have H7 := hid (H6.out.below b7)
      have Q7 := hid ((b7.block w.heap.size (Array.getElem?_eq_some_iff.1 Q6.out).1).trans Q6.out)
      have B7 := hid (B6.out.trans (b7.mono B6.out.size))
      clear his b7 HP6 HX6 TP6 TX6 T6 H6 Q6 B6 q0 q1
      obtain ⟨q0, q1, _, _⟩ := two Q7.out
      obtain ⟨m1, m2, _, _⟩ := two HP7.out
      obtain ⟨n1, n2, _, _⟩ := two HX7.out
      go_wp2_with fail
      refine (same_w a3 _ c3 OS a5 _ c5 OS w7 TP7.out TX7.out).mono ?_
      rintro e w8 ⟨rfl, b8⟩
      rw [decide_eq_true (rfl : OS = OS)]
      have HP8 := hid ((b8.block PB (Array.getElem?_eq_some_iff.1 HP7.out).1).trans HP7.out)
      have HX8 := hid ((b8.block XB (Array.getElem?_eq_some_iff.1 HX7.out).1).trans HX7.out)
      have T8 := hid (T7.out.below b8)
      have H8 := hid (H7.out.below b8)
      have Q8 := hid ((b8.block w.heap.size (Array.getElem?_eq_some_iff.1 Q7.out).1).trans Q7.out)
      have B8 := hid (B7.out.trans (b8.mono B7.out.size))
      clear b8 HP7 HX7 TP7 TX7 T7 H7 Q7 B7 q0 q1 m1 m2 n1 n2
      obtain ⟨q0, q1, _, _⟩ := two Q8.out
      obtain ⟨m1, m2, _, _⟩ := two HP8.out
      obtain ⟨n1, n2, _, _⟩ := two HX8.out
      have bY := (Below.refl w8.heap.size w8).alloc (Nat.le_refl _) (.cells #[.slice a k cap, .bool sl] 64)
      have HY9 : Hid ((w8.alloc (.cells #[.slice a k cap, .bool sl] 64)).heap[w8.heap.size]? = some (.cells #[.slice a k cap, .bool sl] 64)) := hid (alloc_at rfl _)
      have T9 := hid (T8.out.below bY)
      have H9 := hid (H8.out.below bY)
      have hq9 := (bY.block w.heap.size (Array.getElem?_eq_some_iff.1 Q8.out).1).trans Q8.out
      have Q9 := hid hq9
      have B9 := hid (B8.out.trans (bY.mono B8.out.size))
      obtain ⟨r0, r1, _, _⟩ := two hq9
      clear bY hq9 T8 H8 Q8 B8
      have hsz20 : (Lib.join (ls xs) [47]).length ≤ 1000000 := by
        have h1 := Path.join_length_le 40 (ls xs) fun z hz => by
          obtain ⟨y, hy, rfl⟩ := List.mem_map.1 hz
          have : y.data.toList.length = y.size := by rw [Array.length_toList]; rfl
          rw [this]
          exact H40.out y hy
        rw [List.length_map, HL.out] at h1
        have : k * (40 + 1) ≤ 20 * 41 := Nat.mul_le_mul h20 (Nat.le_refl _)
        omega
      obtain ⟨S, hS⟩ : ∃ S : ByteArray, S.data.toList = text xs sl := ⟨⟨(text xs sl).toArray⟩, by simp⟩
      have tx1 : ∀ wz, Texts wz a k cap xs → Calls Tryd.prog 25 #[Pt (.slice a k cap) sl] wz fun e w' => e = .returned (.string S) ∧ Below wz.heap.size wz w' := fun wz hT => by
        refine (text_w a k cap xs sl wz hT (by omega) (by omega)).mono ?_
        rintro e w' ⟨t, rfl, ht, hb⟩
        exact ⟨by rw [ba_ext (ht.trans hS.symm)], hb⟩
      have tx2 : ∀ wz, Texts wz a k cap xs → Calls Tryd.prog 31 #[Rt (.slice a k cap) sl] wz fun e w' => e = .returned (.string S) ∧ Below wz.heap.size wz w' := fun wz hT => by
        refine (rtext_w a k cap xs sl wz hT h20 H40.out).mono ?_
        rintro e w' ⟨t, rfl, ht, hb⟩
        exact ⟨by rw [ba_ext (ht.trans hS.symm)], hb⟩
      have TX1 := hid tx1
      have TX2 := hid tx2
      clear hS tx1 tx2
      have xS : (S.toList == S.toList) = true := by simp
      obtain ⟨YS, L, C, hC, sp1, sp2⟩ := splits bs a k cap xs sl h20 HL.out
      have SP1 := hid sp1
      have SP2 := hid sp2
      have xx : (L.toList == L.toList) = true := by simp
      clear sp1 sp2 hsz20
      go_wp2_with fail
      generalize w8.alloc (.cells #[.slice a k cap, .bool sl] 64) = w9 at *
      generalize w8.heap.size = YB at *
      refine (SP1.out w9 T9.out (Bs.path H9.out)).mono ?_
      rintro e w10 ⟨v10, rfl, own10, b10⟩
      obtain ⟨ah, ch, rfl, T10⟩ := texts_of own10
      have bA := (Below.refl w10.heap.size w10).alloc (Nat.le_refl _) (.cells #[.slice ah YS.length ch, .bool false] 57)
      have b11 := b10.trans (bA.mono b10.size)
      have HH11 : Hid ((w10.alloc (.cells #[.slice ah YS.length ch, .bool false] 57)).heap[w10.heap.size]? = some (.cells #[.slice ah YS.length ch, .bool false] 57)) := hid (alloc_at rfl _)
      have TH11 := hid (T10.below bA)
      have T11 := hid (T9.out.below b11)
      have H11 := hid (H9.out.below b11)
      have hy11 := (b11.block YB (Array.getElem?_eq_some_iff.1 HY9.out).1).trans HY9.out
      have HY11 := hid hy11
      have Q11 := hid ((b11.block w.heap.size (Array.getElem?_eq_some_iff.1 Q9.out).1).trans Q9.out)
      have B11 := hid (B9.out.trans (b11.mono B9.out.size))
      clear b10 own10 T10 bA b11 T9 H9 HY9 Q9 B9 q0 q1 m1 m2 n1 n2 r0 r1
      obtain ⟨s0, s1, _, _⟩ := two hy11
      clear hy11
      go_wp2_with fail
      generalize w10.alloc (.cells #[.slice ah YS.length ch, .bool false] 57) = w11 at *
      generalize w10.heap.size = HB at *
      refine (SP2.out w11 T11.out).mono ?_
      rintro e w12 ⟨v12, rfl, own12, b12⟩
      obtain ⟨ak, ck, rfl, T12⟩ := texts_of own12
      have bA := (Below.refl w12.heap.size w12).alloc (Nat.le_refl _) (.cells #[.slice ak YS.length ck, .bool false] 64)
      have b13 := b12.trans (bA.mono b12.size)
      have HK13 : (w12.alloc (.cells #[.slice ak YS.length ck, .bool false] 64)).heap[w12.heap.size]? = some (.cells #[.slice ak YS.length ck, .bool false] 64) := alloc_at rfl _
      have TK13 := hid (T12.below bA)
      have TH13 := hid (TH11.out.below b13)
      have HH13 := (b13.block HB (Array.getElem?_eq_some_iff.1 HH11.out).1).trans HH11.out
      have T13 := hid (T11.out.below b13)
      have H13 := hid (H11.out.below b13)
      have HY13 := (b13.block YB (Array.getElem?_eq_some_iff.1 HY11.out).1).trans HY11.out
      have Q13 := (b13.block w.heap.size (Array.getElem?_eq_some_iff.1 Q11.out).1).trans Q11.out
      have B13 := hid (B11.out.trans (b13.mono B11.out.size))
      have HIS := hid (fun wz (hb : Bs wz bs) => is_errv bs C wz hb hC (C : Nat))
      have hcc : (((C : Nat) : Int) == ((C : Nat) : Int)) = true := by simp
      clear b12 own12 T12 bA b13 T11 H11 HY11 Q11 B11 HH11 TH11 s0 s1
      obtain ⟨q0, q1, _, _⟩ := two Q13
      obtain ⟨y0, y1, _, _⟩ := two HY13
      obtain ⟨g0, g1, _, _⟩ := two HH13
      obtain ⟨k0, k1, _, _⟩ := two HK13
      clear Q13 HY13 HH13 HK13
      go_wp2_with fail
      generalize w12.alloc (.cells #[.slice ak YS.length ck, .bool false] 64) = w13 at *
      generalize w12.heap.size = KB at *
      go_region_held3 (fun w' => w'.cell? ⟨w.heap.size, 0, none⟩ = some (.slice a k cap) ∧ w'.cell? ⟨w.heap.size, 1, none⟩ = some (.bool sl) ∧ w'.cell? ⟨YB, 0, none⟩ = some (.slice a k cap) ∧ w'.cell? ⟨YB, 1, none⟩ = some (.bool sl) ∧ w'.cell? ⟨HB, 0, none⟩ = some (.slice ah YS.length ch) ∧ w'.cell? ⟨HB, 1, none⟩ = some (.bool false) ∧ w'.cell? ⟨KB, 0, none⟩ = some (.slice ak YS.length ck) ∧ w'.cell? ⟨KB, 1, none⟩ = some (.bool false)) (first | exact ⟨q0, q1, y0, y1, g0, g1, k0, k1⟩ | exact ⟨aq0, aq1, ay0, ay1, ag0, ag1, ak0, ak1⟩ | exact ⟨bq0, bq1, by0, by1, bg0, bg1, bk0, bk1⟩ | exact ⟨cq0, cq1, cy0, cy1, cg0, cg1, ck0, ck1⟩ | exact ⟨dq0, dq1, dy0, dy1, dg0, dg1, dk0, dk1⟩ | go_keep)
        (first
          | (go_at_call 25; refine (TX1.out _ (T13.out.below (Below.refl _ _).drew)).mono ?_; rintro e z1 ⟨rfl, c1⟩; have Z1 := (Below.refl w13.heap.size w13).drew.trans c1; have aq0 := Mem.kept c1 q0; have aq1 := Mem.kept c1 q1; have ay0 := Mem.kept c1 y0; have ay1 := Mem.kept c1 y1; have ag0 := Mem.kept c1 g0; have ag1 := Mem.kept c1 g1; have ak0 := Mem.kept c1 k0; have ak1 := Mem.kept c1 k1)
          | (go_at_call 31; refine (TX2.out _ (T13.out.below Z1)).mono ?_; rintro e z2 ⟨rfl, c2⟩; have Z2 := Z1.trans (c2.mono Z1.size); have bq0 := Mem.kept c2 aq0; have bq1 := Mem.kept c2 aq1; have by0 := Mem.kept c2 ay0; have by1 := Mem.kept c2 ay1; have bg0 := Mem.kept c2 ag0; have bg1 := Mem.kept c2 ag1; have bk0 := Mem.kept c2 ak0; have bk1 := Mem.kept c2 ak1)
          | (go_at_call 21; refine (HIS.out _ (H13.out.below Z2)).mono ?_; rintro e z3 ⟨rfl, c3⟩; rw [hcc]; have Z3 := Z2.trans (c3.mono Z2.size); have cq0 := Mem.kept c3 bq0; have cq1 := Mem.kept c3 bq1; have cy0 := Mem.kept c3 by0; have cy1 := Mem.kept c3 by1; have cg0 := Mem.kept c3 bg0; have cg1 := Mem.kept c3 bg1; have ck0 := Mem.kept c3 bk0; have ck1 := Mem.kept c3 bk1)
          | (go_at_call 27; refine (same_w ah _ ch YS ak _ ck YS _ (TH13.out.below Z3) (TK13.out.below Z3)).mono ?_; rintro e z4 ⟨rfl, c4⟩; rw [decide_eq_true (rfl : YS = YS)]; have Z4 := Z3.trans (c4.mono Z3.size); have dq0 := Mem.kept c4 cq0; have dq1 := Mem.kept c4 cq1; have dy0 := Mem.kept c4 cy0; have dy1 := Mem.kept c4 cy1; have dg0 := Mem.kept c4 cg0; have dg1 := Mem.kept c4 cg1; have dk0 := Mem.kept c4 ck0; have dk1 := Mem.kept c4 ck1))
      have BF := hid (B13.out.trans (Z4.mono B13.out.size))
      clear TX1 TX2 HIS
      go_wp2_with fail
      go_ret
      exact ⟨rfl, BF.out⟩
theorem walk (a0 : ByteArray) (a1 : Option Addr) (len1 cap1 : Nat) (z1 : List ByteArray) (b1 : Bool) (w : World) (hE : Err.All w gl) (w0 : a0.size ≤ maxLen) (w1 : Texts w a1 len1 cap1 z1) :
    Calls Tryd.prog 5 #[.string a0, .agg #[.slice a1 len1 cap1, .bool b1]] w fun e w' => e = .returned (.bool true) ∧ Below w.heap.size w w' := by
  obtain ⟨bs, hB⟩ := bs_of hE
  rcases Nat.lt_or_ge 400 a0.size with h | h
  · exact over bs a0 a1 len1 cap1 b1 w hB h (by have : maxLen = 9223372036854775807 := rfl; omega)
  rcases Nat.lt_or_ge 20 len1 with h2 | h2
  · exact over2 bs a0 a1 len1 cap1 z1 b1 w hB w1 h h2
  · exact done bs a0 a1 len1 cap1 z1 b1 w hB w1 h h2
end Go.Proofs.YtagbnacffiagcaaDoor.pathSays
