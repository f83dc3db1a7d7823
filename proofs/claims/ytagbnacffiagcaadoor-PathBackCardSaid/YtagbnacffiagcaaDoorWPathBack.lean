/- The walk of PathBack. -/
import Derived.Test.YtagbnacffiagcaaDoorPathBack
namespace Go.Proofs.YtagbnacffiagcaaDoor.pathBack
open Go Go.RowKit Go.Proofs.YtagbnacffiagcaaDoor.Mem Go.Proofs.YtagbnacffiagcaaDoor.SeeW Go.Proofs.YtagbnacffiagcaaDoor.PathW
set_option linter.unusedVariables false
set_option maxRecDepth 100000

theorem over (bs : List Addr) (a0 : Option Addr) (len0 cap0 : Nat) (a1 : Option Addr) (len1 cap1 : Nat) (sl : Bool) (w : World) (hB : Bp w bs) (hn : 8 < len0) :
    Calls Tryd.prog 4 #[.slice a0 len0 cap0, .slice a1 len1 cap1, .bool sl] w fun e w' => e = .returned (.bool true) ∧ Below w.heap.size w w' := by
  have d1 : decide ((8 : Int) < (len0 : Int)) = true := decide_eq_true (by omega)
  clear hn
  go_enter Tryd.func4, Tryd.ntmps4
  go_wp2_with fail
  refine (first_w bs _ hB).mono ?_
  rintro e w1 ⟨rfl, hb1⟩
  go_wp2_with fail
  go_ret
  exact ⟨rfl, hb1⟩
/-- the six, the four, as cells -/
abbrev C6 : Array Value := #[.string ⟨#[97]⟩, .string ⟨#[98, 98]⟩, .string ⟨#[46, 46]⟩, .string ⟨#[99, 46, 100]⟩, .string ⟨#[46, 46, 46]⟩, .string ⟨#[120, 32, 121]⟩]
abbrev C4 : Array Value := #[.string ⟨#[]⟩, .string ⟨#[47]⟩, .string ⟨#[46, 47]⟩, .string ⟨#[47, 46, 47, 46, 47, 47]⟩]
theorem row6 {p : Nat} {x : ByteArray} (h : choice6[p]? = some x) (w : World) : (w.alloc (.cells C6 9)).cell? ⟨w.heap.size, p, none⟩ = some (.string x) := by
  rw [World.cell?_alloc_mark]
  have : C6[p]? = (choice6.map Value.string).toArray[p]? := rfl
  rw [this, List.getElem?_toArray, List.getElem?_map, h]
  rfl
theorem row4 {p : Nat} {x : ByteArray} (h : gaps[p]? = some x) (w : World) : (w.alloc (.cells C4 9)).cell? ⟨w.heap.size, p, none⟩ = some (.string x) := by
  rw [World.cell?_alloc_mark]
  have : C4[p]? = (gaps.map Value.string).toArray[p]? := rfl
  rw [this, List.getElem?_toArray, List.getElem?_map, h]
  rfl
set_option maxHeartbeats 16000000 in
theorem done (bs : List Addr) (a0 : Option Addr) (len0 cap0 : Nat) (zs : List Int) (a1 : Option Addr) (len1 cap1 : Nat) (ys : List Int) (sl : Bool) (w : World) (h : Bp w bs) (hz : Ints.Is w a0 len0 cap0 zs) (hw : ∀ x ∈ zs, (Lit.int .i64 x).wf = true) (hy : Ints.Is w a1 len1 cap1 ys) (hwy : ∀ x ∈ ys, (Lit.int .i64 x).wf = true) (hn : len0 ≤ 8) :
    Calls Tryd.prog 4 #[.slice a0 len0 cap0, .slice a1 len1 cap1, .bool sl] w fun e w' => e = .returned (.bool true) ∧ Below w.heap.size w w' := by
  have d1 : decide ((8 : Int) < (len0 : Int)) = false := decide_eq_false (by omega)
  have HL := hid hz.len
  have HLY := hid hy.len
  obtain ⟨cy1, cy2⟩ := hy.bound
  go_enter Tryd.func4, Tryd.ntmps4
  go_wp2_with fail
  refine (first_w bs _ h).mono ?_
  rintro e w1 ⟨rfl, hb1⟩
  have H1 := hid (h.below hb1)
  have HZ1 := hid (hz.below hb1)
  have HY1 := hid (hy.below hb1)
  have HB1 := hid hb1
  clear h hz hy hb1
  go_wp2_with fail
  have bx := (Below.refl w1.heap.size w1).alloc (Nat.le_refl _) (.cells #[.slice none 0 0, .bool false] 57)
  have hq : (w1.alloc (.cells #[.slice none 0 0, .bool false] 57)).heap[w1.heap.size]? = some (.cells #[.slice none 0 0, .bool false] 57) := alloc_at rfl _
  go_loopw [9, 10] (fun sv iv wr => ∃ (k : Nat) (t : ByteArray) (v : Value), k ≤ len0 ∧ iv = .int .i64 (k : Int) ∧ sv = .string t ∧ Body (ls ((zs.take k).map pick6)) t.data.toList ∧ wr.heap[w1.heap.size]? = some (.cells #[v, .bool false] 57) ∧ wr.ownsRow (w1.heap.size + 1) 9 1 v k (((zs.take k).map pick6).map Value.string) ∧ Below w1.heap.size w1 wr ∧ w1.heap.size < wr.heap.size) (fun _ iv _ => len0 - (intOf iv).toNat)
  case atStart => exact ⟨0, _, _, by omega, rfl, rfl, Body.nil, hq, World.ownsRow_nil _ _ _ _, bx, by simp⟩
  case round =>
    clear bx hq
    obtain ⟨k, t, v, hk, rfl, rfl, hT, hq, own, bx, hx⟩ := hrel
    obtain ⟨va, vc, rfl, hvr⟩ := ownsRow_slice own
    by_cases hlt : k < len0
    · have hkl : k < zs.length := by rw [HL.out]; exact hlt
      obtain ⟨b0, o0, rfl, hc0⟩ := (HZ1.out.below bx).at hkl
      have HS := hid (List.take_succ_eq_append_getElem hkl)
      have hwz := int_of (hw _ (List.getElem_mem hkl))
      have FZ := hid (pick6_fine (zs[k]'hkl))
      generalize zs[k] = z at hc0 HS hwz FZ
      obtain ⟨y1, y2, y3, y4⟩ := two hq
      have e1 := Int.emod_nonneg z (b := 6) (by omega)
      have e2 := Int.emod_lt_of_pos z (b := 6) (by omega)
      have PZ := pick6_at z
      obtain ⟨p, hp⟩ := Int.eq_ofNat_of_zero_le e1
      have cz := NumW.number_w z 6
      rw [hp] at e1 e2 PZ cz
      rw [Int.toNat_natCast] at PZ
      have hp6 : p < 6 := by omega
      have HSZ := hid hT.size
      generalize hpz : pick6 z = x at PZ FZ
      have HZ := hid hpz
      have hxs := FZ.out.2.2
      clear hpz
      have hrow := row6 PZ wr
      have hb0 : b0 ≠ wr.heap.size := Nat.ne_of_lt (World.block_lt_of_cell? _ _ hc0)
      have hbq : w1.heap.size ≠ wr.heap.size := Nat.ne_of_lt hx
      have hc1 : (wr.alloc (.cells C6 9)).cell? ⟨b0, o0 + k, none⟩ = some (.int .i64 z) := by rw [World.cell?_alloc_old _ _ _ hb0]; exact hc0
      have hq4 := alloc_old (o := .cells C6 9) hq
      have bx4 := bx.alloc (Nat.le_of_lt hx) (.cells C6 9)
      have own4 := own.alloc (.cells C6 9)
      obtain ⟨q1, q2, q3, q4⟩ := two hq4
      have f1 : (0 : Int) ≤ (p : Int) := by omega
      have f2 : (p : Int) < 6 := by omega
      have sz4 : (wr.alloc (.cells C6 9)).heap.size = wr.heap.size + 1 := by simp
      have BX4 := hid bx4
      have HQ4 := hid hq4
      have OWN4 := hid own4
      clear bx4 hq4 own4 own y1 y2 y3 y4 hq bx PZ hvr
      go_wp2_with fail
      refine (cz _ (by omega) (by omega) hwz.1 hwz.2).mono ?_
      rintro e w' ⟨rfl, rfl⟩
      have hrx := Row.fresh (wr.alloc (.cells C6 9)) #[.string x] 9 (0, 0) 1 rfl (by decide)
      rw [sz4] at hrx
      have hbase : w1.heap.size + 1 ≤ ((wr.alloc (.cells C6 9)).alloc (.cells #[.string x] 9)).heap.size := by simp; omega
      have bx5 := BX4.out.alloc (by rw [sz4]; omega) (.cells #[.string x] 9)
      have hq5 := alloc_old (o := .cells #[.string x] 9) HQ4.out
      have own5 := OWN4.out.alloc (.cells #[.string x] 9)
      have BX5 := hid bx5
      have HQ5 := hid hq5
      have OWN5 := hid own5
      have HBASE := hid hbase
      clear hc0 hc1 e1 e2 cz bx5 hq5 own5 hbase BX4 HQ4 OWN4
      have l1 : t.data.toList.length = t.size := by rw [Array.length_toList]; rfl
      have l2 : x.data.toList.length = x.size := by rw [Array.length_toList]; rfl
      have ht80 : t.size ≤ 80 := by
        have := HSZ.out
        rw [l1, List.length_map, List.length_map] at this
        have := List.length_take_le k zs
        omega
      have hx3 : x.size ≤ 3 := by rw [← l2]; exact hxs
      have hb10 : t.size + (1 + x.size) ≤ 1000000 := by omega
      have HT := hid hT
      clear l1 l2 hxs HSZ hT
      by_cases hky : k < len1
      · have hkl1 : k < ys.length := by rw [HLY.out]; exact hky
        obtain ⟨b1, o1, rfl, hd0⟩ := (HY1.out).at hkl1
        have hb1w := World.block_lt_of_cell? _ _ hd0
        have hwy1 := int_of (hwy _ (List.getElem_mem hkl1))
        have FG := hid (gap_thin (ys[k]'hkl1))
        have PG := gap_at (ys[k]'hkl1)
        generalize ys[k] = y at hd0 hwy1 FG PG
        have e3 := Int.emod_nonneg y (b := 4) (by omega)
        have e4 := Int.emod_lt_of_pos y (b := 4) (by omega)
        obtain ⟨r, hr⟩ := Int.eq_ofNat_of_zero_le e3
        have cy := NumW.number_w y 4
        rw [hr] at e3 e4 PG cy
        rw [Int.toNat_natCast] at PG
        have hr4 : r < 4 := by omega
        have f3 : (0 : Int) ≤ (r : Int) := by omega
        have f4 : (r : Int) < 4 := by omega
        generalize gap y = g at PG FG
        have HD0 := hid hd0
        have hg6' : g.size ≤ 6 := by
          have l3 : g.data.toList.length = g.size := by rw [Array.length_toList]; rfl
          rw [← l3]; exact FG.out.2.2
        have hb11 : t.size + (1 + (g.size + x.size)) ≤ 1000000 := by omega
        clear hd0 e3 e4
        go_upto_region 15 with (at_builtin; go_must (refine wpList_app elS rfl _ _ rfl (w1.heap.size + 1) (.slice va k vc) k _ rfl OWN5.out _ 1 1 [.string x] rfl hrx (by intro v hv; rw [List.mem_singleton.1 hv]; rfl) (by unfold maxLen; omega) (by omega) HBASE.out ?_); intro v6 w6 own6 hb6 hg6; obtain ⟨va6, vc6, rfl, _⟩ := ownsRow_slice own6; have hq6 := (hb6.block w1.heap.size (Nat.lt_succ_self _)).trans HQ5.out; obtain ⟨z1, z2, z3, z4⟩ := two hq6)
        have hsz7 : w1.heap.size ≤ (w6.setCell ⟨w1.heap.size, 0, none⟩ (.slice va6 (k + 1) vc6)).heap.size := by
          have q3 : (w6.setCell ⟨w1.heap.size, 0, none⟩ (.slice va6 (k + 1) vc6)).heap.size = w6.heap.size := by simp
          rw [q3]
          exact Nat.le_trans (Nat.le_of_succ_le HBASE.out) hb6.size
        have bx7 := ((BX5.out.trans (hb6.mono (Nat.le_succ _))).setCell (p := ⟨w1.heap.size, 0, none⟩) (Nat.le_refl _) (.slice va6 (k + 1) vc6)).alloc hsz7 (.cells C4 9)
        have hd7 := Mem.keep bx7 HD0.out hb1w
        have r7 := row4 PG (w6.setCell ⟨w1.heap.size, 0, none⟩ (.slice va6 (k + 1) vc6))
        have sz7 : (w6.setCell ⟨w1.heap.size, 0, none⟩ (.slice va6 (k + 1) vc6)).heap.size = w6.heap.size := by simp
        rw [sz7] at r7
        clear hsz7
        go_wp2_with fail
        refine (cy _ (by omega) (by omega) hwy1.1 hwy1.2).mono ?_
        rintro e w' ⟨rfl, rfl⟩
        have hq8 := alloc_old (o := .cells C4 9) (two_set hq6 (.slice va6 (k + 1) vc6))
        have own8 := (kept_set (b := w1.heap.size) own6 (Nat.lt_succ_self _) 0 (.slice va6 (k + 1) vc6)).alloc (.cells C4 9)
        have HQ8 := hid hq8
        have OWN8 := hid own8
        have BX8 := hid bx7
        clear own6 hb6 hq6 hg6 z1 z2 z3 z4 hd7 own8 bx7 hq8 cy
        go_wp2_with fail
        go_roundw
        case rel =>
          refine ⟨k + 1, _, _, by omega, by go_num, rfl, ?_, HQ8.out, ?_, BX8.out, ?_⟩
          · have := HT.out.snoc FG.out FZ.out
            rw [HS.out, List.map_append, List.map_cons, List.map_nil, HZ.out]
            show Body ((_ ++ [x]).map _) _
            rw [List.map_append, app_list, app_list, app_list, List.append_assoc, List.append_assoc]
            exact this
          · rw [HS.out, List.map_append, List.map_append, List.map_cons, List.map_nil, HZ.out]
            exact OWN8.out
          · exact (Array.getElem?_eq_some_iff.1 HQ8.out).1
        case measure => simp [intOf]; omega
      · go_wp2_with (at_builtin; go_must (refine wpList_app elS rfl _ _ rfl (w1.heap.size + 1) (.slice va k vc) k _ rfl OWN5.out _ 1 1 [.string x] rfl hrx (by intro v hv; rw [List.mem_singleton.1 hv]; rfl) (by unfold maxLen; omega) (by omega) HBASE.out ?_); intro v6 w6 own6 hb6 hg6; obtain ⟨va6, vc6, rfl, _⟩ := ownsRow_slice own6; have hq6 := (hb6.block w1.heap.size (Nat.lt_succ_self _)).trans HQ5.out; obtain ⟨z1, z2, z3, z4⟩ := two hq6)
        have bx7 := (BX5.out.trans (hb6.mono (Nat.le_succ _))).setCell (p := ⟨w1.heap.size, 0, none⟩) (Nat.le_refl _) (.slice va6 (k + 1) vc6)
        go_roundw
        case rel =>
          refine ⟨k + 1, _, _, by omega, by go_num, rfl, ?_, two_set hq6 _, ?_, bx7, ?_⟩
          · have := HT.out.snoc (g := []) thin_nil FZ.out
            rw [HS.out, List.map_append, List.map_cons, List.map_nil, HZ.out]
            show Body ((_ ++ [x]).map _) _
            rw [List.map_append, app_list, app_list, List.append_assoc]
            exact this
          · rw [HS.out, List.map_append, List.map_append, List.map_cons, List.map_nil, HZ.out]
            exact kept_set (b := w1.heap.size) own6 (Nat.lt_succ_self _) _ _
          · have := (Array.getElem?_eq_some_iff.1 hq6).1
            simpa using this
        case measure => simp [intOf]; omega
    · obtain rfl : k = len0 := by omega
      rw [List.take_of_length_le (by rw [HL.out]; exact Nat.le_refl _)] at own hT
      have hfn : ∀ x ∈ zs.map pick6, Fine x.data.toList := by
        intro x hx
        obtain ⟨z, _, rfl⟩ := List.mem_map.1 hx
        exact pick6_fine z
      have hlen : (zs.map pick6).length = k := by rw [List.length_map]; exact HL.out
      generalize zs.map pick6 = xs at *
      have hx8 : xs.length ≤ 8 := by omega
      have HT := hid hT
      have hts : t.size ≤ 80 := by
        have := hT.size
        have l1 : t.data.toList.length = t.size := by rw [Array.length_toList]; rfl
        rw [l1, List.length_map] at this
        omega
      have hjl : (Lib.join (ls xs) [47]).length ≤ 140737488355327 := by
        have h1 := Path.join_length_le 3 (ls xs) fun z hz => by
          obtain ⟨y, hy, rfl⟩ := List.mem_map.1 hz
          exact (hfn y hy).2.2
        rw [List.length_map] at h1
        omega
      have hjz : (joined [] xs).length ≤ 1000000 := by
        have := (body_joined xs hfn).size
        rw [List.length_map] at this
        omega
      clear hT hw hwy hvr
      by_cases hk0 : k = 0
      · have hxe : xs = [] := List.eq_nil_of_length_eq_zero (by omega)
        subst hk0
        cases sl
        · have own2 := kept_set (b := w1.heap.size) own (Nat.lt_succ_self _) 1 (.bool false)
          have hq2 : (wr.setCell ⟨w1.heap.size, 1, none⟩ (.bool false)).heap[w1.heap.size]? = some (.cells #[.slice va 0 vc, .bool false] 57) := by
            simp [World.setCell, Array.getElem?_modify, hq]
          have bx2 := bx.setCell (p := ⟨w1.heap.size, 1, none⟩) (Nat.le_refl _) (.bool false)
          have T2 : Texts (wr.setCell ⟨w1.heap.size, 1, none⟩ (.bool false)) va 0 vc xs := (Row.owned own2).2
          have H2 := hid (H1.out.below bx2)
          have BX2 := hid bx2
          have HQ2 := hid hq2
          have TT2 := hid T2
          obtain ⟨q1, q2, q3, q4⟩ := two hq2
          obtain ⟨p1, p2, p3, p4⟩ := two hq
          have tx := text_w va 0 vc xs false (wr.setCell ⟨w1.heap.size, 1, none⟩ (.bool false)) T2 (by omega) hjl
          clear bx hq own own2 T2 bx2 hq2
          go_wp2_with fail
          generalize wr.setCell ⟨w1.heap.size, 1, none⟩ (.bool false) = w2 at *
          refine tx.mono ?_
          rintro e w3 ⟨t3, rfl, ht3, b3⟩
          obtain ⟨r1, r2, r3, r4⟩ := (body_joined xs hfn).again hx8 t3 true (by rw [ht3]; rw [hxe]; rfl) (fun _ => rfl)
          have H3 := hid (H2.out.below b3)
          have hp3 := parse_w bs t3 w3 H3.out (by omega)
          unfold Parsed at hp3
          rw [r1, r2, r3, show errv bs 0 = .nilIface from rfl, hlen] at hp3
          have T3 := hid (TT2.out.below b3)
          have HQ3 := hid ((b3.block w1.heap.size (Array.getElem?_eq_some_iff.1 HQ2.out).1).trans HQ2.out)
          have BX3 := hid (BX2.out.trans (b3.mono BX2.out.size))
          clear tx b3 q1 q2 q3 q4 p1 p2 p3 p4 r1 r2 r3 r4 ht3
          go_wp2_with fail
          refine hp3.mono ?_
          rintro e w4 ⟨v4, rfl, own4, b4⟩
          obtain ⟨a4, c4, rfl, T4⟩ := texts_of own4
          rw [show (true && decide (0 < 0)) = false by simp]
          have bA := (Below.refl w4.heap.size w4).alloc (Nat.le_refl _) (.cells #[.slice a4 0 c4, .bool false] 57)
          have b5 := b4.trans (bA.mono b4.size)
          have HA5 : Hid ((w4.alloc (.cells #[.slice a4 0 c4, .bool false] 57)).heap[w4.heap.size]? = some (.cells #[.slice a4 0 c4, .bool false] 57)) := hid (alloc_at rfl _)
          have TA5 := hid (T4.below bA)
          have T5 := hid (T3.out.below b5)
          have H5 := hid (H3.out.below b5)
          have HQ5 := hid ((b5.block w1.heap.size (Array.getElem?_eq_some_iff.1 HQ3.out).1).trans HQ3.out)
          have BX5 := hid (BX3.out.trans (b5.mono BX3.out.size))
          clear hp3 b4 own4 T4 b5 T3 HQ3 BX3 bA
          obtain ⟨r1, r2, r3, r4⟩ := HT.out.again hx8 (t ++ ⟨#[47]⟩) true (by rw [app_list]; rfl) (fun _ => rfl)
          have hp6 := fun wz (hB : Bp wz bs) => parse_w bs (t ++ ⟨#[47]⟩) wz hB (by omega)
          unfold Parsed at hp6
          rw [r1, r2, r3, show errv bs 0 = .nilIface from rfl, hlen, show (true && decide (0 < 0)) = false by simp] at hp6
          clear r1 r2 r3 r4
          go_wp2_with fail
          generalize w4.alloc (.cells #[.slice a4 0 c4, .bool false] 57) = w5 at *
          generalize w4.heap.size = A at *
          refine (hp6 _ H5.out).mono ?_
          rintro e w6 ⟨v6, rfl, own6, b6⟩
          obtain ⟨a6, c6, rfl, T6⟩ := texts_of own6
          have bA := (Below.refl w6.heap.size w6).alloc (Nat.le_refl _) (.cells #[.slice a6 0 c6, .bool false] 57)
          have b7 := b6.trans (bA.mono b6.size)
          have HA7 := hid ((b7.block A (Array.getElem?_eq_some_iff.1 HA5.out).1).trans HA5.out)
          have TA7 := hid (TA5.out.below b7)
          have HC7 : Hid ((w6.alloc (.cells #[.slice a6 0 c6, .bool false] 57)).heap[w6.heap.size]? = some (.cells #[.slice a6 0 c6, .bool false] 57)) := hid (alloc_at rfl _)
          have TC7 := hid (T6.below bA)
          have T7 := hid (T5.out.below b7)
          have H7 := hid (H5.out.below b7)
          have HQ7 := hid ((b7.block w1.heap.size (Array.getElem?_eq_some_iff.1 HQ5.out).1).trans HQ5.out)
          have BX7 := hid (BX5.out.trans (b7.mono BX5.out.size))
          obtain ⟨q1, q2, q3, q4⟩ := two HQ7.out
          have hj := fun wz (hT : Texts wz va 0 vc xs) => pjoin_w ⟨#[]⟩ va 0 vc xs wz hT (by show (joined [] xs).length ≤ _; exact hjz)
          clear hp6 b6 own6 T6 b7 T5 HQ5 BX5 H5 HA5 TA5 bA
          go_wp2_with fail
          generalize w6.alloc (.cells #[.slice a6 0 c6, .bool false] 57) = w7 at *
          generalize w6.heap.size = B at *
          refine (hj _ T7.out).mono ?_
          rintro e w' ⟨t8, rfl, ht8, rfl⟩
          have ht8' : t8.data.toList = joined [] xs := ht8
          obtain ⟨r1, r2, r3, r4⟩ := (body_joined xs hfn).again hx8 (t8 ++ ⟨#[47]⟩) true (by rw [app_list, ht8']; rfl) (fun _ => rfl)
          have hsz8 : t8.size ≤ 80 := by
            have l1 : t8.data.toList.length = t8.size := by rw [Array.length_toList]; rfl
            have := (body_joined xs hfn).size
            rw [List.length_map] at this
            rw [← l1, ht8']
            omega
          have hp9 := fun wz (hB : Bp wz bs) => parse_w bs (t8 ++ ⟨#[47]⟩) wz hB (by omega)
          unfold Parsed at hp9
          rw [r1, r2, show errv bs 0 = .nilIface from rfl, hlen] at hp9
          generalize slash (t8 ++ ⟨#[47]⟩) = sl9 at hp9
          clear r1 r2 r3 r4 hj ht8 ht8'
          go_wp2_with fail
          refine (hp9 _ H7.out).mono ?_
          rintro e w9 ⟨v9, rfl, own9, b9⟩
          obtain ⟨a9, c9, rfl, T9⟩ := texts_of own9
          have bA := (Below.refl w9.heap.size w9).alloc (Nat.le_refl _) (.cells #[.slice a9 0 c9, .bool sl9] 57)
          have b10 := b9.trans (bA.mono b9.size)
          have HA10 := hid ((b10.block A (Array.getElem?_eq_some_iff.1 HA7.out).1).trans HA7.out)
          have TA10 := hid (TA7.out.below b10)
          have HC10 := hid ((b10.block B (Array.getElem?_eq_some_iff.1 HC7.out).1).trans HC7.out)
          have TC10 := hid (TC7.out.below b10)
          have HD10 : Hid ((w9.alloc (.cells #[.slice a9 0 c9, .bool sl9] 57)).heap[w9.heap.size]? = some (.cells #[.slice a9 0 c9, .bool sl9] 57)) := hid (alloc_at rfl _)
          have TD10 := hid (T9.below bA)
          have T10 := hid (T7.out.below b10)
          have HQ10 := hid ((b10.block w1.heap.size (Array.getElem?_eq_some_iff.1 HQ7.out).1).trans HQ7.out)
          have BX10 := hid (BX7.out.trans (b10.mono BX7.out.size))
          obtain ⟨q1, q2, _, _⟩ := two HQ10.out
          obtain ⟨m1, m2, _, _⟩ := two HA10.out
          obtain ⟨n1, n2, _, _⟩ := two HC10.out
          obtain ⟨o1, o2, _, _⟩ := two HD10.out
          clear hp9 b9 own9 T9 b10 T7 HQ7 BX7 H7 HA7 TA7 HC7 TC7 bA
          go_wp2_with fail
          generalize w9.alloc (.cells #[.slice a9 0 c9, .bool sl9] 57) = w10 at *
          generalize w9.heap.size = C at *
          refine (same_w a4 _ c4 xs va _ vc xs w10 TA10.out T10.out).mono ?_
          rintro e w11 ⟨rfl, b11⟩
          rw [decide_eq_true (rfl : xs = xs)]
          have HA11 := hid ((b11.block A (Array.getElem?_eq_some_iff.1 HA10.out).1).trans HA10.out)
          have HC11 := hid ((b11.block B (Array.getElem?_eq_some_iff.1 HC10.out).1).trans HC10.out)
          have HD11 := hid ((b11.block C (Array.getElem?_eq_some_iff.1 HD10.out).1).trans HD10.out)
          have HQ11 := hid ((b11.block w1.heap.size (Array.getElem?_eq_some_iff.1 HQ10.out).1).trans HQ10.out)
          have TC11 := hid (TC10.out.below b11)
          have TD11 := hid (TD10.out.below b11)
          have T11 := hid (T10.out.below b11)
          have BX11 := hid (BX10.out.trans (b11.mono BX10.out.size))
          clear b11 HA10 HC10 HD10 HQ10 TC10 TD10 T10 BX10 TA10 q1 q2 m1 m2 n1 n2 o1 o2
          obtain ⟨q1, q2, _, _⟩ := two HQ11.out
          obtain ⟨m1, m2, _, _⟩ := two HA11.out
          obtain ⟨n1, n2, _, _⟩ := two HC11.out
          obtain ⟨o1, o2, _, _⟩ := two HD11.out
          go_wp2_with fail
          refine (same_w a6 _ c6 xs va _ vc xs w11 TC11.out T11.out).mono ?_
          rintro e w12 ⟨rfl, b12⟩
          rw [decide_eq_true (rfl : xs = xs)]
          have HC12 := hid ((b12.block B (Array.getElem?_eq_some_iff.1 HC11.out).1).trans HC11.out)
          have HD12 := hid ((b12.block C (Array.getElem?_eq_some_iff.1 HD11.out).1).trans HD11.out)
          have HQ12 := hid ((b12.block w1.heap.size (Array.getElem?_eq_some_iff.1 HQ11.out).1).trans HQ11.out)
          have TD12 := hid (TD11.out.below b12)
          have T12 := hid (T11.out.below b12)
          have BX12 := hid (BX11.out.trans (b12.mono BX11.out.size))
          clear b12 HA11 HC11 HD11 HQ11 TC11 TD11 T11 BX11 q1 q2 m1 m2 n1 n2 o1 o2
          obtain ⟨q1, q2, _, _⟩ := two HQ12.out
          obtain ⟨n1, n2, _, _⟩ := two HC12.out
          obtain ⟨o1, o2, _, _⟩ := two HD12.out
          go_wp2_with fail
          refine (same_w a9 _ c9 xs va _ vc xs w12 TD12.out T12.out).mono ?_
          rintro e w13 ⟨rfl, b13⟩
          rw [decide_eq_true (rfl : xs = xs)]
          have BX13 := hid (BX12.out.trans (b13.mono BX12.out.size))
          clear b13 q1 q2 n1 n2 o1 o2
          go_wp2_with fail
          go_ret
          exact ⟨rfl, HB1.out.trans (BX13.out.mono HB1.out.size)⟩
        · have own2 := kept_set (b := w1.heap.size) own (Nat.lt_succ_self _) 1 (.bool false)
          have hq2 : (wr.setCell ⟨w1.heap.size, 1, none⟩ (.bool false)).heap[w1.heap.size]? = some (.cells #[.slice va 0 vc, .bool false] 57) := by
            simp [World.setCell, Array.getElem?_modify, hq]
          have bx2 := bx.setCell (p := ⟨w1.heap.size, 1, none⟩) (Nat.le_refl _) (.bool false)
          have T2 : Texts (wr.setCell ⟨w1.heap.size, 1, none⟩ (.bool false)) va 0 vc xs := (Row.owned own2).2
          have H2 := hid (H1.out.below bx2)
          have BX2 := hid bx2
          have HQ2 := hid hq2
          have TT2 := hid T2
          obtain ⟨q1, q2, q3, q4⟩ := two hq2
          obtain ⟨p1, p2, p3, p4⟩ := two hq
          have tx := text_w va 0 vc xs false (wr.setCell ⟨w1.heap.size, 1, none⟩ (.bool false)) T2 (by omega) hjl
          clear bx hq own own2 T2 bx2 hq2
          go_wp2_with fail
          generalize wr.setCell ⟨w1.heap.size, 1, none⟩ (.bool false) = w2 at *
          refine tx.mono ?_
          rintro e w3 ⟨t3, rfl, ht3, b3⟩
          obtain ⟨r1, r2, r3, r4⟩ := (body_joined xs hfn).again hx8 t3 true (by rw [ht3]; rw [hxe]; rfl) (fun _ => rfl)
          have H3 := hid (H2.out.below b3)
          have hp3 := parse_w bs t3 w3 H3.out (by omega)
          unfold Parsed at hp3
          rw [r1, r2, r3, show errv bs 0 = .nilIface from rfl, hlen] at hp3
          have T3 := hid (TT2.out.below b3)
          have HQ3 := hid ((b3.block w1.heap.size (Array.getElem?_eq_some_iff.1 HQ2.out).1).trans HQ2.out)
          have BX3 := hid (BX2.out.trans (b3.mono BX2.out.size))
          clear tx b3 q1 q2 q3 q4 p1 p2 p3 p4 r1 r2 r3 r4 ht3
          go_wp2_with fail
          refine hp3.mono ?_
          rintro e w4 ⟨v4, rfl, own4, b4⟩
          obtain ⟨a4, c4, rfl, T4⟩ := texts_of own4
          rw [show (true && decide (0 < 0)) = false by simp]
          have bA := (Below.refl w4.heap.size w4).alloc (Nat.le_refl _) (.cells #[.slice a4 0 c4, .bool false] 57)
          have b5 := b4.trans (bA.mono b4.size)
          have HA5 : Hid ((w4.alloc (.cells #[.slice a4 0 c4, .bool false] 57)).heap[w4.heap.size]? = some (.cells #[.slice a4 0 c4, .bool false] 57)) := hid (alloc_at rfl _)
          have TA5 := hid (T4.below bA)
          have T5 := hid (T3.out.below b5)
          have H5 := hid (H3.out.below b5)
          have HQ5 := hid ((b5.block w1.heap.size (Array.getElem?_eq_some_iff.1 HQ3.out).1).trans HQ3.out)
          have BX5 := hid (BX3.out.trans (b5.mono BX3.out.size))
          clear hp3 b4 own4 T4 b5 T3 HQ3 BX3 bA
          obtain ⟨r1, r2, r3, r4⟩ := HT.out.again hx8 (t ++ ⟨#[47]⟩) true (by rw [app_list]; rfl) (fun _ => rfl)
          have hp6 := fun wz (hB : Bp wz bs) => parse_w bs (t ++ ⟨#[47]⟩) wz hB (by omega)
          unfold Parsed at hp6
          rw [r1, r2, r3, show errv bs 0 = .nilIface from rfl, hlen, show (true && decide (0 < 0)) = false by simp] at hp6
          clear r1 r2 r3 r4
          go_wp2_with fail
          generalize w4.alloc (.cells #[.slice a4 0 c4, .bool false] 57) = w5 at *
          generalize w4.heap.size = A at *
          refine (hp6 _ H5.out).mono ?_
          rintro e w6 ⟨v6, rfl, own6, b6⟩
          obtain ⟨a6, c6, rfl, T6⟩ := texts_of own6
          have bA := (Below.refl w6.heap.size w6).alloc (Nat.le_refl _) (.cells #[.slice a6 0 c6, .bool false] 57)
          have b7 := b6.trans (bA.mono b6.size)
          have HA7 := hid ((b7.block A (Array.getElem?_eq_some_iff.1 HA5.out).1).trans HA5.out)
          have TA7 := hid (TA5.out.below b7)
          have HC7 : Hid ((w6.alloc (.cells #[.slice a6 0 c6, .bool false] 57)).heap[w6.heap.size]? = some (.cells #[.slice a6 0 c6, .bool false] 57)) := hid (alloc_at rfl _)
          have TC7 := hid (T6.below bA)
          have T7 := hid (T5.out.below b7)
          have H7 := hid (H5.out.below b7)
          have HQ7 := hid ((b7.block w1.heap.size (Array.getElem?_eq_some_iff.1 HQ5.out).1).trans HQ5.out)
          have BX7 := hid (BX5.out.trans (b7.mono BX5.out.size))
          obtain ⟨q1, q2, q3, q4⟩ := two HQ7.out
          have hj := fun wz (hT : Texts wz va 0 vc xs) => pjoin_w ⟨#[]⟩ va 0 vc xs wz hT (by show (joined [] xs).length ≤ _; exact hjz)
          clear hp6 b6 own6 T6 b7 T5 HQ5 BX5 H5 HA5 TA5 bA
          go_wp2_with fail
          generalize w6.alloc (.cells #[.slice a6 0 c6, .bool false] 57) = w7 at *
          generalize w6.heap.size = B at *
          refine (hj _ T7.out).mono ?_
          rintro e w' ⟨t8, rfl, ht8, rfl⟩
          have ht8' : t8.data.toList = joined [] xs := ht8
          obtain ⟨r1, r2, r3, r4⟩ := (body_joined xs hfn).again hx8 (t8 ++ ⟨#[47]⟩) true (by rw [app_list, ht8']; rfl) (fun _ => rfl)
          have hsz8 : t8.size ≤ 80 := by
            have l1 : t8.data.toList.length = t8.size := by rw [Array.length_toList]; rfl
            have := (body_joined xs hfn).size
            rw [List.length_map] at this
            rw [← l1, ht8']
            omega
          have hp9 := fun wz (hB : Bp wz bs) => parse_w bs (t8 ++ ⟨#[47]⟩) wz hB (by omega)
          unfold Parsed at hp9
          rw [r1, r2, show errv bs 0 = .nilIface from rfl, hlen] at hp9
          generalize slash (t8 ++ ⟨#[47]⟩) = sl9 at hp9
          clear r1 r2 r3 r4 hj ht8 ht8'
          go_wp2_with fail
          refine (hp9 _ H7.out).mono ?_
          rintro e w9 ⟨v9, rfl, own9, b9⟩
          obtain ⟨a9, c9, rfl, T9⟩ := texts_of own9
          have bA := (Below.refl w9.heap.size w9).alloc (Nat.le_refl _) (.cells #[.slice a9 0 c9, .bool sl9] 57)
          have b10 := b9.trans (bA.mono b9.size)
          have HA10 := hid ((b10.block A (Array.getElem?_eq_some_iff.1 HA7.out).1).trans HA7.out)
          have TA10 := hid (TA7.out.below b10)
          have HC10 := hid ((b10.block B (Array.getElem?_eq_some_iff.1 HC7.out).1).trans HC7.out)
          have TC10 := hid (TC7.out.below b10)
          have HD10 : Hid ((w9.alloc (.cells #[.slice a9 0 c9, .bool sl9] 57)).heap[w9.heap.size]? = some (.cells #[.slice a9 0 c9, .bool sl9] 57)) := hid (alloc_at rfl _)
          have TD10 := hid (T9.below bA)
          have T10 := hid (T7.out.below b10)
          have HQ10 := hid ((b10.block w1.heap.size (Array.getElem?_eq_some_iff.1 HQ7.out).1).trans HQ7.out)
          have BX10 := hid (BX7.out.trans (b10.mono BX7.out.size))
          obtain ⟨q1, q2, _, _⟩ := two HQ10.out
          obtain ⟨m1, m2, _, _⟩ := two HA10.out
          obtain ⟨n1, n2, _, _⟩ := two HC10.out
          obtain ⟨o1, o2, _, _⟩ := two HD10.out
          clear hp9 b9 own9 T9 b10 T7 HQ7 BX7 H7 HA7 TA7 HC7 TC7 bA
          go_wp2_with fail
          generalize w9.alloc (.cells #[.slice a9 0 c9, .bool sl9] 57) = w10 at *
          generalize w9.heap.size = C at *
          refine (same_w a4 _ c4 xs va _ vc xs w10 TA10.out T10.out).mono ?_
          rintro e w11 ⟨rfl, b11⟩
          rw [decide_eq_true (rfl : xs = xs)]
          have HA11 := hid ((b11.block A (Array.getElem?_eq_some_iff.1 HA10.out).1).trans HA10.out)
          have HC11 := hid ((b11.block B (Array.getElem?_eq_some_iff.1 HC10.out).1).trans HC10.out)
          have HD11 := hid ((b11.block C (Array.getElem?_eq_some_iff.1 HD10.out).1).trans HD10.out)
          have HQ11 := hid ((b11.block w1.heap.size (Array.getElem?_eq_some_iff.1 HQ10.out).1).trans HQ10.out)
          have TC11 := hid (TC10.out.below b11)
          have TD11 := hid (TD10.out.below b11)
          have T11 := hid (T10.out.below b11)
          have BX11 := hid (BX10.out.trans (b11.mono BX10.out.size))
          clear b11 HA10 HC10 HD10 HQ10 TC10 TD10 T10 BX10 TA10 q1 q2 m1 m2 n1 n2 o1 o2
          obtain ⟨q1, q2, _, _⟩ := two HQ11.out
          obtain ⟨m1, m2, _, _⟩ := two HA11.out
          obtain ⟨n1, n2, _, _⟩ := two HC11.out
          obtain ⟨o1, o2, _, _⟩ := two HD11.out
          go_wp2_with fail
          refine (same_w a6 _ c6 xs va _ vc xs w11 TC11.out T11.out).mono ?_
          rintro e w12 ⟨rfl, b12⟩
          rw [decide_eq_true (rfl : xs = xs)]
          have HC12 := hid ((b12.block B (Array.getElem?_eq_some_iff.1 HC11.out).1).trans HC11.out)
          have HD12 := hid ((b12.block C (Array.getElem?_eq_some_iff.1 HD11.out).1).trans HD11.out)
          have HQ12 := hid ((b12.block w1.heap.size (Array.getElem?_eq_some_iff.1 HQ11.out).1).trans HQ11.out)
          have TD12 := hid (TD11.out.below b12)
          have T12 := hid (T11.out.below b12)
          have BX12 := hid (BX11.out.trans (b12.mono BX11.out.size))
          clear b12 HA11 HC11 HD11 HQ11 TC11 TD11 T11 BX11 q1 q2 m1 m2 n1 n2 o1 o2
          obtain ⟨q1, q2, _, _⟩ := two HQ12.out
          obtain ⟨n1, n2, _, _⟩ := two HC12.out
          obtain ⟨o1, o2, _, _⟩ := two HD12.out
          go_wp2_with fail
          refine (same_w a9 _ c9 xs va _ vc xs w12 TD12.out T12.out).mono ?_
          rintro e w13 ⟨rfl, b13⟩
          rw [decide_eq_true (rfl : xs = xs)]
          have BX13 := hid (BX12.out.trans (b13.mono BX12.out.size))
          clear b13 q1 q2 n1 n2 o1 o2
          go_wp2_with fail
          go_ret
          exact ⟨rfl, HB1.out.trans (BX13.out.mono HB1.out.size)⟩
      · have hne : xs ≠ [] := by intro e; rw [e] at hlen; exact hk0 hlen.symm
        have hk1 : 0 < k := by omega
        have hkd : decide ((0 : Int) < (k : Int)) = true := decide_eq_true (by omega)
        have hke : ((k : Int) == 0) = false := by rw [beq_eq_false_iff_ne]; omega
        cases sl
        · have own2 := kept_set (b := w1.heap.size) own (Nat.lt_succ_self _) 1 (.bool false)
          have hq2 : (wr.setCell ⟨w1.heap.size, 1, none⟩ (.bool false)).heap[w1.heap.size]? = some (.cells #[.slice va k vc, .bool false] 57) := by
            simp [World.setCell, Array.getElem?_modify, hq]
          have bx2 := bx.setCell (p := ⟨w1.heap.size, 1, none⟩) (Nat.le_refl _) (.bool false)
          have T2 : Texts (wr.setCell ⟨w1.heap.size, 1, none⟩ (.bool false)) va k vc xs := (Row.owned own2).2
          have H2 := hid (H1.out.below bx2)
          have BX2 := hid bx2
          have HQ2 := hid hq2
          have TT2 := hid T2
          obtain ⟨q1, q2, q3, q4⟩ := two hq2
          obtain ⟨p1, p2, p3, p4⟩ := two hq
          have tx := text_w va k vc xs false (wr.setCell ⟨w1.heap.size, 1, none⟩ (.bool false)) T2 (by omega) hjl
          clear bx hq own own2 T2 bx2 hq2
          go_wp2_with fail
          generalize wr.setCell ⟨w1.heap.size, 1, none⟩ (.bool false) = w2 at *
          refine tx.mono ?_
          rintro e w3 ⟨t3, rfl, ht3, b3⟩
          obtain ⟨r1, r2, r3, r4⟩ := (body_joined xs hfn).again hx8 t3 false (by rw [ht3]; unfold text; rw [← join_joined xs hne]) (fun e => absurd e hne)
          have H3 := hid (H2.out.below b3)
          have hp3 := parse_w bs t3 w3 H3.out (by omega)
          unfold Parsed at hp3
          rw [r1, r2, r3, show errv bs 0 = .nilIface from rfl, hlen] at hp3
          have T3 := hid (TT2.out.below b3)
          have HQ3 := hid ((b3.block w1.heap.size (Array.getElem?_eq_some_iff.1 HQ2.out).1).trans HQ2.out)
          have BX3 := hid (BX2.out.trans (b3.mono BX2.out.size))
          clear tx b3 q1 q2 q3 q4 p1 p2 p3 p4 r1 r2 r3 r4 ht3
          go_wp2_with fail
          refine hp3.mono ?_
          rintro e w4 ⟨v4, rfl, own4, b4⟩
          obtain ⟨a4, c4, rfl, T4⟩ := texts_of own4
          rw [show (false && decide (0 < k)) = false by simp]
          have bA := (Below.refl w4.heap.size w4).alloc (Nat.le_refl _) (.cells #[.slice a4 k c4, .bool false] 57)
          have b5 := b4.trans (bA.mono b4.size)
          have HA5 : Hid ((w4.alloc (.cells #[.slice a4 k c4, .bool false] 57)).heap[w4.heap.size]? = some (.cells #[.slice a4 k c4, .bool false] 57)) := hid (alloc_at rfl _)
          have TA5 := hid (T4.below bA)
          have T5 := hid (T3.out.below b5)
          have H5 := hid (H3.out.below b5)
          have HQ5 := hid ((b5.block w1.heap.size (Array.getElem?_eq_some_iff.1 HQ3.out).1).trans HQ3.out)
          have BX5 := hid (BX3.out.trans (b5.mono BX3.out.size))
          clear hp3 b4 own4 T4 b5 T3 HQ3 BX3 bA
          obtain ⟨r1, r2, r3, r4⟩ := HT.out.again hx8 t false (by simp) (fun e => absurd e hne)
          have hp6 := fun wz (hB : Bp wz bs) => parse_w bs t wz hB (by omega)
          unfold Parsed at hp6
          rw [r1, r2, r3, show errv bs 0 = .nilIface from rfl, hlen, show (false && decide (0 < k)) = false by simp] at hp6
          clear r1 r2 r3 r4
          go_wp2_with fail
          generalize w4.alloc (.cells #[.slice a4 k c4, .bool false] 57) = w5 at *
          generalize w4.heap.size = A at *
          refine (hp6 _ H5.out).mono ?_
          rintro e w6 ⟨v6, rfl, own6, b6⟩
          obtain ⟨a6, c6, rfl, T6⟩ := texts_of own6
          have bA := (Below.refl w6.heap.size w6).alloc (Nat.le_refl _) (.cells #[.slice a6 k c6, .bool false] 57)
          have b7 := b6.trans (bA.mono b6.size)
          have HA7 := hid ((b7.block A (Array.getElem?_eq_some_iff.1 HA5.out).1).trans HA5.out)
          have TA7 := hid (TA5.out.below b7)
          have HC7 : Hid ((w6.alloc (.cells #[.slice a6 k c6, .bool false] 57)).heap[w6.heap.size]? = some (.cells #[.slice a6 k c6, .bool false] 57)) := hid (alloc_at rfl _)
          have TC7 := hid (T6.below bA)
          have T7 := hid (T5.out.below b7)
          have H7 := hid (H5.out.below b7)
          have HQ7 := hid ((b7.block w1.heap.size (Array.getElem?_eq_some_iff.1 HQ5.out).1).trans HQ5.out)
          have BX7 := hid (BX5.out.trans (b7.mono BX5.out.size))
          obtain ⟨q1, q2, q3, q4⟩ := two HQ7.out
          have hj := fun wz (hT : Texts wz va k vc xs) => pjoin_w ⟨#[]⟩ va k vc xs wz hT (by show (joined [] xs).length ≤ _; exact hjz)
          clear hp6 b6 own6 T6 b7 T5 HQ5 BX5 H5 HA5 TA5 bA
          go_wp2_with fail
          generalize w6.alloc (.cells #[.slice a6 k c6, .bool false] 57) = w7 at *
          generalize w6.heap.size = B at *
          refine (hj _ T7.out).mono ?_
          rintro e w' ⟨t8, rfl, ht8, rfl⟩
          have ht8' : t8.data.toList = joined [] xs := ht8
          obtain ⟨r1, r2, r3, r4⟩ := (body_joined xs hfn).again hx8 (t8 ++ ⟨#[47]⟩) true (by rw [app_list, ht8']; rfl) (fun _ => rfl)
          have hsz8 : t8.size ≤ 80 := by
            have l1 : t8.data.toList.length = t8.size := by rw [Array.length_toList]; rfl
            have := (body_joined xs hfn).size
            rw [List.length_map] at this
            rw [← l1, ht8']
            omega
          have hp9 := fun wz (hB : Bp wz bs) => parse_w bs (t8 ++ ⟨#[47]⟩) wz hB (by omega)
          unfold Parsed at hp9
          rw [r1, r2, show errv bs 0 = .nilIface from rfl, hlen] at hp9
          generalize slash (t8 ++ ⟨#[47]⟩) = sl9 at hp9
          clear r1 r2 r3 r4 hj ht8 ht8'
          go_wp2_with fail
          refine (hp9 _ H7.out).mono ?_
          rintro e w9 ⟨v9, rfl, own9, b9⟩
          obtain ⟨a9, c9, rfl, T9⟩ := texts_of own9
          have bA := (Below.refl w9.heap.size w9).alloc (Nat.le_refl _) (.cells #[.slice a9 k c9, .bool sl9] 57)
          have b10 := b9.trans (bA.mono b9.size)
          have HA10 := hid ((b10.block A (Array.getElem?_eq_some_iff.1 HA7.out).1).trans HA7.out)
          have TA10 := hid (TA7.out.below b10)
          have HC10 := hid ((b10.block B (Array.getElem?_eq_some_iff.1 HC7.out).1).trans HC7.out)
          have TC10 := hid (TC7.out.below b10)
          have HD10 : Hid ((w9.alloc (.cells #[.slice a9 k c9, .bool sl9] 57)).heap[w9.heap.size]? = some (.cells #[.slice a9 k c9, .bool sl9] 57)) := hid (alloc_at rfl _)
          have TD10 := hid (T9.below bA)
          have T10 := hid (T7.out.below b10)
          have HQ10 := hid ((b10.block w1.heap.size (Array.getElem?_eq_some_iff.1 HQ7.out).1).trans HQ7.out)
          have BX10 := hid (BX7.out.trans (b10.mono BX7.out.size))
          obtain ⟨q1, q2, _, _⟩ := two HQ10.out
          obtain ⟨m1, m2, _, _⟩ := two HA10.out
          obtain ⟨n1, n2, _, _⟩ := two HC10.out
          obtain ⟨o1, o2, _, _⟩ := two HD10.out
          clear hp9 b9 own9 T9 b10 T7 HQ7 BX7 H7 HA7 TA7 HC7 TC7 bA
          go_wp2_with fail
          generalize w9.alloc (.cells #[.slice a9 k c9, .bool sl9] 57) = w10 at *
          generalize w9.heap.size = C at *
          refine (same_w a4 _ c4 xs va _ vc xs w10 TA10.out T10.out).mono ?_
          rintro e w11 ⟨rfl, b11⟩
          rw [decide_eq_true (rfl : xs = xs)]
          have HA11 := hid ((b11.block A (Array.getElem?_eq_some_iff.1 HA10.out).1).trans HA10.out)
          have HC11 := hid ((b11.block B (Array.getElem?_eq_some_iff.1 HC10.out).1).trans HC10.out)
          have HD11 := hid ((b11.block C (Array.getElem?_eq_some_iff.1 HD10.out).1).trans HD10.out)
          have HQ11 := hid ((b11.block w1.heap.size (Array.getElem?_eq_some_iff.1 HQ10.out).1).trans HQ10.out)
          have TC11 := hid (TC10.out.below b11)
          have TD11 := hid (TD10.out.below b11)
          have T11 := hid (T10.out.below b11)
          have BX11 := hid (BX10.out.trans (b11.mono BX10.out.size))
          clear b11 HA10 HC10 HD10 HQ10 TC10 TD10 T10 BX10 TA10 q1 q2 m1 m2 n1 n2 o1 o2
          obtain ⟨q1, q2, _, _⟩ := two HQ11.out
          obtain ⟨m1, m2, _, _⟩ := two HA11.out
          obtain ⟨n1, n2, _, _⟩ := two HC11.out
          obtain ⟨o1, o2, _, _⟩ := two HD11.out
          go_wp2_with fail
          refine (same_w a6 _ c6 xs va _ vc xs w11 TC11.out T11.out).mono ?_
          rintro e w12 ⟨rfl, b12⟩
          rw [decide_eq_true (rfl : xs = xs)]
          have HC12 := hid ((b12.block B (Array.getElem?_eq_some_iff.1 HC11.out).1).trans HC11.out)
          have HD12 := hid ((b12.block C (Array.getElem?_eq_some_iff.1 HD11.out).1).trans HD11.out)
          have HQ12 := hid ((b12.block w1.heap.size (Array.getElem?_eq_some_iff.1 HQ11.out).1).trans HQ11.out)
          have TD12 := hid (TD11.out.below b12)
          have T12 := hid (T11.out.below b12)
          have BX12 := hid (BX11.out.trans (b12.mono BX11.out.size))
          clear b12 HA11 HC11 HD11 HQ11 TC11 TD11 T11 BX11 q1 q2 m1 m2 n1 n2 o1 o2
          obtain ⟨q1, q2, _, _⟩ := two HQ12.out
          obtain ⟨n1, n2, _, _⟩ := two HC12.out
          obtain ⟨o1, o2, _, _⟩ := two HD12.out
          go_wp2_with fail
          refine (same_w a9 _ c9 xs va _ vc xs w12 TD12.out T12.out).mono ?_
          rintro e w13 ⟨rfl, b13⟩
          rw [decide_eq_true (rfl : xs = xs)]
          have BX13 := hid (BX12.out.trans (b13.mono BX12.out.size))
          clear b13 q1 q2 n1 n2 o1 o2
          go_wp2_with fail
          go_ret
          exact ⟨rfl, HB1.out.trans (BX13.out.mono HB1.out.size)⟩
        · have own2 := kept_set (b := w1.heap.size) own (Nat.lt_succ_self _) 1 (.bool true)
          have hq2 : (wr.setCell ⟨w1.heap.size, 1, none⟩ (.bool true)).heap[w1.heap.size]? = some (.cells #[.slice va k vc, .bool true] 57) := by
            simp [World.setCell, Array.getElem?_modify, hq]
          have bx2 := bx.setCell (p := ⟨w1.heap.size, 1, none⟩) (Nat.le_refl _) (.bool true)
          have T2 : Texts (wr.setCell ⟨w1.heap.size, 1, none⟩ (.bool true)) va k vc xs := (Row.owned own2).2
          have H2 := hid (H1.out.below bx2)
          have BX2 := hid bx2
          have HQ2 := hid hq2
          have TT2 := hid T2
          obtain ⟨q1, q2, q3, q4⟩ := two hq2
          obtain ⟨p1, p2, p3, p4⟩ := two hq
          have tx := text_w va k vc xs true (wr.setCell ⟨w1.heap.size, 1, none⟩ (.bool true)) T2 (by omega) hjl
          clear bx hq own own2 T2 bx2 hq2
          go_wp2_with fail
          generalize wr.setCell ⟨w1.heap.size, 1, none⟩ (.bool true) = w2 at *
          refine tx.mono ?_
          rintro e w3 ⟨t3, rfl, ht3, b3⟩
          obtain ⟨r1, r2, r3, r4⟩ := (body_joined xs hfn).again hx8 t3 true (by rw [ht3]; unfold text; rw [← join_joined xs hne]) (fun e => absurd e hne)
          have H3 := hid (H2.out.below b3)
          have hp3 := parse_w bs t3 w3 H3.out (by omega)
          unfold Parsed at hp3
          rw [r1, r2, r3, show errv bs 0 = .nilIface from rfl, hlen] at hp3
          have T3 := hid (TT2.out.below b3)
          have HQ3 := hid ((b3.block w1.heap.size (Array.getElem?_eq_some_iff.1 HQ2.out).1).trans HQ2.out)
          have BX3 := hid (BX2.out.trans (b3.mono BX2.out.size))
          clear tx b3 q1 q2 q3 q4 p1 p2 p3 p4 r1 r2 r3 r4 ht3
          go_wp2_with fail
          refine hp3.mono ?_
          rintro e w4 ⟨v4, rfl, own4, b4⟩
          obtain ⟨a4, c4, rfl, T4⟩ := texts_of own4
          rw [show (true && decide (0 < k)) = true by simp [hk1]]
          have bA := (Below.refl w4.heap.size w4).alloc (Nat.le_refl _) (.cells #[.slice a4 k c4, .bool true] 57)
          have b5 := b4.trans (bA.mono b4.size)
          have HA5 : Hid ((w4.alloc (.cells #[.slice a4 k c4, .bool true] 57)).heap[w4.heap.size]? = some (.cells #[.slice a4 k c4, .bool true] 57)) := hid (alloc_at rfl _)
          have TA5 := hid (T4.below bA)
          have T5 := hid (T3.out.below b5)
          have H5 := hid (H3.out.below b5)
          have HQ5 := hid ((b5.block w1.heap.size (Array.getElem?_eq_some_iff.1 HQ3.out).1).trans HQ3.out)
          have BX5 := hid (BX3.out.trans (b5.mono BX3.out.size))
          clear hp3 b4 own4 T4 b5 T3 HQ3 BX3 bA
          obtain ⟨r1, r2, r3, r4⟩ := HT.out.again hx8 (t ++ ⟨#[47]⟩) true (by rw [app_list]; rfl) (fun e => absurd e hne)
          have hp6 := fun wz (hB : Bp wz bs) => parse_w bs (t ++ ⟨#[47]⟩) wz hB (by omega)
          unfold Parsed at hp6
          rw [r1, r2, r3, show errv bs 0 = .nilIface from rfl, hlen, show (true && decide (0 < k)) = true by simp [hk1]] at hp6
          clear r1 r2 r3 r4
          go_wp2_with fail
          generalize w4.alloc (.cells #[.slice a4 k c4, .bool true] 57) = w5 at *
          generalize w4.heap.size = A at *
          refine (hp6 _ H5.out).mono ?_
          rintro e w6 ⟨v6, rfl, own6, b6⟩
          obtain ⟨a6, c6, rfl, T6⟩ := texts_of own6
          have bA := (Below.refl w6.heap.size w6).alloc (Nat.le_refl _) (.cells #[.slice a6 k c6, .bool true] 57)
          have b7 := b6.trans (bA.mono b6.size)
          have HA7 := hid ((b7.block A (Array.getElem?_eq_some_iff.1 HA5.out).1).trans HA5.out)
          have TA7 := hid (TA5.out.below b7)
          have HC7 : Hid ((w6.alloc (.cells #[.slice a6 k c6, .bool true] 57)).heap[w6.heap.size]? = some (.cells #[.slice a6 k c6, .bool true] 57)) := hid (alloc_at rfl _)
          have TC7 := hid (T6.below bA)
          have T7 := hid (T5.out.below b7)
          have H7 := hid (H5.out.below b7)
          have HQ7 := hid ((b7.block w1.heap.size (Array.getElem?_eq_some_iff.1 HQ5.out).1).trans HQ5.out)
          have BX7 := hid (BX5.out.trans (b7.mono BX5.out.size))
          obtain ⟨q1, q2, q3, q4⟩ := two HQ7.out
          have hj := fun wz (hT : Texts wz va k vc xs) => pjoin_w ⟨#[]⟩ va k vc xs wz hT (by show (joined [] xs).length ≤ _; exact hjz)
          clear hp6 b6 own6 T6 b7 T5 HQ5 BX5 H5 HA5 TA5 bA
          go_wp2_with fail
          generalize w6.alloc (.cells #[.slice a6 k c6, .bool true] 57) = w7 at *
          generalize w6.heap.size = B at *
          refine (hj _ T7.out).mono ?_
          rintro e w' ⟨t8, rfl, ht8, rfl⟩
          have ht8' : t8.data.toList = joined [] xs := ht8
          obtain ⟨r1, r2, r3, r4⟩ := (body_joined xs hfn).again hx8 (t8 ++ ⟨#[47]⟩) true (by rw [app_list, ht8']; rfl) (fun _ => rfl)
          have hsz8 : t8.size ≤ 80 := by
            have l1 : t8.data.toList.length = t8.size := by rw [Array.length_toList]; rfl
            have := (body_joined xs hfn).size
            rw [List.length_map] at this
            rw [← l1, ht8']
            omega
          have hp9 := fun wz (hB : Bp wz bs) => parse_w bs (t8 ++ ⟨#[47]⟩) wz hB (by omega)
          unfold Parsed at hp9
          rw [r1, r2, show errv bs 0 = .nilIface from rfl, hlen] at hp9
          generalize slash (t8 ++ ⟨#[47]⟩) = sl9 at hp9
          clear r1 r2 r3 r4 hj ht8 ht8'
          go_wp2_with fail
          refine (hp9 _ H7.out).mono ?_
          rintro e w9 ⟨v9, rfl, own9, b9⟩
          obtain ⟨a9, c9, rfl, T9⟩ := texts_of own9
          have bA := (Below.refl w9.heap.size w9).alloc (Nat.le_refl _) (.cells #[.slice a9 k c9, .bool sl9] 57)
          have b10 := b9.trans (bA.mono b9.size)
          have HA10 := hid ((b10.block A (Array.getElem?_eq_some_iff.1 HA7.out).1).trans HA7.out)
          have TA10 := hid (TA7.out.below b10)
          have HC10 := hid ((b10.block B (Array.getElem?_eq_some_iff.1 HC7.out).1).trans HC7.out)
          have TC10 := hid (TC7.out.below b10)
          have HD10 : Hid ((w9.alloc (.cells #[.slice a9 k c9, .bool sl9] 57)).heap[w9.heap.size]? = some (.cells #[.slice a9 k c9, .bool sl9] 57)) := hid (alloc_at rfl _)
          have TD10 := hid (T9.below bA)
          have T10 := hid (T7.out.below b10)
          have HQ10 := hid ((b10.block w1.heap.size (Array.getElem?_eq_some_iff.1 HQ7.out).1).trans HQ7.out)
          have BX10 := hid (BX7.out.trans (b10.mono BX7.out.size))
          obtain ⟨q1, q2, _, _⟩ := two HQ10.out
          obtain ⟨m1, m2, _, _⟩ := two HA10.out
          obtain ⟨n1, n2, _, _⟩ := two HC10.out
          obtain ⟨o1, o2, _, _⟩ := two HD10.out
          clear hp9 b9 own9 T9 b10 T7 HQ7 BX7 H7 HA7 TA7 HC7 TC7 bA
          go_wp2_with fail
          generalize w9.alloc (.cells #[.slice a9 k c9, .bool sl9] 57) = w10 at *
          generalize w9.heap.size = C at *
          refine (same_w a4 _ c4 xs va _ vc xs w10 TA10.out T10.out).mono ?_
          rintro e w11 ⟨rfl, b11⟩
          rw [decide_eq_true (rfl : xs = xs)]
          have HA11 := hid ((b11.block A (Array.getElem?_eq_some_iff.1 HA10.out).1).trans HA10.out)
          have HC11 := hid ((b11.block B (Array.getElem?_eq_some_iff.1 HC10.out).1).trans HC10.out)
          have HD11 := hid ((b11.block C (Array.getElem?_eq_some_iff.1 HD10.out).1).trans HD10.out)
          have HQ11 := hid ((b11.block w1.heap.size (Array.getElem?_eq_some_iff.1 HQ10.out).1).trans HQ10.out)
          have TC11 := hid (TC10.out.below b11)
          have TD11 := hid (TD10.out.below b11)
          have T11 := hid (T10.out.below b11)
          have BX11 := hid (BX10.out.trans (b11.mono BX10.out.size))
          clear b11 HA10 HC10 HD10 HQ10 TC10 TD10 T10 BX10 TA10 q1 q2 m1 m2 n1 n2 o1 o2
          obtain ⟨q1, q2, _, _⟩ := two HQ11.out
          obtain ⟨m1, m2, _, _⟩ := two HA11.out
          obtain ⟨n1, n2, _, _⟩ := two HC11.out
          obtain ⟨o1, o2, _, _⟩ := two HD11.out
          go_wp2_with fail
          refine (same_w a6 _ c6 xs va _ vc xs w11 TC11.out T11.out).mono ?_
          rintro e w12 ⟨rfl, b12⟩
          rw [decide_eq_true (rfl : xs = xs)]
          have HC12 := hid ((b12.block B (Array.getElem?_eq_some_iff.1 HC11.out).1).trans HC11.out)
          have HD12 := hid ((b12.block C (Array.getElem?_eq_some_iff.1 HD11.out).1).trans HD11.out)
          have HQ12 := hid ((b12.block w1.heap.size (Array.getElem?_eq_some_iff.1 HQ11.out).1).trans HQ11.out)
          have TD12 := hid (TD11.out.below b12)
          have T12 := hid (T11.out.below b12)
          have BX12 := hid (BX11.out.trans (b12.mono BX11.out.size))
          clear b12 HA11 HC11 HD11 HQ11 TC11 TD11 T11 BX11 q1 q2 m1 m2 n1 n2 o1 o2
          obtain ⟨q1, q2, _, _⟩ := two HQ12.out
          obtain ⟨n1, n2, _, _⟩ := two HC12.out
          obtain ⟨o1, o2, _, _⟩ := two HD12.out
          go_wp2_with fail
          refine (same_w a9 _ c9 xs va _ vc xs w12 TD12.out T12.out).mono ?_
          rintro e w13 ⟨rfl, b13⟩
          rw [decide_eq_true (rfl : xs = xs)]
          have BX13 := hid (BX12.out.trans (b13.mono BX12.out.size))
          clear b13 q1 q2 n1 n2 o1 o2
          go_wp2_with fail
          go_ret
          exact ⟨rfl, HB1.out.trans (BX13.out.mono HB1.out.size)⟩
/-- where these three alone are listed, in the row's order -/
theorem bp_row {w : World} (h : Err.All w [3, 5, 4]) : ∃ bs, Bp w bs := by
  obtain ⟨cs, _, _, h3⟩ := h
  obtain ⟨a0, _, h0⟩ := h3 0 _ rfl
  obtain ⟨a1, _, h1⟩ := h3 1 _ rfl
  obtain ⟨a2, _, h2⟩ := h3 2 _ rfl
  refine ⟨[a0, a0, a0, a0, a0, a0, a0, a0, a0, a0, a0, a0, a0, a1, a2], fun i g hi hg => ?_⟩
  rcases hi with rfl | rfl | rfl
  · cases hg; exact ⟨a0, rfl, h0⟩
  · cases hg; exact ⟨a1, rfl, h1⟩
  · cases hg; exact ⟨a2, rfl, h2⟩
theorem walk (a0 : Option Addr) (len0 cap0 : Nat) (z0 : List Int) (a1 : Option Addr) (len1 cap1 : Nat) (z1 : List Int) (a2 : Bool) (w : World) (hE : Err.All w [3, 5, 4]) (w0 : IsRow .i64 w a0 len0 cap0 z0) (w1 : IsRow .i64 w a1 len1 cap1 z1) :
    Calls Tryd.prog 4 #[.slice a0 len0 cap0, .slice a1 len1 cap1, .bool a2] w fun e w' => e = .returned (.bool true) ∧ Below w.heap.size w w' := by
  obtain ⟨bs, hB⟩ := bp_row hE
  obtain ⟨l, hl, hwf⟩ := Ints.is_of w0
  obtain ⟨l', hl', hwf'⟩ := Ints.is_of w1
  rcases Nat.lt_or_ge 8 len0 with h | h
  · exact over bs a0 len0 cap0 a1 len1 cap1 a2 w hB h
  · exact done bs a0 len0 cap0 l a1 len1 cap1 l' a2 w hB hl hwf hl' hwf' h
end Go.Proofs.YtagbnacffiagcaaDoor.pathBack
