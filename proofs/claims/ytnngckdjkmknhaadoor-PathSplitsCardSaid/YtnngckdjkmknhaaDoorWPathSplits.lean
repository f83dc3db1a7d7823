/- The walk of PathSplits. -/
import Derived.Test.YtnngckdjkmknhaaDoorPathPick
import Derived.Test.YtnngckdjkmknhaaDoorWPathWrong
import Derived.Deep.CutRange
namespace Go.Proofs.YtnngckdjkmknhaaDoor.pathSplits
open Go Go.RowKit Go.Proofs.YtnngckdjkmknhaaDoor.Mem Go.Proofs.YtnngckdjkmknhaaDoor.SeeW Go.Proofs.YtnngckdjkmknhaaDoor.PathW
set_option linter.unusedVariables false
set_option maxRecDepth 100000

set_option maxHeartbeats 3200000 in
theorem done (bs : List Addr) (a : Option Addr) (n cap : Nat) (zs : List Int) (sl : Bool) (w : World) (h : Bs w bs) (hz : Ints.Is w a n cap zs) (hw : ∀ x ∈ zs, (Lit.int .i64 x).wf = true) (hn : n ≤ 8) :
    Calls Tryd.prog 6 #[.slice a n cap, .bool sl] w fun e w' => e = .returned (.bool true) ∧ Below w.heap.size w w' := by
  obtain ⟨c1, c2⟩ := hz.bound
  have HL := hid hz.len
  obtain ⟨s1, hs1⟩ : ∃ s1, s1 = (sl && decide (0 < n)) := ⟨_, rfl⟩
  have HS1 := hid hs1
  clear hs1
  go_enter Tryd.func6, Tryd.ntmps6
  go_wp2_with fail
  refine (first_w bs _ h).mono ?_
  rintro e w1 ⟨rfl, hb1⟩
  have h1 := h.below hb1
  have hz1 := hz.below hb1
  have z1 := hb1.size
  clear h hz
  go_upto_region 4 with fail
  go_cut [6] from 23 to 29 (fun s6 wx => s6 = .pointer (some ⟨w1.heap.size, 0, none⟩) ∧ Below w1.heap.size w1 wx ∧ wx.heap[w1.heap.size]? = some (.cells #[.slice none 0 0, .bool s1] 26) ∧ w1.heap.size < wx.heap.size)
  case first =>
    cases sl
    · obtain rfl : s1 = false := by rw [HS1.out]; rfl
      go_wp2_with fail
      go_meet
      case rel => exact ⟨rfl, (Below.refl _ _).alloc (Nat.le_refl _) _, alloc_at rfl _, by simp⟩
    · have hs2 : s1 = decide (0 < n) := by rw [HS1.out]; rfl
      subst hs2
      go_wp2_with fail
      go_meet
      case rel => exact ⟨rfl, (Below.refl _ _).alloc (Nat.le_refl _) _, alloc_at rfl _, by simp⟩
  case rest =>
    obtain ⟨rfl, bx, hq, hx⟩ := hcut
    go_wp2_with fail
    go_loopw [7] (fun iv wr => ∃ (k : Nat) (v : Value), k ≤ n ∧ iv = .int .i64 k ∧ wr.heap[w1.heap.size]? = some (.cells #[v, .bool s1] 26) ∧ wr.ownsRow (w1.heap.size + 1) 9 1 v k (((zs.take k).map pick).map Value.string) ∧ Below w1.heap.size w1 wr ∧ w1.heap.size < wr.heap.size) (fun iv _ => n - (intOf iv).toNat)
    case atStart => exact ⟨0, _, by omega, rfl, hq, World.ownsRow_nil _ _ _ _, bx, hx⟩
    case round =>
      clear bx hq hx
      obtain ⟨k, v, hk, rfl, hq, own, bx, hx⟩ := hrel
      obtain ⟨va, vc, rfl, hvr⟩ := ownsRow_slice own
      by_cases hlt : k < n
      · have hkl : k < zs.length := by rw [HL.out]; exact hlt
        obtain ⟨b0, o0, rfl, hc0⟩ := (hz1.below bx).at hkl
        have HS := hid (List.take_succ_eq_append_getElem hkl)
        have hwz := int_of (hw _ (List.getElem_mem hkl))
        generalize zs[k] = z at hc0 HS hwz
        obtain ⟨y1, y2, y3, y4⟩ := two hq
        have e1 := Int.emod_nonneg z (b := 4) (by omega)
        have e2 := Int.emod_lt_of_pos z (b := 4) (by omega)
        have f1 : (0 : Int) ≤ (k : Int) := by omega
        have f2 : (k : Int) < (n : Int) := by omega
        have PZ := pick_at z
        obtain ⟨p, hp⟩ := Int.eq_ofNat_of_zero_le e1
        have cz := NumW.number_w z 4
        rw [hp] at e1 e2 PZ cz
        rw [Int.toNat_natCast] at PZ
        have hp4 : p < 4 := by omega
        generalize hpz : pick z = x at PZ
        have HZ := hid hpz
        clear hpz
        have hrow : ∀ (w' : World), (w'.alloc (.cells #[.string ⟨#[97]⟩, .string ⟨#[98, 98]⟩, .string ⟨#[46, 46]⟩, .string ⟨#[99, 46, 100]⟩] 9)).cell? ⟨w'.heap.size, p, none⟩ = some (.string x) := by
          intro w'
          rw [World.cell?_alloc_mark]
          have : (#[Value.string ⟨#[97]⟩, .string ⟨#[98, 98]⟩, .string ⟨#[46, 46]⟩, .string ⟨#[99, 46, 100]⟩] : Array Value)[p]? = (choice.map Value.string).toArray[p]? := rfl
          rw [this, List.getElem?_toArray, List.getElem?_map, PZ]
          rfl
        have e3 : (0 : Int) ≤ (p : Int) := by omega
        have e4 : (p : Int) < 4 := by omega
        have hb0 : b0 ≠ wr.heap.size := Nat.ne_of_lt (World.block_lt_of_cell? _ _ hc0)
        have hbq : w1.heap.size ≠ wr.heap.size := Nat.ne_of_lt hx
        have a1 : ∀ o, (wr.alloc o).cell? ⟨b0, o0 + k, none⟩ = some (.int .i64 z) := fun o => by rw [World.cell?_alloc_old _ _ _ hb0]; exact hc0
        have a2 : ∀ o, (wr.alloc o).cell? ⟨w1.heap.size, 0, none⟩ = some (.slice va k vc) := fun o => by rw [World.cell?_alloc_old _ _ _ hbq]; exact y1
        have hrow' := hrow wr
        have own2 := fun (o o' : Obj) => (own.alloc o).alloc o'
        have gq : ∀ (o o' : Obj) (w3 : World), ((wr.alloc o).alloc o').drew.grownBy w3 (Value.slice va k vc).ownBlock → w3.heap[w1.heap.size]? = some (.cells #[.slice va k vc, .bool s1] 26) := by
          intro o o' w3 hg
          rw [hg.block w1.heap.size (by simp; omega) (by
            intro e
            have := (own.lt w1.heap.size e.symm).1
            omega)]
          exact alloc_old (alloc_old hq)
        have gb : ∀ (o o' : Obj) (w3 : World), ((wr.alloc o).alloc o').drew.grownBy w3 (Value.slice va k vc).ownBlock → Below w1.heap.size w1 w3 := by
          intro o o' w3 hg
          refine (((bx.alloc (by omega) o).alloc (by simp; omega) o').drew).grown hg (by simp; omega) fun b hb => ?_
          have := (own.lt b hb).1
          omega
        clear PZ hvr hrow
        --DEV0
        go_wp2_with fail
        go_region_law
          (first
            | (go_simp; go_at_call 8; refine (cz _ (by omega) (by omega) hwz.1 hwz.2).mono ?_; rintro e w' ⟨rfl, rfl⟩)
            | (refine step_append_lies _ rfl _ _ _ rfl (w1.heap.size + 1) 9 _ _ 1 16 elS.ht rfl rfl rfl rfl rfl (by decide) (.slice va k vc) k _ rfl ((own.alloc _).alloc _) _ 1 1 [.string x] rfl rfl (by intro j u hj; cases j with | zero => (simp at hj; subst hj; simp [Addr.add]) | succ j => simp at hj) (by simp [Value.oneCell']) (by decide) (by unfold maxLen; omega) (by omega) (by simp; omega) _ rfl ?_; intro g' cap' w3 hown hgrow hat hlt3; obtain ⟨x1, x2, x3, x4⟩ := two (gq (.cells #[.string ⟨#[97]⟩, .string ⟨#[98, 98]⟩, .string ⟨#[46, 46]⟩, .string ⟨#[99, 46, 100]⟩] 9) (.cells #[.string x] 9) w3 hgrow)))
        all_goals
          have hg1 := gb (.cells #[.string ⟨#[97]⟩, .string ⟨#[98, 98]⟩, .string ⟨#[46, 46]⟩, .string ⟨#[99, 46, 100]⟩] 9) (.cells #[.string x] 9) _ hgrow
          have hg2 := gq (.cells #[.string ⟨#[97]⟩, .string ⟨#[98, 98]⟩, .string ⟨#[46, 46]⟩, .string ⟨#[99, 46, 100]⟩] 9) (.cells #[.string x] 9) _ hgrow
          have HO := hid hown
          clear hown hgrow hat gb gq
          go_wp2
          go_roundw
          case rel =>
            refine ⟨k + 1, .slice (some ⟨g', 0, none⟩) (k + 1) cap', by omega, by go_num, two_set hg2 _, ?_, hg1.setCell (Nat.le_refl _) _, ?_⟩
            · rw [HS.out, List.map_append, List.map_append, List.map_cons, List.map_nil, HZ.out]
              exact kept_set (b := w1.heap.size) HO.out (Nat.lt_succ_self _) _ _
            · have := (Array.getElem?_eq_some_iff.1 hg2).1
              simpa using this
          case measure => simp [intOf]; omega
        --DEV1
      · obtain rfl : k = n := by omega
        rw [List.take_of_length_le (by rw [HL.out]; exact Nat.le_refl _)] at own
        have hnice : ∀ x ∈ zs.map pick, Path.Nice x.data.toList := by
          intro x hx
          obtain ⟨z, _, rfl⟩ := List.mem_map.1 hx
          exact pick_nice z
        have hlen : (zs.map pick).length = k := by rw [List.length_map]; exact HL.out
        have hxn : (zs.map pick) = [] ↔ k = 0 := by rw [← hlen]; exact List.length_eq_zero_iff.symm
        generalize zs.map pick = xs at *
        obtain ⟨y1, y2, y3, y4⟩ := two hq
        have hT : Texts wr va k vc xs := (Row.owned own).2
        have hB := h1.below bx
        have hb2 : Below w.heap.size w wr := hb1.trans (bx.mono z1)
        have hzw := hb2.size
        clear hz1 hw HL h1 hb1 bx hvr
        rcases List.eq_nil_or_concat xs with rfl | ⟨ys, x, hyx⟩
        · obtain rfl := hxn.1 rfl
          go_wp2_with fail
          refine (psplit_none bs va 0 vc [] s1 _ hB hT (.inl rfl)).mono ?_
          rintro e w3 ⟨rfl, hb3⟩
          have z3 := hb3.size
          have hq3 := (hb3.block _ hx).trans hq
          have hB3 := hB.below hb3
          obtain ⟨p1, p2, p3, p4⟩ := two hq3
          clear y1 y2 y3 y4
          go_wp2_with fail
          have z0 : w1.heap.size ≤ wr.heap.size := Nat.le_of_lt hx
          refine (is_errv bs 114 _ (hB3.below ((Below.refl _ _).alloc (Nat.le_refl _) _)) (by omega) _).mono ?_
          rintro e w4 ⟨rfl, hb4⟩
          go_wp2
          go_ret
          exact ⟨rfl, hb2.trans ((hb3.trans (below_put (Below.refl _ _) (by omega) _ hb4)).mono hzw)⟩
        · rw [List.concat_eq_append] at hyx
          subst hyx
          have hkl : k = ys.length + 1 := by rw [← hlen]; simp
          subst hkl
          have hk0 : ¬ ((ys.length : Int) + 1 = 0) := by omega
          have hgt : ((ys ++ [x])[ys.length]?) = some x := by simp
          obtain ⟨b0, o0, rfl, hc0⟩ := hT.at (j := ys.length) (by simp)
          have hlast : (ys ++ [x])[ys.length]'(by simp) = x := by simp
          rw [hlast] at hc0
          by_cases hup : x = ⟨#[46, 46]⟩
          · subst hup
            go_wp2_with fail
            refine (psplit_none bs _ _ vc _ s1 _ hB hT (.inr ⟨ys, rfl⟩)).mono ?_
            rintro e w3 ⟨rfl, hb3⟩
            have z3 := hb3.size
            have hq3 := (hb3.block _ hx).trans hq
            have hB3 := hB.below hb3
            obtain ⟨p1, p2, p3, p4⟩ := two hq3
            have hc3 := Mem.kept hb3 hc0
            have g1 := World.block_lt_of_cell? _ _ hc3
            have g2 := World.block_lt_of_cell? _ _ p1
            have n1 : ∀ o, (w3.alloc o).cell? ⟨b0, o0 + ys.length, none⟩ = some (.string _) := fun o => by rw [World.cell?_alloc_old _ _ _ (Nat.ne_of_lt g1)]; exact hc3
            have n2 : ∀ o, (w3.alloc o).cell? ⟨w1.heap.size, 0, none⟩ = _ := fun o => (World.cell?_alloc_old _ _ _ (Nat.ne_of_lt g2)).trans p1
            clear y1 y2 y3 y4
            go_wp2_with fail
            have z0 : w1.heap.size ≤ wr.heap.size := Nat.le_of_lt hx
            refine (is_errv bs 114 _ (hB3.below ((Below.refl _ _).alloc (Nat.le_refl _) _)) (by omega) _).mono ?_
            rintro e w4 ⟨rfl, hb4⟩
            go_wp2
            go_ret
            exact ⟨rfl, hb2.trans ((hb3.trans (below_put (Below.refl _ _) (by omega) _ hb4)).mono hzw)⟩
          · go_wp2_with fail
            refine (psplit_ok _ vc ys x s1 _ hT hup (by omega)).mono ?_
            rintro e w3 ⟨v3, rfl, own3, hb3⟩
            have z3 := hb3.size
            have hq3 := (hb3.block _ hx).trans hq
            have hB3 := hB.below hb3
            obtain ⟨p1, p2, p3, p4⟩ := two hq3
            have hc3 := Mem.kept hb3 hc0
            have g1 := World.block_lt_of_cell? _ _ hc3
            have g2 := World.block_lt_of_cell? _ _ p1
            have n1 : ∀ o, (w3.alloc o).cell? ⟨b0, o0 + ys.length, none⟩ = some (.string _) := fun o => by rw [World.cell?_alloc_old _ _ _ (Nat.ne_of_lt g1)]; exact hc3
            have n2 : ∀ o, (w3.alloc o).cell? ⟨w1.heap.size, 0, none⟩ = _ := fun o => (World.cell?_alloc_old _ _ _ (Nat.ne_of_lt g2)).trans p1
            obtain ⟨a3, c3, rfl, hT3⟩ := texts_of own3
            have hne := ba_ne hup
            rw [show (⟨#[46, 46]⟩ : ByteArray).toList = [46, 46] from by rw [Lib.toList_data]] at hne
            clear y1 y2 y3 y4 own3
            go_wp2_with fail
            have hjl : (Lib.join (ls ys) [47]).length ≤ 1000 := by
              have := Path.join_length_le 24 (ls ys) fun z hz => by
                obtain ⟨y, hy, rfl⟩ := List.mem_map.1 hz
                exact (hnice y (by simp [hy])).2.2.2
              rw [List.length_map] at this
              have h7 : ys.length * (24 + 1) ≤ 7 * 25 := Nat.mul_le_mul (by omega) (Nat.le_refl _)
              omega
            have b4 := (Below.refl w3.heap.size w3).alloc (Nat.le_refl _) (.cells #[.slice a3 ys.length c3, .bool false] 26)
            refine (text_w a3 ys.length c3 ys false _ (hT3.below b4) (by omega) (by omega)).mono ?_
            rintro e w5 ⟨s, rfl, hs, hb5⟩
            go_wp2_with fail
            have hx24 := (hnice x (by simp)).2.2.2
            refine (pjoin_w s (some ⟨w5.heap.size, 0, none⟩) 1 1 [x] _ (texts_new w5 [x] 1 rfl (by decide)) (by
              rw [hs]
              unfold joined text
              simp only [List.length_append, List.length_cons, List.map_cons, List.map_nil, List.flatten_cons, List.flatten_nil, List.append_nil, Bool.false_eq_true, if_false, List.length_nil]
              omega)).mono ?_
            rintro e w' ⟨t, rfl, ht, rfl⟩
            obtain ⟨r1, r2, r3⟩ := rejoin hnice (by omega) (by rw [ht, hs])
            have k5 : Below w3.heap.size w3 w5 := b4.trans (hb5.mono (by simp))
            have hH5 : w5.heap[w3.heap.size]? = some (.cells #[.slice a3 ys.length c3, .bool false] 26) := (hb5.block _ (by simp)).trans (alloc_at rfl _)
            have hB5 := hB3.below k5
            have hT5 := (hT.below hb3).below k5
            have q5 := (k5.block _ g2).trans hq3
            have hc5 := Mem.kept k5 hc3
            have b5 := (Below.refl w5.heap.size w5).alloc (Nat.le_refl _) (.cells #[.string x] 9)
            have z5 := k5.size
            clear hs ht hjl b4 hb5 p1 p2 p3 p4 n1 n2
            go_wp2_with fail
            refine (parse_w bs t _ (hB5.below b5) (by omega)).mono ?_
            rintro e w6 ⟨v6, rfl, own6, hb6⟩
            rw [r1, show errv bs 0 = .nilIface from rfl]
            rw [r2] at own6
            obtain ⟨a6, c6, rfl, hT6⟩ := texts_of own6
            have hl6 : (ys ++ [x]).length = ys.length + 1 := by simp
            rw [hl6] at hT6
            rw [hl6]
            generalize slash t = st at *
            have k6 : Below w5.heap.size w5 w6 := b5.trans (hb6.mono (by simp))
            have z6 := k6.size
            have hH6 := (k6.block _ (Array.getElem?_eq_some_iff.1 hH5).1).trans hH5
            have q6 := (k6.block _ (by omega)).trans q5
            have hc6 := Mem.kept k6 hc5
            have hTq := hT5.below k6
            have b6 := (Below.refl w6.heap.size w6).alloc (Nat.le_refl _) (.cells #[.slice a6 (ys.length + 1) c6, .bool st] 26)
            have hH7 := alloc_old (o := .cells #[.slice a6 (ys.length + 1) c6, .bool st] 26) hH6
            have q7 := alloc_old (o := .cells #[.slice a6 (ys.length + 1) c6, .bool st] 26) q6
            obtain ⟨i1, i2, i3, i4⟩ := two hH7
            obtain ⟨j1, j2, j3, j4⟩ := two q7
            have hc7 := Mem.kept b6 hc6
            have xx : (x.toList == x.toList) = true := by simp
            have tq := hTq.below b6
            have t6 := hT6.below b6
            clear own6 hb6 hT5 hTq hT6 q6 q5 hH6 hH5 hc6 hc5 r1 r2 r3 hq3 hq hH7 q7 i3 i4 j3 j4
            go_wp2_with fail
            refine (same_w a6 _ c6 (ys ++ [x]) _ _ vc (ys ++ [x]) _ t6 tq).mono ?_
            rintro e w8 ⟨rfl, hb8⟩
            rw [decide_eq_true (show ys ++ [x] = ys ++ [x] from rfl)]
            have hbz : Below w.heap.size w w8 := hb2.trans ((hb3.trans ((k5.trans ((k6.trans ((b6.trans (hb8.mono (by simp))).mono z6)).mono z5)).mono z3)).mono hzw)
            go_wp2
            go_ret
            exact ⟨rfl, hbz⟩

theorem long (bs : List Addr) (a : Option Addr) (n cap : Nat) (sl : Bool) (w : World) (h : Bs w bs) (hn : n ≤ 9223372036854775807) (h8 : 8 < n) :
    Calls Tryd.prog 6 #[.slice a n cap, .bool sl] w fun e w' => e = .returned (.bool true) ∧ Below w.heap.size w w' := by
  go_enter Tryd.func6, Tryd.ntmps6
  go_wp2_with fail
  refine (first_w bs _ h).mono ?_
  rintro e w1 ⟨rfl, hb1⟩
  go_wp2
  go_ret
  exact ⟨rfl, hb1⟩

theorem walk (a0 : Option Addr) (len0 cap0 : Nat) (z0 : List Int) (a1 : Bool) (w : World) (hA : Err.All w gl) (w0 : IsRow .i64 w a0 len0 cap0 z0) :
    Calls Tryd.prog 6 #[.slice a0 len0 cap0, .bool a1] w fun e w' => e = .returned (.bool true) ∧ Below w.heap.size w w' := by
  obtain ⟨bs, hB⟩ := bs_of hA
  obtain ⟨l, hl, hwf⟩ := Ints.is_of w0
  rcases Nat.lt_or_ge 8 len0 with h | h
  · have := hl.bound; exact long bs a0 len0 cap0 a1 w hB (by omega) h
  · exact done bs a0 len0 cap0 l a1 w hB hl hwf h
end Go.Proofs.YtnngckdjkmknhaaDoor.pathSplits
