/- The walk of the law's told: a commit; breviaryworld.Number: a number's rest; What a row's listed error variables give a walk: the reading of the list. -/
import Derived.Test.YtbjfgdahfpfgdaaGreatDoorPageFaultsP22
import Derived.Test.YtbjfgdahfpfgdaaGreatDoorPageFaultsP23
import Derived.Test.YtbjfgdahfpfgdaaGreatDoorProg
import Derived.Test.YtbjfgdahfpfgdaaGreatDoorPageFaultsP1
import Derived.Test.YtbjfgdahfpfgdaaGreatDoorPageFaultsP2
namespace Go.Proofs.YtbjfgdahfpfgdaaGreatDoor.PgW
open Go Go.RowKit Go.Maps Go.Proofs.YtbjfgdahfpfgdaaGreatDoor.Mem Go.Proofs.YtbjfgdahfpfgdaaGreatDoor.MapsW Go.Proofs.YtbjfgdahfpfgdaaGreatDoor.SeeW Go.Proofs.YtbjfgdahfpfgdaaGreatDoor.DevG Go.Proofs.YtbjfgdahfpfgdaaGreatDoor.PairG Go.Proofs.YtbjfgdahfpfgdaaGreatDoor.RefsW Go.Proofs.YtbjfgdahfpfgdaaGreatDoor.PgP Go.Proofs.YtbjfgdahfpfgdaaGreatDoor.RootP Go.Proofs.YtbjfgdahfpfgdaaGreatDoor.RootW
set_option linter.unusedVariables false
set_option maxRecDepth 100000

theorem countP_succ (p : Nat → Bool) (k : Nat) : (List.range (k + 1)).countP p = (List.range k).countP p + (if p k then 1 else 0) := by
  rw [List.range_succ, List.countP_append, List.countP_cons, List.countP_nil]
  simp
set_option maxHeartbeats 6400000 in
theorem toldC_w (Y : List Nat) (bs : List Addr) (lo b nn c s d x : Nat) (V N : Int → Option (List Nat)) (ep : Nat) (M : Md) (i : Int) (a : Option Addr) (len cap : Nat) (w : World) (hP : Play Y bs w lo b nn c s d x V N ep M) (hn : nn < 650000) (hc : c < 690000) (hep : ep < 900000) (hb : 78 ≤ GeoW.half b) :
    Calls Tryz.prog 23 #[ptr s, ptr x, .agg #[.int .i64 3, .int .i64 i, .slice a len cap]] w fun e w' => e = .returned (.bool true) ∧ (∃ nn' c' ep' M', nn' ≤ nn + 2900 ∧ c' ≤ c + 600 ∧ ep' ≤ ep + 1 ∧ Play Y bs w' lo b nn' c' s d x (view N V) (fun _ => none) ep' M') ∧ Below lo w w' := by
  have hlo := hP.st.lo
  have hy := hP.mem
  have hlx := hP.lox
  have hP1 := hP.alloc (.cells #[.int .i64 3, .int .i64 i, .slice a len cap] 55)
  have b1 := (Below.refl w.heap.size w).alloc (Nat.le_refl _) (.cells #[.int .i64 3, .int .i64 i, .slice a len cap] 55)
  have hcd := heap_alloc_new w (.cells #[.int .i64 3, .int .i64 i, .slice a len cap] 55)
  have HB1 := hid (b1.mono hlo)
  have hdx : w.heap.size ≠ x := by have := hP.md.lt; omega
  have hmem : w.heap.size ∈ w.heap.size :: Y := by simp
  have hmemY : ∀ y ∈ Y, y ∈ w.heap.size :: Y := fun y h => List.mem_cons_of_mem _ h
  have hkt := hP.rel.cnt
  have hc256 := cnt_le256 N
  obtain ⟨cn, hcn⟩ : ∃ cn, cn = cnt N := ⟨_, rfl⟩
  have HP := hid hP
  have HP1 := hid hP1
  have hsu := countP_succ M.tou
  have h0 : (List.range 0).countP M.tou = 0 := rfl
  have hcl : ∀ k, (List.range k).countP M.tou ≤ k := fun k => by
    have := List.countP_le_length (p := M.tou) (l := List.range k)
    simpa using this
  generalize hg : (fun k => (List.range k).countP M.tou) = G at *
  have hG : ∀ k, (List.range k).countP M.tou = G k := fun k => by rw [← hg]
  simp only [hG] at hsu h0 hcl hkt
  have HSU := hid hsu
  have HCL := hid hcl
  have HKT := hid (hcn.trans hkt)
  have HCN := hid hcn
  clear hP hP1 hsu hcl hkt hg hG hcn hc256
  go_enter Tryz.func23, Tryz.ntmps23
  go_wp2_with fail
  generalize w.alloc (.cells #[.int .i64 3, .int .i64 i, .slice a len cap] 55) = w1 at *
  generalize w.heap.size = D at *
  have e0 : w1.cell? ⟨D, 0, none⟩ = some (.int .i64 3) := by simp [World.cell?, hcd]
  go_loopw [9, 10] (fun kv iv wr => ∃ k : Nat, k ≤ 30 ∧ iv = .int .i64 k ∧ kv = .int .i64 (G k : Nat) ∧ wr = w1) (fun _ iv _ => 30 - (RowKit.intOf iv).toNat)
  case atStart => exact ⟨0, by omega, rfl, by rw [h0]; rfl, rfl⟩
  case round =>
    obtain ⟨k, hk, rfl, rfl, hwr⟩ := hrel
    subst wr
    have hGk := HCL.out k
    by_cases hlt : k < 30
    · have t1 : w1.cell? ⟨x, 121 + k, none⟩ = some (.bool (M.tou k)) := by rw [HP1.out.md.at_ _ (by omega), M.val_tou hlt]
      have hs := HSU.out k
      have hkI : (k : Int) < 30 := by omega
      generalize M.tou k = tv at t1 hs
      cases tv with
      | true =>
        have HS := hid (show G (k + 1) = G k + 1 by simpa using hs)
        generalize G k = g at *
        clear hs
        go_wp2_with fail
        go_roundw
        case rel => exact ⟨k + 1, by omega, by go_num, by rw [HS.out]; go_num, by simp⟩
        case measure => simp [RowKit.intOf]; omega
      | false =>
        have HS := hid (show G (k + 1) = G k by simpa using hs)
        generalize G k = g at *
        clear hs
        go_wp2_with fail
        go_roundw
        case rel => exact ⟨k + 1, by omega, by go_num, by rw [HS.out], by simp⟩
        case measure => simp [RowKit.intOf]; omega
    · obtain rfl : k = 30 := by omega
      have hch := HP1.out.st.changed
      rw [← HCN.out] at hch
      rw [← HKT.out]
      have h0i : cn ≤ 256 := by rw [HCN.out]; exact cnt_le256 N
      clear hGk
      go_wp2_with fail
      refine hch.mono ?_
      rintro e w2 ⟨rfl, hw2⟩
      subst w2
      by_cases hz : cn = 0
      · have hN : N = Non := HP.out.rel.non (by rw [← HCN.out]; exact hz)
        have hco := HP1.out.st.commit0 (by rw [← HCN.out]; omega) (by omega) (by omega) (by rw [← HCN.out]; exact hz)
        rw [← HCN.out] at hco
        obtain ⟨N8, hN8⟩ : ∃ N8, N8 = nn + 8 * (cn + 7) + 700 := ⟨_, rfl⟩
        rw [← hN8] at hco
        have hN8' : N8 ≤ nn + 2900 := by omega
        have hcn0 : ¬ 0 < cn := by omega
        have HN := hid hN
        clear hN8 hz hN
        go_wp2_with fail
        refine hco.mono ?_
        rintro e w4 ⟨rfl, K3, b3, kp3⟩
        have M4 : MdAt w4 x { M with ep := ep } := by
          have := HP1.out.md.kp kp3 (hmemY x hy)
          have e := HP.out.rel.ep
          obtain ⟨a1, a2, a3, a4, a5, a6⟩ := M
          simp only at e
          subst e
          exact this
        have K4 : Store (D :: Y) bs w4 lo b N8 c s d (view N V) (fun _ => none) ep := by
          have hN := HN.out
          subst hN
          exact K3
        have HB4 := HB1.out.trans b3
        clear hco b3 kp3 K3
        go_upto_region 32 with fail
        obtain ⟨L1, C1⟩ := M4.nowWas
        have HX4 := hid (And.intro K4 (And.intro M4 HB4))
        have hlo4 := K4.lo
        clear K4 M4 HB4
        go_upto_region 33 with (first | (refine wpList_load_mid rfl 50 _ rfl x 0 rfl L1 _ C1.rg Tryz.underlying50 rfl (by rw [C1.len]; exact uA) ?_) | (refine wpList_store_mid rfl 50 _ _ rfl x 30 L1.toArray rfl rfl C1.th (by simpa [C1.len] using uA) C1.one ?_))
        have M5 := C1.md
        have T5 := C1.tn
        generalize w4.setCells x 30 L1 = w5 at *
        have K5 := HX4.out.1.cell HX4.out.2.1 (hmemY x hy) hlx T5
        obtain ⟨L2, C2⟩ := M5.onHad
        have HX5 := hid (And.intro K5 (And.intro M5 T5))
        clear K5 M5 T5 C1
        go_upto_region 37 with (first | (refine wpList_load_mid rfl 51 _ rfl x 60 rfl L2 _ C2.rg Tryz.underlying51 rfl (by rw [C2.len]; exact uB) ?_) | (refine wpList_store_mid rfl 51 _ _ rfl x 90 L2.toArray rfl rfl C2.th (by simpa [C2.len] using uB) C2.one ?_))
        have M6 := C2.md
        have T6 := C2.tn
        generalize w5.setCells x 90 L2 = w6 at *
        have K6 := HX5.out.1.cell HX5.out.2.1 (hmemY x hy) hlx T6
        obtain ⟨th3, one3, M7, T7⟩ := M6.noTou
        have HX6 := hid (And.intro K6 (And.intro M6 T6))
        clear K6 M6 T6 C2
        go_upto_region 38 with (refine wpList_store_mid rfl 51 _ _ rfl x 121 (List.replicate 30 (Value.bool false)).toArray rfl rfl th3 (by simpa using uB) one3 ?_)
        generalize w6.setCells x 121 (List.replicate 30 (Value.bool false)) = w7 at *
        have K7 := HX6.out.1.cell HX6.out.2.1 (hmemY x hy) hlx T7
        have hc0 := K7.changed
        have h00 : cnt (fun _ : Int => (none : Option (List Nat))) = 0 := by decide
        rw [h00] at hc0
        have HX7 := hid (And.intro K7 (And.intro M7 T7))
        clear K7 M7 T7 th3 one3 h00
        go_wp2_with fail
        refine hc0.mono ?_
        rintro e w8 ⟨rfl, hw8⟩
        subst w8
        go_wp2_with fail
        go_ret
        have tl : ∀ {u v : World}, Turn [x] u v → lo ≤ u.heap.size → Below lo u v := fun t h => t.below h (fun y hy' => by rw [List.mem_singleton.1 hy']; exact hlx)
        have z5 := HX5.out.2.2.size
        have z6 := HX6.out.2.2.size
        exact ⟨rfl, ⟨_, _, _, _, by omega, by omega, by omega, ⟨HX7.out.1.sub hmemY, HX7.out.2.1, HP.out.rel.commit (ep), hy, hlx⟩⟩, ((HX4.out.2.2.trans (tl HX5.out.2.2 hlo4)).trans (tl HX6.out.2.2 (by omega))).trans (tl HX7.out.2.2 (by omega))⟩
      · have hco := HP1.out.st.commit (q := 30) (by rw [← HCN.out]; omega) (by omega) (by omega) (by rw [← HCN.out]; exact hz) HP.out.rel.cntV HP.out.rel.cntW (by omega)
        rw [← HCN.out] at hco
        obtain ⟨N8, hN8⟩ : ∃ N8, N8 = nn + 8 * (cn + 7) + 700 := ⟨_, rfl⟩
        rw [← hN8] at hco
        have hN8' : N8 ≤ nn + 2900 := by omega
        have hcn0 : 0 < cn := by omega
        clear hN8
        go_wp2_with fail
        refine hco.mono ?_
        rintro e w3 ⟨rfl, ⟨c3, hc3, K3⟩, b3, kp3⟩
        have M3 := HP1.out.md.kp kp3 (hmemY x hy)
        have D3 := (kp3.blk D hmem).trans hcd
        have HB3 := hid (HB1.out.trans b3)
        have x120 : w3.cell? ⟨x, 120, none⟩ = some (.int .i64 (ep : Int)) := by rw [M3.at_ _ (by omega), M.val_ep, HP.out.rel.ep]
        have fz := M3.frozen
        have f120 := fz 120
        have fe : IntKind.i64.wrap ((ep : Int) + 1) = ((ep + 1 : Nat) : Int) := by rw [IntKind.wrap_i64]; omega
        have hc3' : c3 ≤ c + 600 := by omega
        have HK3 := hid K3
        have HM3 := hid M3
        have hlo3 := K3.lo
        clear hco b3 kp3 K3 fz hz
        go_upto_region 32 with fail
        have M4 := HM3.out.setEp (ep + 1)
        have T4 : Turn [x] w3 (w3.setCell ⟨x, 120, none⟩ (.int .i64 ((ep + 1 : Nat) : Int))) := Turn.setCell w3 x 120 _ (by simp)
        rw [Int.natCast_add, Int.natCast_one] at M4 T4
        generalize w3.setCell ⟨x, 120, none⟩ (.int .i64 ((ep : Int) + 1)) = w4 at *
        have K4 := HK3.out.cell HM3.out (hmemY x hy) hlx T4
        have HB4 := HB3.out.trans (T4.below hlo3 (fun y hy' => by rw [List.mem_singleton.1 hy']; exact hlx))
        clear T4 x120 f120 M3 D3
        obtain ⟨L1, C1⟩ := M4.nowWas
        have HX4 := hid (And.intro K4 (And.intro M4 HB4))
        have hlo4 := K4.lo
        clear K4 M4 HB4
        go_upto_region 33 with (first | (refine wpList_load_mid rfl 50 _ rfl x 0 rfl L1 _ C1.rg Tryz.underlying50 rfl (by rw [C1.len]; exact uA) ?_) | (refine wpList_store_mid rfl 50 _ _ rfl x 30 L1.toArray rfl rfl C1.th (by simpa [C1.len] using uA) C1.one ?_))
        have M5 := C1.md
        have T5 := C1.tn
        generalize w4.setCells x 30 L1 = w5 at *
        have K5 := HX4.out.1.cell HX4.out.2.1 (hmemY x hy) hlx T5
        obtain ⟨L2, C2⟩ := M5.onHad
        have HX5 := hid (And.intro K5 (And.intro M5 T5))
        clear K5 M5 T5 C1
        go_upto_region 37 with (first | (refine wpList_load_mid rfl 51 _ rfl x 60 rfl L2 _ C2.rg Tryz.underlying51 rfl (by rw [C2.len]; exact uB) ?_) | (refine wpList_store_mid rfl 51 _ _ rfl x 90 L2.toArray rfl rfl C2.th (by simpa [C2.len] using uB) C2.one ?_))
        have M6 := C2.md
        have T6 := C2.tn
        generalize w5.setCells x 90 L2 = w6 at *
        have K6 := HX5.out.1.cell HX5.out.2.1 (hmemY x hy) hlx T6
        obtain ⟨th3, one3, M7, T7⟩ := M6.noTou
        have HX6 := hid (And.intro K6 (And.intro M6 T6))
        clear K6 M6 T6 C2
        go_upto_region 38 with (refine wpList_store_mid rfl 51 _ _ rfl x 121 (List.replicate 30 (Value.bool false)).toArray rfl rfl th3 (by simpa using uB) one3 ?_)
        generalize w6.setCells x 121 (List.replicate 30 (Value.bool false)) = w7 at *
        have K7 := HX6.out.1.cell HX6.out.2.1 (hmemY x hy) hlx T7
        have hc0 := K7.changed
        have h00 : cnt (fun _ : Int => (none : Option (List Nat))) = 0 := by decide
        rw [h00] at hc0
        have HX7 := hid (And.intro K7 (And.intro M7 T7))
        clear K7 M7 T7 th3 one3 h00
        go_wp2_with fail
        refine hc0.mono ?_
        rintro e w8 ⟨rfl, hw8⟩
        subst w8
        go_wp2_with fail
        go_ret
        have tl : ∀ {u v : World}, Turn [x] u v → lo ≤ u.heap.size → Below lo u v := fun t h => t.below h (fun y hy' => by rw [List.mem_singleton.1 hy']; exact hlx)
        have z5 := HX5.out.2.2.size
        have z6 := HX6.out.2.2.size
        exact ⟨rfl, ⟨_, _, _, _, by omega, by omega, by omega, ⟨HX7.out.1.sub hmemY, HX7.out.2.1, HP.out.rel.commit (ep + 1), hy, hlx⟩⟩, ((HX4.out.2.2.trans (tl HX5.out.2.2 hlo4)).trans (tl HX6.out.2.2 (by omega))).trans (tl HX7.out.2.2 (by omega))⟩
end Go.Proofs.YtbjfgdahfpfgdaaGreatDoor.PgW

namespace Go.Proofs.YtbjfgdahfpfgdaaGreatDoor.NumW
open Go Go.RowKit Go.Proofs.YtbjfgdahfpfgdaaGreatDoor.Mem
set_option linter.unusedVariables false
set_option maxRecDepth 100000

theorem tmod_pos {n b : Int} (hb : 0 < b) (h : ¬ n.tmod b < 0) : n.tmod b = n % b := by
  have h2 := Int.tmod_lt_of_pos n hb
  have h3 : n.tmod b % b = n % b := Int.emod_eq_emod_iff_emod_sub_eq_zero.2 (by
    have := Int.mul_tdiv_add_tmod n b
    have e : n.tmod b - n = b * (- n.tdiv b) := by rw [Int.mul_neg]; omega
    rw [e]; exact Int.mul_emod_right _ _)
  rw [← h3, Int.emod_eq_of_lt (by omega) h2]
theorem tmod_neg {n b : Int} (hb : 0 < b) (h : n.tmod b < 0) : n.tmod b + b = n % b := by
  have h1 : -b < n.tmod b := by
    have := Int.lt_tmod_of_pos n hb
    omega
  have h3 : (n.tmod b + b) % b = n % b := Int.emod_eq_emod_iff_emod_sub_eq_zero.2 (by
    have := Int.mul_tdiv_add_tmod n b
    have e : n.tmod b + b - n = b * (1 - n.tdiv b) := by rw [Int.mul_sub]; omega
    rw [e]; exact Int.mul_emod_right _ _)
  rw [← h3, Int.emod_eq_of_lt (by omega) (by omega)]

theorem number_w (n b : Int) (w : World) (hb : 0 < b) (hb2 : b ≤ 9223372036854775807) (h1 : -9223372036854775808 ≤ n) (h2 : n ≤ 9223372036854775807) :
    Calls Tryz.prog 12 #[.int .i64 n, .int .i64 b] w fun e w' => e = .returned (.int .i64 (n % b)) ∧ w = w' := by
  have q1 := Int.tmod_lt_of_pos n hb
  have q2 := Int.lt_tmod_of_pos n hb
  by_cases h : n.tmod b < 0
  · have HE := hid (tmod_neg hb h)
    go_enter Tryz.func12, Tryz.ntmps12
    go_wp2
    go_ret
    exact ⟨ret_int HE.out, rfl⟩
  · have HE := hid (tmod_pos hb h)
    go_enter Tryz.func12, Tryz.ntmps12
    go_wp2
    go_ret
    exact ⟨ret_int HE.out, rfl⟩
end Go.Proofs.YtbjfgdahfpfgdaaGreatDoor.NumW

namespace Go.Proofs.YtbjfgdahfpfgdaaGreatDoor.Err
open Go Go.RowKit Go.ChangeShapes
set_option maxRecDepth 100000

/-- an error that was made of a text, as a listed datum -/
def datum (t : List UInt8) : DataW Unit := .iface "*errors.errorString" (.ptr (.agg [.lit (.string t)]))
theorem of_vars {W : World} : ∀ (l : List (String × List UInt8)) (ps : List MemPlace), DataW.LaidVars Tryz.prog W (l.map fun x => (x.1, datum x.2)) ps →
    (∀ b off, MemPlace.cell b off ∈ ps → (∃ c t, W.heap[b]? = some (.cells c t (0, 0))) ∧ ∀ u v, W.cell? ⟨b, off, none⟩ = some (.iface u v) → Value.okWide Tryz.prog W .any 0 u v) →
    (∀ x ∈ l, ∃ g, Tryz.prog.globalNamed x.1 = some g ∧ (Tryz.prog.globals[g]?).map (·.type) = some 33) →
    ∃ bs : List Addr, bs.length = l.length ∧ (bs.map fun a => MemPlace.cell a.block a.off).Sublist ps ∧
      ∀ (i : Nat) (x : String × List UInt8) (g : Nat), l[i]? = some x → Tryz.prog.globalNamed x.1 = some g → ∃ a, bs[i]? = some a ∧ At W g a := by
  intro l
  induction l with
  | nil => intro ps _ _ _; exact ⟨[], rfl, List.nil_sublist _, fun i x g h => by simp at h⟩
  | cons x r ih =>
    intro ps hv hok hg
    obtain ⟨g0, t0, cs0, f0, p0, q0, hg0, ht0, hv0, hd0, hq, rfl⟩ := hv
    obtain ⟨g, hgn, hgt⟩ := hg x (by simp)
    obtain rfl := Option.some.inj (hgn.symm.trans hg0)
    obtain rfl := Option.some.inj (hgt.symm.trans ht0)
    obtain ⟨l0⟩ := cs0
    have ok0 : ∀ u v, l0 = [.iface u v] → Value.okWide Tryz.prog W .any 0 u v := fun u v e => by
      subst e
      exact (hok g 0 (by simp [MemPlace.row])).2 u v (by simpa using World.var?_cell hgn hv0 0)
    obtain ⟨a0, s0, hl0, _, _, _, rfl⟩ := errorString_of_trod Tryz.underlying33 hrow Tryz.underlying247 Tryz.underlying263 rfl rfl Tryz.underlying9 (by kernel_rfl) (by kernel_rfl) hd0 ok0
    subst hl0
    obtain ⟨bs, hlen, hsub, hat⟩ := ih q0 hq (fun b off hm => hok b off (List.mem_append_right _ hm)) (fun y hy => hg y (by simp [hy]))
    refine ⟨a0 :: bs, by simp [hlen], ?_, ?_⟩
    · have h1 : MemPlace.row a0 1 = [MemPlace.cell a0.block a0.off] := by simp [MemPlace.row]
      rw [h1, List.append_assoc]
      exact List.Sublist.trans (by simpa using hsub) (List.sublist_append_right _ _)
    · intro i y g' hi hg'
      cases i with
      | zero =>
        simp at hi
        subst hi
        obtain rfl := Option.some.inj (hgn.symm.trans hg')
        exact ⟨a0, rfl, by simpa using World.var?_cell hgn hv0 0, (hok a0.block a0.off (by simp [MemPlace.row])).1⟩
      | succ i => exact hat i y g' (by simpa using hi) hg'

/-- of a list's variables some alone -/
theorem sub_vars {P : Program} {W : World} : ∀ {l l' : List (String × DataW Unit)}, l'.Sublist l → ∀ (ps : List MemPlace), DataW.LaidVars P W l ps → ∃ ps', DataW.LaidVars P W l' ps' ∧ ps'.Sublist ps := by
  intro l l' h
  induction h with
  | slnil => intro ps hv; exact ⟨ps, hv, List.Sublist.refl _⟩
  | cons a _ ih =>
    intro ps hv
    obtain ⟨g0, t0, cs0, f0, p0, q0, hg0, ht0, hv0, hd0, hq, rfl⟩ := hv
    obtain ⟨ps', h1, h2⟩ := ih q0 hq
    exact ⟨ps', h1, h2.trans (List.sublist_append_right _ _)⟩
  | cons_cons a _ ih =>
    intro ps hv
    obtain ⟨g0, t0, cs0, f0, p0, q0, hg0, ht0, hv0, hd0, hq, rfl⟩ := hv
    obtain ⟨ps', h1, h2⟩ := ih q0 hq
    exact ⟨_, ⟨g0, t0, cs0, f0, p0, ps', hg0, ht0, hv0, hd0, h1, rfl⟩, List.Sublist.append (List.Sublist.refl _) h2⟩
/-- the listed errors, where other variables are listed beside them -/
theorem all_of_sub {W : World} (l : List (String × List UInt8)) (gl : List Nat) (laid : List (String × DataW Unit)) (hl : (l.map fun x => (x.1, datum x.2)).Sublist laid) (hp : (laid.all fun x => x.2.handleName?.isNone) = true) (h : laidMetH Tryz.prog laid W)
    (hg : ∀ x ∈ l, ∃ g, Tryz.prog.globalNamed x.1 = some g ∧ (Tryz.prog.globals[g]?).map (·.type) = some 33)
    (hgl : (l.map fun x => Tryz.prog.globalNamed x.1) = gl.map some) : All W gl := by
  rw [MakeChecks.laidMetH_plain _ _ _ hp] at h
  obtain ⟨ps, hv, hnd, hrows⟩ := h
  obtain ⟨ps', hv', hsub⟩ := sub_vars hl ps hv
  obtain ⟨bs, h1, h2, h3⟩ := of_vars l ps' hv' (fun b off hm => hrows b off (hsub.subset hm)) hg
  have hn := (hnd.sublist hsub).sublist h2
  have hlen := congrArg List.length hgl
  simp only [List.length_map] at hlen
  refine ⟨bs, by omega, (List.pairwise_map.1 hn).imp fun h e => h (by rw [e]), fun i g hi => ?_⟩
  have hlt : i < gl.length := (List.getElem?_eq_some_iff.1 hi).1
  have hlt2 : i < l.length := by omega
  have e := congrArg (fun z => z[i]?) hgl
  simp only [List.getElem?_map, hi, Option.map_some] at e
  rw [List.getElem?_eq_getElem hlt2] at e
  simp only [Option.map_some, Option.some.injEq] at e
  exact h3 i _ g (List.getElem?_eq_getElem hlt2) e
end Go.Proofs.YtbjfgdahfpfgdaaGreatDoor.Err
