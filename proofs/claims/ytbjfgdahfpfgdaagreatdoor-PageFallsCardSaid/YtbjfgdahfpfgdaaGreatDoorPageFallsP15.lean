/- The law's model: an array of it laid over another one; The walk of the law's told: a commit; The walk of the law's told: all else: taken back; The law's told, whatever it tells; What lies beside a store whose power goes: the law's models. -/
import Derived.Test.YtbjfgdahfpfgdaaGreatDoorPageFallsP13
import Derived.Deep.MidRow
import Derived.Test.YtbjfgdahfpfgdaaGreatDoorPageFallsP14
namespace Go.Proofs.YtbjfgdahfpfgdaaGreatDoor.PgW
open Go Go.RowKit Go.Maps Go.Proofs.YtbjfgdahfpfgdaaGreatDoor.Mem Go.Proofs.YtbjfgdahfpfgdaaGreatDoor.MapsW Go.Proofs.YtbjfgdahfpfgdaaGreatDoor.SeeW Go.Proofs.YtbjfgdahfpfgdaaGreatDoor.DevG Go.Proofs.YtbjfgdahfpfgdaaGreatDoor.PgP
set_option linter.unusedVariables false
set_option maxRecDepth 100000

/-- thirty cells from o on are laid from p on: what the walk meets, and what is then -/
structure Copied (w : World) (x : Nat) (o p : Nat) (Ls : List Value) (M' : Md) : Prop where
  rg : w.rangeAt x o Ls
  th : w.there x p Ls.toArray.size
  len : Ls.length = 30
  one : Ls.toArray.all (·.oneCell') = true
  md : MdAt (w.setCells x p Ls) x M'
  tn : Turn [x] w (w.setCells x p Ls)
theorem MdAt.copied {w : World} {x : Nat} {M M' : Md} (h : MdAt w x M) (o p : Nat) (ho : o + 30 ≤ 151) (hp : p + 30 ≤ 151) (f : Nat → Value)
    (hf : ∀ i, i < 30 → M.val (o + i) = f i) (hv : ∀ i, i < 30 → M'.val (p + i) = f i) (h1 : ∀ i, i < 30 → (f i).oneCell' = true) (hM : ∀ j, j < 151 → (j < p ∨ p + 30 ≤ j) → M'.val j = M.val j)
    (hn : ∀ i, i < 30 → Nums .u8 w (M'.now i).a (M'.now i).l.length (M'.now i).cap (M'.now i).l) (hw : ∀ i, i < 30 → Nums .u8 w (M'.was i).a (M'.was i).l.length (M'.was i).cap (M'.was i).l) : ∃ Ls, Copied w x o p Ls M' := by
  refine ⟨(List.range 30).map f, fun j v hj => ?_, fun j hj => ?_, by simp, all_oneCell_toArray fun v hv' => ?_, ?_, turn_setCells x _ p w⟩
  · obtain ⟨hj1, hj2⟩ := List.getElem?_eq_some_iff.1 hj
    have hj3 : j < 30 := by simpa using hj1
    rw [h.at_ (o + j) (by omega), hf j hj3]
    simp at hj2
    rw [hj2]
  · have hj3 : j < 30 := by simpa using hj
    exact ⟨by rw [h.at_ (p + j) (by omega)]; rfl, h.frozen _⟩
  · obtain ⟨i, hi', rfl⟩ := List.mem_map.1 hv'
    exact h1 i (List.mem_range.1 hi')
  · refine h.set30 p _ (by simp) (fun i hi' => ?_) hM hp hn hw
    rw [hv i hi']
    simp
theorem uA : (Tryz.prog.info? 50).map (·.size) = some 30 := by kernel_rfl
theorem uB : (Tryz.prog.info? 51).map (·.size) = some 30 := by kernel_rfl
theorem MdAt.nowWas {w : World} {x : Nat} {M : Md} (h : MdAt w x M) : ∃ Ls, Copied w x 0 30 Ls { M with was := M.now } := by
  refine h.copied 0 30 (by omega) (by omega) (fun i => (M.now i).v) (fun i hi => by rw [Nat.zero_add, M.val_now hi]) (fun i hi => Md.val_was _ hi) (fun i _ => rfl) (fun j hj hne => ?_) h.now h.now
  unfold Md.val
  split
  · rfl
  · have e : ¬ j < 60 := by omega
    simp only [if_neg e]
theorem MdAt.wasNow {w : World} {x : Nat} {M : Md} (h : MdAt w x M) : ∃ Ls, Copied w x 30 0 Ls { M with now := M.was } := by
  refine h.copied 30 0 (by omega) (by omega) (fun i => (M.was i).v) (fun i hi => M.val_was hi) (fun i hi => by rw [Nat.zero_add, Md.val_now _ hi]) (fun i _ => rfl) (fun j hj hne => ?_) h.was h.was
  unfold Md.val
  have e : ¬ j < 30 := by omega
  simp only [if_neg e]
theorem MdAt.onHad {w : World} {x : Nat} {M : Md} (h : MdAt w x M) : ∃ Ls, Copied w x 60 90 Ls { M with had := M.on } := by
  refine h.copied 60 90 (by omega) (by omega) (fun i => .bool (M.on i)) (fun i hi => M.val_on hi) (fun i hi => Md.val_had _ hi) (fun i _ => rfl) (fun j hj hne => ?_) h.now h.was
  unfold Md.val
  split <;> try rfl
  split <;> try rfl
  split <;> try rfl
  have e : ¬ j < 120 := by omega
  simp only [if_neg e]
theorem MdAt.hadOn {w : World} {x : Nat} {M : Md} (h : MdAt w x M) : ∃ Ls, Copied w x 90 60 Ls { M with on := M.had } := by
  refine h.copied 90 60 (by omega) (by omega) (fun i => .bool (M.had i)) (fun i hi => M.val_had hi) (fun i hi => Md.val_on _ hi) (fun i _ => rfl) (fun j hj hne => ?_) h.now h.was
  unfold Md.val
  split <;> try rfl
  split <;> try rfl
  have e : ¬ j < 90 := by omega
  simp only [if_neg e]
/-- the touched ones are forgotten -/
theorem MdAt.noTou {w : World} {x : Nat} {M : Md} (h : MdAt w x M) : (w.there x 121 (List.replicate 30 (Value.bool false)).toArray.size ∧ (List.replicate 30 (Value.bool false)).toArray.all (·.oneCell') = true ∧ MdAt (w.setCells x 121 (List.replicate 30 (Value.bool false))) x { M with tou := fun _ => false } ∧ Turn [x] w (w.setCells x 121 (List.replicate 30 (Value.bool false)))) := by
  refine ⟨fun j hj => ?_, all_oneCell_toArray fun v hv => by rw [(List.mem_replicate.1 hv).2]; rfl, ?_, turn_setCells x _ _ w⟩
  · have hj3 : j < 30 := by simpa using hj
    exact ⟨by rw [h.at_ (121 + j) (by omega)]; rfl, h.frozen _⟩
  · refine h.set30 121 _ (by simp) (fun i hi' => ?_) (fun j hj hne => ?_) (by omega) h.now h.was
    · rw [Md.val_tou _ hi', List.getElem_replicate]
    · unfold Md.val
      split <;> try rfl
      split <;> try rfl
      split <;> try rfl
      split <;> try rfl
      rw [if_pos (by omega), if_pos (by omega)]
end Go.Proofs.YtbjfgdahfpfgdaaGreatDoor.PgW

namespace Go.Proofs.YtbjfgdahfpfgdaaGreatDoor.PgW
open Go Go.RowKit Go.Maps Go.Proofs.YtbjfgdahfpfgdaaGreatDoor.Mem Go.Proofs.YtbjfgdahfpfgdaaGreatDoor.MapsW Go.Proofs.YtbjfgdahfpfgdaaGreatDoor.SeeW Go.Proofs.YtbjfgdahfpfgdaaGreatDoor.DevG Go.Proofs.YtbjfgdahfpfgdaaGreatDoor.PairG Go.Proofs.YtbjfgdahfpfgdaaGreatDoor.RefsW Go.Proofs.YtbjfgdahfpfgdaaGreatDoor.PgP Go.Proofs.YtbjfgdahfpfgdaaGreatDoor.RootP Go.Proofs.YtbjfgdahfpfgdaaGreatDoor.RootW
set_option linter.unusedVariables false
set_option maxRecDepth 100000

theorem countP_succ (p : Nat → Bool) (k : Nat) : (List.range (k + 1)).countP p = (List.range k).countP p + (if p k then 1 else 0) := by
  rw [List.range_succ, List.countP_append, List.countP_cons, List.countP_nil]
  simp
set_option maxHeartbeats 6400000 in
theorem toldC_w (Y : List Nat) (bs : List Addr) (lo b nn c s d x : Nat) (V N : Int → Option (List Nat)) (ep : Nat) (M : Md) (i : Int) (a : Option Addr) (len cap : Nat) (w : World) (hP : Play Y bs w lo b nn c s d x V N ep M) (hn : nn < 650000) (hc : c < 690000) (hep : ep < 900000) (hb : 78 ≤ GeoW.half b) :
    Calls Tryz.prog 23 #[ptr s, ptr x, .agg #[.int .i64 3, .int .i64 i, .slice a len cap]] w fun e w' => e = .returned (.bool true) ∧ (∃ nn' c' ep' M', nn' ≤ nn + 2900 ∧ c' ≤ c + 600 ∧ ep' ≤ ep + 1 ∧ Play Y bs w' lo b nn' c' s d x (view N V) (fun _ => none) ep' M') ∧ Below lo w w' := by
  have hlo := hP.st.lo
  have hy := hP.mem
  have hlx := hP.lox
  have hP1 := hP.alloc (.cells #[.int .i64 3, .int .i64 i, .slice a len cap] 55)
  have b1 := (Below.refl w.heap.size w).alloc (Nat.le_refl _) (.cells #[.int .i64 3, .int .i64 i, .slice a len cap] 55)
  have hcd := heap_alloc_new w (.cells #[.int .i64 3, .int .i64 i, .slice a len cap] 55)
  have HB1 := hid (b1.mono hlo)
  have hdx : w.heap.size ≠ x := by have := hP.md.lt; omega
  have hmem : w.heap.size ∈ w.heap.size :: Y := by simp
  have hmemY : ∀ y ∈ Y, y ∈ w.heap.size :: Y := fun y h => List.mem_cons_of_mem _ h
  have hkt := hP.rel.cnt
  have hc256 := cnt_le256 N
  obtain ⟨cn, hcn⟩ : ∃ cn, cn = cnt N := ⟨_, rfl⟩
  have HP := hid hP
  have HP1 := hid hP1
  have hsu := countP_succ M.tou
  have h0 : (List.range 0).countP M.tou = 0 := rfl
  have hcl : ∀ k, (List.range k).countP M.tou ≤ k := fun k => by
    have := List.countP_le_length (p := M.tou) (l := List.range k)
    simpa using this
  generalize hg : (fun k => (List.range k).countP M.tou) = G at *
  have hG : ∀ k, (List.range k).countP M.tou = G k := fun k => by rw [← hg]
  simp only [hG] at hsu h0 hcl hkt
  have HSU := hid hsu
  have HCL := hid hcl
  have HKT := hid (hcn.trans hkt)
  have HCN := hid hcn
  clear hP hP1 hsu hcl hkt hg hG hcn hc256
  go_enter Tryz.func23, Tryz.ntmps23
  go_wp2_with fail
  generalize w.alloc (.cells #[.int .i64 3, .int .i64 i, .slice a len cap] 55) = w1 at *
  generalize w.heap.size = D at *
  have e0 : w1.cell? ⟨D, 0, none⟩ = some (.int .i64 3) := by simp [World.cell?, hcd]
  go_loopw [9, 10] (fun kv iv wr => ∃ k : Nat, k ≤ 30 ∧ iv = .int .i64 k ∧ kv = .int .i64 (G k : Nat) ∧ wr = w1) (fun _ iv _ => 30 - (RowKit.intOf iv).toNat)
  case atStart => exact ⟨0, by omega, rfl, by rw [h0]; rfl, rfl⟩
  case round =>
    obtain ⟨k, hk, rfl, rfl, hwr⟩ := hrel
    subst wr
    have hGk := HCL.out k
    by_cases hlt : k < 30
    · have t1 : w1.cell? ⟨x, 121 + k, none⟩ = some (.bool (M.tou k)) := by rw [HP1.out.md.at_ _ (by omega), M.val_tou hlt]
      have hs := HSU.out k
      have hkI : (k : Int) < 30 := by omega
      generalize M.tou k = tv at t1 hs
      cases tv with
      | true =>
        have HS := hid (show G (k + 1) = G k + 1 by simpa using hs)
        generalize G k = g at *
        clear hs
        go_wp2_with fail
        go_roundw
        case rel => exact ⟨k + 1, by omega, by go_num, by rw [HS.out]; go_num, by simp⟩
        case measure => simp [RowKit.intOf]; omega
      | false =>
        have HS := hid (show G (k + 1) = G k by simpa using hs)
        generalize G k = g at *
        clear hs
        go_wp2_with fail
        go_roundw
        case rel => exact ⟨k + 1, by omega, by go_num, by rw [HS.out], by simp⟩
        case measure => simp [RowKit.intOf]; omega
    · obtain rfl : k = 30 := by omega
      have hch := HP1.out.st.changed
      rw [← HCN.out] at hch
      rw [← HKT.out]
      have h0i : cn ≤ 256 := by rw [HCN.out]; exact cnt_le256 N
      clear hGk
      go_wp2_with fail
      refine hch.mono ?_
      rintro e w2 ⟨rfl, hw2⟩
      subst w2
      by_cases hz : cn = 0
      · have hN : N = Non := HP.out.rel.non (by rw [← HCN.out]; exact hz)
        have hco := HP1.out.st.commit0 (by rw [← HCN.out]; omega) (by omega) (by omega) (by rw [← HCN.out]; exact hz)
        rw [← HCN.out] at hco
        obtain ⟨N8, hN8⟩ : ∃ N8, N8 = nn + 8 * (cn + 7) + 700 := ⟨_, rfl⟩
        rw [← hN8] at hco
        have hN8' : N8 ≤ nn + 2900 := by omega
        have hcn0 : ¬ 0 < cn := by omega
        have HN := hid hN
        clear hN8 hz hN
        go_wp2_with fail
        refine hco.mono ?_
        rintro e w4 ⟨rfl, K3, b3, kp3⟩
        have M4 : MdAt w4 x { M with ep := ep } := by
          have := HP1.out.md.kp kp3 (hmemY x hy)
          have e := HP.out.rel.ep
          obtain ⟨a1, a2, a3, a4, a5, a6⟩ := M
          simp only at e
          subst e
          exact this
        have K4 : Store (D :: Y) bs w4 lo b N8 c s d (view N V) (fun _ => none) ep := by
          have hN := HN.out
          subst hN
          exact K3
        have HB4 := HB1.out.trans b3
        clear hco b3 kp3 K3
        go_upto_region 32 with fail
        obtain ⟨L1, C1⟩ := M4.nowWas
        have HX4 := hid (And.intro K4 (And.intro M4 HB4))
        have hlo4 := K4.lo
        clear K4 M4 HB4
        go_upto_region 33 with (first | (refine wpList_load_mid rfl 50 _ rfl x 0 rfl L1 _ C1.rg Tryz.underlying50 rfl (by rw [C1.len]; exact uA) ?_) | (refine wpList_store_mid rfl 50 _ _ rfl x 30 L1.toArray rfl rfl C1.th (by simpa [C1.len] using uA) C1.one ?_))
        have M5 := C1.md
        have T5 := C1.tn
        generalize w4.setCells x 30 L1 = w5 at *
        have K5 := HX4.out.1.cell HX4.out.2.1 (hmemY x hy) hlx T5
        obtain ⟨L2, C2⟩ := M5.onHad
        have HX5 := hid (And.intro K5 (And.intro M5 T5))
        clear K5 M5 T5 C1
        go_upto_region 37 with (first | (refine wpList_load_mid rfl 51 _ rfl x 60 rfl L2 _ C2.rg Tryz.underlying51 rfl (by rw [C2.len]; exact uB) ?_) | (refine wpList_store_mid rfl 51 _ _ rfl x 90 L2.toArray rfl rfl C2.th (by simpa [C2.len] using uB) C2.one ?_))
        have M6 := C2.md
        have T6 := C2.tn
        generalize w5.setCells x 90 L2 = w6 at *
        have K6 := HX5.out.1.cell HX5.out.2.1 (hmemY x hy) hlx T6
        obtain ⟨th3, one3, M7, T7⟩ := M6.noTou
        have HX6 := hid (And.intro K6 (And.intro M6 T6))
        clear K6 M6 T6 C2
        go_upto_region 38 with (refine wpList_store_mid rfl 51 _ _ rfl x 121 (List.replicate 30 (Value.bool false)).toArray rfl rfl th3 (by simpa using uB) one3 ?_)
        generalize w6.setCells x 121 (List.replicate 30 (Value.bool false)) = w7 at *
        have K7 := HX6.out.1.cell HX6.out.2.1 (hmemY x hy) hlx T7
        have hc0 := K7.changed
        have h00 : cnt (fun _ : Int => (none : Option (List Nat))) = 0 := by decide
        rw [h00] at hc0
        have HX7 := hid (And.intro K7 (And.intro M7 T7))
        clear K7 M7 T7 th3 one3 h00
        go_wp2_with fail
        refine hc0.mono ?_
        rintro e w8 ⟨rfl, hw8⟩
        subst w8
        go_wp2_with fail
        go_ret
        have tl : ∀ {u v : World}, Turn [x] u v → lo ≤ u.heap.size → Below lo u v := fun t h => t.below h (fun y hy' => by rw [List.mem_singleton.1 hy']; exact hlx)
        have z5 := HX5.out.2.2.size
        have z6 := HX6.out.2.2.size
        exact ⟨rfl, ⟨_, _, _, _, by omega, by omega, by omega, ⟨HX7.out.1.sub hmemY, HX7.out.2.1, HP.out.rel.commit (ep), hy, hlx⟩⟩, ((HX4.out.2.2.trans (tl HX5.out.2.2 hlo4)).trans (tl HX6.out.2.2 (by omega))).trans (tl HX7.out.2.2 (by omega))⟩
      · have hco := HP1.out.st.commit (q := 30) (by rw [← HCN.out]; omega) (by omega) (by omega) (by rw [← HCN.out]; exact hz) HP.out.rel.cntV HP.out.rel.cntW (by omega)
        rw [← HCN.out] at hco
        obtain ⟨N8, hN8⟩ : ∃ N8, N8 = nn + 8 * (cn + 7) + 700 := ⟨_, rfl⟩
        rw [← hN8] at hco
        have hN8' : N8 ≤ nn + 2900 := by omega
        have hcn0 : 0 < cn := by omega
        clear hN8
        go_wp2_with fail
        refine hco.mono ?_
        rintro e w3 ⟨rfl, ⟨c3, hc3, K3⟩, b3, kp3⟩
        have M3 := HP1.out.md.kp kp3 (hmemY x hy)
        have D3 := (kp3.blk D hmem).trans hcd
        have HB3 := hid (HB1.out.trans b3)
        have x120 : w3.cell? ⟨x, 120, none⟩ = some (.int .i64 (ep : Int)) := by rw [M3.at_ _ (by omega), M.val_ep, HP.out.rel.ep]
        have fz := M3.frozen
        have f120 := fz 120
        have fe : IntKind.i64.wrap ((ep : Int) + 1) = ((ep + 1 : Nat) : Int) := by rw [IntKind.wrap_i64]; omega
        have hc3' : c3 ≤ c + 600 := by omega
        have HK3 := hid K3
        have HM3 := hid M3
        have hlo3 := K3.lo
        clear hco b3 kp3 K3 fz hz
        go_upto_region 32 with fail
        have M4 := HM3.out.setEp (ep + 1)
        have T4 : Turn [x] w3 (w3.setCell ⟨x, 120, none⟩ (.int .i64 ((ep + 1 : Nat) : Int))) := Turn.setCell w3 x 120 _ (by simp)
        rw [Int.natCast_add, Int.natCast_one] at M4 T4
        generalize w3.setCell ⟨x, 120, none⟩ (.int .i64 ((ep : Int) + 1)) = w4 at *
        have K4 := HK3.out.cell HM3.out (hmemY x hy) hlx T4
        have HB4 := HB3.out.trans (T4.below hlo3 (fun y hy' => by rw [List.mem_singleton.1 hy']; exact hlx))
        clear T4 x120 f120 M3 D3
        obtain ⟨L1, C1⟩ := M4.nowWas
        have HX4 := hid (And.intro K4 (And.intro M4 HB4))
        have hlo4 := K4.lo
        clear K4 M4 HB4
        go_upto_region 33 with (first | (refine wpList_load_mid rfl 50 _ rfl x 0 rfl L1 _ C1.rg Tryz.underlying50 rfl (by rw [C1.len]; exact uA) ?_) | (refine wpList_store_mid rfl 50 _ _ rfl x 30 L1.toArray rfl rfl C1.th (by simpa [C1.len] using uA) C1.one ?_))
        have M5 := C1.md
        have T5 := C1.tn
        generalize w4.setCells x 30 L1 = w5 at *
        have K5 := HX4.out.1.cell HX4.out.2.1 (hmemY x hy) hlx T5
        obtain ⟨L2, C2⟩ := M5.onHad
        have HX5 := hid (And.intro K5 (And.intro M5 T5))
        clear K5 M5 T5 C1
        go_upto_region 37 with (first | (refine wpList_load_mid rfl 51 _ rfl x 60 rfl L2 _ C2.rg Tryz.underlying51 rfl (by rw [C2.len]; exact uB) ?_) | (refine wpList_store_mid rfl 51 _ _ rfl x 90 L2.toArray rfl rfl C2.th (by simpa [C2.len] using uB) C2.one ?_))
        have M6 := C2.md
        have T6 := C2.tn
        generalize w5.setCells x 90 L2 = w6 at *
        have K6 := HX5.out.1.cell HX5.out.2.1 (hmemY x hy) hlx T6
        obtain ⟨th3, one3, M7, T7⟩ := M6.noTou
        have HX6 := hid (And.intro K6 (And.intro M6 T6))
        clear K6 M6 T6 C2
        go_upto_region 38 with (refine wpList_store_mid rfl 51 _ _ rfl x 121 (List.replicate 30 (Value.bool false)).toArray rfl rfl th3 (by simpa using uB) one3 ?_)
        generalize w6.setCells x 121 (List.replicate 30 (Value.bool false)) = w7 at *
        have K7 := HX6.out.1.cell HX6.out.2.1 (hmemY x hy) hlx T7
        have hc0 := K7.changed
        have h00 : cnt (fun _ : Int => (none : Option (List Nat))) = 0 := by decide
        rw [h00] at hc0
        have HX7 := hid (And.intro K7 (And.intro M7 T7))
        clear K7 M7 T7 th3 one3 h00
        go_wp2_with fail
        refine hc0.mono ?_
        rintro e w8 ⟨rfl, hw8⟩
        subst w8
        go_wp2_with fail
        go_ret
        have tl : ∀ {u v : World}, Turn [x] u v → lo ≤ u.heap.size → Below lo u v := fun t h => t.below h (fun y hy' => by rw [List.mem_singleton.1 hy']; exact hlx)
        have z5 := HX5.out.2.2.size
        have z6 := HX6.out.2.2.size
        exact ⟨rfl, ⟨_, _, _, _, by omega, by omega, by omega, ⟨HX7.out.1.sub hmemY, HX7.out.2.1, HP.out.rel.commit (ep + 1), hy, hlx⟩⟩, ((HX4.out.2.2.trans (tl HX5.out.2.2 hlo4)).trans (tl HX6.out.2.2 (by omega))).trans (tl HX7.out.2.2 (by omega))⟩
end Go.Proofs.YtbjfgdahfpfgdaaGreatDoor.PgW

namespace Go.Proofs.YtbjfgdahfpfgdaaGreatDoor.PgW
open Go Go.RowKit Go.Maps Go.Proofs.YtbjfgdahfpfgdaaGreatDoor.Mem Go.Proofs.YtbjfgdahfpfgdaaGreatDoor.MapsW Go.Proofs.YtbjfgdahfpfgdaaGreatDoor.SeeW Go.Proofs.YtbjfgdahfpfgdaaGreatDoor.DevG Go.Proofs.YtbjfgdahfpfgdaaGreatDoor.PairG Go.Proofs.YtbjfgdahfpfgdaaGreatDoor.RefsW Go.Proofs.YtbjfgdahfpfgdaaGreatDoor.PgP Go.Proofs.YtbjfgdahfpfgdaaGreatDoor.RootP Go.Proofs.YtbjfgdahfpfgdaaGreatDoor.RootW
set_option linter.unusedVariables false
set_option maxRecDepth 100000

set_option maxHeartbeats 6400000 in
theorem toldA_w (Y : List Nat) (bs : List Addr) (lo b nn c s d x : Nat) (V N : Int → Option (List Nat)) (ep : Nat) (M : Md) (K i : Int) (a : Option Addr) (len cap : Nat) (w : World) (hP : Play Y bs w lo b nn c s d x V N ep M) (hn : nn < 650000) (hc : c < 690000) (hep : ep < 900000) (hk1 : (K == 1) = false) (hk2 : (K == 2) = false) (hk3 : (K == 3) = false) :
    Calls Tryz.prog 23 #[ptr s, ptr x, .agg #[.int .i64 K, .int .i64 i, .slice a len cap]] w fun e w' => e = .returned (.bool true) ∧ (∃ M', Play Y bs w' lo b nn c s d x V (fun _ => none) ep M') ∧ Below lo w w' := by
  have hlo := hP.st.lo
  have hy := hP.mem
  have hlx := hP.lox
  have hP1 := hP.alloc (.cells #[.int .i64 K, .int .i64 i, .slice a len cap] 55)
  have b1 := (Below.refl w.heap.size w).alloc (Nat.le_refl _) (.cells #[.int .i64 K, .int .i64 i, .slice a len cap] 55)
  have hcd := heap_alloc_new w (.cells #[.int .i64 K, .int .i64 i, .slice a len cap] 55)
  have HB1 := hid (b1.mono hlo)
  have hdx : w.heap.size ≠ x := by have := hP.md.lt; omega
  have hmem : w.heap.size ∈ w.heap.size :: Y := by simp
  have hmemY : ∀ y ∈ Y, y ∈ w.heap.size :: Y := fun y h => List.mem_cons_of_mem _ h
  have hkt := hP.rel.cnt
  have hc256 := cnt_le256 N
  obtain ⟨cn, hcn⟩ : ∃ cn, cn = cnt N := ⟨_, rfl⟩
  have HP := hid hP
  have HP1 := hid hP1
  have hsu := countP_succ M.tou
  have h0 : (List.range 0).countP M.tou = 0 := rfl
  have hcl : ∀ k, (List.range k).countP M.tou ≤ k := fun k => by
    have := List.countP_le_length (p := M.tou) (l := List.range k)
    simpa using this
  generalize hg : (fun k => (List.range k).countP M.tou) = G at *
  have hG : ∀ k, (List.range k).countP M.tou = G k := fun k => by rw [← hg]
  simp only [hG] at hsu h0 hcl hkt
  have HSU := hid hsu
  have HCL := hid hcl
  have HKT := hid (hcn.trans hkt)
  have HCN := hid hcn
  clear hP hP1 hsu hcl hkt hg hG hcn hc256
  go_enter Tryz.func23, Tryz.ntmps23
  go_wp2_with fail
  generalize w.alloc (.cells #[.int .i64 K, .int .i64 i, .slice a len cap] 55) = w1 at *
  generalize w.heap.size = D at *
  have e0 : w1.cell? ⟨D, 0, none⟩ = some (.int .i64 K) := by simp [World.cell?, hcd]
  go_loopw [9, 10] (fun kv iv wr => ∃ k : Nat, k ≤ 30 ∧ iv = .int .i64 k ∧ kv = .int .i64 (G k : Nat) ∧ wr = w1) (fun _ iv _ => 30 - (RowKit.intOf iv).toNat)
  case atStart => exact ⟨0, by omega, rfl, by rw [h0]; rfl, rfl⟩
  case round =>
    obtain ⟨k, hk, rfl, rfl, hwr⟩ := hrel
    subst wr
    have hGk := HCL.out k
    by_cases hlt : k < 30
    · have t1 : w1.cell? ⟨x, 121 + k, none⟩ = some (.bool (M.tou k)) := by rw [HP1.out.md.at_ _ (by omega), M.val_tou hlt]
      have hs := HSU.out k
      have hkI : (k : Int) < 30 := by omega
      generalize M.tou k = tv at t1 hs
      cases tv with
      | true =>
        have HS := hid (show G (k + 1) = G k + 1 by simpa using hs)
        generalize G k = g at *
        clear hs
        go_wp2_with fail
        go_roundw
        case rel => exact ⟨k + 1, by omega, by go_num, by rw [HS.out]; go_num, by simp⟩
        case measure => simp [RowKit.intOf]; omega
      | false =>
        have HS := hid (show G (k + 1) = G k by simpa using hs)
        generalize G k = g at *
        clear hs
        go_wp2_with fail
        go_roundw
        case rel => exact ⟨k + 1, by omega, by go_num, by rw [HS.out], by simp⟩
        case measure => simp [RowKit.intOf]; omega
    · obtain rfl : k = 30 := by omega
      have hch := HP1.out.st.changed
      rw [← HCN.out] at hch
      rw [← HKT.out]
      have h0i : cn ≤ 256 := by rw [HCN.out]; exact cnt_le256 N
      clear hGk
      go_wp2_with fail
      refine hch.mono ?_
      rintro e w2 ⟨rfl, hw2⟩
      subst w2
      have hco := HP1.out.st.abort
      go_wp2_with fail
      refine hco.mono ?_
      rintro e w4 ⟨rfl, K4, b3, kp3⟩
      have M4 := HP1.out.md.kp kp3 (hmemY x hy)
      have HB4 := HB1.out.trans b3
      clear hco b3 kp3
      go_upto_region 35 with fail
      obtain ⟨L1, C1⟩ := M4.wasNow
      have HX4 := hid (And.intro K4 (And.intro M4 HB4))
      have hlo4 := K4.lo
      clear K4 M4 HB4
      go_upto_region 36 with (first | (refine wpList_load_mid rfl 50 _ rfl x 30 rfl L1 _ C1.rg Tryz.underlying50 rfl (by rw [C1.len]; exact uA) ?_) | (refine wpList_store_mid rfl 50 _ _ rfl x 0 L1.toArray rfl rfl C1.th (by simpa [C1.len] using uA) C1.one ?_))
      have M5 := C1.md
      have T5 := C1.tn
      generalize w4.setCells x 0 L1 = w5 at *
      have K5 := HX4.out.1.cell HX4.out.2.1 (hmemY x hy) hlx T5
      obtain ⟨L2, C2⟩ := M5.hadOn
      have HX5 := hid (And.intro K5 (And.intro M5 T5))
      clear K5 M5 T5 C1
      go_upto_region 37 with (first | (refine wpList_load_mid rfl 51 _ rfl x 90 rfl L2 _ C2.rg Tryz.underlying51 rfl (by rw [C2.len]; exact uB) ?_) | (refine wpList_store_mid rfl 51 _ _ rfl x 60 L2.toArray rfl rfl C2.th (by simpa [C2.len] using uB) C2.one ?_))
      have M6 := C2.md
      have T6 := C2.tn
      generalize w5.setCells x 60 L2 = w6 at *
      have K6 := HX5.out.1.cell HX5.out.2.1 (hmemY x hy) hlx T6
      obtain ⟨th3, one3, M7, T7⟩ := M6.noTou
      have HX6 := hid (And.intro K6 (And.intro M6 T6))
      clear K6 M6 T6 C2
      go_upto_region 38 with (refine wpList_store_mid rfl 51 _ _ rfl x 121 (List.replicate 30 (Value.bool false)).toArray rfl rfl th3 (by simpa using uB) one3 ?_)
      generalize w6.setCells x 121 (List.replicate 30 (Value.bool false)) = w7 at *
      have K7 := HX6.out.1.cell HX6.out.2.1 (hmemY x hy) hlx T7
      have hc0 := K7.changed
      have h00 : cnt (fun _ : Int => (none : Option (List Nat))) = 0 := by decide
      rw [h00] at hc0
      have HX7 := hid (And.intro K7 (And.intro M7 T7))
      clear K7 M7 T7 th3 one3 h00
      go_wp2_with fail
      refine hc0.mono ?_
      rintro e w8 ⟨rfl, hw8⟩
      subst w8
      go_wp2_with fail
      go_ret
      have tl : ∀ {u v : World}, Turn [x] u v → lo ≤ u.heap.size → Below lo u v := fun t h => t.below h (fun y hy' => by rw [List.mem_singleton.1 hy']; exact hlx)
      have z5 := HX5.out.2.2.size
      have z6 := HX6.out.2.2.size
      exact ⟨rfl, ⟨_, ⟨HX7.out.1.sub hmemY, HX7.out.2.1, HP.out.rel.abort, hy, hlx⟩⟩, ((HX4.out.2.2.trans (tl HX5.out.2.2 hlo4)).trans (tl HX6.out.2.2 (by omega))).trans (tl HX7.out.2.2 (by omega))⟩
end Go.Proofs.YtbjfgdahfpfgdaaGreatDoor.PgW

namespace Go.Proofs.YtbjfgdahfpfgdaaGreatDoor.PgW
open Go Go.RowKit Go.Maps Go.Proofs.YtbjfgdahfpfgdaaGreatDoor.Mem Go.Proofs.YtbjfgdahfpfgdaaGreatDoor.MapsW Go.Proofs.YtbjfgdahfpfgdaaGreatDoor.SeeW Go.Proofs.YtbjfgdahfpfgdaaGreatDoor.DevG Go.Proofs.YtbjfgdahfpfgdaaGreatDoor.PgP
set_option linter.unusedVariables false
set_option maxRecDepth 100000

/-- behind what was told -/
def Told (Y : List Nat) (bs : List Addr) (lo b nn c s d x : Nat) (V : Int → Option (List Nat)) (ep : Nat) (K : Int) (w' : World) : Prop :=
  ∃ nn' c' ep' V' N' M', nn' ≤ nn + 2900 ∧ c' ≤ c + 600 ∧ ep' ≤ ep + 1 ∧ (K ≠ 3 → V' = V ∧ c' = c ∧ ep' = ep) ∧ (K = 3 → N' = Non) ∧ Play Y bs w' lo b nn' c' s d x V' N' ep' M'
theorem told_w (Y : List Nat) (bs : List Addr) (lo b nn c s d x : Nat) (V N : Int → Option (List Nat)) (ep : Nat) (M : Md) (K i : Int) (a : Option Addr) (sl cap : Nat) (l : List Nat) (w : World) (hP : Play Y bs w lo b nn c s d x V N ep M) (hB : ∀ w', Below lo w w' → Bs w' bs)
    (hn : nn < 650000) (hc : c < 690000) (hep : ep < 900000) (hb : 78 ≤ GeoW.half b) (hl : Nums .u8 w a sl cap l) (hy : ∀ x ∈ l, x < 256) (hf : Fits i) (h3 : sl ≤ 300) (hlt : ¬ (30 ≤ i ∧ i < 256)) :
    Calls Tryz.prog 23 #[ptr s, ptr x, .agg #[.int .i64 K, .int .i64 i, .slice a sl cap]] w fun e w' => e = .returned (.bool true) ∧ Told Y bs lo b nn c s d x V ep K w' ∧ Below lo w w' := by
  have hlen := hl.len
  obtain rfl : sl = l.length := hlen.symm
  have hBw := hB w (Below.refl _ _)
  have hside : Far i ∨ ∃ p : Nat, p < 30 ∧ i = (p : Int) := by
    unfold Far
    by_cases h0 : i < 0
    · exact .inl (.inl h0)
    · by_cases h1 : 256 ≤ i
      · exact .inl (.inr h1)
      · exact .inr ⟨i.toNat, by omega, by omega⟩
  by_cases k1 : K = 1
  · subst k1
    rcases hside with hr | ⟨p, hp, rfl⟩
    · refine (told1F_w Y bs lo b nn c s d x V N ep M i a cap l w hP hB (by omega) hf hl hr).mono ?_
      rintro e w' ⟨h1, h2, h4⟩
      exact ⟨h1, ⟨_, _, _, _, _, _, by omega, by omega, by omega, fun _ => ⟨rfl, rfl, rfl⟩, fun h => absurd h (by decide), h2⟩, h4⟩
    · by_cases hs : l.length < 1 ∨ 248 < l.length
      · refine (told1L_w Y bs lo b nn c s d x V N ep M (p : Int) a cap l w hP hB (by omega) hf hl (isP_of (by omega)) hs).mono ?_
        rintro e w' ⟨h1, h2, h4⟩
        exact ⟨h1, ⟨_, _, _, _, _, _, by omega, by omega, by omega, fun _ => ⟨rfl, rfl, rfl⟩, fun h => absurd h (by decide), h2⟩, h4⟩
      · refine (told1_w Y bs lo b nn c s d x V N ep M p a cap l w hP hBw (by omega) hp hl (by omega) (by omega) hy h3).mono ?_
        rintro e w' ⟨h1, ⟨M', h2⟩, h4⟩
        exact ⟨h1, ⟨_, _, _, _, _, _, by omega, by omega, by omega, fun _ => ⟨rfl, rfl, rfl⟩, fun h => absurd h (by decide), h2⟩, h4⟩
  by_cases k2 : K = 2
  · subst k2
    rcases hside with hr | ⟨p, hp, rfl⟩
    · refine (told2F_w Y bs lo b nn c s d x V N ep M i a cap l w hP hB (by omega) hf hl hr).mono ?_
      rintro e w' ⟨h1, h2, h4⟩
      exact ⟨h1, ⟨_, _, _, _, _, _, by omega, by omega, by omega, fun _ => ⟨rfl, rfl, rfl⟩, fun h => absurd h (by decide), h2⟩, h4⟩
    · refine (told2_w Y bs lo b nn c s d x V N ep M p a cap l w hP hBw (by omega) hp hl hy h3).mono ?_
      rintro e w' ⟨h1, ⟨M', h2⟩, h4⟩
      exact ⟨h1, ⟨_, _, _, _, _, _, by omega, by omega, by omega, fun _ => ⟨rfl, rfl, rfl⟩, fun h => absurd h (by decide), h2⟩, h4⟩
  by_cases k3 : K = 3
  · subst k3
    refine (toldC_w Y bs lo b nn c s d x V N ep M i a l.length cap w hP hn hc hep hb).mono ?_
    rintro e w' ⟨h1, ⟨nn', c', ep', M', g1, g2, g3, h2⟩, h4⟩
    exact ⟨h1, ⟨_, _, _, _, _, _, g1, g2, g3, fun h => absurd rfl h, fun _ => rfl, h2⟩, h4⟩
  · refine (toldA_w Y bs lo b nn c s d x V N ep M K i a l.length cap w hP hn hc hep (beq_eq_false_iff_ne.2 k1) (beq_eq_false_iff_ne.2 k2) (beq_eq_false_iff_ne.2 k3)).mono ?_
    rintro e w' ⟨h1, ⟨M', h2⟩, h4⟩
    exact ⟨h1, ⟨_, _, _, _, _, _, by omega, by omega, by omega, fun _ => ⟨rfl, rfl, rfl⟩, fun h => absurd h k3, h2⟩, h4⟩
end Go.Proofs.YtbjfgdahfpfgdaaGreatDoor.PgW

namespace Go.Proofs.YtbjfgdahfpfgdaaGreatDoor.PgW
open Go Go.RowKit Go.Maps Go.Proofs.YtbjfgdahfpfgdaaGreatDoor.Mem Go.Proofs.YtbjfgdahfpfgdaaGreatDoor.MapsW Go.Proofs.YtbjfgdahfpfgdaaGreatDoor.SeeW Go.Proofs.YtbjfgdahfpfgdaaGreatDoor.DevG Go.Proofs.YtbjfgdahfpfgdaaGreatDoor.PairG Go.Proofs.YtbjfgdahfpfgdaaGreatDoor.RefsW Go.Proofs.YtbjfgdahfpfgdaaGreatDoor.PgP Go.Proofs.YtbjfgdahfpfgdaaGreatDoor.RootP Go.Proofs.YtbjfgdahfpfgdaaGreatDoor.RootW
set_option linter.unusedVariables false
set_option maxRecDepth 100000

theorem Armed.changed {Y : List Nat} {bs : List Addr} {w : World} {lo b n c : Nat} {s d : Nat} {V N : Int → Option (List Nat)} {ep k : Nat} (h : Armed Y bs w lo b n c s d V N ep k) :
    Calls Tryz.prog 28 #[ptr s] w fun e w' => e = .returned (.int .i64 (cnt N : Nat)) ∧ w' = w := by
  obtain ⟨m, D, I, S, h⟩ := h
  have hp := changed_w lo n m { D with fuse := k } I S w h.at_ h.st.now.dom
  rw [h.now, h.hs] at hp
  exact hp
theorem UpF.all_lt {Y : List Nat} {bs : List Addr} {w : World} {lo b n c : Nat} {s d : Nat} {V N : Int → Option (List Nat)} {ep k : Nat} {m : Mp} {D : Dv} {I : Si} {S : St} (h : UpF Y bs w lo b n c s d V N ep k m D I S) : ∀ x ∈ I.all m, x < w.heap.size := by
  intro x hx
  rcases List.mem_cons.1 hx with e | hx
  · obtain ⟨b', o', e', hc, _⟩ := h.at_.tabs.at (j := 0) (by rw [h.at_.tabs.len]; decide)
    cases e'
    rw [e]
    exact World.block_lt_of_cell? _ _ hc
  · rcases List.mem_append.1 hx with hx | hx
    · obtain ⟨o, e⟩ := mem_raB hx
      exact (h.at_.rx x o e).1
    · exact h.at_.own_lt x hx
/-- a new block beside -/
theorem Armed.grow {Y : List Nat} {bs : List Addr} {w w' : World} {lo b n c : Nat} {s d : Nat} {V N : Int → Option (List Nat)} {ep k : Nat} (h : Armed Y bs w lo b n c s d V N ep k) (hb : Below w.heap.size w w') {y : Nat} (h1 : w.heap.size ≤ y) (h2 : y < w'.heap.size) : Armed (y :: Y) bs w' lo b n c s d V N ep k := by
  obtain ⟨m, D, I, S, h⟩ := h
  refine ⟨m, D, I, S, h.at_.below hb, h.st, h.hs, h.hd, h.hH, h.bl, h.b1, h.b2, h.cl, h.ic, h.ev.below hb, Nat.le_trans h.los hb.size, h.now, h.ep, fun z hz => ?_⟩
  rcases List.mem_cons.1 hz with rfl | hz
  · exact ⟨h2, fun hm => by have := h.all_lt _ hm; omega⟩
  · exact ⟨Nat.lt_of_lt_of_le (h.out z hz).1 hb.size, (h.out z hz).2⟩
theorem Store.grow {Y : List Nat} {bs : List Addr} {w w' : World} {lo b n c : Nat} {s d : Nat} {V N : Int → Option (List Nat)} {ep : Nat} (h : Store Y bs w lo b n c s d V N ep) (hb : Below w.heap.size w w') {y : Nat} (h1 : w.heap.size ≤ y) (h2 : y < w'.heap.size) : Store (y :: Y) bs w' lo b n c s d V N ep := (h.armed.grow hb h1 h2).store
theorem Gone.grow {Y : List Nat} {bs : List Addr} {w w' : World} {lo b n c d : Nat} {t : Bool} {P : Dv → Prop} (h : Gone Y bs w lo b n c d t P) (hb : Below w.heap.size w w') {y : Nat} (h1 : w.heap.size ≤ y) (h2 : y < w'.heap.size) : Gone (y :: Y) bs w' lo b n c d t P := by
  obtain ⟨m, E, h⟩ := h
  refine ⟨m, E, h.at_.below hb, h.bl, h.b1, h.b2, h.cl, h.np, h.dn, h.cr, h.ev.below hb, Nat.le_trans h.los hb.size, fun z hz => ?_⟩
  rcases List.mem_cons.1 hz with rfl | hz
  · exact ⟨h2, fun hm => by have := h.at_.olds _ hm; omega⟩
  · exact ⟨Nat.lt_of_lt_of_le (h.out z hz).1 hb.size, (h.out z hz).2⟩
theorem Gone.lo {Y : List Nat} {bs : List Addr} {w : World} {lo b n c d : Nat} {t : Bool} {P : Dv → Prop} (h : Gone Y bs w lo b n c d t P) : lo ≤ w.heap.size := let ⟨_, _, h⟩ := h; h.los
theorem Ajar.lo {Y : List Nat} {bs : List Addr} {w : World} {lo b n c d : Nat} {V : Int → Option (List Nat)} {ep k : Nat} (h : Ajar Y bs w lo b n c d V ep k) : lo ≤ w.heap.size := let ⟨_, _, _, h⟩ := h; h.los
theorem Armed.lo {Y : List Nat} {bs : List Addr} {w : World} {lo b n c : Nat} {s d : Nat} {V N : Int → Option (List Nat)} {ep k : Nat} (h : Armed Y bs w lo b n c s d V N ep k) : lo ≤ w.heap.size := let ⟨_, _, _, _, h⟩ := h; h.los
theorem Armed.below {Y : List Nat} {bs : List Addr} {w w' : World} {lo b n c : Nat} {s d : Nat} {V N : Int → Option (List Nat)} {ep k : Nat} (h : Armed Y bs w lo b n c s d V N ep k) (hb : Below w.heap.size w w') : Armed Y bs w' lo b n c s d V N ep k := by
  obtain ⟨m, D, I, S, h⟩ := h
  exact ⟨m, D, I, S, h.at_.below hb, h.st, h.hs, h.hd, h.hH, h.bl, h.b1, h.b2, h.cl, h.ic, h.ev.below hb, Nat.le_trans h.los hb.size, h.now, h.ep, fun z hz => ⟨Nat.lt_of_lt_of_le (h.out z hz).1 hb.size, (h.out z hz).2⟩⟩
theorem Gone.below {Y : List Nat} {bs : List Addr} {w w' : World} {lo b n c d : Nat} {t : Bool} {P : Dv → Prop} (h : Gone Y bs w lo b n c d t P) (hb : Below w.heap.size w w') : Gone Y bs w' lo b n c d t P := by
  obtain ⟨m, E, h⟩ := h
  exact ⟨m, E, h.at_.below hb, h.bl, h.b1, h.b2, h.cl, h.np, h.dn, h.cr, h.ev.below hb, Nat.le_trans h.los hb.size, fun z hz => ⟨Nat.lt_of_lt_of_le (h.out z hz).1 hb.size, (h.out z hz).2⟩⟩
/-- a model, another block written -/
theorem MdAt.aside {w w' : World} {x y : Nat} {M M' : Md} (h : MdAt w x M) (hy : MdAt w y M') (ht : Turn [y] w w') (hne : x ≠ y) : MdAt w' x M :=
  h.keep (ht.block x h.lt (by simpa using hne)) fun a n cap l hl => DevG.nums_turn hl ht hy.u8
def Md.all (M : Md) : List Value := (List.range 151).map M.val
theorem Md.all_len (M : Md) : M.all.length = 151 := by simp [Md.all]
theorem Md.all_get (M : Md) {j : Nat} (h : j < M.all.length) : M.all[j] = M.val j := by simp [Md.all]
theorem Md.val_one (M : Md) (j : Nat) : (M.val j).oneCell' = true := by
  unfold Md.val
  split
  · rfl
  split
  · rfl
  split
  · rfl
  split
  · rfl
  split
  · rfl
  · rfl
theorem Md.all_one (M : Md) : M.all.toArray.all (·.oneCell') = true := all_oneCell_toArray fun v hv => by
  obtain ⟨j, _, rfl⟩ := List.mem_map.1 hv
  exact M.val_one j
theorem MdAt.range {w : World} {x : Nat} {M : Md} (h : MdAt w x M) : w.rangeAt x 0 M.all := fun j v hj => by
  obtain ⟨hj1, hj2⟩ := List.getElem?_eq_some_iff.1 hj
  rw [Md.all_get] at hj2
  rw [Nat.zero_add, h.at_ j (by rw [Md.all_len] at hj1; exact hj1), hj2]
theorem MdAt.there {w : World} {x : Nat} {M : Md} (h : MdAt w x M) (M' : Md) : w.there x 0 M'.all.toArray.size := fun j hj => by
  have hj3 : j < 151 := by simpa [Md.all] using hj
  exact ⟨by rw [Nat.zero_add, h.at_ j hj3]; rfl, h.frozen _⟩
/-- one model laid over another -/
theorem MdAt.whole {w : World} {x y : Nat} {M M' : Md} (h : MdAt w x M) (hy : MdAt w y M') : MdAt (w.setCells x 0 M'.all) x M' := by
  refine h.over (setCells_blk _ 0 w h.blk) (turn_setCells x _ 0 w) (fun j hj => ?_) hy.now hy.was
  have := World.cell?_setCells_in x M'.all 0 w (fun q hq => by rw [Md.all_len] at hq; rw [Nat.zero_add, h.at_ q hq]; rfl) j (by rw [Md.all_len]; exact hj)
  rw [Nat.zero_add] at this
  rw [this, Md.all_get]
/-- thirty cells of one model laid over another -/
structure Crossed (w : World) (x y : Nat) (o p : Nat) (Ls : List Value) (M' : Md) : Prop where
  rg : w.rangeAt x o Ls
  th : w.there y p Ls.toArray.size
  len : Ls.length = 30
  one : Ls.toArray.all (·.oneCell') = true
  md : MdAt (w.setCells y p Ls) y M'
  tn : Turn [y] w (w.setCells y p Ls)
theorem MdAt.crossed {w : World} {x y : Nat} {M0 M M' : Md} (hx : MdAt w x M0) (h : MdAt w y M) (o p : Nat) (ho : o + 30 ≤ 151) (hp : p + 30 ≤ 151) (f : Nat → Value)
    (hf : ∀ i, i < 30 → M0.val (o + i) = f i) (hv : ∀ i, i < 30 → M'.val (p + i) = f i) (h1 : ∀ i, i < 30 → (f i).oneCell' = true) (hM : ∀ j, j < 151 → (j < p ∨ p + 30 ≤ j) → M'.val j = M.val j)
    (hn : ∀ i, i < 30 → Nums .u8 w (M'.now i).a (M'.now i).l.length (M'.now i).cap (M'.now i).l) (hw : ∀ i, i < 30 → Nums .u8 w (M'.was i).a (M'.was i).l.length (M'.was i).cap (M'.was i).l) : ∃ Ls, Crossed w x y o p Ls M' := by
  refine ⟨(List.range 30).map f, fun j v hj => ?_, fun j hj => ?_, by simp, all_oneCell_toArray fun v hv' => ?_, ?_, turn_setCells y _ p w⟩
  · obtain ⟨hj1, hj2⟩ := List.getElem?_eq_some_iff.1 hj
    have hj3 : j < 30 := by simpa using hj1
    rw [hx.at_ (o + j) (by omega), hf j hj3]
    simp at hj2
    rw [hj2]
  · have hj3 : j < 30 := by simpa using hj
    exact ⟨by rw [h.at_ (p + j) (by omega)]; rfl, h.frozen _⟩
  · obtain ⟨i, hi', rfl⟩ := List.mem_map.1 hv'
    exact h1 i (List.mem_range.1 hi')
  · refine h.set30 p _ (by simp) (fun i hi' => ?_) hM hp hn hw
    rw [hv i hi']
    simp
theorem MdAt.xNowWas {w : World} {x y : Nat} {M0 M : Md} (hx : MdAt w x M0) (h : MdAt w y M) : ∃ Ls, Crossed w x y 0 30 Ls { M with was := M0.now } := by
  refine hx.crossed h 0 30 (by omega) (by omega) (fun i => (M0.now i).v) (fun i hi => by rw [Nat.zero_add, M0.val_now hi]) (fun i hi => Md.val_was _ hi) (fun i _ => rfl) (fun j hj hne => ?_) h.now hx.now
  unfold Md.val
  split
  · rfl
  · have e : ¬ j < 60 := by omega
    simp only [if_neg e]
theorem MdAt.xWasNow {w : World} {x y : Nat} {M0 M : Md} (hx : MdAt w x M0) (h : MdAt w y M) : ∃ Ls, Crossed w x y 30 0 Ls { M with now := M0.was } := by
  refine hx.crossed h 30 0 (by omega) (by omega) (fun i => (M0.was i).v) (fun i hi => M0.val_was hi) (fun i hi => by rw [Nat.zero_add, Md.val_now _ hi]) (fun i _ => rfl) (fun j hj hne => ?_) hx.was h.was
  unfold Md.val
  have e : ¬ j < 30 := by omega
  simp only [if_neg e]
theorem MdAt.xOnHad {w : World} {x y : Nat} {M0 M : Md} (hx : MdAt w x M0) (h : MdAt w y M) : ∃ Ls, Crossed w x y 60 90 Ls { M with had := M0.on } := by
  refine hx.crossed h 60 90 (by omega) (by omega) (fun i => .bool (M0.on i)) (fun i hi => M0.val_on hi) (fun i hi => Md.val_had _ hi) (fun i _ => rfl) (fun j hj hne => ?_) h.now h.was
  unfold Md.val
  split <;> try rfl
  split <;> try rfl
  split <;> try rfl
  have e : ¬ j < 120 := by omega
  simp only [if_neg e]
theorem MdAt.xHadOn {w : World} {x y : Nat} {M0 M : Md} (hx : MdAt w x M0) (h : MdAt w y M) : ∃ Ls, Crossed w x y 90 60 Ls { M with on := M0.had } := by
  refine hx.crossed h 90 60 (by omega) (by omega) (fun i => .bool (M0.had i)) (fun i hi => M0.val_had hi) (fun i hi => Md.val_on _ hi) (fun i _ => rfl) (fun j hj hne => ?_) h.now h.was
  unfold Md.val
  split <;> try rfl
  split <;> try rfl
  have e : ¬ j < 90 := by omega
  simp only [if_neg e]
theorem uM : (Tryz.prog.info? 53).map (·.size) = some 151 := by kernel_rfl
/-- a model copied into a new block -/
theorem MdAt.spawn {w : World} {x : Nat} {M : Md} (h : MdAt w x M) : (w.alloc (.cells Tryz.zeroCells53 53)).there w.heap.size 0 M.all.toArray.size ∧ MdAt ((w.alloc (.cells Tryz.zeroCells53 53)).setCells w.heap.size 0 M.all) w.heap.size M ∧ Below w.heap.size w ((w.alloc (.cells Tryz.zeroCells53 53)).setCells w.heap.size 0 M.all) := by
  have hz := MdAt.made w
  have b := (Below.refl w.heap.size w).alloc (Nat.le_refl _) (.cells Tryz.zeroCells53 53)
  exact ⟨hz.there M, hz.whole (h.below b), b.trans ((turn_setCells w.heap.size M.all 0 _).below b.size fun y hy => by rw [List.mem_singleton.1 hy]; exact Nat.le_refl _)⟩
/-- two models, the second one written -/
structure Two (w : World) (x y : Nat) (M M' : Md) : Prop where
  x_ : MdAt w x M
  y_ : MdAt w y M'
  ne : x ≠ y
theorem Two.put {w w' : World} {x y : Nat} {M M' M2 : Md} (h : Two w x y M M') (hy : MdAt w' y M2) (ht : Turn [y] w w') : Two w' x y M M2 := ⟨h.x_.aside h.y_ ht h.ne, hy, h.ne⟩
theorem Two.bel {w w' : World} {x y : Nat} {M M' : Md} (h : Two w x y M M') (ht : Turn [y] w w') {B : Nat} (hB : B ≤ y) : Below B w w' := ht.below (Nat.le_trans hB (Nat.le_of_lt h.y_.lt)) fun z hz => by rw [List.mem_singleton.1 hz]; exact hB
/-- the model behind a commit, the one ahead of it -/
abbrev Md.beh (M : Md) (e : Nat) : Md := { M with was := M.now, had := M.on, tou := fun _ => false, ep := e }
abbrev Md.ahd (M : Md) : Md := { M with now := M.was, on := M.had, tou := fun _ => false }
/-- the law's model made another one -/
theorem Play.whole {Y : List Nat} {bs : List Addr} {w : World} {lo b n c s d x y : Nat} {V N : Int → Option (List Nat)} {ep : Nat} {M M' : Md} (h : Store Y bs w lo b n c s d V N ep) (hx : MdAt w x M) (hy : MdAt w y M') (hR : Rel M' V N ep) (hm : x ∈ Y) (hl : lo ≤ x) : Play [x] bs (w.setCells x 0 M'.all) lo b n c s d x V N ep M' ∧ Below lo w (w.setCells x 0 M'.all) :=
  ⟨⟨(h.cell hx hm hl (turn_setCells x _ 0 w)).sub (fun y hy => by rw [List.mem_singleton.1 hy]; exact hm), hx.whole hy, hR, by simp, hl⟩, (turn_setCells x _ 0 w).below h.lo fun y hy => by rw [List.mem_singleton.1 hy]; exact hl⟩
end Go.Proofs.YtbjfgdahfpfgdaaGreatDoor.PgW
