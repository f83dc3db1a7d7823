/- The walk of root.Bytes. -/
import Derived.Test.YtlljpljfmaaejaaDoorRootWalk
import Derived.Test.YtlljpljfmaaejaaDoorRootFits
import Derived.Test.YtlljpljfmaaejaaDoorConcat
namespace Go.Proofs.YtlljpljfmaaejaaDoor.RootW
open Go Go.RowKit Go.Proofs.YtlljpljfmaaejaaDoor.Mem Go.Proofs.YtlljpljfmaaejaaDoor.RootP Go.Proofs.YtlljpljfmaaejaaDoor.SeeW Go.Proofs.YtlljpljfmaaejaaDoor.RefsW Go.Proofs.YtlljpljfmaaejaaDoor.DevG Go.Proofs.YtlljpljfmaaejaaDoor.ConcatW
set_option linter.unusedVariables false
set_option maxRecDepth 100000

theorem refsB_take_succ {rs : List (Int × Nat)} {k : Nat} (h : k < rs.length) : refsB (rs.take (k + 1)) = refsB (rs.take k) ++ (le 2 rs[k].1.toNat ++ le 4 rs[k].2) := by
  unfold refsB
  rw [List.take_succ_eq_append_getElem h, List.flatMap_append]
  simp [refB]
/-- what is laid when k places are -/
def upto (r : Rt) (k : Nat) : List Nat := lays (zeros 128) 0 (le 6 r.ep.toNat ++ [r.rs.length] ++ refsB (r.rs.take k))
theorem upto_succ {r : Rt} {k : Nat} (h : k < r.rs.length) : upto r (k + 1) = lays (lays (upto r k) (7 + 6 * k) (le 2 r.rs[k].1.toNat)) (7 + 6 * k + 2) (le 4 r.rs[k].2) := by
  unfold upto
  rw [refsB_take_succ h, ← List.append_assoc (le 6 r.ep.toNat ++ [r.rs.length]), lays_append _ 0 (le 6 r.ep.toNat ++ [r.rs.length] ++ refsB (r.rs.take k)), lays_append _ _ (le 2 _)]
  have e : (le 6 r.ep.toNat ++ [r.rs.length] ++ refsB (r.rs.take k)).length = 7 + 6 * k := by
    simp [le_length, refsB_length]; omega
  rw [e, le_length, Nat.zero_add]
theorem upto_length (r : Rt) (k : Nat) : (upto r k).length = 128 := by unfold upto; rw [lays_length]; simp
theorem upto_zero (r : Rt) : upto r 0 = (lays (zeros 128) 0 (le 6 r.ep.toNat)).set 6 r.rs.length := by
  unfold upto
  rw [List.take_zero]
  show lays _ 0 (le 6 r.ep.toNat ++ [r.rs.length] ++ []) = _
  rw [List.append_nil, lays_snoc, le_length]
theorem upto_all (r : Rt) : upto r r.rs.length = half r := by unfold upto; rw [List.take_length]; rfl

set_option maxHeartbeats 3200000 in
theorem bytes_ok (bs : List Addr) (lo : Nat) (r : Rt) (a : Option Addr) (n cap : Nat) (w : World) (hl : Refs w a n cap r.rs) (hB : Ev w lo bs rerr) (hg : RootP.Good r) (hs : ∀ x ∈ r.rs, x.2 < 4294967296) :
    Calls Tryd.prog 74 #[Rv r.ep a n cap] w fun e w' => (∃ v, e = .returned (.tuple #[v, .nilIface]) ∧ w'.ownsRow w.heap.size 5 1 v 256 (nums .u8 (enc r))) ∧ Below w.heap.size w w' := by
  have HL := hid hl.len
  obtain ⟨c1, c2⟩ := hl.bound
  obtain ⟨e1, e2, hn16, ha⟩ := hg
  obtain ⟨ep, hep⟩ := Int.eq_ofNat_of_zero_le (show 0 ≤ r.ep by omega)
  have bx := (Below.refl w.heap.size w).alloc (Nat.le_refl _) (.cells #[.int .i64 (ep : Int), .slice a n cap] 98)
  obtain ⟨q0, q1⟩ := new2 w (.int .i64 (ep : Int)) (.slice a n cap) 98
  have hfit := fits_w bs lo r a n cap _ (hl.below bx) (hB.below bx)
  rw [(good_iff r).2 ⟨e1, e2, hn16, ha⟩] at hfit
  have hx := hl.below bx
  have HE := hid hep
  rw [hep] at hfit ⊢
  have hepn : ep ≤ 1099511627776 := by omega
  have HEP := hid hepn
  have hw : IntKind.u64.wrap (ep : Int) = ep := by rw [IntKind.wrap_u64]; omega
  have HA := hid ha
  have HS := hid hs
  have hn : n ≤ 16 := by rw [← HL.out]; exact hn16
  clear e1 e2 ha hs hepn hn16 hep
  go_enter Tryd.func74, Tryd.ntmps74
  go_wp2_with fail
  refine hfit.mono ?_
  rintro e w1 ⟨⟨v, hv, rfl⟩, hb1⟩
  cases hv
  have B1 : Below w.heap.size w w1 := bx.trans (hb1.mono (by simp))
  replace q0 := kept hb1 q0
  replace q1 := kept hb1 q1
  have hx1 := hx.below hb1
  clear hx hfit bx hb1 hB
  have zz1 := B1.size
  have q0n := World.block_lt_of_cell? w1 _ q0
  go_wp2_with (at_make; go_must (refine wpList_mkn RefW.elU8 rfl _ _ rfl w1.heap.size _ _ _ _ 128 rfl rfl rfl rfl (by decide) (by decide) (Nat.le_refl _) ?_); intro w2 own2 hg2; rw [RefW.made_nums] at own2; have b2 : Below w1.heap.size w1 w2 := below_growns hg2 (Nat.le_refl _); replace q0 := kept b2 q0; replace q1 := kept b2 q1; clear hg2)
  have B2 := B1.trans (b2.mono zz1)
  have z2 := b2.size
  have g2 : w1.heap.size < w2.heap.size := (own2.lt _ rfl).2
  refine (lay_w w1.heap.size _ 128 128 _ 0 128 128 ep 6 _ own2 (Nat.le_refl _) (by decide) (by decide) (by decide) (by decide) (by decide) (by have := HEP.out; omega) (by decide)).mono ?_
  rintro e w3 ⟨rfl, own3, b3, _⟩
  have b3' := b2.trans b3
  replace q0 := keep b3 q0 q0n
  replace q1 := keep b3 q1 q0n
  have hx3 := hx1.below b3'
  have hln : ((r.rs.length : Nat) : Int) = n := by have := HL.out; omega
  obtain ⟨y, hy⟩ : ∃ y, w3.cell? ⟨w1.heap.size, 6, none⟩ = some y := ⟨_, OwnN.cell own3 (j := 6) (by rw [lays_length]; simp)⟩
  have hf := World.ownsRow.frozenAt own3 6
  have HO := hid own3
  have hc8 : IntKind.u8.wrap (n : Int) = n := by rw [IntKind.wrap_u8]; omega
  clear hw own3 b2 own2
  go_wp2_with fail
  clear hy hf hc8
  have own4 : OwnN (w3.setCell ⟨w1.heap.size, 6, none⟩ (.int .u8 (n : Int))) w1.heap.size 5 .u8 w1.heap.size 128 128 (upto r 0) := by
    rw [upto_zero, HE.out, HL.out]
    exact ownb HO.out 6 n
  have b4 : Below w1.heap.size w1 (w3.setCell ⟨w1.heap.size, 6, none⟩ (.int .u8 (n : Int))) := b3'.setCell (Nat.le_refl _) _
  replace q1 := q1
  clear HO q0 q1 hx3 b3 b3' y
  generalize w3.setCell ⟨w1.heap.size, 6, none⟩ (.int .u8 (n : Int)) = w4 at *
  go_loopw [29] (fun i wr => ∃ k : Nat, k ≤ n ∧ i = .int .i64 k ∧ OwnN wr w1.heap.size 5 .u8 w1.heap.size 128 128 (upto r k) ∧ Below w1.heap.size w1 wr) (fun i _ => n - (intOf i).toNat)
  case atStart => exact ⟨0, by omega, rfl, own4, b4⟩
  case round =>
    clear own4 b4
    obtain ⟨k, hk, rfl, own, hb⟩ := hrel
    have hxr := hx1.below hb
    by_cases hlt : k < n
    · have hkl : k < r.rs.length := by rw [HL.out]; exact hlt
      obtain ⟨b0, o0, rfl, hc0, hc1⟩ := hxr.at hkl
      have HAd := HA.out _ (List.getElem_mem hkl)
      have HSm := HS.out _ (List.getElem_mem hkl)
      have HU := hid (upto_succ hkl)
      obtain ⟨ad, had⟩ := Int.eq_ofNat_of_zero_le HAd.1
      generalize r.rs[k] = x at hc0 hc1 HAd HSm HU had
      obtain ⟨x1, x2⟩ := x
      simp only at hc0 hc1 HAd HSm HU had
      subst had
      have ha6 : ad ≤ 6000 := by omega
      have hw1 : IntKind.u64.wrap (ad : Int) = ad := by rw [IntKind.wrap_u64]; omega
      have hw2 : IntKind.u64.wrap (x2 : Int) = x2 := by rw [IntKind.wrap_u64]; omega
      have HM := hid HSm
      clear HAd HSm
      have hz := hb.size
      have f1 : IntKind.i64.wrap (7 + 6 * (k : Int)) = ((7 + 6 * k : Nat) : Int) := by rw [IntKind.wrap_i64]; omega
      have HO := hid own
      go_wp2_with fail
      have b5 : Below w1.heap.size w1 (wr.alloc (.cells #[.int .i64 (ad : Int), .int .u32 (x2 : Int)] 68)) := hb.alloc hz _
      have t1 : (wr.alloc (.cells #[.int .i64 (ad : Int), .int .u32 (x2 : Int)] 68)).cell? ⟨wr.heap.size, 1, none⟩ = some (.int .u32 (x2 : Int)) := (new2 wr _ _ _).2
      have hgr := own.lt.2
      have z5 : (wr.alloc (.cells #[.int .i64 (ad : Int), .int .u32 (x2 : Int)] 68)).heap.size = wr.heap.size + 1 := by simp
      have own5 := own.alloc (.cells #[.int .i64 (ad : Int), .int .u32 (x2 : Int)] 68)
      generalize wr.alloc (.cells #[.int .i64 (ad : Int), .int .u32 (x2 : Int)] 68) = w5 at *
      refine (lay_w w1.heap.size _ 128 128 _ (7 + 6 * k) (128 - (7 + 6 * k)) (128 - (7 + 6 * k)) ad 2 _ own5 (Nat.le_refl _) (by omega) (by omega) (by decide) (Nat.le_refl _) (by omega) (by omega) (by decide)).mono ?_
      rintro e w6 ⟨rfl, own6, b6, o6⟩
      replace t1 : w6.cell? ⟨wr.heap.size, 1, none⟩ = some (.int .u32 (x2 : Int)) := (World.cell?_of_block (o6 wr.heap.size (by omega))).trans t1
      have B6 := b5.trans b6
      obtain ⟨M, hM⟩ : ∃ M, M = 128 - (7 + 6 * k) := ⟨_, rfl⟩
      rw [← hM]
      have HMM := hid hM
      have hM2 : (2 : Int) ≤ (M : Int) := by omega
      have hMne : ¬ M = 2 := by omega
      have hM3 : M ≤ 128 := by omega
      clear o6 b5 b6 HO own f1 hw1 hM
      go_wp2_with fail
      go_region_held3 (fun w' => w'.cell? ⟨wr.heap.size, 1, none⟩ = some (.int .u32 (x2 : Int))) (first | exact t1 | exact t7 | go_keep)
        ((go_at_call 112; refine (lay_w w1.heap.size _ 128 128 _ (7 + 6 * k + 2) (M - 2) (M - 2) x2 4 _ (World.ownsRow.drew own6) (Nat.le_refl _) (by have := HMM.out; omega) (by have := HMM.out; omega) (by decide) (Nat.le_refl _) (by omega) (by have := HM.out; omega) (by decide)).mono ?_; rintro e w7 ⟨rfl, own7, b7, o7⟩; have t7 : w7.cell? ⟨wr.heap.size, 1, none⟩ = some (.int .u32 (x2 : Int)) := (World.cell?_of_block (o7 wr.heap.size (by omega))).trans t1))
      have B7 : Below w1.heap.size w1 w7 := (B6.drew).trans b7
      have HO := hid own7
      clear own7 t1 t7 o7 b7 B6 own6 own5 hM2 hMne hM3
      go_wp2
      go_roundw
      case rel => exact ⟨k + 1, by omega, by go_num, by rw [HU.out]; exact HO.out, B7⟩
      case measure => simp [intOf]; omega
    · obtain rfl : k = n := by omega
      have hup : upto r k = half r := by have h1 := upto_all r; rw [HL.out] at h1; exact h1
      rw [hup] at own
      have hz := hb.size
      have hr := OwnN.nums own
      have bz := (Below.refl wr.heap.size wr).alloc (Nat.le_refl _) (.cells #[.slice (some ⟨w1.heap.size, 0, none⟩) 128 128, .slice (some ⟨w1.heap.size, 0, none⟩) 128 128] 30)
      have hrz := Row.below hr bz
      obtain ⟨s0, s1⟩ := new2 wr (.slice (some ⟨w1.heap.size, 0, none⟩) 128 128) (.slice (some ⟨w1.heap.size, 0, none⟩) 128 128) 30
      clear hup own
      go_wp2_with fail
      refine (concatB wr.heap.size _ _ 128 128 128 128 _ _ _ hrz hrz (nums_oneCell _ _) (nums_oneCell _ _) s0 s1 (by decide) (by decide) (by decide)).mono ?_
      rintro e w9 ⟨⟨v, rfl, own9⟩, b9⟩
      have B9 : Below w.heap.size w w9 := (B1.trans (hb.mono zz1)).trans ((bz.mono (by omega)).trans (b9.mono (by simp; omega)))
      have e9 : nums .u8 (half r) ++ nums .u8 (half r) = nums .u8 (enc r) := by unfold nums enc; rw [List.map_append]
      rw [e9] at own9
      have own9' := ownsRow_base (base' := w.heap.size) own9 (by simp; omega)
      clear hr hrz s0 s1 own9 b9 bz e9
      go_wp2
      refine bodyPost_ret (v := .tuple #[v, .nilIface]) (by simp [results, Tryd.results74, go_sem]) rfl ⟨⟨v, rfl, own9'⟩, B9⟩

theorem bytes_no (bs : List Addr) (lo : Nat) (r : Rt) (a : Option Addr) (n cap : Nat) (w : World) (hl : Refs w a n cap r.rs) (hB : Ev w lo bs rerr) (k : Nat) (hk : amiss r = some k) :
    Calls Tryd.prog 74 #[Rv r.ep a n cap] w fun e w' => (∃ x, bs[k]? = some x ∧ e = .returned (.tuple #[.slice none 0 0, ev x])) ∧ Below w.heap.size w w' := by
  have bx := (Below.refl w.heap.size w).alloc (Nat.le_refl _) (.cells #[.int .i64 r.ep, .slice a n cap] 98)
  obtain ⟨q0, q1⟩ := new2 w (.int .i64 r.ep) (.slice a n cap) 98
  have hfit := fits_w bs lo r a n cap _ (hl.below bx) (hB.below bx)
  rw [hk] at hfit
  go_enter Tryd.func74, Tryd.ntmps74
  go_wp2_with fail
  refine hfit.mono ?_
  rintro e w1 ⟨⟨v, ⟨x, hx, rfl⟩, rfl⟩, hb1⟩
  go_wp2
  refine bodyPost_ret (v := .tuple #[.slice none 0 0, ev x]) (by simp [results, Tryd.results74, go_sem]) rfl ⟨⟨x, hx, rfl⟩, bx.trans (hb1.mono (by simp))⟩
end Go.Proofs.YtlljpljfmaaejaaDoor.RootW
