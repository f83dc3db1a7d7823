/- The walk of root.Bytes; Small parts that the texts on roots and on areas share; The walk of root.Read, and of slices.Equal; The walk of root.one; The walks of root.Places and root.found. -/
import Derived.Test.YtbjfgdahfpfgdaaGreatDoorKeepFaultsP4
import Derived.Test.YtbjfgdahfpfgdaaGreatDoorKeepFaultsP2
import Derived.Deep.AppendLies
import Derived.Deep.RegionLaw
import Derived.WalkSpells
import Derived.StillTactics
import Derived.OwnWalk
import Derived.Test.YtbjfgdahfpfgdaaGreatDoorKeepFaultsP3
import Derived.LaidEql
import Derived.LaidEqlPtr
namespace Go.Proofs.YtbjfgdahfpfgdaaGreatDoor.RootW
open Go Go.RowKit Go.Proofs.YtbjfgdahfpfgdaaGreatDoor.Mem Go.Proofs.YtbjfgdahfpfgdaaGreatDoor.RootP Go.Proofs.YtbjfgdahfpfgdaaGreatDoor.SeeW Go.Proofs.YtbjfgdahfpfgdaaGreatDoor.RefsW Go.Proofs.YtbjfgdahfpfgdaaGreatDoor.DevG Go.Proofs.YtbjfgdahfpfgdaaGreatDoor.ConcatW
set_option linter.unusedVariables false
set_option maxRecDepth 100000

theorem refsB_take_succ {rs : List (Int × Nat)} {k : Nat} (h : k < rs.length) : refsB (rs.take (k + 1)) = refsB (rs.take k) ++ (le 2 rs[k].1.toNat ++ le 4 rs[k].2) := by
  unfold refsB
  rw [List.take_succ_eq_append_getElem h, List.flatMap_append]
  simp [refB]
/-- what is laid when k places are -/
def upto (r : Rt) (k : Nat) : List Nat := lays (zeros 128) 0 (le 6 r.ep.toNat ++ [r.rs.length] ++ refsB (r.rs.take k))
theorem upto_succ {r : Rt} {k : Nat} (h : k < r.rs.length) : upto r (k + 1) = lays (lays (upto r k) (7 + 6 * k) (le 2 r.rs[k].1.toNat)) (7 + 6 * k + 2) (le 4 r.rs[k].2) := by
  unfold upto
  rw [refsB_take_succ h, ← List.append_assoc (le 6 r.ep.toNat ++ [r.rs.length]), lays_append _ 0 (le 6 r.ep.toNat ++ [r.rs.length] ++ refsB (r.rs.take k)), lays_append _ _ (le 2 _)]
  have e : (le 6 r.ep.toNat ++ [r.rs.length] ++ refsB (r.rs.take k)).length = 7 + 6 * k := by
    simp [le_length, refsB_length]; omega
  rw [e, le_length, Nat.zero_add]
theorem upto_zero (r : Rt) : upto r 0 = (lays (zeros 128) 0 (le 6 r.ep.toNat)).set 6 r.rs.length := by
  unfold upto
  rw [List.take_zero]
  show lays _ 0 (le 6 r.ep.toNat ++ [r.rs.length] ++ []) = _
  rw [List.append_nil, lays_snoc, le_length]
theorem upto_all (r : Rt) : upto r r.rs.length = half r := by unfold upto; rw [List.take_length]; rfl

set_option maxHeartbeats 3200000 in
theorem bytes_ok (bs : List Addr) (lo : Nat) (r : Rt) (a : Option Addr) (n cap : Nat) (w : World) (hl : Refs w a n cap r.rs) (hB : Ev w lo bs rerr) (hg : RootP.Good r) (hs : ∀ x ∈ r.rs, x.2 < 4294967296) :
    Calls Tryz.prog 110 #[Rv r.ep a n cap] w fun e w' => (∃ v, e = .returned (.tuple #[v, .nilIface]) ∧ w'.ownsRow w.heap.size 5 1 v 256 (nums .u8 (enc r))) ∧ Below w.heap.size w w' := by
  have HL := hid hl.len
  obtain ⟨c1, c2⟩ := hl.bound
  obtain ⟨e1, e2, hn16, ha⟩ := hg
  obtain ⟨ep, hep⟩ := Int.eq_ofNat_of_zero_le (show 0 ≤ r.ep by omega)
  have bx := (Below.refl w.heap.size w).alloc (Nat.le_refl _) (.cells #[.int .i64 (ep : Int), .slice a n cap] 89)
  obtain ⟨q0, q1⟩ := new2 w (.int .i64 (ep : Int)) (.slice a n cap) 89
  have hfit := fits_w bs lo r a n cap _ (hl.below bx) (hB.below bx)
  rw [(good_iff r).2 ⟨e1, e2, hn16, ha⟩] at hfit
  have hx := hl.below bx
  have HE := hid hep
  rw [hep] at hfit ⊢
  have hepn : ep ≤ 1099511627776 := by omega
  have HEP := hid hepn
  have hw : IntKind.u64.wrap (ep : Int) = ep := by rw [IntKind.wrap_u64]; omega
  have HA := hid ha
  have HS := hid hs
  have hn : n ≤ 16 := by rw [← HL.out]; exact hn16
  clear e1 e2 ha hs hepn hn16 hep
  go_enter Tryz.func110, Tryz.ntmps110
  go_wp2_with fail
  refine hfit.mono ?_
  rintro e w1 ⟨⟨v, hv, rfl⟩, hb1⟩
  cases hv
  have B1 : Below w.heap.size w w1 := bx.trans (hb1.mono (by simp))
  replace q0 := kept hb1 q0
  replace q1 := kept hb1 q1
  have hx1 := hx.below hb1
  clear hx hfit bx hb1 hB
  have zz1 := B1.size
  have q0n := World.block_lt_of_cell? w1 _ q0
  go_wp2_with (at_make; go_must (refine wpList_mkn RefW.elU8 rfl _ _ rfl w1.heap.size _ _ _ _ 128 rfl rfl rfl rfl (by decide) (by decide) (Nat.le_refl _) ?_); intro w2 own2 hg2; rw [RefW.made_nums] at own2; have b2 : Below w1.heap.size w1 w2 := below_growns hg2 (Nat.le_refl _); replace q0 := kept b2 q0; replace q1 := kept b2 q1; clear hg2)
  have B2 := B1.trans (b2.mono zz1)
  have z2 := b2.size
  have g2 : w1.heap.size < w2.heap.size := (own2.lt _ rfl).2
  refine (lay_w w1.heap.size _ 128 128 _ 0 128 128 ep 6 _ own2 (Nat.le_refl _) (by decide) (by decide) (by decide) (by decide) (by decide) (by have := HEP.out; omega) (by decide)).mono ?_
  rintro e w3 ⟨rfl, own3, b3, _⟩
  have b3' := b2.trans b3
  replace q0 := keep b3 q0 q0n
  replace q1 := keep b3 q1 q0n
  have hx3 := hx1.below b3'
  have hln : ((r.rs.length : Nat) : Int) = n := by have := HL.out; omega
  obtain ⟨y, hy⟩ : ∃ y, w3.cell? ⟨w1.heap.size, 6, none⟩ = some y := ⟨_, OwnN.cell own3 (j := 6) (by rw [lays_length]; simp)⟩
  have hf := World.ownsRow.frozenAt own3 6
  have HO := hid own3
  have hc8 : IntKind.u8.wrap (n : Int) = n := by rw [IntKind.wrap_u8]; omega
  clear hw own3 b2 own2
  go_wp2_with fail
  clear hy hf hc8
  have own4 : OwnN (w3.setCell ⟨w1.heap.size, 6, none⟩ (.int .u8 (n : Int))) w1.heap.size 5 .u8 w1.heap.size 128 128 (upto r 0) := by
    rw [upto_zero, HE.out, HL.out]
    exact ownb HO.out 6 n
  have b4 : Below w1.heap.size w1 (w3.setCell ⟨w1.heap.size, 6, none⟩ (.int .u8 (n : Int))) := b3'.setCell (Nat.le_refl _) _
  replace q1 := q1
  clear HO q0 q1 hx3 b3 b3' y
  generalize w3.setCell ⟨w1.heap.size, 6, none⟩ (.int .u8 (n : Int)) = w4 at *
  go_loopw [29] (fun i wr => ∃ k : Nat, k ≤ n ∧ i = .int .i64 k ∧ OwnN wr w1.heap.size 5 .u8 w1.heap.size 128 128 (upto r k) ∧ Below w1.heap.size w1 wr) (fun i _ => n - (RowKit.intOf i).toNat)
  case atStart => exact ⟨0, by omega, rfl, own4, b4⟩
  case round =>
    clear own4 b4
    obtain ⟨k, hk, rfl, own, hb⟩ := hrel
    have hxr := hx1.below hb
    by_cases hlt : k < n
    · have hkl : k < r.rs.length := by rw [HL.out]; exact hlt
      obtain ⟨b0, o0, rfl, hc0, hc1⟩ := hxr.at hkl
      have HAd := HA.out _ (List.getElem_mem hkl)
      have HSm := HS.out _ (List.getElem_mem hkl)
      have HU := hid (upto_succ hkl)
      obtain ⟨ad, had⟩ := Int.eq_ofNat_of_zero_le HAd.1
      generalize r.rs[k] = x at hc0 hc1 HAd HSm HU had
      obtain ⟨x1, x2⟩ := x
      simp only at hc0 hc1 HAd HSm HU had
      subst had
      have ha6 : ad ≤ 6000 := by omega
      have hw1 : IntKind.u64.wrap (ad : Int) = ad := by rw [IntKind.wrap_u64]; omega
      have hw2 : IntKind.u64.wrap (x2 : Int) = x2 := by rw [IntKind.wrap_u64]; omega
      have HM := hid HSm
      clear HAd HSm
      have hz := hb.size
      have f1 : IntKind.i64.wrap (7 + 6 * (k : Int)) = ((7 + 6 * k : Nat) : Int) := by rw [IntKind.wrap_i64]; omega
      have HO := hid own
      go_wp2_with fail
      have b5 : Below w1.heap.size w1 (wr.alloc (.cells #[.int .i64 (ad : Int), .int .u32 (x2 : Int)] 111)) := hb.alloc hz _
      have t1 : (wr.alloc (.cells #[.int .i64 (ad : Int), .int .u32 (x2 : Int)] 111)).cell? ⟨wr.heap.size, 1, none⟩ = some (.int .u32 (x2 : Int)) := (new2 wr _ _ _).2
      have hgr := own.lt.2
      have z5 : (wr.alloc (.cells #[.int .i64 (ad : Int), .int .u32 (x2 : Int)] 111)).heap.size = wr.heap.size + 1 := by simp
      have own5 := own.alloc (.cells #[.int .i64 (ad : Int), .int .u32 (x2 : Int)] 111)
      generalize wr.alloc (.cells #[.int .i64 (ad : Int), .int .u32 (x2 : Int)] 111) = w5 at *
      refine (lay_w w1.heap.size _ 128 128 _ (7 + 6 * k) (128 - (7 + 6 * k)) (128 - (7 + 6 * k)) ad 2 _ own5 (Nat.le_refl _) (by omega) (by omega) (by decide) (Nat.le_refl _) (by omega) (by omega) (by decide)).mono ?_
      rintro e w6 ⟨rfl, own6, b6, o6⟩
      replace t1 : w6.cell? ⟨wr.heap.size, 1, none⟩ = some (.int .u32 (x2 : Int)) := (World.cell?_of_block (o6 wr.heap.size (by omega))).trans t1
      have B6 := b5.trans b6
      obtain ⟨M, hM⟩ : ∃ M, M = 128 - (7 + 6 * k) := ⟨_, rfl⟩
      rw [← hM]
      have HMM := hid hM
      have hM2 : (2 : Int) ≤ (M : Int) := by omega
      have hMne : ¬ M = 2 := by omega
      have hM3 : M ≤ 128 := by omega
      clear o6 b5 b6 HO own f1 hw1 hM
      go_wp2_with fail
      go_region_held3 (fun w' => w'.cell? ⟨wr.heap.size, 1, none⟩ = some (.int .u32 (x2 : Int))) (first | exact t1 | exact t7 | go_keep)
        ((go_at_call 136; refine (lay_w w1.heap.size _ 128 128 _ (7 + 6 * k + 2) (M - 2) (M - 2) x2 4 _ (World.ownsRow.drew own6) (Nat.le_refl _) (by have := HMM.out; omega) (by have := HMM.out; omega) (by decide) (Nat.le_refl _) (by omega) (by have := HM.out; omega) (by decide)).mono ?_; rintro e w7 ⟨rfl, own7, b7, o7⟩; have t7 : w7.cell? ⟨wr.heap.size, 1, none⟩ = some (.int .u32 (x2 : Int)) := (World.cell?_of_block (o7 wr.heap.size (by omega))).trans t1))
      have B7 : Below w1.heap.size w1 w7 := (B6.drew).trans b7
      have HO := hid own7
      clear own7 t1 t7 o7 b7 B6 own6 own5 hM2 hMne hM3
      go_wp2
      go_roundw
      case rel => exact ⟨k + 1, by omega, by go_num, by rw [HU.out]; exact HO.out, B7⟩
      case measure => simp [RowKit.intOf]; omega
    · obtain rfl : k = n := by omega
      have hup : upto r k = half r := by have h1 := upto_all r; rw [HL.out] at h1; exact h1
      rw [hup] at own
      have hz := hb.size
      have hr := OwnN.nums own
      have bz := (Below.refl wr.heap.size wr).alloc (Nat.le_refl _) (.cells #[.slice (some ⟨w1.heap.size, 0, none⟩) 128 128, .slice (some ⟨w1.heap.size, 0, none⟩) 128 128] 35)
      have hrz := Row.below hr bz
      obtain ⟨s0, s1⟩ := new2 wr (.slice (some ⟨w1.heap.size, 0, none⟩) 128 128) (.slice (some ⟨w1.heap.size, 0, none⟩) 128 128) 35
      clear hup own
      go_wp2_with fail
      refine (concatB wr.heap.size _ _ 128 128 128 128 _ _ _ hrz hrz (nums_oneCell _ _) (nums_oneCell _ _) s0 s1 (by decide) (by decide) (by decide)).mono ?_
      rintro e w9 ⟨⟨v, rfl, own9⟩, b9⟩
      have B9 : Below w.heap.size w w9 := (B1.trans (hb.mono zz1)).trans ((bz.mono (by omega)).trans (b9.mono (by simp; omega)))
      have e9 : nums .u8 (half r) ++ nums .u8 (half r) = nums .u8 (enc r) := by unfold nums enc; rw [List.map_append]
      rw [e9] at own9
      have own9' := ownsRow_base (base' := w.heap.size) own9 (by simp; omega)
      clear hr hrz s0 s1 own9 b9 bz e9
      go_wp2
      refine bodyPost_ret (v := .tuple #[v, .nilIface]) (by simp [results, Tryz.results110, go_sem]) rfl ⟨⟨v, rfl, own9'⟩, B9⟩

theorem bytes_no (bs : List Addr) (lo : Nat) (r : Rt) (a : Option Addr) (n cap : Nat) (w : World) (hl : Refs w a n cap r.rs) (hB : Ev w lo bs rerr) (k : Nat) (hk : amiss r = some k) :
    Calls Tryz.prog 110 #[Rv r.ep a n cap] w fun e w' => (∃ x, bs[k]? = some x ∧ e = .returned (.tuple #[.slice none 0 0, ev x])) ∧ Below w.heap.size w w' := by
  have bx := (Below.refl w.heap.size w).alloc (Nat.le_refl _) (.cells #[.int .i64 r.ep, .slice a n cap] 89)
  obtain ⟨q0, q1⟩ := new2 w (.int .i64 r.ep) (.slice a n cap) 89
  have hfit := fits_w bs lo r a n cap _ (hl.below bx) (hB.below bx)
  rw [hk] at hfit
  go_enter Tryz.func110, Tryz.ntmps110
  go_wp2_with fail
  refine hfit.mono ?_
  rintro e w1 ⟨⟨v, ⟨x, hx, rfl⟩, rfl⟩, hb1⟩
  go_wp2
  refine bodyPost_ret (v := .tuple #[.slice none 0 0, ev x]) (by simp [results, Tryz.results110, go_sem]) rfl ⟨⟨x, hx, rfl⟩, bx.trans (hb1.mono (by simp))⟩
end Go.Proofs.YtbjfgdahfpfgdaaGreatDoor.RootW

namespace Go.Proofs.YtbjfgdahfpfgdaaGreatDoor.DevG
open Go Go.RowKit Go.Maps Go.Proofs.YtbjfgdahfpfgdaaGreatDoor.Mem Go.Proofs.YtbjfgdahfpfgdaaGreatDoor.MapsW Go.Proofs.YtbjfgdahfpfgdaaGreatDoor.SeeW
theorem At.old {w : World} {lo d n : Nat} {m : Mp} {D : Dv} (h : At w lo d n m D) : ∀ x ∈ own d m, x < w.heap.size := by
  intro x hx
  rcases List.mem_cons.1 hx with rfl | hx
  · exact h.dlt
  · obtain ⟨es, ck, hb⟩ := h.maps x hx
    exact (Array.getElem?_eq_some_iff.1 hb).1
end Go.Proofs.YtbjfgdahfpfgdaaGreatDoor.DevG
namespace Go.Proofs.YtbjfgdahfpfgdaaGreatDoor.RootW
open Go Go.RowKit Go.Maps Go.Proofs.YtbjfgdahfpfgdaaGreatDoor.Mem Go.Proofs.YtbjfgdahfpfgdaaGreatDoor.MapsW Go.Proofs.YtbjfgdahfpfgdaaGreatDoor.SeeW Go.Proofs.YtbjfgdahfpfgdaaGreatDoor.RefsW Go.Proofs.YtbjfgdahfpfgdaaGreatDoor.DevG
set_option linter.unusedVariables false
set_option maxRecDepth 100000

/-- a root's errors, and a device's -/
abbrev six : List Nat := [1, 2, 3, 4, 5, 6]
theorem blk_c {w : World} {R : Nat} {x y : Value} {t : TypeId} (h : w.heap[R]? = some (.cells #[x, y] t)) : w.cell? ⟨R, 0, none⟩ = some x ∧ w.cell? ⟨R, 1, none⟩ = some y ∧ w.frozen? ⟨R, 0, none⟩ = false ∧ w.frozen? ⟨R, 1, none⟩ = false := by
  refine ⟨by simp [World.cell?, h], by simp [World.cell?, h], by simp [World.frozen?, h], by simp [World.frozen?, h]⟩
theorem own_ge {w : World} {base : Nat} {e : TypeId} {size : Nat} {a : Option Addr} {n cap m : Nat} {xs : List Value} (h : w.ownsRow base e size (.slice a n cap) m xs) : ∀ b o, a = some ⟨b, o, none⟩ → base ≤ b := by
  rintro b o rfl
  rcases h.2 with ⟨h0, _⟩ | ⟨g, c, cur, hv, hb, _⟩
  · cases h0
  · cases hv; exact hb
theorem Refs.far {w : World} {a : Option Addr} {n cap : Nat} {rs : List (Int × Nat)} (h : Refs w a n cap rs) {B : Nat} (hB : ∀ b o, a = some ⟨b, o, none⟩ → B < b) (j : Nat) (x : Value) : Refs (w.setCell ⟨B, j, none⟩ x) a n cap rs :=
  Row.keep h fun b o e _ => heap_setCell_other _ ⟨B, j, none⟩ _ _ (by have := hB b o e; simp; omega)
theorem frozen_keep {B : Nat} {w w' : World} {b o : Nat} (hb : Below B w w') (hlt : b < B) : w'.frozen? ⟨b, o, none⟩ = w.frozen? ⟨b, o, none⟩ :=
  World.frozen?_of_block (hb.block b hlt)
/-- a call that changes nothing, in a region that draws its order -/
theorem step_call {P : Program} {ops : Array Oper} {o : Oper} {a : Act} {K : Act → World → Prop} {Q : Exit → Act → World → Prop} {E : Prop} {w : World} (hgd : o.guard = none)
    (f : FuncId) (args : Array Value) (hrun : (execOp a.eval o).run P w = .ok (.enter f args) w) (R : Value) (hc : Calls P f args w fun e w' => e = .returned R ∧ w = w') (h : K (a.put o.dst R) w) :
    if Region.wanted o (yielded ops a.tmps) = true then Oper.wp P o a w K Q else E := by
  have hw : Region.wanted o (yielded ops a.tmps) = true := by simp [Region.wanted, hgd]
  rw [if_pos hw]
  unfold Oper.wp
  rw [hrun, Oper.upon_enter]
  refine hc.mono ?_
  rintro e w' ⟨rfl, rfl⟩
  exact h
/-- a place appended, in a region that draws its order -/
theorem step_push2 {ops : Array Oper} {o : Oper} {a : Act} {K : Act → World → Prop} {Q : Exit → Act → World → Prop} {E : Prop} {w : World} (hgd : o.guard = none) (s x : Operand)
    (ho : o.op = .call { callee := .builtin .append, args := #[s, x], argTypes := #[87, 87] })
    (base : Nat) (v : Value) (n : Nat) (rs : List (Int × Nat)) (hs : a.eval s = v) (hown : OwnRefs w base v n rs)
    (g : Nat) (y : Int) (z : Nat) (hx : a.eval x = .slice (some ⟨g, 0, none⟩) 1 1) (hr : Row w 2 (some ⟨g, 0, none⟩) 1 1 [.int .i64 y, .int .u32 (z : Int)]) (hn : n ≤ 1000000000) (hbase : base ≤ w.heap.size)
    (h : ∀ g' cap' w', OwnRefs w' base (.slice (some ⟨g', 0, none⟩) (n + 1) cap') (n + 1) (rs ++ [(y, z)]) → Below base w w' → w.grownBy w' v.ownBlock → K (a.put o.dst (.slice (some ⟨g', 0, none⟩) (n + 1) cap')) w') :
    if Region.wanted o (yielded ops a.tmps) = true then Oper.wp Tryz.prog o a w K Q else E := by
  obtain ⟨i, hi, hz0, hz1, hz2⟩ := info_parts elRef.hi
  refine step_append_lies w hgd s x _ ho base _ i _ 2 16 elRef.ht hi hz0 hz1 hz2 elRef.hz elRef.h0 v n _ hs hown ⟨g, 0, none⟩ 1 1 [.int .i64 y, .int .u32 (z : Int)] hx rfl ?_ (oneCell2 rfl rfl) (by decide) (by unfold maxLen; omega) (by omega) hbase _ rfl ?_
  · intro j u hj
    obtain ⟨b, off, ha, hc⟩ := hr.2.2.2.2 j u hj
    cases ha
    rw [Addr.add_lit]
    exact hc
  · intro g' cap' w' h2 h3 _ _
    refine h _ _ w' ?_ ((Below.refl _ _).grown h3 hbase fun b hb => (hown.lt b hb).1) h3
    show World.ownsRow _ _ _ _ _ _ (refCells (rs ++ [(y, z)]))
    rw [refCells_append]
    exact h2

end Go.Proofs.YtbjfgdahfpfgdaaGreatDoor.RootW

namespace Go.Proofs.YtbjfgdahfpfgdaaGreatDoor.RootW
open Go Go.RowKit Go.Proofs.YtbjfgdahfpfgdaaGreatDoor.Mem Go.Proofs.YtbjfgdahfpfgdaaGreatDoor.RootP Go.Proofs.YtbjfgdahfpfgdaaGreatDoor.SeeW Go.Proofs.YtbjfgdahfpfgdaaGreatDoor.RefsW Go.Proofs.YtbjfgdahfpfgdaaGreatDoor.DevG Go.Proofs.YtbjfgdahfpfgdaaGreatDoor.ConcatW
set_option linter.unusedVariables false
set_option maxRecDepth 100000

set_option maxHeartbeats 1600000 in
/-- two lists of bytes held against one another -/
theorem equal_w (a : Option Addr) (n cap : Nat) (l : List Nat) (b : Option Addr) (m cap' : Nat) (l' : List Nat) (w : World) (h0 : Nums .u8 w a n cap l) (h1 : Nums .u8 w b m cap' l') :
    Calls Tryz.prog 161 #[.slice a n cap, .slice b m cap'] w fun e w' => e = .returned (.bool (decide (l = l'))) ∧ Below w.heap.size w w' := by
  have hbd0 := h0.bound
  have hbd1 := h1.bound
  have HL0 := hid h0.len
  have HL1 := hid h1.len
  obtain ⟨c1, c2⟩ := hbd0
  obtain ⟨c3, c4⟩ := hbd1
  by_cases hn : n = m
  · subst hn
    go_enter Tryz.func161, Tryz.ntmps161
    go_wp2
    go_loopw [13] (fun i wr => ∃ k : Nat, k ≤ n ∧ i = .int .i64 k ∧ l.take k = l'.take k ∧ Below w.heap.size w wr) (fun i _ => n - (RowKit.intOf i).toNat)
    case atStart => exact ⟨0, by omega, rfl, by simp, Below.refl _ _⟩
    case round =>
      obtain ⟨k, hk, rfl, hT, hb⟩ := hrel
      have HT := hid hT
      clear hT
      by_cases hlt : k < n
      · have hkl : k < l.length := by rw [HL0.out]; exact hlt
        have hkl' : k < l'.length := by rw [HL1.out]; exact hlt
        obtain ⟨b0, o0, rfl, hc0⟩ := (h0.below hb).at hkl
        obtain ⟨b1, o1, rfl, hc1⟩ := (h1.below hb).at hkl'
        have HS0 := hid (List.take_succ_eq_append_getElem hkl)
        have HS1 := hid (List.take_succ_eq_append_getElem hkl')
        have HE0 := hid (List.getElem?_eq_getElem hkl)
        have HE1 := hid (List.getElem?_eq_getElem hkl')
        generalize l[k] = x at hc0 HS0 HE0
        generalize l'[k] = y at hc1 HS1 HE1
        clear h0 h1
        by_cases hxy : x = y
        · subst hxy
          go_wp2
          go_quiet (fail)
          go_wp2
          go_roundw
          case rel => exact ⟨k + 1, by omega, by go_num, by rw [HS0.out, HS1.out, HT.out], below_drewN hb _⟩
          case measure => simp [RowKit.intOf]; omega
        · have hne : ((x : Int) == (y : Int)) = false := by simp; omega
          go_wp2
          go_quiet (fail)
          go_wp2
          go_ret
          refine ⟨ret_bool ?_, below_drewN hb _⟩
          simp only [decide_eq_false_iff_not, Bool.false_eq, decide_eq_false_iff_not]
          intro he
          have h2 := HE0.out
          rw [he, HE1.out] at h2
          exact hxy (Option.some.inj h2).symm
      · obtain rfl : k = n := by omega
        have he : l = l' := RefW.same_of_take HL0.out.symm HL1.out.symm HT.out
        go_wp2
        go_ret
        exact ⟨ret_bool (by simp [he]), hb⟩
  · have hne : ((n : Int) != (m : Int)) = true := by rw [bne_iff_ne]; omega
    go_enter Tryz.func161, Tryz.ntmps161
    go_wp2
    go_ret
    exact ⟨ret_bool (by simp; intro h; exact hn (by rw [← HL0.out, ← HL1.out, h])), Below.refl _ _⟩

theorem parse_len {l : List Nat} (h : l.length ≠ 256) : parse l = none := by unfold parse; rw [if_neg (fun x => h x.1)]
theorem parse_many {l : List Nat} (h : 16 < l.getD 6 0) : parse l = none := by unfold parse; rw [if_neg (fun x => by omega)]
theorem parse_in {l : List Nat} (h1 : l.length = 256) (h2 : l.getD 6 0 ≤ 16) : parse l = if RootP.Good (dec l) ∧ enc (dec l) = l then some (dec l) else none := by unfold parse; rw [if_pos ⟨h1, h2⟩]
theorem dec_sums {l : List Nat} (hl : Crc.Bytes l) : ∀ x ∈ (dec l).rs, x.2 < 4294967296 := by
  intro x hx
  obtain ⟨i, _, rfl⟩ := List.mem_map.1 hx
  exact refAt_sum l hl i

/-- the row from a place on -/
theorem nums_drop {k : IntKind} {w : World} {b o n cap : Nat} {l : List Nat} (h : Nums k w (some ⟨b, o, none⟩) n cap l) (j : Nat) (hj : j ≤ n) : Nums k w (some ⟨b, o + j, none⟩) (n - j) (cap - j) (l.drop j) := by
  have hl := h.len
  obtain ⟨h1, h2, h3, h4, h5⟩ := h
  refine ⟨by rw [nums_length, List.length_drop]; omega, by omega, by omega, fun h => by simp at h, fun i u hi => ?_⟩
  have e : nums k (l.drop j) = (nums k l).drop j := by simp [nums, List.map_drop]
  rw [e, List.getElem?_drop] at hi
  obtain ⟨b', o', he, hc⟩ := h5 _ _ hi
  cases he
  exact ⟨b, o + j, rfl, by rw [Nat.add_assoc]; exact hc⟩

/-- what is read: a root, or none -/
def ReadTo (w : World) (r : Option Rt) (e : Ending) (w' : World) : Prop := (match r with
  | some r => ∃ a cap, e = .returned (.tuple #[Rv r.ep a r.rs.length cap, .bool true]) ∧ Refs w' a r.rs.length cap r.rs ∧ ∀ b o, a = some ⟨b, o, none⟩ → w.heap.size ≤ b
  | none => e = .returned (.tuple #[Rv 0 none 0 0, .bool false])) ∧ Below w.heap.size w w'
set_option maxHeartbeats 3200000 in
theorem read_out (a : Option Addr) (n cap : Nat) (l : List Nat) (w : World) (h : Nums .u8 w a n cap l) (hb : n ≠ 256 ∨ 16 < l.getD 6 0) :
    Calls Tryz.prog 137 #[.slice a n cap] w (ReadTo w none) := by
  have HL := hid h.len
  by_cases hn : n = 256
  · subst hn
    have h6 : 16 < l.getD 6 0 := by omega
    obtain ⟨b, o, rfl, hc⟩ := h.at (j := 6) (by rw [HL.out]; decide)
    rw [show l[6]'(by rw [HL.out]; decide) = l.getD 6 0 by rw [List.getD_eq_getElem?_getD, List.getElem?_eq_getElem (by rw [HL.out]; decide)]; rfl] at hc
    have bx := (Below.refl w.heap.size w).alloc (Nat.le_refl _) (.cells #[.int .i64 0, .slice none 0 0] 89)
    replace hc := kept bx hc
    generalize l.getD 6 0 = x at hc h6
    have hx : decide ((16 : Int) < x) = true := decide_eq_true (by omega)
    clear hb h
    go_enter Tryz.func137, Tryz.ntmps137
    go_wp2
    refine bodyPost_ret (v := .tuple #[Rv 0 none 0 0, .bool false]) (by simp [results, Tryz.results137, go_sem]) rfl ⟨rfl, (Below.refl w.heap.size w).alloc (Nat.le_refl _) _⟩
  · have hx : ((n : Int) != 256) = true := by rw [bne_iff_ne]; omega
    clear hb h
    go_enter Tryz.func137, Tryz.ntmps137
    go_wp2
    refine bodyPost_ret (v := .tuple #[Rv 0 none 0 0, .bool false]) (by simp [results, Tryz.results137, go_sem]) rfl ⟨rfl, (Below.refl w.heap.size w).alloc (Nat.le_refl _) _⟩

theorem dec_take_succ {l : List Nat} {k : Nat} (h : k < l.getD 6 0) : (dec l).rs.take (k + 1) = (dec l).rs.take k ++ [refAt l k] := by
  have hlen : (dec l).rs.length = l.getD 6 0 := by simp [dec]
  rw [List.take_succ_eq_append_getElem (by omega)]
  simp [dec]
/-- what the rounds have: the block of the root, its places so far -/
structure Rounds (w0 w : World) (R : Nat) (ep : Int) (v : Value) (k : Nat) (rs : List (Int × Nat)) : Prop where
  blk0 : w.heap[w0.heap.size]? = some (.cells #[.int .i64 0, .slice none 0 0] 89)
  blk : w.heap[R]? = some (.cells #[.int .i64 ep, v] 89)
  own : OwnRefs w (R + 1) v k rs
  b : Below w0.heap.size w0 w
  r : w0.heap.size < R
theorem Rounds.c {w0 w : World} {R : Nat} {ep : Int} {v : Value} {k : Nat} {rs : List (Int × Nat)} (h : Rounds w0 w R ep v k rs) : w.cell? ⟨R, 0, none⟩ = some (.int .i64 ep) ∧ w.cell? ⟨R, 1, none⟩ = some v ∧ w.frozen? ⟨R, 1, none⟩ = false ∧ R < w.heap.size := by
  have := h.blk
  refine ⟨by simp [World.cell?, this], by simp [World.cell?, this], by simp [World.frozen?, this], (Array.getElem?_eq_some_iff.1 this).1⟩
theorem Rounds.push {w0 wr w1 : World} {R : Nat} {ep : Int} {v : Value} {k : Nat} {rs rs' : List (Int × Nat)} (h : Rounds w0 wr R ep v k rs) {g c : Nat} (o : Obj)
    (own1 : OwnRefs w1 (R + 1) (.slice (some ⟨g, 0, none⟩) (k + 1) c) (k + 1) rs') (hb : Below (R + 1) (wr.alloc o).drew w1) :
    Rounds w0 (w1.setCell ⟨R, 1, none⟩ (.slice (some ⟨g, 0, none⟩) (k + 1) c)) R ep (.slice (some ⟨g, 0, none⟩) (k + 1) c) (k + 1) rs' := by
  have hlt := h.c.2.2.2
  have hr := h.r
  have e : ∀ i, i < R + 1 → w1.heap[i]? = wr.heap[i]? := fun i hi => (hb.block i hi).trans (((Below.refl wr.heap.size wr).alloc (Nat.le_refl _) o).block i (by omega))
  have hz := h.b.size
  refine ⟨?_, ?_, ownsRow_setCell_below own1 (Nat.lt_succ_self R) _, ?_, hr⟩
  · rw [heap_setCell_other _ ⟨R, 1, none⟩ _ _ (by simp; omega), e _ (by omega)]; exact h.blk0
  · have := (e R (by omega)).trans h.blk
    simp [World.setCell, Array.getElem?_modify, this]
  · exact (((h.b.alloc hz o).drew).trans (hb.mono (by omega))).setCell (by simp; omega) _
theorem out_read {w w4 : World} {r : Rt} {k ep cp : Nat} {a : Option Addr} (h1 : r.ep = ep) (h2 : r.rs.length = k) (h3 : Refs w4 a k cp r.rs) (h4 : Below w.heap.size w w4) (h5 : ∀ b o, a = some ⟨b, o, none⟩ → w.heap.size < b) (x y : Value) :
    ReadTo w (some r) (.returned (.tuple #[Rv ep a k cp, .bool true])) ((w4.setCell ⟨w.heap.size, 0, none⟩ x).setCell ⟨w.heap.size, 1, none⟩ y) := by
  subst h2
  refine ⟨⟨a, cp, by rw [h1], Refs.far (Refs.far h3 h5 0 x) h5 1 y, fun b o e => Nat.le_of_lt (h5 b o e)⟩, (h4.setCell (Nat.le_refl _) _).setCell (Nat.le_refl _) _⟩
theorem out_none {w w4 : World} (h4 : Below w.heap.size w w4) (x y : Value) :
    ReadTo w none (.returned (.tuple #[Rv 0 none 0 0, .bool false])) ((w4.setCell ⟨w.heap.size, 0, none⟩ x).setCell ⟨w.heap.size, 1, none⟩ y) :=
  ⟨rfl, (h4.setCell (Nat.le_refl _) _).setCell (Nat.le_refl _) _⟩
set_option maxHeartbeats 3200000 in
theorem read_in (bs : List Addr) (lo : Nat) (a : Option Addr) (cap : Nat) (l : List Nat) (w : World) (h : Nums .u8 w a 256 cap l) (hl : Crc.Bytes l) (h6 : l.getD 6 0 ≤ 16) (hB : Ev w lo bs rerr) :
    Calls Tryz.prog 137 #[.slice a 256 cap] w (ReadTo w (parse l)) := by
  have HL := hid h.len
  have hbd := h.bound
  obtain ⟨b, o, rfl, hc⟩ := h.at (j := 6) (by rw [HL.out]; decide)
  rw [show l[6]'(by rw [HL.out]; decide) = l.getD 6 0 by rw [List.getD_eq_getElem?_getD, List.getElem?_eq_getElem (by rw [HL.out]; decide)]; rfl] at hc
  obtain ⟨m, hm⟩ : ∃ m, m = l.getD 6 0 := ⟨_, rfl⟩
  rw [← hm] at hc h6
  have HM := hid hm
  clear hm
  have hx : decide ((16 : Int) < m) = false := decide_eq_false (by omega)
  have bx := (Below.refl w.heap.size w).alloc (Nat.le_refl _) (.cells #[.int .i64 0, .slice none 0 0] 89)
  have hcx := kept bx hc
  have hu := un_lt (l.take 6) fun x hx => hl x (List.mem_of_mem_take hx)
  have hu6 : (l.take 6).length = 6 := by rw [List.length_take]; have := HL.out; omega
  rw [hu6] at hu
  have hw1 : IntKind.i64.wrap ((un (l.take 6) : Nat) : Int) = ((un (l.take 6) : Nat) : Int) := by rw [IntKind.wrap_i64]; omega
  have hs := says_w _ 256 cap l 6 _ (h.below bx) hl (by decide) (by decide)
  have HEp := hid (show (dec l).ep = ((un (l.take 6) : Nat) : Int) from rfl)
  obtain ⟨ep, hep⟩ : ∃ x : Nat, x = un (l.take 6) := ⟨_, rfl⟩
  rw [← hep] at hs hw1 HEp
  clear hu hu6 hep hc
  go_enter Tryz.func137, Tryz.ntmps137
  go_wp2_with fail
  refine hs.mono ?_
  rintro e w' ⟨rfl, rfl⟩
  have z1 : (w.alloc (.cells #[.int .i64 0, .slice none 0 0] 89)).heap.size = w.heap.size + 1 := by simp
  have h2 : Rounds w ((w.alloc (.cells #[.int .i64 0, .slice none 0 0] 89)).alloc (.cells #[.int .i64 (ep : Int), .slice none 0 0] 89)) (w.heap.size + 1) ep (.slice none 0 0) 0 [] :=
    ⟨by rw [((Below.refl _ _).alloc (Nat.le_refl _) _).block _ (by omega)]; exact heap_alloc_new _ _, by rw [← z1]; exact heap_alloc_new _ _, World.ownsRow_nil _ _ _ _, bx.alloc (by omega) _, by omega⟩
  have hc2 := kept ((Below.refl _ _).alloc (Nat.le_refl _) (.cells #[.int .i64 (ep : Int), .slice none 0 0] 89)) hcx
  clear hs
  go_wp2_with fail
  clear hx hcx hw1 z1
  generalize (w.alloc (.cells #[.int .i64 0, .slice none 0 0] 89)).alloc (.cells #[.int .i64 (ep : Int), .slice none 0 0] 89) = w2 at *
  go_loopw [27] (fun i wr => ∃ (k : Nat) (v : Value), k ≤ m ∧ i = .int .i64 k ∧ Rounds w wr (w.heap.size + 1) ep v k ((dec l).rs.take k)) (fun i _ => m - (RowKit.intOf i).toNat)
  case atStart => exact ⟨0, _, by omega, rfl, h2⟩
  case round =>
    clear h2 hc2
    obtain ⟨k, v, hk, rfl, hr⟩ := hrel
    obtain ⟨q0, q1, qf, qlt⟩ := hr.c
    by_cases hlt : k < m
    · have hD := nums_drop (h.below hr.b) (7 + 6 * k) (by omega)
      have hD2 := nums_drop hD 2 (by omega)
      rw [List.drop_drop] at hD2
      have HS := hid (dec_take_succ (l := l) (k := k) (by rw [← HM.out]; exact hlt))
      have hR := refAt_sum l hl k
      have u1 := un_lt ((l.drop (7 + 6 * k)).take 2) fun x hx => hl x (List.mem_of_mem_drop (List.mem_of_mem_take hx))
      have l1 : ((l.drop (7 + 6 * k)).take 2).length ≤ 2 := by rw [List.length_take]; omega
      have u1' : un ((l.drop (7 + 6 * k)).take 2) < 65536 := Nat.lt_of_lt_of_le u1 (Nat.pow_le_pow_right (by decide) l1)
      have b1 : Crc.Bytes (l.drop (7 + 6 * k)) := fun x hx => hl x (List.mem_of_mem_drop hx)
      have b2 : Crc.Bytes (l.drop (7 + 6 * k + 2)) := fun x hx => hl x (List.mem_of_mem_drop hx)
      have s1 : ∀ w', Below wr.heap.size wr w' → _ := fun w' hb => says_w _ _ _ _ 2 w' (hD.below hb) b1 (by omega) (by decide)
      have s2 : ∀ w', Below wr.heap.size wr w' → _ := fun w' hb => says_w _ _ _ _ 4 w' (hD2.below hb) b2 (by omega) (by decide)
      have HX1 := hid (show refAt l k = (((un ((l.drop (7 + 6 * k)).take 2) : Nat) : Int), un ((l.drop (7 + 6 * k + 2)).take 4)) from rfl)
      rw [show (refAt l k).2 = un ((l.drop (7 + 6 * k + 2)).take 4) from rfl] at hR
      generalize un ((l.drop (7 + 6 * k)).take 2) = x1 at s1 u1' HX1
      generalize un ((l.drop (7 + 6 * k + 2)).take 4) = x2 at s2 hR HX1
      have w1 : IntKind.i64.wrap (x1 : Int) = x1 := by rw [IntKind.wrap_i64]; omega
      have w3 : IntKind.u32.wrap (x2 : Int) = x2 := by rw [IntKind.wrap_u32]; omega
      have f1 : IntKind.i64.wrap (7 + 6 * (k : Int)) = ((7 + 6 * k : Nat) : Int) := by rw [IntKind.wrap_i64]; omega
      obtain ⟨M, hM⟩ : ∃ M, M = 256 - (7 + 6 * k) := ⟨_, rfl⟩
      have hM2 : (2 : Int) ≤ (M : Int) := by omega
      have hMne : ¬ M = 2 := by omega
      have hcne : ¬ cap - (7 + 6 * k) = 2 := by omega
      rw [← hM] at s1 s2
      have HMM := hid hM
      simp only [Int.cast_ofNat_Int] at s1 s2
      clear hR u1 u1' l1 b1 b2 hD hD2
      go_wp2_with fail
      rw [← HMM.out]
      clear f1 hM
      go_region_law
        (first
          | (refine step_call rfl _ _ ?hr _ (s1 _ ?hb) ?_; (case hb => first | exact (Below.refl _ _).drew | exact (Below.refl _ _).drew.drew | exact Below.refl _ _); (case hr => first | rfl | go_simp))
          | (refine step_call rfl _ _ ?hr _ (s2 _ ?hb) ?_; (case hb => first | exact (Below.refl _ _).drew | exact (Below.refl _ _).drew.drew | exact Below.refl _ _); (case hr => first | rfl | go_simp))
          | (refine step_push2 rfl _ _ rfl (w.heap.size + 2) v k _ rfl (by first | exact World.ownsRow.alloc (World.ownsRow.drew hr.own) _ | exact World.ownsRow.alloc hr.own _) _ _ _ rfl (Row.fresh2 _ _ _ _) (by omega) (by simp <;> omega) ?_; intro g1 cap1 w1 own1 hb1 hg1; have t1 := keep hb1 (kept (Below.alloc (Below.drew (Below.refl wr.heap.size wr)) (by simp) (.cells #[.int .i64 (x1 : Int), .int .u32 (x2 : Int)] 111)) q1) (by omega); have t2 := (frozen_keep (o := 1) hb1 (Nat.lt_succ_self _)).trans ((frozen_keep (B := wr.heap.size) (Below.alloc (Below.drew (Below.refl _ _)) (by simp) _) qlt).trans qf)))
      all_goals
        go_wp2
        go_roundw
        case rel => exact ⟨k + 1, _, by omega, by go_num, by rw [HS.out, HX1.out]; exact hr.push _ own1 hb1⟩
        case measure => simp [RowKit.intOf]; omega
    · obtain rfl : k = m := by omega
      have hlen : (dec l).rs.length = k := by rw [HM.out]; simp [dec]
      rw [List.take_of_length_le (by omega)] at hr
      obtain ⟨a, cp, rfl, hR⟩ := refs_of hr.own
      have z0 : w.heap.size < wr.heap.size := by omega
      have hB2 := hB.turn (S := []) (Turn.of_below (hr.b.mono (Nat.le_refl _))) (by simp)
      have hl2 := h.below hr.b
      have HP := hid (parse_in HL.out (by rw [← HM.out]; exact h6))
      by_cases hG : RootP.Good (dec l)
      · have hb := bytes_ok bs lo (dec l) a k cp wr hR hB2 hG (dec_sums hl)
        rw [HEp.out] at hb
        go_wp2_with fail
        refine hb.mono ?_
        rintro e w3 ⟨⟨v3, rfl, own3⟩, b3⟩
        obtain ⟨g3, c3, rfl, n3, _⟩ := row_of own3
        have hbb := hr.b.trans (b3.mono (by omega))
        have q0' := kept b3 q0
        have q1' := kept b3 q1
        have eqw := equal_w _ _ _ _ _ _ _ _ w3 n3 (hl2.below b3)
        go_wp2_with fail
        refine eqw.mono ?_
        rintro e w4 ⟨rfl, b4⟩
        have B4 := b3.trans (b4.mono b3.size)
        have B5 := hr.b.trans (B4.mono hr.b.size)
        obtain ⟨x0, x1, y0, y1⟩ := blk_c ((B4.block _ z0).trans hr.blk0)
        obtain ⟨x2, x3, y2, y3⟩ := blk_c ((B4.block _ qlt).trans hr.blk)
        have hr4 := hR.below B4
        have HR4 := hid (out_read (r := dec l) (k := k) (ep := ep) (a := a) (cp := cp) HEp.out hlen hr4 B5 (fun b o e => by have := own_ge hr.own b o e; omega))
        have HN4 := hid B5
        clear hr4 hr hR hB2 hl2 hb eqw own3 n3 b3 b4 B4 B5 q0' q1' hbb q0 q1 qf hB
        have HN := hid (out_none HN4.out)
        by_cases he : enc (dec l) = l
        · have HQ := hid (show parse l = some (dec l) by rw [HP.out, if_pos ⟨hG, he⟩])
          rw [decide_eq_true he]
          clear he hG
          go_wp2_with fail
          refine bodyPost_ret (v := .tuple #[Rv ep a k cp, .bool true]) (by simp [results, Tryz.results137, go_sem, x0, x1]) rfl ?_
          rw [HQ.out]
          exact HR4.out _ _
        · have HQ := hid (show parse l = none by rw [HP.out, if_neg (fun x => he x.2)])
          rw [decide_eq_false he]
          clear he hG
          go_wp2_with fail
          refine bodyPost_ret (v := .tuple #[Rv 0 none 0 0, .bool false]) (by simp [results, Tryz.results137, go_sem, x0, x1]) rfl ?_
          rw [HQ.out]
          exact HN.out _ _
      · obtain ⟨kk, hkk⟩ : ∃ kk, amiss (dec l) = some kk := by
          cases hm : amiss (dec l) with
          | none => exact absurd ((good_iff _).1 hm) hG
          | some kk => exact ⟨kk, rfl⟩
        have hb := bytes_no bs lo (dec l) a k cp wr hR hB2 kk hkk
        rw [HEp.out] at hb
        have HQ := hid (show parse l = none by rw [HP.out, if_neg (fun x => hG x.1)])
        go_wp2_with fail
        refine hb.mono ?_
        rintro e w3 ⟨⟨ax, hax, rfl⟩, b3⟩
        have B5 := hr.b.trans (b3.mono hr.b.size)
        obtain ⟨x0, x1, y0, y1⟩ := blk_c ((b3.block _ z0).trans hr.blk0)
        obtain ⟨x2, x3, y2, y3⟩ := blk_c ((b3.block _ qlt).trans hr.blk)
        have HN := hid (out_none B5)
        clear hr hR hB2 hl2 hb b3 B5 q0 q1 qf hB hG hkk hax
        go_wp2_with fail
        refine bodyPost_ret (v := .tuple #[Rv 0 none 0 0, .bool false]) (by simp [results, Tryz.results137, go_sem, x0, x1]) rfl ?_
        rw [HQ.out]
        exact HN.out _ _
theorem read_w' (bs : List Addr) (lo : Nat) (a : Option Addr) (n cap : Nat) (l : List Nat) (w : World) (h : Nums .u8 w a n cap l) (hl : Crc.Bytes l) (hB : Ev w lo bs rerr) :
    Calls Tryz.prog 137 #[.slice a n cap] w (ReadTo w (parse l)) := by
  by_cases hn : n = 256
  · subst hn
    by_cases h6 : l.getD 6 0 ≤ 16
    · exact read_in bs lo a cap l w h hl h6 hB
    · rw [parse_many (by omega)]
      exact read_out a 256 cap l w h (.inr (by omega))
  · rw [parse_len (by rw [h.len]; exact hn)]
    exact read_out a n cap l w h (.inl hn)
end Go.Proofs.YtbjfgdahfpfgdaaGreatDoor.RootW

namespace Go.Proofs.YtbjfgdahfpfgdaaGreatDoor.RootW
open Go Go.RowKit Go.Maps Go.Proofs.YtbjfgdahfpfgdaaGreatDoor.Mem Go.Proofs.YtbjfgdahfpfgdaaGreatDoor.MapsW Go.Proofs.YtbjfgdahfpfgdaaGreatDoor.RootP Go.Proofs.YtbjfgdahfpfgdaaGreatDoor.SeeW Go.Proofs.YtbjfgdahfpfgdaaGreatDoor.RefsW Go.Proofs.YtbjfgdahfpfgdaaGreatDoor.DevG
set_option linter.unusedVariables false
set_option maxRecDepth 100000

/-- the root that a block has -/
def oneOf (D : Dv) (i : Int) : Option Rt := (D.read i).bind parse
/-- what is found of a block: a root, or none -/
def OneTo (w : World) (r : Option Rt) (e : Ending) (w' : World) : Prop := (match r with
  | some r => ∃ a cap, e = .returned (.tuple #[Rv r.ep a r.rs.length cap, .bool true, .nilIface]) ∧ Refs w' a r.rs.length cap r.rs ∧ ∀ b o, a = some ⟨b, o, none⟩ → w.heap.size ≤ b
  | none => e = .returned (.tuple #[Rv 0 none 0 0, .bool false, .nilIface])) ∧ Below w.heap.size w w'
theorem out_one {w w4 : World} {r : Rt} {cp : Nat} {a : Option Addr} (h3 : Refs w4 a r.rs.length cp r.rs) (h4 : Below w.heap.size w w4) (h5 : ∀ b o, a = some ⟨b, o, none⟩ → w.heap.size < b) (x y : Value) :
    OneTo w (some r) (.returned (.tuple #[Rv r.ep a r.rs.length cp, .bool true, .nilIface])) ((w4.setCell ⟨w.heap.size, 0, none⟩ x).setCell ⟨w.heap.size, 1, none⟩ y) :=
  ⟨⟨a, cp, rfl, Refs.far (Refs.far h3 h5 0 x) h5 1 y, fun b o e => Nat.le_of_lt (h5 b o e)⟩, (h4.setCell (Nat.le_refl _) _).setCell (Nat.le_refl _) _⟩
theorem out_onone {w w4 : World} (h4 : Below w.heap.size w w4) (x y : Value) :
    OneTo w none (.returned (.tuple #[Rv 0 none 0 0, .bool false, .nilIface])) ((w4.setCell ⟨w.heap.size, 0, none⟩ x).setCell ⟨w.heap.size, 1, none⟩ y) :=
  ⟨rfl, (h4.setCell (Nat.le_refl _) _).setCell (Nat.le_refl _) _⟩
theorem al_old {w : World} {o' : Obj} {k : Nat} (h : w.heap[k]? = some o') (o : Obj) : (w.alloc o).heap[k]? = some o' := by
  rw [((Below.refl w.heap.size w).alloc (Nat.le_refl _) o).block k (Array.getElem?_eq_some_iff.1 h).1]; exact h
set_option maxHeartbeats 1600000 in
theorem one_w (bs : List Addr) (d lo n : Nat) (m : Mp) (D : Dv) (i : Int) (w : World) (h : At w lo d n m D) (hB : Ev w lo bs six) (hf : Fits i) (hu : D.down = false) (hi : 0 ≤ i ∧ i < D.blocks) (hbt : ∀ l, D.read i = some l → Crc.Bytes l) :
    Calls Tryz.prog 130 #[ptr d, .int .i64 i] w (OneTo w (oneOf D i)) := by
  have bx := (Below.refl w.heap.size w).alloc (Nat.le_refl _) (.cells #[.int .i64 0, .slice none 0 0] 89)
  have hk0 := heap_alloc_new w (.cells #[.int .i64 0, .slice none 0 0] 89)
  have hzx : (w.alloc (.cells #[.int .i64 0, .slice none 0 0] 89)).heap.size = w.heap.size + 1 := by simp
  have hr := read_up bs d lo n m D i _ (h.below bx) ((hB.below bx).sub (by decide)) hf hu hi
  obtain ⟨aI, haI, hAI⟩ := (hB.below bx).get 6 _ (by decide) rfl
  have hBx := hB.below bx
  have HZ := hid hzx
  have HX := hid bx
  clear h hB bx hzx
  unfold oneOf
  cases hD : D.read i with
  | some l =>
    rw [hD] at hr
    have hb := hbt l hD
    show Calls _ _ _ w (OneTo w (parse l))
    go_enter Tryz.func130, Tryz.ntmps130
    go_wp2_with fail
    refine hr.mono ?_
    rintro e w1 ⟨⟨g, cap, rfl, hn, hg⟩, hb1⟩
    have hA1 := (hAI.below hb1).1
    have he := fun w => run_eql_iface_nil_left (P := Tryz.prog) (w := w) Err.tp (.pointer (some aI)) Tryz.underlying33
    have hB1 := hBx.below hb1
    have k1 := (hb1.block w.heap.size (by rw [HZ.out]; omega)).trans hk0
    have B1 := HX.out.trans (hb1.mono (by rw [HZ.out]; omega))
    have z1 := hb1.size
    rw [HZ.out] at z1
    have s1 : w.heap.size < w1.heap.size := by omega
    clear hr hAI hk0 hBx hb1
    go_wp2_with fail
    refine (read_w' bs lo _ 256 cap l w1 hn hb (hB1.sub (by decide))).mono ?_
    rintro e w2 ⟨hR, hb2⟩
    have B2 := B1.trans (hb2.mono (by omega))
    have k2 := (hb2.block w.heap.size s1).trans k1
    have s2 := hb2.size
    cases hp : parse l with
    | none =>
      have HP := hid hp
      rw [hp] at hR
      simp only at hR
      subst hR
      have bz := B2.alloc (by omega) (.cells #[.int .i64 0, .slice none 0 0] 89)
      have HO := hid (out_onone bz)
      obtain ⟨x0, x1, y0, y1⟩ := blk_c (al_old k2 (.cells #[.int .i64 0, .slice none 0 0] 89))
      clear hp hn hg hb hb2 B1 B2 k1 k2 hB1 bz
      go_wp2
      refine bodyPost_ret (v := .tuple #[Rv 0 none 0 0, .bool false, .nilIface]) (by simp [results, Tryz.results130, go_sem, x0, x1]) rfl (by rw [HP.out]; exact HO.out _ _)
    | some r =>
      have HP := hid hp
      rw [hp] at hR
      obtain ⟨a, c, rfl, hR, hfr⟩ := hR
      have bz := B2.alloc (by omega) (.cells #[.int .i64 r.ep, .slice a r.rs.length c] 89)
      have HO := hid (out_one (hR.below ((Below.refl _ _).alloc (Nat.le_refl _) (.cells #[.int .i64 r.ep, .slice a r.rs.length c] 89))) bz (fun b o e => by have := hfr b o e; omega))
      obtain ⟨x0, x1, y0, y1⟩ := blk_c (al_old k2 (.cells #[.int .i64 r.ep, .slice a r.rs.length c] 89))
      clear hp hn hg hb hb2 B1 B2 k1 k2 hB1 bz hR hfr
      go_wp2
      refine bodyPost_ret (v := .tuple #[Rv r.ep a r.rs.length c, .bool true, .nilIface]) (by simp [results, Tryz.results130, go_sem, x0, x1]) rfl (by rw [HP.out]; exact HO.out _ _)
  | none =>
    rw [hD] at hr
    show Calls _ _ _ w (OneTo w none)
    go_enter Tryz.func130, Tryz.ntmps130
    go_wp2_with fail
    refine hr.mono ?_
    rintro e w1 ⟨⟨aI', haI', rfl⟩, hb1⟩
    rw [haI] at haI'
    cases haI'
    have hA1 := (hAI.below hb1).1
    have k1 := (hb1.block w.heap.size (by rw [HZ.out]; omega)).trans hk0
    have HO := hid (out_onone (HX.out.trans (hb1.mono (by rw [HZ.out]; omega))))
    obtain ⟨x0, x1, y0, y1⟩ := blk_c k1
    obtain ⟨i1, hi1, hi2⟩ : ∃ i, Tryz.prog.info? Err.tp = some i ∧ i.comparable = true := ⟨_, rfl, by kernel_rfl⟩
    obtain ⟨j, hj⟩ : ∃ j, Tryz.prog.info? 263 = some j := ⟨_, rfl⟩
    have he := fun w => run_eql_iface_ptr_same (P := Tryz.prog) (w := w) aI Tryz.underlying33 Tryz.underlying247 hi1 hi2 hj
    clear hr hAI hk0 hBx hb1 k1
    go_wp2
    refine bodyPost_ret (v := .tuple #[Rv 0 none 0 0, .bool false, .nilIface]) (by simp [results, Tryz.results130, go_sem, x0, x1]) rfl (HO.out _ _)
end Go.Proofs.YtbjfgdahfpfgdaaGreatDoor.RootW

namespace Go.Proofs.YtbjfgdahfpfgdaaGreatDoor.RootW
open Go Go.RowKit Go.Maps Go.Proofs.YtbjfgdahfpfgdaaGreatDoor.Mem Go.Proofs.YtbjfgdahfpfgdaaGreatDoor.MapsW Go.Proofs.YtbjfgdahfpfgdaaGreatDoor.RootP Go.Proofs.YtbjfgdahfpfgdaaGreatDoor.SeeW Go.Proofs.YtbjfgdahfpfgdaaGreatDoor.RefsW Go.Proofs.YtbjfgdahfpfgdaaGreatDoor.DevG Go.Proofs.YtbjfgdahfpfgdaaGreatDoor.ConcatW
set_option linter.unusedVariables false
set_option maxRecDepth 100000

theorem places_w (b h ep : Nat) (w : World) (he : ep ≤ 1099511627776) (hh : h ≤ 100000) :
    Calls Tryz.prog 125 #[GeoW.G b h, .int .i64 ep] w fun e w' => ∃ g, e = .returned (.slice (some ⟨g, 0, none⟩) 2 2) ∧ Nums .i64 w' (some ⟨g, 0, none⟩) 2 2 [ep % 2, ep % 2 + h] ∧ Below w.heap.size w w' ∧ w.heap.size ≤ g := by
  have b1 := (Below.refl w.heap.size w).alloc (Nat.le_refl _) (.cells #[.int .i64 b, .int .i64 h] 25)
  have e2 : ((ep : Int)).tmod 2 = ((ep % 2 : Nat) : Int) := by
    rw [Int.tmod_eq_emod_of_nonneg (by omega)]; omega
  have e1 : IntKind.i64.wrap (((ep % 2 : Nat) : Int) + (h : Int)) = ((ep % 2 + h : Nat) : Int) := by rw [IntKind.wrap_i64]; omega
  go_enter Tryz.func125, Tryz.ntmps125
  go_wp2
  go_ret
  refine ⟨w.heap.size + 1, rfl, ?_, b1.alloc (by simp) _, by omega⟩
  have hr := Row.fresh (w.alloc (.cells #[.int .i64 b, .int .i64 h] 25)) #[.int .i64 ((ep : Int) % 2), .int .i64 ((ep : Int) % 2 + h)] 3 (0, 0) 2 rfl (by decide)
  have z : (w.alloc (.cells #[.int .i64 b, .int .i64 h] 25)).heap.size = w.heap.size + 1 := by simp
  rw [z] at hr
  have e3 : nums .i64 [ep % 2, ep % 2 + h] = [.int .i64 ((ep : Int) % 2), .int .i64 ((ep : Int) % 2 + h)] := by
    have q1 : ((ep : Int) % 2) = ((ep % 2 : Nat) : Int) := by omega
    rw [q1]; simp [nums]
  unfold Nums
  rw [e3]
  exact hr

/-- of two roots the greater epoch's -/
def better (b : Rt) (o : Option Rt) : Rt := match o with
  | some r => if b.ep < r.ep then r else b
  | none => b
/-- where roots lie -/
def spots (h : Nat) : List Nat := [0, h, 1, 1 + h]
def bestUp (D : Dv) (h k : Nat) : Rt := ((spots h).take k).foldl (fun b (i : Nat) => better b (oneOf D (i : Int))) ⟨0, []⟩
def bestOf (D : Dv) (h : Nat) : Rt := bestUp D h 4
theorem bestUp_succ (D : Dv) (h k : Nat) (hk : k < (spots h).length) : bestUp D h (k + 1) = better (bestUp D h k) (oneOf D (((spots h)[k] : Nat) : Int)) := by
  unfold bestUp
  rw [List.take_succ_eq_append_getElem hk, List.foldl_append]
  rfl

/-- what the rounds have: the block of the result, the block of the best -/
structure Best (w0 w : World) (B : Nat) (a : Option Addr) (c : Nat) (b : Rt) : Prop where
  blk0 : w.heap[w0.heap.size]? = some (.cells #[.int .i64 0, .slice none 0 0] 89)
  blk : w.heap[B]? = some (.cells #[.int .i64 b.ep, .slice a b.rs.length c] 89)
  refs : Refs w a b.rs.length c b.rs
  far : ∀ g o, a = some ⟨g, o, none⟩ → B < g
  b : Below w0.heap.size w0 w
  r : w0.heap.size < B
theorem Best.on {w0 w w' : World} {B : Nat} {a : Option Addr} {c : Nat} {b : Rt} (h : Best w0 w B a c b) (hb : Below w.heap.size w w') : Best w0 w' B a c b := by
  have h1 := (Array.getElem?_eq_some_iff.1 h.blk0).1
  have h2 := (Array.getElem?_eq_some_iff.1 h.blk).1
  exact ⟨(hb.block _ h1).trans h.blk0, (hb.block _ h2).trans h.blk, h.refs.below hb, h.far, h.b.trans (hb.mono h.b.size), h.r⟩
theorem Best.put {w0 w : World} {B : Nat} {a : Option Addr} {c : Nat} {b : Rt} (h : Best w0 w B a c b) {r : Rt} {a' : Option Addr} {c' : Nat} (hr : Refs w a' r.rs.length c' r.rs) (hf : ∀ g o, a' = some ⟨g, o, none⟩ → B < g) :
    Best w0 ((w.setCell ⟨B, 0, none⟩ (.int .i64 r.ep)).setCell ⟨B, 1, none⟩ (.slice a' r.rs.length c')) B a' c' r := by
  have hr0 := h.r
  refine ⟨?_, ?_, Refs.far (Refs.far hr hf 0 _) hf 1 _, hf, (h.b.setCell (by simp; omega) _).setCell (by simp; omega) _, hr0⟩
  · rw [heap_setCell_other _ ⟨B, 1, none⟩ _ _ (by simp; omega), heap_setCell_other _ ⟨B, 0, none⟩ _ _ (by simp; omega)]; exact h.blk0
  · have := h.blk
    simp [World.setCell, Array.getElem?_modify, this]

theorem nums_far {k : IntKind} {w : World} {a : Option Addr} {n cap : Nat} {l : List Nat} (h : Nums k w a n cap l) {B : Nat} (hB : ∀ b o, a = some ⟨b, o, none⟩ → B < b) (j : Nat) (x : Value) : Nums k (w.setCell ⟨B, j, none⟩ x) a n cap l :=
  Row.keep h fun b o e _ => heap_setCell_other _ ⟨B, j, none⟩ _ _ (by have := hB b o e; simp; omega)
/-- what is found: the root of the greatest epoch -/
def FoundTo (w : World) (b : Rt) (e : Ending) (w' : World) : Prop :=
  (∃ a c, e = .returned (.tuple #[Rv b.ep a b.rs.length c, .nilIface]) ∧ Refs w' a b.rs.length c b.rs ∧ ∀ g o, a = some ⟨g, o, none⟩ → w.heap.size < g) ∧ Below w.heap.size w w'
theorem spots_nums (H : Nat) : nums .i64 [0 % 2, 0 % 2 + H] ++ nums .i64 [1 % 2, 1 % 2 + H] = nums .i64 (spots H) := by simp [nums, spots]
/-- the four places, whichever half was told first -/
theorem four (H : Nat) (w0 wA wB : World) (gA gB : Nat) (nA : Nums .i64 wA (some ⟨gA, 0, none⟩) 2 2 [0 % 2, 0 % 2 + H]) (nB : Nums .i64 wB (some ⟨gB, 0, none⟩) 2 2 [1 % 2, 1 % 2 + H]) (w : World) (kA : Below wA.heap.size wA w) (kB : Below wB.heap.size wB w) (k : Below w0.heap.size w0 w) :
    Calls Tryz.prog 129 #[.slice (some ⟨w.heap.size, 0, none⟩) 2 2] (w.alloc (.cells #[.slice (some ⟨gA, 0, none⟩) 2 2, .slice (some ⟨gB, 0, none⟩) 2 2] 62)) fun e w' => (∃ a c, e = .returned (.slice a 4 c) ∧ Nums .i64 w' a 4 c (spots H) ∧ ∀ b o, a = some ⟨b, o, none⟩ → w0.heap.size ≤ b) ∧ Below w0.heap.size w0 w' := by
  have al := (Below.refl w.heap.size w).alloc (Nat.le_refl _) (.cells #[.slice (some ⟨gA, 0, none⟩) 2 2, .slice (some ⟨gB, 0, none⟩) 2 2] 62)
  obtain ⟨s0, s1⟩ := new2 w (.slice (some ⟨gA, 0, none⟩) 2 2) (.slice (some ⟨gB, 0, none⟩) 2 2) 62
  refine (concatI w.heap.size _ _ 2 2 2 2 _ _ _ ((nA.below kA).below al) ((nB.below kB).below al) (nums_oneCell _ _) (nums_oneCell _ _) s0 s1 (by decide) (by decide) (by decide)).mono ?_
  rintro e w5 ⟨⟨v5, rfl, own5⟩, b5⟩
  rw [spots_nums] at own5
  obtain ⟨a, c, rfl, n5⟩ := ownsRow_slice own5
  exact ⟨⟨a, c, rfl, n5, fun b o e => by have := own_ge own5 b o e; have := k.size; simp at *; omega⟩, (k.alloc k.size _).trans (b5.mono (by have := k.size; simp; omega))⟩
set_option maxHeartbeats 3200000 in
theorem found_w (bs : List Addr) (d lo n : Nat) (m : Mp) (D : Dv) (w : World) (h : At w lo d n m D) (hB : Ev w lo bs six) (hu : D.down = false) (hb1 : 300 ≤ D.blocks) (hb2 : D.blocks ≤ 6000) (hbt : ∀ i l, D.read i = some l → Crc.Bytes l) :
    Calls Tryz.prog 97 #[ptr d] w (FoundTo w (bestOf D (GeoW.half D.blocks))) := by
  have bx := (Below.refl w.heap.size w).alloc (Nat.le_refl _) (.cells #[.int .i64 0, .slice none 0 0] 89)
  have hk0 := heap_alloc_new w (.cells #[.int .i64 0, .slice none 0 0] 89)
  have hzx : (w.alloc (.cells #[.int .i64 0, .slice none 0 0] 89)).heap.size = w.heap.size + 1 := by simp
  obtain ⟨H, hH⟩ : ∃ H, H = GeoW.half D.blocks := ⟨_, rfl⟩
  have hH1 := GeoW.half_le D.blocks
  have hH2 := GeoW.half_512 D.blocks
  have hof := fun w => GeoW.of_good D.blocks w hb1 hb2
  rw [← hH] at hH1 hH2 ⊢
  simp only [← hH] at hof
  clear hH
  go_enter Tryz.func97, Tryz.ntmps97
  go_wp2_with fail
  refine (blocks_w d lo n m D _ (h.below bx)).mono ?_
  rintro e w' ⟨rfl, rfl⟩
  go_wp2_with fail
  refine (hof _).mono ?_
  rintro e w1 ⟨rfl, b1⟩
  have s1 := b1.size
  rw [hzx] at s1
  have k1 := (b1.block w.heap.size (by omega)).trans hk0
  have B1 := bx.trans (b1.mono (by omega))
  clear b1
  have z2 : (w1.alloc (.cells #[.int .i64 (D.blocks : Int), .int .i64 (H : Int)] 25)).heap.size = w1.heap.size + 1 := by simp
  have hN : Best w ((w1.alloc (.cells #[.int .i64 (D.blocks : Int), .int .i64 (H : Int)] 25)).alloc (.cells #[.int .i64 0, .slice none 0 0] 89)) (w1.heap.size + 1) none 0 (bestUp D H 0) :=
    ⟨al_old (al_old k1 _) _, by rw [← z2]; exact heap_alloc_new _ _, Refs.nil _, fun g o e => (by cases e), (B1.alloc (by omega) _).alloc (by simp; omega) _, by omega⟩
  obtain ⟨g0, g1, _, _⟩ := blk_c (al_old (heap_alloc_new w1 (.cells #[.int .i64 (D.blocks : Int), .int .i64 (H : Int)] 25)) (.cells #[.int .i64 0, .slice none 0 0] 89))
  have zz2 : ((w1.alloc (.cells #[.int .i64 (D.blocks : Int), .int .i64 (H : Int)] 25)).alloc (.cells #[.int .i64 0, .slice none 0 0] 89)).heap.size = w1.heap.size + 2 := by simp
  clear z2 k1 hk0 hzx bx
  go_wp2_with fail
  generalize (w1.alloc (.cells #[.int .i64 (D.blocks : Int), .int .i64 (H : Int)] 25)).alloc (.cells #[.int .i64 0, .slice none 0 0] 89) = w2 at *
  have p0 := fun w => places_w D.blocks H 0 w (by decide) (by omega)
  have p1 := fun w => places_w D.blocks H 1 w (by decide) (by omega)
  simp only [Int.cast_ofNat_Int] at p0 p1
  go_region_held3 (fun w' => w'.cell? ⟨w1.heap.size, 0, none⟩ = some (.int .i64 (D.blocks : Int)) ∧ w'.cell? ⟨w1.heap.size, 1, none⟩ = some (.int .i64 (H : Int)))
    (first | exact ⟨g0, g1⟩ | exact ⟨kept b5 g0, kept b5 g1⟩ | exact ⟨kept bA (kept bB g0), kept bA (kept bB g1)⟩ | exact ⟨kept bB (kept bA g0), kept bB (kept bA g1)⟩ | exact ⟨kept bA g0, kept bA g1⟩ | exact ⟨kept bB g0, kept bB g1⟩ | go_keep)
    (first
      | (go_at_call 125; first
          | (with_reducible refine (p0 _).mono ?_; rintro e wA ⟨gA, rfl, nA, bA, fA⟩)
          | (with_reducible refine (p1 _).mono ?_; rintro e wB ⟨gB, rfl, nB, bB, fB⟩))
      | (go_at_call 129; first
          | (have c4 := four H w2 wA wB gA gB nA nB wB bB (Below.refl _ _) (((Below.drew (Below.refl w2.heap.size w2)).trans bA).trans (bB.mono bA.size)); refine c4.mono ?_; rintro e w5 ⟨⟨a5, c5, rfl, n5, f5⟩, b5⟩)
          | (have c4 := four H w2 wA wB gA gB nA nB wA (Below.refl _ _) bA (((Below.drew (Below.refl w2.heap.size w2)).trans bB).trans (bA.mono bB.size)); refine c4.mono ?_; rintro e w5 ⟨⟨a5, c5, rfl, n5, f5⟩, b5⟩)))
  all_goals
    have hN5 := hN.on b5
    have F5 := hid (show ∀ b o, a5 = some ⟨b, o, none⟩ → w1.heap.size + 1 < b from fun b o e => by have := f5 b o e; omega)
    clear f5 p0 p1 nA nB bA bB fA fB g0 g1 hN zz2 hof
    go_wp2_with fail
    go_loopw [29] (fun i wr => ∃ (k : Nat) (a : Option Addr) (c : Nat), k ≤ 4 ∧ i = .int .i64 k ∧ Best w wr (w1.heap.size + 1) a c (bestUp D H k) ∧ Nums .i64 wr a5 4 c5 (spots H)) (fun i _ => 4 - (RowKit.intOf i).toNat)
    case atStart => exact ⟨0, none, 0, by omega, rfl, hN5, n5⟩
    case round =>
      clear hN5 n5
      obtain ⟨k, a, c, hk, rfl, hN, n5⟩ := hrel
      by_cases hlt : k < 4
      · have hkl : k < (spots H).length := hlt
        obtain ⟨bq, oq, rfl, hc⟩ := n5.at hkl
        have HS := hid (bestUp_succ D H k hkl)
        have hin : (spots H)[k] < D.blocks := by
          have : ∀ x ∈ spots H, x < D.blocks := by simp [spots]; omega
          exact this _ (List.getElem_mem hkl)
        generalize (spots H)[k] = x at hc HS hin
        have hfx : Fits (x : Int) := fits_nat (by omega)
        have ho := one_w bs d lo n m D x wr (h.below hN.b) (hB.below hN.b) hfx hu (by omega) (hbt _)
        generalize bestUp D H k = bst at hN HS
        go_wp2_with fail
        refine ho.mono ?_
        rintro e w6 ⟨hO, b6⟩
        have hN6 := hN.on b6
        have hz6 := b6.size
        have c6 := n5.below b6
        cases ho1 : oneOf D x with
        | none =>
          rw [ho1] at hO HS
          simp only at hO
          subst hO
          have HN := hid (hN6.on ((Below.refl w6.heap.size w6).alloc (Nat.le_refl _) (.cells #[.int .i64 0, .slice none 0 0] 89)))
          have HC := hid (c6.below ((Below.refl w6.heap.size w6).alloc (Nat.le_refl _) (.cells #[.int .i64 0, .slice none 0 0] 89)))
          clear ho hc hN hN6 b6 c6 n5 ho1
          go_wp2_with fail
          go_roundw
          case rel => exact ⟨k + 1, a, c, by omega, by go_num, by rw [HS.out]; exact HN.out, HC.out⟩
          case measure => simp [RowKit.intOf]; omega
        | some r =>
          rw [ho1] at hO HS
          obtain ⟨a', c', rfl, hR, hfr⟩ := hO
          have HN := hid (hN6.on ((Below.refl w6.heap.size w6).alloc (Nat.le_refl _) (.cells #[.int .i64 r.ep, .slice a' r.rs.length c'] 89)))
          have HC := hid (c6.below ((Below.refl w6.heap.size w6).alloc (Nat.le_refl _) (.cells #[.int .i64 r.ep, .slice a' r.rs.length c'] 89)))
          have HR := hid (hR.below ((Below.refl w6.heap.size w6).alloc (Nat.le_refl _) (.cells #[.int .i64 r.ep, .slice a' r.rs.length c'] 89)))
          have HF := hid (show ∀ g o, a' = some ⟨g, o, none⟩ → w1.heap.size + 1 < g from fun g o e => by have := hfr g o e; have := (Array.getElem?_eq_some_iff.1 hN.blk).1; omega)
          obtain ⟨t0, t1⟩ := new2 w6 (.int .i64 r.ep) (.slice a' r.rs.length c') 89
          obtain ⟨x0, x1, y0, y1⟩ := blk_c (al_old hN6.blk (.cells #[.int .i64 r.ep, .slice a' r.rs.length c'] 89))
          clear ho hc hN hN6 b6 c6 n5 ho1 hR hfr
          by_cases hcmp : bst.ep < r.ep
          · have hd : decide (bst.ep < r.ep) = true := decide_eq_true hcmp
            have HB := hid (show better bst (some r) = r from if_pos hcmp)
            clear hcmp
            go_wp2_with fail
            go_roundw
            case rel => exact ⟨k + 1, a', c', by omega, by go_num, by rw [HS.out, HB.out]; exact HN.out.put HR.out HF.out, nums_far (nums_far HC.out F5.out 0 _) F5.out 1 _⟩
            case measure => simp [RowKit.intOf]; omega
          · have hd : decide (bst.ep < r.ep) = false := decide_eq_false hcmp
            have HB := hid (show better bst (some r) = bst from if_neg hcmp)
            clear hcmp
            go_wp2_with fail
            go_roundw
            case rel => exact ⟨k + 1, a, c, by omega, by go_num, by rw [HS.out, HB.out]; exact HN.out, HC.out⟩
            case measure => simp [RowKit.intOf]; omega
      · obtain rfl : k = 4 := by omega
        obtain ⟨x0, x1, y0, y1⟩ := blk_c hN.blk
        obtain ⟨x2, x3, y2, y3⟩ := blk_c hN.blk0
        have HB := hid (show bestUp D H 4 = bestOf D H from rfl)
        have HN := hid hN
        clear hN n5
        generalize bestUp D H 4 = bst at *
        go_wp2_with fail
        refine bodyPost_ret (v := .tuple #[Rv bst.ep a bst.rs.length c, .nilIface]) (by simp [results, Tryz.results97, go_sem, x2, x3]) rfl ?_
        rw [← HB.out]
        exact ⟨⟨a, c, rfl, Refs.far (Refs.far HN.out.refs (fun g o e => by have := HN.out.far g o e; have := HN.out.r; omega) 0 _) (fun g o e => by have := HN.out.far g o e; have := HN.out.r; omega) 1 _, fun g o e => by have := HN.out.far g o e; have := HN.out.r; omega⟩, (HN.out.b.setCell (Nat.le_refl _) _).setCell (Nat.le_refl _) _⟩
end Go.Proofs.YtbjfgdahfpfgdaaGreatDoor.RootW
