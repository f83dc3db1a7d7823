/- The walks of root.Load and root.Copies; Maps of places and sums keyed by an int; Maps of rows of bytes keyed by an int, nil among them; The store that a device without a root has; Maps of rows of bytes keyed by texts; The keys of a map of rows keyed by texts, rising: slices.Sorted of maps.Keys; Texts: their bytes as numbers; appended to bytes, and made of bytes; Keys in order: plain law; The walks of package keep: Open of a store without a page, Put, Len; The walks of package keep: Open of a store without a page, Len, keys. -/
import Derived.Test.YtbjfgdahfpfgdaaGreatDoorKeepFaultsP5
import Derived.Test.YtbjfgdahfpfgdaaGreatDoorKeepFaultsP1
import Derived.Maps.OwnSet
import Derived.Test.YtbjfgdahfpfgdaaGreatDoorKeepFaultsP3
import Derived.StringKeys
import Derived.Test.YtbjfgdahfpfgdaaGreatDoorShelfS
import Derived.Test.YtbjfgdahfpfgdaaGreatDoorProg
import Derived.Lib.AppendStr
import Derived.Laws.BytesString
import Derived.Laws.BytesArg
import Derived.Deep.RegionHeld3
namespace Go.Proofs.YtbjfgdahfpfgdaaGreatDoor.RootW
open Go Go.RowKit Go.Maps Go.Proofs.YtbjfgdahfpfgdaaGreatDoor.Mem Go.Proofs.YtbjfgdahfpfgdaaGreatDoor.MapsW Go.Proofs.YtbjfgdahfpfgdaaGreatDoor.RootP Go.Proofs.YtbjfgdahfpfgdaaGreatDoor.SeeW Go.Proofs.YtbjfgdahfpfgdaaGreatDoor.RefsW Go.Proofs.YtbjfgdahfpfgdaaGreatDoor.DevG Go.Proofs.YtbjfgdahfpfgdaaGreatDoor.ConcatW
set_option linter.unusedVariables false
set_option maxRecDepth 100000

/-- what is loaded -/
def LoadTo (w : World) (b : Rt) (e : Ending) (w' : World) : Prop :=
  (∃ a c, e = .returned (.tuple #[Rv b.ep a b.rs.length c, .bool (decide (0 < b.ep)), .nilIface]) ∧ Refs w' a b.rs.length c b.rs) ∧ Below w.heap.size w w'
/-- .. and the places are new -/
def LoadFar (w : World) (b : Rt) (e : Ending) (w' : World) : Prop :=
  (∃ a c, e = .returned (.tuple #[Rv b.ep a b.rs.length c, .bool (decide (0 < b.ep)), .nilIface]) ∧ Refs w' a b.rs.length c b.rs ∧ ∀ g o, a = some ⟨g, o, none⟩ → w.heap.size < g) ∧ Below w.heap.size w w'
theorem out_load {w w4 : World} {r : Rt} {cp : Nat} {a : Option Addr} (h3 : Refs w4 a r.rs.length cp r.rs) (h4 : Below w.heap.size w w4) (h5 : ∀ b o, a = some ⟨b, o, none⟩ → w.heap.size < b) (x y : Value) :
    LoadFar w r (.returned (.tuple #[Rv r.ep a r.rs.length cp, .bool (decide (0 < r.ep)), .nilIface])) ((w4.setCell ⟨w.heap.size, 0, none⟩ x).setCell ⟨w.heap.size, 1, none⟩ y) :=
  ⟨⟨a, cp, rfl, Refs.far (Refs.far h3 h5 0 x) h5 1 y, h5⟩, (h4.setCell (Nat.le_refl _) _).setCell (Nat.le_refl _) _⟩
theorem drew_load {w w' : World} {b : Rt} {e : Ending} (h : LoadFar w b e w') : LoadFar w b e w'.drew := by
  obtain ⟨⟨a, c, e, h, hf⟩, hb⟩ := h
  exact ⟨⟨a, c, e, h.below (Below.refl _ _).drew, hf⟩, hb.drew⟩
set_option maxHeartbeats 1600000 in
theorem load_far (bs : List Addr) (d lo n : Nat) (m : Mp) (D : Dv) (w : World) (h : At w lo d n m D) (hB : Ev w lo bs six) (hu : D.down = false) (hb1 : 300 ≤ D.blocks) (hb2 : D.blocks ≤ 6000) (hbt : ∀ i l, D.read i = some l → Crc.Bytes l) :
    Calls Tryz.prog 54 #[ptr d] w (LoadFar w (bestOf D (GeoW.half D.blocks))) := by
  have bx := (Below.refl w.heap.size w).alloc (Nat.le_refl _) (.cells #[.int .i64 0, .slice none 0 0] 89)
  have hk0 := heap_alloc_new w (.cells #[.int .i64 0, .slice none 0 0] 89)
  have hf := found_w bs d lo n m D _ (h.below bx) (hB.below bx) hu hb1 hb2 hbt
  generalize bestOf D (GeoW.half D.blocks) = b at *
  clear h hB hbt
  go_enter Tryz.func54, Tryz.ntmps54
  go_wp2_with fail
  refine hf.mono ?_
  rintro e w1 ⟨⟨a, c, rfl, hR, hfar⟩, b1⟩
  have s1 := b1.size
  have k1 := (b1.block w.heap.size (by simp)).trans hk0
  have B1 := bx.trans (b1.mono (by simp))
  have al := (Below.refl w1.heap.size w1).alloc (Nat.le_refl _) (.cells #[.int .i64 b.ep, .slice a b.rs.length c] 89)
  obtain ⟨t0, t1⟩ := new2 w1 (.int .i64 b.ep) (.slice a b.rs.length c) 89
  obtain ⟨x0, x1, y0, y1⟩ := blk_c (al_old k1 (.cells #[.int .i64 b.ep, .slice a b.rs.length c] 89))
  have HO := hid (out_load (w := w) (hR.below al) (B1.trans (al.mono (by simp at s1; omega))) (fun g o e => by have := hfar g o e; simp at this; omega))
  have hne1 : w1.heap.size ≠ w.heap.size := by simp at s1; omega
  have hne2 : w.heap.size ≠ w1.heap.size := fun e => hne1 e.symm
  clear hf bx hk0 hR hfar b1 k1 B1 al
  go_wp2_with fail
  go_region
  all_goals
    go_wp2
    refine bodyPost_ret (v := .tuple #[Rv b.ep a b.rs.length c, .bool (decide (0 < b.ep)), .nilIface]) (by simp [results, Tryz.results54, go_sem, x0, x1]) rfl (drew_load (HO.out _ _))
theorem load_w (bs : List Addr) (d lo n : Nat) (m : Mp) (D : Dv) (w : World) (h : At w lo d n m D) (hB : Ev w lo bs six) (hu : D.down = false) (hb1 : 300 ≤ D.blocks) (hb2 : D.blocks ≤ 6000) (hbt : ∀ i l, D.read i = some l → Crc.Bytes l) :
    Calls Tryz.prog 54 #[ptr d] w (LoadTo w (bestOf D (GeoW.half D.blocks))) := by
  refine (load_far bs d lo n m D w h hB hu hb1 hb2 hbt).mono ?_
  rintro e w' ⟨⟨a, c, he, hr, _⟩, hb⟩
  exact ⟨⟨a, c, he, hr⟩, hb⟩

/-- has a block the root of an epoch? -/
def hasEp (D : Dv) (ep : Nat) (i : Nat) : Bool := match oneOf D i with
  | some r => decide (r.ep = ep)
  | none => false
abbrev pair (H ep : Nat) : List Nat := [ep % 2, ep % 2 + H]
def copiesUp (D : Dv) (H ep k : Nat) : Nat := ((pair H ep).take k).countP (hasEp D ep)
/-- how many of its two blocks have a root -/
def copies (D : Dv) (H ep : Nat) : Nat := copiesUp D H ep 2
theorem copiesUp_succ (D : Dv) (H ep k : Nat) (hk : k < (pair H ep).length) : copiesUp D H ep (k + 1) = copiesUp D H ep k + (if hasEp D ep (pair H ep)[k] then 1 else 0) := by
  unfold copiesUp
  rw [List.take_succ_eq_append_getElem hk, List.countP_append, List.countP_cons, List.countP_nil]
  simp
theorem copiesUp_le (D : Dv) (H ep k : Nat) : copiesUp D H ep k ≤ 2 := by
  unfold copiesUp
  refine Nat.le_trans List.countP_le_length ?_
  rw [List.length_take]; simp; omega
set_option maxHeartbeats 3200000 in
theorem copies_w (bs : List Addr) (d lo n : Nat) (m : Mp) (D : Dv) (w : World) (h : At w lo d n m D) (hB : Ev w lo bs six) (hu : D.down = false) (hb1 : 300 ≤ D.blocks) (hb2 : D.blocks ≤ 6000) (hbt : ∀ i l, D.read i = some l → Crc.Bytes l) (ep : Nat) (hep : (bestOf D (GeoW.half D.blocks)).ep = ep) (h0 : 0 < ep) (h40 : ep ≤ 1099511627776) :
    Calls Tryz.prog 102 #[ptr d] w fun e w' => e = .returned (.tuple #[.int .i64 (copies D (GeoW.half D.blocks) ep : Nat), .nilIface]) ∧ Below w.heap.size w w' := by
  have hf := found_w bs d lo n m D _ h hB hu hb1 hb2 hbt
  obtain ⟨H, hH⟩ : ∃ H, H = GeoW.half D.blocks := ⟨_, rfl⟩
  have hH1 := GeoW.half_le D.blocks
  have hH2 := GeoW.half_512 D.blocks
  have hof := fun w => GeoW.of_good D.blocks w hb1 hb2
  rw [← hH] at hH1 hH2 hf hep ⊢
  simp only [← hH] at hof
  clear hH
  generalize bestOf D H = b at hf hep
  have he0 : ((ep : Int) == 0) = false := by rw [beq_eq_false_iff_ne]; omega
  obtain ⟨bep, brs⟩ := b
  simp only at hep
  subst hep
  go_enter Tryz.func102, Tryz.ntmps102
  go_wp2_with fail
  refine hf.mono ?_
  rintro e w1 ⟨⟨a, c, rfl, hR, hfar⟩, b1⟩
  have al := (Below.refl w1.heap.size w1).alloc (Nat.le_refl _) (.cells #[.int .i64 (ep : Int), .slice a brs.length c] 89)
  obtain ⟨t0, t1⟩ := new2 w1 (.int .i64 (ep : Int)) (.slice a brs.length c) 89
  have B2 := b1.trans (al.mono b1.size)
  clear hf hR hfar al
  go_wp2_with fail
  refine (blocks_w d lo n m D _ (h.below B2)).mono ?_
  rintro e w' ⟨rfl, rfl⟩
  go_wp2_with fail
  refine (hof _).mono ?_
  rintro e w2 ⟨rfl, b2⟩
  have B3 := B2.trans (b2.mono B2.size)
  replace t0 := kept b2 t0
  have al := (Below.refl w2.heap.size w2).alloc (Nat.le_refl _) (.cells #[.int .i64 (D.blocks : Int), .int .i64 (H : Int)] 25)
  obtain ⟨g0, g1⟩ := new2 w2 (.int .i64 (D.blocks : Int)) (.int .i64 (H : Int)) 25
  replace t0 := kept al t0
  have B4 := B3.trans (al.mono B3.size)
  clear b1 b2 al B2 B3 hof t1
  go_wp2_with fail
  refine (places_w D.blocks H ep _ h40 (by omega)).mono ?_
  rintro e w3 ⟨gp, rfl, np, b3, fp⟩
  have B5 := B4.trans (b3.mono B4.size)
  replace t0 := kept b3 t0
  clear g0 g1 B4 b3 fp
  go_wp2_with fail
  go_loopw [7, 40] (fun cn i wr => ∃ k : Nat, k ≤ 2 ∧ i = .int .i64 k ∧ cn = .int .i64 (copiesUp D H ep k) ∧ Below w3.heap.size w3 wr) (fun _ i _ => 2 - (RowKit.intOf i).toNat)
  case atStart => exact ⟨0, by omega, rfl, rfl, Below.refl _ _⟩
  case round =>
    obtain ⟨k, hk, rfl, rfl, hb⟩ := hrel
    have hle := copiesUp_le D H ep k
    by_cases hlt : k < 2
    · have hkl : k < (pair H ep).length := hlt
      obtain ⟨bq, oq, e, hc⟩ := (np.below hb).at hkl
      cases e
      have HS := hid (copiesUp_succ D H ep k hkl)
      have hin : (pair H ep)[k] < D.blocks := by
        have : ∀ x ∈ pair H ep, x < D.blocks := by simp [pair]; omega
        exact this _ (List.getElem_mem hkl)
      generalize (pair H ep)[k] = x at hc HS hin
      have hfx : Fits (x : Int) := fits_nat (by omega)
      have ho := one_w bs d lo n m D x wr (h.below (B5.trans (hb.mono B5.size))) (hB.below (B5.trans (hb.mono B5.size))) hfx hu (by omega) (hbt _)
      generalize copiesUp D H ep k = cn at *
      replace t0 := kept hb t0
      rw [Nat.zero_add] at hc
      go_wp2_with fail
      refine ho.mono ?_
      rintro e w6 ⟨hO, b6⟩
      have c6 := hb.trans (b6.mono hb.size)
      replace t0 := kept b6 t0
      cases ho1 : oneOf D x with
      | none =>
        rw [ho1] at hO
        simp only at hO
        subst hO
        have HH := hid (show hasEp D ep x = false by unfold hasEp; rw [ho1])
        have HC := hid (c6.alloc c6.size (.cells #[.int .i64 0, .slice none 0 0] 89))
        clear ho hc hb b6 c6 ho1
        go_wp2_with fail
        go_roundw
        case rel => exact ⟨k + 1, by omega, by go_num, by rw [HS.out, HH.out]; simp, HC.out⟩
        case measure => simp [RowKit.intOf]; omega
      | some r =>
        rw [ho1] at hO
        obtain ⟨a', c', rfl, hR, hfr⟩ := hO
        have HC := hid (c6.alloc c6.size (.cells #[.int .i64 r.ep, .slice a' r.rs.length c'] 89))
        obtain ⟨x0, x1⟩ := new2 w6 (.int .i64 r.ep) (.slice a' r.rs.length c') 89
        replace t0 := kept ((Below.refl w6.heap.size w6).alloc (Nat.le_refl _) (.cells #[.int .i64 r.ep, .slice a' r.rs.length c'] 89)) t0
        by_cases hre : r.ep = ep
        · have HH := hid (show hasEp D ep x = true by unfold hasEp; rw [ho1]; exact decide_eq_true hre)
          have hd : (r.ep == (ep : Int)) = true := by rw [beq_iff_eq]; exact hre
          clear ho hc hb b6 c6 ho1 hR hfr hre
          go_wp2_with fail
          go_roundw
          case rel => exact ⟨k + 1, by omega, by go_num, by rw [HS.out, HH.out]; go_num, HC.out⟩
          case measure => simp [RowKit.intOf]; omega
        · have HH := hid (show hasEp D ep x = false by unfold hasEp; rw [ho1]; exact decide_eq_false hre)
          have hd : (r.ep == (ep : Int)) = false := by rw [beq_eq_false_iff_ne]; exact hre
          clear ho hc hb b6 c6 ho1 hR hfr hre
          go_wp2_with fail
          go_roundw
          case rel => exact ⟨k + 1, by omega, by go_num, by rw [HS.out, HH.out]; simp, HC.out⟩
          case measure => simp [RowKit.intOf]; omega
    · obtain rfl : k = 2 := by omega
      have HB := hid (show copiesUp D H ep 2 = copies D H ep from rfl)
      generalize copiesUp D H ep 2 = cn at *
      go_wp2_with fail
      refine bodyPost_ret (v := .tuple #[.int .i64 cn, .nilIface]) (by simp [results, Tryz.results102, go_sem]) rfl ⟨by rw [← HB.out], B5.trans (hb.mono B5.size)⟩
end Go.Proofs.YtbjfgdahfpfgdaaGreatDoor.RootW

namespace Go.Proofs.YtbjfgdahfpfgdaaGreatDoor.MapsW
open Go Go.RowKit Go.Maps Go.Proofs.YtbjfgdahfpfgdaaGreatDoor.Mem
set_option linter.unusedVariables false
set_option maxRecDepth 100000

/-- how an element that is a place reads -/
def refd (a s : Int) : DataW Unit := .agg [.lit (.int .i64 a), .lit (.int .u32 s)]
def refL : List Value → Option (DataW Unit × List MemPlace)
  | [.int .i64 a, .int .u32 s] => some (refd a s, [])
  | _ => none
def refR : Value → Option (DataW Unit × List MemPlace)
  | .agg vs => refL vs.toList
  | _ => none
abbrev refV (r : Int × Nat) : Value := .agg #[.int .i64 r.1, .int .u32 (r.2 : Int)]
theorem refR_mk (r : Int × Nat) : refR (refV r) = some (refd r.1 (r.2 : Int), []) := rfl
theorem refL_inv {vs : List Value} {a s : Int} {ps : List MemPlace} (h : refL vs = some (refd a s, ps)) : vs = [.int .i64 a, .int .u32 s] := by
  unfold refL at h
  split at h
  · simp only [refd, Option.some.injEq, Prod.mk.injEq, DataW.agg.injEq, List.cons.injEq, DataW.lit.injEq, Lit.int.injEq, true_and, and_true] at h
    obtain ⟨⟨rfl, rfl⟩, _⟩ := h
    rfl
  · cases h
theorem refR_inv {v : Value} {a s : Int} {ps : List MemPlace} (h : refR v = some (refd a s, ps)) : v = .agg #[.int .i64 a, .int .u32 s] := by
  cases v with
  | agg vs =>
    have := refL_inv (show refL vs.toList = _ from h)
    obtain ⟨l⟩ := vs
    have h2 : l = [.int .i64 a, .int .u32 s] := this
    rw [h2]
  | _ => cases h
theorem zeroRef (w : World) : (zeroValue 111).run Tryz.prog w = .ok (.agg #[.int .i64 0, .int .u32 0]) w := by kernel_rfl
/-- block b of w is a map of places: one at each key at which F has one, k of them -/
def RefMap (w : World) (b n : Nat) (F : Int → Option (Int × Nat)) (k : Nat) : Prop :=
  ∃ D, w.ownsMap Tryz.prog 3 refR b n D ∧ Maps.size D = k ∧
    ∀ i, match F i with
      | none => Maps.has D (.int .i64 i) = false
      | some r => Maps.has D (.int .i64 i) = true ∧ ∀ z, D.atKey (.int .i64 i) z = refd r.1 (r.2 : Int)
theorem RefMap.mono {w : World} {b n n' k : Nat} {F : Int → Option (Int × Nat)} (h : RefMap w b n F k) (hn : n ≤ n') : RefMap w b n' F k := by
  obtain ⟨D, h1, h2⟩ := h
  exact ⟨D, h1.mono hn, h2⟩
theorem RefMap.block {w : World} {b n k : Nat} {F : Int → Option (Int × Nat)} (h : RefMap w b n F k) : ∃ es ck, w.heap[b]? = some (.map es ck) := by
  obtain ⟨D, ⟨es, ck, h1, _⟩, _⟩ := h
  exact ⟨es, ck, h1⟩
theorem RefMap.still {w w' : World} {b n k : Nat} {F : Int → Option (Int × Nat)} (h : RefMap w b n F k) (e : w'.heap[b]? = w.heap[b]?) : RefMap w' b n F k := by
  obtain ⟨D, h1, h2⟩ := h
  exact ⟨D, ownsMap_of h1 e, h2⟩
theorem RefMap.below {w w' : World} {b n k : Nat} {F : Int → Option (Int × Nat)} (h : RefMap w b n F k) (hb : Below w.heap.size w w') : RefMap w' b n F k := by
  obtain ⟨es, ck, hk⟩ := h.block
  exact h.still (hb.block b (Array.getElem?_eq_some_iff.1 hk).1)
theorem RefMap.made (w : World) : RefMap (w.alloc (.map #[] 0)) w.heap.size 0 (fun _ => none) 0 :=
  ⟨.map [], World.ownsMap_made _ _ _ _, rfl, fun i => rfl⟩
/-- what is looked up -/
theorem RefMap.look {w : World} {b n k : Nat} {F : Int → Option (Int × Nat)} (h : RefMap w b n F k) {i : Int} (hi : Fits i) :
    (Instr.lookup 90 (.map (some b)) (.int .i64 i) false).run Tryz.prog w = .ok (refV ((F i).getD (0, 0))) w := by
  obtain ⟨D, h1, _, h3⟩ := h
  have := h3 i
  obtain ⟨v, ps, hr, hv⟩ := h1.lookup law Tryz.underlying90 (zeroRef w) (zd := refd 0 0) (zp := []) rfl (key hi)
  cases hF : F i with
  | none =>
    rw [hF] at this
    rw [atKey_of_not_has this] at hv
    rw [refR_inv hv] at hr
    exact hr
  | some r =>
    rw [hF] at this
    rw [this.2] at hv
    rw [refR_inv hv] at hr
    exact hr
theorem RefMap.len {w : World} {b n k : Nat} {F : Int → Option (Int × Nat)} (h : RefMap w b n F k) : ∃ D : DataW Unit, w.ownsMap Tryz.prog 3 refR b n D ∧ Maps.size D = k := by
  obtain ⟨D, h1, h2, _⟩ := h
  exact ⟨D, h1, h2⟩
end Go.Proofs.YtbjfgdahfpfgdaaGreatDoor.MapsW

namespace Go.Proofs.YtbjfgdahfpfgdaaGreatDoor.MapsW
open Go Go.RowKit Go.Maps Go.Proofs.YtbjfgdahfpfgdaaGreatDoor.Mem
set_option linter.unusedVariables false
set_option maxRecDepth 100000

/-- block b of w is a map of rows: at each key at which F has one, nil where it has no byte; k of them; the rows lie from base on -/
def NowMap (w : World) (base b n : Nat) (F : Int → Option (List Nat)) (k : Nat) : Prop :=
  ∃ D, w.ownsMap Tryz.prog 3 rowR b n D ∧ Maps.size D = k ∧
    ∀ i, match F i with
      | none => Maps.has D (.int .i64 i) = false
      | some [] => Maps.has D (.int .i64 i) = true ∧ ∀ z, D.atKey (.int .i64 i) z = .nil
      | some (x :: l) => Maps.has D (.int .i64 i) = true ∧ ∃ g cap, (∀ z, D.atKey (.int .i64 i) z = rowd g (l.length + 1) cap) ∧ Nums .u8 w (some ⟨g, 0, none⟩) (l.length + 1) cap (x :: l) ∧ base ≤ g
theorem NowMap.block {w : World} {base b n k : Nat} {F : Int → Option (List Nat)} (h : NowMap w base b n F k) : ∃ es ck, w.heap[b]? = some (.map es ck) := by
  obtain ⟨D, ⟨es, ck, h1, _⟩, _⟩ := h
  exact ⟨es, ck, h1⟩
theorem NowMap.made (w : World) (base : Nat) : NowMap (w.alloc (.map #[] 0)) base w.heap.size 0 (fun _ => none) 0 :=
  ⟨.map [], World.ownsMap_made _ _ _ _, rfl, fun i => rfl⟩
theorem NowMap.keep {w w' : World} {base b n k : Nat} {F : Int → Option (List Nat)} (h : NowMap w base b n F k) (e : w'.heap[b]? = w.heap[b]?) (hr : ∀ g, base ≤ g → (∃ c t f, w.heap[g]? = some (.cells c t f)) → (∃ z, w.cell? ⟨g, 0, none⟩ = some (.int .u8 z)) → w'.heap[g]? = w.heap[g]?) : NowMap w' base b n F k := by
  obtain ⟨D, h1, h2, h3⟩ := h
  refine ⟨D, ownsMap_of h1 e, h2, fun i => ?_⟩
  have := h3 i
  cases hF : F i with
  | none => rw [hF] at this; exact this
  | some l =>
    cases l with
    | nil => rw [hF] at this; exact this
    | cons x l =>
      rw [hF] at this
      obtain ⟨a, g, cap, b1, b2, b3⟩ := this
      refine ⟨a, g, cap, b1, nums_of_cells b2 (hr g b3 (nums_cells b2 (by omega)) ?_), b3⟩
      obtain ⟨b', o', he, hc⟩ := b2.at (j := 0) (by simp)
      cases he
      exact ⟨_, by rw [Nat.zero_add] at hc; exact hc⟩
theorem NowMap.below {w w' : World} {base b n k : Nat} {F : Int → Option (List Nat)} (h : NowMap w base b n F k) (hb : Below w.heap.size w w') : NowMap w' base b n F k := by
  obtain ⟨es, ck, hk⟩ := h.block
  exact h.keep (hb.block b (Array.getElem?_eq_some_iff.1 hk).1) fun g _ hc _ => let ⟨_, _, _, e⟩ := hc; hb.block g (Array.getElem?_eq_some_iff.1 e).1
/-- 'v, is := m[i]' -/
theorem NowMap.ok_none {w : World} {base b n k : Nat} {F : Int → Option (List Nat)} (h : NowMap w base b n F k) {i : Int} (hi : Fits i) (hF : F i = none) :
    (Instr.lookup 91 (.map (some b)) (.int .i64 i) true).run Tryz.prog w = .ok (.tuple #[.slice none 0 0, .bool false]) w := by
  obtain ⟨D, h1, _, h3⟩ := h
  have := h3 i
  rw [hF] at this
  obtain ⟨v, ps, hr, hv⟩ := h1.look_ok law Tryz.underlying91 (zeroRow w) (zd := .nil) (zp := []) rfl (key hi)
  rw [atKey_of_not_has this] at hv
  rw [rowR_nil hv, this] at hr
  exact hr
theorem NowMap.ok_nil {w : World} {base b n k : Nat} {F : Int → Option (List Nat)} (h : NowMap w base b n F k) {i : Int} (hi : Fits i) (hF : F i = some []) :
    (Instr.lookup 91 (.map (some b)) (.int .i64 i) true).run Tryz.prog w = .ok (.tuple #[.slice none 0 0, .bool true]) w := by
  obtain ⟨D, h1, _, h3⟩ := h
  have := h3 i
  rw [hF] at this
  obtain ⟨v, ps, hr, hv⟩ := h1.look_ok law Tryz.underlying91 (zeroRow w) (zd := .nil) (zp := []) rfl (key hi)
  rw [this.2] at hv
  rw [rowR_nil hv, this.1] at hr
  exact hr
theorem NowMap.ok_some {w : World} {base b n k : Nat} {F : Int → Option (List Nat)} (h : NowMap w base b n F k) {i : Int} (hi : Fits i) {x : Nat} {l : List Nat} (hF : F i = some (x :: l)) :
    ∃ g cap, (Instr.lookup 91 (.map (some b)) (.int .i64 i) true).run Tryz.prog w = .ok (.tuple #[.slice (some ⟨g, 0, none⟩) (l.length + 1) cap, .bool true]) w ∧ Nums .u8 w (some ⟨g, 0, none⟩) (l.length + 1) cap (x :: l) ∧ base ≤ g := by
  obtain ⟨D, h1, _, h3⟩ := h
  have := h3 i
  rw [hF] at this
  obtain ⟨a, g, cap, b1, b2, b3⟩ := this
  obtain ⟨v, ps, hr, hv⟩ := h1.look_ok law Tryz.underlying91 (zeroRow w) (zd := .nil) (zp := []) rfl (key hi)
  rw [b1] at hv
  rw [rowR_row hv, a] at hr
  exact ⟨g, cap, hr, b2, b3⟩
end Go.Proofs.YtbjfgdahfpfgdaaGreatDoor.MapsW

namespace Go.Proofs.YtbjfgdahfpfgdaaGreatDoor.PageW
open Go Go.RowKit Go.Maps Go.Proofs.YtbjfgdahfpfgdaaGreatDoor.Mem Go.Proofs.YtbjfgdahfpfgdaaGreatDoor.MapsW Go.Proofs.YtbjfgdahfpfgdaaGreatDoor.RootP Go.Proofs.YtbjfgdahfpfgdaaGreatDoor.SeeW Go.Proofs.YtbjfgdahfpfgdaaGreatDoor.RefsW Go.Proofs.YtbjfgdahfpfgdaaGreatDoor.DevG Go.Proofs.YtbjfgdahfpfgdaaGreatDoor.PairG Go.Proofs.YtbjfgdahfpfgdaaGreatDoor.RootW
set_option linter.unusedVariables false
set_option maxRecDepth 100000

/-- a store without a page -/
structure Fresh (w : World) (s a o : Nat) : Prop where
  c5 : w.cell? ⟨s, 5, none⟩ = some (.map (some a))
  c6 : w.cell? ⟨s, 6, none⟩ = some (.map (some o))
  at_ : RefMap w a 0 (fun _ => none) 0
  now : NowMap w 0 o 0 (fun _ => none) 0
theorem Fresh.below {w w' : World} {s a o : Nat} (h : Fresh w s a o) (hb : Below w.heap.size w w') : Fresh w' s a o :=
  ⟨kept hb h.c5, kept hb h.c6, h.at_.below hb, h.now.below hb⟩
theorem there_w (s a o : Nat) (i : Int) (w : World) (h : Fresh w s a o) (hi : Fits i) :
    Calls Tryz.prog 59 #[ptr s, .int .i64 i] w fun e w' => e = .returned (.bool false) ∧ w' = w := by
  obtain ⟨c5, c6, h4, h5⟩ := h
  have l4 : (Instr.lookup 90 (.map (some a)) (.int .i64 i) false).run Tryz.prog w = .ok (.agg #[.int .i64 0, .int .u32 0]) w := h4.look hi
  have l5 := h5.ok_none hi rfl
  have hfl : ∀ w, (Instr.field 111 (.agg #[.int .i64 0, .int .u32 0]) 0).run Tryz.prog w = .ok (.int .i64 0) w := fun w => by kernel_rfl
  clear h4 h5
  go_enter Tryz.func59, Tryz.ntmps59
  go_wp2
  go_ret
  exact ⟨rfl, rfl⟩
set_option maxHeartbeats 1600000 in
theorem pages_w (s a o : Nat) (w : World) (h : Fresh w s a o) :
    Calls Tryz.prog 45 #[ptr s] w fun e w' => e = .returned (.slice none 0 0) ∧ w' = w := by
  have hth := fun i hi => there_w s a o i w h hi
  clear h
  go_enter Tryz.func45, Tryz.ntmps45
  go_wp2
  go_loopw [3, 5] (fun v i wr => ∃ k : Nat, k ≤ 256 ∧ i = .int .i64 k ∧ v = .slice none 0 0 ∧ wr = w) (fun _ i _ => 256 - (RowKit.intOf i).toNat)
  case atStart => exact ⟨0, by omega, rfl, rfl, rfl⟩
  case round =>
    obtain ⟨k, hk, rfl, rfl, rfl⟩ := hrel
    by_cases hlt : k < 256
    · have ht := hth k (by unfold Fits; omega)
      go_wp2_with (refine ht.mono ?_; rintro e w' ⟨rfl, rfl⟩)
      go_roundw
      case rel => exact ⟨k + 1, by omega, by go_num, by simp, by simp⟩
      case measure => simp [RowKit.intOf]; omega
    · obtain rfl : k = 256 := by omega
      go_wp2
      go_ret
      exact ⟨rfl, rfl⟩
theorem or_w (s : Nat) (w : World) : Calls Tryz.prog 55 #[ptr s, .nilIface] w fun e w' => e = .returned (.tuple #[ptr s, .nilIface]) ∧ w' = w := by
  go_enter Tryz.func55, Tryz.ntmps55
  go_wp2
  exact bodyPost_ret (v := .tuple #[ptr s, .nilIface]) (by simp [results, Tryz.results55, go_sem]) rfl ⟨rfl, rfl⟩
set_option maxHeartbeats 3200000 in
theorem page_w (bs : List Addr) (lo d n : Nat) (m : Mp) (D : Dv) (w : World) (k : At w lo d n m D) (hB : Ev w lo bs six) (h1 : 300 ≤ D.blocks) (h2 : D.blocks ≤ 6000) (hlo : lo ≤ w.heap.size) (hu : D.down = false) (hz : D.fuse = 0) (hbt : ∀ i l, D.read i = some l → Crc.Bytes l)
    (hb : bestOf D (GeoW.half D.blocks) = ⟨0, []⟩) :
    Calls Tryz.prog 18 #[ptr d] w fun e w' => ∃ s a o, e = .returned (.tuple #[ptr s, .nilIface]) ∧ Fresh w' s a o ∧ Below w.heap.size w w' := by
  have hmm := @run_makeMap Tryz.prog
  go_enter Tryz.func18, Tryz.ntmps18
  go_wp2_with fail
  refine (popen_w 0 lo d n m D _ k h1 h2 hlo hu hz).mono ?_
  rintro e w1 ⟨p, rfl, kp, b1⟩
  have k1 := kp.dev
  have hB1 := hB.below b1
  go_wp2_with (at_make; refine wpList_mkn elRef rfl _ _ rfl w1.heap.size _ _ _ _ 7 rfl rfl rfl rfl (by omega) (by unfold maxLen; omega) (Nat.le_refl _) ?_; intro w2 hown2 hg2)
  have b2 := b1.trans ((below_growns hg2 (Nat.le_refl _)).mono b1.size)
  have z2 := b2.size
  have g2 := (below_growns hg2 (Nat.le_refl w1.heap.size))
  obtain ⟨S, hS⟩ : ∃ S, S = Obj.cells #[ptr d, ptr p, Value.int IntKind.i64 0, Value.slice none 0 0, Value.slice (some { block := w1.heap.size, off := 0 }) 7 7, Value.map (some w2.heap.size), Value.map (some (w2.heap.size + 1)), Value.int IntKind.i64 0] 93 := ⟨_, rfl⟩
  have b3 : Below w2.heap.size w2 (((w2.alloc MO).alloc MO).alloc S) := (((Below.refl _ w2).alloc (Nat.le_refl _) MO).alloc (by simp) MO).alloc (by simp; omega) S
  have hF : Fresh (((w2.alloc MO).alloc MO).alloc S) (w2.heap.size + 1 + 1) w2.heap.size (w2.heap.size + 1) := by
    have hs : (((w2.alloc MO).alloc MO).alloc S).heap[w2.heap.size + 1 + 1]? = some S := alloc_at (by simp) _
    refine ⟨by rw [World.cell?, hs, hS]; rfl, by rw [World.cell?, hs, hS]; rfl, ?_, ?_⟩
    · exact (RefMap.made w2).below (((Below.refl _ _).alloc (Nat.le_refl _) MO).alloc (by simp) S)
    · have := NowMap.made (w2.alloc MO) 0
      rw [show (w2.alloc MO).heap.size = w2.heap.size + 1 by simp] at this
      exact this.below ((Below.refl _ _).alloc (Nat.le_refl _) S)
  have kl := load_w bs d lo n m D _ (k1.below (g2.trans (b3.mono g2.size))) (hB1.below (g2.trans (b3.mono g2.size))) hu h1 h2 hbt
  rw [hb, hS] at kl
  rw [hS] at hF b3
  refine kl.mono ?_
  rintro e w3 ⟨⟨a, c, rfl, hR⟩, b4⟩
  have F4 := hF.below b4
  clear kl hF hR hB1 k1 kp hB k hown2 hg2 g2
  go_wp2_with (refine (or_w _ _).mono ?_; rintro e w' ⟨rfl, rfl⟩)
  have b5 := (Below.refl w3.heap.size w3).alloc (Nat.le_refl _) (Obj.cells #[Value.int IntKind.i64 0, Value.slice a 0 c] 89)
  exact bodyPost_ret (v := .tuple #[ptr (w2.heap.size + 1 + 1), .nilIface]) (by simp [results, Tryz.results18, go_sem]) rfl ⟨_, _, _, rfl, F4.below b5, (b2.trans (b3.mono z2)).trans ((b4.trans (b5.mono b4.size)).mono (by have := b3.size; omega))⟩
end Go.Proofs.YtbjfgdahfpfgdaaGreatDoor.PageW

namespace Go.Proofs.YtbjfgdahfpfgdaaGreatDoor.MapsW
open Go Go.RowKit Go.Maps Go.Proofs.YtbjfgdahfpfgdaaGreatDoor.Mem
set_option linter.unusedVariables false
set_option maxRecDepth 100000

theorem lawS : Keyed Tryz.prog 9 := string_keyed Tryz.underlying9
theorem keyS {s : ByteArray} (hs : s.size ≤ maxLen) : keyOf Tryz.prog 9 (.string s) = some (.string s.data.toList) := WideMaps.keyOf_string_mk Tryz.underlying9 hs
theorem islitS (k : List UInt8) : WideAt.IsKeyLit (.string k) := trivial
theorem litneS {i j : List UInt8} (h : j ≠ i) : Lit.string j ≠ Lit.string i := fun e => h (Lit.string.inj e)
/-- one more, or another, at a text -/
def updS {α : Type} (F : List UInt8 → α) (i : List UInt8) (x : α) : List UInt8 → α := fun j => if j = i then x else F j
theorem updS_same {α : Type} (F : List UInt8 → α) (i : List UInt8) (x : α) : updS F i x i = x := if_pos rfl
theorem updS_other {α : Type} (F : List UInt8 → α) {i j : List UInt8} (x : α) (h : j ≠ i) : updS F i x j = F j := if_neg h
/-- block b of w is a map of rows of a byte and more, one at each text at which F has one; np of them; the rows lie from base on -/
def TextMap (w : World) (base b n : Nat) (F : List UInt8 → Option (List Nat)) (np : Nat) : Prop :=
  ∃ D, w.ownsMap Tryz.prog 9 rowR b n D ∧ Maps.size D = np ∧
    ∀ i, match F i with
      | none => Maps.has D (.string i) = false
      | some l => Maps.has D (.string i) = true ∧ ∃ g cap, (∀ z, D.atKey (.string i) z = rowd g l.length cap) ∧ Nums .u8 w (some ⟨g, 0, none⟩) l.length cap l ∧ base ≤ g ∧ 0 < l.length
theorem TextMap.mono {w : World} {base base' b n n' : Nat} {F : List UInt8 → Option (List Nat)} {np : Nat} (h : TextMap w base b n F np) (hn : n ≤ n') (hb : base' ≤ base) : TextMap w base' b n' F np := by
  obtain ⟨D, h1, h2, h3⟩ := h
  refine ⟨D, h1.mono hn, h2, fun i => ?_⟩
  have := h3 i
  cases hF : F i with
  | none => rw [hF] at this; exact this
  | some l =>
    rw [hF] at this
    obtain ⟨a, g, cap, b1, b2, b3, b4⟩ := this
    exact ⟨a, g, cap, b1, b2, by omega, b4⟩
theorem TextMap.block {w : World} {base b n : Nat} {F : List UInt8 → Option (List Nat)} {np : Nat} (h : TextMap w base b n F np) : ∃ es ck, w.heap[b]? = some (.map es ck) := by
  obtain ⟨D, ⟨es, ck, h1, _⟩, _⟩ := h
  exact ⟨es, ck, h1⟩
theorem TextMap.made (w : World) (base : Nat) : TextMap (w.alloc (.map #[] 0)) base w.heap.size 0 (fun _ => none) 0 :=
  ⟨.map [], World.ownsMap_made _ _ _ _, rfl, fun i => rfl⟩
/-- where its block, and all rows, are as they were -/
theorem TextMap.keep {w w' : World} {base b n : Nat} {F : List UInt8 → Option (List Nat)} {np : Nat} (h : TextMap w base b n F np) (e : w'.heap[b]? = w.heap[b]?) (hr : ∀ g, base ≤ g → (∃ c t f, w.heap[g]? = some (.cells c t f)) → (∃ z, w.cell? ⟨g, 0, none⟩ = some (.int .u8 z)) → w'.heap[g]? = w.heap[g]?) : TextMap w' base b n F np := by
  obtain ⟨D, h1, h2, h3⟩ := h
  refine ⟨D, ownsMap_of h1 e, h2, fun i => ?_⟩
  have := h3 i
  cases hF : F i with
  | none => rw [hF] at this; exact this
  | some l =>
    rw [hF] at this
    obtain ⟨a, g, cap, b1, b2, b3, b4⟩ := this
    refine ⟨a, g, cap, b1, nums_of_cells b2 (hr g b3 (nums_cells b2 b4) ?_), b3, b4⟩
    obtain ⟨b', o', he, hc⟩ := b2.at (j := 0) (by rw [b2.len]; exact b4)
    cases he
    exact ⟨_, by rw [Nat.zero_add] at hc; exact hc⟩
theorem TextMap.below {w w' : World} {base b n : Nat} {F : List UInt8 → Option (List Nat)} {np : Nat} (h : TextMap w base b n F np) (hb : Below w.heap.size w w') : TextMap w' base b n F np := by
  obtain ⟨es, ck, hk⟩ := h.block
  exact h.keep (hb.block b (Array.getElem?_eq_some_iff.1 hk).1) fun g _ hc _ => let ⟨_, _, _, e⟩ := hc; hb.block g (Array.getElem?_eq_some_iff.1 e).1
/-- what is looked up -/
theorem TextMap.look_none {w : World} {base b n : Nat} {F : List UInt8 → Option (List Nat)} {np : Nat} (h : TextMap w base b n F np) {s : ByteArray} (hs : s.size ≤ maxLen) (hF : F s.data.toList = none) :
    (Instr.lookup 126 (.map (some b)) (.string s) false).run Tryz.prog w = .ok (.slice none 0 0) w := by
  obtain ⟨D, h1, _, h3⟩ := h
  have := h3 s.data.toList
  rw [hF] at this
  obtain ⟨v, ps, hr, hv⟩ := h1.lookup lawS Tryz.underlying126 (zeroRow w) (zd := .nil) (zp := []) rfl (keyS hs)
  rw [atKey_of_not_has this] at hv
  rw [rowR_nil hv] at hr
  exact hr
theorem TextMap.look_some {w : World} {base b n : Nat} {F : List UInt8 → Option (List Nat)} {np : Nat} (h : TextMap w base b n F np) {s : ByteArray} (hs : s.size ≤ maxLen) {l : List Nat} (hF : F s.data.toList = some l) :
    ∃ g cap, (Instr.lookup 126 (.map (some b)) (.string s) false).run Tryz.prog w = .ok (.slice (some ⟨g, 0, none⟩) l.length cap) w ∧ Nums .u8 w (some ⟨g, 0, none⟩) l.length cap l ∧ base ≤ g ∧ 0 < l.length := by
  obtain ⟨D, h1, _, h3⟩ := h
  have := h3 s.data.toList
  rw [hF] at this
  obtain ⟨_, g, cap, b1, b2, b3, b4⟩ := this
  obtain ⟨v, ps, hr, hv⟩ := h1.lookup lawS Tryz.underlying126 (zeroRow w) (zd := .nil) (zp := []) rfl (keyS hs)
  rw [b1] at hv
  rw [rowR_row hv] at hr
  exact ⟨g, cap, hr, b2, b3, b4⟩
theorem TextMap.len {w : World} {base b n : Nat} {F : List UInt8 → Option (List Nat)} {np : Nat} (h : TextMap w base b n F np) : ∃ D : DataW Unit, w.ownsMap Tryz.prog 9 rowR b n D ∧ Maps.size D = np := by
  obtain ⟨D, h1, h2, _⟩ := h
  exact ⟨D, h1, h2⟩
theorem TextMap.put {w w' : World} {base b n : Nat} {F : List UInt8 → Option (List Nat)} {np : Nat} {D : DataW Unit} (h2 : Maps.size D = np)
    (h3 : ∀ i, match F i with
      | none => Maps.has D (.string i) = false
      | some l => Maps.has D (.string i) = true ∧ ∃ g cap, (∀ z, D.atKey (.string i) z = rowd g l.length cap) ∧ Nums .u8 w (some ⟨g, 0, none⟩) l.length cap l ∧ base ≤ g ∧ 0 < l.length)
    (hT : Tidy D) {K : List UInt8} {g cap : Nat} {l : List Nat} (ho : w'.ownsMap Tryz.prog 9 rowR b (n + 1) (D.put (.string K) (rowd g l.length cap))) (hgw : w.grownBy w' (some b)) (hb : ∃ es ck, w.heap[b]? = some (.map es ck)) (hl : Nums .u8 w (some ⟨g, 0, none⟩) l.length cap l) (hbg : base ≤ g) (hl0 : 0 < l.length) :
    TextMap w' base b (n + 1) (updS F K (some l)) (if (F K).isSome then np else np + 1) := by
  have hk : ∀ g' cap' (l' : List Nat), 0 < l'.length → Nums .u8 w (some ⟨g', 0, none⟩) l'.length cap' l' → Nums .u8 w' (some ⟨g', 0, none⟩) l'.length cap' l' := by
    intro g' cap' l' h0 hn'
    obtain ⟨c, t, f, hc⟩ := nums_cells hn' h0
    refine nums_of_cells hn' (hgw.block g' (Array.getElem?_eq_some_iff.1 hc).1 fun e => ?_)
    obtain ⟨es, ck, hmm⟩ := hb
    rw [Option.some.inj e] at hc
    rw [hmm] at hc
    cases hc
  refine ⟨_, ho, ?_, fun j => ?_⟩
  · rw [size_put hT, h2]
    have := h3 K
    cases hF : F K with
    | none => rw [hF] at this; rw [this]; rfl
    | some l' => rw [hF] at this; rw [this.1]; rfl
  · by_cases hj : j = K
    · subst hj
      rw [updS_same]
      exact ⟨has_put_same hT.isMap (islitS _) _, g, cap, fun z => atKey_put_same hT.isMap (islitS _) _ z, hk _ _ _ hl0 hl, hbg, hl0⟩
    · rw [updS_other _ _ hj]
      have := h3 j
      cases hF : F j with
      | none => rw [hF] at this; exact (has_put_other (litneS hj) _).trans this
      | some l' =>
        rw [hF] at this
        obtain ⟨a, g', cap', b1, b2, b3, b4⟩ := this
        exact ⟨(has_put_other (litneS hj) _).trans a, g', cap', fun z => (atKey_put_other (litneS hj) _ z).trans (b1 z), hk _ _ _ b4 b2, b3, b4⟩
end Go.Proofs.YtbjfgdahfpfgdaaGreatDoor.MapsW

namespace Go.Proofs.YtbjfgdahfpfgdaaGreatDoor.MapsW
open Go Go.RowKit Go.Maps Go.Sort Go.Shelf Go.Proofs Go.Proofs.YtbjfgdahfpfgdaaGreatDoor.Mem
set_option linter.unusedVariables false
set_option maxRecDepth 100000

theorem skeys_w (mb : Option Nat) (w : World) : Calls Tryz.prog 133 #[.map mb] w fun e w' => e = .returned (.func (.func 157) #[] #[.pointer (some ⟨w.heap.size, 0, none⟩)]) ∧ w' = w.alloc (.cells #[.map mb] 126) :=
  (callsIn_wide (n := 5)).1 (AnyZ.keys_in Tryz.skeysA Fence.wide 5 trivial rfl mb w)
theorem ssorts_in (m : Nat) : AnyZ.SortsIn Tryz.prog Tryz.ssortedA_ren Fence.wide m :=
  ⟨fun blk off cap ss W hH hblk hsz => callsIn_wide.2 (AnyM.slices_Sort_string Tryz.ssortA blk off cap ss W hH hblk hsz),
   fun p cap W => callsIn_wide.2 (AnyM.slices_Sort_string_none Tryz.ssortA p cap W)⟩
theorem ssorted_w {H : Type} (b nn Bm : Nat) (D0 : DataW H) (R : Value → Option (DataW H × List MemPlace)) (w : World) (hBm : Bm < w.heap.size) (hm : w.cell? ⟨Bm, 0, none⟩ = some (.map (some b))) (hown : w.ownsMap Tryz.prog 9 R b nn D0) (hmax : Maps.size D0 ≤ 1000000) :
    Calls Tryz.prog 132 #[.func (.func 157) #[] #[.pointer (some ⟨Bm, 0, none⟩)]] w fun e w' => ∃ (v : Value) (ss : List (List UInt8)), e = .returned v ∧ ss.Perm (strKeys D0) ∧
      w'.ownsRow w.heap.size 9 1 v ss.length ((ss.mergeSort (fun x y => decide (x ≤ y))).map encStr) ∧ (v = .slice none 0 0 ↔ ss = []) ∧ Below w.heap.size w w' := by
  have hseq : SeqGives Fence.wide 2 Tryz.prog 157 #[.pointer (some ⟨Bm, 0, none⟩)] encStr (fun ss => ss.Perm (strKeys D0)) (Maps.size D0) w :=
    AnyZ.keys_gives (ρ := Tryz.skeysA_ren) { Tryz.skeysA with } Fence.wide _ trivial rfl (by omega) Bm b nn D0 _ hBm hm hown
  have cS := AnyZ.sorted_in Tryz.ssortedA Fence.wide 5 trivial trivial trivial trivial rfl (by omega) (ssorts_in _) (enters_of Tryz.func156 (by kernel_rfl) rfl) 157 #[.pointer (some ⟨Bm, 0, none⟩)] trivial (enters_of Tryz.func157 (by kernel_rfl) rfl) _ _ (by unfold maxLen; omega) (by omega) _ hseq
  exact callsIn_wide.1 cS
/-- what a map of rows has keys at: rising -/
structure SKeys (F : List UInt8 → Option (List Nat)) (ks : List (List UInt8)) : Prop where
  rise : ks.Pairwise (· < ·)
  mem : ∀ i, i ∈ ks ↔ (F i).isSome = true
  fit : ∀ i ∈ ks, i.length ≤ maxLen
theorem strKeys_is {H : Type} {w : World} {b n : Nat} {D : DataW H} {R : Value → Option (DataW H × List MemPlace)} (h : w.ownsMap Tryz.prog 9 R b n D) : (strKeys D).Nodup ∧ ∀ x, x ∈ strKeys D ↔ Maps.has D (.string x) = true := by
  obtain ⟨es, rfl, hpw, _⟩ := h.entries lawS
  obtain ⟨es', hD', hko⟩ := h.keysOf
  obtain rfl : es = es' := by simpa using hD'
  have hk : ∀ p ∈ es, ∃ x, p.1 = .string x := fun p hp => by
    obtain ⟨v, hv⟩ := hko p hp
    obtain ⟨x, _, hx, _⟩ := Maps.keyOf_str Tryz.underlying9 hv
    exact ⟨x, hx⟩
  constructor
  · show (es.map fun p => strOf p.1).Nodup
    refine List.pairwise_map.2 (hpw.imp_of_mem fun {p q} hp' hq' hne e => hne ?_)
    obtain ⟨a, ha⟩ := hk p hp'
    obtain ⟨b, hb⟩ := hk q hq'
    rw [ha, hb] at e ⊢
    exact congrArg _ e
  · intro x
    rw [has_eq, List.any_eq_true]
    show x ∈ es.map (fun p => strOf p.1) ↔ _
    rw [List.mem_map]
    constructor
    · rintro ⟨p, hp', rfl⟩
      obtain ⟨a, ha⟩ := hk p hp'
      exact ⟨p, hp', by rw [ha]; simp [Lit.sameKey, strOf]⟩
    · rintro ⟨p, hp', hs⟩
      obtain ⟨a, ha⟩ := hk p hp'
      rw [ha] at hs
      exact ⟨p, hp', by rw [ha]; simpa [Lit.sameKey, strOf] using hs⟩
/-- slices.Sorted of a map's keys -/
theorem skeys_sorted (b n Bm base np : Nat) (F : List UInt8 → Option (List Nat)) (w : World) (hBm : Bm < w.heap.size) (hm : w.cell? ⟨Bm, 0, none⟩ = some (.map (some b))) (h : TextMap w base b n F np) (hnp : np ≤ 1000000) :
    Calls Tryz.prog 132 #[.func (.func 157) #[] #[.pointer (some ⟨Bm, 0, none⟩)]] w fun e w' => ∃ (v : Value) (ks : List (List UInt8)), e = .returned v ∧ SKeys F ks ∧ ks.length = np ∧
      w'.ownsRow w.heap.size 9 1 v ks.length (ks.map encStr) ∧ Below w.heap.size w w' := by
  obtain ⟨D, h1, h2, h3⟩ := h
  obtain ⟨k1, k2⟩ := strKeys_is h1
  refine (ssorted_w b n Bm D rowR w hBm hm h1 (by omega)).mono ?_
  rintro e w' ⟨v, ss, rfl, hp, ho, _, hb⟩
  have hle : ∀ a b c : List UInt8, decide (a ≤ b) = true → decide (b ≤ c) = true → decide (a ≤ c) = true := fun a b c x y => by
    simp only [decide_eq_true_eq] at *; exact List.le_trans x y
  have hto : ∀ a b : List UInt8, (decide (a ≤ b) || decide (b ≤ a)) = true := fun a b => by
    simp only [Bool.or_eq_true, decide_eq_true_eq]; exact List.le_total a b
  have hs := List.pairwise_mergeSort hle hto ss
  have hpm := List.mergeSort_perm ss (fun x y => decide (x ≤ y))
  have hnd : (ss.mergeSort fun x y => decide (x ≤ y)).Nodup := (hpm.trans hp).nodup_iff.2 k1
  refine ⟨v, ss.mergeSort (fun x y => decide (x ≤ y)), rfl, ⟨?_, fun i => ?_, fun i hi => strKeys_le h1 Tryz.underlying9 i ((hpm.trans hp).mem_iff.1 hi)⟩, ?_, ?_, hb⟩
  · refine (hs.and hnd).imp fun {a b} q => ?_
    have q1 := q.1
    simp only [decide_eq_true_eq] at q1
    exact Classical.byContradiction fun hn => q.2 (List.le_antisymm q1 (List.not_lt.1 hn))
  · rw [(hpm.trans hp).mem_iff, k2]
    have := h3 i
    cases hF : F i with
    | none => rw [hF] at this; rw [this]; rfl
    | some l => rw [hF] at this; rw [this.1]; rfl
  · rw [hpm.length_eq, hp.length_eq, ← h2]
    obtain ⟨es, hD, _⟩ := h1.tidy lawS
    rw [hD]; simp [strKeys, Maps.size]
  · rw [hpm.length_eq]
    exact ho
end Go.Proofs.YtbjfgdahfpfgdaaGreatDoor.MapsW

namespace Go.Proofs.YtbjfgdahfpfgdaaGreatDoor.Text
open Go Go.RowKit Go.Proofs.YtbjfgdahfpfgdaaGreatDoor.Mem
set_option linter.unusedVariables false
set_option maxRecDepth 100000

/-- a text's bytes -/
def txt (s : ByteArray) : List Nat := s.data.toList.map UInt8.toNat
/-- the text of bytes -/
def ofTxt (l : List Nat) : ByteArray := ⟨(l.map UInt8.ofNat).toArray⟩
theorem cells (s : ByteArray) : Lib.strCells s = nums .u8 (txt s) := by
  unfold Lib.strCells nums txt
  rw [List.map_map]
  rfl
theorem length (s : ByteArray) : (txt s).length = s.size := by
  unfold txt
  rw [List.length_map, Array.length_toList]
  rfl
theorem lt (s : ByteArray) : ∀ x ∈ txt s, x < 256 := by
  intro x hx
  simp only [txt, List.mem_map] at hx
  obtain ⟨b, _, rfl⟩ := hx
  exact b.toNat_lt
theorem txt_of {l : List Nat} (h : ∀ x ∈ l, x < 256) : txt (ofTxt l) = l := by
  unfold txt ofTxt
  simp only [List.map_map]
  induction l with
  | nil => rfl
  | cons x l ih =>
    rw [List.map_cons, ih fun y hy => h y (List.mem_cons_of_mem _ hy)]
    have := h x (by simp)
    simp only [Function.comp]
    rw [UInt8.toNat_ofNat', Nat.mod_eq_of_lt (by simpa using this)]
theorem of_txt (s : ByteArray) : ofTxt (txt s) = s := by
  unfold txt ofTxt
  rw [List.map_map]
  have : (UInt8.ofNat ∘ UInt8.toNat) = id := by funext b; simp
  rw [this, List.map_id]
theorem inj {s t : ByteArray} (h : txt s = txt t) : s = t := by rw [← of_txt s, ← of_txt t, h]
theorem fold_push : ∀ (l : List Nat) (s : ByteArray), (l.map fun (x : Nat) => (x : Int)).foldl (fun r n => r.push (UInt8.ofNat n.toNat)) s = ⟨s.data ++ (l.map UInt8.ofNat).toArray⟩ := by
  intro l
  induction l with
  | nil => intro s; simp
  | cons x l ih =>
    intro s
    rw [List.map_cons, List.foldl_cons, ih]
    congr 1
    apply Array.ext'
    simp [ByteArray.push]

/-- bytes as a text -/
theorem conv {w : World} {a : Option Addr} {n cap : Nat} {l : List Nat} (h : Nums .u8 w a n cap l) :
    (convert 35 9 (.slice a n cap)).run Tryz.prog w = .ok (.string (ofTxt l)) w := by
  rw [run_convert_bytes_string w _ _ _ a n cap Tryz.underlying35 Tryz.underlying5 Tryz.underlying9]
  cases a with
  | none =>
    have hc := h.2.2.2.1 rfl
    have hn : n = 0 := by have := h.2.1; omega
    have hl : l = [] := List.eq_nil_of_length_eq_zero (by rw [h.len]; exact hn)
    subst hn; subst hl
    rfl
  | some ad =>
    have hlen := h.len
    have hl := run_loadCells_list (P := Tryz.prog) (w := w) ad ((l.map fun (x : Nat) => (x : Int)).map (Value.int .u8)) (fun j v hv => by
      obtain ⟨b, off, he, hc⟩ := h.2.2.2.2 j v (by unfold nums; rw [List.map_map] at hv; exact hv)
      cases he
      rw [Addr.add_lit]
      exact hc)
    rw [List.length_map, List.length_map, hlen] at hl
    rw [run_bytesToString w ad n cap (l.map fun (x : Nat) => (x : Int)) hl, fold_push]
    simp [ofTxt]
end Go.Proofs.YtbjfgdahfpfgdaaGreatDoor.Text

namespace Go.Proofs.YtbjfgdahfpfgdaaGreatDoor.KeepP
open Go
set_option linter.unusedVariables false

/-- bytes ahead of bytes, as texts are compared -/
theorem less_lt : ∀ (x y : List UInt8), Op.bytesLess x y = decide (x < y)
  | x, [] => by
    cases x with
    | nil => rfl
    | cons a x =>
      show false = _
      symm; rw [decide_eq_false_iff_not]; exact List.not_lt_nil _
  | [], b :: y => by
    show true = _
    symm; rw [decide_eq_true_eq]; exact List.nil_lt_cons _ _
  | a :: x, b :: y => by
    show (decide (a < b) || (a == b && Op.bytesLess x y)) = _
    rw [less_lt x y, Bool.eq_iff_iff]
    simp only [Bool.or_eq_true, Bool.and_eq_true, decide_eq_true_eq, beq_iff_eq, List.cons_lt_cons_iff]
/-- as numbers -/
def nat (x : List UInt8) : List Nat := x.map UInt8.toNat
/-- the j-th key -/
def key (j : Nat) : List UInt8 := if j % 6 = 0 then [UInt8.ofNat (j / 6)] else [UInt8.ofNat (j / 6), UInt8.ofNat (j % 6)]
def steps : List Nat := [1, 3, 7, 11, 13]
theorem step_inj : ∀ s ∈ steps, ∀ i, i < 41 → ∀ j, j < 41 → i * s % 41 = j * s % 41 → i = j := by decide
/-- the keys put so far -/
def ks (s n : Nat) : List (List UInt8) := (List.range n).map fun i => key (i * s % 41)
end Go.Proofs.YtbjfgdahfpfgdaaGreatDoor.KeepP

namespace Go.Proofs.YtbjfgdahfpfgdaaGreatDoor.KeepW
open Go Go.RowKit Go.Maps Go.Proofs.YtbjfgdahfpfgdaaGreatDoor.Mem Go.Proofs.YtbjfgdahfpfgdaaGreatDoor.MapsW Go.Proofs.YtbjfgdahfpfgdaaGreatDoor.DevG Go.Proofs.YtbjfgdahfpfgdaaGreatDoor.Text Go.Proofs.YtbjfgdahfpfgdaaGreatDoor.KeepP
set_option linter.unusedVariables false
set_option maxRecDepth 100000

theorem of_nat (K : List UInt8) : ofTxt (KeepP.nat K) = ⟨K.toArray⟩ := by
  unfold ofTxt KeepP.nat
  rw [List.map_map]
  have : (UInt8.ofNat ∘ UInt8.toNat) = id := by funext b; simp
  rw [this, List.map_id]
/-- a keep: its map l of n updates, with np keys -/
structure KAt (w : World) (base k l n : Nat) (F : List UInt8 → Option (List Nat)) (np : Nat) : Prop where
  c1 : w.cell? ⟨k, 1, none⟩ = some (.map (some l))
  bl : base ≤ l
  map : TextMap w base l n F np
theorem KAt.below {w w' : World} {base k l n : Nat} {F : List UInt8 → Option (List Nat)} {np : Nat} (h : KAt w base k l n F np) (hb : Below w.heap.size w w') : KAt w' base k l n F np :=
  ⟨kept hb h.c1, h.bl, h.map.below hb⟩
theorem KAt.lt {w : World} {base k l n : Nat} {F : List UInt8 → Option (List Nat)} {np : Nat} (h : KAt w base k l n F np) : l < w.heap.size := by
  obtain ⟨es, ck, hk⟩ := h.map.block
  exact (Array.getElem?_eq_some_iff.1 hk).1
theorem KAt.size {w : World} {base k l n : Nat} {F : List UInt8 → Option (List Nat)} {np : Nat} (h : KAt w base k l n F np) : base ≤ w.heap.size := by have := h.lt; have := h.bl; omega
theorem KAt.put {w w' : World} {base k l n n' : Nat} {F F' : List UInt8 → Option (List Nat)} {np np' : Nat} (h : KAt w base k l n F np) (hr : TextMap w' base l n' F' np') (hg : w.grownBy w' (some l)) : KAt w' base k l n' F' np' := by
  obtain ⟨es, ck, hm⟩ := h.map.block
  refine ⟨?_, h.bl, hr⟩
  have hlt := World.block_lt_of_cell? w ⟨k, 1, none⟩ h.c1
  rw [World.cell?_of_block (w := w) (hg.block k hlt fun e => by
    obtain rfl := Option.some.inj e
    have := h.c1
    simp [World.cell?, hm] at this)]
  exact h.c1
/-- a row of bytes is not the map -/
theorem KAt.row {w w' : World} {base k l n : Nat} {F : List UInt8 → Option (List Nat)} {np : Nat} (h : KAt w base k l n F np) (ht : Turn [l] w w') {g m cap : Nat} {xs : List Nat} (hx : Nums .u8 w (some ⟨g, 0, none⟩) m cap xs) (hm : 0 < m) : Nums .u8 w' (some ⟨g, 0, none⟩) m cap xs := by
  obtain ⟨es, ck, hmm⟩ := h.map.block
  obtain ⟨c, t, f, hc⟩ := nums_cells hx hm
  refine nums_of_cells hx (ht.block g (Array.getElem?_eq_some_iff.1 hc).1 fun e => ?_)
  rw [List.mem_singleton.1 e, hmm] at hc
  cases hc
theorem store {w : World} {base b n : Nat} {F : List UInt8 → Option (List Nat)} {np : Nat} (h : TextMap w base b n F np) (hn : n < 1000000) {K : List UInt8} (hs : K.length ≤ 40) {g cap : Nat} {l : List Nat} (hl : Nums .u8 w (some ⟨g, 0, none⟩) l.length cap l) (hbg : base ≤ g) (hl0 : 0 < l.length) :
    ∃ w', (Instr.mapUpdate 126 (.map (some b)) (.string ⟨K.toArray⟩) (.slice (some ⟨g, 0, none⟩) l.length cap)).run Tryz.prog w = .ok () w' ∧ TextMap w' base b (n + 1) (updS F K (some l)) (if (F K).isSome then np else np + 1) ∧ w.grownBy w' (some b) := by
  have hb := h.block
  obtain ⟨D, h1, h2, h3⟩ := h
  obtain ⟨w', hr, ho, hgw⟩ := h1.update lawS Tryz.underlying126 (by unfold maxLen; omega) (keyS (s := ⟨K.toArray⟩) (by show K.toArray.size ≤ maxLen; simp; unfold maxLen; omega)) (rowR_mk g l.length cap)
  exact ⟨w', hr, TextMap.put h2 h3 (h1.tidy lawS) ho hgw hb hl hbg hl0, hgw⟩
theorem row1 {w : World} {base : Nat} {v : Value} {n : Nat} {l : List Nat} (h : w.ownsRow base 5 1 v n (nums .u8 l)) (hn : 0 < n) : ∃ g cap, v = .slice (some ⟨g, 0, none⟩) n cap ∧ Nums .u8 w (some ⟨g, 0, none⟩) n cap l ∧ base ≤ g := by
  obtain ⟨a, cap, rfl, hr⟩ := ownsRow_slice h
  obtain ⟨g, rfl⟩ := own_some h hn
  exact ⟨g, cap, rfl, hr, (h.lt g rfl).1⟩
set_option maxHeartbeats 1600000 in
theorem put_w (base k l n : Nat) (F : List UInt8 → Option (List Nat)) (np : Nat) (kg kc : Nat) (K : List UInt8) (va : Option Addr) (vc : Nat) (vl : List Nat) (w : World) (h : KAt w base k l n F np) (hk : Nums .u8 w (some ⟨kg, 0, none⟩) K.length kc (KeepP.nat K)) (h1 : 1 ≤ K.length) (h40 : K.length ≤ 40)
    (hv : Nums .u8 w va vl.length vc vl) (v1 : 1 ≤ vl.length) (v120 : vl.length ≤ 120) (hn : n < 1000000) :
    Calls Tryz.prog 34 #[ptr k, .slice (some ⟨kg, 0, none⟩) K.length kc, .slice va vl.length vc] w fun e w' => e = .returned .nilIface ∧ KAt w' base k l (n + 1) (updS F K (some vl)) (if (F K).isSome then np else np + 1) ∧ Turn [l] w w' := by
  have d1 : decide ((K.length : Int) < 1) = false := decide_eq_false (by omega)
  have d2 : decide ((40 : Int) < (K.length : Int)) = false := decide_eq_false (by omega)
  have d3 : decide ((120 : Int) < (vl.length : Int)) = false := decide_eq_false (by omega)
  obtain ⟨np', hnp⟩ : ∃ q, q = (if (F K).isSome then np else np + 1) := ⟨_, rfl⟩
  rw [← hnp]
  have c1 := h.c1
  have hsz := h.size
  have cv : (convert 35 9 (.slice (some ⟨kg, 0, none⟩) K.length kc)).run Tryz.prog w.drew = .ok (.string ⟨K.toArray⟩) w.drew := by have := conv (Nums.below hk (Below.refl _ _).drew); rw [of_nat] at this; exact this
  go_enter Tryz.func34, Tryz.ntmps34
  go_wp2_with fail
  go_region_held3 (fun w' => w'.cell? ⟨k, 1, none⟩ = some (.map (some l)) ∧ (convert 35 9 (.slice (some ⟨kg, 0, none⟩) K.length kc)).run Tryz.prog w' = .ok (.string ⟨K.toArray⟩) w') (first | exact ⟨c1, cv⟩ | exact ⟨x3, cv3⟩ | exact ⟨x4, cv4⟩ | go_keep)
    ((go_at_call 48; refine (RefW.clone_w va vl.length vc vl _ (Nums.below hv (below_drewN (Below.refl _ _) _)) (by omega)).mono ?_; rintro e w3 ⟨v, rfl, own3, hb3⟩; obtain ⟨g, gc, rfl, hg, hgb⟩ := row1 own3 v1; have hgb' : w.heap.size ≤ g := hgb; have h3 := (KAt.below h (below_drewN (Below.refl _ _) 1)).below hb3; have hk3 := Nums.below (Nums.below hk (below_drewN (Below.refl _ _) 1)) hb3; have cv3 := conv hk3; rw [of_nat] at cv3; obtain ⟨w4, hrun, hr4, hg4⟩ := store h3.map hn h40 hg (show base ≤ g by omega) v1; rw [← hnp] at hr4; have x3 := h3.c1; have cv4 := conv (h3.row (Turn.of_grown hg4 (by simp)) hk3 h1); rw [of_nat] at cv4; have h4 := h3.put hr4 hg4; have x4 := h4.c1))
  have hT : Turn [l] w w4 := ((Turn.of_below (below_drewN (Below.refl _ w) 1)).then (Turn.of_below hb3)).then (Turn.of_grown hg4 (by simp))
  have H4 := hid h4
  clear h4 h3 h hr4 hg4 hrun hg hgb hgb' own3 hb3 hv hk hk3 x3 x4 c1 cv cv3 cv4
  go_wp2
  go_ret
  exact ⟨rfl, H4.out, hT⟩
end Go.Proofs.YtbjfgdahfpfgdaaGreatDoor.KeepW

namespace Go.Proofs.YtbjfgdahfpfgdaaGreatDoor.KeepW
open Go Go.RowKit Go.Maps Go.Proofs.YtbjfgdahfpfgdaaGreatDoor.Mem Go.Proofs.YtbjfgdahfpfgdaaGreatDoor.MapsW Go.Proofs.YtbjfgdahfpfgdaaGreatDoor.DevG Go.Proofs.YtbjfgdahfpfgdaaGreatDoor.Text Go.Proofs.YtbjfgdahfpfgdaaGreatDoor.KeepP Go.Proofs.YtbjfgdahfpfgdaaGreatDoor.PageW
set_option linter.unusedVariables false
set_option maxRecDepth 100000

theorem cloneTexts_w (b : Nat) (es : Array MapEntry) (ck : Nat) (w : World) (hb : w.heap[b]? = some (.map es ck)) :
    Calls Tryz.prog 68 #[.map (some b)] w fun e w' => e = .returned (.map (some w.heap.size)) ∧ w' = w.alloc (.map es ck) :=
  AnyW.maps_Clone Tryz.scloneA b es ck w hb
theorem len_w (base k l n np : Nat) (F : List UInt8 → Option (List Nat)) (w : World) (h : KAt w base k l n F np) :
    Calls Tryz.prog 37 #[ptr k] w fun e w' => e = .returned (.int .i64 np) ∧ w = w' := by
  have c1 := h.c1
  obtain ⟨E, hE, hnp⟩ := h.map.len
  have hl := hE.len Tryz.underlying126 3
  rw [hnp] at hl
  clear h hE hnp
  go_enter Tryz.func37, Tryz.ntmps37
  go_wp2
  go_ret
  exact ⟨rfl, rfl⟩
set_option maxHeartbeats 1600000 in
theorem keys_w (base k l n np : Nat) (F : List UInt8 → Option (List Nat)) (w : World) (h : KAt w base k l n F np) (hnp : np ≤ 1000000) :
    Calls Tryz.prog 104 #[ptr k] w fun e w' => ∃ (a : Option Addr) (cap : Nat) (ks : List (List UInt8)), e = .returned (.slice a ks.length cap) ∧ SKeys F ks ∧ ks.length = np ∧
      Row w' 1 a ks.length cap (ks.map encStr) ∧ Below w.heap.size w w' := by
  have c1 := h.c1
  have b1 := (Below.refl w.heap.size w).alloc (Nat.le_refl _) (.cells #[.map (some l)] 126)
  have hs := skeys_sorted l n w.heap.size base np F (w.alloc (.cells #[.map (some l)] 126)) (by simp) (by simp) (h.below b1).map hnp
  go_enter Tryz.func104, Tryz.ntmps104
  go_wp2_with fail
  refine (skeys_w (some l) w).mono ?_
  rintro e w1 ⟨rfl, rfl⟩
  go_wp2_with fail
  refine hs.mono ?_
  rintro e w2 ⟨v, ks, rfl, hK, hkl, own2, b2⟩
  have B2 := b1.trans (b2.mono (by simp))
  obtain ⟨va, vc, rfl, hvr⟩ := ownsRow_slice own2
  have HK := hid (And.intro hK hkl)
  clear hs b1 b2 own2 hK hkl h c1
  go_wp2_with fail
  go_ret
  exact ⟨_, _, ks, rfl, HK.out.1, HK.out.2, hvr, B2⟩
set_option maxHeartbeats 1600000 in
theorem copen_w (s a o : Nat) (w : World) (h : Fresh w s a o) :
    Calls Tryz.prog 69 #[ptr s] w fun e w' => ∃ k l, e = .returned (.tuple #[ptr k, .nilIface]) ∧ KAt w' w.heap.size k l 0 (fun _ => none) 0 ∧ Below w.heap.size w w' := by
  have hmm := @run_makeMap Tryz.prog
  obtain ⟨W, hW⟩ : ∃ W, W = (w.alloc MO).alloc (.cells #[ptr s, .map (some w.heap.size), .map none, .slice none 0 0] 129) := ⟨_, rfl⟩
  have bW : Below w.heap.size w W := by rw [hW]; exact ((Below.refl _ w).alloc (Nat.le_refl _) MO).alloc (by simp) _
  have zW : W.heap.size = w.heap.size + 2 := by rw [hW]; simp
  have hk : W.heap[w.heap.size + 1]? = some (.cells #[ptr s, .map (some w.heap.size), .map none, .slice none 0 0] 129) := by rw [hW]; exact alloc_at (by simp) _
  have hl : W.heap[w.heap.size]? = some MO := by rw [hW]; exact alloc_old (heap_alloc_new _ _)
  have hm : TextMap W w.heap.size w.heap.size 0 (fun _ => none) 0 := by
    have h0 := (TextMap.made w w.heap.size).below ((Below.refl _ _).alloc (Nat.le_refl _) (.cells #[ptr s, .map (some w.heap.size), .map none, .slice none 0 0] 129))
    rw [hW]; exact h0
  have hp := pages_w s a o W (h.below bW)
  go_enter Tryz.func69, Tryz.ntmps69
  go_wp2_with fail
  rw [← hW]
  refine hp.mono ?_
  rintro e W' ⟨rfl, hWW⟩
  rw [hWW]
  clear hWW W' hW hp h hmm
  go_wp2_with fail
  go_loopw [22] (fun i wr => i = .int .i64 0 ∧ wr = W) (fun _ _ => 0)
  case atStart => exact ⟨rfl, rfl⟩
  case round =>
    obtain ⟨rfl, hwr⟩ := hrel
    rw [hwr]
    clear hwr
    have hk1 : W.cell? ⟨w.heap.size + 1, 1, none⟩ = some (.map (some w.heap.size)) := by simp [World.cell?, hk]
    go_wp2_with fail
    refine (cloneTexts_w _ _ _ _ hl).mono ?_
    rintro e w2 ⟨rfl, rfl⟩
    obtain ⟨X, hX⟩ : ∃ X, X = (W.setCell ⟨w.heap.size + 1, 2, none⟩ (.map (some (w.heap.size + 2)))).alloc MO := ⟨_, rfl⟩
    have kf1 : W.cell? ⟨w.heap.size + 1, 2, none⟩ = some (.map none) ∧ W.frozen? ⟨w.heap.size + 1, 2, none⟩ = false := by simp [World.cell?, World.frozen?, hk]
    obtain ⟨kf1, kf2⟩ := kf1
    have bS : Below w.heap.size w (W.setCell ⟨w.heap.size + 1, 2, none⟩ (.map (some (w.heap.size + 2)))) := bW.setCell (by simp) _
    have bA := (Below.refl (W.setCell ⟨w.heap.size + 1, 2, none⟩ (.map (some (w.heap.size + 2)))).heap.size (W.setCell ⟨w.heap.size + 1, 2, none⟩ (.map (some (w.heap.size + 2))))).alloc (Nat.le_refl _) MO
    have bB : Below w.heap.size w X := by rw [hX]; exact bS.trans (bA.mono bS.size)
    have hF : KAt X w.heap.size (w.heap.size + 1) w.heap.size 0 (fun _ => none) 0 := by
      rw [hX]
      refine KAt.below ⟨?_, Nat.le_refl _, hm.keep (heap_setCell_other _ ⟨w.heap.size + 1, 2, none⟩ _ _ (by simp)) ?_⟩ bA
      · simp [World.cell?, World.setCell, Array.getElem?_modify, hk]
      · intro g hg hc hz
        refine heap_setCell_other _ ⟨w.heap.size + 1, 2, none⟩ _ _ ?_
        rintro rfl
        obtain ⟨z, hz⟩ := hz
        simp [World.cell?, hk] at hz
    clear hm bA bS hl hk
    go_wp2
    rw [← hX]
    exact bodyPost_ret (v := .tuple #[ptr (w.heap.size + 1), .nilIface]) (by simp [results, Tryz.results69, go_sem]) rfl ⟨_, _, rfl, hF, bB⟩
end Go.Proofs.YtbjfgdahfpfgdaaGreatDoor.KeepW
