/- The walks of root.Places and root.found. -/
import Derived.Test.YtlljpljfmaaejaaDoorRootOne
import Derived.Test.YtlljpljfmaaejaaDoorGeoOf
namespace Go.Proofs.YtlljpljfmaaejaaDoor.RootW
open Go Go.RowKit Go.Maps Go.Proofs.YtlljpljfmaaejaaDoor.Mem Go.Proofs.YtlljpljfmaaejaaDoor.MapsW Go.Proofs.YtlljpljfmaaejaaDoor.RootP Go.Proofs.YtlljpljfmaaejaaDoor.SeeW Go.Proofs.YtlljpljfmaaejaaDoor.RefsW Go.Proofs.YtlljpljfmaaejaaDoor.DevG Go.Proofs.YtlljpljfmaaejaaDoor.ConcatW
set_option linter.unusedVariables false
set_option maxRecDepth 100000

theorem places_w (b h ep : Nat) (w : World) (he : ep ≤ 1099511627776) (hh : h ≤ 100000) :
    Calls Tryd.prog 107 #[GeoW.G b h, .int .i64 ep] w fun e w' => ∃ g, e = .returned (.slice (some ⟨g, 0, none⟩) 2 2) ∧ Nums .i64 w' (some ⟨g, 0, none⟩) 2 2 [ep % 2, ep % 2 + h] ∧ Below w.heap.size w w' ∧ w.heap.size ≤ g := by
  have b1 := (Below.refl w.heap.size w).alloc (Nat.le_refl _) (.cells #[.int .i64 b, .int .i64 h] 127)
  have e2 : ((ep : Int)).tmod 2 = ((ep % 2 : Nat) : Int) := by
    rw [Int.tmod_eq_emod_of_nonneg (by omega)]; omega
  have e1 : IntKind.i64.wrap (((ep % 2 : Nat) : Int) + (h : Int)) = ((ep % 2 + h : Nat) : Int) := by rw [IntKind.wrap_i64]; omega
  go_enter Tryd.func107, Tryd.ntmps107
  go_wp2
  go_ret
  refine ⟨w.heap.size + 1, rfl, ?_, b1.alloc (by simp) _, by omega⟩
  have hr := Row.fresh (w.alloc (.cells #[.int .i64 b, .int .i64 h] 127)) #[.int .i64 ((ep : Int) % 2), .int .i64 ((ep : Int) % 2 + h)] 3 (0, 0) 2 rfl (by decide)
  have z : (w.alloc (.cells #[.int .i64 b, .int .i64 h] 127)).heap.size = w.heap.size + 1 := by simp
  rw [z] at hr
  have e3 : nums .i64 [ep % 2, ep % 2 + h] = [.int .i64 ((ep : Int) % 2), .int .i64 ((ep : Int) % 2 + h)] := by
    have q1 : ((ep : Int) % 2) = ((ep % 2 : Nat) : Int) := by omega
    rw [q1]; simp [nums]
  unfold Nums
  rw [e3]
  exact hr

/-- of two roots the greater epoch's -/
def better (b : Rt) (o : Option Rt) : Rt := match o with
  | some r => if b.ep < r.ep then r else b
  | none => b
/-- where roots lie -/
def spots (h : Nat) : List Nat := [0, h, 1, 1 + h]
def bestUp (D : Dv) (h k : Nat) : Rt := ((spots h).take k).foldl (fun b (i : Nat) => better b (oneOf D (i : Int))) ⟨0, []⟩
def bestOf (D : Dv) (h : Nat) : Rt := bestUp D h 4
theorem bestUp_succ (D : Dv) (h k : Nat) (hk : k < (spots h).length) : bestUp D h (k + 1) = better (bestUp D h k) (oneOf D (((spots h)[k] : Nat) : Int)) := by
  unfold bestUp
  rw [List.take_succ_eq_append_getElem hk, List.foldl_append]
  rfl

/-- what the rounds have: the block of the result, the block of the best -/
structure Best (w0 w : World) (B : Nat) (a : Option Addr) (c : Nat) (b : Rt) : Prop where
  blk0 : w.heap[w0.heap.size]? = some (.cells #[.int .i64 0, .slice none 0 0] 98)
  blk : w.heap[B]? = some (.cells #[.int .i64 b.ep, .slice a b.rs.length c] 98)
  refs : Refs w a b.rs.length c b.rs
  far : ∀ g o, a = some ⟨g, o, none⟩ → B < g
  b : Below w0.heap.size w0 w
  r : w0.heap.size < B
theorem Best.on {w0 w w' : World} {B : Nat} {a : Option Addr} {c : Nat} {b : Rt} (h : Best w0 w B a c b) (hb : Below w.heap.size w w') : Best w0 w' B a c b := by
  have h1 := (Array.getElem?_eq_some_iff.1 h.blk0).1
  have h2 := (Array.getElem?_eq_some_iff.1 h.blk).1
  exact ⟨(hb.block _ h1).trans h.blk0, (hb.block _ h2).trans h.blk, h.refs.below hb, h.far, h.b.trans (hb.mono h.b.size), h.r⟩
theorem Best.put {w0 w : World} {B : Nat} {a : Option Addr} {c : Nat} {b : Rt} (h : Best w0 w B a c b) {r : Rt} {a' : Option Addr} {c' : Nat} (hr : Refs w a' r.rs.length c' r.rs) (hf : ∀ g o, a' = some ⟨g, o, none⟩ → B < g) :
    Best w0 ((w.setCell ⟨B, 0, none⟩ (.int .i64 r.ep)).setCell ⟨B, 1, none⟩ (.slice a' r.rs.length c')) B a' c' r := by
  have hr0 := h.r
  refine ⟨?_, ?_, Refs.far (Refs.far hr hf 0 _) hf 1 _, hf, (h.b.setCell (by simp; omega) _).setCell (by simp; omega) _, hr0⟩
  · rw [heap_setCell_other _ ⟨B, 1, none⟩ _ _ (by simp; omega), heap_setCell_other _ ⟨B, 0, none⟩ _ _ (by simp; omega)]; exact h.blk0
  · have := h.blk
    simp [World.setCell, Array.getElem?_modify, this]

theorem nums_far {k : IntKind} {w : World} {a : Option Addr} {n cap : Nat} {l : List Nat} (h : Nums k w a n cap l) {B : Nat} (hB : ∀ b o, a = some ⟨b, o, none⟩ → B < b) (j : Nat) (x : Value) : Nums k (w.setCell ⟨B, j, none⟩ x) a n cap l :=
  Row.keep h fun b o e _ => heap_setCell_other _ ⟨B, j, none⟩ _ _ (by have := hB b o e; simp; omega)
/-- what is found: the root of the greatest epoch -/
def FoundTo (w : World) (b : Rt) (e : Ending) (w' : World) : Prop :=
  (∃ a c, e = .returned (.tuple #[Rv b.ep a b.rs.length c, .nilIface]) ∧ Refs w' a b.rs.length c b.rs ∧ ∀ g o, a = some ⟨g, o, none⟩ → w.heap.size < g) ∧ Below w.heap.size w w'
theorem spots_nums (H : Nat) : nums .i64 [0 % 2, 0 % 2 + H] ++ nums .i64 [1 % 2, 1 % 2 + H] = nums .i64 (spots H) := by simp [nums, spots]
/-- the four places, whichever half was told first -/
theorem four (H : Nat) (w0 wA wB : World) (gA gB : Nat) (nA : Nums .i64 wA (some ⟨gA, 0, none⟩) 2 2 [0 % 2, 0 % 2 + H]) (nB : Nums .i64 wB (some ⟨gB, 0, none⟩) 2 2 [1 % 2, 1 % 2 + H]) (w : World) (kA : Below wA.heap.size wA w) (kB : Below wB.heap.size wB w) (k : Below w0.heap.size w0 w) :
    Calls Tryd.prog 122 #[.slice (some ⟨w.heap.size, 0, none⟩) 2 2] (w.alloc (.cells #[.slice (some ⟨gA, 0, none⟩) 2 2, .slice (some ⟨gB, 0, none⟩) 2 2] 42)) fun e w' => (∃ a c, e = .returned (.slice a 4 c) ∧ Nums .i64 w' a 4 c (spots H) ∧ ∀ b o, a = some ⟨b, o, none⟩ → w0.heap.size ≤ b) ∧ Below w0.heap.size w0 w' := by
  have al := (Below.refl w.heap.size w).alloc (Nat.le_refl _) (.cells #[.slice (some ⟨gA, 0, none⟩) 2 2, .slice (some ⟨gB, 0, none⟩) 2 2] 42)
  obtain ⟨s0, s1⟩ := new2 w (.slice (some ⟨gA, 0, none⟩) 2 2) (.slice (some ⟨gB, 0, none⟩) 2 2) 42
  refine (concatI w.heap.size _ _ 2 2 2 2 _ _ _ ((nA.below kA).below al) ((nB.below kB).below al) (nums_oneCell _ _) (nums_oneCell _ _) s0 s1 (by decide) (by decide) (by decide)).mono ?_
  rintro e w5 ⟨⟨v5, rfl, own5⟩, b5⟩
  rw [spots_nums] at own5
  obtain ⟨a, c, rfl, n5⟩ := ownsRow_slice own5
  exact ⟨⟨a, c, rfl, n5, fun b o e => by have := own_ge own5 b o e; have := k.size; simp at *; omega⟩, (k.alloc k.size _).trans (b5.mono (by have := k.size; simp; omega))⟩
set_option maxHeartbeats 3200000 in
theorem found_w (bs : List Addr) (d lo n : Nat) (m : Mp) (D : Dv) (w : World) (h : At w lo d n m D) (hB : Ev w lo bs six) (hu : D.down = false) (hb1 : 300 ≤ D.blocks) (hb2 : D.blocks ≤ 6000) (hbt : ∀ i l, D.read i = some l → Crc.Bytes l) :
    Calls Tryd.prog 108 #[ptr d] w (FoundTo w (bestOf D (GeoW.half D.blocks))) := by
  have bx := (Below.refl w.heap.size w).alloc (Nat.le_refl _) (.cells #[.int .i64 0, .slice none 0 0] 98)
  have hk0 := heap_alloc_new w (.cells #[.int .i64 0, .slice none 0 0] 98)
  have hzx : (w.alloc (.cells #[.int .i64 0, .slice none 0 0] 98)).heap.size = w.heap.size + 1 := by simp
  obtain ⟨H, hH⟩ : ∃ H, H = GeoW.half D.blocks := ⟨_, rfl⟩
  have hH1 := GeoW.half_le D.blocks
  have hH2 := GeoW.half_512 D.blocks
  have hof := fun w => GeoW.of_good D.blocks w hb1 hb2
  rw [← hH] at hH1 hH2 ⊢
  simp only [← hH] at hof
  clear hH
  go_enter Tryd.func108, Tryd.ntmps108
  go_wp2_with fail
  refine (blocks_w d lo n m D _ (h.below bx)).mono ?_
  rintro e w' ⟨rfl, rfl⟩
  go_wp2_with fail
  refine (hof _).mono ?_
  rintro e w1 ⟨rfl, b1⟩
  have s1 := b1.size
  rw [hzx] at s1
  have k1 := (b1.block w.heap.size (by omega)).trans hk0
  have B1 := bx.trans (b1.mono (by omega))
  clear b1
  have z2 : (w1.alloc (.cells #[.int .i64 (D.blocks : Int), .int .i64 (H : Int)] 127)).heap.size = w1.heap.size + 1 := by simp
  have hN : Best w ((w1.alloc (.cells #[.int .i64 (D.blocks : Int), .int .i64 (H : Int)] 127)).alloc (.cells #[.int .i64 0, .slice none 0 0] 98)) (w1.heap.size + 1) none 0 (bestUp D H 0) :=
    ⟨al_old (al_old k1 _) _, by rw [← z2]; exact heap_alloc_new _ _, Refs.nil _, fun g o e => (by cases e), (B1.alloc (by omega) _).alloc (by simp; omega) _, by omega⟩
  obtain ⟨g0, g1, _, _⟩ := blk_c (al_old (heap_alloc_new w1 (.cells #[.int .i64 (D.blocks : Int), .int .i64 (H : Int)] 127)) (.cells #[.int .i64 0, .slice none 0 0] 98))
  have zz2 : ((w1.alloc (.cells #[.int .i64 (D.blocks : Int), .int .i64 (H : Int)] 127)).alloc (.cells #[.int .i64 0, .slice none 0 0] 98)).heap.size = w1.heap.size + 2 := by simp
  clear z2 k1 hk0 hzx bx
  go_wp2_with fail
  generalize (w1.alloc (.cells #[.int .i64 (D.blocks : Int), .int .i64 (H : Int)] 127)).alloc (.cells #[.int .i64 0, .slice none 0 0] 98) = w2 at *
  have p0 := fun w => places_w D.blocks H 0 w (by decide) (by omega)
  have p1 := fun w => places_w D.blocks H 1 w (by decide) (by omega)
  simp only [Int.cast_ofNat_Int] at p0 p1
  go_region_held3 (fun w' => w'.cell? ⟨w1.heap.size, 0, none⟩ = some (.int .i64 (D.blocks : Int)) ∧ w'.cell? ⟨w1.heap.size, 1, none⟩ = some (.int .i64 (H : Int)))
    (first | exact ⟨g0, g1⟩ | exact ⟨kept b5 g0, kept b5 g1⟩ | exact ⟨kept bA (kept bB g0), kept bA (kept bB g1)⟩ | exact ⟨kept bB (kept bA g0), kept bB (kept bA g1)⟩ | exact ⟨kept bA g0, kept bA g1⟩ | exact ⟨kept bB g0, kept bB g1⟩ | go_keep)
    (first
      | (go_at_call 107; first
          | (with_reducible refine (p0 _).mono ?_; rintro e wA ⟨gA, rfl, nA, bA, fA⟩)
          | (with_reducible refine (p1 _).mono ?_; rintro e wB ⟨gB, rfl, nB, bB, fB⟩))
      | (go_at_call 122; first
          | (have c4 := four H w2 wA wB gA gB nA nB wB bB (Below.refl _ _) (((Below.drew (Below.refl w2.heap.size w2)).trans bA).trans (bB.mono bA.size)); refine c4.mono ?_; rintro e w5 ⟨⟨a5, c5, rfl, n5, f5⟩, b5⟩)
          | (have c4 := four H w2 wA wB gA gB nA nB wA (Below.refl _ _) bA (((Below.drew (Below.refl w2.heap.size w2)).trans bB).trans (bA.mono bB.size)); refine c4.mono ?_; rintro e w5 ⟨⟨a5, c5, rfl, n5, f5⟩, b5⟩)))
  all_goals
    have hN5 := hN.on b5
    have F5 := hid (show ∀ b o, a5 = some ⟨b, o, none⟩ → w1.heap.size + 1 < b from fun b o e => by have := f5 b o e; omega)
    clear f5 p0 p1 nA nB bA bB fA fB g0 g1 hN zz2 hof
    go_wp2_with fail
    go_loopw [29] (fun i wr => ∃ (k : Nat) (a : Option Addr) (c : Nat), k ≤ 4 ∧ i = .int .i64 k ∧ Best w wr (w1.heap.size + 1) a c (bestUp D H k) ∧ Nums .i64 wr a5 4 c5 (spots H)) (fun i _ => 4 - (intOf i).toNat)
    case atStart => exact ⟨0, none, 0, by omega, rfl, hN5, n5⟩
    case round =>
      clear hN5 n5
      obtain ⟨k, a, c, hk, rfl, hN, n5⟩ := hrel
      by_cases hlt : k < 4
      · have hkl : k < (spots H).length := hlt
        obtain ⟨bq, oq, rfl, hc⟩ := n5.at hkl
        have HS := hid (bestUp_succ D H k hkl)
        have hin : (spots H)[k] < D.blocks := by
          have : ∀ x ∈ spots H, x < D.blocks := by simp [spots]; omega
          exact this _ (List.getElem_mem hkl)
        generalize (spots H)[k] = x at hc HS hin
        have hfx : Fits (x : Int) := fits_nat (by omega)
        have ho := one_w bs d lo n m D x wr (h.below hN.b) (hB.below hN.b) hfx hu (by omega) (hbt _)
        generalize bestUp D H k = bst at hN HS
        go_wp2_with fail
        refine ho.mono ?_
        rintro e w6 ⟨hO, b6⟩
        have hN6 := hN.on b6
        have hz6 := b6.size
        have c6 := n5.below b6
        cases ho1 : oneOf D x with
        | none =>
          rw [ho1] at hO HS
          simp only at hO
          subst hO
          have HN := hid (hN6.on ((Below.refl w6.heap.size w6).alloc (Nat.le_refl _) (.cells #[.int .i64 0, .slice none 0 0] 98)))
          have HC := hid (c6.below ((Below.refl w6.heap.size w6).alloc (Nat.le_refl _) (.cells #[.int .i64 0, .slice none 0 0] 98)))
          clear ho hc hN hN6 b6 c6 n5 ho1
          go_wp2_with fail
          go_roundw
          case rel => exact ⟨k + 1, a, c, by omega, by go_num, by rw [HS.out]; exact HN.out, HC.out⟩
          case measure => simp [intOf]; omega
        | some r =>
          rw [ho1] at hO HS
          obtain ⟨a', c', rfl, hR, hfr⟩ := hO
          have HN := hid (hN6.on ((Below.refl w6.heap.size w6).alloc (Nat.le_refl _) (.cells #[.int .i64 r.ep, .slice a' r.rs.length c'] 98)))
          have HC := hid (c6.below ((Below.refl w6.heap.size w6).alloc (Nat.le_refl _) (.cells #[.int .i64 r.ep, .slice a' r.rs.length c'] 98)))
          have HR := hid (hR.below ((Below.refl w6.heap.size w6).alloc (Nat.le_refl _) (.cells #[.int .i64 r.ep, .slice a' r.rs.length c'] 98)))
          have HF := hid (show ∀ g o, a' = some ⟨g, o, none⟩ → w1.heap.size + 1 < g from fun g o e => by have := hfr g o e; have := (Array.getElem?_eq_some_iff.1 hN.blk).1; omega)
          obtain ⟨t0, t1⟩ := new2 w6 (.int .i64 r.ep) (.slice a' r.rs.length c') 98
          obtain ⟨x0, x1, y0, y1⟩ := blk_c (al_old hN6.blk (.cells #[.int .i64 r.ep, .slice a' r.rs.length c'] 98))
          clear ho hc hN hN6 b6 c6 n5 ho1 hR hfr
          by_cases hcmp : bst.ep < r.ep
          · have hd : decide (bst.ep < r.ep) = true := decide_eq_true hcmp
            have HB := hid (show better bst (some r) = r from if_pos hcmp)
            clear hcmp
            go_wp2_with fail
            go_roundw
            case rel => exact ⟨k + 1, a', c', by omega, by go_num, by rw [HS.out, HB.out]; exact HN.out.put HR.out HF.out, nums_far (nums_far HC.out F5.out 0 _) F5.out 1 _⟩
            case measure => simp [intOf]; omega
          · have hd : decide (bst.ep < r.ep) = false := decide_eq_false hcmp
            have HB := hid (show better bst (some r) = bst from if_neg hcmp)
            clear hcmp
            go_wp2_with fail
            go_roundw
            case rel => exact ⟨k + 1, a, c, by omega, by go_num, by rw [HS.out, HB.out]; exact HN.out, HC.out⟩
            case measure => simp [intOf]; omega
      · obtain rfl : k = 4 := by omega
        obtain ⟨x0, x1, y0, y1⟩ := blk_c hN.blk
        obtain ⟨x2, x3, y2, y3⟩ := blk_c hN.blk0
        have HB := hid (show bestUp D H 4 = bestOf D H from rfl)
        have HN := hid hN
        clear hN n5
        generalize bestUp D H 4 = bst at *
        go_wp2_with fail
        refine bodyPost_ret (v := .tuple #[Rv bst.ep a bst.rs.length c, .nilIface]) (by simp [results, Tryd.results108, go_sem, x2, x3]) rfl ?_
        rw [← HB.out]
        exact ⟨⟨a, c, rfl, Refs.far (Refs.far HN.out.refs (fun g o e => by have := HN.out.far g o e; have := HN.out.r; omega) 0 _) (fun g o e => by have := HN.out.far g o e; have := HN.out.r; omega) 1 _, fun g o e => by have := HN.out.far g o e; have := HN.out.r; omega⟩, (HN.out.b.setCell (Nat.le_refl _) _).setCell (Nat.le_refl _) _⟩
end Go.Proofs.YtlljpljfmaaejaaDoor.RootW
