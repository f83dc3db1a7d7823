/- The walk of BlobTells. -/
import Derived.Test.YtjecnjgngahmfaaDoorBlobTwo
import Derived.Test.YtjecnjgngahmfaaDoorBlobRefs
import Derived.Test.YtjecnjgngahmfaaDoorNumWalk
import Derived.Deep.CutRange
namespace Go.Proofs.YtjecnjgngahmfaaDoor.blobTells
open Go Go.RowKit Go.Maps Go.Proofs.YtjecnjgngahmfaaDoor.Mem Go.Proofs.YtjecnjgngahmfaaDoor.MapsW Go.Proofs.YtjecnjgngahmfaaDoor.SeeW Go.Proofs.YtjecnjgngahmfaaDoor.DevG Go.Proofs.YtjecnjgngahmfaaDoor.RefsW Go.Proofs.YtjecnjgngahmfaaDoor.BlobW
set_option linter.unusedVariables false
set_option maxRecDepth 100000

/-- i blocks put on a new device -/
def Ut (w1 : World) (a u q i : Nat) (wr : World) : Prop := ∃ D, AAt wr w1.heap.size (w1.heap.size + 5) (2 * i) (mp w1.heap.size) D a u q (uA i) ∧ Okt D i ∧ Below w1.heap.size w1 wr
theorem Ut.below {w1 : World} {a u q i : Nat} {wr w' : World} (h : Ut w1 a u q i wr) (hb : Below wr.heap.size wr w') : Ut w1 a u q i w' := by
  obtain ⟨D, h1, h2, h5⟩ := h
  exact ⟨D, h1.below hb, h2, h5.trans (hb.mono h5.size)⟩
theorem Ut.put {w1 : World} {a u q i : Nat} {wr : World} (h : Ut w1 a u q i wr) (hi : i < 20) (s : Option Addr) (cap : Nat) (hl : Nums .u8 wr s 2 cap [i, 9]) :
    Calls Tryd.prog 16 #[ptr a, .slice s 2 cap] wr fun e w' => e = .returned (.tuple #[.agg #[.int .i64 (150 + (i : Int)), .int .u32 (Crc.sum (tb i) : Nat)], .nilIface]) ∧ Ut w1 a u q (i + 1) w' ∧ Turn (aown (w1.heap.size + 5) (mp w1.heap.size) a u q) wr w' := by
  obtain ⟨D, h1, h2, h5⟩ := h
  have hnx := uA_next (i := i) (by omega)
  rw [← h2.blocks] at hnx
  refine (put_w _ _ _ _ _ a u q _ (150 + i) s 2 cap [i, 9] wr h1 hl (by intro x hx; simp at hx; omega) (by decide) (by omega) (by rw [h2.calls]; omega) h2.fuse h2.down (by rw [h2.blocks]; exact uA_last (by omega)) hnx).mono ?_
  rintro e w' ⟨rfl, A, T⟩
  rw [uA_put] at A
  exact ⟨by rw [show ((150 + i : Nat) : Int) = 150 + (i : Int) by omega]; rfl, ⟨_, A.mono (by omega), h2.put, h5.trans (T.below h5.size h1.own_lo)⟩, T⟩
theorem Ut.grown {w1 : World} {a u q i : Nat} {w w' : World} (h : Ut w1 a u q i w) {base : Nat} {v : Value} {r : Nat} {rs : List (Int × Nat)} (own : OwnRefs w base v r rs) (hg : w.grownBy w' v.ownBlock) (hb : ∀ x ∈ aown (w1.heap.size + 5) (mp w1.heap.size) a u q, x < base) (hbase : w1.heap.size ≤ base) (h0 : r = 0 → v = .slice none 0 0) : Ut w1 a u q i w' := by
  obtain ⟨D, h1, h2, h5⟩ := h
  exact ⟨D, h1.grown own hg hb h0, h2, h5.grown hg h5.size fun g e => by have := (own.lt g e).1; omega⟩
def rsOf (n : Nat) : List (Int × Nat) := (List.range n).map fun (j : Nat) => (150 + (j : Int), Crc.sum (tb j))
theorem rsOf_succ (n : Nat) : refCells (rsOf (n + 1)) = refCells (rsOf n) ++ [.int .i64 (150 + (n : Int)), .int .u32 (Crc.sum (tb n) : Nat)] := by
  unfold rsOf
  rw [List.range_succ, List.map_append, refCells_append]
  rfl
theorem turn_cell {S : List Nat} {w w' : World} {g o : Nat} {v : Value} (T : Turn S w w') (hc : w.cell? ⟨g, o, none⟩ = some v) (hn : g ∉ S) : w'.cell? ⟨g, o, none⟩ = some v := by
  rw [World.cell?_of_block (w := w) (T.block g (World.block_lt_of_cell? _ _ hc) hn)]
  exact hc
theorem rsOf_length (n : Nat) : (rsOf n).length = n := by simp [rsOf]
theorem rsOf_get {n p : Nat} (h : p < (rsOf n).length) : (rsOf n)[p] = (150 + (p : Int), Crc.sum (tb p)) := by simp [rsOf]
set_option maxHeartbeats 6400000 in
theorem walk (a0 a1 a2 a3 : Int) (a4 : Bool) (w : World) (hE : Err.All w gl) (w0 : (Lit.int .i64 a0).wf = true) (w1 : (Lit.int .i64 a1).wf = true) (w2 : (Lit.int .i64 a2).wf = true) (w3 : (Lit.int .u32 a3).wf = true) :
    Calls Tryd.prog 4 #[.int .i64 a0, .int .i64 a1, .int .i64 a2, .int .u32 a3, .bool a4] w fun e w' => e = .returned (.bool true) ∧ Below w.heap.size w w' := by
  obtain ⟨bs, hB⟩ := bs_of hE
  have h0 := int_of w0
  have h1 := int_of w1
  have h2 := int_of w2
  obtain ⟨t, ht, ht0, ht1⟩ := or_u32 a3 1 (by decide) (by decide)
  simp only [Int.cast_ofNat_Int] at ht
  have HT := hid ht
  have HT0 := hid ht0
  have HT1 := hid ht1
  clear hE w0 w1 w2 w3 ht ht0 ht1
  go_enter Tryd.func4, Tryd.ntmps4
  go_wp2_with fail
  refine (lawfirst_w bs w (Ev.of_bs hB _ (by decide))).mono ?_
  rintro e w1 ⟨rfl, b1⟩
  have HBs := hid (hB.below b1)
  have HB1 := hid b1
  clear hB b1
  go_wp2_with fail
  refine (NumW.number_w a0 20 _ (by decide) (by decide) h0.1 h0.2).mono ?_
  rintro e w' ⟨rfl, rfl⟩
  obtain ⟨k, hk⟩ := Int.eq_ofNat_of_zero_le (Int.emod_nonneg a0 (show (20 : Int) ≠ 0 by decide))
  have hk9 : k < 20 := by have := Int.emod_lt_of_pos a0 (show (0 : Int) < 20 by decide); omega
  rw [hk]
  clear hk h0
  go_wp2_with fail
  refine (NumW.number_w a1 ((k : Int) + 1) _ (by omega) (by omega) h1.1 h1.2).mono ?_
  rintro e w' ⟨rfl, rfl⟩
  obtain ⟨p, hp⟩ := Int.eq_ofNat_of_zero_le (Int.emod_nonneg a1 (show (k : Int) + 1 ≠ 0 by omega))
  have hp9 : p < k + 1 := by have := Int.emod_lt_of_pos a1 (show (0 : Int) < (k : Int) + 1 by omega); omega
  rw [hp]
  clear hp h1
  go_wp2_with fail
  refine (opened_w 300 w1 (by decide) (by decide)).mono ?_
  rintro e w2 ⟨a, u, q, rfl, A2, b2⟩
  have OLD := hid A2.old
  have LO := hid A2.own_lo
  rw [uA_zero] at A2
  have U2 := hid (show Ut w1 a u q 0 w2 from ⟨_, A2, Okt.new, b2⟩)
  have z2 := b2.size
  clear A2 b2
  go_wp2_with fail
  go_loopw [14, 15] (fun rv iv wr => ∃ i : Nat, i ≤ k + 1 ∧ iv = .int .i64 (i : Int) ∧ Ut w1 a u q i wr ∧ OwnRefs wr w2.heap.size rv i (rsOf i) ∧ (i = 0 → rv = .slice none 0 0) ∧ w2.heap.size ≤ wr.heap.size) (fun _ iv _ => k + 1 - (intOf iv).toNat)
  case atStart => exact ⟨0, by omega, rfl, U2.out, World.ownsRow_nil _ _ _ _, fun _ => rfl, Nat.le_refl _⟩
  case round =>
    clear U2
    obtain ⟨i, hi, rfl, hU, own, hv, hz⟩ := hrel
    by_cases hlt : i < k + 1
    · have b3 := (Below.refl wr.heap.size wr).alloc (Nat.le_refl _) (.cells #[.int .u8 (i : Int), .int .u8 ((9 : Nat) : Int)] 5)
      have hput := (hU.below b3).put (by omega) _ 2 (newb2 wr i 9)
      have own3 := own.alloc (.cells #[.int .u8 (i : Int), .int .u8 ((9 : Nat) : Int)] 5)
      have OWN := hid own3
      have HV := hid hv
      have hz3 := b3.size
      clear own hU own3 b3 hv
      go_wp2_with fail
      refine hput.mono ?_
      rintro e w7 ⟨rfl, U7, T7⟩
      have own7 : OwnRefs w7 w2.heap.size u14 i (rsOf i) := own_turn OWN.out T7 (fun x hx => .inl (OLD.out x hx))
      have b8 := (Below.refl w7.heap.size w7).alloc (Nat.le_refl _) (.cells #[.int .i64 (150 + (i : Int)), .int .u32 (Crc.sum (tb i) : Nat)] 31)
      obtain ⟨x0, x1⟩ := Mem.new2 w7 (.int .i64 (150 + (i : Int))) (.int .u32 (Crc.sum (tb i) : Nat)) 31
      have z8 := T7.size
      have own8 : OwnRefs _ w2.heap.size u14 i (rsOf i) := own7.alloc (.cells #[.int .i64 (150 + (i : Int)), .int .u32 (Crc.sum (tb i) : Nat)] 31)
      have U8 := U7.below b8
      have hz8 : (w7.alloc (.cells #[.int .i64 (150 + (i : Int)), .int .u32 (Crc.sum (tb i) : Nat)] 31)).heap.size = w7.heap.size + 1 := by simp
      have hr := Row.fresh2 (w7.alloc (.cells #[.int .i64 (150 + (i : Int)), .int .u32 (Crc.sum (tb i) : Nat)] 31)) (.int .i64 (150 + (i : Int))) (.int .u32 (Crc.sum (tb i) : Nat)) 31
      have b9 := (Below.refl (w7.alloc (.cells #[.int .i64 (150 + (i : Int)), .int .u32 (Crc.sum (tb i) : Nat)] 31)).heap.size _).alloc (Nat.le_refl _) (.cells #[.int .i64 (150 + (i : Int)), .int .u32 (Crc.sum (tb i) : Nat)] 31)
      have U9 := hid (U8.below b9)
      have OWN9 := hid (own8.alloc (.cells #[.int .i64 (150 + (i : Int)), .int .u32 (Crc.sum (tb i) : Nat)] 31))
      rw [hz8] at hr
      clear b8 b9 hz8 U8
      clear hput T7 own7 OWN U7
      go_wp2_with (at_builtin; go_must (refine wpList_app elRef rfl _ _ rfl w2.heap.size u14 i _ rfl OWN9.out _ 1 1 [.int .i64 (150 + (i : Int)), .int .u32 (Crc.sum (tb i) : Nat)] rfl hr (oneCell2 rfl rfl) (by unfold maxLen; omega) (by omega) (by simp; omega) ?_); intro v1 w9 own9 hb9 hg9)
      refine ⟨⟨i + 1, by omega, by go_num, U9.out.grown OWN9.out hg9 OLD.out z2 HV.out, ?_, fun e => absurd e (by omega), ?_⟩, by simp [intOf]; omega⟩
      · show World.ownsRow _ _ _ _ _ _ (refCells (rsOf (i + 1)))
        rw [rsOf_succ]
        exact own9
      · have := hb9.size
        simp at this
        omega
    · obtain rfl : i = k + 1 := by omega
      obtain ⟨g, gc, zz, rfl, hg1, hg2, _⟩ := own_first own (by omega)
      obtain ⟨a', c', e', hR⟩ := refs_of own
      cases e'
      obtain ⟨D, A3, D3, B3⟩ := hU
      obtain ⟨cur, ct, cf, hG⟩ : ∃ cur t f, wr.heap[g]? = some (.cells cur t f) := by
        rcases own.2 with ⟨e, _⟩ | ⟨g', c', cur, e, _, hg, _⟩
        · cases e
        · cases e; exact ⟨_, _, _, hg⟩
      have hfl := flush_ok _ _ _ _ D wr A3.dev (by omega) (by have := D3.np; omega) (by rw [D3.calls]; omega) (by rw [D3.fuse]; omega) (by rw [Dv.tick_zero D3.fuse]; exact D3.down)
      rw [Dv.tick_zero D3.fuse] at hfl
      have RW := hid (fun (w' : World) (e : w'.heap[g]? = wr.heap[g]?) => refs_block hR e)
      have hnp := D3.np
      have F3 := hid (D3.flush (by omega))
      have HA3 := hid A3
      have HB3 := hid B3
      have HG := hid hG
      clear hR own hv A3 D3 B3 hG
      go_wp2_with fail
      refine hfl.mono ?_
      rintro e w4 ⟨rfl, p', hp', h4, T4⟩
      have gout : g ∉ own (w1.heap.size + 5) (mp w1.heap.size) := fun e => by have := OLD.out g (own_sub e); omega
      have A4 := hid (HA3.out.turn h4 T4 rfl (by omega) (fun x hx => by simp [own, Mp.list] at hx ⊢; omega))
      have G4 := T4.cells HG.out gout
      have B4 := hid (HB3.out.trans (T4.below HB3.out.size HA3.out.dev.own_lo))
      have R4 := RW.out _ (G4.trans HG.out.symm)
      generalize D.flush = F at *
      have gout4 : g ∉ own (w1.heap.size + 5) { mp w1.heap.size with p := p' } := fun e => by
        simp [own, Mp.list] at e gout
        omega
      clear hfl h4 T4 HA3 HB3
      have hpr : p < (rsOf (k + 1)).length := by rw [rsOf_length]; exact hp9
      have hpe := rsOf_get hpr
      obtain ⟨b0, o0, e0, hc0, hc1⟩ := R4.at hpr
      cases e0
      rw [hpe] at hc0 hc1
      simp only [Nat.zero_add] at hc0 hc1
      have e150 : (150 : Int) + (p : Int) = ((150 + p : Nat) : Int) := by omega
      have HE := hid e150
      have HG4 := hid G4
      clear e150 R4 hpr hpe G4
      have f1 : (0 : Int) ≤ (p : Int) := by omega
      have f2 : (p : Int) < (k : Int) + 1 := by omega
      have hf : ∀ w' : World, Below w4.heap.size w4 w' → At w' w1.heap.size (w1.heap.size + 5) (2 * (k + 1) + 3 * D.np) { mp w1.heap.size with p := p' } F := fun w' hb => A4.out.dev.below hb
      have hfit : Fits ((150 + p : Nat) : Int) := by unfold Fits; omega
      go_upto_if 58 with fail
      go_cut [] from 59 to 76 (fun wx => ∃ (F' : Dv), AAt wx w1.heap.size (w1.heap.size + 5) 300 { mp w1.heap.size with p := p' } F' a u q (uA (k + 1)) ∧ Oke F' (k + 1) p ∧ Below w1.heap.size w1 wx ∧ wx.heap[g]? = some (.cells cur ct cf))
      case first =>
        cases a4
        · obtain ⟨y, hy⟩ := Int.eq_ofNat_of_zero_le (Int.emod_nonneg a2 (show (253 : Int) ≠ 0 by decide))
          have hy9 : y < 253 := by have := Int.emod_lt_of_pos a2 (show (0 : Int) < 253 by decide); omega
          have hnum := fun w => NumW.number_w a2 253 w (by decide) (by decide) h2.1 h2.2
          rw [hy] at hnum
          have hsp := fun (w' : World) (hb : Below w4.heap.size w4 w') => spoil_w _ _ _ _ F ((150 + p : Nat) : Int) (y : Int) t w' (hf w' hb) hfit (by omega) (by unfold Fits; omega) HT1.out (F3.out.idle.kept _)
          rw [← HE.out, ← HT.out] at hsp
          clear hy h2
          go_wp2_with fail
          go_region_held3 (fun w' => w'.cell? ⟨g, p * 2, none⟩ = some (.int .i64 (150 + (p : Int))))
            (first | exact hc0 | exact hc5 | go_keep)
            (first
              | (go_at_call 14; refine (hnum _).mono ?_; rintro e w' ⟨rfl, rfl⟩)
              | (go_at_call 26; refine (hsp _ (Below.refl _ _).drew).mono ?_; rintro e w5 ⟨rfl, h5, t5⟩; have hc5 := turn_cell t5 (show w4.drew.cell? ⟨g, p * 2, none⟩ = _ from hc0) gout4))
          go_wp2_with fail
          have O5 : Oke (F.spoil (150 + (p : Int)) (y : Int) t) (k + 1) p := by rw [HE.out]; exact F3.out.spoil (by omega) hp9 (by omega) HT0.out HT1.out
          have G5 := t5.cells (show w4.drew.heap[g]? = _ from HG4.out) gout4
          have A5 := ((A4.out.below (Below.refl _ _).drew).turn' h5 t5 (O5.blocks.trans F3.out.blocks.symm) (by omega)).mono (n' := 300) (by omega)
          have B5 := B4.out.drew.trans (t5.below (B4.out.drew.size) A4.out.dev.own_lo)
          clear hsp hnum h5 t5 hc5
          go_meet
          case rel => exact ⟨_, A5, O5, B5, G5⟩
        · go_wp2_with fail
          refine (fail_w _ _ _ _ F (150 + (p : Int)) w4 (hf _ (Below.refl _ _)) (by rw [HE.out]; exact hfit) (by omega)).mono ?_
          rintro e w5 ⟨rfl, h5, t5⟩
          go_wp2_with fail
          have O5 : Oke (F.fail (150 + (p : Int))) (k + 1) p := by rw [HE.out]; exact F3.out.fail (by omega) hp9
          have G5 := t5.cells HG4.out gout4
          have A5 := (A4.out.turn' h5 t5 (O5.blocks.trans F3.out.blocks.symm) (by omega)).mono (n' := 300) (by omega)
          have B5 := B4.out.trans (t5.below (B4.out.size) A4.out.dev.own_lo)
          clear h5 t5
          go_meet
          case rel => exact ⟨_, A5, O5, B5, G5⟩
      case rest =>
        obtain ⟨F', A5, O5, B5, G5⟩ := hcut
        have HA5 := hid A5
        have HO5 := hid O5
        have HB5 := hid B5
        have HG5 := hid G5
        clear A5 O5 B5 G5 HG4 B4 A4 hf h2 hc0 hc1 F3
        obtain ⟨w5, hw5⟩ : ∃ w5, w5 = wc := ⟨_, rfl⟩
        rw [← hw5] at HA5 HB5 HG5
        go_wp2_with fail
        go_loopw [18] (fun iv wr => ∃ i : Nat, i ≤ k + 1 ∧ iv = .int .i64 (i : Int) ∧ Below w5.heap.size w5 wr) (fun iv _ => k + 1 - (intOf iv).toNat)
        case atStart => exact ⟨0, by omega, rfl, by rw [hw5]; exact Below.refl _ _⟩
        case round =>
          clear hw5 hi hlt f1 f2 hfit
          obtain ⟨i, hi, rfl, bx⟩ := hrel
          by_cases hlt : i < k + 1
          · have glt := (Array.getElem?_eq_some_iff.1 HG5.out).1
            have R6 := RW.out _ ((bx.block _ glt).trans (HG5.out.trans HG.out.symm))
            have hir : i < (rsOf (k + 1)).length := by rw [rsOf_length]; exact hlt
            obtain ⟨b0, o0, e0, hc0, hc1⟩ := R6.at hir
            cases e0
            rw [rsOf_get hir] at hc0 hc1
            simp only [Nat.zero_add] at hc0 hc1
            have A6 := HA5.out.below bx
            have B6 := HB5.out.trans (bx.mono HB5.out.size)
            have hfi : Fits (150 + (i : Int)) := by unfold Fits; omega
            have hsl := Crc.sum_lt (tb_bytes (i := i) (by omega))
            have hget := get_w bs _ _ _ _ _ a u q _ (150 + (i : Int)) (Crc.sum (tb i)) wr A6 hfi hsl ((Ev.of_bs HBs.out _ (by decide)).below B6) HO5.out.bytes
            have hgood := fun w' (hb : Below wr.heap.size wr w') => good_w bs _ _ _ _ _ a u q _ (150 + (i : Int)) (Crc.sum (tb i)) w' (A6.below hb) hfi hsl ((Ev.of_bs HBs.out _ (by decide)).below (B6.trans (hb.mono B6.size))) HO5.out.bytes
            have HB6 := hid B6
            have HBX := hid bx
            clear R6 hir A6 B6 hfi hsl glt bx
            have f1 : (0 : Int) ≤ (i : Int) := by omega
            have f2 : (i : Int) < (k : Int) + 1 := by omega
            by_cases hip : i = p
            · subst hip
              rw [HO5.out.no] at hget hgood
              go_wp2_with fail
              refine hget.mono ?_
              rintro e w7 ⟨⟨x, hx, rfl⟩, b7⟩
              have his := is_w bs w7 (HBs.out.below (HB6.out.trans (b7.mono HB6.out.size))) 6 x hx 107
              replace hc0 := kept b7 hc0
              replace hc1 := kept b7 hc1
              have B7 := hid b7
              clear hget b7 hx
              go_wp2_with fail
              refine his.mono ?_
              rintro e w8 ⟨rfl, b8⟩
              replace hc0 := kept b8 hc0
              replace hc1 := kept b8 hc1
              have B8 := hid (B7.out.trans (b8.mono B7.out.size))
              have hgo := hgood _ B8.out
              clear his b8 B7 hgood
              go_wp2_with fail
              refine hgo.mono ?_
              rintro e w9 ⟨rfl, b9⟩
              have B9 := hid (HBX.out.trans ((B8.out.trans (b9.mono B8.out.size)).mono HBX.out.size))
              clear hgo b9 B8 hc0 hc1
              go_wp2_with fail
              go_roundw
              case rel => exact ⟨i + 1, by omega, by go_num, B9.out⟩
              case measure => simp [intOf]; omega
            · rw [HO5.out.ok i hlt hip] at hget hgood
              have d1 : ((i : Int) == (p : Int)) = false := by rw [beq_eq_false_iff_ne]; omega
              go_wp2_with fail
              refine hget.mono ?_
              rintro e w7 ⟨⟨g7, gc7, rfl, hn7, hg7⟩, b7⟩
              replace hc0 := kept b7 hc0
              replace hc1 := kept b7 hc1
              have B7 := hid b7
              have N7 := hid hn7
              have hfl := full_w _ 2 2 [i, 9] _ (newb2 w7 i 9) (by decide)
              clear hget b7 hn7 hip
              go_wp2_with fail
              refine hfl.mono ?_
              rintro e w8 ⟨g8, gc8, rfl, n8, _, b8⟩
              have b78 := below_put (Below.refl w7.heap.size w7) (Nat.le_refl _) _ b8
              have hsm := RefW.same_w _ 256 gc7 _ _ 256 gc8 _ w8 (N7.out.below b78) n8
              rw [show decide (tb i = Crc.pad [i, 9]) = true from decide_eq_true rfl] at hsm
              replace hc0 := kept b78 hc0
              replace hc1 := kept b78 hc1
              have B8 := hid (B7.out.trans (b78.mono B7.out.size))
              clear hfl n8 b8 b78 N7 B7
              go_wp2_with fail
              refine hsm.mono ?_
              rintro e w9 ⟨rfl, b9⟩
              replace hc0 := kept b9 hc0
              replace hc1 := kept b9 hc1
              have B9 := hid (B8.out.trans (b9.mono B8.out.size))
              have hgo := hgood _ B9.out
              clear hsm b9 B8 hgood
              go_wp2_with fail
              refine hgo.mono ?_
              rintro e w10 ⟨rfl, b10⟩
              have B10 := hid (HBX.out.trans ((B9.out.trans (b10.mono B9.out.size)).mono HBX.out.size))
              clear hgo b10 B9 hc0 hc1
              go_wp2_with fail
              go_roundw
              case rel => exact ⟨i + 1, by omega, by go_num, B10.out⟩
              case measure => simp [intOf]; omega
          · obtain rfl : i = k + 1 := by omega
            have B6 := HB5.out.trans (bx.mono HB5.out.size)
            go_wp2_with fail
            go_ret
            exact ⟨rfl, HB1.out.trans (B6.mono HB1.out.size)⟩
end Go.Proofs.YtjecnjgngahmfaaDoor.blobTells
