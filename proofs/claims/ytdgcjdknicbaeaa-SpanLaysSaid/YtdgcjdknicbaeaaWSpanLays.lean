/- The walk of SpanLays. -/
import Derived.Test.YtdgcjdknicbaeaaSpanLay
import Derived.Test.YtdgcjdknicbaeaaSpanFill
import Derived.Test.YtdgcjdknicbaeaaSpanMeets
import Derived.Test.YtdgcjdknicbaeaaSpanFirst
import Derived.Test.YtdgcjdknicbaeaaNumWalk
import Derived.StillTailTactics
namespace Go.Proofs.Ytdgcjdknicbaeaa.spanLays
open Go Go.RowKit Go.Proofs.Ytdgcjdknicbaeaa.Mem Go.Proofs.Ytdgcjdknicbaeaa.RefW Go.Proofs.Ytdgcjdknicbaeaa.SpanW
set_option linter.unusedVariables false
set_option maxRecDepth 100000

/-- some of a slice's elements -/
theorem sub {k : IntKind} {w : World} {b off n cap : Nat} {l : List Nat} (h : Nums k w (some ⟨b, off, none⟩) n cap l) (i m : Nat) (hi : i + m ≤ n) :
    Nums k w (some ⟨b, off + i, none⟩) m (cap - i) ((l.drop i).take m) := by
  have hl := h.len
  obtain ⟨h1, h2, h3, h4, h5⟩ := h
  refine ⟨by rw [nums_length, List.length_take, List.length_drop]; omega, by omega, by omega, fun h => by simp at h, fun j u hj => ⟨b, off + i, rfl, ?_⟩⟩
  have e : nums k ((l.drop i).take m) = ((nums k l).drop i).take m := by simp [nums, List.map_take, List.map_drop]
  rw [e, List.getElem?_take] at hj
  split at hj
  · rw [List.getElem?_drop] at hj
    obtain ⟨b', o', he, hc⟩ := h5 (i + j) u hj
    cases he
    rw [show off + i + j = off + (i + j) by omega]
    exact hc
  · cases hj
/-- what is owned stays where one block alone was written -/
theorem kept_set {w : World} {base : Nat} {e : TypeId} {size : Nat} {g n cap : Nat} {xs : List Value} (h : w.ownsRow base e size (.slice (some ⟨g, 0, none⟩) n cap) n xs) {b : Nat} (hne : b ≠ g) (j : Nat) (v : Value) :
    (w.setCell ⟨b, j, none⟩ v).ownsRow base e size (.slice (some ⟨g, 0, none⟩) n cap) n xs :=
  h.kept (row := some b) ⟨rfl, rfl, rfl, by simp, fun k _ hk => heap_setCell_other w ⟨b, j, none⟩ k v (fun e => hk (by simp [e]))⟩ (by right; simp [Value.ownBlock]; omega)

theorem cell_set {w : World} {b b' j o : Nat} {v u : Value} (h : w.cell? ⟨b', o, none⟩ = some u) (hne : b ≠ b') : (w.setCell ⟨b, j, none⟩ v).cell? ⟨b', o, none⟩ = some u := by
  rw [World.cell?_setCell_other w (a := ⟨b, j, none⟩) (b := ⟨b', o, none⟩) (v := v) (fun e => hne (congrArg Addr.block e))]; exact h
theorem kept_setN {w : World} {base : Nat} {e : TypeId} {k : IntKind} {g n cap : Nat} {l : List Nat} (h : OwnN w base e k g n cap l) {b : Nat} (hne : b ≠ g) (j : Nat) (v : Value) :
    OwnN (w.setCell ⟨b, j, none⟩ v) base e k g n cap l := kept_set h hne j v

set_option maxHeartbeats 6400000 in
theorem done (a0 : Int) (ba : Option Addr) (n cap0 : Nat) (l : List Nat) (c : Nat) (w : World)
    (h0 : Nums .u8 w ba n cap0 l) (i00 : -9223372036854775808 ≤ a0) (i01 : a0 ≤ 9223372036854775807) (n0 : n ≤ 1000) (hc : c < 256) :
    Calls Try.prog 3 #[.int .i64 a0, .slice ba n cap0, .int .u8 c] w fun e w' => e = .returned (.bool true) ∧ Below w.heap.size w w' := by
  have hpm := Int.emod_nonneg a0 (b := 1000) (by omega)
  have hpl := Int.emod_lt_of_pos a0 (b := 1000) (by omega)
  obtain ⟨p, hp⟩ := Int.eq_ofNat_of_zero_le hpm
  have HP := hid hp
  have hpn : p < 1000 := by omega
  clear hp hpm hpl
  go_enter Try.func3, Try.ntmps3
  go_wp2_with fail
  refine (SpanW.first_w _).mono ?_
  rintro e w1 ⟨rfl, hb1⟩
  have k1 := h0.below hb1
  clear h0
  have z1 := hb1.size
  go_wp2_with fail
  refine (NumW.number_w a0 1000 _ (by omega) (by omega) i00 i01).mono ?_
  rintro e w' ⟨rfl, rfl⟩
  rw [HP.out]
  clear HP i00 i01
  go_wp2_with (at_make; go_must (refine wpList_mkn elU8 rfl _ _ rfl w1.heap.size _ _ _ _ 2048 rfl rfl rfl rfl (by decide) (by decide) (Nat.le_refl _) ?_); intro w2 own2 hg2)
  rw [made_nums] at own2
  have g2 := below_growns hg2 (Nat.le_refl _)
  clear hg2
  go_loopw [9] (fun i wr => ∃ k : Nat, k ≤ 2048 ∧ i = .int .i64 k ∧ OwnN wr w1.heap.size 5 .u8 w1.heap.size 2048 2048 (List.replicate k c ++ List.replicate (2048 - k) 0) ∧ Below w1.heap.size w1 wr) (fun i _ => 2048 - (intOf i).toNat)
  case atStart => exact ⟨0, by omega, rfl, own2, g2⟩
  case round =>
    clear own2 g2
    obtain ⟨k, hk, rfl, hown, hb⟩ := hrel
    by_cases hlt : k < 2048
    · have HF := hid (Span.fill_set 2048 k c hlt)
      have hl := OwnN.len hown
      obtain ⟨c0, hc0⟩ : ∃ c0, wr.cell? ⟨w1.heap.size, k, none⟩ = some c0 := ⟨_, OwnN.cell hown (j := k) (by omega)⟩
      have hf := World.ownsRow.frozenAt hown k
      have HO := hid hown
      clear hown hl
      go_wp2
      go_roundw
      case rel => exact ⟨k + 1, by omega, by go_num, by rw [← HF.out]; exact OwnN.set HO.out k c, hb.setCell (Nat.le_refl _) _⟩
      case measure => simp [intOf]; omega
    · obtain rfl : k = 2048 := by omega
      rw [Nat.sub_self, List.replicate_zero, List.append_nil] at hown
      clear hlt hk
      have ownA := hown
      clear hown
      have hg1 := (OwnN.lt ownA).2
      generalize hw2 : wr = w2 at *
      clear hw2
      have z2 := hb.size
      clear z1
      have z1 := hb1.size
      go_wp2_with fail
      refine (SpanW.pieces_w p n _ (by omega) (by omega)).mono ?_
      rintro e w3 ⟨v2, rfl, own3, hb3⟩
      have z3 := hb3.size
      have ownA3 := ownsRow_below ownA hb3
      obtain ⟨la, lc, rfl, hrow⟩ := ownsRow_slice own3
      have hlc : (Span.pcs p n).length ≤ n := Span.pcs_length n p
      have HL0 := hid (show Span.pcs p n = [] → n = 0 from Span.pcs_nil)
      generalize hLL : Span.pcs p n = L at *
      have HD0 : Hid (L.drop 0 = Span.pcs p n) := hid (by rw [hLL]; rfl)
      obtain ⟨R, hR⟩ : ∃ R, R = List.replicate 2048 c := ⟨_, rfl⟩
      have hRl : R.length = 2048 := by rw [hR]; exact List.length_replicate
      have hll := k1.len
      rw [← hR] at ownA ownA3
      have HR := hid hR
      have c13 : Below w1.heap.size w1 w3 := hb.trans (hb3.mono z2)
      clear hR hrow hLL ownA hb3
      go_wp2_with fail
      go_loopw [11, 12] (fun x i wz => ∃ k fr rem : Nat, i = .int .i64 k ∧ x = .int .i64 fr ∧ k ≤ L.length ∧ L.drop k = Span.pcs (p + fr) rem ∧ fr + rem = n ∧ (0 < k → 0 < rem → (p + fr) % 256 = 0) ∧ OwnN wz w1.heap.size 5 .u8 w1.heap.size 2048 2048 (splice R p (l.take fr)) ∧ wz.ownsRow w2.heap.size 28 3 (.slice la L.length lc) L.length (SpanW.flat L) ∧ Below w1.heap.size w1 wz ∧ w3.heap.size ≤ wz.heap.size) (fun _ i _ => L.length - (intOf i).toNat)
      case atStart => exact ⟨0, 0, n, rfl, rfl, by omega, HD0.out, by omega, by omega, by rw [List.take_zero, Span.splice_nil]; exact ownA3, own3, c13, Nat.le_refl _⟩
      case round =>
        clear ownA3 own3 c13
        obtain ⟨k, fr, rem, rfl, rfl, hk, hdrop, hpr, hal, ownA, own3, c13, z4⟩ := hrel
        by_cases hlt : k < L.length
        · obtain ⟨I, F, T, hL, h1, h2, h3, h4, h5, h6, h7, h8⟩ := spanAll.meets hdrop hlt hal
          obtain ⟨g, rfl⟩ := own_some own3 (by omega)
          obtain ⟨c0, c1, c2⟩ := SpanW.piece_at own3 hlt
          rw [hL] at c0 c1 c2
          simp only at c0 c1 c2
          have H7 := hid h7
          have H8 := hid h8
          have hI : I ≤ 7 := by omega
          have hF : F < 256 := by omega
          have HP := hid h1
          clear hdrop hal h5 h6 h7 h8 hL h1
          have k2 := k1.below c13
          have hrem : 0 < n := by omega
          have hT : T - F ≤ n - fr := by omega
          obtain ⟨bb, bo, rfl⟩ : ∃ b o, ba = some ⟨b, o, none⟩ := by
            obtain ⟨b, o, h, _⟩ := k2.at (j := 0) (by omega)
            exact ⟨b, o, h⟩
          have hp0 := hid hpr
          have hbb := k2.bound
          obtain ⟨m, rfl⟩ : ∃ m, T = F + m := ⟨T - F, by omega⟩
          rw [Nat.add_sub_cancel_left] at H7 H8 h4 hT
          have i1 : (m : Int) ≤ (n : Int) - (fr : Int) := by omega
          have i2 : (F : Int) + (m : Int) - (F : Int) = (m : Int) := by omega
          have hgg := World.ownsRow.lt own3 g rfl
          have z5 := c13.size
          go_wp2_with fail
          have ownA4 := ownsRow_below ownA ((Below.refl _ wr).alloc (Nat.le_refl _) (.cells #[.int .i64 I, .int .i64 F, .int .i64 (F + m)] 28))
          have hsub := sub (OwnN.nums ownA4) (256 * I) 256 (by omega)
          rw [Nat.zero_add] at hsub
          refine (RefW.bytes_w _ 256 (2048 - 256 * I) _ _ hsub (by omega)).mono ?_
          rintro e w5 ⟨v5, rfl, own5, hb5⟩
          obtain ⟨oa, oc, rfl, hrow⟩ := ownsRow_slice own5
          obtain ⟨q0, q1, q2⟩ := SpanW.new3 wr (.int .i64 I) (.int .i64 F) (.int .i64 ((F : Int) + (m : Int))) 28
          replace q0 := kept hb5 q0
          replace q1 := kept hb5 q1
          replace q2 := kept hb5 q2
          have b5 : Below wr.heap.size wr w5 := ((Below.refl _ wr).alloc (Nat.le_refl _) _).trans (hb5.mono (by simp))
          have k5 := k2.below b5
          have own6 := ownsRow_below own3 b5
          have ownA6 := ownsRow_below ownA b5
          have c5 : Below w1.heap.size w1 w5 := c13.trans (b5.mono z5)
          have z6 := b5.size
          have ksub := sub k5 fr m (by omega)
          have hrow : Nums .u8 w5 oa 256 oc (((splice R p (l.take fr)).drop (256 * I)).take 256) := hrow
          generalize hlo : ((splice R p (l.take fr)).drop (256 * I)).take 256 = lo at *
          generalize hlb : (l.drop fr).take m = lb at *
          have HLO := hid hlo
          have HLB := hid hlb
          clear hlo hlb own5 hb5 hsub ownA4 ownA own3 c0 c1 c2 k2
          go_wp2_with fail
          go_still_tail 8, (by kernel_rfl)
          refine wpStill_step (fun K hK => ?_)
          go_simp
          have hW : IntKind.i64.wrap ((fr : Int) + (m : Int)) = ((fr + m : Nat) : Int) := by
            rw [IntKind.wrap_i64]; omega
          rw [hW, if_pos ⟨by omega, by omega⟩, Int.toNat_natCast, if_pos (by omega), if_neg (by omega), Nat.add_sub_cancel_left]
          refine ⟨rfl, hK _ ?_⟩
          clear hK K
          refine wpStill_nil ?_
          change wpList _ _ _ _ _ w5.drew
          have b6 : Below w5.heap.size w5 w5.drew := (Below.refl _ _).drew
          replace hrow := hrow.below b6
          replace ksub := ksub.below b6
          replace own6 := ownsRow_below own6 b6
          replace ownA6 := ownsRow_below ownA6 b6
          replace c5 := c5.trans (b6.mono (by have := c5.size; omega))
          replace q0 := kept b6 q0
          replace q1 := kept b6 q1
          replace q2 := kept b6 q2
          replace z6 := Nat.le_trans z6 b6.size
          clear b6 b5 k5
          generalize w5.drew = w6 at *
          go_wp2_with fail
          refine (SpanW.lay_w oa oc lo I F (F + m) _ m (cap0 - fr) lb _ hrow ksub rfl h3 hF).mono ?_
          rintro e w7 ⟨gx, rfl, ownX, hb7⟩
          replace own6 := ownsRow_below own6 hb7
          replace ownA6 := ownsRow_below ownA6 hb7
          have z7 := c5.size
          replace c5 := c5.trans (hb7.mono c5.size)
          replace q0 := kept hb7 q0
          replace q1 := kept hb7 q1
          replace q2 := kept hb7 q2
          have hgx := OwnN.lt ownX
          have hlx : (splice lo F lb).length = 256 := OwnN.len ownX
          have hz7 := hb7.size
          clear hb7 hrow ksub
          go_wp2_with fail
          have hgx1 : w1.heap.size ≠ gx := by omega
          have hgg1 : w1.heap.size ≠ g := by omega
          have hgp1 : w1.heap.size ≠ wr.heap.size := by omega
          have HA := hid (show splice R p (l.take fr) = splice R p (l.take fr) from rfl)
          have hlA : (splice R p (l.take fr)).length = 2048 := OwnN.len ownA6
          generalize hA : splice R p (l.take fr) = A at *
          clear HA
          have HA := hid hA
          generalize hX : splice lo F lb = X at *
          have HX := hid hX
          clear hA hX
          generalize hPB : wr.heap.size = pb at *
          clear hPB
          have HI := hid (show 256 * I + 256 ≤ 2048 by omega)
          have z8 : w3.heap.size ≤ w7.heap.size := by omega
          clear z7 hz7 z6 hgx hgg
          go_loopw [17] (fun jv wx => ∃ j : Nat, j ≤ 256 ∧ jv = .int .i64 j ∧ OwnN wx w1.heap.size 5 .u8 w1.heap.size 2048 2048 (splice A (256 * I) (X.take j)) ∧ OwnN wx w6.heap.size 5 .u8 gx 256 256 X ∧ wx.ownsRow w2.heap.size 28 3 (.slice (some ⟨g, 0, none⟩) L.length lc) L.length (SpanW.flat L) ∧ wx.cell? ⟨pb, 0, none⟩ = some (.int .i64 I) ∧ Below w1.heap.size w1 wx ∧ w3.heap.size ≤ wx.heap.size) (fun jv _ => 256 - (intOf jv).toNat)
          case atStart => exact ⟨0, by omega, rfl, by rw [List.take_zero, Span.splice_nil]; exact ownA6, ownX, own6, q0, c5, z8⟩
          case round =>
            clear ownA6 ownX own6 q0 q1 q2 c5 z8
            obtain ⟨j, hj, rfl, oA, oX, own6, q0, c5, z8⟩ := hrel
            by_cases hlt : j < 256
            · have hs1 := OwnN.len oA
              have hi := HI.out
              have hcA : ∃ x, wr.cell? ⟨w1.heap.size, 256 * I + j, none⟩ = some x := ⟨_, OwnN.cell oA (j := 256 * I + j) (by omega)⟩
              obtain ⟨xa, hxa⟩ := hcA
              have hcX := OwnN.cell oX (j := j) (by omega)
              have HS := hid (Span.splice_set (l := A) (m := X) (i := 256 * I) (j := j) (by omega) (by omega) (List.getElem?_eq_getElem (show j < X.length by omega)))
              generalize X[j] = x at hcX HS
              have hf := World.ownsRow.frozenAt oA (256 * I + j)
              have HO := hid oA
              have HX2 := hid oX
              have H6 := hid own6
              have HC := hid c5
              clear oA oX own6 c5 hs1
              go_wp2
              go_region
              all_goals go_wp2
              go_roundw
              case rel => exact ⟨j + 1, by omega, by go_num, World.ownsRow.drew (by rw [← HS.out]; exact OwnN.set HO.out (256 * I + j) x), World.ownsRow.drew (kept_setN HX2.out hgx1 _ _), World.ownsRow.drew (kept_set H6.out hgg1 _ _), cell_set q0 hgp1, (HC.out.setCell (Nat.le_refl _) _).drew, by simpa using z8⟩
              case measure => simp [intOf]; omega
            · obtain rfl : j = 256 := by omega
              have hXl := OwnN.len oX
              rw [List.take_of_length_le (by omega)] at oA
              have hfin : splice A (256 * I) X = splice R p (l.take (fr + m)) := by
                rw [← HX.out, ← HLO.out, ← HLB.out, ← HA.out]
                exact Span.splice_piece hRl (by omega) (by omega) (by have := HP.out; omega) h3 hI
              rw [hfin] at oA
              clear oX q0
              have HOA := hid oA
              have H6 := hid own6
              have HC := hid c5
              clear oA own6 c5 hfin
              go_wp2
              go_roundw
              case rel => exact ⟨k + 1, fr + m, rem - m, by go_num, by go_num, by omega, by rw [← Nat.add_assoc]; exact H7.out, by omega, fun _ h => by have := H8.out h; rw [← Nat.add_assoc]; exact this, HOA.out, H6.out, HC.out, z8⟩
              case measure => simp [intOf]; omega
        · obtain rfl : k = L.length := by omega
          have hrem : rem = 0 := by
            have : Span.pcs (p + fr) rem = [] := by rw [← hdrop]; simp
            exact Span.pcs_nil this
          subst hrem
          obtain rfl : fr = n := by omega
          rw [List.take_of_length_le (by omega)] at ownA
          have k2 := k1.below c13
          have HW : Hid (∀ q, p ≤ q ∧ q < p + l.length → (splice R p l)[q]? = l[q - p]?) := hid (fun q hq => Span.splice_in (by omega) hq)
          have HQ : Hid (∀ q, ¬ (p ≤ q ∧ q < p + l.length) → q < 2048 → (splice R p l)[q]? = some c) := hid (fun q h hq => by rw [HR.out]; exact Span.splice_out (by omega) h hq)
          have hz : w1.heap.size ≤ wr.heap.size := c13.size
          have hlz : (splice R p l).length = 2048 := OwnN.len ownA
          generalize splice R p l = Z at *
          clear hdrop hal own3 hk hlt
          go_wp2_with fail
          go_loopw [18] (fun iv wx => ∃ q : Nat, q ≤ 2048 ∧ iv = .int .i64 q ∧ Below wr.heap.size wr wx) (fun iv _ => 2048 - (intOf iv).toNat)
          case atStart => exact ⟨0, by omega, rfl, Below.refl _ _⟩
          case round =>
            obtain ⟨q, hq, rfl, hbx⟩ := hrel
            by_cases hlt : q < 2048
            · have hcz := OwnN.cell (ownsRow_below ownA hbx) (j := q) (by omega)
              have k3 := k2.below hbx
              have HZ := hid (List.getElem?_eq_getElem (show q < Z.length by omega))
              generalize Z[q] = z at hcz HZ
              by_cases hin : p ≤ q ∧ q < p + l.length
              · have hql : q - p < l.length := by omega
                obtain ⟨b0, o0, rfl, hc0⟩ := k3.at hql
                have HE := HW.out q hin
                rw [HZ.out, List.getElem?_eq_getElem hql] at HE
                have HE := Option.some.inj HE
                rw [← HE] at hc0
                have e1 : (q : Int) - (p : Int) = ((q - p : Nat) : Int) := by omega
                generalize hd : q - p = d at *
                have t1 : (p : Int) ≤ (q : Int) := by omega
                have t2 : (q : Int) < (p : Int) + (fr : Int) := by omega
                clear HE HW HQ HZ ownA k3
                go_wp2
                go_roundw
                case rel => exact ⟨q + 1, by omega, by go_num, hbx⟩
                case measure => simp [intOf]; omega
              · have HE := HQ.out q hin hlt
                rw [HZ.out] at HE
                obtain rfl := Option.some.inj HE
                clear HE HW HQ HZ ownA k3
                by_cases hp1 : p ≤ q
                · have t1 : (p : Int) ≤ (q : Int) := by omega
                  have t2 : ¬ (q : Int) < (p : Int) + (fr : Int) := by omega
                  have t3 : decide ((q : Int) < (p : Int) + (fr : Int)) = false := decide_eq_false t2
                  go_wp2
                  go_roundw
                  case rel => exact ⟨q + 1, by omega, by go_num, hbx⟩
                  case measure => simp [intOf]; omega
                · have t1 : ¬ (p : Int) ≤ (q : Int) := by omega
                  have t3 : decide ((p : Int) ≤ (q : Int)) = false := decide_eq_false t1
                  go_wp2
                  go_roundw
                  case rel => exact ⟨q + 1, by omega, by go_num, hbx⟩
                  case measure => simp [intOf]; omega
            · obtain rfl : q = 2048 := by omega
              go_wp2
              go_ret
              exact ⟨rfl, hb1.trans ((c13.trans (hbx.mono hz)).mono z1)⟩
theorem long (a0 : Int) (ba : Option Addr) (n cap0 : Nat) (c : Nat) (w : World) (hn : n ≤ 9223372036854775807) (h : 1000 < n) :
    Calls Try.prog 3 #[.int .i64 a0, .slice ba n cap0, .int .u8 c] w fun e w' => e = .returned (.bool true) ∧ Below w.heap.size w w' := by
  go_enter Try.func3, Try.ntmps3
  go_wp2_with fail
  refine (SpanW.first_w _).mono ?_
  rintro e w1 ⟨rfl, hb1⟩
  go_wp2_with fail
  go_ret
  exact ⟨rfl, hb1⟩

theorem walk (a0 : Int) (a1 : Option Addr) (len1 cap1 : Nat) (z1 : List Int) (a2 : Int) (w : World) (w0 : (Lit.int .i64 a0).wf = true) (w1 : IsRow .u8 w a1 len1 cap1 z1) (w2 : (Lit.int .u8 a2).wf = true) :
    Calls Try.prog 3 #[.int .i64 a0, .slice a1 len1 cap1, .int .u8 a2] w fun e w' => e = .returned (.bool true) ∧ Below w.heap.size w w' := by
  obtain ⟨l, h2, _⟩ := nums_of rfl w1
  have c0 := h2.bound
  obtain ⟨c1, c2⟩ := nat_of rfl w2
  obtain ⟨c, rfl⟩ := Int.eq_ofNat_of_zero_le c1
  rcases Nat.lt_or_ge 1000 len1 with h | h
  · exact long a0 a1 len1 cap1 c w (by omega) h
  · exact done a0 a1 len1 cap1 l c w h2 (int_of w0).1 (int_of w0).2 h (by simpa [IntKind.bits] using c2)
end Go.Proofs.Ytdgcjdknicbaeaa.spanLays
