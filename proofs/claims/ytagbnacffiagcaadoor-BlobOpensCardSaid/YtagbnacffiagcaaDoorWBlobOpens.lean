/- The walk of BlobOpens. -/
import Derived.Test.YtagbnacffiagcaaDoorBlobOpens
import Derived.Test.YtagbnacffiagcaaDoorAreaUsed
import Derived.Test.YtagbnacffiagcaaDoorNumWalk
import Derived.Test.YtagbnacffiagcaaDoorInArr
import Derived.Test.YtagbnacffiagcaaDoorBlobRefs
namespace Go.Proofs.YtagbnacffiagcaaDoor.blobOpens
open Go Go.RowKit Go.Maps Go.Proofs.YtagbnacffiagcaaDoor.Mem Go.Proofs.YtagbnacffiagcaaDoor.MapsW Go.Proofs.YtagbnacffiagcaaDoor.SeeW Go.Proofs.YtagbnacffiagcaaDoor.DevG Go.Proofs.YtagbnacffiagcaaDoor.BlobW Go.Proofs.YtagbnacffiagcaaDoor.Ints Go.Proofs.YtagbnacffiagcaaDoor.RefsW
set_option linter.unusedVariables false
set_option maxRecDepth 100000

theorem over (bs : List Addr) (a0 : Option Addr) (len0 cap0 : Nat) (w : World) (hB : Ev w w.heap.size bs RootW.six) (hn : 30 < len0) :
    Calls Tryd.prog 7 #[.slice a0 len0 cap0] w fun e w' => e = .returned (.bool true) ∧ Below w.heap.size w w' := by
  have d1 : decide ((30 : Int) < (len0 : Int)) = true := decide_eq_true (by omega)
  clear hn
  go_enter Tryd.func7, Tryd.ntmps7
  go_wp2_with fail
  refine (lawfirst_w bs _ hB).mono ?_
  rintro e w1 ⟨rfl, hb1⟩
  go_wp2_with fail
  go_ret
  exact ⟨rfl, hb1⟩

theorem take_one (zs : List Int) (j : Nat) (h : j < zs.length) : (refsOf zs).take (j + 1) = (refsOf zs).take j ++ [(((ko zs j : Nat) : Int), 5)] := by
  have h' : j < (refsOf zs).length := by unfold refsOf; simpa using h
  have e : (refsOf zs)[j]'h' = (plc (refsOf zs) j, 5) := by
    rw [plc_at h']
    simp [refsOf]
  rw [List.take_succ_eq_append_getElem h', e, refsOf_plc h]
theorem inn_skip {zs : List Int} {j : Nat} (h : ¬ ko zs j < 300) : inn zs (j + 1) = inn zs j := by
  funext q
  show (if q = ko zs j ∧ ko zs j < 300 then true else inn zs j q) = _
  rw [if_neg (fun e => h e.2)]
theorem inn_take {zs : List Int} {j : Nat} (h : ko zs j < 300) : inn zs (j + 1) = fun q => if q = ko zs j then true else inn zs j q := by
  funext q
  show (if q = ko zs j ∧ ko zs j < 300 then true else inn zs j q) = _
  by_cases e : q = ko zs j
  · rw [if_pos ⟨e, h⟩, if_pos e]
  · rw [if_neg (fun x => e x.1), if_neg e]
theorem ob_true {x y : Bool} (h : x = y) : Value.bool x = Value.bool y := by rw [h]
/-- an area behind i puts more: few places are not free; those handed in are in use -/
structure Pk (zs : List Int) (j i : Nat) (A : Ar) : Prop where
  last : 150 ≤ A.last ∧ A.last < 300
  few : ∃ L : List Nat, L.length ≤ j + i ∧ ∀ q : Nat, 150 ≤ q → q < 300 → A.free ((q : Nat) : Int) = false → q ∈ L
  used : ∀ q : Nat, inn zs j q = true → A.used ((q : Nat) : Int) = true
theorem Pk.start {zs : List Int} {j : Nat} (g : BlobW.Good zs j) : Pk zs j 0 (taken 300 (refsOf zs) j) := by
  obtain ⟨L, h1, h2⟩ := g.lst
  refine ⟨by rw [g.last]; decide, ⟨L, h1, fun q _ _ hf => h2 q ?_⟩, fun q hq => by rw [g.used, Int.toNat_natCast, hq, decide_eq_true (by omega)]; rfl⟩
  unfold Ar.free at hf
  rw [g.used, g.held, Int.toNat_natCast, decide_eq_true (show (0 : Int) ≤ ((q : Nat) : Int) by omega)] at hf
  simpa using hf
theorem Pk.next {zs : List Int} {j i : Nat} {A : Ar} (h : Pk zs j i A) (hs : j + i < 150) : ∃ p, A.next 300 = some p ∧ 150 ≤ p ∧ p < 300 ∧ A.free ((p : Nat) : Int) = true ∧ inn zs j p = false := by
  obtain ⟨L, h1, h2⟩ := h.few
  obtain ⟨p, a, b, c, d⟩ := next_few h.last (Nat.lt_of_le_of_lt h1 hs) h2
  refine ⟨p, a, b, c, d, ?_⟩
  cases hq : inn zs j p with
  | false => rfl
  | true =>
    have := h.used p hq
    unfold Ar.free at d
    rw [this] at d
    cases d
theorem Pk.put {zs : List Int} {j i : Nat} {A : Ar} (h : Pk zs j i A) {p : Nat} (h1 : 150 ≤ p) (h2 : p < 300) : Pk zs j (i + 1) (A.put p) := by
  obtain ⟨L, l1, l2⟩ := h.few
  refine ⟨⟨h1, h2⟩, ⟨p :: L, by simp; omega, fun q q1 q2 hf => ?_⟩, fun q hq => ?_⟩
  · by_cases e : q = p
    · subst e; exact List.mem_cons_self
    · refine List.mem_cons_of_mem _ (l2 q q1 q2 ?_)
      have hu : (A.put p).used ((q : Nat) : Int) = A.used ((q : Nat) : Int) := upd_other _ _ (by omega)
      unfold Ar.free at hf ⊢
      rw [hu] at hf
      exact hf
  · show upd A.used ((p : Nat) : Int) true ((q : Nat) : Int) = true
    rw [upd_eq]
    split
    · rfl
    · exact h.used q hq
set_option maxHeartbeats 16000000 in
theorem done (bs : List Addr) (a0 : Option Addr) (len0 cap0 : Nat) (zs : List Int) (w : World) (hE : Bs w bs) (hz : Is w a0 len0 cap0 zs) (hwf : ∀ x ∈ zs, (Lit.int .i64 x).wf = true) (hn : len0 ≤ 30) :
    Calls Tryd.prog 7 #[.slice a0 len0 cap0] w fun e w' => e = .returned (.bool true) ∧ Below w.heap.size w w' := by
  have d1 : decide ((30 : Int) < (len0 : Int)) = false := decide_eq_false (by omega)
  have hzl := hz.len
  go_enter Tryd.func7, Tryd.ntmps7
  go_wp2_with fail
  refine (lawfirst_w bs _ (Ev.of_bs hE _ (by decide))).mono ?_
  rintro e w1 ⟨rfl, hb1⟩
  have HB1 := hid hb1
  have HE := hid (hE.below hb1)
  have HZ := hid (hz.below hb1)
  have HWF := hid hwf
  clear hE hz hb1 hwf
  have IN := hid (InA.made w1)
  have B2 := hid ((Below.refl w1.heap.size w1).alloc (Nat.le_refl _) (.cells Tryd.zeroCells98 98))
  have hz2 : (w1.alloc (.cells Tryd.zeroCells98 98)).heap.size = w1.heap.size + 1 := by simp
  go_wp2_with fail
  generalize w1.alloc (.cells Tryd.zeroCells98 98) = w2 at *
  generalize hib : w1.heap.size = ib at *
  have HIB := hid hib
  clear hib
  go_loopw [4, 6, 7] (fun sv bv iv wr => ∃ j : Nat, j ≤ len0 ∧ iv = .int .i64 (j : Int) ∧ bv = .bool (badk zs j) ∧ OwnRefs wr (ib + 1) sv j ((refsOf zs).take j) ∧ InA wr ib (inn zs j) ∧ Below ib w1 wr ∧ ib + 1 ≤ wr.heap.size) (fun _ _ iv _ => len0 - (RowKit.intOf iv).toNat)
  case atStart => exact ⟨0, by omega, rfl, rfl, World.ownsRow_nil _ _ _ _, IN.out, B2.out, by omega⟩
  case round =>
    clear IN B2 hz2 w2
    obtain ⟨j, hj, rfl, rfl, own, hin, hb, hsz⟩ := hrel
    by_cases hlt : j < len0
    · obtain ⟨b0, o0, rfl, hc0⟩ := (HZ.out.below (hb.mono (Nat.le_of_eq HIB.out))).at (j := j) (by omega)
      have h64 := int_of (HWF.out _ (List.getElem_mem (l := zs) (n := j) (by omega)))
      have HK := hid (show zs[j]'(by omega) % 310 = ((ko zs j : Nat) : Int) from by
        unfold ko
        rw [List.getD_eq_getElem?_getD, List.getElem?_eq_getElem (by omega)]
        have := Int.emod_nonneg (zs[j]'(by omega)) (show (310 : Int) ≠ 0 by decide)
        simp
        omega)
      have HT := hid (take_one zs j (by omega))
      have hk3 := ko_lt zs j
      have HIT : Hid (ko zs j < 300 → inn zs (j + 1) = fun q => if q = ko zs j then true else inn zs j q) := hid inn_take
      have HIS : Hid (¬ ko zs j < 300 → inn zs (j + 1) = inn zs j) := hid inn_skip
      have HBK := hid (show badk zs (j + 1) = (badk zs j || decide (ko zs j < 150) || decide (300 ≤ ko zs j) || (inn zs j (min (ko zs j) 299) && decide (ko zs j < 300))) from rfl)
      generalize ko zs j = k at *
      generalize zs[j]'(by omega) = z at *
      generalize inn zs j = G at *
      generalize badk zs j = bk at *
      generalize hrs : (refsOf zs).take j = rs at *
      clear hrs
      have HO := hid own
      have HI := hid hin
      have HBB := hid hb
      have HSZ := hid hsz
      clear own hin hb hsz
      go_wp2_with fail
      refine (NumW.number_w z 310 _ (by decide) (by decide) h64.1 h64.2).mono ?_
      rintro e w' ⟨rfl, rfl⟩
      rw [HK.out]
      clear HK h64 hc0
      have b3 := (Below.refl wr.heap.size wr).alloc (Nat.le_refl _) (.cells #[.int .i64 (k : Int), .int .u32 ((5 : Nat) : Int)] 32)
      have hr := Row.fresh2 wr (.int .i64 (k : Int)) (.int .u32 ((5 : Nat) : Int)) 32
      have own3 : OwnRefs _ (ib + 1) u4 j rs := HO.out.alloc (.cells #[.int .i64 (k : Int), .int .u32 ((5 : Nat) : Int)] 32)
      have OWN3 := hid own3
      have I3 := hid (HI.out.below b3)
      have B3 := hid (HBB.out.trans (b3.mono (by have := HSZ.out; omega)))
      have hz3 := b3.size
      clear own3 b3 HO HI
      by_cases hk300 : k < 300
      · cases bk with
        | true =>
          have t3 : decide ((k : Int) < 300) = true := decide_eq_true (by omega)
          go_wp2_with (at_builtin; go_must (refine wpList_app elRef rfl _ _ rfl (ib + 1) u4 j _ rfl OWN3.out _ 1 1 [.int .i64 (k : Int), .int .u32 ((5 : Nat) : Int)] rfl hr (oneCell2 rfl rfl) (by unfold maxLen; omega) (by omega) (by have := HSZ.out; simp; omega) ?_); intro v4 w4 own4 hb4 hg4; have I4 := I3.out.keep (hb4.block ib (Nat.lt_succ_self _)); have fz := I4.frozen k; have hck := I4.at_ k hk300)
          refine ⟨⟨j + 1, by omega, by go_num, ob_true (by rw [HBK.out]; rfl), ?_, ?_, ?_, ?_⟩, by simp [RowKit.intOf]; omega⟩
          · refine ownsRow_setCell_below (base := ib + 1) ?_ (Nat.lt_succ_self _) _
            show World.ownsRow _ _ _ _ _ _ (refCells _)
            rw [HT.out, refCells_append]
            exact own4
          · rw [HIT.out hk300]
            exact I4.set k hk300 true
          · exact ((B3.out.trans (hb4.mono (Nat.le_succ _))).setCell (Nat.le_refl _) _)
          · have := hb4.size; have := HSZ.out; simp at *; omega
        | false =>
          by_cases hk150 : k < 150
          · have t1 : decide ((k : Int) < 150) = true := decide_eq_true (by omega)
            have t3 : decide ((k : Int) < 300) = true := decide_eq_true (by omega)
            go_wp2_with (at_builtin; go_must (refine wpList_app elRef rfl _ _ rfl (ib + 1) u4 j _ rfl OWN3.out _ 1 1 [.int .i64 (k : Int), .int .u32 ((5 : Nat) : Int)] rfl hr (oneCell2 rfl rfl) (by unfold maxLen; omega) (by omega) (by have := HSZ.out; simp; omega) ?_); intro v4 w4 own4 hb4 hg4; have I4 := I3.out.keep (hb4.block ib (Nat.lt_succ_self _)); have fz := I4.frozen k; have hck := I4.at_ k hk300)
            refine ⟨⟨j + 1, by omega, by go_num, ob_true (by rw [HBK.out]; rw [decide_eq_true hk150]; rfl), ?_, ?_, ?_, ?_⟩, by simp [RowKit.intOf]; omega⟩
            · refine ownsRow_setCell_below (base := ib + 1) ?_ (Nat.lt_succ_self _) _
              show World.ownsRow _ _ _ _ _ _ (refCells _)
              rw [HT.out, refCells_append]
              exact own4
            · rw [HIT.out hk300]
              exact I4.set k hk300 true
            · exact ((B3.out.trans (hb4.mono (Nat.le_succ _))).setCell (Nat.le_refl _) _)
            · have := hb4.size; have := HSZ.out; simp at *; omega
          · have t1 : decide ((k : Int) < 150) = false := decide_eq_false (by omega)
            have t2 : decide ((300 : Int) ≤ (k : Int)) = false := decide_eq_false (by omega)
            have hmin : min (k : Int) 299 = (k : Int) := by omega
            have hk299 : k ≤ 299 := by omega
            cases hG : G k with
            | true =>
              have t3 : decide ((k : Int) < 300) = true := decide_eq_true (by omega)
              go_wp2_with (at_builtin; go_must (refine wpList_app elRef rfl _ _ rfl (ib + 1) u4 j _ rfl OWN3.out _ 1 1 [.int .i64 (k : Int), .int .u32 ((5 : Nat) : Int)] rfl hr (oneCell2 rfl rfl) (by unfold maxLen; omega) (by omega) (by have := HSZ.out; simp; omega) ?_); intro v4 w4 own4 hb4 hg4; have I4 := I3.out.keep (hb4.block ib (Nat.lt_succ_self _)); have fz := I4.frozen k; have hck := I4.at_ k hk300; rw [hG] at hck)
              refine ⟨⟨j + 1, by omega, by go_num, ob_true (by rw [HBK.out]; rw [Nat.min_eq_left hk299, hG, decide_eq_true hk300, Bool.and_true, Bool.or_true]), ?_, ?_, ?_, ?_⟩, by simp [RowKit.intOf]; omega⟩
              · refine ownsRow_setCell_below (base := ib + 1) ?_ (Nat.lt_succ_self _) _
                show World.ownsRow _ _ _ _ _ _ (refCells _)
                rw [HT.out, refCells_append]
                exact own4
              · rw [HIT.out hk300]
                exact I4.set k hk300 true
              · exact ((B3.out.trans (hb4.mono (Nat.le_succ _))).setCell (Nat.le_refl _) _)
              · have := hb4.size; have := HSZ.out; simp at *; omega
            | false =>
              have t3 : decide ((k : Int) < 300) = true := decide_eq_true (by omega)
              go_wp2_with (at_builtin; go_must (refine wpList_app elRef rfl _ _ rfl (ib + 1) u4 j _ rfl OWN3.out _ 1 1 [.int .i64 (k : Int), .int .u32 ((5 : Nat) : Int)] rfl hr (oneCell2 rfl rfl) (by unfold maxLen; omega) (by omega) (by have := HSZ.out; simp; omega) ?_); intro v4 w4 own4 hb4 hg4; have I4 := I3.out.keep (hb4.block ib (Nat.lt_succ_self _)); have fz := I4.frozen k; have hck := I4.at_ k hk300; rw [hG] at hck)
              refine ⟨⟨j + 1, by omega, by go_num, ob_true (by rw [HBK.out]; rw [Nat.min_eq_left hk299, hG, decide_eq_false hk150, decide_eq_false (show ¬ 300 ≤ k by omega)]; rfl), ?_, ?_, ?_, ?_⟩, by simp [RowKit.intOf]; omega⟩
              · refine ownsRow_setCell_below (base := ib + 1) ?_ (Nat.lt_succ_self _) _
                show World.ownsRow _ _ _ _ _ _ (refCells _)
                rw [HT.out, refCells_append]
                exact own4
              · rw [HIT.out hk300]
                exact I4.set k hk300 true
              · exact ((B3.out.trans (hb4.mono (Nat.le_succ _))).setCell (Nat.le_refl _) _)
              · have := hb4.size; have := HSZ.out; simp at *; omega
      · cases bk with
        | true =>
          have t3 : decide ((k : Int) < 300) = false := decide_eq_false (by omega)
          go_wp2_with (at_builtin; go_must (refine wpList_app elRef rfl _ _ rfl (ib + 1) u4 j _ rfl OWN3.out _ 1 1 [.int .i64 (k : Int), .int .u32 ((5 : Nat) : Int)] rfl hr (oneCell2 rfl rfl) (by unfold maxLen; omega) (by omega) (by have := HSZ.out; simp; omega) ?_); intro v4 w4 own4 hb4 hg4; have I4 := I3.out.keep (hb4.block ib (Nat.lt_succ_self _)))
          refine ⟨⟨j + 1, by omega, by go_num, ob_true (by rw [HBK.out]; rfl), ?_, ?_, ?_, ?_⟩, by simp [RowKit.intOf]; omega⟩
          · show World.ownsRow _ _ _ _ _ _ (refCells _)
            rw [HT.out, refCells_append]
            exact own4
          · rw [HIS.out hk300]
            exact I4
          · exact B3.out.trans (hb4.mono (Nat.le_succ _))
          · have := hb4.size; have := HSZ.out; simp at *; omega
        | false =>
          have t1 : decide ((k : Int) < 150) = false := decide_eq_false (by omega)
          have t2 : decide ((300 : Int) ≤ (k : Int)) = true := decide_eq_true (by omega)
          have t3 : decide ((k : Int) < 300) = false := decide_eq_false (by omega)
          go_wp2_with (at_builtin; go_must (refine wpList_app elRef rfl _ _ rfl (ib + 1) u4 j _ rfl OWN3.out _ 1 1 [.int .i64 (k : Int), .int .u32 ((5 : Nat) : Int)] rfl hr (oneCell2 rfl rfl) (by unfold maxLen; omega) (by omega) (by have := HSZ.out; simp; omega) ?_); intro v4 w4 own4 hb4 hg4; have I4 := I3.out.keep (hb4.block ib (Nat.lt_succ_self _)))
          refine ⟨⟨j + 1, by omega, by go_num, ob_true (by rw [HBK.out]; rw [decide_eq_true (show 300 ≤ k by omega)]; cases decide (k < 150) <;> rfl), ?_, ?_, ?_, ?_⟩, by simp [RowKit.intOf]; omega⟩
          · show World.ownsRow _ _ _ _ _ _ (refCells _)
            rw [HT.out, refCells_append]
            exact own4
          · rw [HIS.out hk300]
            exact I4
          · exact B3.out.trans (hb4.mono (Nat.le_succ _))
          · have := hb4.size; have := HSZ.out; simp at *; omega
    · obtain rfl : j = len0 := by omega
      have HRL := hid (show (refsOf zs).length = j by unfold refsOf; simpa using hzl)
      rw [List.take_of_length_le (by rw [HRL.out]; exact Nat.le_refl _)] at own
      obtain ⟨sa, sc, rfl, hR⟩ := refs_of own
      have hbw : Below w1.heap.size w1 wr := hb.mono (Nat.le_of_eq HIB.out)
      have HBR := hid hbw
      have HEV := hid (Ev.of_bs (HE.out.below hbw) RootW.six (by decide))
      have HR := hid hR
      have HI := hid hin
      have hibr := hin.lt
      have hcs := hR.bound
      clear own hb hin hR hbw
      go_wp2_with fail
      refine (new_w 300 wr (by decide) (by decide)).mono ?_
      rintro e w3 ⟨rfl, k3, b3, _⟩
      have I3 := hid (HI.out.below b3)
      have R3 := hid (HR.out.below b3)
      have K3 := hid k3
      have E3 := hid (HEV.out.below b3)
      have B3 := hid b3
      have hfit : ∀ i, i < j → Fits (plc (refsOf zs) i) := fun i hi => by
        rw [refsOf_plc (by omega)]
        exact fits_nat (by have := ko_lt zs i; omega)
      clear k3 b3 HI HR HEV
      cases hbk : badk zs j with
      | true =>
        obtain ⟨K, hK, hf, hnf⟩ := unfair_of zs j (by omega) hbk
        have hop := aopen_any bs _ _ _ _ (Dv.new 300) (refsOf zs) sa j sc K w3 K3.out E3.out R3.out hfit (by decide) (by decide) B3.out.size (by decide) (by omega) (by omega) hf (fun _ => hnf)
        unfold OpenTo at hop
        have hKj : ¬ K = j := by omega
        simp only [if_neg hKj] at hop
        clear hfit hf hnf hK
        go_wp2_with fail
        refine hop.mono ?_
        rintro e w4 ⟨⟨aR, haR, rfl⟩, b4⟩
        have B4 := hid (HBR.out.trans ((B3.out.trans (b4.mono B3.out.size)).mono HBR.out.size))
        have his := is_w bs w4 (HE.out.below B4.out) 2 aR haR 103
        clear hop b4
        go_wp2_with fail
        refine his.mono ?_
        rintro e w5 ⟨rfl, b5⟩
        rw [show (101 + ((2 : Nat) : Int) == 103) = true from rfl]
        have B5 := hid (B4.out.trans (b5.mono B4.out.size))
        clear his b5
        go_wp2_with fail
        go_ret
        exact ⟨rfl, HB1.out.trans (B5.out.mono HB1.out.size)⟩
      | false =>
        have g := good_of zs j (by omega) hbk
        have hop := aopen_any bs _ _ _ _ (Dv.new 300) (refsOf zs) sa j sc j w3 K3.out E3.out R3.out hfit (by decide) (by decide) B3.out.size (by decide) (by omega) (by omega) g.fair (fun h => absurd h (Nat.lt_irrefl _))
        unfold OpenTo at hop
        simp only [↓reduceIte] at hop
        have HG := hid g
        clear hfit g
        go_wp2_with fail
        refine hop.mono ?_
        rintro e w4 ⟨⟨a, u, q, rfl, hA⟩, b4⟩
        have hnu := HG.out.nu
        have hnh := HG.out.nh
        have A4 := hid (show AAt w4 wr.heap.size (wr.heap.size + 5) j (mp wr.heap.size) (Dv.new 300) a u q (taken 300 (refsOf zs) j) from by rw [Nat.zero_add] at hA; exact hA)
        have I4 := hid (I3.out.below b4)
        have B4 := hid (B3.out.trans (b4.mono B3.out.size))
        have hlf := left_w _ _ _ _ (Dv.new 300) a u q _ w4 A4.out (by omega) (by omega)
        rw [hnu, hnh, show (Dv.new 300).blocks = 300 from rfl, datas_300] at hlf
        have hus := fun wz (hb : Below w4.heap.size w4 wz) => used_w _ _ _ _ (Dv.new 300) a u q _ wz (A4.out.below hb) (by omega)
        rw [hnu] at hus
        clear hop hA b4 K3 E3 R3 I3 hnu hnh
        go_wp2_with fail
        refine hlf.mono ?_
        rintro e w5 ⟨rfl, b5⟩
        have us5 := hus _ b5
        clear hlf hus
        go_wp2_with fail
        refine us5.mono ?_
        rintro e w6 ⟨s, c, ks, rfl, _, hkl, _, b6⟩
        rw [hkl]
        have b46 := b5.trans (b6.mono b5.size)
        have A6 := hid (A4.out.below b46)
        have I6 := hid (I4.out.below b46)
        have B6 := hid (B4.out.trans (b46.mono B4.out.size))
        clear us5 b5 b6 b46 A4 I4 B4 hkl
        go_wp2_with fail
        have BX := hid (HBR.out.trans (B6.out.mono HBR.out.size))
        have hlo1 := HBR.out.size
        clear B6 HBR B3
        generalize wr.heap.size = lo0 at *
        go_loopw [13] (fun iv wr => ∃ (i : Nat) (D : Dv) (A : Ar), i ≤ 20 ∧ iv = .int .i64 (i : Int) ∧ AAt wr lo0 (lo0 + 5) (j + 2 * i) (mp lo0) D a u q A ∧ Okd D i ∧ Pk zs j i A ∧ InA wr ib (inn zs j) ∧ Below w1.heap.size w1 wr) (fun iv _ => 20 - (RowKit.intOf iv).toNat)
        case atStart => exact ⟨0, _, _, by omega, rfl, A6.out, Okd.new, Pk.start HG.out, I6.out, BX.out⟩
        case round =>
          clear A6 I6 BX
          obtain ⟨i, D, A, hi, rfl, hA, hD, hP, hin, hb⟩ := hrel
          by_cases hlt : i < 20
          · obtain ⟨p, hnx, hp1, hp2, hfr, hnin⟩ := hP.next (by omega)
            have hput := put_w _ _ _ _ D a u q A p none 0 0 [] wr hA (Nums.nil _ _) (by intro x hx; cases hx) (by decide) (by omega) (by rw [hD.calls]; omega) hD.fuse hD.down (by rw [hD.blocks, first_300]; exact hP.last) (by rw [hD.blocks]; exact hnx)
            unfold Put at hput
            have LO := hid hA.own_lo
            have HPP := hid (hP.put hp1 hp2)
            have HDP := hid (hD.put ((p : Nat) : Int) (Crc.pad_bytes (l := []) (by intro x hx; cases hx)))
            have HIN := hid hin
            have HBB := hid hb
            have HNI := hid hnin
            generalize Crc.pad [] = P at *
            clear hA hD hP hin hb hnx hfr hnin
            go_wp2_with fail
            refine hput.mono ?_
            rintro e w8 ⟨rfl, A8, T8⟩
            have I8 := HIN.out.turn T8 (fun e => by have := LO.out _ e; omega)
            have b9 := (Below.refl w8.heap.size w8).alloc (Nat.le_refl _) (.cells #[.int .i64 (p : Int), .int .u32 (Crc.sum P : Nat)] 32)
            have A9 := hid (A8.below b9)
            have i9 := I8.below b9
            obtain ⟨y0, y1⟩ := Mem.new2 w8 (.int .i64 (p : Int)) (.int .u32 (Crc.sum P : Nat)) 32
            have B9 := hid (HBB.out.trans ((T8.below HBB.out.size (fun x hx => Nat.le_trans hlo1 (LO.out x hx))).trans (b9.mono (Nat.le_trans HBB.out.size T8.size))))
            have hc9 := i9.at_ p hp2
            rw [HNI.out] at hc9
            have I9 := hid i9
            have p1 : decide ((p : Int) < 0) = false := decide_eq_false (by omega)
            have p2 : decide ((300 : Int) ≤ (p : Int)) = false := decide_eq_false (by omega)
            clear hput A8 T8 I8 b9 i9
            go_wp2_with fail
            go_roundw
            case rel => exact ⟨i + 1, _, _, by omega, by go_num, A9.out.mono (by omega), HDP.out, HPP.out, I9.out, B9.out⟩
            case measure => simp [RowKit.intOf]; omega
          · obtain rfl : i = 20 := by omega
            have B7 := hid hb
            clear hA hD hP hin hb
            go_wp2_with fail
            go_ret
            exact ⟨rfl, HB1.out.trans (B7.out.mono HB1.out.size)⟩
theorem walk (a0 : Option Addr) (len0 cap0 : Nat) (z0 : List Int) (w : World) (hE : Err.All w gl) (w0 : IsRow .i64 w a0 len0 cap0 z0) :
    Calls Tryd.prog 7 #[.slice a0 len0 cap0] w fun e w' => e = .returned (.bool true) ∧ Below w.heap.size w w' := by
  obtain ⟨bs, hB⟩ := bs_of hE
  obtain ⟨l, hl, hwf⟩ := is_of w0
  rcases Nat.lt_or_ge 30 len0 with h | h
  · exact over bs a0 len0 cap0 w (Ev.of_bs hB _ (by decide)) h
  · exact done bs a0 len0 cap0 l w hB hl hwf h
end Go.Proofs.YtagbnacffiagcaaDoor.blobOpens
