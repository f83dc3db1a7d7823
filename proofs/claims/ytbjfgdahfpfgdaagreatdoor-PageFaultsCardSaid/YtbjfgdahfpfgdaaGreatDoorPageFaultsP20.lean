/- The walk of a store's healRoot; The calls of a law whose power goes: a store armed, a device that fell, one that is opened; The calls of a law whose power goes: Commit over an armed device, Open behind a crash; A store over a device of which copies are wrong: opened; Plain facts: a fault of one copy of a pair of which both are right. -/
import Derived.Test.YtbjfgdahfpfgdaaGreatDoorPageFaultsP19
import Derived.Test.YtbjfgdahfpfgdaaGreatDoorPageFaultsP9
import Derived.Test.YtbjfgdahfpfgdaaGreatDoorPageFaultsP11
import Derived.Test.YtbjfgdahfpfgdaaGreatDoorPageFaultsP5
import Derived.Test.YtbjfgdahfpfgdaaGreatDoorPageFaultsP14
namespace Go.Proofs.YtbjfgdahfpfgdaaGreatDoor.PgW
open Go Go.RowKit Go.Maps Go.Proofs.YtbjfgdahfpfgdaaGreatDoor.Mem Go.Proofs.YtbjfgdahfpfgdaaGreatDoor.MapsW Go.Proofs.YtbjfgdahfpfgdaaGreatDoor.SeeW Go.Proofs.YtbjfgdahfpfgdaaGreatDoor.DevG Go.Proofs.YtbjfgdahfpfgdaaGreatDoor.PairG Go.Proofs.YtbjfgdahfpfgdaaGreatDoor.RefsW Go.Proofs.YtbjfgdahfpfgdaaGreatDoor.PgP Go.Proofs.YtbjfgdahfpfgdaaGreatDoor.RootP Go.Proofs.YtbjfgdahfpfgdaaGreatDoor.RootW Go.Proofs.YtbjfgdahfpfgdaaGreatDoor.ConcatW
set_option linter.unusedVariables false
set_option maxRecDepth 100000

theorem own_ge {w : World} {base : Nat} {e : TypeId} {va : Option Addr} {n c m : Nat} {xs : List Value} (h : w.ownsRow base e 1 (.slice va n c) m xs) : ∀ b o, va = some ⟨b, o, none⟩ → base ≤ b := by
  rintro b o rfl
  rcases h.2 with ⟨e, _⟩ | ⟨g, c', cur, e, hb, _⟩
  · cases e
  · cases e; exact hb
theorem healR_take {D : Dv} {S : St} {l : List Nat} {j : Nat} (h : j < l.length) : healR D S (l.take (j + 1)) = (healR D S (l.take j)).put (l[j] : Int) (enc ⟨(S.ep : Int), S.rs⟩) := by
  rw [List.take_succ_eq_append_getElem h]
  unfold healR
  rw [List.foldl_append]
  rfl
theorem healR_same (S : St) : ∀ (l : List Nat) (D : Dv), (healR D S l).down = D.down ∧ (healR D S l).fuse = D.fuse ∧ (healR D S l).blocks = D.blocks ∧ (healR D S l).calls = D.calls + l.length
  | [], D => ⟨rfl, rfl, rfl, rfl⟩
  | q :: l, D => by
    obtain ⟨h1, h2, h3, h4⟩ := healR_same S l (D.put (q : Int) (enc ⟨(S.ep : Int), S.rs⟩))
    refine ⟨h1, h2, h3, ?_⟩
    show (healR (D.put _ _) S l).calls = _
    rw [h4, List.length_cons]
    show D.calls + 1 + l.length = _
    omega
def badsJ (D : Dv) (S : St) (H i j : Nat) : List Nat := ([i, i + H].take j).filter fun q => !(rightR D S.ep (q : Int) (decide (S.ep % 2 = i)))
theorem badsJ_one (D : Dv) (S : St) (H i : Nat) : badsJ D S H i 1 = if rightR D S.ep (i : Int) (decide (S.ep % 2 = i)) then [] else [i] := by
  unfold badsJ
  simp only [List.take_succ_cons, List.take_zero, List.filter_cons, List.filter_nil]
  cases rightR D S.ep (i : Int) (decide (S.ep % 2 = i)) <;> rfl
theorem badsJ_two (D : Dv) (S : St) (H i : Nat) : badsJ D S H i 2 = badsJ D S H i 1 ++ if rightR D S.ep ((i + H : Nat) : Int) (decide (S.ep % 2 = i)) then [] else [i + H] := by
  unfold badsJ
  simp only [List.take_succ_cons, List.take_zero, List.filter_cons, List.filter_nil]
  cases rightR D S.ep (i : Int) (decide (S.ep % 2 = i)) <;> cases rightR D S.ep ((i + H : Nat) : Int) (decide (S.ep % 2 = i)) <;> rfl
theorem nums_under {k : IntKind} {w w' : World} {g n cap B : Nat} {l : List Nat} (h : Nums k w (some ⟨g, 0, none⟩) n cap l) (hb : Below B w w') (hg : g < B) : Nums k w' (some ⟨g, 0, none⟩) n cap l :=
  Row.keep h fun b o e hlt => by cases e; exact hb.block g hg
theorem nums_lt {k : IntKind} {w : World} {g cap : Nat} {l : List Nat} (h : Nums k w (some ⟨g, 0, none⟩) 256 cap l) : g < w.heap.size := by
  have hl : 0 < l.length := by rw [h.len]; decide
  obtain ⟨b, o, e, hc⟩ := h.at hl
  cases e
  exact World.block_lt_of_cell? _ _ hc
set_option maxHeartbeats 6400000 in
theorem healRoot_w (bs : List Addr) (lo n : Nat) (m : Mp) (D : Dv) (I : Si) (S : St) (i : Nat) (w : World) (k : SAt w lo n m D I S) (hB : Ev w lo bs seven) (hi : i < 2) (h2 : 2 ≤ I.H) (hu : D.down = false) (hz : D.fuse = 0) (hbt : ∀ j l, D.read j = some l → Crc.Bytes l)
    (hg : RootP.Good ⟨(S.ep : Int), S.rs⟩) (hs : ∀ x ∈ S.rs, x.2 < 4294967296) (h0 : 0 < S.ep) (hep : S.ep < 1000000) (hn : n < 850000) (hc : D.calls < 900000) (hne : S.ep % 2 = i → (bads D S I.H i).length ≠ 2) :
    Calls Tryz.prog 75 #[ptr I.s, .int .i64 i] w fun e w' => ∃ z', e = .returned (.tuple #[.int .i64 ((bads D S I.H i).length : Nat), .nilIface]) ∧ SAt w' lo (n + 2) m (healR D S (bads D S I.H i)) { I with z := z' } S ∧ Turn (I.s :: own I.d m) w w' := by
  obtain ⟨c0, c1, c2, c3, c4, c5, c6, c7, fz⟩ := k.c
  have hby := bytes_ok bs lo ⟨(S.ep : Int), S.rs⟩ I.ra S.rs.length I.rc w k.refs (hB.sub (by decide)) hg hs
  have hgeo := fun (w1 : World) (hb : Below w.heap.size w w1) => pgeo_w lo I.d n m D I.p I.H I.c w1 (k.below hb).pr
  have hHf := k.pr.half
  have hmo := k.pr.most
  have hrt := fun (nw : Bool) (q : Nat) (hq : q < D.blocks) (w1 : World) (hb : Below w.heap.size w w1) => right_w bs lo n m D I S (q : Int) nw w1 (k.below hb) (hB.below hb) (fits_nat (by omega)) hu (by omega) (fun l hl => hbt (q : Int) l hl)
  have HK := hid k
  have HRT := hid hrt
  have HGEO := hid hgeo
  have HNE := hid hne
  have he0 : ((S.ep : Int) == 0) = false := by rw [beq_eq_false_iff_ne]; omega
  have hsl := k.slt
  obtain ⟨nw, hnw⟩ : ∃ nw : Bool, decide (S.ep % 2 = i) = nw := ⟨_, rfl⟩
  have h6 : (((S.ep : Int) % 2) == (i : Int)) = nw := by rw [← hnw, Bool.eq_iff_iff, beq_iff_eq, decide_eq_true_eq]; omega
  have HNW := hid hnw
  clear hnw
  clear k hB hrt hgeo hne hg hs hbt c4 c5 c6 fz
  go_enter Tryz.func75, Tryz.ntmps75
  go_wp2_with fail
  refine hby.mono ?_
  rintro e w1 ⟨⟨v, rfl, ow1⟩, b1⟩
  obtain ⟨g, gc, rfl, hrow, hgb⟩ := row_of ow1
  have HROW := hid hrow
  have HB1 := hid b1
  have hz1 := b1.size
  replace c0 := kept b1 c0
  replace c1 := kept b1 c1
  replace c2 := kept b1 c2
  replace c7 := kept b1 c7
  have hge := HGEO.out w1 b1
  have hfl : ∀ (b h : Int) w, (Instr.field 25 (GeoW.G b h) 1).run Tryz.prog w = .ok (.int .i64 h) w := fun b h w => by kernel_rfl
  have f1 : IntKind.i64.wrap ((i : Int) + (I.H : Int)) = ((i + I.H : Nat) : Int) := by rw [IntKind.wrap_i64]; omega
  clear ow1 hrow b1 hby c3
  go_wp2_with fail
  refine hge.mono ?_
  rintro e w2 ⟨rfl, b2⟩
  have HB2 := hid (HB1.out.trans (b2.mono hz1))
  have hz2 := HB2.out.size
  have HRW2 := hid (HROW.out.below b2)
  clear hge b2 c0 c1 c2 c7
  go_wp2_with fail
  obtain ⟨bj, hbj⟩ : ∃ bj : Nat → List Nat, bj = fun j => badsJ D S I.H i j := ⟨_, rfl⟩
  have hb0 : bj 0 = [] := by rw [hbj]; rfl
  have hall : bj 2 = bads D S I.H i := by rw [hbj]; rfl
  have hsu : ∀ j, j < 2 → ∃ q : Nat, q = i + j * I.H ∧ q < D.blocks ∧ bj (j + 1) = bj j ++ if rightR D S.ep (q : Int) nw then [] else [q] := fun j hj => by
    rw [← HNW.out, hbj]
    rcases (show j = 0 ∨ j = 1 by omega) with rfl | rfl
    · refine ⟨i, by simp, by omega, ?_⟩
      show badsJ D S I.H i 1 = badsJ D S I.H i 0 ++ _
      rw [badsJ_one]
      rfl
    · exact ⟨i + I.H, by omega, by omega, badsJ_two D S I.H i⟩
  have hle : ∀ j, j ≤ 2 → (bj j).length ≤ j := fun j hj => by
    rw [hbj]
    refine Nat.le_trans (List.length_filter_le _ _) ?_
    rw [List.length_take]
    omega
  have HSU := hid hsu
  have HLE := hid hle
  have HALL := hid hall
  clear hbj hsu hle hall
  have b3 := (Below.refl w2.heap.size w2).alloc (Nat.le_refl _) (.cells #[.int .i64 (i : Int), .int .i64 ((i : Int) + (I.H : Int))] 3)
  have hk3 := heap_alloc_new w2 (.cells #[.int .i64 (i : Int), .int .i64 ((i : Int) + (I.H : Int))] 3)
  have o3 : (w2.alloc (.cells #[.int .i64 (i : Int), .int .i64 ((i : Int) + (I.H : Int))] 3)).ownsRow (w2.alloc (.cells #[.int .i64 (i : Int), .int .i64 ((i : Int) + (I.H : Int))] 3)).heap.size 3 1 (.slice none 0 0) (bj 0).length (nums .i64 (bj 0)) := by rw [hb0]; exact World.ownsRow_nil _ _ _ _
  have hxB : w2.heap.size < (w2.alloc (.cells #[.int .i64 (i : Int), .int .i64 ((i : Int) + (I.H : Int))] 3)).heap.size := by simp
  have HB3 := hid (HB2.out.trans (b3.mono hz2))
  have HRW3 := hid (HRW2.out.below b3)
  have hgw := nums_lt HRW3.out
  have HGB := hid hgw
  clear hgw
  clear hb0 b3
  generalize w2.alloc (.cells #[.int .i64 (i : Int), .int .i64 ((i : Int) + (I.H : Int))] 3) = w3 at *
  generalize w2.heap.size = x at *
  go_loopw [9, 53] (fun v jv wr => ∃ j : Nat, j ≤ 2 ∧ jv = .int .i64 j ∧ wr.ownsRow w3.heap.size 3 1 v (bj j).length (nums .i64 (bj j)) ∧ Below w.heap.size w wr ∧ w3.heap.size ≤ wr.heap.size ∧ wr.heap[x]? = some (.cells #[.int .i64 (i : Int), .int .i64 ((i : Int) + (I.H : Int))] 3) ∧ Nums .u8 wr (some ⟨g, 0, none⟩) 256 gc (enc ⟨(S.ep : Int), S.rs⟩)) (fun _ jv _ => 2 - (RowKit.intOf jv).toNat)
  case atStart => exact ⟨0, by omega, rfl, o3, HB3.out, Nat.le_refl _, hk3, HRW3.out⟩
  case round =>
    clear hk3 o3
    obtain ⟨j, hj, rfl, own, hb, hz3, hk, hrw⟩ := hrel
    have HRW := hid hrw
    clear hrw
    have HBW := hid hb
    have hzr := hb.size
    have hjl := HLE.out j hj
    by_cases hlt : j < 2
    · obtain ⟨q, hq, hqb, hs⟩ := HSU.out j hlt
      have hxl : x < wr.heap.size := (Array.getElem?_eq_some_iff.1 hk).1
      have hcell : wr.cell? ⟨x, j, none⟩ = some (.int .i64 (q : Int)) := by
        rcases (show j = 0 ∨ j = 1 by omega) with rfl | rfl
        · simp [World.cell?, hk, hq]
        · simp [World.cell?, hk, hq]
      have hr := HRT.out nw q hqb wr hb
      obtain ⟨va, vc, rfl, hvr⟩ := ownsRow_slice own
      have HS := hid hs
      have HKX := hid hk
      cases hrr : rightR D S.ep (q : Int) nw with
      | true =>
        rw [hrr] at hr
        have HRR := hid hrr
        clear hs hk hb hrr hvr hq
        go_wp2_with fail
        refine hr.mono ?_
        rintro e w4 ⟨rfl, b4⟩
        have own4 := ownsRow_below own b4
        have HB4 := hid (HBW.out.trans (b4.mono hzr))
        have HZ4 := hid (Nat.le_trans hz3 b4.size)
        have HRW4 := hid (HRW.out.below b4)
        have hk4 := (b4.block x hxl).trans HKX.out
        clear hr b4 own hcell
        go_wp2_with fail
        go_roundw
        case rel => exact ⟨j + 1, by omega, by go_num, by rw [HS.out, HRR.out]; simpa using own4, HB4.out, HZ4.out, hk4, HRW4.out⟩
        case measure => simp [RowKit.intOf]; omega
      | false =>
        rw [hrr] at hr
        have HRR := hid hrr
        clear hs hk hb hrr hvr hq
        go_wp2_with fail
        refine hr.mono ?_
        rintro e w4 ⟨rfl, b4⟩
        have own4 := ownsRow_below own b4
        have HB4 := hid (HBW.out.trans (b4.mono hzr))
        have hz4 := HB4.out.size
        have hz4b := b4.size
        have HZ4 := hid (Nat.le_trans hz3 b4.size)
        have HRW4 := hid (HRW.out.below b4)
        have hk4 := (b4.block x hxl).trans HKX.out
        clear hr b4 own hcell
        go_wp2_with (at_builtin; go_must (refine wpList_push elInt rfl _ _ rfl w3.heap.size _ _ _ rfl (own4.alloc _) _ (.int .i64 (q : Int)) rfl (by simp) rfl (by unfold maxLen; omega) (by omega) (by simp; omega) ?_); intro v5 w5 o5 hb5 hg5)
        have hk5 := (hb5.block x hxB).trans ((((Below.refl _ w4).alloc (Nat.le_refl _) (.cells #[.int .i64 (q : Int)] 3)).block x (by omega)).trans hk4)
        have hz5 := hb5.size
        have HRW5 := hid (nums_under (HRW4.out.below ((Below.refl _ w4).alloc (Nat.le_refl _) (.cells #[.int .i64 (q : Int)] 3))) hb5 HGB.out)
        clear hg5
        go_roundw
        case rel => exact ⟨j + 1, by omega, by go_num, by rw [HS.out, HRR.out]; simpa [nums] using o5, HB4.out.trans (((Below.refl _ _).alloc hz4 _).trans (hb5.mono (by have := HB3.out.size; omega))), by have := HZ4.out; simp at hz5; omega, hk5, HRW5.out⟩
        case measure => simp [RowKit.intOf]; omega
    · obtain rfl : j = 2 := by omega
      rw [HALL.out] at own hjl
      have HNE' := hid (show nw = true → (bads D S I.H i).length ≠ 2 from fun h => HNE.out (of_decide_eq_true (HNW.out.trans h)))
      have HBD := hid (show ∀ q ∈ bads D S I.H i, q < D.blocks from fun q hq => by
        have := (List.mem_filter.1 hq).1
        simp only [List.mem_cons, List.not_mem_nil, or_false] at this
        omega)
      generalize hL : bads D S I.H i = L at *
      have HL := hid hL
      generalize wr = w4 at *
      obtain ⟨va, vc, rfl, hvr⟩ := ownsRow_slice own
      have hva := own_ge own
      have HVA := hid hva
      have HVR := hid hvr
      obtain ⟨ln, hln⟩ : ∃ ln, ln = L.length := ⟨_, rfl⟩
      rw [← hln] at hjl
      have HLN := hid hln
      have hne2 : nw = true → ((ln : Int) == 2) = false := fun h => by rw [beq_eq_false_iff_ne]; have := HNE'.out h; rw [← HLN.out] at this; omega
      rw [← hln]
      clear hL hk own hva hvr hln hb hlt hj
      have hls := healR_same S L D
      have hup : ∀ j, (healR D S (L.take j)).down = false ∧ (healR D S (L.take j)).fuse = 0 ∧ (healR D S (L.take j)).blocks = D.blocks ∧ (healR D S (L.take j)).calls ≤ D.calls + 2 := fun j => by
        obtain ⟨g1, g2, g3, g4⟩ := healR_same S (L.take j) D
        have h1 : (L.take j).length ≤ L.length := by rw [List.length_take]; omega
        have h2 := HLN.out
        exact ⟨g1.trans hu, g2.trans hz, g3, by omega⟩
      have HUP := hid hup
      clear hls hup
      cases nw
      all_goals
        try have hn2 := hne2 rfl
        clear hne2
        go_wp2_with fail
        go_loopw [83] (fun jv wr => ∃ j : Nat, j ≤ ln ∧ jv = .int .i64 j ∧ SAt wr lo (n + j) m (healR D S (L.take j)) I S ∧ Turn (own I.d m) w4 wr ∧ Nums .u8 wr (some ⟨g, 0, none⟩) 256 gc (enc ⟨(S.ep : Int), S.rs⟩) ∧ Nums .i64 wr va ln vc L) (fun jv _ => ln - (RowKit.intOf jv).toNat)
        case atStart => exact ⟨0, by omega, rfl, HK.out.below HBW.out, Turn.refl _ _, HRW.out, by rw [HLN.out]; exact HVR.out⟩
        case round =>
          obtain ⟨j, hj, rfl, k5, t5, r5, i5⟩ := hrel
          have HT5 := hid t5
          have HR5 := hid r5
          have HI5 := hid i5
          have HK5 := hid k5
          have c0 := k5.c.1
          have hU := HUP.out j
          by_cases hlt : j < ln
          · have hjl' : j < L.length := by rw [← HLN.out]; exact hlt
            obtain ⟨vb, vo, rfl, hcell⟩ := i5.at hjl'
            have htk := healR_take (D := D) (S := S) hjl'
            have hqb : L[j] < D.blocks := HBD.out _ (List.getElem_mem hjl')
            generalize L[j] = q at hcell htk hqb
            have HTK := hid htk
            have hwr := write_ok I.d lo (n + j) m (healR D S (L.take j)) q (some ⟨g, 0, none⟩) gc _ wr k5.pr.dev (by rw [hU.2.2.1]; exact hqb) (by rw [hU.2.2.1]; exact hmo) r5 (by omega) (by have := hU.2.2.2; omega) (by rw [hU.2.1]; decide) (by rw [Dv.tick_zero hU.2.1]; exact hU.1)
            rw [Dv.tick_zero hU.2.1, ← htk] at hwr
            clear htk k5 t5 r5 i5 hU
            go_wp2_with fail
            refine hwr.mono ?_
            rintro e w6 ⟨rfl, a6, t6⟩
            have p6 := HK5.out.pr.turn a6 t6 (by rw [HTK.out]; rfl)
            have k6 : SAt w6 lo (n + (j + 1)) m (healR D S (L.take (j + 1))) I S := HK5.out.turn (c' := I.c) p6 (t6.mono fun x hx => List.mem_cons_of_mem _ hx) (by omega) (fun x hx => .inl hx)
            have HK6 := hid k6
            have HT6 := hid (HT5.out.then t6)
            have HR6 := hid (DevG.nums_turn HR5.out t6 fun x hx => HK5.out.pr.dev.nou8 x hx)
            have HI6 := hid (show Nums .i64 w6 (some ⟨vb, vo, none⟩) ln vc L from Row.keep HI5.out fun b o e hlt => by
              cases e
              exact t6.block vb hlt fun hm => by
                have h1 := HVA.out vb vo rfl
                have h3 := HK.out.own_lt vb (by simp only [List.mem_cons]; exact .inr (.inr (.inr (.inr (List.mem_cons.1 hm)))))
                have h4 := HB3.out.size
                omega)
            clear hwr a6 t6 p6 k6 hcell c0
            go_wp2_with fail
            go_roundw
            case rel => first | exact ⟨j + 1, by omega, by go_num, HK6.out, HT6.out, HR6.out, HI6.out⟩ | ((repeat apply Exists.intro); exact ⟨⟨j + 1, by omega, by go_num, HK6.out, HT6.out, HR6.out, HI6.out⟩, rfl⟩)
            case measure => simp [RowKit.intOf]; omega
          · obtain rfl : j = ln := by omega
            have hta : L.take j = L := List.take_of_length_le (by rw [← HLN.out]; exact Nat.le_refl _)
            have HTA := hid hta
            have c7 := k5.c.2.2.2.2.2.2.2.1
            have fz := k5.c.2.2.2.2.2.2.2.2 7
            obtain ⟨zz, f2⟩ : ∃ zz, IntKind.i64.wrap (I.z + (j : Int)) = zz := ⟨_, rfl⟩
            have k6 := k5.setZ zz
            have t6 : Turn [I.s] wr (wr.setCell ⟨I.s, 7, none⟩ (.int .i64 zz)) := Turn.setCell wr I.s 7 _ (by simp)
            have HK6 := hid k6
            have HT6 := hid t6
            clear k5 t5 r5 i5 hta k6 t6 hU c0
            go_wp2_with fail
            go_ret2
            refine ⟨zz, ?_, ?_, ?_⟩
            · exact (show Ending.returned (.tuple #[.int .i64 (j : Int), .nilIface]) = .returned (.tuple #[.int .i64 ((bads D S I.H i).length : Nat), .nilIface]) by rw [HL.out, ← HLN.out])
            · have := HK6.out
              rw [HTA.out] at this
              rw [HL.out]
              exact this.mono (by omega)
            · exact ((Turn.of_below HBW.out).then (HT5.out.mono fun x hx => List.mem_cons_of_mem _ hx)).then (HT6.out.mono fun x hx => by rw [List.mem_singleton.1 hx]; simp)
end Go.Proofs.YtbjfgdahfpfgdaaGreatDoor.PgW

namespace Go.Proofs.YtbjfgdahfpfgdaaGreatDoor.PgW
open Go Go.RowKit Go.Maps Go.Proofs.YtbjfgdahfpfgdaaGreatDoor.Mem Go.Proofs.YtbjfgdahfpfgdaaGreatDoor.MapsW Go.Proofs.YtbjfgdahfpfgdaaGreatDoor.SeeW Go.Proofs.YtbjfgdahfpfgdaaGreatDoor.DevG Go.Proofs.YtbjfgdahfpfgdaaGreatDoor.PairG Go.Proofs.YtbjfgdahfpfgdaaGreatDoor.RefsW Go.Proofs.YtbjfgdahfpfgdaaGreatDoor.PgP Go.Proofs.YtbjfgdahfpfgdaaGreatDoor.RootP Go.Proofs.YtbjfgdahfpfgdaaGreatDoor.RootW Go.Proofs.YtbjfgdahfpfgdaaGreatDoor.Ints
set_option linter.unusedVariables false
set_option maxRecDepth 100000

theorem fuse_idle {D : Dv} (h : D.Idle) : ({ D with fuse := 0 } : Dv) = D := Dv.same rfl rfl rfl rfl rfl rfl rfl rfl rfl h.fuse.symm rfl
theorem own_p {d p' : Nat} {m : Mp} {x : Nat} (h : x ∈ own d { m with p := p' }) : x ∈ own d m ∨ x = p' := by
  simp only [own, Mp.list, List.mem_cons, List.not_mem_nil, or_false] at h ⊢
  rcases h with h | h | h | h | h | h
  · exact .inl (.inl h)
  · exact .inl (.inr (.inl h))
  · exact .inr h
  · exact .inl (.inr (.inr (.inr (.inl h))))
  · exact .inl (.inr (.inr (.inr (.inr (.inl h)))))
  · exact .inl (.inr (.inr (.inr (.inr (.inr h)))))
theorem at_kp {Y : List Nat} {w w' : World} {lo d n : Nat} {m : Mp} {D : Dv} (h : At w lo d n m D) (out : ∀ y ∈ Y, y < w.heap.size ∧ y ∉ own d m) (ht : Turn (own d m) w w') : Kp Y w w' :=
  ⟨fun y hy => ht.block y (out y hy).1 (out y hy).2, fun a n cap l hl => DevG.nums_turn hl ht fun x hx => h.nou8 x hx⟩
/-- a store over an armed device -/
structure UpF (Y : List Nat) (bs : List Addr) (w : World) (lo b n c : Nat) (s d : Nat) (V N : Int → Option (List Nat)) (ep k : Nat) (m : Mp) (D : Dv) (I : Si) (S : St) : Prop where
  at_ : SAt w lo n m { D with fuse := k } I S
  st : Stand I.H S V D
  hs : I.s = s
  hd : I.d = d
  hH : I.H = GeoW.half b
  bl : D.blocks = b
  b1 : 300 ≤ b
  b2 : b ≤ 6000
  cl : D.calls = c
  ic : I.c ≤ 7
  ev : Ev w lo bs seven
  los : lo ≤ w.heap.size
  now : S.now = N
  ep : S.ep = ep
  out : ∀ y ∈ Y, y < w.heap.size ∧ y ∉ I.all m
def Armed (Y : List Nat) (bs : List Addr) (w : World) (lo b n c : Nat) (s d : Nat) (V N : Int → Option (List Nat)) (ep k : Nat) : Prop := ∃ m D I S, UpF Y bs w lo b n c s d V N ep k m D I S
theorem Armed.store {Y : List Nat} {bs : List Addr} {w : World} {lo b n c : Nat} {s d : Nat} {V N : Int → Option (List Nat)} {ep : Nat} (h : Armed Y bs w lo b n c s d V N ep 0) : Store Y bs w lo b n c s d V N ep := by
  obtain ⟨m, D, I, S, h⟩ := h
  have ha := h.at_
  rw [fuse_idle h.st.idle] at ha
  exact ⟨m, D, I, S, ha, h.st, h.hs, h.hd, h.hH, h.bl, h.b1, h.b2, h.cl, h.ic, h.ev, h.los, h.now, h.ep, h.out⟩
theorem UpF.own_sub {I : Si} {m : Mp} {x : Nat} (hx : x ∈ own I.d m) : x ∈ I.own m := by simp only [List.mem_cons]; exact .inr (.inr (.inr (.inr (List.mem_cons.1 hx))))
/-- whether it fell -/
theorem Armed.down {Y : List Nat} {bs : List Addr} {w : World} {lo b n c : Nat} {s d : Nat} {V N : Int → Option (List Nat)} {ep k : Nat} (h : Armed Y bs w lo b n c s d V N ep k) :
    Calls Tryz.prog 30 #[ptr d] w fun e w' => e = .returned (.bool false) ∧ w = w' := by
  obtain ⟨m, D, I, S, h⟩ := h
  have hd := down_w I.d lo n m { D with fuse := k } w h.at_.pr.dev
  rw [h.hd] at hd
  refine hd.mono ?_
  rintro e w' ⟨rfl, rfl⟩
  refine ⟨?_, rfl⟩
  show Ending.returned (.bool D.down) = _
  rw [h.st.idle.down]
/-- the pages a device has behind a crash -/
def Was (b : Nat) (V : Int → Option (List Nat)) (ep : Nat) (F : Dv) : Prop := ∃ S, Semi (GeoW.half b) S V F ∧ S.ep = ep
/-- a device of which no store is kept -/
structure GoneM (Y : List Nat) (bs : List Addr) (w : World) (lo b n c d : Nat) (t : Bool) (P : Dv → Prop) (m : Mp) (E : Dv) : Prop where
  at_ : At w lo d n m E
  bl : E.blocks = b
  b1 : 300 ≤ b
  b2 : b ≤ 6000
  cl : E.calls ≤ c
  np : E.np ≤ 100
  dn : t = true → E.down = true
  cr : ∀ ks zs, Keys E.pe ks → P (E.crash ks zs)
  ev : Ev w lo bs seven
  los : lo ≤ w.heap.size
  out : ∀ y ∈ Y, y < w.heap.size ∧ y ∉ own d m
def Gone (Y : List Nat) (bs : List Addr) (w : World) (lo b n c d : Nat) (t : Bool) (P : Dv → Prop) : Prop := ∃ m E, GoneM Y bs w lo b n c d t P m E
/-- a device behind a crash, its fuse at k -/
structure AjarM (Y : List Nat) (bs : List Addr) (w : World) (lo b n c d : Nat) (V : Int → Option (List Nat)) (ep k : Nat) (m : Mp) (D : Dv) (S : St) : Prop where
  at_ : At w lo d n m { D with fuse := k }
  sm : Semi (GeoW.half b) S V D
  bl : D.blocks = b
  b1 : 300 ≤ b
  b2 : b ≤ 6000
  cl : D.calls ≤ c
  ev : Ev w lo bs seven
  los : lo ≤ w.heap.size
  ep : S.ep = ep
  out : ∀ y ∈ Y, y < w.heap.size ∧ y ∉ own d m
def Ajar (Y : List Nat) (bs : List Addr) (w : World) (lo b n c d : Nat) (V : Int → Option (List Nat)) (ep k : Nat) : Prop := ∃ m D S, AjarM Y bs w lo b n c d V ep k m D S
theorem Gone.down {Y : List Nat} {bs : List Addr} {w : World} {lo b n c d : Nat} {P : Dv → Prop} (h : Gone Y bs w lo b n c d true P) :
    Calls Tryz.prog 30 #[ptr d] w fun e w' => e = .returned (.bool true) ∧ w = w' := by
  obtain ⟨m, E, h⟩ := h
  refine (down_w d lo n m E w h.at_).mono ?_
  rintro e w' ⟨rfl, rfl⟩
  rw [h.dn rfl]
  exact ⟨rfl, rfl⟩
theorem Gone.crash {Y : List Nat} {bs : List Addr} {w : World} {lo b n c d : Nat} {t : Bool} {P : Dv → Prop} (h : Gone Y bs w lo b n c d t P) (hn : n < 600000) {a : Option Addr} {len cap : Nat} {zs : List Int} (hz : ∀ w', Below lo w w' → Is w' a len cap zs) :
    Calls Tryz.prog 31 #[ptr d, .slice a len cap] w fun e w' => e = .returned (.tuple #[]) ∧ (∃ F, P F ∧ ∀ V ep, Was b V ep F → Ajar Y bs w' lo b (n + 300) c d V ep 0) ∧ Below lo w w' ∧ Kp Y w w' := by
  obtain ⟨m, E, h⟩ := h
  have hX := h.at_.own_lo
  refine (crash_w d lo n m E a len cap zs w h.at_ (fun w' ht => hz w' (ht.below h.los hX)) (by have := h.np; omega) hn).mono ?_
  rintro e w' ⟨rfl, ks, p', hK, hp, k, ht⟩
  have hnp := h.np
  refine ⟨rfl, ⟨E.crash ks zs, h.cr ks zs hK, fun V ep hW => ?_⟩, ht.below h.los hX, at_kp h.at_ h.out ht⟩
  obtain ⟨S, hS, he⟩ := hW
  refine ⟨{ m with p := p' }, E.crash ks zs, S, ?_, hS, h.bl, h.b1, h.b2, h.cl, h.ev.turn ht hX, Nat.le_trans h.los ht.size, he, fun y hy => ⟨Nat.lt_of_lt_of_le (h.out y hy).1 ht.size, fun hm => ?_⟩⟩
  · rw [fuse_idle hS.idle]
    exact k.mono (by omega) (Nat.le_refl _)
  · rcases own_p hm with hm | hm
    · exact (h.out y hy).2 hm
    · have := (h.out y hy).1; omega
end Go.Proofs.YtbjfgdahfpfgdaaGreatDoor.PgW

namespace Go.Proofs.YtbjfgdahfpfgdaaGreatDoor.PgW
open Go Go.RowKit Go.Maps Go.Proofs.YtbjfgdahfpfgdaaGreatDoor.Mem Go.Proofs.YtbjfgdahfpfgdaaGreatDoor.MapsW Go.Proofs.YtbjfgdahfpfgdaaGreatDoor.SeeW Go.Proofs.YtbjfgdahfpfgdaaGreatDoor.DevG Go.Proofs.YtbjfgdahfpfgdaaGreatDoor.PairG Go.Proofs.YtbjfgdahfpfgdaaGreatDoor.RefsW Go.Proofs.YtbjfgdahfpfgdaaGreatDoor.PgP Go.Proofs.YtbjfgdahfpfgdaaGreatDoor.RootP Go.Proofs.YtbjfgdahfpfgdaaGreatDoor.RootW Go.Proofs.YtbjfgdahfpfgdaaGreatDoor.Ints
set_option linter.unusedVariables false
set_option maxRecDepth 100000

theorem UpF.far {Y : List Nat} {bs : List Addr} {w w' : World} {lo b n n' c c' : Nat} {s d : Nat} {V V' N N' : Int → Option (List Nat)} {ep ep' k f : Nat} {m m' : Mp} {D D' : Dv} {I I' : Si} {S S' : St} (h : UpF Y bs w lo b n c s d V N ep k m D I S) {X : List Nat}
    (q : SAt w' lo n' m' { D' with fuse := f } I' S') (hS : Stand I.H S' V' D') (hs : I'.s = I.s) (hd : I'.d = I.d) (hH : I'.H = I.H) (hb : D'.blocks = D.blocks) (hc : D'.calls = c') (hic : I'.c ≤ 7) (ht : Turn X w w') (hX : ∀ x ∈ X, lo ≤ x) (hN : S'.now = N') (he : S'.ep = ep') (hI : ∀ x ∈ I'.all m', x ∈ I.all m ∨ w.heap.size ≤ x) :
    UpF Y bs w' lo b n' c' s d V' N' ep' f m' D' I' S' :=
  ⟨q, by rw [hH]; exact hS, hs.trans h.hs, hd.trans h.hd, hH.trans h.hH, hb.trans h.bl, h.b1, h.b2, hc, hic, h.ev.turn ht hX, Nat.le_trans h.los ht.size, hN, he, fun y hy => ⟨Nat.lt_of_lt_of_le (h.out y hy).1 ht.size, fun hm => by
    rcases hI y hm with hm | hm
    · exact (h.out y hy).2 hm
    · have := (h.out y hy).1; omega⟩⟩
theorem half_two {b : Nat} (h : 300 ≤ b) : 2 ≤ GeoW.half b ∧ GeoW.half b ≤ 512 := by
  have h2 := GeoW.half_512 b
  unfold GeoW.half at h2 ⊢
  omega
/-- nothing to commit -/
theorem Armed.commit0 {Y : List Nat} {bs : List Addr} {w : World} {lo b n c : Nat} {s d : Nat} {V N : Int → Option (List Nat)} {ep k : Nat} (h : Armed Y bs w lo b n c s d V N ep k) (hk : k ≤ 1000000) (hn : n + 8 * (cnt N + 7) + 700 < 690000) (hc : c < 700000) (hep : ep < 1000000) (h0 : cnt N = 0) :
    Calls Tryz.prog 16 #[ptr s] w fun e w' => e = .returned .nilIface ∧ Armed Y bs w' lo b (n + 8 * (cnt N + 7) + 700) c s d V N ep k ∧ Below lo w w' ∧ Kp Y w w' := by
  obtain ⟨m, D, I, S, h⟩ := h
  obtain ⟨hH2, hH5⟩ := half_two h.b1
  rw [← h.hH] at hH2 hH5
  have hnp : ({ D with fuse := k } : Dv).np = 0 := h.st.idle.np
  have hnp2 : D.np = 0 := h.st.idle.np
  have hcl : ({ D with fuse := k } : Dv).calls = c := h.cl
  have hbl : ({ D with fuse := k } : Dv).blocks = b := h.bl
  have hco := commit_w bs lo n m { D with fuse := k } I S w h.at_ h.ev (Fit.sok h.st.fit h.st.now (by omega)) hH2 (by rw [h.now, hnp]; omega) (by omega) (by omega) hk (by rw [h.ep]; omega) (by rw [hbl]; exact h.b1)
  have e1 : commitT S { D with fuse := k } I.H = (none, S, { D with fuse := k }) := by unfold commitT; rw [if_pos (by rw [h.now]; exact h0)]
  rw [e1, h.now, h.hs] at hco
  refine hco.mono ?_
  rintro e w' ⟨v, m', I', hv, rfl, q, hM, ht⟩
  have hv' : v = .nilIface := hv
  subst hv'
  have hX : ∀ x ∈ I.s :: own I.d m, lo ≤ x := fun x hx => by
    rcases List.mem_cons.1 hx with rfl | hx
    · exact h.at_.slo.1
    · exact h.at_.pr.dev.own_lo x hx
  have hXo : ∀ x ∈ I.s :: own I.d m, x ∈ I.own m := fun x hx => by
    rcases List.mem_cons.1 hx with rfl | hx
    · simp
    · exact UpF.own_sub hx
  exact ⟨rfl, ⟨m', D, I', S, h.far (q.mono (by show n + 8 * (cnt N + 7) + 3 * D.np + 700 ≤ _; omega)) h.st hM.s hM.d hM.H rfl h.cl (by rw [hM.c]; exact h.ic) ht hX h.now h.ep hM.all⟩, ht.below h.los hX, ⟨fun y hy => ht.block y (h.out y hy).1 fun hm => (h.out y hy).2 (Si.own_all (hXo y hm)), fun a n cap l hl => DevG.nums_turn hl ht fun x hx => h.at_.nou8 x (hXo x hx)⟩⟩
/-- a commit whose power may go -/
theorem Armed.commit {Y : List Nat} {bs : List Addr} {w : World} {lo b n c : Nat} {s d : Nat} {V N : Int → Option (List Nat)} {ep k : Nat} (h : Armed Y bs w lo b n c s d V N ep k) (hk : k ≤ 1000000) (hn : n + 8 * (cnt N + 7) + 700 < 690000) (hc : c < 700000) (hep : ep < 1000000) (h0 : cnt N ≠ 0) (h40 : cnt N ≤ 40) {q : Nat} (h1 : cnt V ≤ q) (h2 : cnt (view N V) ≤ q) (hq : 2 * q + 18 ≤ GeoW.half b) :
    Calls Tryz.prog 16 #[ptr s] w fun e w' => ((e = .returned .nilIface ∧ ∃ c' f, c' ≤ c + 2 * (cnt N + 7) + 4 ∧ f ≤ k ∧ Armed Y bs w' lo b (n + 8 * (cnt N + 7) + 700) c' s d (view N V) (fun _ => none) (ep + 1) f) ∨
      ((∃ a, bs[5]? = some a ∧ e = .returned (ev a)) ∧ Gone Y bs w' lo b (n + 8 * (cnt N + 7) + 700) (c + 2 * (cnt N + 7) + 4) d true (fun F => Was b V ep F ∨ Was b (view N V) (ep + 1) F))) ∧ Below lo w w' ∧ Kp Y w w' := by
  obtain ⟨m, D, I, S, h⟩ := h
  obtain ⟨hH2, hH5⟩ := half_two h.b1
  rw [← h.hH] at hH2 hH5
  have hnp : ({ D with fuse := k } : Dv).np = 0 := h.st.idle.np
  have hnp2 : D.np = 0 := h.st.idle.np
  have hcl : ({ D with fuse := k } : Dv).calls = c := h.cl
  have hbl : ({ D with fuse := k } : Dv).blocks = b := h.bl
  have hcl2 := h.cl
  have hco := commit_w bs lo n m { D with fuse := k } I S w h.at_ h.ev (Fit.sok h.st.fit h.st.now (by omega)) hH2 (by rw [h.now, hnp]; omega) (by omega) (by omega) hk (by rw [h.ep]; omega) (by rw [hbl]; exact h.b1)
  obtain ⟨x, hx, hf⟩ := h.st.fit.room h.st.now h1 (by rw [h.now]; exact h2) (by rw [h.hH]; exact hq)
  have hX : ∀ x ∈ I.s :: own I.d m, lo ≤ x := fun x hx => by
    rcases List.mem_cons.1 hx with rfl | hx
    · exact h.at_.slo.1
    · exact h.at_.pr.dev.own_lo x hx
  have hXo : ∀ x ∈ I.s :: own I.d m, x ∈ I.own m := fun x hx => by
    rcases List.mem_cons.1 hx with rfl | hx
    · simp
    · exact UpF.own_sub hx
  have hkp : ∀ {w' : World}, Turn (I.s :: own I.d m) w w' → Kp Y w w' := fun ht => ⟨fun y hy => ht.block y (h.out y hy).1 fun hm => (h.out y hy).2 (Si.own_all (hXo y hm)), fun a n cap l hl => DevG.nums_turn hl ht fun x hx => h.at_.nou8 x (hXo x hx)⟩
  rcases h.st.falls (by rw [h.bl]; exact h.hH) hH2 (by rw [h.ep]; omega) (by rw [h.now]; exact h0) hx hf k with ⟨D', f, e1, g1, e2, e3, e4⟩ | ⟨E, e1, g1, g2, g3, g4, g5, g6⟩
  · rw [e1, h.now, h.hs] at hco
    rw [h.now] at e2 e4
    refine hco.mono ?_
    rintro e w' ⟨v, m', I', hv, rfl, q, hM, ht⟩
    have hv' : v = .nilIface := hv
    subst hv'
    exact ⟨.inl ⟨rfl, D'.calls, f, by omega, g1, m', D', I', behind S x, h.far (q.mono (by show n + 8 * (cnt N + 7) + 3 * D.np + 700 ≤ _; omega)) e2 hM.s hM.d hM.H e3 rfl (by rw [hM.c]; exact h.ic) ht hX rfl (by show S.ep + 1 = _; rw [h.ep]) hM.all⟩, ht.below h.los hX, hkp ht⟩
  · rw [e1, h.now, h.hs] at hco
    rw [h.now] at g4 g5 g6
    refine hco.mono ?_
    rintro e w' ⟨v, m', I', hv, rfl, q, hM, ht⟩
    obtain ⟨a, ha, rfl⟩ := hv
    have hdev := q.pr.dev
    rw [hM.d, h.hd] at hdev
    refine ⟨.inr ⟨⟨a, ha, rfl⟩, m', E, hdev.mono (by show n + 8 * (cnt N + 7) + 3 * D.np + 700 ≤ _; omega) (Nat.le_refl _), g3.trans h.bl, h.b1, h.b2, by omega, by omega, fun _ => g2, fun ks zs hK => ?_, h.ev.turn ht hX, Nat.le_trans h.los ht.size, fun y hy => ⟨Nat.lt_of_lt_of_le (h.out y hy).1 ht.size, fun hm => ?_⟩⟩, ht.below h.los hX, hkp ht⟩
    · rcases g6 ks zs hK with g | g
      · exact .inl ⟨{ S with now := fun _ => none }, by rw [← h.hH]; exact g, h.ep⟩
      · exact .inr ⟨_, by rw [← h.hH]; exact g, by show S.ep + 1 = _; rw [h.ep]⟩
    · have hm' : y ∈ I'.own m' := UpF.own_sub (by rw [hM.d, h.hd]; exact hm)
      rcases hM.own y hm' with hm' | hm'
      · exact (h.out y hy).2 (Si.own_all hm')
      · have := (h.out y hy).1; omega
theorem Semi.zero {H : Nat} {S : St} {V : Int → Option (List Nat)} {D : Dv} (h : Semi H S V D) (h0 : S.ep = 0) : Stand H St0 V D ∧ S = St0 := by
  have hs := h.stand fun e => absurd e (by omega)
  have hz := hs.zero h0
  have e : S = St0 := by
    rw [← hz]
    have h1 := h.now
    obtain ⟨ep, rs, tabs, at_, now⟩ := S
    simp only at h1
    subst h1
    rfl
  exact ⟨by rw [← e]; exact hs, e⟩
end Go.Proofs.YtbjfgdahfpfgdaaGreatDoor.PgW

namespace Go.Proofs.YtbjfgdahfpfgdaaGreatDoor.PgW
open Go Go.RowKit Go.Maps Go.Proofs.YtbjfgdahfpfgdaaGreatDoor.Mem Go.Proofs.YtbjfgdahfpfgdaaGreatDoor.MapsW Go.Proofs.YtbjfgdahfpfgdaaGreatDoor.SeeW Go.Proofs.YtbjfgdahfpfgdaaGreatDoor.DevG Go.Proofs.YtbjfgdahfpfgdaaGreatDoor.PairG Go.Proofs.YtbjfgdahfpfgdaaGreatDoor.RefsW Go.Proofs.YtbjfgdahfpfgdaaGreatDoor.PgP Go.Proofs.YtbjfgdahfpfgdaaGreatDoor.RootP Go.Proofs.YtbjfgdahfpfgdaaGreatDoor.RootW
set_option linter.unusedVariables false
set_option maxRecDepth 100000

/-- a device of which copies are wrong, no store kept -/
structure LameAt (Y : List Nat) (bs : List Addr) (w : World) (lo b n c d : Nat) (V : Int → Option (List Nat)) (C : Nat → List Nat) (ep np : Nat) (m : Mp) (D : Dv) (S : St) : Prop where
  at_ : At w lo d n m D
  li : Limp (GeoW.half b) S V C D
  bl : D.blocks = b
  b1 : 300 ≤ b
  b2 : b ≤ 6000
  cl : D.calls ≤ c
  np : D.np ≤ np
  ev : Ev w lo bs seven
  los : lo ≤ w.heap.size
  ep : S.ep = ep
  out : ∀ y ∈ Y, y < w.heap.size ∧ y ∉ own d m
/-- a store over it -/
structure LimM (Y : List Nat) (bs : List Addr) (w : World) (lo b n c s d : Nat) (V : Int → Option (List Nat)) (C : Nat → List Nat) (ep np : Nat) (m : Mp) (D : Dv) (I : Si) (S : St) : Prop where
  at_ : SAt w lo n m D I S
  li : Limp I.H S V C D
  hs : I.s = s
  hd : I.d = d
  hH : I.H = GeoW.half b
  bl : D.blocks = b
  b1 : 300 ≤ b
  b2 : b ≤ 6000
  cl : D.calls ≤ c
  hnp : D.np ≤ np
  ic : I.c ≤ np
  ev : Ev w lo bs seven
  los : lo ≤ w.heap.size
  ep : S.ep = ep
  out : ∀ y ∈ Y, y < w.heap.size ∧ y ∉ I.all m
def Lim (Y : List Nat) (bs : List Addr) (w : World) (lo b n c s d : Nat) (V : Int → Option (List Nat)) (C : Nat → List Nat) (ep np : Nat) : Prop := ∃ m D I S, LimM Y bs w lo b n c s d V C ep np m D I S
theorem limp_st {H : Nat} {S : St} {V : Int → Option (List Nat)} {C : Nat → List Nat} {D : Dv} (h : Limp H S V C D) (h0 : 0 < S.ep) : stOf S.ep S.tabs S.at_ = S := by
  have h1 := h.now
  have h2 := h.fit.rs h0
  obtain ⟨ep, rs, tabs, at_, now⟩ := S
  simp only at h1 h2
  subst h1 h2
  rfl
theorem LameAt.open_ {Y : List Nat} {bs : List Addr} {w : World} {lo b n c d : Nat} {V : Int → Option (List Nat)} {C : Nat → List Nat} {ep np : Nat} {m : Mp} {D : Dv} {S : St} (h : LameAt Y bs w lo b n c d V C ep np m D S) (hn : n < 680000) (hc : c < 600000) (hnp : np ≤ 1000) (hep : ep < 1000000) (h0 : 0 < ep) :
    Calls Tryz.prog 18 #[ptr d] w fun e w' => (∃ s', e = .returned (.tuple #[ptr s', .nilIface]) ∧ Lim Y bs w' lo b (n + 400 + 3 * np) (c + 10) s' d V C ep (np + 7)) ∧ Below lo w w' ∧ Kp Y w w' := by
  obtain ⟨hH2, hH5⟩ := half_two h.b1
  have hX := h.at_.own_lo
  have hbl := h.bl
  have hb1 := h.b1
  have hb2 := h.b2
  have hcl := h.cl
  have hnp2 := h.np
  have h0' : 0 < S.ep := by rw [h.ep]; exact h0
  have hfine : Fine ⟨(S.ep : Int), S.tabs⟩ := Fit.fine h.li.fit (by omega) h0' (by have := h.ep; omega)
  have hok := Fit.ok h.li.fit (by omega)
  have hrt := h.li.fit.rs h0'
  have hbe := h.li.best h0'
  rw [hrt] at hbe
  have ho := open_some bs lo d n m D w h.at_ h.ev (by omega) (by omega) h.los (H := GeoW.half b) (by rw [hbl]) (h.li.tabs h0') hbe h.li.fit.t7 hfine.g hfine.s (fun p => ?_) (fun i r hi => ?_) hok.2.2 (by omega) (by omega) (by omega) (by rw [h.li.fuse]; omega)
  · rw [limp_st h.li h0'] at ho
    refine ho.mono ?_
    rintro e w' ⟨p', hp', ht, hres⟩
    have hR := h.li.ran 7 (Nat.le_refl _)
    obtain ⟨F, e1, g3, g4, g5, g6⟩ := hR.limp.whole h0' (by rw [hR.blocks, h.bl]) hH2 (by rw [hrt]; exact hfine)
    have e1' : wholeT (tabRun S (GeoW.half b) D 7).1 S = (none, F) := e1
    have r1 := hR.blocks
    have r2 := hR.np
    have r3 := hR.calls
    rw [e1'] at hres
    obtain ⟨I', rfl, hd, hH, _, _, hic, q, hio, htb, hra⟩ := hres
    refine ⟨⟨I'.s, rfl, { m with p := p' }, F, I', S, q.mono (by show n + 400 + 3 * D.np ≤ _; omega), ?_, rfl, hd, by rw [hH], by rw [g4, r1, hbl], h.b1, h.b2, by omega, by omega, by omega, h.ev.turn ht hX, Nat.le_trans h.los ht.size, h.ep, fun y hy => ⟨Nat.lt_of_lt_of_le (h.out y hy).1 ht.size, fun hm => ?_⟩⟩, ht.below h.los hX, at_kp h.at_ h.out ht⟩
    · rw [hH]; exact g3
    · have hy2 := h.out y hy
      rcases List.mem_cons.1 hm with hm | hm
      · omega
      · rcases List.mem_append.1 hm with hm | hm
        · obtain ⟨o, e⟩ := mem_raB hm
          have := hra y o e
          omega
        · rcases hio y hm with hm | hm
          · exact hy2.2 hm
          · omega
  · unfold tref
    cases hA : S.at_ (p : Int) with
    | none => exact ⟨by decide, by decide, by decide⟩
    | some r => exact hok.1 _ r hA
  · obtain ⟨a, l, _, rfl, h2, _⟩ := h.li.fit.old_pg hi
    simp only
    omega
theorem Limp.there {H : Nat} {S : St} {V : Int → Option (List Nat)} {C : Nat → List Nat} {D : Dv} (h : Limp H S V C D) (p : Int) : S.there p = (V p).isSome := by
  unfold St.there
  rw [h.now]
  simp only
  cases hV : V p with
  | none => rw [h.fit.off p hV]; rfl
  | some l =>
    obtain ⟨a, h1, h2, _⟩ := h.fit.pg p l hV
    rw [h1]
    simp only [Option.getD_some, Option.isSome_some, decide_eq_true_eq]
    omega
theorem LimM.far {Y : List Nat} {bs : List Addr} {w w' : World} {lo b n n' c c' s d : Nat} {V : Int → Option (List Nat)} {C : Nat → List Nat} {ep np np' : Nat} {m m' : Mp} {D D' : Dv} {I I' : Si} {S : St} (h : LimM Y bs w lo b n c s d V C ep np m D I S) {X : List Nat}
    (q : SAt w' lo n' m' D' I' S) (hl : Limp I.H S V C D') (hs : I'.s = I.s) (hd : I'.d = I.d) (hH : I'.H = I.H) (hb : D'.blocks = D.blocks) (hc : D'.calls ≤ c') (hnp : D'.np ≤ np') (hic : I'.c ≤ np') (ht : Turn X w w') (hX : ∀ x ∈ X, lo ≤ x) (hI : ∀ x ∈ I'.all m', x ∈ I.all m ∨ w.heap.size ≤ x) :
    LimM Y bs w' lo b n' c' s d V C ep np' m' D' I' S :=
  ⟨q, by rw [hH]; exact hl, hs.trans h.hs, hd.trans h.hd, hH.trans h.hH, hb.trans h.bl, h.b1, h.b2, hc, hnp, hic, h.ev.turn ht hX, Nat.le_trans h.los ht.size, h.ep, fun y hy => ⟨Nat.lt_of_lt_of_le (h.out y hy).1 ht.size, fun hm => by
    rcases hI y hm with hm | hm
    · exact (h.out y hy).2 hm
    · have := (h.out y hy).1; omega⟩⟩
/-- a page is read, and mended where its first copy is wrong -/
theorem Lim.read {Y : List Nat} {bs : List Addr} {w : World} {lo b n c s d : Nat} {V : Int → Option (List Nat)} {C : Nat → List Nat} {ep np : Nat} (h : Lim Y bs w lo b n c s d V C ep np) (hn : n < 680000) (hc : c < 700000) (hnp : np < 900000) {p : Int} (hp : isP p = true) :
    Calls Tryz.prog 19 #[ptr s, .int .i64 p] w fun e w' => (match V p with
      | none => ∃ a, bs[8]? = some a ∧ e = .returned (.tuple #[.slice none 0 0, ev a])
      | some l => ∃ a cap, e = .returned (.tuple #[.slice a l.length cap, .nilIface]) ∧ Nums .u8 w' a l.length cap l) ∧ Lim Y bs w' lo b (n + 1) (c + 1) s d V C ep (np + 1) ∧ Below lo w w' ∧ Kp Y w w' := by
  obtain ⟨m, D, I, S, h⟩ := h
  obtain ⟨p0, p1, hf⟩ := isP_fits hp
  have hth := h.li.there p
  have hcl := h.cl
  have hnp2 := h.hnp
  have hic := h.ic
  have hkp : ∀ {w' : World}, Turn (I.p :: own I.d m) w w' → Kp Y w w' := fun ht => ⟨fun y hy => ht.block y (h.out y hy).1 fun hm => (h.out y hy).2 (Si.own_all (by
      rcases List.mem_cons.1 hm with rfl | hm
      · simp
      · exact UpF.own_sub hm)), fun a n cap l hl => DevG.nums_turn hl ht fun x hx => h.at_.nou8 x (by
      rcases List.mem_cons.1 hx with rfl | hx
      · simp
      · exact UpF.own_sub hx)⟩
  have hX : ∀ x ∈ I.p :: own I.d m, lo ≤ x := fun x hx => by
    rcases List.mem_cons.1 hx with rfl | hx
    · exact h.at_.pr.lop
    · exact h.at_.pr.dev.own_lo x hx
  cases hv : V p with
  | none =>
    rw [hv] at hth
    have hr := read_bad bs lo n m D I S p w h.at_ h.ev hf 8 (.inr ⟨hp, hth, rfl⟩)
    rw [h.hs] at hr
    refine hr.mono ?_
    rintro e w' ⟨h1, h2⟩
    exact ⟨h1, ⟨m, D, I, S, h.far ((h.at_.below h2).mono (by omega)) h.li rfl rfl rfl rfl (by omega) (by omega) (by omega) (Turn.of_below (S := []) h2) (fun x hx => by cases hx) fun x hx => .inl hx⟩, h2.mono h.los, hkp (Turn.of_below h2)⟩
  | some l =>
    obtain ⟨a, e1, e2, e3, e4⟩ := h.li.fit.pg p l hv
    have hz := h.li.fit.dom p (by rw [hv]; rfl)
    have e' : S.at_ ((p.toNat : Nat) : Int) = some ((a : Int), Crc.sum (pblk l)) := by rw [show ((p.toNat : Nat) : Int) = p by omega]; exact e1
    have au : a ∈ used S.tabs S.at_ I.H := mem_used.2 ⟨e3, .inr (.inr ⟨p.toNat, by omega, _, e', rfl⟩)⟩
    have hl := h.li.lame a e2 e3 au
    have hput := h.li.put e2 e3 au a (.inl rfl)
    rw [e4] at hl hput
    have hN : S.now p = none := by rw [h.li.now]
    have hrp : ∃ D' c', PairG.readP D I.H I.c a (Crc.sum (pblk l)) = (some (pblk l), D', c') ∧ Limp I.H S V C D' ∧ D'.blocks = D.blocks ∧ D'.calls ≤ D.calls + 1 ∧ D'.np ≤ D.np + 1 ∧ c' ≤ I.c + 1 := by
      rcases hl.readP I.c with ⟨g, _⟩ | ⟨g, _⟩
      · exact ⟨D, I.c, g, h.li, rfl, by omega, by omega, by omega⟩
      · exact ⟨_, _, g, hput, rfl, Nat.le_refl _, put_np D (a : Int) (pblk l), Nat.le_refl _⟩
    obtain ⟨D', c', g, g1, g2, g3, g4, g5⟩ := hrp
    have hr := read_at bs lo n m D D' I S p l a _ c' w h.at_ h.ev hp hN e1 e3 (by omega) (h.li.fit.len p l hv).2.1 h.li.down h.li.fuse h.li.bytes (by omega) (by omega) (by omega) g g2
    rw [h.hs] at hr
    refine hr.mono ?_
    rintro e w' ⟨⟨x, cap, h1, h2, _⟩, k, ht⟩
    exact ⟨⟨x, cap, h1, h2⟩, ⟨m, D', _, S, h.far k g1 (by exact h.hs.symm) rfl rfl g2 (by omega) (by omega) (by show c' ≤ _; omega) ht hX (Si.all_sub (.inl rfl) (.inl rfl) fun x hx => .inl (by have e := h.hs; subst e; exact hx))⟩, ht.below h.los hX, hkp ht⟩
/-- the device of a store that has committed all -/
theorem Store.lame {Y : List Nat} {bs : List Addr} {w : World} {lo b n c s d : Nat} {V : Int → Option (List Nat)} {ep : Nat} (h : Store Y bs w lo b n c s d V (fun _ => none) ep) :
    ∃ C m D S, LameAt Y bs w lo b n c d V C ep 0 m D S ∧ ∀ a, 2 ≤ a → a < GeoW.half b → a ∈ used S.tabs S.at_ (GeoW.half b) → Blk (C a) ∧ Sound D (a : Int) (C a) ∧ Sound D ((a + GeoW.half b : Nat) : Int) (C a) := by
  obtain ⟨m, D, I, S, h⟩ := h
  obtain ⟨C, hl, hs⟩ := h.st.limp
  have hS : ({ S with now := fun _ => none } : St) = S := by
    have h1 := h.now
    obtain ⟨ep, rs, tabs, at_, now⟩ := S
    simp only at h1
    subst h1
    rfl
  rw [hS] at hl
  rw [h.hH] at hl hs
  have hcl := h.cl
  have hnp := h.st.idle.np
  exact ⟨C, m, D, S, ⟨by rw [← h.hd]; exact h.at_.pr.dev, hl, h.bl, h.b1, h.b2, by omega, by omega, h.ev, h.los, h.ep, fun y hy => ⟨(h.out y hy).1, fun hm => (h.out y hy).2 (Si.own_all (UpF.own_sub (by rw [h.hd]; exact hm)))⟩⟩, hs⟩
end Go.Proofs.YtbjfgdahfpfgdaaGreatDoor.PgW

namespace Go.Proofs.YtbjfgdahfpfgdaaGreatDoor.PgW
open Go Go.RowKit Go.Maps Go.Proofs.YtbjfgdahfpfgdaaGreatDoor.Mem Go.Proofs.YtbjfgdahfpfgdaaGreatDoor.MapsW Go.Proofs.YtbjfgdahfpfgdaaGreatDoor.SeeW Go.Proofs.YtbjfgdahfpfgdaaGreatDoor.DevG Go.Proofs.YtbjfgdahfpfgdaaGreatDoor.PairG Go.Proofs.YtbjfgdahfpfgdaaGreatDoor.PgP Go.Proofs.YtbjfgdahfpfgdaaGreatDoor.RootP Go.Proofs.YtbjfgdahfpfgdaaGreatDoor.RootW
set_option linter.unusedVariables false
set_option maxRecDepth 100000

/-- a pair of which both copies are right -/
structure Whole (H : Nat) (S : St) (C : Nat → List Nat) (D : Dv) (k : Nat) : Prop where
  pg : 2 ≤ k → k ∈ used S.tabs S.at_ H → Sound D (k : Int) (C k) ∧ Sound D ((k + H : Nat) : Int) (C k)
  rt : k = S.ep % 2 → oneOf D (k : Int) = some ⟨(S.ep : Int), S.rs⟩ ∧ oneOf D ((k + H : Nat) : Int) = some ⟨(S.ep : Int), S.rs⟩
/-- two devices that differ in one block alone -/
structure But (D E : Dv) (i : Int) : Prop where
  down : E.down = D.down
  fuse : E.fuse = D.fuse
  blocks : E.blocks = D.blocks
  np : E.np = D.np
  calls : E.calls = D.calls
  pe : E.pe = D.pe
  fl : ∀ j, j ≠ i → E.fl j = D.fl j
  fi : ∀ j, j ≠ i → E.fi j = D.fi j
  fa : ∀ j, j ≠ i → E.fa j = D.fa j
theorem But.read {D E : Dv} {i : Int} (h : But D E i) {j : Int} (hj : j ≠ i) : E.read j = D.read j := read_of (by rw [h.pe]) (h.fi j hj) (h.fl j hj)
theorem But.one {D E : Dv} {i : Int} (h : But D E i) {j : Int} (hj : j ≠ i) : oneOf E j = oneOf D j := by unfold oneOf; rw [h.read hj]
theorem But.kept {D E : Dv} {i : Int} (h : But D E i) {j : Int} (hj : j ≠ i) : keptOf E j = keptOf D j := by unfold keptOf; rw [h.fl j hj]
theorem But.cp {D E : Dv} {i : Int} (h : But D E i) {j : Int} (hj : j ≠ i) {P : List Nat} (hc : Cp D j P) : Cp E j P := hc.same (by rw [h.pe]) (h.fi j hj) (h.fl j hj) (h.fa j hj)
theorem But.sound {D E : Dv} {i : Int} (h : But D E i) {j : Int} (hj : j ≠ i) {P : List Nat} (hc : Sound D j P) : Sound E j P := ⟨by rw [h.pe]; exact hc.1, (h.fa j hj).trans hc.2.1, (h.kept hj).trans hc.2.2.1, (h.fi j hj).trans hc.2.2.2⟩
theorem But.refl (D : Dv) (i : Int) : But D D i := ⟨rfl, rfl, rfl, rfl, rfl, rfl, fun _ _ => rfl, fun _ _ => rfl, fun _ _ => rfl⟩
theorem But.fail (D : Dv) (i : Int) : But D (D.fail i) i := by
  cases hm : D.may i with
  | false => rw [show D.fail i = D by unfold Dv.fail; rw [hm]; rfl]; exact But.refl D i
  | true =>
    rw [show D.fail i = { D with fi := upd D.fi i true }.fault i by unfold Dv.fail; rw [hm]; rfl]
    exact ⟨rfl, rfl, rfl, rfl, rfl, rfl, fun _ _ => rfl, fun j hj => upd_other _ _ hj, fun j hj => upd_other _ _ hj⟩
theorem But.spoil (D : Dv) (i at_ : Int) (t : Nat) : But D (D.spoil i at_ t) i := by
  cases hm : D.mayS i at_ t with
  | false => rw [spoil_no hm]; exact But.refl D i
  | true =>
    rw [spoil_yes hm]
    exact ⟨rfl, rfl, rfl, rfl, rfl, rfl, fun j hj => upd_other _ _ hj, fun _ _ => rfl, fun j hj => upd_other _ _ hj⟩
/-- the copies of other pairs lie elsewhere -/
theorem far_pair {H k a : Nat} {i : Int} (hk : k < H) (ha : a < H) (hi : i = (k : Int) ∨ i = ((k + H : Nat) : Int)) (hne : a ≠ k) : (a : Int) ≠ i ∧ ((a + H : Nat) : Int) ≠ i := by omega
theorem Whole.but {H : Nat} {S : St} {C : Nat → List Nat} {D E : Dv} {k a : Nat} {i : Int} (h : Whole H S C D a) (hb : But D E i) (hk : k < H) (ha : a < H) (hi : i = (k : Int) ∨ i = ((k + H : Nat) : Int)) (hne : a ≠ k) : Whole H S C E a := by
  obtain ⟨n1, n2⟩ := far_pair hk ha hi hne
  exact ⟨fun h1 h2 => ⟨hb.sound n1 (h.pg h1 h2).1, hb.sound n2 (h.pg h1 h2).2⟩, fun h1 => by rw [hb.one n1, hb.one n2]; exact h.rt h1⟩
theorem spot_lt {H s : Nat} (h : s ∈ spots H) : ∃ r, r < 2 ∧ (s = r ∨ s = r + H) := by
  rcases spots_mem h with rfl | rfl | rfl | rfl
  · exact ⟨0, by omega, .inl rfl⟩
  · exact ⟨0, by omega, .inr (by omega)⟩
  · exact ⟨1, by omega, .inl rfl⟩
  · exact ⟨1, by omega, .inr rfl⟩
/-- one copy of a pair that was whole is another -/
theorem Limp.but {H : Nat} {S : St} {V : Int → Option (List Nat)} {C : Nat → List Nat} {D E : Dv} (h : Limp H S V C D) (h2 : 2 ≤ H) {k : Nat} {i : Int} (hb : But D E i) (hk : k < H) (hi : i = (k : Int) ∨ i = ((k + H : Nat) : Int)) (hw : Whole H S C D k)
    (hc : 2 ≤ k → k ∈ used S.tabs S.at_ H → Cp E i (C k)) (hr : k < 2 → Rs E i) (ho : k < 2 → oneOf E i = none ∨ oneOf E i = oneOf D i) (hy : ∀ l, E.read i = some l → Crc.Bytes l) : Limp H S V C E := by
  have hone : ∀ s ∈ spots H, ∀ q, oneOf E (s : Int) = some q → oneOf D (s : Int) = some q := fun s hs q hq => by
    by_cases e : (s : Int) = i
    · obtain ⟨r, r2, hr⟩ := spot_lt hs
      have hk2 : k < 2 := by omega
      rw [e] at hq ⊢
      rcases ho hk2 with e1 | e1
      · rw [e1] at hq; cases hq
      · rw [← e1]; exact hq
    · rw [← hb.one e]; exact hq
  refine ⟨h.fit, h.now, fun a a2 aH ha => ?_, hb.down.trans h.down, hb.fuse.trans h.fuse, fun j l hl => ?_, fun s hs q hq => h.le s hs q (hone s hs q hq), fun s hs q hq => h.eq s hs q (hone s hs q hq), fun h0 => ?_, fun s hs => ?_⟩
  · have hl := h.lame a a2 aH ha
    by_cases e : a = k
    · subst e
      obtain ⟨s1, s2⟩ := hw.pg a2 ha
      have hcc := hc a2 ha
      rcases hi with rfl | rfl
      · have n : ((a + H : Nat) : Int) ≠ (a : Int) := by omega
        exact ⟨hl.blk, hcc, (hb.sound n s2).cp, .inr (hb.sound n s2).read⟩
      · have n : (a : Int) ≠ ((a + H : Nat) : Int) := by omega
        exact ⟨hl.blk, (hb.sound n s1).cp, hcc, .inl (hb.sound n s1).read⟩
    · obtain ⟨n1, n2⟩ := far_pair hk aH hi e
      exact ⟨hl.blk, hb.cp n1 hl.c1, hb.cp n2 hl.c2, by rw [hb.read n1, hb.read n2]; exact hl.one⟩
  · by_cases e : j = i
    · subst e; exact hy l hl
    · rw [hb.read e] at hl; exact h.bytes j l hl
  · by_cases e : k = S.ep % 2
    · obtain ⟨r1, r2⟩ := hw.rt e
      rw [← e]
      rcases hi with rfl | rfl
      · right; rw [hb.one (by omega)]; exact r2
      · left; rw [hb.one (by omega)]; exact r1
    · obtain ⟨n1, n2⟩ := far_pair hk (show S.ep % 2 < H by omega) hi (fun e' => e e'.symm)
      rw [hb.one n1, hb.one n2]
      exact h.one h0
  · by_cases e : (s : Int) = i
    · obtain ⟨r, r2, hr'⟩ := spot_lt hs
      rw [e]
      exact hr (by omega)
    · exact (h.rt s hs).same (by rw [hb.pe]) (hb.fi _ e) (hb.fl _ e) (hb.fa _ e)
theorem one_of_none {D : Dv} {i : Int} (h : D.read i = none) : oneOf D i = none := by unfold oneOf; rw [h]; rfl
/-- a copy fails -/
theorem Limp.fail {H : Nat} {S : St} {V : Int → Option (List Nat)} {C : Nat → List Nat} {D : Dv} (h : Limp H S V C D) (h2 : 2 ≤ H) {k : Nat} {i : Int} (hk : k < H) (hi : i = (k : Int) ∨ i = ((k + H : Nat) : Int)) (hw : Whole H S C D k) : Limp H S V C (D.fail i) := by
  cases hm : D.may i with
  | false => rw [show D.fail i = D by unfold Dv.fail; rw [hm]; rfl]; exact h
  | true =>
    obtain ⟨p1, p2⟩ := may_of hm
    have e : D.fail i = { D with fi := upd D.fi i true }.fault i := by unfold Dv.fail; rw [hm]; rfl
    have hpe : (D.fail i).pe i = none := by rw [e]; exact p1
    have hfa : (D.fail i).fa i = true := by rw [e]; exact upd_same _ _ _
    have hrd : (D.fail i).read i = none := read_failed hpe (by rw [e]; exact upd_same _ _ _)
    refine h.but h2 (But.fail D i) hk hi hw (fun k2 hu => ?_) (fun _ => .inr (.inr ⟨hpe, hfa, fun l hl => by rw [hrd] at hl; cases hl⟩)) (fun _ => .inl (one_of_none hrd)) (fun l hl => by rw [hrd] at hl; cases hl)
    have hl := h.lame k k2 hk hu
    rcases hi with rfl | rfl
    · exact hl.c1.fail
    · exact hl.c2.fail
theorem Spot.but {D E : Dv} {i : Int} (hb : But D E i) {s : Nat} (hs : (s : Int) ≠ i) (h : Spot D s) : Spot E s := h.same (hb.read hs)
theorem read_kept {D : Dv} {i : Int} (hp : D.pe i = none) {l : List Nat} (hl : D.read i = some l) : D.fi i = false ∧ keptOf D i = l := by
  cases hi : D.fi i with
  | true => rw [read_failed hp hi] at hl; cases hl
  | false => rw [read_flushed hp hi] at hl; exact ⟨rfl, Option.some.inj hl⟩
/-- a root's block that was turned is no root, and not nothing -/
theorem turned_spot {l : List Nat} (h : l = List.replicate 256 0 ∨ ∃ r, Fine r ∧ l = enc r) {p t : Nat} (hp : p ≤ 252) (h0 : t ≠ 0) (ht : t < 4294967296) : parse (Crc.turned l (p : Int) t) = none ∧ ∃ c ∈ Crc.turned l (p : Int) t, c ≠ 0 := by
  have hlen : l.length = 256 := by
    rcases h with rfl | ⟨r, _, rfl⟩
    · simp
    · exact enc_length r
  have hne : Crc.turned l (p : Int) t ≠ l := Crc.turned_ne (by omega) h0 ht
  have hz : (∀ c ∈ Crc.turned l (p : Int) t, c = 0) → Crc.turned l (p : Int) t = List.replicate 256 0 := fun hc => List.eq_replicate_iff.2 ⟨by rw [Crc.turned_length, hlen], hc⟩
  have hex : ∀ hq : Crc.turned l (p : Int) t ≠ List.replicate 256 0, ∃ c ∈ Crc.turned l (p : Int) t, c ≠ 0 := fun hq => Classical.byContradiction fun hn => hq (hz fun c hc => Classical.byContradiction fun h => hn ⟨c, hc, h⟩)
  rcases h with rfl | ⟨r, hf, rfl⟩
  · exact ⟨parse_turned_zeros p t, hex hne⟩
  · refine ⟨parse_turned hf.g hf.s _ t hne, hex fun hq => ?_⟩
    have he : List.replicate 256 0 = enc ⟨0, []⟩ := by decide
    have h3 : RootP.half (⟨0, []⟩ : Rt) = RootP.half r := by
      refine halves_eq p fun i hi => ?_
      rw [← he, ← hq]
      rw [show Crc.turned (enc r) (p : Int) t = Crc.turnK (enc r) (p : Int) t 4 from rfl, Crc.turnK_get]
      cases (enc r)[i]? with
      | none => rfl
      | some c => simp only [Option.map_some]; rw [if_neg hi]
    have h4 : enc r = List.replicate 256 0 := by rw [he]; unfold enc; rw [h3]
    have h5 := hf.parse
    rw [h4, parse_zeros] at h5
    cases h5
/-- a copy is turned -/
theorem Limp.spoil {H : Nat} {S : St} {V : Int → Option (List Nat)} {C : Nat → List Nat} {D : Dv} (h : Limp H S V C D) (h2 : 2 ≤ H) {k : Nat} {i : Int} (hk : k < H) (hi : i = (k : Int) ∨ i = ((k + H : Nat) : Int)) (hw : Whole H S C D k) (hs : k < 2 → Spot D k ∧ Spot D (k + H)) (p t : Nat) (ht : t < 4294967296) (hy : Crc.Bytes (keptOf D i)) : Limp H S V C (D.spoil i (p : Int) t) := by
  cases hm : D.mayS i (p : Int) t with
  | false => rw [spoil_no hm]; exact h
  | true =>
    have e := spoil_yes hm
    have hmm := hm
    unfold Dv.mayS at hmm
    rw [Bool.and_eq_true, decide_eq_true_eq] at hmm
    obtain ⟨m1, m2, m3⟩ := may_of hmm.1, hmm.2.1, hmm.2.2
    obtain ⟨p1, p2⟩ := m1
    have hpe : (D.spoil i (p : Int) t).pe i = none := by rw [e]; exact p1
    have hfa : (D.spoil i (p : Int) t).fa i = true := by rw [e]; exact upd_same _ _ _
    have hrd : ∀ l, (D.spoil i (p : Int) t).read i = some l → l = Crc.turned (keptOf D i) (p : Int) t := fun l hl => by
      obtain ⟨q1, q2⟩ := read_kept hpe hl
      rw [← q2, e]
      exact kept_of (upd_same _ _ _)
    refine h.but h2 (But.spoil D i (p : Int) t) hk hi hw (fun k2 hu => ?_) (fun k2 => .inr (.inr ⟨hpe, hfa, fun l hl => ?_⟩)) (fun k2 => .inl ?_) (fun l hl => by rw [hrd l hl]; exact Crc.turned_bytes hy _ _)
    · have hl := h.lame k k2 hk hu
      rcases hi with rfl | rfl
      · exact hl.c1.spoil hl.blk p t ht
      · exact hl.c2.spoil hl.blk p t ht
    · rw [hrd l hl]
      refine turned_spot ?_ (by omega) m3.2 ht
      obtain ⟨s1, s2⟩ := hs k2
      rcases hi with rfl | rfl
      · rcases s1 with s1 | ⟨r, hf, s1⟩
        · exact .inl (read_kept p1 s1).2
        · exact .inr ⟨r, hf, (read_kept p1 s1).2⟩
      · rcases s2 with s2 | ⟨r, hf, s2⟩
        · exact .inl (read_kept p1 s2).2
        · exact .inr ⟨r, hf, (read_kept p1 s2).2⟩
    · cases hR : (D.spoil i (p : Int) t).read i with
      | none => exact one_of_none hR
      | some l =>
        unfold oneOf
        rw [hR]
        show parse l = none
        rw [hrd l hR]
        refine (turned_spot ?_ (by omega) m3.2 ht).1
        obtain ⟨s1, s2⟩ := hs k2
        rcases hi with rfl | rfl
        · rcases s1 with s1 | ⟨r, hf, s1⟩
          · exact .inl (read_kept p1 s1).2
          · exact .inr ⟨r, hf, (read_kept p1 s1).2⟩
        · rcases s2 with s2 | ⟨r, hf, s2⟩
          · exact .inl (read_kept p1 s2).2
          · exact .inr ⟨r, hf, (read_kept p1 s2).2⟩
/-- the pairs that no fault has met yet -/
structure Left (H : Nat) (S : St) (C : Nat → List Nat) (D : Dv) (dn : Nat → Bool) : Prop where
  w : ∀ k, k < H → dn k = false → Whole H S C D k
  sp : ∀ k, k < 2 → dn k = false → Spot D k ∧ Spot D (k + H)
  kb : ∀ i, Crc.Bytes (keptOf D i)
theorem Left.but {H : Nat} {S : St} {C : Nat → List Nat} {D E : Dv} {dn : Nat → Bool} {k : Nat} {i : Int} (h : Left H S C D dn) (h2 : 2 ≤ H) (hb : But D E i) (hk : k < H) (hi : i = (k : Int) ∨ i = ((k + H : Nat) : Int)) (hy : Crc.Bytes (keptOf E i)) : Left H S C E (fun j => if j = k then true else dn j) := by
  refine ⟨fun a ha hd => ?_, fun a ha hd => ?_, fun j => ?_⟩
  · by_cases e : a = k
    · rw [if_pos e] at hd; cases hd
    · rw [if_neg e] at hd; exact (h.w a ha hd).but hb hk ha hi e
  · by_cases e : a = k
    · rw [if_pos e] at hd; cases hd
    · rw [if_neg e] at hd
      obtain ⟨n1, n2⟩ := far_pair hk (show a < H by omega) hi e
      exact ⟨(h.sp a ha hd).1.but hb n1, (h.sp a ha hd).2.but hb n2⟩
  · by_cases e : j = i
    · subst e; exact hy
    · rw [hb.kept e]; exact h.kb j
theorem kept_fail (D : Dv) (i : Int) : keptOf (D.fail i) i = keptOf D i := by
  cases hm : D.may i with
  | false => rw [show D.fail i = D by unfold Dv.fail; rw [hm]; rfl]
  | true => rw [show D.fail i = { D with fi := upd D.fi i true }.fault i by unfold Dv.fail; rw [hm]; rfl]; rfl
theorem kept_spoil {D : Dv} {i : Int} (h : Crc.Bytes (keptOf D i)) (at_ : Int) (t : Nat) : Crc.Bytes (keptOf (D.spoil i at_ t) i) := by
  cases hm : D.mayS i at_ t with
  | false => rw [spoil_no hm]; exact h
  | true =>
    rw [spoil_yes hm, kept_of (l := Crc.turned (keptOf D i) at_ t) (upd_same _ _ _)]
    exact Crc.turned_bytes h _ _
end Go.Proofs.YtbjfgdahfpfgdaaGreatDoor.PgW
