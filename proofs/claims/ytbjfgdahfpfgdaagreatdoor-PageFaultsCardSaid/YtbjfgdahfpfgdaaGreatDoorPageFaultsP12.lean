/- The walk of a store's Heal, of a block that is no root's; Where there is room a commit is laid; A pair written on a device that may fall; How all is to lie, while it is written; what elsewhere leaves a store; What a store's write does, in plain words; What a commit is in plain words; what a layout may be written by. -/
import Derived.Test.YtbjfgdahfpfgdaaGreatDoorPageFaultsP7
import Derived.Test.YtbjfgdahfpfgdaaGreatDoorPageFaultsP9
import Derived.Test.YtbjfgdahfpfgdaaGreatDoorPageFaultsP11
import Derived.Deep.RegionHeld3
import Derived.Test.YtbjfgdahfpfgdaaGreatDoorPageFaultsP8
import Derived.Test.YtbjfgdahfpfgdaaGreatDoorPageFaultsP10
import Derived.Test.YtbjfgdahfpfgdaaGreatDoorPageFaultsP5
namespace Go.Proofs.YtbjfgdahfpfgdaaGreatDoor.PgW
open Go Go.RowKit Go.Maps Go.Proofs.YtbjfgdahfpfgdaaGreatDoor.Mem Go.Proofs.YtbjfgdahfpfgdaaGreatDoor.MapsW Go.Proofs.YtbjfgdahfpfgdaaGreatDoor.SeeW Go.Proofs.YtbjfgdahfpfgdaaGreatDoor.DevG Go.Proofs.YtbjfgdahfpfgdaaGreatDoor.PairG Go.Proofs.YtbjfgdahfpfgdaaGreatDoor.RefsW Go.Proofs.YtbjfgdahfpfgdaaGreatDoor.PgP Go.Proofs.YtbjfgdahfpfgdaaGreatDoor.Ints
set_option linter.unusedVariables false
set_option maxRecDepth 100000

/-- a place in use -/
def RefOf (S : St) (r : Ref) : Prop := r ∈ S.tabs ∨ ∃ i, S.at_ i = some r
/-- what Heal leaves -/
def HealTo (w : World) (lo n : Nat) (m : Mp) (D D' : Dv) (I : Si) (S : St) (c' i j : Nat) (e : Ending) (w' : World) : Prop :=
  (((∃ r, RefOf S r ∧ r.1 = (i : Int)) ∧ e = .returned (.tuple #[.int .i64 (j : Int), .nilIface]) ∧ SAt w' lo (n + 1) m D' { I with c := c' } S) ∨
    ((∀ r, RefOf S r → r.1 ≠ (i : Int)) ∧ e = .returned (.tuple #[.int .i64 0, .nilIface]) ∧ SAt w' lo (n + 1) m D I S)) ∧ Turn (I.p :: own I.d m) w w'
theorem HealTo.mend {w w1 w' : World} {lo n : Nat} {m : Mp} {D D' : Dv} {I : Si} {S : St} {c' i j : Nat} {r : Ref} (hr : RefOf S r) (hi : r.1 = (i : Int)) (hb : Below w.heap.size w w1) (k : SAt w' lo (n + 1) m D' { I with c := c' } S) (ht : Turn (I.p :: own I.d m) w1 w') : HealTo w lo n m D D' I S c' i j (.returned (.tuple #[.int .i64 (j : Int), .nilIface])) w' :=
  ⟨.inl ⟨⟨r, hr, hi⟩, rfl, k⟩, (Turn.of_below hb).then ht⟩
theorem HealTo.none {w w' : World} {lo n : Nat} {m : Mp} {D D' : Dv} {I : Si} {S : St} {c' i j : Nat} (h : ∀ r, RefOf S r → r.1 ≠ (i : Int)) (hb : Below w.heap.size w w') (k : SAt w lo n m D I S) : HealTo w lo n m D D' I S c' i j (.returned (.tuple #[.int .i64 0, .nilIface])) w' :=
  ⟨.inr ⟨h, rfl, (k.below hb).mono (by omega)⟩, Turn.of_below hb⟩
theorem cell2 {w : World} {b : Nat} {x y : Value} {t : TypeId} (h : w.heap[b]? = some (.cells #[x, y] t)) : w.cell? ⟨b, 0, none⟩ = some x ∧ w.cell? ⟨b, 1, none⟩ = some y := by
  simp [World.cell?, h]
set_option maxHeartbeats 3200000 in
theorem heal_w (bs : List Addr) (lo n : Nat) (m : Mp) (D D' : Dv) (I : Si) (S : St) (i s j c' : Nat) (w : World) (k : SAt w lo n m D I S) (hB : Ev w lo bs seven) (h2 : 2 ≤ i) (hi : i < I.H) (hH : I.H ≤ 512) (hd : ∀ i, (S.at_ i).isSome = true → 0 ≤ i ∧ i < 256) (hu : D.down = false) (hz : D.fuse = 0) (hbt : ∀ j l, D.read j = some l → Crc.Bytes l) (hn : n < 850000) (hc : D.calls < 1000000) (hc2 : I.c < 1000000)
    (hs : ∀ r, RefOf S r → r.1 = (i : Int) → r.2 = s) (hm : (∃ r, RefOf S r ∧ r.1 = (i : Int)) → mendP D I.H I.c i s = (some j, D', c')) :
    Calls Tryz.prog 40 #[ptr I.s, .int .i64 i] w (HealTo w lo n m D D' I S c' i j) := by
  obtain ⟨c0, c1, c2, c3, c4, c5, c6, c7, fz⟩ := k.c
  have hgeo := pgeo_w lo I.d n m D I.p I.H I.c w k.pr
  have HK := hid k
  have HB := hid hB
  have hT7 : S.tabs.length = 7 := k.tabs.len
  have hsl := k.slt
  have HM := hid (fun (r : Ref) (hr : RefOf S r) (he : r.1 = (i : Int)) (w1 : World) (hb : Below w.heap.size w w1) => smend_w bs lo n m D I S i s w1 (k.below hb) (hB.below hb) hi hu hz hbt hn hc hc2 (hm ⟨r, hr, he⟩))
  have HS := hid hs
  have HD := hid hd
  have hfl : ∀ (b h : Int) w, (Instr.field 25 (GeoW.G b h) 1).run Tryz.prog w = .ok (.int .i64 h) w := fun b h w => by kernel_rfl
  have d1 : decide ((i : Int) < 0) = false := decide_eq_false (by omega)
  have d2 : decide ((I.H : Int) ≤ (i : Int)) = false := decide_eq_false (by omega)
  have d3 : decide ((i : Int) < 2) = false := decide_eq_false (by omega)
  clear k hB hs hm hd hbt c0 c2 c3 c6 c7 fz
  go_enter Tryz.func40, Tryz.ntmps40
  go_wp2_with fail
  refine hgeo.mono ?_
  rintro e w1 ⟨rfl, hb1⟩
  replace c1 := kept hb1 c1
  replace c4 := kept hb1 c4
  replace c5 := kept hb1 c5
  have hz1 := hb1.size
  have HB1 := hid hb1
  have hsl1 : I.s < w1.heap.size := by omega
  clear hgeo hb1
  go_wp2_with fail
  go_loopw [35] (fun iv wr => ∃ q : Nat, q ≤ 7 ∧ iv = .int .i64 q ∧ (∀ u, u < q → (S.tabs.getD u (0, 0)).1 ≠ (i : Int)) ∧ Below w.heap.size w wr) (fun iv _ => 7 - (RowKit.intOf iv).toNat)
  case atStart => exact ⟨0, by omega, rfl, fun u hu => absurd hu (Nat.not_lt_zero u), HB1.out⟩
  case round =>
    clear c1 c4 c5 hz1 hsl1
    obtain ⟨q, hq, rfl, hno, hb⟩ := hrel
    have HNO := hid hno
    have HBW := hid hb
    have hzr := hb.size
    have k1 := HK.out.below hb
    have c1 := k1.c.2.1
    have c4 := k1.c.2.2.2.2.1
    by_cases hlt : q < 7
    · have hql : q < S.tabs.length := by omega
      obtain ⟨b', o', e, x0, x1⟩ := k1.tabs.at hql
      cases e
      rw [Nat.zero_add] at x0 x1
      have hmem : RefOf S S.tabs[q] := .inl (List.getElem_mem hql)
      have hgd : S.tabs.getD q (0, 0) = S.tabs[q] := by rw [List.getD_eq_getElem?_getD, List.getElem?_eq_getElem hql]; rfl
      rw [← hgd] at hmem x0 x1
      generalize hr : S.tabs.getD q (0, 0) = r at hmem x0 x1
      have HR := hid hr
      have HMEM := hid hmem
      obtain ⟨ra, rb⟩ := r
      simp only at x0 x1
      have bx := (Below.refl wr.heap.size wr).alloc (Nat.le_refl _) (.cells #[.int .i64 ra, .int .u32 (rb : Int)] 111)
      obtain ⟨y0, y1⟩ := cell2 (heap_alloc_new wr (.cells #[.int .i64 ra, .int .u32 (rb : Int)] 111))
      replace c1 := kept bx c1
      clear hno hb k1 c4 hr hmem hgd
      by_cases he : ra = (i : Int)
      · subst he
        obtain rfl : rb = s := HS.out _ HMEM.out rfl
        have d4 : ((i : Int) == (i : Int)) = true := by simp
        have HBX := hid (HBW.out.trans (bx.mono hzr))
        clear bx
        have HOL := hid (show ∀ x ∈ I.p :: own I.d m, x < wr.heap.size from fun x hx => Nat.lt_of_lt_of_le (HK.out.own_lt x (by
          rcases List.mem_cons.1 hx with rfl | hx
          · simp
          · simp only [List.mem_cons]; exact .inr (.inr (.inr (.inr (List.mem_cons.1 hx)))))) hzr)
        have hms := fun (w2 : World) (hb : Below wr.heap.size (wr.alloc (.cells #[.int .i64 (i : Int), .int .u32 (rb : Int)] 111)) w2) => HM.out _ HMEM.out rfl w2 (HBX.out.trans (hb.mono hzr))
        go_wp2_with fail
        go_region_held3 (fun w' => w'.cell? ⟨I.s, 1, none⟩ = some (ptr I.p) ∧ w'.cell? ⟨wr.heap.size, 0, none⟩ = some (.int .i64 (i : Int)) ∧ w'.cell? ⟨wr.heap.size, 1, none⟩ = some (.int .u32 (rb : Int))) (first | exact ⟨c1, y0, y1⟩ | exact ⟨z1, z2, z3⟩ | go_keep)
          ((go_at_call 76; refine (hms _ (below_drewN (Below.refl _ _) _)).mono ?_; rintro e w3 ⟨rfl, k3, t3⟩; have z1 := k3.c.2.1; have hbk := t3.block wr.heap.size (by simp) (fun hm => Nat.lt_irrefl _ (HOL.out _ hm)); have z2 : w3.cell? ⟨wr.heap.size, 0, none⟩ = some (.int .i64 (i : Int)) := (World.cell?_of_block hbk).trans y0; have z3 : w3.cell? ⟨wr.heap.size, 1, none⟩ = some (.int .u32 (rb : Int)) := (World.cell?_of_block hbk).trans y1))
        have HF := hid (show HealTo w lo n m D D' I S c' i j (.returned (.tuple #[.int .i64 (j : Int), .nilIface])) w3 from HealTo.mend HMEM.out rfl (below_drewN HBX.out 1) k3 t3)
        clear k3 t3 z1 z2 z3 hbk hms
        go_wp2_with fail
        go_ret2
        exact HF.out
      · have d4 : (ra == (i : Int)) = false := by rw [beq_eq_false_iff_ne]; exact he
        have HHE := hid he
        have HBX := hid (HBW.out.trans (bx.mono hzr))
        clear bx he
        go_wp2_with fail
        go_roundw
        case rel =>
          refine ⟨q + 1, by omega, by go_num, fun u hu => ?_, HBX.out⟩
          by_cases e : u = q
          · subst e; rw [HR.out]; exact HHE.out
          · exact HNO.out u (by omega)
        case measure => simp [RowKit.intOf]; omega
    · obtain rfl : q = 7 := by omega
      have HNO7 := hid (show ∀ r ∈ S.tabs, r.1 ≠ (i : Int) from fun r hr => by
        obtain ⟨u, hu, rfl⟩ := List.mem_iff_getElem.1 hr
        have := hno u (by omega)
        rwa [List.getD_eq_getElem?_getD, List.getElem?_eq_getElem hu] at this)
      generalize wr = w2 at *
      have c5 := k1.c.2.2.2.2.2.1
      obtain ⟨ka', ha'⟩ := k1.at_
      obtain ⟨E, hE, hnp, hEi⟩ := ha'
      have hal : I.a < w2.heap.size := by obtain ⟨es, ck, hb⟩ := k1.amap; exact (Array.getElem?_eq_some_iff.1 hb).1
      have hal0 : I.a < w.heap.size := by obtain ⟨es, ck, hb⟩ := HK.out.amap; exact (Array.getElem?_eq_some_iff.1 hb).1
      clear hno k1 hlt hq c1 c4 hb
      go_wp2_with (at_range; refine wpList_range_own _ rfl _ 90 rfl 3 111 law Tryz.underlying90 refR I.a n E rfl hE ?_; intro wq hrg0 hg0 hsq)
      go_frame
      have hq0 : Below w.heap.size w wq := HBW.out.grown hg0 hzr (fun j hj => by cases hj)
      go_loopw [58] (fun v wr => ∃ (left : Lit → Bool) (n1 : Nat), wr.ranges Tryz.prog 3 refR I.a w2.heap.size n E left n1 ∧ Below w.heap.size w wr ∧ w2.heap.size < wr.heap.size ∧ (∀ p r, S.at_ p = some r → left (.int .i64 p) = true ∨ r.1 ≠ (i : Int))) (fun _ wr => wr.rangeLeft I.a w2.heap.size)
      case atStart =>
        refine ⟨_, _, hrg0, hq0, by omega, fun p r hp => .inl ?_⟩
        have := hEi p
        rw [hp] at this
        exact this.1
      case round =>
        clear hq0 hrg0 hg0 hsq
        obtain ⟨left, n1, hrg, hbw, hsw, hy2⟩ := hrel
        have HBW2 := hid hbw
        have HY2 := hid hy2
        have hsz2 := hbw.size
        have c1 := (HK.out.below hbw).c.2.1
        clear hbw hy2
        go_wp2_with (at_next; refine wpList_next_ranges _ rfl _ rfl 3 law refR (Value.int .i64) mkR invK invR I.a w2.heap.size n _ _ _ rfl hrg ?_ ?_)
        · intro e0 hl0
          have HF := hid (show HealTo w lo n m D D' I S c' i j (.returned (.tuple #[.int .i64 0, .nilIface])) wr from HealTo.none (fun r hr => by
            rcases hr with hr | ⟨p, hp⟩
            · exact HNO7.out r hr
            · rcases HY2.out p r hp with h3 | h3
              · rw [hl0] at h3; cases h3
              · exact h3) HBW2.out HK.out)
          clear hl0 e0 hrg
          go_wp2_with fail
          go_ret2
          exact HF.out
        · intro x ca cb kl yd yp w4 n2 hkey hlx hR hat1 hrg1 hlt1 hg1 hs1 hen
          obtain ⟨x', ex, rfl, hwx⟩ := Maps.keyOf_int_inv Tryz.underlying3 hkey
          cases ex
          have hx := hEi x
          cases hF : S.at_ x with
          | none =>
            exfalso
            rw [hF] at hx
            have e1 := hat1 .nil
            have e2 := hat1 (.agg [])
            rw [atKey_of_not_has hx] at e1 e2
            rw [← e1] at e2
            cases e2
          | some r =>
            rw [hF] at hx
            have ey : yd = refd r.1 (r.2 : Int) := (hat1 .nil).symm.trans (hx.2 .nil)
            have hc1 : mkR (ca, cb) = .agg #[.int .i64 r.1, .int .u32 (r.2 : Int)] := refR_inv (ps := yp) (by rw [hR, ← ey])
            obtain ⟨ri4, ri5, ri6⟩ := rg_iter hrg1
            have hB4 : Below w.heap.size w w4 := HBW2.out.trans ((Below.refl _ _).grown hg1 hsz2 (fun j hj => by cases hj; omega))
            have bx := (Below.refl w4.heap.size w4).alloc (Nat.le_refl _) (.cells #[.int .i64 r.1, .int .u32 (r.2 : Int)] 111)
            have c1 := kept bx (HK.out.below hB4).c.2.1
            obtain ⟨y0, y1⟩ := cell2 (heap_alloc_new w4 (.cells #[.int .i64 r.1, .int .u32 (r.2 : Int)] 111))
            have hw4 := hB4.size
            have HB5 := hid (hB4.trans (bx.mono hw4))
            have HMEM := hid (show RefOf S r from .inr ⟨x, hF⟩)
            have HF' := hid hF
            have HRG := hid hrg1
            have ML := hid (show w4.rangeLeft I.a w2.heap.size < wr.rangeLeft I.a w2.heap.size by rw [hrg1.left_eq, hrg.left_eq]; exact hlt1)
            rw [hc1] at hen ⊢
            have hsr : w2.heap.size < w4.heap.size := ri6
            obtain ⟨ra, rb⟩ := r
            simp only at c1 y0 y1
            clear hR hat1 hkey ey hx hF hrg hc1 hg1 hs1 bx ri4 ri5
            by_cases he : ra = (i : Int)
            · subst he
              obtain rfl : rb = s := HS.out _ HMEM.out rfl
              have d4 : ((i : Int) == (i : Int)) = true := by simp
              have HOL := hid (show ∀ x ∈ I.p :: own I.d m, x < w4.heap.size from fun x hx => Nat.lt_of_lt_of_le (HK.out.own_lt x (by
                rcases List.mem_cons.1 hx with rfl | hx
                · simp
                · simp only [List.mem_cons]; exact .inr (.inr (.inr (.inr (List.mem_cons.1 hx)))))) hw4)
              have hms := fun (w5 : World) (hb : Below w4.heap.size (w4.alloc (.cells #[.int .i64 (i : Int), .int .u32 (rb : Int)] 111)) w5) => HM.out _ HMEM.out rfl w5 (HB5.out.trans (hb.mono hw4))
              go_wp2_with fail
              go_region_held3 (fun w' => w'.cell? ⟨I.s, 1, none⟩ = some (ptr I.p) ∧ w'.cell? ⟨w4.heap.size, 0, none⟩ = some (.int .i64 (i : Int)) ∧ w'.cell? ⟨w4.heap.size, 1, none⟩ = some (.int .u32 (rb : Int))) (first | exact ⟨c1, y0, y1⟩ | exact ⟨z1, z2, z3⟩ | go_keep)
                ((go_at_call 76; refine (hms _ (below_drewN (Below.refl _ _) _)).mono ?_; rintro e w3 ⟨rfl, k3, t3⟩; have z1 := k3.c.2.1; have hbk := t3.block w4.heap.size (by simp) (fun hm => Nat.lt_irrefl _ (HOL.out _ hm)); have z2 : w3.cell? ⟨w4.heap.size, 0, none⟩ = some (.int .i64 (i : Int)) := (World.cell?_of_block hbk).trans y0; have z3 : w3.cell? ⟨w4.heap.size, 1, none⟩ = some (.int .u32 (rb : Int)) := (World.cell?_of_block hbk).trans y1))
              have HF := hid (show HealTo w lo n m D D' I S c' i j (.returned (.tuple #[.int .i64 (j : Int), .nilIface])) w3 from HealTo.mend HMEM.out rfl (below_drewN HB5.out 1) k3 t3)
              clear k3 t3 z1 z2 z3 hbk hms
              go_wp2_with fail
              go_ret2
              exact HF.out
            · have d4 : (ra == (i : Int)) = false := by rw [beq_eq_false_iff_ne]; exact he
              have HHE := hid he
              have rr := rg_of (w' := w4.alloc (.cells #[.int .i64 ra, .int .u32 (rb : Int)] 111)) HRG.out (by
                exact ((Below.refl _ w4).alloc (Nat.le_refl _) _).block I.a (by omega)) (((Below.refl _ w4).alloc (Nat.le_refl _) _).block w2.heap.size hsr)
              have HRR := hid rr
              clear he rr
              go_wp2_with fail
              go_roundw
              case rel =>
                refine ⟨_, ⟨n2, HRR.out⟩, HB5.out, fun p ya yb hp => ?_⟩
                by_cases hpx : p = x
                · subst hpx
                  rw [HF'.out] at hp
                  cases Option.some.inj hp
                  exact .inr HHE.out
                · rcases HY2.out p (ya, yb) hp with h3 | h3
                  · refine .inl ?_
                    rw [h3, same_int, decide_eq_false hpx]
                    rfl
                  · exact .inr h3
              case measure => rw [HRR.out.left_eq]; have := ML.out; rw [HRG.out.left_eq] at this; exact this
end Go.Proofs.YtbjfgdahfpfgdaaGreatDoor.PgW

namespace Go.Proofs.YtbjfgdahfpfgdaaGreatDoor.PgP
open Go.Proofs.YtbjfgdahfpfgdaaGreatDoor.RootP Go.Proofs.YtbjfgdahfpfgdaaGreatDoor.MapsW
set_option linter.unusedVariables false
set_option maxRecDepth 100000

theorem pigeon : ∀ (S L : List Nat), S.Nodup → (∀ x ∈ S, x ∈ L) → S.length ≤ L.length := by
  intro S
  induction S with
  | nil => intro L _ _; exact Nat.zero_le _
  | cons x S ih =>
    intro L hn h
    rw [List.nodup_cons] at hn
    have hx := h x List.mem_cons_self
    have h1 := ih (L.erase x) hn.2 fun y hy => by
      have hne : y ≠ x := by rintro rfl; exact hn.1 hy
      exact (List.mem_erase_of_ne hne).2 (h y (List.mem_cons_of_mem _ hy))
    rw [List.length_erase_of_mem hx] at h1
    have := List.length_pos_of_mem hx
    simp only [List.length_cons]
    omega
theorem used_nodup (T : List Ref) (F : Int → Option Ref) (H : Nat) : (used T F H).Nodup := List.nodup_range.filter _
theorem used_length (T : List Ref) (F : Int → Option Ref) (H : Nat) : (used T F H).length ≤ 2 + T.length + cnt F := by
  have h := pigeon (used T F H) ([0, 1] ++ (T.map (·.1.toNat) ++ ((List.range 256).filter fun (p : Nat) => (F (p : Int)).isSome).map fun p => (tref F p).1.toNat)) (used_nodup T F H) fun a ha => by
    obtain ⟨_, h1 | ⟨r, hr, e⟩ | ⟨p, hp, r, hF, e⟩⟩ := mem_used.1 ha
    · refine List.mem_append.2 (.inl ?_)
      have : a = 0 ∨ a = 1 := by omega
      rcases this with rfl | rfl <;> simp
    · refine List.mem_append.2 (.inr (List.mem_append.2 (.inl (List.mem_map.2 ⟨r, hr, ?_⟩))))
      show r.1.toNat = a
      rw [e]; exact Int.toNat_natCast a
    · refine List.mem_append.2 (.inr (List.mem_append.2 (.inr (List.mem_map.2 ⟨p, List.mem_filter.2 ⟨List.mem_range.2 hp, by rw [hF]; rfl⟩, ?_⟩))))
      unfold tref
      rw [hF]
      show r.1.toNat = a
      rw [e]; exact Int.toNat_natCast a
  simp only [List.length_append, List.length_map, List.length_cons, List.length_nil] at h
  have e : ((List.range 256).filter fun (p : Nat) => (F (p : Int)).isSome).length = cnt F := by unfold cnt; rw [List.countP_eq_length_filter]
  omega
theorem frees_length (T : List Ref) (F : Int → Option Ref) (H : Nat) : H ≤ (frees T F H).length + (used T F H).length := by
  have h := pigeon (List.range H) (frees T F H ++ used T F H) List.nodup_range fun a ha => by
    have ha' := List.mem_range.1 ha
    by_cases hu : a ∈ used T F H
    · exact List.mem_append.2 (.inr hu)
    · refine List.mem_append.2 (.inl (mem_frees.2 ⟨ha', ?_, hu⟩))
      rcases Nat.lt_or_ge a 2 with h | h
      · exact absurd (mem_used.2 ⟨ha', .inl h⟩) hu
      · exact h
  simp only [List.length_append, List.length_range] at h
  omega
theorem cnt_congr {α β : Type} {F : Int → Option α} {G : Int → Option β} (h : ∀ p : Nat, p < 256 → (F (p : Int)).isSome = (G (p : Int)).isSome) : cnt F = cnt G := by
  unfold cnt
  refine List.countP_congr fun p hp => ?_
  rw [h p (List.mem_range.1 hp)]
theorem cnt_le {α : Type} {F : Int → Option α} {n : Nat} (h : ∀ p : Nat, (F (p : Int)).isSome = true → p < n) : cnt F ≤ n := by
  unfold cnt
  rw [List.countP_eq_length_filter]
  have := pigeon ((List.range 256).filter fun (p : Nat) => (F (p : Int)).isSome) (List.range n) (List.nodup_range.filter _) fun x hx => List.mem_range.2 (h x (List.mem_filter.1 hx).2)
  simpa using this
theorem cnt_le256 {α : Type} (F : Int → Option α) : cnt F ≤ 256 := by
  unfold cnt
  have := List.countP_le_length (p := fun (p : Nat) => (F (p : Int)).isSome) (l := List.range 256)
  simpa using this
theorem cnt_pos {α : Type} {F : Int → Option α} {i : Int} (h0 : 0 ≤ i) (h1 : i < 256) (h : (F i).isSome = true) : cnt F ≠ 0 := by
  unfold cnt
  have : 0 < (List.range 256).countP fun (p : Nat) => (F (p : Int)).isSome := by
    rw [List.countP_pos_iff]
    exact ⟨i.toNat, List.mem_range.2 (by omega), by rw [show ((i.toNat : Nat) : Int) = i by omega]; exact h⟩
  omega
theorem cnt_zero {α : Type} {F : Int → Option α} (hd : ∀ i, (F i).isSome = true → 0 ≤ i ∧ i < 256) (h : cnt F = 0) : F = fun _ => none := by
  funext i
  cases hF : F i with
  | none => rfl
  | some r =>
    have hs : (F i).isSome = true := by rw [hF]; rfl
    have := hd i hs
    exact absurd h (cnt_pos this.1 this.2 hs)
theorem sumsP_isSome {S : St} {H : Nat} {x : Lay} {us vs : List Nat} (L : Laid S H x us vs) (p : Nat) : (sumsP S.now x.at_ x.pg (p : Int)).isSome = (x.at_ (p : Int)).isSome := by
  have hpn : x.pg.Nodup := by rw [L.pg]; exact (keys_nodup _).filter _
  rw [sumsP_is S.now x.pg x.at_ hpn]
  split
  · rename_i h
    obtain ⟨q, hq, e⟩ := h
    obtain rfl := Int.natCast_inj.1 e
    obtain ⟨j, hj, e2⟩ := mem_get hq
    have := L.new j hj (by rw [L.ul]; exact hj)
    rw [e2] at this
    rw [this]
    rfl
  · rfl
/-- how many pages a layout has -/
theorem Fit.laid_cnt {H : Nat} {S : St} {V : Int → Option (List Nat)} {R : Nat → List Nat → Prop} {x : Lay} (h : Fit H S V R) (hN : NowOk S.now) (hx : laid S H = some x) : cnt x.at_ = cnt (view S.now V) := by
  obtain ⟨us, vs, L⟩ := laid_is h.t7 hx
  have hb := h.behind (R' := fun _ _ => True) hN hx (fun _ _ _ _ _ _ => trivial) (fun _ _ => trivial)
  refine cnt_congr fun p _ => ?_
  rw [← sumsP_isSome L p]
  cases hv : view S.now V (p : Int) with
  | none => have := hb.off _ hv; rw [show sumsP S.now x.at_ x.pg (p : Int) = none from this]; rfl
  | some l =>
    obtain ⟨a, h1, _⟩ := hb.pg _ l hv
    rw [show sumsP S.now x.at_ x.pg (p : Int) = _ from h1]; rfl
theorem tcnt_le (T : List Ref) : tcnt T ≤ T.length := List.countP_le_length
/-- where there is room -/
theorem Fit.room {H : Nat} {S : St} {V : Int → Option (List Nat)} {R : Nat → List Nat → Prop} (h : Fit H S V R) (hN : NowOk S.now) {q : Nat} (h1 : cnt V ≤ q) (h2 : cnt (view S.now V) ≤ q) (hq : 2 * q + 18 ≤ H) : ∃ x, laid S H = some x ∧ fits x H = true := by
  have hat : cnt S.at_ = cnt V := cnt_congr fun p _ => by
    cases hv : V (p : Int) with
    | none => rw [h.off _ hv]; rfl
    | some l => obtain ⟨a, h3, _⟩ := h.pg _ l hv; rw [h3]; rfl
  have hu := used_length S.tabs S.at_ H
  have hf := frees_length S.tabs S.at_ H
  have h7 := h.t7
  have hneed : ((keys S.now).filter (needs S.now)).length ≤ cnt (view S.now V) := by
    unfold keys cnt
    rw [List.filter_filter, List.countP_eq_length_filter]
    rw [← List.countP_eq_length_filter, ← List.countP_eq_length_filter]
    refine List.countP_mono_left fun p hp hc => ?_
    rw [Bool.and_eq_true] at hc
    have hn := needs_true hc.1
    unfold view
    cases hN' : S.now (p : Int) with
    | none => rw [hN'] at hn; exact absurd rfl hn
    | some l =>
      rw [hN'] at hn
      cases l with
      | nil => exact absurd rfl hn
      | cons y l => rfl
  have htl : ∀ F : Int → Option Ref, ((touched (keys S.now)).filter (has F)).length ≤ 7 := fun F => by
    refine Nat.le_trans (List.length_filter_le _ _) ?_
    unfold touched
    refine Nat.le_trans (List.length_filter_le _ _) ?_
    simp
  have hx : ∃ x, laid S H = some x := by
    unfold laid laid0
    rcases layP_all S.now S.tabs S.at_ (frees S.tabs S.at_ H) (keys S.now) (keys_nodup _) with ⟨y, hy, hP⟩ | ⟨hy, hlt⟩
    · rw [show start S H = ⟨S.tabs, S.at_, [], [], frees S.tabs S.at_ H⟩ from rfl, hy]
      show ∃ x, (touched (keys S.now)).foldlM layT y = some x
      obtain ⟨us, f1, f2, f3⟩ := hP.free
      have hye : y = ⟨S.tabs, y.at_, [], y.pg, y.free⟩ := by
        have h1 := hP.tabs
        have h2 := hP.nt
        cases y
        simp only at h1 h2
        subst h1; subst h2
        rfl
      rw [hye]
      rcases layT_all S.tabs y.at_ y.pg y.free (touched (keys S.now)) (touched_nodup _) (fun t ht => by have := (mem_touched.1 ht).1; omega) with ⟨z, hz, hT⟩ | ⟨hz, hlt⟩
      · exact ⟨z, hz⟩
      · exfalso
        have := htl y.at_
        have e := congrArg List.length f1
        rw [List.length_append] at e
        have hpl : y.pg.length ≤ q := by rw [hP.pg]; omega
        omega
    · exfalso; omega
  obtain ⟨x, hx⟩ := hx
  refine ⟨x, hx, ?_⟩
  have hc := h.laid_cnt hN hx
  obtain ⟨us, vs, L⟩ := laid_is h.t7 hx
  have ht := tcnt_le x.tabs
  have hl := L.len
  unfold fits
  rw [decide_eq_true_eq]
  omega
end Go.Proofs.YtbjfgdahfpfgdaaGreatDoor.PgP

namespace Go.Proofs.YtbjfgdahfpfgdaaGreatDoor.PgW
open Go Go.RowKit Go.Maps Go.Proofs.YtbjfgdahfpfgdaaGreatDoor.Mem Go.Proofs.YtbjfgdahfpfgdaaGreatDoor.MapsW Go.Proofs.YtbjfgdahfpfgdaaGreatDoor.SeeW Go.Proofs.YtbjfgdahfpfgdaaGreatDoor.DevG Go.Proofs.YtbjfgdahfpfgdaaGreatDoor.PairG Go.Proofs.YtbjfgdahfpfgdaaGreatDoor.RefsW Go.Proofs.YtbjfgdahfpfgdaaGreatDoor.PgP
set_option linter.unusedVariables false
set_option maxRecDepth 100000

theorem pis_w (lo d n : Nat) (m : Mp) (D : Dv) (p h c : Nat) (i : Int) (w : World) (k : PR w lo d n m D p h c) (hi : Fits i) :
    Calls Tryz.prog 98 #[ptr p, .int .i64 i] w fun e w' => e = .returned (.bool (decide (0 ≤ i ∧ i < h))) ∧ w = w' := by
  obtain ⟨c0, c1, c2, c3, f3⟩ := k.c
  clear k
  by_cases h0 : 0 ≤ i
  · by_cases h1 : i < h
    · go_enter Tryz.func98, Tryz.ntmps98
      go_wp2
      go_ret
      exact ⟨ret_bool (by simp [h0, h1]), rfl⟩
    · have h2 : decide (i < (h : Int)) = false := decide_eq_false h1
      go_enter Tryz.func98, Tryz.ntmps98
      go_wp2
      go_ret
      exact ⟨ret_bool (by simp), rfl⟩
  · have h2 : decide ((0 : Int) ≤ i) = false := decide_eq_false h0
    go_enter Tryz.func98, Tryz.ntmps98
    go_wp2
    go_ret
    exact ⟨ret_bool (by simp), rfl⟩
/-- a pair is written: what is told, what the device is then -/
def wstage (D : Dv) (h i : Nat) (l : List Nat) : Nat → Dv
  | 0 => D
  | 1 => DevG.Dv.wrote D i l
  | _ => DevG.Dv.wrote (DevG.Dv.wrote D i l) (i + h) l
def wpair (D : Dv) (h i : Nat) (l : List Nat) : Option Nat × Dv :=
  if D.tick.down then (some 5, D.tick) else if (DevG.Dv.wrote D i l).tick.down then (some 5, (DevG.Dv.wrote D i l).tick) else (none, wstage D h i l 2)
theorem wstage_in (D : Dv) (h i : Nat) (l : List Nat) (k : Nat) : (wstage D h i l k).np ≤ D.np + 2 ∧ (wstage D h i l k).calls ≤ D.calls + 2 ∧ (wstage D h i l k).blocks = D.blocks ∧ (wstage D h i l k).fuse ≤ D.fuse := by
  have a1 := DevG.Dv.wrote_np D i l
  have a2 := DevG.Dv.wrote_np (DevG.Dv.wrote D i l) (i + h) l
  obtain ⟨b1, b2, b3, b4⟩ := a1
  obtain ⟨c1, c2, c3, c4⟩ := a2
  match k with
  | 0 => exact ⟨by simp [wstage], by simp [wstage], rfl, Nat.le_refl _⟩
  | 1 => simp only [wstage]; omega
  | k + 2 => simp only [wstage]; omega
def WriteTo (bs : List Addr) (w : World) (lo d n : Nat) (m : Mp) (p h c i : Nat) (l : List Nat) (r : Option Nat × Dv) (e : Ending) (w' : World) : Prop :=
  (match r.1 with
    | none => e = .returned (.tuple #[PairG.Rf (i : Int) (Crc.sum l), .nilIface])
    | some q => ∃ a, bs[q]? = some a ∧ e = .returned (.tuple #[PairG.Rf 0 0, ev a])) ∧ PR w' lo d (n + 2) m r.2 p h c ∧ Turn (own d m) w w'
set_option maxHeartbeats 3200000 in
theorem pwrite_w (bs : List Addr) (lo d n : Nat) (m : Mp) (D : Dv) (p h c : Nat) (i : Nat) (a : Option Addr) (cap : Nat) (l : List Nat) (w : World) (k : PR w lo d n m D p h c) (hB : Ev w lo bs five) (hi : i < h) (hl : Nums .u8 w a 256 cap l) (hb : Crc.Bytes l) (hn : n < 850000) (hc : D.calls < 900000) (hz : D.fuse ≤ 1000000) :
    Calls Tryz.prog 90 #[ptr p, .int .i64 i, .slice a 256 cap] w (WriteTo bs w lo d n m p h c i l (wpair D h i l)) := by
  have hhf := k.half
  have hmo := k.most
  have hf : Fits (i : Int) := fits_nat (by omega)
  have hd : decide (0 ≤ (i : Int) ∧ (i : Int) < h) = true := by rw [decide_eq_true_eq]; omega
  have bx := (Below.refl w.heap.size w).alloc (Nat.le_refl _) (.cells #[.int .i64 0, .int .u32 0] 111)
  have kx := k.below bx
  obtain ⟨c0, c1, c2, c3, f3⟩ := kx.c
  have f1 : IntKind.i64.wrap ((i : Int) + (h : Int)) = ((i + h : Nat) : Int) := by rw [IntKind.wrap_i64]; omega
  have hpi := pis_w lo d n m D p h c i _ kx hf
  rw [hd] at hpi
  have HI := hid (wstage_in D h i l)
  have hW : wpair D h i l = if D.tick.down then (some 5, D.tick) else if (wstage D h i l 1).tick.down then (some 5, (wstage D h i l 1).tick) else (none, wstage D h i l 2) := rfl
  have HW := hid hW
  clear hW
  go_enter Tryz.func90, Tryz.ntmps90
  go_wp2_with fail
  refine hpi.mono ?_
  rintro e w' ⟨rfl, rfl⟩
  go_wp2_with fail
  have b1 := kx.below ((Below.refl _ _).alloc (Nat.le_refl _) (.cells #[.int .i64 i, .int .i64 ((i : Int) + (h : Int))] 3))
  have r0 : (w.alloc (.cells #[.int .i64 0, .int .u32 0] 111)).heap[w.heap.size]? = some (.cells #[.int .i64 0, .int .u32 0] 111) := alloc_at rfl _
  have r1 := alloc_old (o := .cells #[.int .i64 i, .int .i64 ((i : Int) + (h : Int))] 3) r0
  have r2 : ((w.alloc (.cells #[.int .i64 0, .int .u32 0] 111)).alloc (.cells #[.int .i64 i, .int .i64 ((i : Int) + (h : Int))] 3)).heap[w.heap.size + 1]? = some (.cells #[.int .i64 i, .int .i64 ((i : Int) + (h : Int))] 3) := alloc_at (by simp) _
  have bb : Below w.heap.size w ((w.alloc (.cells #[.int .i64 0, .int .u32 0] 111)).alloc (.cells #[.int .i64 i, .int .i64 ((i : Int) + (h : Int))] 3)) := bx.alloc (by simp) _
  have hl2 := hl.below bb
  have hB2 := hB.below bb
  have sz : ((w.alloc (.cells #[.int .i64 0, .int .u32 0] 111)).alloc (.cells #[.int .i64 i, .int .i64 ((i : Int) + (h : Int))] 3)).heap.size = w.heap.size + 2 := by simp
  have hdw := k.dev.dlt
  have hpw := k.plt
  have hlo := k.dev.own_lo
  generalize (w.alloc (.cells #[.int .i64 0, .int .u32 0] 111)).alloc (.cells #[.int .i64 i, .int .i64 ((i : Int) + (h : Int))] 3) = wS at *
  have HB := hid bb
  have HZ := hid sz
  clear kx bx c0 c1 c2 c3 f3 r0 hl k hB bb sz hpi
  have h0s : wstage D h i l 0 = D := rfl
  have hs1 : DevG.Dv.wrote (wstage D h i l 0) i l = wstage D h i l 1 := rfl
  have hs2 : DevG.Dv.wrote (wstage D h i l 1) (i + h) l = wstage D h i l 2 := rfl
  have HS1 := hid hs1
  have HS2 := hid hs2
  clear hs1 hs2
  generalize hst : wstage D h i l = st at *
  generalize hwp : wpair D h i l = R at *
  clear hst hwp
  rw [← h0s] at b1
  go_loopw [27] (fun jv wr => ∃ j : Nat, j ≤ 2 ∧ jv = .int .i64 j ∧ PR wr lo d (n + j) m (st j) p h c ∧ Turn (own d m) wS wr ∧ Nums .u8 wr a 256 cap l ∧ Ev wr lo bs five ∧ (∀ q, q < j → (st q).tick.down = false) ∧ wr.heap[w.heap.size]? = some (.cells #[.int .i64 0, .int .u32 0] 111) ∧ wr.heap[w.heap.size + 1]? = some (.cells #[.int .i64 i, .int .i64 ((i : Int) + (h : Int))] 3)) (fun jv _ => 2 - (RowKit.intOf jv).toNat)
  case atStart => exact ⟨0, by omega, rfl, b1, Turn.refl _ _, hl2, hB2, fun q hq => by omega, r1, r2⟩
  case round =>
    clear b1 r1 r2 hl2 hB2
    obtain ⟨j, hj, rfl, kr, tr, hl, hB, hup, r1, r2⟩ := hrel
    obtain ⟨c0, c1, c2, c3, f3⟩ := kr.c
    obtain ⟨g1, g2, g3, g4⟩ := HI.out j
    rw [g3] at c1
    have HUP := hid hup
    have hx1 : wr.cell? ⟨w.heap.size, 0, none⟩ = some (.int .i64 0) ∧ wr.cell? ⟨w.heap.size, 1, none⟩ = some (.int .u32 0) ∧ wr.frozen? ⟨w.heap.size, 0, none⟩ = false ∧ wr.frozen? ⟨w.heap.size, 1, none⟩ = false := by
      simp [World.cell?, World.frozen?, r1]
    have hfar : ∀ (w3 : World) (n' : Nat) (D' : Dv) (k3 : PR w3 lo d n' m D' p h c) (hr : w3.heap[w.heap.size]? = some (.cells #[.int .i64 0, .int .u32 0] 111)) (u v : Value), PR ((w3.setCell ⟨w.heap.size, 0, none⟩ u).setCell ⟨w.heap.size, 1, none⟩ v) lo d n' m D' p h c := by
      intro w3 n' D' k3 hr u v
      have ht : Turn [w.heap.size] w3 ((w3.setCell ⟨w.heap.size, 0, none⟩ u).setCell ⟨w.heap.size, 1, none⟩ v) := (Turn.setCell w3 _ _ _ (by simp)).then (Turn.setCell _ _ _ _ (by simp))
      refine k3.away ht (fun x hx => ?_) (fun x hx => ?_)
      · rw [List.mem_singleton.1 hx]
        intro hm
        rcases List.mem_cons.1 hm with e | hm
        · omega
        · exact k3.dev.out hr (by omega) hm
      · rw [List.mem_singleton.1 hx]
        exact .inr ⟨.int .i64 0, by simp [World.cell?, hr], fun z e => by cases e⟩
    have hfarT : ∀ (w3 : World) (u v : Value), Turn (own d m) wS w3 → Turn (own d m) w ((w3.setCell ⟨w.heap.size, 0, none⟩ u).setCell ⟨w.heap.size, 1, none⟩ v) := fun w3 u v t =>
      ((Turn.of_below HB.out).then t).trans ((Turn.setCell (S := [w.heap.size]) w3 _ _ _ (by simp)).then (Turn.setCell _ _ _ _ (by simp))) (fun x hx => by rw [List.mem_singleton.1 hx]; exact .inr (Nat.le_refl _))
    have HFAR := hid hfar
    have HFT := hid hfarT
    clear hfar hfarT hup
    by_cases hlt : j < 2
    · have hcell : ∃ q : Nat, wr.cell? ⟨w.heap.size + 1, j, none⟩ = some (.int .i64 (q : Int)) ∧ q < D.blocks ∧ DevG.Dv.wrote (st j) q l = st (j + 1) := by
        rcases (by omega : j = 0 ∨ j = 1) with rfl | rfl
        · exact ⟨i, by simp [World.cell?, r2], by omega, HS1.out⟩
        · exact ⟨i + h, by simp [World.cell?, r2], by omega, HS2.out⟩
      obtain ⟨q, hq, hqb, hqe⟩ := hcell
      by_cases hdn : (st j).tick.down = true
      · have hw := write_no bs d lo (n + j) m (st j) q a 256 cap wr kr.dev hB (by omega) (fits_nat (by omega)) 5 _ (by decide) rfl (.inl ⟨hdn, rfl⟩)
        have hR : R = (some 5, (st j).tick) := by
          rw [HW.out]
          rcases (by omega : j = 0 ∨ j = 1) with rfl | rfl
          · rw [h0s] at hdn ⊢; rw [if_pos hdn]
          · have h1 := HUP.out 0 (by omega)
            rw [h0s] at h1
            rw [if_neg (by rw [h1]; simp), if_pos hdn]
        have HR := hid hR
        have HTR := hid tr
        have HKR := hid kr
        obtain ⟨x1, x2, x3, x4⟩ := hx1
        clear hdn hR hB hl tr kr c1 c2 c3 f3 hqe
        go_wp2_with fail
        refine hw.mono ?_
        rintro e w3 ⟨⟨ax, hax, rfl⟩, h3, t3⟩
        have s1 := t3.cells r1 (by simp; omega)
        have k3 := (HKR.out.turn h3 (own1 t3) ((st j).tick_same.1)).mono (n' := n + 2) (by omega) (Nat.le_refl _)
        have hx3 : w3.cell? ⟨w.heap.size, 0, none⟩ = some (.int .i64 0) ∧ w3.cell? ⟨w.heap.size, 1, none⟩ = some (.int .u32 0) ∧ w3.frozen? ⟨w.heap.size, 0, none⟩ = false ∧ w3.frozen? ⟨w.heap.size, 1, none⟩ = false := by
          simp [World.cell?, World.frozen?, s1]
        obtain ⟨y1, y2, y3, y4⟩ := hx3
        have HP := hid (HFAR.out w3 _ _ k3 s1)
        have HT3 := hid (HTR.out.then (own1 t3))
        clear k3 h3 t3 x1 x2 x3 x4 s1 r1 r2 hq c0
        go_wp2_with fail
        refine bodyPost_ret (v := .tuple #[PairG.Rf 0 0, ev ax]) (by simp [results, Tryz.results90, go_sem, y1, y2]) rfl ?_
        rw [HR.out]
        exact ⟨⟨ax, hax, rfl⟩, HP.out _ _, HFT.out _ _ _ HT3.out⟩
      · have hdn' : (st j).tick.down = false := by simpa using hdn
        have hw := write_ok d lo (n + j) m (st j) q a cap l wr kr.dev (by omega) (by omega) hl (by omega) (by omega) (by omega) hdn'
        have HUQ := hid (show ∀ q, q < j + 1 → (st q).tick.down = false from fun q hq => (Nat.lt_or_ge q j).elim (fun h => HUP.out q h) (fun h => by rw [show q = j by omega]; exact hdn'))
        have hqe' : (st j).tick.put q l = st (j + 1) := hqe
        rw [hqe'] at hw
        have g3' := (HI.out (j + 1)).2.2.1
        have HTR := hid tr
        have HKR := hid kr
        have HBR := hid hB
        have HLR := hid hl
        clear hdn hdn' hB hl tr kr c1 c2 c3 f3 hqe hqe' hx1
        go_wp2_with fail
        refine hw.mono ?_
        rintro e w3 ⟨rfl, h3, t3⟩
        have k3 := HKR.out.turn h3 t3 (by rw [g3, g3'])
        have hl3 := nums_turn HLR.out t3 (At.nou8 HKR.out.dev)
        have hB3 := HBR.out.turn t3 hlo
        have s1 := t3.cells r1 (HKR.out.dev.out r1 (by omega))
        have s2 := t3.cells r2 (HKR.out.dev.out r2 (by omega))
        have HQ := hid (And.intro k3 (And.intro hl3 (And.intro hB3 (And.intro s1 s2))))
        have HT3 := hid (HTR.out.then t3)
        clear k3 hl3 hB3 s1 s2 h3 t3 c0 hq r1 r2
        go_wp2_with fail
        go_roundw
        case rel =>
          obtain ⟨q1, q2, q3, q4, q5⟩ := HQ.out
          exact ⟨j + 1, by omega, by go_num, q1, HT3.out, q2, q3, HUQ.out, q4, q5⟩
        case measure => simp [RowKit.intOf]; omega
    · obtain rfl : j = 2 := by omega
      have hR : R = (none, st 2) := by
        rw [HW.out]
        have h1 := HUP.out 0 (by omega)
        have h2 := HUP.out 1 (by omega)
        rw [h0s] at h1
        rw [if_neg (by rw [h1]; simp), if_neg (by rw [h2]; simp)]
      have HR := hid hR
      have HP := hid (HFAR.out wr _ _ kr r1)
      have HT3 := hid tr
      obtain ⟨x1, x2, x3, x4⟩ := hx1
      clear hR kr tr c0 c1 c2 c3 f3 r1 r2 hB
      go_wp2_with fail
      refine (CrcW.sum_w a 256 cap l _ hl hb).mono ?_
      rintro e w3 ⟨rfl, hw3⟩
      subst hw3
      generalize hs : Crc.sum l = s at *
      have HS := hid hs
      clear hs hl
      go_wp2
      refine bodyPost_ret (v := .tuple #[PairG.Rf i s, .nilIface]) (by simp [results, Tryz.results90, go_sem, x1, x2]) rfl ?_
      rw [HR.out]
      exact ⟨by rw [HS.out], HP.out _ _, HFT.out _ _ _ HT3.out⟩
end Go.Proofs.YtbjfgdahfpfgdaaGreatDoor.PgW

namespace Go.Proofs.YtbjfgdahfpfgdaaGreatDoor.PgW
open Go Go.RowKit Go.Maps Go.Proofs.YtbjfgdahfpfgdaaGreatDoor.Mem Go.Proofs.YtbjfgdahfpfgdaaGreatDoor.MapsW Go.Proofs.YtbjfgdahfpfgdaaGreatDoor.SeeW Go.Proofs.YtbjfgdahfpfgdaaGreatDoor.DevG Go.Proofs.YtbjfgdahfpfgdaaGreatDoor.PairG Go.Proofs.YtbjfgdahfpfgdaaGreatDoor.RefsW Go.Proofs.YtbjfgdahfpfgdaaGreatDoor.PgP
set_option linter.unusedVariables false
set_option maxRecDepth 100000

theorem now_turn0 {S : List Nat} {w w' : World} {base b n k : Nat} {F : Int → Option (List Nat)} (h : NowMap w base b n F k) (ht : Turn S w w') (hb : b ∉ S) (hS : ∀ x ∈ S, NoCells w x ∨ ∃ v, w.cell? ⟨x, 0, none⟩ = some v ∧ ∀ z, v ≠ .int .u8 z) : NowMap w' base b n F k := by
  obtain ⟨es, ck, hk⟩ := h.block
  refine h.keep (ht.block b (Array.getElem?_eq_some_iff.1 hk).1 hb) fun g _ hc hz => ?_
  obtain ⟨c, t, f, hc⟩ := hc
  obtain ⟨z, hz⟩ := hz
  refine ht.block g (Array.getElem?_eq_some_iff.1 hc).1 fun hm => ?_
  rcases hS g hm with h1 | ⟨v, h1, h2⟩
  · exact h1 _ _ _ hc
  · rw [h1] at hz
    exact h2 z (Option.some.inj hz)
/-- what writes elsewhere, into maps or into blocks whose first cell is no byte, leaves the store -/
theorem SAt.away {L : List Nat} {w w' : World} {lo n : Nat} {m : Mp} {D : Dv} {I : Si} {S : St} (k : SAt w lo n m D I S) (ht : Turn L w w') (hS : ∀ x ∈ L, x ∉ I.own m ∧ x ≠ I.tb ∧ ∀ b o, I.ra = some ⟨b, o, none⟩ → x ≠ b)
    (hb : ∀ x ∈ L, NoCells w x ∨ ∃ v, w.cell? ⟨x, 0, none⟩ = some v ∧ ∀ z, v ≠ .int .u8 z) : SAt w' lo n m D I S := by
  obtain ⟨k1, h1⟩ := k.at_
  obtain ⟨k2, h2⟩ := k.now
  have out : ∀ y, y ∈ I.own m → y ∉ L := fun y hy hm => (hS y hm).1 hy
  refine ⟨k.pr.away ht (fun x hx hm => (hS x hx).1 ?_) hb, ht.cells k.cells (out _ (by simp)), refs_turn k.refs ht fun b o e hm => (hS b hm).2.2 b o e rfl, refs_turn k.tabs ht fun b o e hm => ?_, ⟨k1, ref_turn h1 ht (out _ (by simp))⟩, ⟨k2, now_turn0 h2 ht (out _ (by simp)) hb⟩, k.ao, k.sx, k.ax, k.ox, fun b off e => ⟨Nat.lt_of_lt_of_le (k.rx b off e).1 ht.size, (k.rx b off e).2⟩, k.tx, k.slo⟩
  · rcases List.mem_cons.1 hm with e | hm
    · simp [e]
    · simp only [List.mem_cons]; exact .inr (.inr (.inr (.inr (List.mem_cons.1 hm))))
  · cases e
    exact (hS _ hm).2.1 rfl
/-- how all is to lie, but for what is free -/
structure LW (w : World) (base n X tb tc a : Nat) (vn vp vf : Value) (x : Lay) : Prop where
  cells : w.heap[X]? = some (.cells (lcells tb tc a vn vp vf) 100)
  tabs : OwnRefs w base (.slice (some ⟨tb, 0, none⟩) 7 tc) 7 x.tabs
  at_ : ∃ k, RefMap w a n x.at_ k
  nt : w.ownsRow base 3 1 vn x.nt.length (nums .i64 x.nt)
  pg : w.ownsRow base 3 1 vp x.pg.length (nums .i64 x.pg)
  b0 : base ≤ X ∧ base ≤ a
  nd : X ≠ a ∧ X ≠ tb ∧ a ≠ tb ∧ a ∉ blk vn ∧ a ∉ blk vp ∧ tb ∉ blk vn ∧ tb ∉ blk vp
  lt : X < w.heap.size
theorem LAt.lw {w : World} {base n X tb tc a : Nat} {vn vp vf : Value} {x : Lay} (h : LAt w base n X tb tc a vn vp vf x) : LW w base n X tb tc a vn vp vf x := by
  have hnd := h.nd
  simp only [List.nodup_cons, List.mem_cons, List.mem_append, not_or] at hnd
  obtain ⟨⟨x1, x2, x3, x4, x5⟩, ⟨a1, a2, a3, a4⟩, ⟨t1, t2, t3⟩, _⟩ := hnd
  exact ⟨h.cells, h.tabs, h.at_, h.nt, h.pg, h.b0, ⟨x1, x2, a1, a2, a3, t1, t2⟩, h.lt X (by simp)⟩
theorem LW.c {w : World} {base n X tb tc a : Nat} {vn vp vf : Value} {x : Lay} (h : LW w base n X tb tc a vn vp vf x) :
    w.cell? ⟨X, 0, none⟩ = some (.slice (some ⟨tb, 0, none⟩) 7 tc) ∧ w.cell? ⟨X, 1, none⟩ = some (.map (some a)) ∧ w.cell? ⟨X, 2, none⟩ = some vn ∧ w.cell? ⟨X, 3, none⟩ = some vp ∧ w.cell? ⟨X, 4, none⟩ = some vf ∧ ∀ j, w.frozen? ⟨X, j, none⟩ = false := by
  have := h.cells
  simp [World.cell?, World.frozen?, this]
theorem row_turn {L : List Nat} {w w' : World} {base : Nat} {e : TypeId} {size : Nat} {v : Value} {n : Nat} {xs : List Value} (h : w.ownsRow base e size v n xs) (ht : Turn L w w') (hS : ∀ x ∈ L, x ∉ blk v) : w'.ownsRow base e size v n xs :=
  row_same h fun g hg => ht.block g (h.lt g hg).2 fun hm => hS g hm (by unfold blk; rw [hg]; simp)
theorem own_tab {w : World} {base tb tc : Nat} {T : List Ref} (h : OwnRefs w base (.slice (some ⟨tb, 0, none⟩) 7 tc) 7 T) : base ≤ tb ∧ tb < w.heap.size := h.lt tb rfl
theorem blk_ge {w : World} {base : Nat} {e : TypeId} {size : Nat} {v : Value} {n : Nat} {xs : List Value} (h : w.ownsRow base e size v n xs) : ∀ b ∈ blk v, base ≤ b ∧ b < w.heap.size := by
  intro b hb
  refine h.lt b ?_
  unfold blk at hb
  cases hv : v.ownBlock with
  | none => rw [hv] at hb; simp at hb
  | some q => rw [hv] at hb; simp at hb; rw [hb]
theorem LW.ge {w : World} {base n X tb tc a : Nat} {vn vp vf : Value} {x : Lay} (h : LW w base n X tb tc a vn vp vf x) : ∀ y ∈ X :: a :: tb :: (blk vn ++ blk vp), base ≤ y := by
  intro y hy
  simp only [List.mem_cons, List.mem_append] at hy
  rcases hy with rfl | rfl | rfl | hy | hy
  · exact h.b0.1
  · exact h.b0.2
  · exact (own_tab h.tabs).1
  · exact (blk_ge h.nt y hy).1
  · exact (blk_ge h.pg y hy).1
/-- what lies below, or is new, may turn -/
theorem LW.turn {L : List Nat} {w w' : World} {base n X tb tc a : Nat} {vn vp vf : Value} {x : Lay} (h : LW w base n X tb tc a vn vp vf x) (ht : Turn L w w') (hS : ∀ y ∈ L, y < base) : LW w' base n X tb tc a vn vp vf x := by
  obtain ⟨k, hk⟩ := h.at_
  refine ⟨ht.cells h.cells fun hm => ?_, row_turn h.tabs ht fun y hy hm => ?_, ⟨k, ref_turn hk ht fun hm => ?_⟩, row_turn h.nt ht fun y hy hm => ?_, row_turn h.pg ht fun y hy hm => ?_, h.b0, h.nd, Nat.lt_of_lt_of_le h.lt ht.size⟩
  · have := hS _ hm; have := h.b0; omega
  · have := hS _ hy; have := blk_ge h.tabs y hm; omega
  · have := hS _ hm; have := h.b0; omega
  · have := hS _ hy; have := blk_ge h.nt y hm; omega
  · have := hS _ hy; have := blk_ge h.pg y hm; omega
theorem LW.turn' {L : List Nat} {w w' : World} {base n X tb tc a : Nat} {vn vp vf : Value} {x : Lay} (h : LW w base n X tb tc a vn vp vf x) (ht : Turn L w w') (hS : ∀ y ∈ L, y ∉ X :: a :: tb :: (blk vn ++ blk vp)) : LW w' base n X tb tc a vn vp vf x := by
  obtain ⟨k, hk⟩ := h.at_
  refine ⟨ht.cells h.cells fun hm => hS _ hm (by simp), row_turn h.tabs ht fun y hy hm => hS y hy (by rw [blk_slice] at hm; rw [List.mem_singleton.1 hm]; simp), ⟨k, ref_turn hk ht fun hm => hS _ hm (by simp)⟩, row_turn h.nt ht fun y hy hm => hS y hy (by simp [hm]), row_turn h.pg ht fun y hy hm => hS y hy (by simp [hm]), h.b0, h.nd, Nat.lt_of_lt_of_le h.lt ht.size⟩
theorem LW.below {w w' : World} {base n X tb tc a : Nat} {vn vp vf : Value} {x : Lay} (h : LW w base n X tb tc a vn vp vf x) (hb : Below w.heap.size w w') : LW w' base n X tb tc a vn vp vf x :=
  h.turn (L := []) (Turn.of_below hb) fun y hy => by cases hy
theorem LW.mono {w : World} {base n n' X tb tc a : Nat} {vn vp vf : Value} {x : Lay} (h : LW w base n X tb tc a vn vp vf x) (hn : n ≤ n') : LW w base n' X tb tc a vn vp vf x := by
  obtain ⟨k, hk⟩ := h.at_
  exact ⟨h.cells, h.tabs, ⟨k, hk.mono hn⟩, h.nt, h.pg, h.b0, h.nd, h.lt⟩
theorem LW.setAt {w w' : World} {base n n' X tb tc a k' : Nat} {vn vp vf : Value} {x : Lay} {F : Int → Option Ref} (h : LW w base n X tb tc a vn vp vf x) (hr : RefMap w' a n' F k') (hg : w.grownBy w' (some a)) : LW w' base n' X tb tc a vn vp vf { x with at_ := F } := by
  obtain ⟨x1, x2, a1, a2, a3, t1, t2⟩ := h.nd
  exact ⟨(hg.block X h.lt (fun e => x1 (Option.some.inj e))).trans h.cells, row_grown h.tabs hg (by rw [blk_slice]; simpa using a1), ⟨k', hr⟩, row_grown h.nt hg a2, row_grown h.pg hg a3, h.b0, h.nd, Nat.lt_of_lt_of_le h.lt hg.size⟩
theorem LW.setTab {w : World} {base n X tb tc a : Nat} {vn vp vf : Value} {x : Lay} (h : LW w base n X tb tc a vn vp vf x) (t : Nat) (r : Ref) :
    LW ((w.setCell ⟨tb, t * 2, none⟩ (.int .i64 r.1)).setCell ⟨tb, t * 2 + 1, none⟩ (.int .u32 (r.2 : Int))) base n X tb tc a vn vp vf { x with tabs := x.tabs.set t r } := by
  obtain ⟨x1, x2, a1, a2, a3, t1, t2⟩ := h.nd
  obtain ⟨k, hk⟩ := h.at_
  have hg : w.grownBy ((w.setCell ⟨tb, t * 2, none⟩ (.int .i64 r.1)).setCell ⟨tb, t * 2 + 1, none⟩ (.int .u32 (r.2 : Int))) (some tb) := (grown_set w tb (t * 2) _).trans (grown_set _ tb (t * 2 + 1) _)
  exact ⟨(hg.block X h.lt (fun e => x2 (Option.some.inj e))).trans h.cells, own_ref h.tabs t r, ⟨k, ref_grown hk hg a1⟩, row_grown h.nt hg t1, row_grown h.pg hg t2, h.b0, h.nd, Nat.lt_of_lt_of_le h.lt hg.size⟩
end Go.Proofs.YtbjfgdahfpfgdaaGreatDoor.PgW

namespace Go.Proofs.YtbjfgdahfpfgdaaGreatDoor.PgW
open Go Go.RowKit Go.Maps Go.Proofs.YtbjfgdahfpfgdaaGreatDoor.Mem Go.Proofs.YtbjfgdahfpfgdaaGreatDoor.MapsW Go.Proofs.YtbjfgdahfpfgdaaGreatDoor.SeeW Go.Proofs.YtbjfgdahfpfgdaaGreatDoor.DevG Go.Proofs.YtbjfgdahfpfgdaaGreatDoor.PairG Go.Proofs.YtbjfgdahfpfgdaaGreatDoor.RefsW Go.Proofs.YtbjfgdahfpfgdaaGreatDoor.PgP
set_option linter.unusedVariables false
set_option maxRecDepth 100000

/-- pairs written one behind the other -/
def wall (D : Dv) (h : Nat) : List (Nat × List Nat) → Option Nat × Dv
  | [] => (none, D)
  | iw :: ws => match wpair D h iw.1 iw.2 with
    | (none, D') => wall D' h ws
    | (some q, D') => (some q, D')
theorem wall_append (h : Nat) : ∀ (xs ys : List (Nat × List Nat)) (D : Dv), wall D h (xs ++ ys) = match wall D h xs with | (none, D') => wall D' h ys | (some q, D') => (some q, D')
  | [], ys, D => rfl
  | a :: xs, ys, D => by
    simp only [List.cons_append, wall]
    rcases hw : wpair D h a.1 a.2 with ⟨_ | q, D'⟩
    · exact wall_append h xs ys D'
    · rfl
theorem wall_snoc {D D' : Dv} {h : Nat} {xs : List (Nat × List Nat)} (i : Nat) (l : List Nat) (ha : wall D h xs = (none, D')) : wall D h (xs ++ [(i, l)]) = wpair D' h i l := by
  rw [wall_append, ha]
  simp only [wall]
  rcases wpair D' h i l with ⟨_ | q, D2⟩ <;> rfl
theorem wall_fail {D D' : Dv} {h q : Nat} {xs ys : List (Nat × List Nat)} (ha : wall D h xs = (some q, D')) : wall D h (xs ++ ys) = (some q, D') := by
  rw [wall_append, ha]
theorem wpair_in (D : Dv) (h i : Nat) (l : List Nat) : (wpair D h i l).2.np ≤ D.np + 2 ∧ (wpair D h i l).2.calls ≤ D.calls + 2 ∧ (wpair D h i l).2.blocks = D.blocks ∧ (wpair D h i l).2.fuse ≤ D.fuse := by
  unfold wpair
  split
  · have h := D.tick_same
    exact ⟨by simp [h.2.2.2.2.2.2.1], by simp [h.2.2.2.2.2.2.2.2.1], by simp [h.1], by simp [h.2.2.2.2.2.2.2.2.2]⟩
  · split
    · have h1 := DevG.Dv.wrote_np D i l
      have h := (DevG.Dv.wrote D i l).tick_same
      refine ⟨by simp only [h.2.2.2.2.2.2.1]; omega, by simp only [h.2.2.2.2.2.2.2.2.1]; omega, by simp only [h.1]; exact h1.2.2.1, ?_⟩
      have := h.2.2.2.2.2.2.2.2.2
      simp only
      omega
    · exact wstage_in D h i l 2
/-- all that a store's write does -/
def Dv.commit (D : Dv) (H ep : Nat) (ws : List (Nat × List Nat)) (T : List Ref) : Option Nat × Dv :=
  match wall D H ws with
  | (some q, D') => (some q, D')
  | (none, D') => match D'.flushT with
    | (some q, D2) => (some q, D2)
    | (none, D2) => D2.save (GeoW.half D.blocks) ep (RootP.enc ⟨ep, T⟩)
theorem sumP_fst (N : Int → Option (List Nat)) (F : Int → Option Ref) (p q : Nat) : (tref (sumP N F p) q).1 = (tref F q).1 := by
  unfold sumP tref upd
  by_cases h : (q : Int) = p
  · rw [if_pos h, h]; rfl
  · rw [if_neg h]
theorem sumsP_fst (N : Int → Option (List Nat)) (q : Nat) : ∀ (ps : List Nat) (F : Int → Option Ref), (tref (sumsP N F ps) q).1 = (tref F q).1
  | [], F => rfl
  | p :: ps, F => (sumsP_fst N q ps (sumP N F p)).trans (sumP_fst N F p q)
theorem sumsP_snoc (N : Int → Option (List Nat)) (F : Int → Option Ref) (ps : List Nat) (p : Nat) : sumsP N F (ps ++ [p]) = sumP N (sumsP N F ps) p := by simp [sumsP, List.foldl_append]
theorem sumT_fst (F : Int → Option Ref) (T : List Ref) (t u : Nat) : ((sumT F T t).getD u (0, 0)).1 = (T.getD u (0, 0)).1 := by
  unfold sumT
  by_cases hu : u < T.length
  · by_cases h : t = u
    · subst h
      simp [List.getD, hu]
    · simp [List.getD, List.getElem?_set_ne h]
  · simp [List.getD, hu]
theorem sumsT_fst (F : Int → Option Ref) (u : Nat) : ∀ (ts : List Nat) (T : List Ref), ((sumsT F T ts).getD u (0, 0)).1 = (T.getD u (0, 0)).1
  | [], T => rfl
  | t :: ts, T => (sumsT_fst F u ts (sumT F T t)).trans (sumT_fst F T t u)
theorem sumsT_snoc (F : Int → Option Ref) (T : List Ref) (ts : List Nat) (t : Nat) : sumsT F T (ts ++ [t]) = sumT F (sumsT F T ts) t := by simp [sumsT, List.foldl_append]
theorem sumsT_length (F : Int → Option Ref) : ∀ (ts : List Nat) (T : List Ref), (sumsT F T ts).length = T.length
  | [], T => rfl
  | t :: ts, T => by rw [show sumsT F T (t :: ts) = sumsT F (sumT F T t) ts from rfl, sumsT_length]; simp [sumT]
theorem sumP_ok {N : Int → Option (List Nat)} {F : Int → Option Ref} (hN : ∀ p : Nat, ((N (p : Int)).getD []).length ≤ 255 ∧ Crc.Bytes ((N (p : Int)).getD [])) (h : ∀ i r, F i = some r → 0 ≤ r.1 ∧ r.1 ≤ 6000 ∧ r.2 < 4294967296) (p : Nat) : ∀ i r, sumP N F p i = some r → 0 ≤ r.1 ∧ r.1 ≤ 6000 ∧ r.2 < 4294967296 := by
  intro i r hr
  unfold sumP upd at hr
  split at hr
  · cases hr
    have : Crc.sum (pblk ((N (p : Int)).getD [])) < 4294967296 := Crc.sum_lt (pblk_bytes (hN p).1 (hN p).2)
    unfold tref
    cases hF : F (p : Int) with
    | none => exact ⟨by simp, by simp, this⟩
    | some r => exact ⟨(h _ _ hF).1, (h _ _ hF).2.1, this⟩
  · exact h _ _ hr
theorem sumsP_ok {N : Int → Option (List Nat)} (hN : ∀ p : Nat, ((N (p : Int)).getD []).length ≤ 255 ∧ Crc.Bytes ((N (p : Int)).getD [])) : ∀ (ps : List Nat) {F : Int → Option Ref} (h : ∀ i r, F i = some r → 0 ≤ r.1 ∧ r.1 ≤ 6000 ∧ r.2 < 4294967296), ∀ i r, sumsP N F ps i = some r → 0 ≤ r.1 ∧ r.1 ≤ 6000 ∧ r.2 < 4294967296
  | [], F, h => h
  | p :: ps, F, h => sumsP_ok hN ps (sumP_ok hN h p)
theorem sumsT_ok {F : Int → Option Ref} : ∀ (ts : List Nat) {T : List Ref} (h : ∀ r ∈ T, 0 ≤ r.1 ∧ r.1 ≤ 6000 ∧ r.2 < 4294967296), ∀ r ∈ sumsT F T ts, 0 ≤ r.1 ∧ r.1 ≤ 6000 ∧ r.2 < 4294967296
  | [], T, h => h
  | t :: ts, T, h => sumsT_ok ts fun r hr => by
    rcases List.mem_or_eq_of_mem_set hr with hr | rfl
    · exact h r hr
    · have hs : Crc.sum (tblk F t) < 4294967296 := Crc.sum_lt (tblk_bytes F t)
      by_cases ht : t < T.length
      · have := h T[t] (List.getElem_mem ht)
        simp only [List.getD, List.getElem?_eq_getElem ht, Option.getD_some]
        exact ⟨this.1, this.2.1, hs⟩
      · simp [List.getD, ht, hs]
theorem splice_page {l : List Nat} {q : Nat} (hl : l.length ≤ 255) : splice ((List.replicate 256 0).set 0 q) 1 l = Crc.pad (q :: l) := by
  have e : (List.replicate 256 0).set 0 q = q :: List.replicate 255 0 := rfl
  rw [e]
  unfold splice Crc.pad
  simp only [List.take_succ_cons, List.take_zero, List.length_cons, List.cons_append, List.nil_append]
  rw [Nat.add_comm 1 l.length, List.drop_succ_cons, List.drop_replicate]
  rw [show 256 - (l.length + 1) = 255 - l.length by omega]
end Go.Proofs.YtbjfgdahfpfgdaaGreatDoor.PgW

namespace Go.Proofs.YtbjfgdahfpfgdaaGreatDoor.PgW
open Go.Proofs.YtbjfgdahfpfgdaaGreatDoor.RootP Go.Proofs.YtbjfgdahfpfgdaaGreatDoor.MapsW Go.Proofs.YtbjfgdahfpfgdaaGreatDoor.PgP Go.Proofs.YtbjfgdahfpfgdaaGreatDoor.DevG
set_option linter.unusedVariables false
set_option maxRecDepth 100000

abbrev ROk (r : Ref) : Prop := 0 ≤ r.1 ∧ r.1 ≤ 6000 ∧ r.2 < 4294967296
/-- a store that may be written -/
structure SOk (S : St) : Prop where
  t7 : S.tabs.length = 7
  dom : ∀ i, (S.at_ i).isSome = true → 0 ≤ i ∧ i < 256
  ok : ∀ i r, S.at_ i = some r → ROk r
  okT : ∀ r ∈ S.tabs, ROk r
  now : NowOk S.now
/-- a commit: what is told, the store, the device -/
def commitT (S : St) (D : Dv) (H : Nat) : Option Nat × St × Dv :=
  if cnt S.now = 0 then (none, S, D) else
  match laid S H with
  | none => (some 4, S, D)
  | some x => if fits x H then
      match Dv.commit D H (S.ep + 1) (writes S x) (behind S x).tabs with
      | (none, D') => (none, behind S x, D')
      | (some q, D') => (some q, S, D')
    else (some 4, S, D)
theorem mem_frees_lt {S : St} {H a : Nat} (h : a ∈ frees S.tabs S.at_ H) : 2 ≤ a ∧ a < H := ⟨(mem_frees.1 h).2.1, (mem_frees.1 h).1⟩
/-- what a layout gives its writes -/
structure LOk (S : St) (H : Nat) (x : Lay) : Prop where
  P : ∀ p ∈ x.pg, p < 256 ∧ ∃ c l, S.now (p : Int) = some (c :: l) ∧ l.length + 1 ≤ 248 ∧ Crc.Bytes (c :: l) ∧ ∃ f : Nat, f < H ∧ (tref x.at_ p).1 = (f : Int)
  T : ∀ t ∈ x.nt, t < 7 ∧ ∃ f : Nat, f < H ∧ (x.tabs.getD t (0, 0)).1 = (f : Int)
  ok : ∀ i r, x.at_ i = some r → ROk r
  okT : ∀ r ∈ x.tabs, ROk r
  nb : ∀ p : Nat, ((S.now (p : Int)).getD []).length ≤ 255 ∧ Crc.Bytes ((S.now (p : Int)).getD [])
  lp : x.pg.length ≤ cnt S.now
  lt : x.nt.length ≤ 7
  l7 : x.tabs.length = 7
  dom : ∀ i, (x.at_ i).isSome = true → 0 ≤ i ∧ i < 256
theorem keys_cnt (N : Int → Option (List Nat)) : (keys N).length = cnt N := by
  unfold keys cnt
  rw [List.countP_eq_length_filter]
theorem laid_ok {S : St} {H : Nat} {x : Lay} (hS : SOk S) (hH : H ≤ 6000) (hx : laid S H = some x) : LOk S H x := by
  obtain ⟨us, vs, L⟩ := laid_is hS.t7 hx
  obtain ⟨r, hr⟩ := L.pre
  have huf : ∀ a ∈ us, 2 ≤ a ∧ a < H := fun a ha => mem_frees_lt (S := S) (by rw [hr]; simp [ha])
  have hvf : ∀ a ∈ vs, 2 ≤ a ∧ a < H := fun a ha => mem_frees_lt (S := S) (by rw [hr]; simp [ha])
  have hl7 : x.tabs.length = 7 := L.len.trans hS.t7
  have hpm : ∀ p ∈ x.pg, p ∈ keys S.now ∧ needs S.now p = true := fun p hp => by rw [L.pg] at hp; exact List.mem_filter.1 hp
  have htm : ∀ t ∈ x.nt, t ∈ touched (keys S.now) ∧ has x.at_ t = true := fun t ht => by rw [L.nt] at ht; exact List.mem_filter.1 ht
  have hnew : ∀ p ∈ x.pg, ∃ f : Nat, f < H ∧ x.at_ (p : Int) = some ((f : Int), 0) := fun p hp => by
    obtain ⟨j, hj, rfl⟩ := mem_get hp
    have hu : j < us.length := by rw [L.ul]; exact hj
    exact ⟨us[j], (huf _ (List.getElem_mem hu)).2, L.new j hj hu⟩
  have htn : ∀ t ∈ x.nt, ∃ f : Nat, f < H ∧ x.tabs.getD t (0, 0) = ((f : Int), 0) := fun t ht => by
    obtain ⟨j, hj, rfl⟩ := mem_get ht
    have hu : j < vs.length := by rw [L.vl]; exact hj
    exact ⟨vs[j], (hvf _ (List.getElem_mem hu)).2, L.tnew j hj hu⟩
  have hat : ∀ i r, x.at_ i = some r → ROk r ∧ 0 ≤ i ∧ i < 256 := by
    intro i r hi
    by_cases hk : ∃ p ∈ keys S.now, (p : Int) = i
    · obtain ⟨p, hp, rfl⟩ := hk
      have h256 := (mem_keys.1 hp).1
      cases hn : needs S.now p with
      | false => rw [L.gone p hp hn] at hi; cases hi
      | true =>
        obtain ⟨f, h1, h2⟩ := hnew p (by rw [L.pg]; exact List.mem_filter.2 ⟨hp, hn⟩)
        rw [h2] at hi
        cases hi
        exact ⟨⟨by simp only; omega, by simp only; omega, by simp⟩, by omega, by omega⟩
    · rw [L.old i fun p hp e => hk ⟨p, hp, e⟩] at hi
      exact ⟨hS.ok i r hi, hS.dom i (by rw [hi]; rfl)⟩
  refine ⟨fun p hp => ?_, fun t ht => ?_, fun i r hi => (hat i r hi).1, fun r hr => ?_, fun p => ?_, ?_, ?_, hl7, fun i hi => ?_⟩
  · obtain ⟨h1, h2⟩ := hpm p hp
    obtain ⟨h3, h4⟩ := mem_keys.1 h1
    have h5 := needs_true h2
    obtain ⟨f, h6, h7⟩ := hnew p hp
    cases hN : S.now (p : Int) with
    | none => rw [hN] at h4; cases h4
    | some l =>
      rw [hN] at h5
      cases l with
      | nil => exact absurd rfl h5
      | cons c l =>
        have := hS.now.len _ _ hN
        exact ⟨h3, c, l, rfl, by have := this.1; simpa using this, this.2, f, h6, by unfold tref; rw [h7]; rfl⟩
  · obtain ⟨f, h1, h2⟩ := htn t ht
    exact ⟨(mem_touched.1 (htm t ht).1).1, f, h1, by rw [h2]⟩
  · obtain ⟨t, ht, rfl⟩ := mem_get hr
    have ht7 : t < 7 := by omega
    have e : x.tabs.getD t (0, 0) = x.tabs[t] := by simp [List.getD, ht]
    by_cases hto : t ∈ touched (keys S.now)
    · cases hh : has x.at_ t with
      | false => rw [← e, L.tgone t hto hh]; exact ⟨by decide, by decide, by decide⟩
      | true =>
        obtain ⟨f, h1, h2⟩ := htn t (by rw [L.nt]; exact List.mem_filter.2 ⟨hto, hh⟩)
        rw [← e, h2]
        exact ⟨by simp only; omega, by simp only; omega, by simp⟩
    · have h1 := L.told t hto
      have hs : t < S.tabs.length := by rw [hS.t7]; exact ht7
      rw [List.getElem?_eq_getElem ht, List.getElem?_eq_getElem hs] at h1
      rw [Option.some.inj h1]
      exact hS.okT _ (List.getElem_mem hs)
  · cases hN : S.now (p : Int) with
    | none => exact ⟨by simp, fun x hx => by cases hx⟩
    | some l =>
      have := hS.now.len _ _ hN
      exact ⟨by simp only [Option.getD_some]; omega, this.2⟩
  · rw [L.pg, ← keys_cnt]; exact List.length_filter_le _ _
  · rw [L.nt]
    refine Nat.le_trans (List.length_filter_le _ _) ?_
    unfold touched
    refine Nat.le_trans (List.length_filter_le _ _) ?_
    simp
  · cases hx : x.at_ i with
    | none => rw [hx] at hi; cases hi
    | some r => exact (hat i r hx).2
end Go.Proofs.YtbjfgdahfpfgdaaGreatDoor.PgW
