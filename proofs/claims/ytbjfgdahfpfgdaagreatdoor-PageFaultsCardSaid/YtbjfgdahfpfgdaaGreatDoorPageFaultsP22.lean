/- The walk of the law's same over a device of which copies are wrong; An array of 100 bools in memory; small things of PageFaults; Plain facts: roots of which copies were faulted; A page read where its first copy is right; The law's model beside a store: what they are together; what the law tells both that is refused. -/
import Derived.Test.YtbjfgdahfpfgdaaGreatDoorPageFaultsP21
import Derived.Test.YtbjfgdahfpfgdaaGreatDoorPageFaultsP5
import Derived.Deep.RegionHeld3
import Derived.Test.YtbjfgdahfpfgdaaGreatDoorPageFaultsP13
import Derived.Test.YtbjfgdahfpfgdaaGreatDoorPageFaultsP18
import Derived.Test.YtbjfgdahfpfgdaaGreatDoorPageFaultsP2
import Derived.Test.YtbjfgdahfpfgdaaGreatDoorPageFaultsP15
import Derived.Test.YtbjfgdahfpfgdaaGreatDoorPageFaultsP14
namespace Go.Proofs.YtbjfgdahfpfgdaaGreatDoor.PgW
open Go Go.RowKit Go.Maps Go.Proofs.YtbjfgdahfpfgdaaGreatDoor.Mem Go.Proofs.YtbjfgdahfpfgdaaGreatDoor.MapsW Go.Proofs.YtbjfgdahfpfgdaaGreatDoor.SeeW Go.Proofs.YtbjfgdahfpfgdaaGreatDoor.DevG Go.Proofs.YtbjfgdahfpfgdaaGreatDoor.PairG Go.Proofs.YtbjfgdahfpfgdaaGreatDoor.RefsW Go.Proofs.YtbjfgdahfpfgdaaGreatDoor.PgP Go.Proofs.YtbjfgdahfpfgdaaGreatDoor.RootP Go.Proofs.YtbjfgdahfpfgdaaGreatDoor.RootW Go.Proofs.YtbjfgdahfpfgdaaGreatDoor.ConcatW
set_option linter.unusedVariables false
set_option maxRecDepth 100000

theorem Rel.thereL {M : Md} {V N : Int → Option (List Nat)} {ep : Nat} (h : Rel M V N ep) : there N V = (List.range 30).filter M.on := by
  have e : ∀ d, (List.range (30 + d)).filter (fun (p : Nat) => (view N V (p : Int)).isSome) = (List.range 30).filter M.on := fun d => by
    induction d with
    | zero =>
      refine List.filter_congr fun i hi => ?_
      rw [h.cur i (List.mem_range.1 hi)]
      cases M.on i <;> rfl
    | succ d ih =>
      rw [show 30 + (d + 1) = (30 + d) + 1 from rfl, List.range_succ, List.filter_append, ih]
      have : (view N V ((30 + d : Nat) : Int)).isSome = false := by
        have ho := h.out ((30 + d : Nat) : Int) (.inr (by omega))
        unfold view
        rw [ho.2, ho.1]
        rfl
      rw [List.filter_cons, this]
      simp
  exact e 226
set_option maxHeartbeats 6400000 in
theorem samel_w (Y : List Nat) (bs : List Addr) (lo b n c s d ep np x : Nat) (V : Int → Option (List Nat)) (C : Nat → List Nat) (M : Md) (w : World) (m : Mp) (D : Dv) (I : Si) (S : St) (h : LimM Y bs w lo b n c s d V C ep np m D I S) (hM : MdAt w x M) (hx : x ∈ Y) (hR : Rel M V Non ep) (hB : ∀ w', Below lo w w' → Bs w' bs) (hn : n < 600000) (hc : c < 600000) (hnp : np < 600000) :
    Calls Tryz.prog 24 #[ptr s, ptr x] w fun e w' => e = .returned (.bool true) ∧ (∃ D' c', LimM Y bs w' lo b (n + 30) (c + 30) s d V C ep (np + 30) m D' { I with c := c' } S) ∧ Turn (I.p :: own I.d m) w w' := by
  have hX : ∀ x ∈ I.p :: own I.d m, x ∈ I.own m := fun x hx => by
    rcases List.mem_cons.1 hx with rfl | hx
    · simp
    · exact UpF.own_sub hx
  have hXL : ∀ x ∈ I.p :: own I.d m, x < w.heap.size := fun x hx => h.at_.own_lt x (hX x hx)
  have hXlo : ∀ x ∈ I.p :: own I.d m, lo ≤ x := fun x hx => h.at_.own_lo x (hX x hx)
  have HXL := hid hXL
  have HAL := hid h.all_lt
  have HLO := hid h.los
  have HMT := hid (fun (w' : World) (ht : Turn (I.p :: own I.d m) w w') => hM.kp (h.kp ht hX) hx)
  have HBT := hid (fun (w' : World) (ht : Turn (I.p :: own I.d m) w w') => hB w' (ht.below h.los hXlo))
  have HR := hid hR
  have HL0 := hid (show LimM Y bs w lo b (n + 0) (c + 0) s d V C ep (np + 0) m D { I with c := I.c } S from h)
  clear hM hR hB hX hXL hXlo h hx
  go_enter Tryz.func24, Tryz.ntmps24
  go_wp2_with fail
  go_loopw [5, 6] (fun v iv wr => ∃ i : Nat, i ≤ 30 ∧ iv = .int .i64 i ∧ wr.ownsRow w.heap.size 3 1 v ((List.range i).filter M.on).length (nums .i64 ((List.range i).filter M.on)) ∧ (((List.range i).filter M.on).length = 0 → v.ownBlock = none) ∧ (∃ D' c', LimM Y bs wr lo b (n + i) (c + i) s d V C ep (np + i) m D' { I with c := c' } S) ∧ Turn (I.p :: own I.d m) w wr) (fun _ iv _ => 30 - (RowKit.intOf iv).toNat)
  case atStart => exact ⟨0, by omega, rfl, World.ownsRow_nil _ _ _ _, fun _ => rfl, ⟨D, I.c, HL0.out⟩, Turn.refl _ _⟩
  case round =>
    obtain ⟨i, hi, rfl, ow, hnil, ⟨D0, c0, hlm⟩, ht⟩ := hrel
    have HNIL := hid hnil
    have HTW := hid ht
    have HLM := hid hlm
    by_cases hlt : i < 30
    · have hr : Calls Tryz.prog 19 #[ptr s, .int .i64 (i : Int)] wr fun e w' => ReadL bs (V (i : Int)) e w' ∧ (∃ D' c', LimM Y bs w' lo b (n + i + 1) (c + i + 1) s d V C ep (np + i + 1) m D' { I with c := c' } S) ∧ Turn (I.p :: own I.d m) wr w' := Lim.readM hlm (by omega) (by omega) (by omega) (p := (i : Int)) (isP_of (by omega))
      have hcur : V (i : Int) = if M.on i then some (M.now i).l else none := HR.out.cur i hlt
      rw [hcur] at hr
      have hlI : (i : Int) < 30 := by omega
      have hsu : ∀ (o : Bool), M.on i = o → (List.range (i + 1)).filter M.on = (List.range i).filter M.on ++ (if o then [i] else []) := fun o ho => by
        rw [List.range_succ, List.filter_append]
        cases o <;> simp [ho]
      have hz := ht.size
      have HFA := hid (fun (w1 : World) (t1 : Turn (I.p :: own I.d m) wr w1) => (⟨own_far ow t1 HXL.out, ht.then t1⟩ : _ ∧ _))
      obtain ⟨va, vc, rfl, hvr⟩ := ownsRow_slice ow
      have hle : ((List.range i).filter M.on).length ≤ i := by
        have := List.length_filter_le M.on (List.range i)
        simpa using this
      have HV1 := hid (fun (w1 : World) (t1 : Turn (I.p :: own I.d m) w w1) => (⟨((HMT.out w1 t1).at_ (60 + i) (by omega)).trans (by rw [M.val_on hlt]), ((HMT.out w1 t1).at_ i (by omega)).trans (by rw [M.val_now hlt]), (HMT.out w1 t1).now i hlt⟩ : w1.cell? ⟨x, 60 + i, none⟩ = some (.bool (M.on i)) ∧ w1.cell? ⟨x, i, none⟩ = some (M.now i).v ∧ Nums .u8 w1 (M.now i).a (M.now i).l.length (M.now i).cap (M.now i).l))
      generalize M.now i = r at hr HV1
      obtain ⟨na, nc, nl⟩ := r
      simp only at hr
      clear hcur hvr ow hnil ht hlm
      cases ho : M.on i with
      | true =>
        have hsu1 := hsu true ho
        rw [ho] at hr HV1
        have HSU := hid hsu1
        rw [if_pos rfl] at hr
        unfold ReadL at hr
        simp only at hr
        clear ho hsu hsu1
        go_wp2_with fail
        refine hr.mono ?_
        rintro e w1 ⟨⟨ra, rc, rfl, hn1⟩, ⟨D1, c1, lm1⟩, t1⟩
        obtain ⟨own1, T1⟩ := HFA.out w1 t1
        obtain ⟨y1, y2, hro⟩ := HV1.out w1 T1
        try simp only at hro
        have hbd := hro.bound
        have hsm : ∀ w', Below w1.heap.size w1 w' → _ := fun w' hb' => RefW.same_w ra nl.length rc nl na nl.length nc nl w' (hn1.below hb') (hro.below hb')
        simp only [decide_true] at hsm
        have HO1 := hid own1
        have HT1 := hid T1
        have HM1 := hid lm1
        clear hr hn1 hro own1 T1 t1 lm1
        go_upto_region 6 with fail
        refine wp_region_held_drew (S := fun w' => w'.cell? ⟨x, 60 + i, none⟩ = some (.bool true) ∧ w'.cell? ⟨x, i, none⟩ = some (.slice na nl.length nc)) (by kernel_rfl) ⟨y1, y2⟩ (fun hHeld => ?_)
        refine wpAnyH_take (i := 0) (v := .nilIface) (by simp only [List.getElem?_toArray, List.getElem?_cons_zero]; rfl) (by kernel_rfl) (by kernel_rfl) (by kernel_rfl) (by exact fun _ _ _ h => h) (Or.inl ⟨by rfl, ?_⟩) (by assumption) ?_
        · intro w hSw
          go_simp
        simp only [Act.put, List.setIfInBounds_toArray, List.set_cons_zero, List.set_cons_succ]
        refine wpAnyH_take (i := 1) (v := .bool true) (by simp only [List.getElem?_toArray, List.getElem?_cons_zero, List.getElem?_cons_succ]; rfl) (by kernel_rfl) (by kernel_rfl) (by kernel_rfl) (by exact fun _ _ _ h => h) (Or.inl ⟨by rfl, ?_⟩) (by assumption) ?_
        · intro w hSw
          go_simp
        simp only [Act.put, List.setIfInBounds_toArray, List.set_cons_zero, List.set_cons_succ]
        refine wpAnyH_take (i := 2) (v := .pointer (some ⟨x, 0, none⟩)) (by simp only [List.getElem?_toArray, List.getElem?_cons_zero, List.getElem?_cons_succ]; rfl) (by kernel_rfl) (by kernel_rfl) (by kernel_rfl) (by exact fun _ _ _ h => h) (Or.inl ⟨by rfl, ?_⟩) (by assumption) ?_
        · intro w hSw
          go_simp
        simp only [Act.put, List.setIfInBounds_toArray, List.set_cons_zero, List.set_cons_succ]
        refine wpAnyH_take (i := 3) (v := .int .i64 (i : Int)) (by simp only [List.getElem?_toArray, List.getElem?_cons_zero, List.getElem?_cons_succ]; rfl) (by kernel_rfl) (by kernel_rfl) (by kernel_rfl) (by exact fun _ _ _ h => h) (Or.inl ⟨by rfl, ?_⟩) (by assumption) ?_
        · intro w hSw
          go_simp
        simp only [Act.put, List.setIfInBounds_toArray, List.set_cons_zero, List.set_cons_succ]
        refine wpAnyH_take (i := 4) (v := .pointer (some ⟨x, 0, none⟩)) (by simp only [List.getElem?_toArray, List.getElem?_cons_zero, List.getElem?_cons_succ]; rfl) (by kernel_rfl) (by kernel_rfl) (by kernel_rfl) (by exact fun _ _ _ h => h) (Or.inl ⟨by rfl, ?_⟩) (by assumption) ?_
        · intro w hSw
          go_simp
        simp only [Act.put, List.setIfInBounds_toArray, List.set_cons_zero, List.set_cons_succ]
        refine wpAnyH_take (i := 5) (v := .pointer (some ⟨x, 60, none⟩)) (by simp only [List.getElem?_toArray, List.getElem?_cons_zero, List.getElem?_cons_succ]; rfl) (by kernel_rfl) (by kernel_rfl) (by kernel_rfl) (by exact fun _ _ _ h => h) (Or.inl ⟨by rfl, ?_⟩) (by assumption) ?_
        · intro w hSw
          go_simp
        simp only [Act.put, List.setIfInBounds_toArray, List.set_cons_zero, List.set_cons_succ]
        refine wpAnyH_take (i := 6) (v := .pointer (some ⟨x, 60 + i, none⟩)) (by simp only [List.getElem?_toArray, List.getElem?_cons_zero, List.getElem?_cons_succ]; rfl) (by kernel_rfl) (by kernel_rfl) (by kernel_rfl) (by exact fun _ _ _ h => h) (Or.inl ⟨by rfl, ?_⟩) (by assumption) ?_
        · intro w hSw
          go_simp
        simp only [Act.put, List.setIfInBounds_toArray, List.set_cons_zero, List.set_cons_succ]
        refine wpAnyH_take (i := 7) (v := .bool true) (by simp only [List.getElem?_toArray, List.getElem?_cons_zero, List.getElem?_cons_succ]; rfl) (by kernel_rfl) (by kernel_rfl) (by kernel_rfl) (by exact fun _ _ _ h => h) (Or.inl ⟨by rfl, ?_⟩) (by assumption) ?_
        · intro w hSw
          go_simp
        simp only [Act.put, List.setIfInBounds_toArray, List.set_cons_zero, List.set_cons_succ]
        refine wpAnyH_take (i := 8) (v := .bool false) (by simp only [List.getElem?_toArray, List.getElem?_cons_zero, List.getElem?_cons_succ]; rfl) (by kernel_rfl) (by kernel_rfl) (by kernel_rfl) (by exact fun _ _ _ h => h) (Or.inl ⟨by rfl, ?_⟩) (by assumption) ?_
        · intro w hSw
          go_simp
        simp only [Act.put, List.setIfInBounds_toArray, List.set_cons_zero, List.set_cons_succ]
        refine wpAnyH_take (i := 9) (v := .bool false) (by simp only [List.getElem?_toArray, List.getElem?_cons_zero, List.getElem?_cons_succ]; rfl) (by kernel_rfl) (by kernel_rfl) (by kernel_rfl) (by exact fun _ _ _ h => h) (Or.inl ⟨by rfl, ?_⟩) (by assumption) ?_
        · intro w hSw
          go_simp
        simp only [Act.put, List.setIfInBounds_toArray, List.set_cons_zero, List.set_cons_succ]
        refine wpAnyH_take (i := 10) (v := .nilIface) (by simp only [List.getElem?_toArray, List.getElem?_cons_zero, List.getElem?_cons_succ]; rfl) (by kernel_rfl) (by kernel_rfl) (by kernel_rfl) (by exact fun _ _ _ h => h) (Or.inl ⟨by rfl, ?_⟩) (by assumption) ?_
        · intro w hSw
          go_simp
        simp only [Act.put, List.setIfInBounds_toArray, List.set_cons_zero, List.set_cons_succ]
        refine wpAnyH_take (i := 11) (v := .bool true) (by simp only [List.getElem?_toArray, List.getElem?_cons_zero, List.getElem?_cons_succ]; rfl) (by kernel_rfl) (by kernel_rfl) (by kernel_rfl) (by exact fun _ _ _ h => h) (Or.inl ⟨by rfl, ?_⟩) (by assumption) ?_
        · intro w hSw
          go_simp
        simp only [Act.put, List.setIfInBounds_toArray, List.set_cons_zero, List.set_cons_succ]
        refine wpAnyH_take (i := 12) (v := .bool true) (by simp only [List.getElem?_toArray, List.getElem?_cons_zero, List.getElem?_cons_succ]; rfl) (by kernel_rfl) (by kernel_rfl) (by kernel_rfl) (by exact fun _ _ _ h => h) (Or.inl ⟨by rfl, ?_⟩) (by assumption) ?_
        · intro w hSw
          go_simp
        simp only [Act.put, List.setIfInBounds_toArray, List.set_cons_zero, List.set_cons_succ]
        refine wpAnyH_take (i := 13) (v := .slice ra nl.length rc) (by simp only [List.getElem?_toArray, List.getElem?_cons_zero, List.getElem?_cons_succ]; rfl) (by kernel_rfl) (by kernel_rfl) (by kernel_rfl) (by exact fun _ _ _ h => h) (Or.inl ⟨by rfl, ?_⟩) (by assumption) ?_
        · intro w hSw
          go_simp
        simp only [Act.put, List.setIfInBounds_toArray, List.set_cons_zero, List.set_cons_succ]
        refine wpAnyH_take (i := 14) (v := .pointer (some ⟨x, 0, none⟩)) (by simp only [List.getElem?_toArray, List.getElem?_cons_zero, List.getElem?_cons_succ]; rfl) (by kernel_rfl) (by kernel_rfl) (by kernel_rfl) (by exact fun _ _ _ h => h) (Or.inl ⟨by rfl, ?_⟩) (by assumption) ?_
        · intro w hSw
          go_simp
        simp only [Act.put, List.setIfInBounds_toArray, List.set_cons_zero, List.set_cons_succ]
        refine wpAnyH_take (i := 15) (v := .int .i64 (i : Int)) (by simp only [List.getElem?_toArray, List.getElem?_cons_zero, List.getElem?_cons_succ]; rfl) (by kernel_rfl) (by kernel_rfl) (by kernel_rfl) (by exact fun _ _ _ h => h) (Or.inl ⟨by rfl, ?_⟩) (by assumption) ?_
        · intro w hSw
          go_simp
        simp only [Act.put, List.setIfInBounds_toArray, List.set_cons_zero, List.set_cons_succ]
        refine wpAnyH_take (i := 16) (v := .pointer (some ⟨x, 0, none⟩)) (by simp only [List.getElem?_toArray, List.getElem?_cons_zero, List.getElem?_cons_succ]; rfl) (by kernel_rfl) (by kernel_rfl) (by kernel_rfl) (by exact fun _ _ _ h => h) (Or.inl ⟨by rfl, ?_⟩) (by assumption) ?_
        · intro w hSw
          go_simp
        simp only [Act.put, List.setIfInBounds_toArray, List.set_cons_zero, List.set_cons_succ]
        refine wpAnyH_take (i := 17) (v := .pointer (some ⟨x, 0, none⟩)) (by simp only [List.getElem?_toArray, List.getElem?_cons_zero, List.getElem?_cons_succ]; rfl) (by kernel_rfl) (by kernel_rfl) (by kernel_rfl) (by exact fun _ _ _ h => h) (Or.inl ⟨by rfl, ?_⟩) (by assumption) ?_
        · intro w hSw
          go_simp
        simp only [Act.put, List.setIfInBounds_toArray, List.set_cons_zero, List.set_cons_succ]
        refine wpAnyH_take (i := 18) (v := .pointer (some ⟨x, i, none⟩)) (by simp only [List.getElem?_toArray, List.getElem?_cons_zero, List.getElem?_cons_succ]; rfl) (by kernel_rfl) (by kernel_rfl) (by kernel_rfl) (by exact fun _ _ _ h => h) (Or.inl ⟨by rfl, ?_⟩) (by assumption) ?_
        · intro w hSw
          go_simp
        simp only [Act.put, List.setIfInBounds_toArray, List.set_cons_zero, List.set_cons_succ]
        refine wpAnyH_take (i := 19) (v := .slice na nl.length nc) (by simp only [List.getElem?_toArray, List.getElem?_cons_zero, List.getElem?_cons_succ]; rfl) (by kernel_rfl) (by kernel_rfl) (by kernel_rfl) (by exact fun _ _ _ h => h) (Or.inl ⟨by rfl, ?_⟩) (by assumption) ?_
        · intro w hSw
          go_simp
        simp only [Act.put, List.setIfInBounds_toArray, List.set_cons_zero, List.set_cons_succ]
        refine wpAnyH_ready (rs := [20]) (by kernel_rfl) (by simp) ?_
        refine AllReadyH.cons (by simp only [List.getElem?_toArray, List.getElem?_cons_zero, List.getElem?_cons_succ]; rfl) (fun K0 hK => ?_) AllReadyH.nil
        go_simp
        refine (hsm _ (by first | exact (Below.refl _ _).drew | exact Below.refl _ _)).mono ?_
        rintro e w2 ⟨rfl, b2⟩
        have B2 := (Below.refl w1.heap.size w1).drew.trans (b2.mono (Nat.le_refl _))
        go_wp2_with fail
        refine hK.out _ _ ⟨kept b2 y1, kept b2 y2⟩ (fun hHeld => ?_)
        clear hK K0
        refine wpAnyH_take (i := 21) (v := .bool false) (by simp only [List.getElem?_toArray, List.getElem?_cons_zero, List.getElem?_cons_succ]; rfl) (by kernel_rfl) (by kernel_rfl) (by kernel_rfl) (by exact fun _ _ _ h => h) (Or.inl ⟨by rfl, ?_⟩) (by assumption) ?_
        · intro w hSw
          go_simp
        simp only [Act.put, List.setIfInBounds_toArray, List.set_cons_zero, List.set_cons_succ]
        refine wpAnyH_take (i := 22) (v := .bool false) (by simp only [List.getElem?_toArray, List.getElem?_cons_zero, List.getElem?_cons_succ]; rfl) (by kernel_rfl) (by kernel_rfl) (by kernel_rfl) (by exact fun _ _ _ h => h) (Or.inl ⟨by rfl, ?_⟩) (by assumption) ?_
        · intro w hSw
          go_simp
        simp only [Act.put, List.setIfInBounds_toArray, List.set_cons_zero, List.set_cons_succ]
        refine wpAnyH_take (i := 23) (v := .bool false) (by simp only [List.getElem?_toArray, List.getElem?_cons_zero, List.getElem?_cons_succ]; rfl) (by kernel_rfl) (by kernel_rfl) (by kernel_rfl) (by exact fun _ _ _ h => h) (Or.inl ⟨by rfl, ?_⟩) (by assumption) ?_
        · intro w hSw
          go_simp
        simp only [Act.put, List.setIfInBounds_toArray, List.set_cons_zero, List.set_cons_succ]
        refine wpAnyH_take (i := 24) (v := .bool false) (by simp only [List.getElem?_toArray, List.getElem?_cons_zero, List.getElem?_cons_succ]; rfl) (by kernel_rfl) (by kernel_rfl) (by kernel_rfl) (by exact fun _ _ _ h => h) (Or.inl ⟨by rfl, ?_⟩) (by assumption) ?_
        · intro w hSw
          go_simp
        simp only [Act.put, List.setIfInBounds_toArray, List.set_cons_zero, List.set_cons_succ]
        refine wpAnyH_take (i := 25) (v := .nilIface) (by simp only [List.getElem?_toArray, List.getElem?_cons_zero, List.getElem?_cons_succ]; rfl) (by kernel_rfl) (by kernel_rfl) (by kernel_rfl) (by exact fun _ _ _ h => h) (Or.inl ⟨by rfl, ?_⟩) (by assumption) ?_
        · intro w hSw
          go_simp
        simp only [Act.put, List.setIfInBounds_toArray, List.set_cons_zero, List.set_cons_succ]
        refine wpAnyH_take (i := 26) (v := .bool false) (by simp only [List.getElem?_toArray, List.getElem?_cons_zero, List.getElem?_cons_succ]; rfl) (by kernel_rfl) (by kernel_rfl) (by kernel_rfl) (by exact fun _ _ _ h => h) (Or.inl ⟨by rfl, ?_⟩) (by assumption) ?_
        · intro w hSw
          go_simp
        simp only [Act.put, List.setIfInBounds_toArray, List.set_cons_zero, List.set_cons_succ]
        refine wpAnyH_take (i := 27) (v := .bool false) (by simp only [List.getElem?_toArray, List.getElem?_cons_zero, List.getElem?_cons_succ]; rfl) (by kernel_rfl) (by kernel_rfl) (by kernel_rfl) (by exact fun _ _ _ h => h) (Or.inl ⟨by rfl, ?_⟩) (by assumption) ?_
        · intro w hSw
          go_simp
        simp only [Act.put, List.setIfInBounds_toArray, List.set_cons_zero, List.set_cons_succ]
        refine wpAnyH_take (i := 28) (v := undef) (by simp only [List.getElem?_toArray, List.getElem?_cons_zero, List.getElem?_cons_succ]; rfl) (by kernel_rfl) (by kernel_rfl) (by kernel_rfl) (by exact fun _ _ _ h => h) (Or.inr ⟨by rfl, rfl⟩) (by assumption) ?_
        simp only [Act.put, List.setIfInBounds_toArray, List.set_cons_zero, List.set_cons_succ]
        refine wpAnyH_take (i := 29) (v := undef) (by simp only [List.getElem?_toArray, List.getElem?_cons_zero, List.getElem?_cons_succ]; rfl) (by kernel_rfl) (by kernel_rfl) (by kernel_rfl) (by exact fun _ _ _ h => h) (Or.inr ⟨by rfl, rfl⟩) (by assumption) ?_
        simp only [Act.put, List.setIfInBounds_toArray, List.set_cons_zero, List.set_cons_succ]
        refine wpAnyH_take (i := 30) (v := undef) (by simp only [List.getElem?_toArray, List.getElem?_cons_zero, List.getElem?_cons_succ]; rfl) (by kernel_rfl) (by kernel_rfl) (by kernel_rfl) (by exact fun _ _ _ h => h) (Or.inr ⟨by rfl, rfl⟩) (by assumption) ?_
        simp only [Act.put, List.setIfInBounds_toArray, List.set_cons_zero, List.set_cons_succ]
        refine wpAnyH_take (i := 31) (v := .bool false) (by simp only [List.getElem?_toArray, List.getElem?_cons_zero, List.getElem?_cons_succ]; rfl) (by kernel_rfl) (by kernel_rfl) (by kernel_rfl) (by exact fun _ _ _ h => h) (Or.inl ⟨by rfl, ?_⟩) (by assumption) ?_
        · intro w hSw
          go_simp
        simp only [Act.put, List.setIfInBounds_toArray, List.set_cons_zero, List.set_cons_succ]
        refine wpAnyH_take (i := 32) (v := .bool false) (by simp only [List.getElem?_toArray, List.getElem?_cons_zero, List.getElem?_cons_succ]; rfl) (by kernel_rfl) (by kernel_rfl) (by kernel_rfl) (by exact fun _ _ _ h => h) (Or.inl ⟨by rfl, ?_⟩) (by assumption) ?_
        · intro w hSw
          go_simp
        simp only [Act.put, List.setIfInBounds_toArray, List.set_cons_zero, List.set_cons_succ]
        refine wpAnyH_done (by kernel_rfl) ?_ _
        have HT2 := hid (HT1.out.then (Turn.of_below B2))
        have HO2 := hid (ownsRow_below HO1.out B2)
        have HM2 := hid (HM1.out.on B2)
        have hz2 := HT2.out.size
        have HSV := hid (HSU.out.trans (by simp) : (List.range (i + 1)).filter M.on = (List.range i).filter M.on ++ [i])
        clear hsm y1 y2 b2 B2 hHeld
        go_wp2_with (at_builtin; go_must (refine wpList_push elInt rfl _ _ rfl w.heap.size _ _ _ rfl (HO2.out.alloc _) w2.heap.size (.int .i64 (i : Int)) rfl (by simp) rfl (by unfold maxLen; omega) (by omega) (by simp; omega) ?_); intro v3 w3 o3 hb3 hg3)
        have hg3' : (w2.alloc (.cells #[.int .i64 (i : Int)] 3)).grownBy w3 (Value.slice va ((List.range i).filter M.on).length vc).ownBlock := hg3
        have hpu := HM2.out.push (o := .cells #[.int .i64 (i : Int)] 3) HAL.out HLO.out HO2.out HNIL.out (fun u hu z e => by
          obtain ⟨q, _, rfl⟩ := List.mem_map.1 hu
          cases e) hg3'
        have HT3 := hid (hpu.2 _ _ HT2.out (Nat.le_refl _))
        have HM3 := hid hpu.1
        clear hg3 hg3' hpu
        go_roundw
        case rel => exact ⟨i + 1, by omega, by go_num, by rw [HSV.out, List.length_append]; simpa [nums] using o3, fun e => by rw [HSV.out, List.length_append] at e; simp at e, ⟨D1, c1, HM3.out⟩, HT3.out⟩
        case measure => simp [RowKit.intOf]; omega
      | false =>
        have hsu1 := hsu false ho
        rw [ho] at hr HV1
        have HSU := hid hsu1
        rw [if_neg (by decide)] at hr
        unfold ReadL at hr
        simp only at hr
        clear ho hsu hsu1
        go_wp2_with fail
        refine hr.mono ?_
        rintro e w1 ⟨⟨a8, ha8, rfl⟩, ⟨D1, c1, lm1⟩, t1⟩
        obtain ⟨own1, T1⟩ := HFA.out w1 t1
        obtain ⟨y1, y2, hro⟩ := HV1.out w1 T1
        have his : ∀ w', Below w1.heap.size w1 w' → _ := fun w' hb' => SeeW.is_w bs w' ((HBT.out w1 T1).below hb') 8 a8 ha8 109
        have e109 : ((101 : Int) + ((8 : Nat) : Int) == 109) = true := by decide
        simp only [e109] at his
        have HO1 := hid own1
        have HT1 := hid T1
        have HM1 := hid lm1
        clear hr hro own1 T1 t1 lm1 e109
        go_upto_region 6 with fail
        refine wp_region_held_drew (S := fun w' => w'.cell? ⟨x, 60 + i, none⟩ = some (.bool false) ∧ w'.cell? ⟨x, i, none⟩ = some (.slice na nl.length nc)) (by kernel_rfl) ⟨y1, y2⟩ (fun hHeld => ?_)
        refine wpAnyH_take (i := 0) (v := ev a8) (by simp only [List.getElem?_toArray, List.getElem?_cons_zero]; rfl) (by kernel_rfl) (by kernel_rfl) (by kernel_rfl) (by exact fun _ _ _ h => h) (Or.inl ⟨by rfl, ?_⟩) (by assumption) ?_
        · intro w hSw
          go_simp
        simp only [Act.put, List.setIfInBounds_toArray, List.set_cons_zero, List.set_cons_succ]
        refine wpAnyH_take (i := 1) (v := .bool false) (by simp only [List.getElem?_toArray, List.getElem?_cons_zero, List.getElem?_cons_succ]; rfl) (by kernel_rfl) (by kernel_rfl) (by kernel_rfl) (by exact fun _ _ _ h => h) (Or.inl ⟨by rfl, ?_⟩) (by assumption) ?_
        · intro w hSw
          go_simp
        simp only [Act.put, List.setIfInBounds_toArray, List.set_cons_zero, List.set_cons_succ]
        refine wpAnyH_take (i := 2) (v := .pointer (some ⟨x, 0, none⟩)) (by simp only [List.getElem?_toArray, List.getElem?_cons_zero, List.getElem?_cons_succ]; rfl) (by kernel_rfl) (by kernel_rfl) (by kernel_rfl) (by exact fun _ _ _ h => h) (Or.inl ⟨by rfl, ?_⟩) (by assumption) ?_
        · intro w hSw
          go_simp
        simp only [Act.put, List.setIfInBounds_toArray, List.set_cons_zero, List.set_cons_succ]
        refine wpAnyH_take (i := 3) (v := .int .i64 (i : Int)) (by simp only [List.getElem?_toArray, List.getElem?_cons_zero, List.getElem?_cons_succ]; rfl) (by kernel_rfl) (by kernel_rfl) (by kernel_rfl) (by exact fun _ _ _ h => h) (Or.inl ⟨by rfl, ?_⟩) (by assumption) ?_
        · intro w hSw
          go_simp
        simp only [Act.put, List.setIfInBounds_toArray, List.set_cons_zero, List.set_cons_succ]
        refine wpAnyH_take (i := 4) (v := .pointer (some ⟨x, 0, none⟩)) (by simp only [List.getElem?_toArray, List.getElem?_cons_zero, List.getElem?_cons_succ]; rfl) (by kernel_rfl) (by kernel_rfl) (by kernel_rfl) (by exact fun _ _ _ h => h) (Or.inl ⟨by rfl, ?_⟩) (by assumption) ?_
        · intro w hSw
          go_simp
        simp only [Act.put, List.setIfInBounds_toArray, List.set_cons_zero, List.set_cons_succ]
        refine wpAnyH_take (i := 5) (v := .pointer (some ⟨x, 60, none⟩)) (by simp only [List.getElem?_toArray, List.getElem?_cons_zero, List.getElem?_cons_succ]; rfl) (by kernel_rfl) (by kernel_rfl) (by kernel_rfl) (by exact fun _ _ _ h => h) (Or.inl ⟨by rfl, ?_⟩) (by assumption) ?_
        · intro w hSw
          go_simp
        simp only [Act.put, List.setIfInBounds_toArray, List.set_cons_zero, List.set_cons_succ]
        refine wpAnyH_take (i := 6) (v := .pointer (some ⟨x, 60 + i, none⟩)) (by simp only [List.getElem?_toArray, List.getElem?_cons_zero, List.getElem?_cons_succ]; rfl) (by kernel_rfl) (by kernel_rfl) (by kernel_rfl) (by exact fun _ _ _ h => h) (Or.inl ⟨by rfl, ?_⟩) (by assumption) ?_
        · intro w hSw
          go_simp
        simp only [Act.put, List.setIfInBounds_toArray, List.set_cons_zero, List.set_cons_succ]
        refine wpAnyH_take (i := 7) (v := .bool false) (by simp only [List.getElem?_toArray, List.getElem?_cons_zero, List.getElem?_cons_succ]; rfl) (by kernel_rfl) (by kernel_rfl) (by kernel_rfl) (by exact fun _ _ _ h => h) (Or.inl ⟨by rfl, ?_⟩) (by assumption) ?_
        · intro w hSw
          go_simp
        simp only [Act.put, List.setIfInBounds_toArray, List.set_cons_zero, List.set_cons_succ]
        refine wpAnyH_take (i := 8) (v := .bool false) (by simp only [List.getElem?_toArray, List.getElem?_cons_zero, List.getElem?_cons_succ]; rfl) (by kernel_rfl) (by kernel_rfl) (by kernel_rfl) (by exact fun _ _ _ h => h) (Or.inl ⟨by rfl, ?_⟩) (by assumption) ?_
        · intro w hSw
          go_simp
        simp only [Act.put, List.setIfInBounds_toArray, List.set_cons_zero, List.set_cons_succ]
        refine wpAnyH_take (i := 9) (v := .bool false) (by simp only [List.getElem?_toArray, List.getElem?_cons_zero, List.getElem?_cons_succ]; rfl) (by kernel_rfl) (by kernel_rfl) (by kernel_rfl) (by exact fun _ _ _ h => h) (Or.inl ⟨by rfl, ?_⟩) (by assumption) ?_
        · intro w hSw
          go_simp
        simp only [Act.put, List.setIfInBounds_toArray, List.set_cons_zero, List.set_cons_succ]
        refine wpAnyH_take (i := 10) (v := ev a8) (by simp only [List.getElem?_toArray, List.getElem?_cons_zero, List.getElem?_cons_succ]; rfl) (by kernel_rfl) (by kernel_rfl) (by kernel_rfl) (by exact fun _ _ _ h => h) (Or.inl ⟨by rfl, ?_⟩) (by assumption) ?_
        · intro w hSw
          go_simp
        simp only [Act.put, List.setIfInBounds_toArray, List.set_cons_zero, List.set_cons_succ]
        refine wpAnyH_take (i := 11) (v := .bool false) (by simp only [List.getElem?_toArray, List.getElem?_cons_zero, List.getElem?_cons_succ]; rfl) (by kernel_rfl) (by kernel_rfl) (by kernel_rfl) (by exact fun _ _ _ h => h) (Or.inl ⟨by rfl, ?_⟩) (by assumption) ?_
        · intro w hSw
          go_simp
        simp only [Act.put, List.setIfInBounds_toArray, List.set_cons_zero, List.set_cons_succ]
        refine wpAnyH_take (i := 12) (v := .bool false) (by simp only [List.getElem?_toArray, List.getElem?_cons_zero, List.getElem?_cons_succ]; rfl) (by kernel_rfl) (by kernel_rfl) (by kernel_rfl) (by exact fun _ _ _ h => h) (Or.inl ⟨by rfl, ?_⟩) (by assumption) ?_
        · intro w hSw
          go_simp
        simp only [Act.put, List.setIfInBounds_toArray, List.set_cons_zero, List.set_cons_succ]
        refine wpAnyH_take (i := 13) (v := undef) (by simp only [List.getElem?_toArray, List.getElem?_cons_zero, List.getElem?_cons_succ]; rfl) (by kernel_rfl) (by kernel_rfl) (by kernel_rfl) (by exact fun _ _ _ h => h) (Or.inr ⟨by rfl, rfl⟩) (by assumption) ?_
        simp only [Act.put, List.setIfInBounds_toArray, List.set_cons_zero, List.set_cons_succ]
        refine wpAnyH_take (i := 14) (v := undef) (by simp only [List.getElem?_toArray, List.getElem?_cons_zero, List.getElem?_cons_succ]; rfl) (by kernel_rfl) (by kernel_rfl) (by kernel_rfl) (by exact fun _ _ _ h => h) (Or.inr ⟨by rfl, rfl⟩) (by assumption) ?_
        simp only [Act.put, List.setIfInBounds_toArray, List.set_cons_zero, List.set_cons_succ]
        refine wpAnyH_take (i := 15) (v := undef) (by simp only [List.getElem?_toArray, List.getElem?_cons_zero, List.getElem?_cons_succ]; rfl) (by kernel_rfl) (by kernel_rfl) (by kernel_rfl) (by exact fun _ _ _ h => h) (Or.inr ⟨by rfl, rfl⟩) (by assumption) ?_
        simp only [Act.put, List.setIfInBounds_toArray, List.set_cons_zero, List.set_cons_succ]
        refine wpAnyH_take (i := 16) (v := undef) (by simp only [List.getElem?_toArray, List.getElem?_cons_zero, List.getElem?_cons_succ]; rfl) (by kernel_rfl) (by kernel_rfl) (by kernel_rfl) (by exact fun _ _ _ h => h) (Or.inr ⟨by rfl, rfl⟩) (by assumption) ?_
        simp only [Act.put, List.setIfInBounds_toArray, List.set_cons_zero, List.set_cons_succ]
        refine wpAnyH_take (i := 17) (v := undef) (by simp only [List.getElem?_toArray, List.getElem?_cons_zero, List.getElem?_cons_succ]; rfl) (by kernel_rfl) (by kernel_rfl) (by kernel_rfl) (by exact fun _ _ _ h => h) (Or.inr ⟨by rfl, rfl⟩) (by assumption) ?_
        simp only [Act.put, List.setIfInBounds_toArray, List.set_cons_zero, List.set_cons_succ]
        refine wpAnyH_take (i := 18) (v := undef) (by simp only [List.getElem?_toArray, List.getElem?_cons_zero, List.getElem?_cons_succ]; rfl) (by kernel_rfl) (by kernel_rfl) (by kernel_rfl) (by exact fun _ _ _ h => h) (Or.inr ⟨by rfl, rfl⟩) (by assumption) ?_
        simp only [Act.put, List.setIfInBounds_toArray, List.set_cons_zero, List.set_cons_succ]
        refine wpAnyH_take (i := 19) (v := undef) (by simp only [List.getElem?_toArray, List.getElem?_cons_zero, List.getElem?_cons_succ]; rfl) (by kernel_rfl) (by kernel_rfl) (by kernel_rfl) (by exact fun _ _ _ h => h) (Or.inr ⟨by rfl, rfl⟩) (by assumption) ?_
        simp only [Act.put, List.setIfInBounds_toArray, List.set_cons_zero, List.set_cons_succ]
        refine wpAnyH_take (i := 20) (v := undef) (by simp only [List.getElem?_toArray, List.getElem?_cons_zero, List.getElem?_cons_succ]; rfl) (by kernel_rfl) (by kernel_rfl) (by kernel_rfl) (by exact fun _ _ _ h => h) (Or.inr ⟨by rfl, rfl⟩) (by assumption) ?_
        simp only [Act.put, List.setIfInBounds_toArray, List.set_cons_zero, List.set_cons_succ]
        refine wpAnyH_take (i := 21) (v := undef) (by simp only [List.getElem?_toArray, List.getElem?_cons_zero, List.getElem?_cons_succ]; rfl) (by kernel_rfl) (by kernel_rfl) (by kernel_rfl) (by exact fun _ _ _ h => h) (Or.inr ⟨by rfl, rfl⟩) (by assumption) ?_
        simp only [Act.put, List.setIfInBounds_toArray, List.set_cons_zero, List.set_cons_succ]
        refine wpAnyH_take (i := 22) (v := .bool false) (by simp only [List.getElem?_toArray, List.getElem?_cons_zero, List.getElem?_cons_succ]; rfl) (by kernel_rfl) (by kernel_rfl) (by kernel_rfl) (by exact fun _ _ _ h => h) (Or.inl ⟨by rfl, ?_⟩) (by assumption) ?_
        · intro w hSw
          go_simp
        simp only [Act.put, List.setIfInBounds_toArray, List.set_cons_zero, List.set_cons_succ]
        refine wpAnyH_take (i := 23) (v := .bool false) (by simp only [List.getElem?_toArray, List.getElem?_cons_zero, List.getElem?_cons_succ]; rfl) (by kernel_rfl) (by kernel_rfl) (by kernel_rfl) (by exact fun _ _ _ h => h) (Or.inl ⟨by rfl, ?_⟩) (by assumption) ?_
        · intro w hSw
          go_simp
        simp only [Act.put, List.setIfInBounds_toArray, List.set_cons_zero, List.set_cons_succ]
        refine wpAnyH_take (i := 24) (v := .bool false) (by simp only [List.getElem?_toArray, List.getElem?_cons_zero, List.getElem?_cons_succ]; rfl) (by kernel_rfl) (by kernel_rfl) (by kernel_rfl) (by exact fun _ _ _ h => h) (Or.inl ⟨by rfl, ?_⟩) (by assumption) ?_
        · intro w hSw
          go_simp
        simp only [Act.put, List.setIfInBounds_toArray, List.set_cons_zero, List.set_cons_succ]
        refine wpAnyH_take (i := 25) (v := ev a8) (by simp only [List.getElem?_toArray, List.getElem?_cons_zero, List.getElem?_cons_succ]; rfl) (by kernel_rfl) (by kernel_rfl) (by kernel_rfl) (by exact fun _ _ _ h => h) (Or.inl ⟨by rfl, ?_⟩) (by assumption) ?_
        · intro w hSw
          go_simp
        simp only [Act.put, List.setIfInBounds_toArray, List.set_cons_zero, List.set_cons_succ]
        refine wpAnyH_take (i := 26) (v := .bool true) (by simp only [List.getElem?_toArray, List.getElem?_cons_zero, List.getElem?_cons_succ]; rfl) (by kernel_rfl) (by kernel_rfl) (by kernel_rfl) (by exact fun _ _ _ h => h) (Or.inl ⟨by rfl, ?_⟩) (by assumption) ?_
        · intro w hSw
          go_simp
        simp only [Act.put, List.setIfInBounds_toArray, List.set_cons_zero, List.set_cons_succ]
        refine wpAnyH_take (i := 27) (v := .bool true) (by simp only [List.getElem?_toArray, List.getElem?_cons_zero, List.getElem?_cons_succ]; rfl) (by kernel_rfl) (by kernel_rfl) (by kernel_rfl) (by exact fun _ _ _ h => h) (Or.inl ⟨by rfl, ?_⟩) (by assumption) ?_
        · intro w hSw
          go_simp
        simp only [Act.put, List.setIfInBounds_toArray, List.set_cons_zero, List.set_cons_succ]
        refine wpAnyH_take (i := 28) (v := ev a8) (by simp only [List.getElem?_toArray, List.getElem?_cons_zero, List.getElem?_cons_succ]; rfl) (by kernel_rfl) (by kernel_rfl) (by kernel_rfl) (by exact fun _ _ _ h => h) (Or.inl ⟨by rfl, ?_⟩) (by assumption) ?_
        · intro w hSw
          go_simp
        simp only [Act.put, List.setIfInBounds_toArray, List.set_cons_zero, List.set_cons_succ]
        refine wpAnyH_ready (rs := [29]) (by kernel_rfl) (by simp) ?_
        refine AllReadyH.cons (by simp only [List.getElem?_toArray, List.getElem?_cons_zero, List.getElem?_cons_succ]; rfl) (fun K0 hK => ?_) AllReadyH.nil
        go_simp
        refine (his _ (by first | exact (Below.refl _ _).drew | exact Below.refl _ _)).mono ?_
        rintro e w2 ⟨rfl, b2⟩
        have B2 := (Below.refl w1.heap.size w1).drew.trans (b2.mono (Nat.le_refl _))
        go_wp2_with fail
        refine hK.out _ _ ⟨kept b2 y1, kept b2 y2⟩ (fun hHeld => ?_)
        clear hK K0
        refine wpAnyH_take (i := 30) (v := .bool false) (by simp only [List.getElem?_toArray, List.getElem?_cons_zero, List.getElem?_cons_succ]; rfl) (by kernel_rfl) (by kernel_rfl) (by kernel_rfl) (by exact fun _ _ _ h => h) (Or.inl ⟨by rfl, ?_⟩) (by assumption) ?_
        · intro w hSw
          go_simp
        simp only [Act.put, List.setIfInBounds_toArray, List.set_cons_zero, List.set_cons_succ]
        refine wpAnyH_take (i := 31) (v := .bool false) (by simp only [List.getElem?_toArray, List.getElem?_cons_zero, List.getElem?_cons_succ]; rfl) (by kernel_rfl) (by kernel_rfl) (by kernel_rfl) (by exact fun _ _ _ h => h) (Or.inl ⟨by rfl, ?_⟩) (by assumption) ?_
        · intro w hSw
          go_simp
        simp only [Act.put, List.setIfInBounds_toArray, List.set_cons_zero, List.set_cons_succ]
        refine wpAnyH_take (i := 32) (v := .bool false) (by simp only [List.getElem?_toArray, List.getElem?_cons_zero, List.getElem?_cons_succ]; rfl) (by kernel_rfl) (by kernel_rfl) (by kernel_rfl) (by exact fun _ _ _ h => h) (Or.inl ⟨by rfl, ?_⟩) (by assumption) ?_
        · intro w hSw
          go_simp
        simp only [Act.put, List.setIfInBounds_toArray, List.set_cons_zero, List.set_cons_succ]
        refine wpAnyH_done (by kernel_rfl) ?_ _
        have HT2 := hid (HT1.out.then (Turn.of_below B2))
        have HO2 := hid (ownsRow_below HO1.out B2)
        have HM2 := hid (HM1.out.on B2)
        have HSV := hid (HSU.out.trans (by simp) : (List.range (i + 1)).filter M.on = (List.range i).filter M.on)
        clear his y1 y2 b2 B2 hHeld
        go_wp2_with fail
        go_roundw
        case rel => exact ⟨i + 1, by omega, by go_num, by rw [HSV.out]; exact HO2.out, by rw [HSV.out]; exact HNIL.out, ⟨D1, c1, HM2.out⟩, HT2.out⟩
        case measure => simp [RowKit.intOf]; omega
    · obtain rfl : i = 30 := by omega
      obtain ⟨va, vc, rfl, hvr⟩ := ownsRow_slice ow
      have hpg := fun (w' : World) (hb' : Below wr.heap.size wr w') => (hlm.on hb').pages
      have hep := fun (w' : World) (hb' : Below wr.heap.size wr w') => (hlm.on hb').epoch
      have hth : there (fun _ => none) V = (List.range 30).filter M.on := HR.out.thereL
      rw [hth] at hpg
      have y1 : wr.cell? ⟨x, 120, none⟩ = some (.int .i64 (ep : Int)) := by rw [(HMT.out wr ht).at_ _ (by omega), M.val_ep, HR.out.ep]
      have hvr' : Nums .i64 wr va ((List.range 30).filter M.on).length vc ((List.range 30).filter M.on) := hvr
      generalize (List.range 30).filter M.on = L at *
      have hsi := fun (a : Option Addr) (cap : Nat) (w1 w' : World) (b1 : Below wr.heap.size wr w1) (hn : Nums .i64 w1 a L.length cap L) (hb' : Below w1.heap.size w1 w') => RefW.sameints_w a L.length cap L va L.length vc L w' (hn.below hb') ((hvr'.below b1).below hb')
      simp only [decide_true] at hsi
      clear hvr hvr' ow hnil hth ht hlm
      go_upto_region 10 with fail
      refine wp_region_held_drew (S := fun w' => w'.cell? ⟨x, 120, none⟩ = some (.int .i64 (ep : Int))) (by kernel_rfl) y1 (fun hHeld => ?_)
      refine wpAnyH_take (i := 0) (v := ptr s) (by simp only [List.getElem?_toArray, List.getElem?_cons_zero]; rfl) (by kernel_rfl) (by kernel_rfl) (by kernel_rfl) (by exact fun _ _ _ h => h) (Or.inl ⟨by rfl, ?_⟩) (by assumption) ?_
      · intro w hSw
        go_simp
      simp only [Act.put, List.setIfInBounds_toArray, List.set_cons_zero, List.set_cons_succ]
      refine wpAnyH_take (i := 2) (v := .slice va L.length vc) (by simp only [List.getElem?_toArray, List.getElem?_cons_zero, List.getElem?_cons_succ]; rfl) (by kernel_rfl) (by kernel_rfl) (by kernel_rfl) (by exact fun _ _ _ h => h) (Or.inl ⟨by rfl, ?_⟩) (by assumption) ?_
      · intro w hSw
        go_simp
      simp only [Act.put, List.setIfInBounds_toArray, List.set_cons_zero, List.set_cons_succ]
      refine wpAnyH_ready (rs := [1]) (by kernel_rfl) (by simp) ?_
      refine AllReadyH.cons (by simp only [List.getElem?_toArray, List.getElem?_cons_zero, List.getElem?_cons_succ]; rfl) (fun K0 hK => ?_) AllReadyH.nil
      go_simp
      refine (hpg _ (by first | exact (Below.refl _ _).drew | exact Below.refl _ _)).mono ?_
      rintro e w2 ⟨⟨a2, c2, rfl, n2⟩, b2⟩
      have B2 := (Below.refl wr.heap.size wr).drew.trans (b2.mono (Nat.le_refl _))
      go_wp2_with fail
      refine hK.out _ _ (kept b2 y1) (fun hHeld => ?_)
      clear hK K0
      refine wpAnyH_ready (rs := [3]) (by kernel_rfl) (by simp) ?_
      refine AllReadyH.cons (by simp only [List.getElem?_toArray, List.getElem?_cons_zero, List.getElem?_cons_succ]; rfl) (fun K0 hK => ?_) AllReadyH.nil
      go_simp
      refine (hsi a2 c2 w2 _ B2 n2 (Below.refl _ _)).mono ?_
      rintro e w3 ⟨rfl, b3⟩
      have B3 := B2.trans (b3.mono B2.size)
      go_wp2_with fail
      refine hK.out _ _ (kept b3 (kept b2 y1)) (fun hHeld => ?_)
      clear hK K0
      refine wpAnyH_take (i := 4) (v := .bool true) (by simp only [List.getElem?_toArray, List.getElem?_cons_zero, List.getElem?_cons_succ]; rfl) (by kernel_rfl) (by kernel_rfl) (by kernel_rfl) (by exact fun _ _ _ h => h) (Or.inl ⟨by rfl, ?_⟩) (by assumption) ?_
      · intro w hSw
        go_simp
      simp only [Act.put, List.setIfInBounds_toArray, List.set_cons_zero, List.set_cons_succ]
      refine wpAnyH_take (i := 5) (v := ptr s) (by simp only [List.getElem?_toArray, List.getElem?_cons_zero, List.getElem?_cons_succ]; rfl) (by kernel_rfl) (by kernel_rfl) (by kernel_rfl) (by exact fun _ _ _ h => h) (Or.inl ⟨by rfl, ?_⟩) (by assumption) ?_
      · intro w hSw
        go_simp
      simp only [Act.put, List.setIfInBounds_toArray, List.set_cons_zero, List.set_cons_succ]
      refine wpAnyH_take (i := 7) (v := ptr x) (by simp only [List.getElem?_toArray, List.getElem?_cons_zero, List.getElem?_cons_succ]; rfl) (by kernel_rfl) (by kernel_rfl) (by kernel_rfl) (by exact fun _ _ _ h => h) (Or.inl ⟨by rfl, ?_⟩) (by assumption) ?_
      · intro w hSw
        go_simp
      simp only [Act.put, List.setIfInBounds_toArray, List.set_cons_zero, List.set_cons_succ]
      refine wpAnyH_take (i := 8) (v := .pointer (some ⟨x, 0, none⟩)) (by simp only [List.getElem?_toArray, List.getElem?_cons_zero, List.getElem?_cons_succ]; rfl) (by kernel_rfl) (by kernel_rfl) (by kernel_rfl) (by exact fun _ _ _ h => h) (Or.inl ⟨by rfl, ?_⟩) (by assumption) ?_
      · intro w hSw
        go_simp
      simp only [Act.put, List.setIfInBounds_toArray, List.set_cons_zero, List.set_cons_succ]
      refine wpAnyH_take (i := 9) (v := .pointer (some ⟨x, 120, none⟩)) (by simp only [List.getElem?_toArray, List.getElem?_cons_zero, List.getElem?_cons_succ]; rfl) (by kernel_rfl) (by kernel_rfl) (by kernel_rfl) (by exact fun _ _ _ h => h) (Or.inl ⟨by rfl, ?_⟩) (by assumption) ?_
      · intro w hSw
        go_simp
      simp only [Act.put, List.setIfInBounds_toArray, List.set_cons_zero, List.set_cons_succ]
      refine wpAnyH_take (i := 10) (v := .int .i64 (ep : Int)) (by simp only [List.getElem?_toArray, List.getElem?_cons_zero, List.getElem?_cons_succ]; rfl) (by kernel_rfl) (by kernel_rfl) (by kernel_rfl) (by exact fun _ _ _ h => h) (Or.inl ⟨by rfl, ?_⟩) (by assumption) ?_
      · intro w hSw
        go_simp
      simp only [Act.put, List.setIfInBounds_toArray, List.set_cons_zero, List.set_cons_succ]
      refine wpAnyH_ready (rs := [6]) (by kernel_rfl) (by simp) ?_
      refine AllReadyH.cons (by simp only [List.getElem?_toArray, List.getElem?_cons_zero, List.getElem?_cons_succ]; rfl) (fun K0 hK => ?_) AllReadyH.nil
      go_simp
      refine (hep _ B3).mono ?_
      rintro e w4 ⟨rfl, hw4⟩
      subst w4
      go_wp2_with fail
      refine hK.out _ _ (kept b3 (kept b2 y1)) (fun hHeld => ?_)
      clear hK K0
      refine wpAnyH_take (i := 11) (v := .bool true) (by simp only [List.getElem?_toArray, List.getElem?_cons_zero, List.getElem?_cons_succ]; rfl) (by kernel_rfl) (by kernel_rfl) (by kernel_rfl) (by exact fun _ _ _ h => h) (Or.inl ⟨by rfl, ?_⟩) (by assumption) ?_
      · intro w hSw
        go_simp
      simp only [Act.put, List.setIfInBounds_toArray, List.set_cons_zero, List.set_cons_succ]
      refine wpAnyH_take (i := 12) (v := .bool true) (by simp only [List.getElem?_toArray, List.getElem?_cons_zero, List.getElem?_cons_succ]; rfl) (by kernel_rfl) (by kernel_rfl) (by kernel_rfl) (by exact fun _ _ _ h => h) (Or.inl ⟨by rfl, ?_⟩) (by assumption) ?_
      · intro w hSw
        go_simp
      simp only [Act.put, List.setIfInBounds_toArray, List.set_cons_zero, List.set_cons_succ]
      refine wpAnyH_take (i := 13) (v := .bool true) (by simp only [List.getElem?_toArray, List.getElem?_cons_zero, List.getElem?_cons_succ]; rfl) (by kernel_rfl) (by kernel_rfl) (by kernel_rfl) (by exact fun _ _ _ h => h) (Or.inl ⟨by rfl, ?_⟩) (by assumption) ?_
      · intro w hSw
        go_simp
      simp only [Act.put, List.setIfInBounds_toArray, List.set_cons_zero, List.set_cons_succ]
      refine wpAnyH_done (by kernel_rfl) ?_ _
      have HF := hid (HTW.out.then (Turn.of_below B3))
      have HFM := hid (HLM.out.on B3)
      clear hpg hep hsi y1 n2 b2 b3 B2 B3 hHeld
      go_wp2_with fail
      go_ret
      exact ⟨rfl, ⟨D0, c0, HFM.out⟩, HF.out⟩
end Go.Proofs.YtbjfgdahfpfgdaaGreatDoor.PgW

namespace Go.Proofs.YtbjfgdahfpfgdaaGreatDoor.BlobW
open Go Go.RowKit Go.Proofs.YtbjfgdahfpfgdaaGreatDoor.Mem Go.Proofs.YtbjfgdahfpfgdaaGreatDoor.DevG
set_option linter.unusedVariables false
set_option maxRecDepth 100000

/-- block b: the bools F -/
structure InC (w : World) (b : Nat) (F : Nat → Bool) : Prop where
  blk : ∃ cs : Array Value, w.heap[b]? = some (.cells cs 73) ∧ cs.size = 100
  at_ : ∀ q, q < 100 → w.cell? ⟨b, q, none⟩ = some (.bool (F q))
theorem zbool100 : Tryz.zeroCells73 = Array.replicate 100 (.bool false) := by kernel_rfl
theorem InC.made (w : World) : InC (w.alloc (.cells Tryz.zeroCells73 73)) w.heap.size (fun _ => false) := by
  refine ⟨⟨_, alloc_at rfl _, by rw [zbool100]; simp⟩, fun q hq => ?_⟩
  rw [World.cell?_alloc_mark, zbool100, Array.getElem?_replicate, if_pos hq]
theorem InC.lt {w : World} {b : Nat} {F : Nat → Bool} (h : InC w b F) : b < w.heap.size := let ⟨_, e, _⟩ := h.blk; (Array.getElem?_eq_some_iff.1 e).1
theorem InC.frozen {w : World} {b : Nat} {F : Nat → Bool} (h : InC w b F) (q : Nat) : w.frozen? ⟨b, q, none⟩ = false := by
  obtain ⟨cs, h1, _⟩ := h.blk
  simp [World.frozen?, h1]
theorem InC.keep {w w' : World} {b : Nat} {F : Nat → Bool} (h : InC w b F) (e : w'.heap[b]? = w.heap[b]?) : InC w' b F :=
  ⟨by rw [e]; exact h.blk, fun q hq => by rw [World.cell?_of_block (w := w) e]; exact h.at_ q hq⟩
theorem InC.below {w w' : World} {b : Nat} {F : Nat → Bool} (h : InC w b F) (hb : Below w.heap.size w w') : InC w' b F := h.keep (hb.block b h.lt)
theorem InC.turn {S : List Nat} {w w' : World} {b : Nat} {F : Nat → Bool} (h : InC w b F) (t : Turn S w w') (hb : b ∉ S) : InC w' b F := h.keep (t.block b h.lt hb)
theorem InC.set {w : World} {b : Nat} {F : Nat → Bool} (h : InC w b F) (p : Nat) (hp : p < 100) (v : Bool) : InC (w.setCell ⟨b, p, none⟩ (.bool v)) b (fun q => if q = p then v else F q) := by
  obtain ⟨cs, h1, hs⟩ := h.blk
  refine ⟨⟨_, heap_setCell_same w b p cs _ _ h1, by simp [hs]⟩, fun q hq => ?_⟩
  by_cases e : q = p
  · subst e
    rw [if_pos rfl]
    exact World.cell?_setCell_same w _ _ (h.at_ q hq)
  · rw [if_neg e, World.cell?_setCell_other w (a := ⟨b, p, none⟩) (b := ⟨b, q, none⟩) (v := _) (fun h => e (congrArg Addr.off h).symm)]
    exact h.at_ q hq
end Go.Proofs.YtbjfgdahfpfgdaaGreatDoor.BlobW
namespace Go.Proofs.YtbjfgdahfpfgdaaGreatDoor.PgW
open Go Go.RowKit Go.Maps Go.Proofs.YtbjfgdahfpfgdaaGreatDoor.Mem Go.Proofs.YtbjfgdahfpfgdaaGreatDoor.MapsW Go.Proofs.YtbjfgdahfpfgdaaGreatDoor.SeeW Go.Proofs.YtbjfgdahfpfgdaaGreatDoor.DevG Go.Proofs.YtbjfgdahfpfgdaaGreatDoor.PairG Go.Proofs.YtbjfgdahfpfgdaaGreatDoor.RefsW Go.Proofs.YtbjfgdahfpfgdaaGreatDoor.PgP Go.Proofs.YtbjfgdahfpfgdaaGreatDoor.RootP Go.Proofs.YtbjfgdahfpfgdaaGreatDoor.RootW Go.Proofs.YtbjfgdahfpfgdaaGreatDoor.BlobW
set_option linter.unusedVariables false
theorem and1 (A : Int) : ∃ r : Nat, r ≤ 1 ∧ bits .and .i64 A 1 = (r : Int) := by
  have e : (BitVec.ofInt 64 (1 : Int)).toNat = 1 := by rw [BitVec.toNat_ofInt]; rfl
  refine ⟨(BitVec.ofInt 64 A &&& BitVec.ofInt 64 (1 : Int)).toNat, ?_, ?_⟩
  · rw [BitVec.toNat_and, e, Nat.and_one_is_mod]; omega
  · show IntKind.i64.wrap ((BitVec.ofInt 64 A &&& BitVec.ofInt 64 (1 : Int)).toNat : Int) = _
    have : (BitVec.ofInt 64 A &&& BitVec.ofInt 64 (1 : Int)).toNat ≤ 1 := by rw [BitVec.toNat_and, e, Nat.and_one_is_mod]; omega
    generalize (BitVec.ofInt 64 A &&& BitVec.ofInt 64 (1 : Int)).toNat = x at this ⊢
    rw [IntKind.wrap_i64]
    omega
theorem own_lt {w : World} {base : Nat} {e : TypeId} {g o n c m : Nat} {xs : List Value} (h : w.ownsRow base e 1 (.slice (some ⟨g, o, none⟩) n c) m xs) : g < w.heap.size := by
  rcases h.2 with ⟨e, _⟩ | ⟨g', c', cur, e, hb, hc, _⟩
  · cases e
  · cases e; exact (Array.getElem?_eq_some_iff.1 hc).1
theorem tdiv_7 {z : Int} (h : -9223372036854775808 ≤ z ∧ z ≤ 9223372036854775807) : -9223372036854775808 ≤ z.tdiv 7 ∧ z.tdiv 7 ≤ 9223372036854775807 := by
  have h1 := Int.mul_tdiv_add_tmod z 7
  have h2 := Int.tmod_lt_of_pos z (show (0 : Int) < 7 by decide)
  have h3 := Int.lt_tmod_of_pos z (show (0 : Int) < 7 by decide)
  omega
theorem tdiv_300 {z : Int} (h : -9223372036854775808 ≤ z ∧ z ≤ 9223372036854775807) : -9223372036854775808 ≤ z.tdiv 300 ∧ z.tdiv 300 ≤ 9223372036854775807 := by
  have h1 := Int.mul_tdiv_add_tmod z 300
  have h2 := Int.tmod_lt_of_pos z (show (0 : Int) < 300 by decide)
  have h3 := Int.lt_tmod_of_pos z (show (0 : Int) < 300 by decide)
  omega
theorem LameAt.alloc {Y : List Nat} {bs : List Addr} {w : World} {lo b n c d : Nat} {V : Int → Option (List Nat)} {C : Nat → List Nat} {ep np : Nat} {m : Mp} {D : Dv} {S : St} (h : LameAt Y bs w lo b n c d V C ep np m D S) (o : Obj) : LameAt (w.heap.size :: Y) bs (w.alloc o) lo b n c d V C ep np m D S := by
  have hb := (Below.refl w.heap.size w).alloc (Nat.le_refl _) o
  refine ⟨h.at_.below hb, h.li, h.bl, h.b1, h.b2, h.cl, h.np, h.ev.below hb, Nat.le_trans h.los hb.size, h.ep, fun y hy => ?_⟩
  rcases List.mem_cons.1 hy with rfl | hy
  · refine ⟨by simp, fun hm => ?_⟩
    rcases List.mem_cons.1 hm with e | hm
    · have := h.at_.dlt; omega
    · obtain ⟨es, ck, hk⟩ := h.at_.maps _ hm
      have := (Array.getElem?_eq_some_iff.1 hk).1
      omega
  · exact ⟨Nat.lt_of_lt_of_le (h.out y hy).1 hb.size, (h.out y hy).2⟩
theorem LameAt.on {Y : List Nat} {bs : List Addr} {w w' : World} {lo b n c d : Nat} {V : Int → Option (List Nat)} {C : Nat → List Nat} {ep np : Nat} {m : Mp} {D : Dv} {S : St} (h : LameAt Y bs w lo b n c d V C ep np m D S) (hb : Below w.heap.size w w') : LameAt Y bs w' lo b n c d V C ep np m D S :=
  ⟨h.at_.below hb, h.li, h.bl, h.b1, h.b2, h.cl, h.np, h.ev.below hb, Nat.le_trans h.los hb.size, h.ep, fun y hy => ⟨Nat.lt_of_lt_of_le (h.out y hy).1 hb.size, (h.out y hy).2⟩⟩
theorem LameAt.more {Y : List Nat} {bs : List Addr} {w w' : World} {lo b n c d : Nat} {V : Int → Option (List Nat)} {C : Nat → List Nat} {ep np : Nat} {m : Mp} {D : Dv} {S : St} (h : LameAt Y bs w lo b n c d V C ep np m D S) (hb : Below w.heap.size w w') {g : Nat} (h1 : w.heap.size ≤ g) (h2 : g < w'.heap.size) : LameAt (g :: Y) bs w' lo b n c d V C ep np m D S := by
  have k := h.on hb
  refine ⟨k.at_, k.li, k.bl, k.b1, k.b2, k.cl, k.np, k.ev, k.los, k.ep, fun y hy => ?_⟩
  rcases List.mem_cons.1 hy with rfl | hy
  · refine ⟨h2, fun hm => ?_⟩
    rcases List.mem_cons.1 hm with e | hm
    · have := h.at_.dlt; omega
    · obtain ⟨es, ck, hk⟩ := h.at_.maps _ hm
      have := (Array.getElem?_eq_some_iff.1 hk).1
      omega
  · exact k.out y hy
theorem LameAt.mono {Y : List Nat} {bs : List Addr} {w : World} {lo b n n' c c' d : Nat} {V : Int → Option (List Nat)} {C : Nat → List Nat} {ep np np' : Nat} {m : Mp} {D : Dv} {S : St} (h : LameAt Y bs w lo b n c d V C ep np m D S) (hn : n ≤ n') (hc : c ≤ c') (hp : np ≤ np') : LameAt Y bs w lo b n' c' d V C ep np' m D S :=
  ⟨h.at_.mono hn (Nat.le_refl _), h.li, h.bl, h.b1, h.b2, Nat.le_trans h.cl hc, Nat.le_trans h.np hp, h.ev, h.los, h.ep, h.out⟩
theorem LameAt.set {Y : List Nat} {bs : List Addr} {w w' : World} {lo b n c d : Nat} {V : Int → Option (List Nat)} {C : Nat → List Nat} {ep np : Nat} {m : Mp} {D : Dv} {S : St} (h : LameAt Y bs w lo b n c d V C ep np m D S) {y : Nat} (hy : y ∈ Y) (ht : Turn [y] w w') (hb : ∃ v, w.cell? ⟨y, 0, none⟩ = some v ∧ ∀ z, v ≠ .int .u8 z) (hl : lo ≤ y) : LameAt Y bs w' lo b n c d V C ep np m D S := by
  obtain ⟨o1, o2⟩ := h.out y hy
  refine ⟨h.at_.turn ht (fun hm => o2 (by rw [List.mem_singleton.1 hm]; exact List.mem_cons_self)) (fun x hx hm => o2 (by rw [← List.mem_singleton.1 hm]; exact List.mem_cons_of_mem _ hx)) (fun x hx => by rw [List.mem_singleton.1 hx]; exact .inr hb), h.li, h.bl, h.b1, h.b2, h.cl, h.np, h.ev.turn ht (fun x hx => by rw [List.mem_singleton.1 hx]; exact hl), Nat.le_trans h.los ht.size, h.ep, fun y hy => ⟨Nat.lt_of_lt_of_le (h.out y hy).1 ht.size, (h.out y hy).2⟩⟩
theorem _root_.Go.Proofs.YtbjfgdahfpfgdaaGreatDoor.BlobW.InC.c0 {w : World} {b : Nat} {F : Nat → Bool} (h : InC w b F) : ∃ v, w.cell? ⟨b, 0, none⟩ = some v ∧ ∀ z, v ≠ .int .u8 z := ⟨_, h.at_ 0 (by decide), fun z e => by cases e⟩
theorem _root_.Go.Proofs.YtbjfgdahfpfgdaaGreatDoor.BlobW.InC.u8 {w : World} {b : Nat} {F : Nat → Bool} (h : InC w b F) (off : Nat) (z : Int) : w.cell? ⟨b, off, none⟩ ≠ some (.int .u8 z) := by
  intro e
  obtain ⟨cs, h1, hs⟩ := h.blk
  by_cases ho : off < 100
  · rw [h.at_ off ho] at e; cases e
  · have : cs[off]? = none := by rw [Array.getElem?_eq_none_iff]; omega
    simp [World.cell?, h1, this] at e
/-- pages that were committed: there was a commit -/
theorem Store.ep_pos {Y : List Nat} {bs : List Addr} {w : World} {lo b n c s d : Nat} {V N : Int → Option (List Nat)} {ep : Nat} (h : Store Y bs w lo b n c s d V N ep) (hp : ∃ p, (V p).isSome = true) : 0 < ep := by
  obtain ⟨m, D, I, S, h⟩ := h
  obtain ⟨p, hp⟩ := hp
  rw [← h.ep]
  refine Nat.pos_of_ne_zero fun h0 => ?_
  rw [h.st.fit.zero h0 p] at hp
  cases hp
end Go.Proofs.YtbjfgdahfpfgdaaGreatDoor.PgW

namespace Go.Proofs.YtbjfgdahfpfgdaaGreatDoor.DevG
open Go Go.RowKit Go.Maps Go.Proofs.YtbjfgdahfpfgdaaGreatDoor.Mem Go.Proofs.YtbjfgdahfpfgdaaGreatDoor.MapsW
set_option linter.unusedVariables false

/-- a word with a bit laid on -/
theorem or_u32 (a : Int) (k : Nat) (hk : 0 < k) (hk2 : k < 4294967296) : ∃ t : Nat, bits .or .u32 a (k : Int) = (t : Int) ∧ t ≠ 0 ∧ t < 4294967296 := by
  have e : (BitVec.ofInt 32 (k : Int)).toNat = k := by
    rw [BitVec.toNat_ofInt]; omega
  have hlt := (BitVec.ofInt 32 a ||| BitVec.ofInt 32 (k : Int)).isLt
  refine ⟨(BitVec.ofInt 32 a ||| BitVec.ofInt 32 (k : Int)).toNat, ?_, ?_, by omega⟩
  · show IntKind.u32.wrap ((BitVec.ofInt 32 a ||| BitVec.ofInt 32 (k : Int)).toNat : Int) = _
    generalize (BitVec.ofInt 32 a ||| BitVec.ofInt 32 (k : Int)).toNat = x at hlt ⊢
    rw [IntKind.wrap_u32]
    omega
  · rw [BitVec.toNat_or, e]
    have := Nat.right_le_or (n := (BitVec.ofInt 32 a).toNat) (m := k)
    omega
/-- a fault: what it leaves -/
structure Faulted (D D' : Dv) (i : Int) (x : Option (List Nat)) : Prop where
  idle : D'.Idle
  blocks : D'.blocks = D.blocks
  read : ∀ j, D'.read j = if j = i then x else D.read j
  may : ∀ j, j ≠ i → D'.may j = D.may j
end Go.Proofs.YtbjfgdahfpfgdaaGreatDoor.DevG
namespace Go.Proofs.YtbjfgdahfpfgdaaGreatDoor.RootW
open Go Go.RowKit Go.Maps Go.Proofs.YtbjfgdahfpfgdaaGreatDoor.Mem Go.Proofs.YtbjfgdahfpfgdaaGreatDoor.MapsW Go.Proofs.YtbjfgdahfpfgdaaGreatDoor.RootP Go.Proofs.YtbjfgdahfpfgdaaGreatDoor.DevG
set_option linter.unusedVariables false

/-- the roots of RootFaults -/
def rt (i : Nat) : Rt := madeR i [(i : Int), 5]
theorem rt_fine {i : Nat} (h0 : 0 < i) (h : i ≤ 6000) : Fine (rt i) := by
  refine ⟨⟨?_, ?_, ?_, ?_⟩, ?_⟩
  · show (1 : Int) ≤ (i : Int); omega
  · show (i : Int) ≤ 1099511627776; omega
  · show 2 ≤ 16; decide
  · intro x hx
    obtain ⟨z, hz, rfl⟩ := List.mem_map.1 hx
    show 0 ≤ z ∧ z ≤ 6000
    simp only [List.mem_cons, List.not_mem_nil, or_false] at hz
    omega
  · intro x hx
    obtain ⟨z, hz, rfl⟩ := List.mem_map.1 hx
    exact sumOf_lt z
/-- n - 1 saves and one more: the device -/
structure Full (E : Dv) (k : Nat) : Prop where
  idle : E.Idle
  blocks : E.blocks = 400
  new : ∀ s ∈ [(k + 2) % 2, (k + 2) % 2 + 100], E.read (s : Int) = some (enc (rt (k + 2)))
  old : ∀ s ∈ [(k + 1) % 2, (k + 1) % 2 + 100], E.read (s : Int) = some (enc (rt (k + 1)))
  may : ∀ s ∈ spots 100, E.may (s : Int) = true
theorem Full.one {E : Dv} {k : Nat} (h : Full E k) (hk : k ≤ 1000) : ∀ s ∈ spots 100, oneOf E (s : Int) = if s % 100 = (k + 2) % 2 then some (rt (k + 2)) else some (rt (k + 1)) := by
  intro s hs
  have hm := spots_mem hs
  by_cases c : s % 100 = (k + 2) % 2
  · rw [if_pos c]
    exact one_of (rt_fine (by omega) (by omega)) (h.new s (by simp only [List.mem_cons, List.not_mem_nil, or_false]; omega))
  · rw [if_neg c]
    exact one_of (rt_fine (by omega) (by omega)) (h.old s (by simp only [List.mem_cons, List.not_mem_nil, or_false]; omega))
end Go.Proofs.YtbjfgdahfpfgdaaGreatDoor.RootW

namespace Go.Proofs.YtbjfgdahfpfgdaaGreatDoor.PgW
open Go Go.RowKit Go.Maps Go.Proofs.YtbjfgdahfpfgdaaGreatDoor.Mem Go.Proofs.YtbjfgdahfpfgdaaGreatDoor.MapsW Go.Proofs.YtbjfgdahfpfgdaaGreatDoor.SeeW Go.Proofs.YtbjfgdahfpfgdaaGreatDoor.DevG Go.Proofs.YtbjfgdahfpfgdaaGreatDoor.PairG Go.Proofs.YtbjfgdahfpfgdaaGreatDoor.RefsW Go.Proofs.YtbjfgdahfpfgdaaGreatDoor.PgP
set_option linter.unusedVariables false
set_option maxRecDepth 100000

end Go.Proofs.YtbjfgdahfpfgdaaGreatDoor.PgW

namespace Go.Proofs.YtbjfgdahfpfgdaaGreatDoor.PgW
open Go Go.RowKit Go.Maps Go.Proofs.YtbjfgdahfpfgdaaGreatDoor.Mem Go.Proofs.YtbjfgdahfpfgdaaGreatDoor.MapsW Go.Proofs.YtbjfgdahfpfgdaaGreatDoor.SeeW Go.Proofs.YtbjfgdahfpfgdaaGreatDoor.DevG Go.Proofs.YtbjfgdahfpfgdaaGreatDoor.PairG Go.Proofs.YtbjfgdahfpfgdaaGreatDoor.RefsW Go.Proofs.YtbjfgdahfpfgdaaGreatDoor.PgP Go.Proofs.YtbjfgdahfpfgdaaGreatDoor.RootP Go.Proofs.YtbjfgdahfpfgdaaGreatDoor.RootW
set_option linter.unusedVariables false
set_option maxRecDepth 100000

theorem Store.sub {Y Y' : List Nat} {bs : List Addr} {w : World} {lo b n c : Nat} {s d : Nat} {V N : Int → Option (List Nat)} {ep : Nat} (h : Store Y bs w lo b n c s d V N ep) (hY : ∀ y ∈ Y', y ∈ Y) : Store Y' bs w lo b n c s d V N ep := by
  obtain ⟨m, D, I, S, h⟩ := h
  exact ⟨m, D, I, S, ⟨h.at_, h.st, h.hs, h.hd, h.hH, h.bl, h.b1, h.b2, h.cl, h.ic, h.ev, h.los, h.now, h.ep, fun y hy => h.out y (hY y hy)⟩⟩
/-- a store, and the model of it -/
structure Play (Y : List Nat) (bs : List Addr) (w : World) (lo b n c s d x : Nat) (V N : Int → Option (List Nat)) (ep : Nat) (M : Md) : Prop where
  st : Store Y bs w lo b n c s d V N ep
  md : MdAt w x M
  rel : Rel M V N ep
  mem : x ∈ Y
  lox : lo ≤ x
theorem Play.below {Y : List Nat} {bs : List Addr} {w w' : World} {lo b n c s d x : Nat} {V N : Int → Option (List Nat)} {ep : Nat} {M : Md} (h : Play Y bs w lo b n c s d x V N ep M) (hb : Below w.heap.size w w') : Play Y bs w' lo b n c s d x V N ep M :=
  ⟨h.st.below hb, h.md.below hb, h.rel, h.mem, h.lox⟩
theorem Play.alloc {Y : List Nat} {bs : List Addr} {w : World} {lo b n c s d x : Nat} {V N : Int → Option (List Nat)} {ep : Nat} {M : Md} (h : Play Y bs w lo b n c s d x V N ep M) (o : Obj) : Play (w.heap.size :: Y) bs (w.alloc o) lo b n c s d x V N ep M :=
  ⟨h.st.alloc o, h.md.below ((Below.refl _ w).alloc (Nat.le_refl _) o), h.rel, by simp [h.mem], h.lox⟩
theorem Play.sub {Y Y' : List Nat} {bs : List Addr} {w : World} {lo b n c s d x : Nat} {V N : Int → Option (List Nat)} {ep : Nat} {M : Md} (h : Play Y bs w lo b n c s d x V N ep M) (hY : ∀ y ∈ Y', y ∈ Y) (hx : x ∈ Y') : Play Y' bs w lo b n c s d x V N ep M :=
  ⟨h.st.sub hY, h.md, h.rel, hx, h.lox⟩
/-- the model's cell is another -/
theorem Store.cell {Y : List Nat} {bs : List Addr} {w w' : World} {lo b n c s d x : Nat} {V N : Int → Option (List Nat)} {ep : Nat} {M : Md} (h : Store Y bs w lo b n c s d V N ep) (hM : MdAt w x M) (hx : x ∈ Y) (hl : lo ≤ x) (ht : Turn [x] w w') : Store Y bs w' lo b n c s d V N ep := h.set hx ht (.inr hM.c0) hl
end Go.Proofs.YtbjfgdahfpfgdaaGreatDoor.PgW
