/- A pair written on a device that may fall; How all is to lie, while it is written; what elsewhere leaves a store; What a store's write does, in plain words; What a commit is in plain words; what a layout may be written by; Plain facts: what is found of a device on which roots were saved; Plain facts: two roots saved one behind the other. -/
import Derived.Test.YtbjfgdahfpfgdaaGreatDoorKeepRoomP10
import Derived.Test.YtbjfgdahfpfgdaaGreatDoorKeepRoomP4
import Derived.Test.YtbjfgdahfpfgdaaGreatDoorKeepRoomP8
import Derived.Test.YtbjfgdahfpfgdaaGreatDoorKeepRoomP9
import Derived.Test.YtbjfgdahfpfgdaaGreatDoorKeepRoomP5
import Derived.Test.YtbjfgdahfpfgdaaGreatDoorKeepRoomP3
namespace Go.Proofs.YtbjfgdahfpfgdaaGreatDoor.PgW
open Go Go.RowKit Go.Maps Go.Proofs.YtbjfgdahfpfgdaaGreatDoor.Mem Go.Proofs.YtbjfgdahfpfgdaaGreatDoor.MapsW Go.Proofs.YtbjfgdahfpfgdaaGreatDoor.SeeW Go.Proofs.YtbjfgdahfpfgdaaGreatDoor.DevG Go.Proofs.YtbjfgdahfpfgdaaGreatDoor.PairG Go.Proofs.YtbjfgdahfpfgdaaGreatDoor.RefsW Go.Proofs.YtbjfgdahfpfgdaaGreatDoor.PgP
set_option linter.unusedVariables false
set_option maxRecDepth 100000

theorem pis_w (lo d n : Nat) (m : Mp) (D : Dv) (p h c : Nat) (i : Int) (w : World) (k : PR w lo d n m D p h c) (hi : Fits i) :
    Calls Tryz.prog 98 #[ptr p, .int .i64 i] w fun e w' => e = .returned (.bool (decide (0 ≤ i ∧ i < h))) ∧ w = w' := by
  obtain ⟨c0, c1, c2, c3, f3⟩ := k.c
  clear k
  by_cases h0 : 0 ≤ i
  · by_cases h1 : i < h
    · go_enter Tryz.func98, Tryz.ntmps98
      go_wp2
      go_ret
      exact ⟨ret_bool (by simp [h0, h1]), rfl⟩
    · have h2 : decide (i < (h : Int)) = false := decide_eq_false h1
      go_enter Tryz.func98, Tryz.ntmps98
      go_wp2
      go_ret
      exact ⟨ret_bool (by simp), rfl⟩
  · have h2 : decide ((0 : Int) ≤ i) = false := decide_eq_false h0
    go_enter Tryz.func98, Tryz.ntmps98
    go_wp2
    go_ret
    exact ⟨ret_bool (by simp), rfl⟩
/-- a pair is written: what is told, what the device is then -/
def wstage (D : Dv) (h i : Nat) (l : List Nat) : Nat → Dv
  | 0 => D
  | 1 => DevG.Dv.wrote D i l
  | _ => DevG.Dv.wrote (DevG.Dv.wrote D i l) (i + h) l
def wpair (D : Dv) (h i : Nat) (l : List Nat) : Option Nat × Dv :=
  if D.tick.down then (some 5, D.tick) else if (DevG.Dv.wrote D i l).tick.down then (some 5, (DevG.Dv.wrote D i l).tick) else (none, wstage D h i l 2)
theorem wstage_in (D : Dv) (h i : Nat) (l : List Nat) (k : Nat) : (wstage D h i l k).np ≤ D.np + 2 ∧ (wstage D h i l k).calls ≤ D.calls + 2 ∧ (wstage D h i l k).blocks = D.blocks ∧ (wstage D h i l k).fuse ≤ D.fuse := by
  have a1 := DevG.Dv.wrote_np D i l
  have a2 := DevG.Dv.wrote_np (DevG.Dv.wrote D i l) (i + h) l
  obtain ⟨b1, b2, b3, b4⟩ := a1
  obtain ⟨c1, c2, c3, c4⟩ := a2
  match k with
  | 0 => exact ⟨by simp [wstage], by simp [wstage], rfl, Nat.le_refl _⟩
  | 1 => simp only [wstage]; omega
  | k + 2 => simp only [wstage]; omega
def WriteTo (bs : List Addr) (w : World) (lo d n : Nat) (m : Mp) (p h c i : Nat) (l : List Nat) (r : Option Nat × Dv) (e : Ending) (w' : World) : Prop :=
  (match r.1 with
    | none => e = .returned (.tuple #[PairG.Rf (i : Int) (Crc.sum l), .nilIface])
    | some q => ∃ a, bs[q]? = some a ∧ e = .returned (.tuple #[PairG.Rf 0 0, ev a])) ∧ PR w' lo d (n + 2) m r.2 p h c ∧ Turn (own d m) w w'
set_option maxHeartbeats 3200000 in
theorem pwrite_w (bs : List Addr) (lo d n : Nat) (m : Mp) (D : Dv) (p h c : Nat) (i : Nat) (a : Option Addr) (cap : Nat) (l : List Nat) (w : World) (k : PR w lo d n m D p h c) (hB : Ev w lo bs five) (hi : i < h) (hl : Nums .u8 w a 256 cap l) (hb : Crc.Bytes l) (hn : n < 850000) (hc : D.calls < 900000) (hz : D.fuse ≤ 1000000) :
    Calls Tryz.prog 90 #[ptr p, .int .i64 i, .slice a 256 cap] w (WriteTo bs w lo d n m p h c i l (wpair D h i l)) := by
  have hhf := k.half
  have hmo := k.most
  have hf : Fits (i : Int) := fits_nat (by omega)
  have hd : decide (0 ≤ (i : Int) ∧ (i : Int) < h) = true := by rw [decide_eq_true_eq]; omega
  have bx := (Below.refl w.heap.size w).alloc (Nat.le_refl _) (.cells #[.int .i64 0, .int .u32 0] 111)
  have kx := k.below bx
  obtain ⟨c0, c1, c2, c3, f3⟩ := kx.c
  have f1 : IntKind.i64.wrap ((i : Int) + (h : Int)) = ((i + h : Nat) : Int) := by rw [IntKind.wrap_i64]; omega
  have hpi := pis_w lo d n m D p h c i _ kx hf
  rw [hd] at hpi
  have HI := hid (wstage_in D h i l)
  have hW : wpair D h i l = if D.tick.down then (some 5, D.tick) else if (wstage D h i l 1).tick.down then (some 5, (wstage D h i l 1).tick) else (none, wstage D h i l 2) := rfl
  have HW := hid hW
  clear hW
  go_enter Tryz.func90, Tryz.ntmps90
  go_wp2_with fail
  refine hpi.mono ?_
  rintro e w' ⟨rfl, rfl⟩
  go_wp2_with fail
  have b1 := kx.below ((Below.refl _ _).alloc (Nat.le_refl _) (.cells #[.int .i64 i, .int .i64 ((i : Int) + (h : Int))] 3))
  have r0 : (w.alloc (.cells #[.int .i64 0, .int .u32 0] 111)).heap[w.heap.size]? = some (.cells #[.int .i64 0, .int .u32 0] 111) := alloc_at rfl _
  have r1 := alloc_old (o := .cells #[.int .i64 i, .int .i64 ((i : Int) + (h : Int))] 3) r0
  have r2 : ((w.alloc (.cells #[.int .i64 0, .int .u32 0] 111)).alloc (.cells #[.int .i64 i, .int .i64 ((i : Int) + (h : Int))] 3)).heap[w.heap.size + 1]? = some (.cells #[.int .i64 i, .int .i64 ((i : Int) + (h : Int))] 3) := alloc_at (by simp) _
  have bb : Below w.heap.size w ((w.alloc (.cells #[.int .i64 0, .int .u32 0] 111)).alloc (.cells #[.int .i64 i, .int .i64 ((i : Int) + (h : Int))] 3)) := bx.alloc (by simp) _
  have hl2 := hl.below bb
  have hB2 := hB.below bb
  have sz : ((w.alloc (.cells #[.int .i64 0, .int .u32 0] 111)).alloc (.cells #[.int .i64 i, .int .i64 ((i : Int) + (h : Int))] 3)).heap.size = w.heap.size + 2 := by simp
  have hdw := k.dev.dlt
  have hpw := k.plt
  have hlo := k.dev.own_lo
  generalize (w.alloc (.cells #[.int .i64 0, .int .u32 0] 111)).alloc (.cells #[.int .i64 i, .int .i64 ((i : Int) + (h : Int))] 3) = wS at *
  have HB := hid bb
  have HZ := hid sz
  clear kx bx c0 c1 c2 c3 f3 r0 hl k hB bb sz hpi
  have h0s : wstage D h i l 0 = D := rfl
  have hs1 : DevG.Dv.wrote (wstage D h i l 0) i l = wstage D h i l 1 := rfl
  have hs2 : DevG.Dv.wrote (wstage D h i l 1) (i + h) l = wstage D h i l 2 := rfl
  have HS1 := hid hs1
  have HS2 := hid hs2
  clear hs1 hs2
  generalize hst : wstage D h i l = st at *
  generalize hwp : wpair D h i l = R at *
  clear hst hwp
  rw [← h0s] at b1
  go_loopw [27] (fun jv wr => ∃ j : Nat, j ≤ 2 ∧ jv = .int .i64 j ∧ PR wr lo d (n + j) m (st j) p h c ∧ Turn (own d m) wS wr ∧ Nums .u8 wr a 256 cap l ∧ Ev wr lo bs five ∧ (∀ q, q < j → (st q).tick.down = false) ∧ wr.heap[w.heap.size]? = some (.cells #[.int .i64 0, .int .u32 0] 111) ∧ wr.heap[w.heap.size + 1]? = some (.cells #[.int .i64 i, .int .i64 ((i : Int) + (h : Int))] 3)) (fun jv _ => 2 - (RowKit.intOf jv).toNat)
  case atStart => exact ⟨0, by omega, rfl, b1, Turn.refl _ _, hl2, hB2, fun q hq => by omega, r1, r2⟩
  case round =>
    clear b1 r1 r2 hl2 hB2
    obtain ⟨j, hj, rfl, kr, tr, hl, hB, hup, r1, r2⟩ := hrel
    obtain ⟨c0, c1, c2, c3, f3⟩ := kr.c
    obtain ⟨g1, g2, g3, g4⟩ := HI.out j
    rw [g3] at c1
    have HUP := hid hup
    have hx1 : wr.cell? ⟨w.heap.size, 0, none⟩ = some (.int .i64 0) ∧ wr.cell? ⟨w.heap.size, 1, none⟩ = some (.int .u32 0) ∧ wr.frozen? ⟨w.heap.size, 0, none⟩ = false ∧ wr.frozen? ⟨w.heap.size, 1, none⟩ = false := by
      simp [World.cell?, World.frozen?, r1]
    have hfar : ∀ (w3 : World) (n' : Nat) (D' : Dv) (k3 : PR w3 lo d n' m D' p h c) (hr : w3.heap[w.heap.size]? = some (.cells #[.int .i64 0, .int .u32 0] 111)) (u v : Value), PR ((w3.setCell ⟨w.heap.size, 0, none⟩ u).setCell ⟨w.heap.size, 1, none⟩ v) lo d n' m D' p h c := by
      intro w3 n' D' k3 hr u v
      have ht : Turn [w.heap.size] w3 ((w3.setCell ⟨w.heap.size, 0, none⟩ u).setCell ⟨w.heap.size, 1, none⟩ v) := (Turn.setCell w3 _ _ _ (by simp)).then (Turn.setCell _ _ _ _ (by simp))
      refine k3.away ht (fun x hx => ?_) (fun x hx => ?_)
      · rw [List.mem_singleton.1 hx]
        intro hm
        rcases List.mem_cons.1 hm with e | hm
        · omega
        · exact k3.dev.out hr (by omega) hm
      · rw [List.mem_singleton.1 hx]
        exact .inr ⟨.int .i64 0, by simp [World.cell?, hr], fun z e => by cases e⟩
    have hfarT : ∀ (w3 : World) (u v : Value), Turn (own d m) wS w3 → Turn (own d m) w ((w3.setCell ⟨w.heap.size, 0, none⟩ u).setCell ⟨w.heap.size, 1, none⟩ v) := fun w3 u v t =>
      ((Turn.of_below HB.out).then t).trans ((Turn.setCell (S := [w.heap.size]) w3 _ _ _ (by simp)).then (Turn.setCell _ _ _ _ (by simp))) (fun x hx => by rw [List.mem_singleton.1 hx]; exact .inr (Nat.le_refl _))
    have HFAR := hid hfar
    have HFT := hid hfarT
    clear hfar hfarT hup
    by_cases hlt : j < 2
    · have hcell : ∃ q : Nat, wr.cell? ⟨w.heap.size + 1, j, none⟩ = some (.int .i64 (q : Int)) ∧ q < D.blocks ∧ DevG.Dv.wrote (st j) q l = st (j + 1) := by
        rcases (by omega : j = 0 ∨ j = 1) with rfl | rfl
        · exact ⟨i, by simp [World.cell?, r2], by omega, HS1.out⟩
        · exact ⟨i + h, by simp [World.cell?, r2], by omega, HS2.out⟩
      obtain ⟨q, hq, hqb, hqe⟩ := hcell
      by_cases hdn : (st j).tick.down = true
      · have hw := write_no bs d lo (n + j) m (st j) q a 256 cap wr kr.dev hB (by omega) (fits_nat (by omega)) 5 _ (by decide) rfl (.inl ⟨hdn, rfl⟩)
        have hR : R = (some 5, (st j).tick) := by
          rw [HW.out]
          rcases (by omega : j = 0 ∨ j = 1) with rfl | rfl
          · rw [h0s] at hdn ⊢; rw [if_pos hdn]
          · have h1 := HUP.out 0 (by omega)
            rw [h0s] at h1
            rw [if_neg (by rw [h1]; simp), if_pos hdn]
        have HR := hid hR
        have HTR := hid tr
        have HKR := hid kr
        obtain ⟨x1, x2, x3, x4⟩ := hx1
        clear hdn hR hB hl tr kr c1 c2 c3 f3 hqe
        go_wp2_with fail
        refine hw.mono ?_
        rintro e w3 ⟨⟨ax, hax, rfl⟩, h3, t3⟩
        have s1 := t3.cells r1 (by simp; omega)
        have k3 := (HKR.out.turn h3 (own1 t3) ((st j).tick_same.1)).mono (n' := n + 2) (by omega) (Nat.le_refl _)
        have hx3 : w3.cell? ⟨w.heap.size, 0, none⟩ = some (.int .i64 0) ∧ w3.cell? ⟨w.heap.size, 1, none⟩ = some (.int .u32 0) ∧ w3.frozen? ⟨w.heap.size, 0, none⟩ = false ∧ w3.frozen? ⟨w.heap.size, 1, none⟩ = false := by
          simp [World.cell?, World.frozen?, s1]
        obtain ⟨y1, y2, y3, y4⟩ := hx3
        have HP := hid (HFAR.out w3 _ _ k3 s1)
        have HT3 := hid (HTR.out.then (own1 t3))
        clear k3 h3 t3 x1 x2 x3 x4 s1 r1 r2 hq c0
        go_wp2_with fail
        refine bodyPost_ret (v := .tuple #[PairG.Rf 0 0, ev ax]) (by simp [results, Tryz.results90, go_sem, y1, y2]) rfl ?_
        rw [HR.out]
        exact ⟨⟨ax, hax, rfl⟩, HP.out _ _, HFT.out _ _ _ HT3.out⟩
      · have hdn' : (st j).tick.down = false := by simpa using hdn
        have hw := write_ok d lo (n + j) m (st j) q a cap l wr kr.dev (by omega) (by omega) hl (by omega) (by omega) (by omega) hdn'
        have HUQ := hid (show ∀ q, q < j + 1 → (st q).tick.down = false from fun q hq => (Nat.lt_or_ge q j).elim (fun h => HUP.out q h) (fun h => by rw [show q = j by omega]; exact hdn'))
        have hqe' : (st j).tick.put q l = st (j + 1) := hqe
        rw [hqe'] at hw
        have g3' := (HI.out (j + 1)).2.2.1
        have HTR := hid tr
        have HKR := hid kr
        have HBR := hid hB
        have HLR := hid hl
        clear hdn hdn' hB hl tr kr c1 c2 c3 f3 hqe hqe' hx1
        go_wp2_with fail
        refine hw.mono ?_
        rintro e w3 ⟨rfl, h3, t3⟩
        have k3 := HKR.out.turn h3 t3 (by rw [g3, g3'])
        have hl3 := nums_turn HLR.out t3 (At.nou8 HKR.out.dev)
        have hB3 := HBR.out.turn t3 hlo
        have s1 := t3.cells r1 (HKR.out.dev.out r1 (by omega))
        have s2 := t3.cells r2 (HKR.out.dev.out r2 (by omega))
        have HQ := hid (And.intro k3 (And.intro hl3 (And.intro hB3 (And.intro s1 s2))))
        have HT3 := hid (HTR.out.then t3)
        clear k3 hl3 hB3 s1 s2 h3 t3 c0 hq r1 r2
        go_wp2_with fail
        go_roundw
        case rel =>
          obtain ⟨q1, q2, q3, q4, q5⟩ := HQ.out
          exact ⟨j + 1, by omega, by go_num, q1, HT3.out, q2, q3, HUQ.out, q4, q5⟩
        case measure => simp [RowKit.intOf]; omega
    · obtain rfl : j = 2 := by omega
      have hR : R = (none, st 2) := by
        rw [HW.out]
        have h1 := HUP.out 0 (by omega)
        have h2 := HUP.out 1 (by omega)
        rw [h0s] at h1
        rw [if_neg (by rw [h1]; simp), if_neg (by rw [h2]; simp)]
      have HR := hid hR
      have HP := hid (HFAR.out wr _ _ kr r1)
      have HT3 := hid tr
      obtain ⟨x1, x2, x3, x4⟩ := hx1
      clear hR kr tr c0 c1 c2 c3 f3 r1 r2 hB
      go_wp2_with fail
      refine (CrcW.sum_w a 256 cap l _ hl hb).mono ?_
      rintro e w3 ⟨rfl, hw3⟩
      subst hw3
      generalize hs : Crc.sum l = s at *
      have HS := hid hs
      clear hs hl
      go_wp2
      refine bodyPost_ret (v := .tuple #[PairG.Rf i s, .nilIface]) (by simp [results, Tryz.results90, go_sem, x1, x2]) rfl ?_
      rw [HR.out]
      exact ⟨by rw [HS.out], HP.out _ _, HFT.out _ _ _ HT3.out⟩
end Go.Proofs.YtbjfgdahfpfgdaaGreatDoor.PgW

namespace Go.Proofs.YtbjfgdahfpfgdaaGreatDoor.PgW
open Go Go.RowKit Go.Maps Go.Proofs.YtbjfgdahfpfgdaaGreatDoor.Mem Go.Proofs.YtbjfgdahfpfgdaaGreatDoor.MapsW Go.Proofs.YtbjfgdahfpfgdaaGreatDoor.SeeW Go.Proofs.YtbjfgdahfpfgdaaGreatDoor.DevG Go.Proofs.YtbjfgdahfpfgdaaGreatDoor.PairG Go.Proofs.YtbjfgdahfpfgdaaGreatDoor.RefsW Go.Proofs.YtbjfgdahfpfgdaaGreatDoor.PgP
set_option linter.unusedVariables false
set_option maxRecDepth 100000

theorem now_turn0 {S : List Nat} {w w' : World} {base b n k : Nat} {F : Int → Option (List Nat)} (h : NowMap w base b n F k) (ht : Turn S w w') (hb : b ∉ S) (hS : ∀ x ∈ S, NoCells w x ∨ ∃ v, w.cell? ⟨x, 0, none⟩ = some v ∧ ∀ z, v ≠ .int .u8 z) : NowMap w' base b n F k := by
  obtain ⟨es, ck, hk⟩ := h.block
  refine h.keep (ht.block b (Array.getElem?_eq_some_iff.1 hk).1 hb) fun g _ hc hz => ?_
  obtain ⟨c, t, f, hc⟩ := hc
  obtain ⟨z, hz⟩ := hz
  refine ht.block g (Array.getElem?_eq_some_iff.1 hc).1 fun hm => ?_
  rcases hS g hm with h1 | ⟨v, h1, h2⟩
  · exact h1 _ _ _ hc
  · rw [h1] at hz
    exact h2 z (Option.some.inj hz)
/-- what writes elsewhere, into maps or into blocks whose first cell is no byte, leaves the store -/
theorem SAt.away {L : List Nat} {w w' : World} {lo n : Nat} {m : Mp} {D : Dv} {I : Si} {S : St} (k : SAt w lo n m D I S) (ht : Turn L w w') (hS : ∀ x ∈ L, x ∉ I.own m ∧ x ≠ I.tb ∧ ∀ b o, I.ra = some ⟨b, o, none⟩ → x ≠ b)
    (hb : ∀ x ∈ L, NoCells w x ∨ ∃ v, w.cell? ⟨x, 0, none⟩ = some v ∧ ∀ z, v ≠ .int .u8 z) : SAt w' lo n m D I S := by
  obtain ⟨k1, h1⟩ := k.at_
  obtain ⟨k2, h2⟩ := k.now
  have out : ∀ y, y ∈ I.own m → y ∉ L := fun y hy hm => (hS y hm).1 hy
  refine ⟨k.pr.away ht (fun x hx hm => (hS x hx).1 ?_) hb, ht.cells k.cells (out _ (by simp)), refs_turn k.refs ht fun b o e hm => (hS b hm).2.2 b o e rfl, refs_turn k.tabs ht fun b o e hm => ?_, ⟨k1, ref_turn h1 ht (out _ (by simp))⟩, ⟨k2, now_turn0 h2 ht (out _ (by simp)) hb⟩, k.ao, k.sx, k.ax, k.ox, fun b off e => ⟨Nat.lt_of_lt_of_le (k.rx b off e).1 ht.size, (k.rx b off e).2⟩, k.tx, k.slo⟩
  · rcases List.mem_cons.1 hm with e | hm
    · simp [e]
    · simp only [List.mem_cons]; exact .inr (.inr (.inr (.inr (List.mem_cons.1 hm))))
  · cases e
    exact (hS _ hm).2.1 rfl
/-- how all is to lie, but for what is free -/
structure LW (w : World) (base n X tb tc a : Nat) (vn vp vf : Value) (x : Lay) : Prop where
  cells : w.heap[X]? = some (.cells (lcells tb tc a vn vp vf) 100)
  tabs : OwnRefs w base (.slice (some ⟨tb, 0, none⟩) 7 tc) 7 x.tabs
  at_ : ∃ k, RefMap w a n x.at_ k
  nt : w.ownsRow base 3 1 vn x.nt.length (nums .i64 x.nt)
  pg : w.ownsRow base 3 1 vp x.pg.length (nums .i64 x.pg)
  b0 : base ≤ X ∧ base ≤ a
  nd : X ≠ a ∧ X ≠ tb ∧ a ≠ tb ∧ a ∉ blk vn ∧ a ∉ blk vp ∧ tb ∉ blk vn ∧ tb ∉ blk vp
  lt : X < w.heap.size
theorem LAt.lw {w : World} {base n X tb tc a : Nat} {vn vp vf : Value} {x : Lay} (h : LAt w base n X tb tc a vn vp vf x) : LW w base n X tb tc a vn vp vf x := by
  have hnd := h.nd
  simp only [List.nodup_cons, List.mem_cons, List.mem_append, not_or] at hnd
  obtain ⟨⟨x1, x2, x3, x4, x5⟩, ⟨a1, a2, a3, a4⟩, ⟨t1, t2, t3⟩, _⟩ := hnd
  exact ⟨h.cells, h.tabs, h.at_, h.nt, h.pg, h.b0, ⟨x1, x2, a1, a2, a3, t1, t2⟩, h.lt X (by simp)⟩
theorem LW.c {w : World} {base n X tb tc a : Nat} {vn vp vf : Value} {x : Lay} (h : LW w base n X tb tc a vn vp vf x) :
    w.cell? ⟨X, 0, none⟩ = some (.slice (some ⟨tb, 0, none⟩) 7 tc) ∧ w.cell? ⟨X, 1, none⟩ = some (.map (some a)) ∧ w.cell? ⟨X, 2, none⟩ = some vn ∧ w.cell? ⟨X, 3, none⟩ = some vp ∧ w.cell? ⟨X, 4, none⟩ = some vf ∧ ∀ j, w.frozen? ⟨X, j, none⟩ = false := by
  have := h.cells
  simp [World.cell?, World.frozen?, this]
theorem row_turn {L : List Nat} {w w' : World} {base : Nat} {e : TypeId} {size : Nat} {v : Value} {n : Nat} {xs : List Value} (h : w.ownsRow base e size v n xs) (ht : Turn L w w') (hS : ∀ x ∈ L, x ∉ blk v) : w'.ownsRow base e size v n xs :=
  row_same h fun g hg => ht.block g (h.lt g hg).2 fun hm => hS g hm (by unfold blk; rw [hg]; simp)
theorem own_tab {w : World} {base tb tc : Nat} {T : List Ref} (h : OwnRefs w base (.slice (some ⟨tb, 0, none⟩) 7 tc) 7 T) : base ≤ tb ∧ tb < w.heap.size := h.lt tb rfl
theorem blk_ge {w : World} {base : Nat} {e : TypeId} {size : Nat} {v : Value} {n : Nat} {xs : List Value} (h : w.ownsRow base e size v n xs) : ∀ b ∈ blk v, base ≤ b ∧ b < w.heap.size := by
  intro b hb
  refine h.lt b ?_
  unfold blk at hb
  cases hv : v.ownBlock with
  | none => rw [hv] at hb; simp at hb
  | some q => rw [hv] at hb; simp at hb; rw [hb]
theorem LW.ge {w : World} {base n X tb tc a : Nat} {vn vp vf : Value} {x : Lay} (h : LW w base n X tb tc a vn vp vf x) : ∀ y ∈ X :: a :: tb :: (blk vn ++ blk vp), base ≤ y := by
  intro y hy
  simp only [List.mem_cons, List.mem_append] at hy
  rcases hy with rfl | rfl | rfl | hy | hy
  · exact h.b0.1
  · exact h.b0.2
  · exact (own_tab h.tabs).1
  · exact (blk_ge h.nt y hy).1
  · exact (blk_ge h.pg y hy).1
/-- what lies below, or is new, may turn -/
theorem LW.turn {L : List Nat} {w w' : World} {base n X tb tc a : Nat} {vn vp vf : Value} {x : Lay} (h : LW w base n X tb tc a vn vp vf x) (ht : Turn L w w') (hS : ∀ y ∈ L, y < base) : LW w' base n X tb tc a vn vp vf x := by
  obtain ⟨k, hk⟩ := h.at_
  refine ⟨ht.cells h.cells fun hm => ?_, row_turn h.tabs ht fun y hy hm => ?_, ⟨k, ref_turn hk ht fun hm => ?_⟩, row_turn h.nt ht fun y hy hm => ?_, row_turn h.pg ht fun y hy hm => ?_, h.b0, h.nd, Nat.lt_of_lt_of_le h.lt ht.size⟩
  · have := hS _ hm; have := h.b0; omega
  · have := hS _ hy; have := blk_ge h.tabs y hm; omega
  · have := hS _ hm; have := h.b0; omega
  · have := hS _ hy; have := blk_ge h.nt y hm; omega
  · have := hS _ hy; have := blk_ge h.pg y hm; omega
theorem LW.turn' {L : List Nat} {w w' : World} {base n X tb tc a : Nat} {vn vp vf : Value} {x : Lay} (h : LW w base n X tb tc a vn vp vf x) (ht : Turn L w w') (hS : ∀ y ∈ L, y ∉ X :: a :: tb :: (blk vn ++ blk vp)) : LW w' base n X tb tc a vn vp vf x := by
  obtain ⟨k, hk⟩ := h.at_
  refine ⟨ht.cells h.cells fun hm => hS _ hm (by simp), row_turn h.tabs ht fun y hy hm => hS y hy (by rw [blk_slice] at hm; rw [List.mem_singleton.1 hm]; simp), ⟨k, ref_turn hk ht fun hm => hS _ hm (by simp)⟩, row_turn h.nt ht fun y hy hm => hS y hy (by simp [hm]), row_turn h.pg ht fun y hy hm => hS y hy (by simp [hm]), h.b0, h.nd, Nat.lt_of_lt_of_le h.lt ht.size⟩
theorem LW.below {w w' : World} {base n X tb tc a : Nat} {vn vp vf : Value} {x : Lay} (h : LW w base n X tb tc a vn vp vf x) (hb : Below w.heap.size w w') : LW w' base n X tb tc a vn vp vf x :=
  h.turn (L := []) (Turn.of_below hb) fun y hy => by cases hy
theorem LW.mono {w : World} {base n n' X tb tc a : Nat} {vn vp vf : Value} {x : Lay} (h : LW w base n X tb tc a vn vp vf x) (hn : n ≤ n') : LW w base n' X tb tc a vn vp vf x := by
  obtain ⟨k, hk⟩ := h.at_
  exact ⟨h.cells, h.tabs, ⟨k, hk.mono hn⟩, h.nt, h.pg, h.b0, h.nd, h.lt⟩
theorem LW.setAt {w w' : World} {base n n' X tb tc a k' : Nat} {vn vp vf : Value} {x : Lay} {F : Int → Option Ref} (h : LW w base n X tb tc a vn vp vf x) (hr : RefMap w' a n' F k') (hg : w.grownBy w' (some a)) : LW w' base n' X tb tc a vn vp vf { x with at_ := F } := by
  obtain ⟨x1, x2, a1, a2, a3, t1, t2⟩ := h.nd
  exact ⟨(hg.block X h.lt (fun e => x1 (Option.some.inj e))).trans h.cells, row_grown h.tabs hg (by rw [blk_slice]; simpa using a1), ⟨k', hr⟩, row_grown h.nt hg a2, row_grown h.pg hg a3, h.b0, h.nd, Nat.lt_of_lt_of_le h.lt hg.size⟩
theorem LW.setTab {w : World} {base n X tb tc a : Nat} {vn vp vf : Value} {x : Lay} (h : LW w base n X tb tc a vn vp vf x) (t : Nat) (r : Ref) :
    LW ((w.setCell ⟨tb, t * 2, none⟩ (.int .i64 r.1)).setCell ⟨tb, t * 2 + 1, none⟩ (.int .u32 (r.2 : Int))) base n X tb tc a vn vp vf { x with tabs := x.tabs.set t r } := by
  obtain ⟨x1, x2, a1, a2, a3, t1, t2⟩ := h.nd
  obtain ⟨k, hk⟩ := h.at_
  have hg : w.grownBy ((w.setCell ⟨tb, t * 2, none⟩ (.int .i64 r.1)).setCell ⟨tb, t * 2 + 1, none⟩ (.int .u32 (r.2 : Int))) (some tb) := (grown_set w tb (t * 2) _).trans (grown_set _ tb (t * 2 + 1) _)
  exact ⟨(hg.block X h.lt (fun e => x2 (Option.some.inj e))).trans h.cells, own_ref h.tabs t r, ⟨k, ref_grown hk hg a1⟩, row_grown h.nt hg t1, row_grown h.pg hg t2, h.b0, h.nd, Nat.lt_of_lt_of_le h.lt hg.size⟩
end Go.Proofs.YtbjfgdahfpfgdaaGreatDoor.PgW

namespace Go.Proofs.YtbjfgdahfpfgdaaGreatDoor.PgW
open Go Go.RowKit Go.Maps Go.Proofs.YtbjfgdahfpfgdaaGreatDoor.Mem Go.Proofs.YtbjfgdahfpfgdaaGreatDoor.MapsW Go.Proofs.YtbjfgdahfpfgdaaGreatDoor.SeeW Go.Proofs.YtbjfgdahfpfgdaaGreatDoor.DevG Go.Proofs.YtbjfgdahfpfgdaaGreatDoor.PairG Go.Proofs.YtbjfgdahfpfgdaaGreatDoor.RefsW Go.Proofs.YtbjfgdahfpfgdaaGreatDoor.PgP
set_option linter.unusedVariables false
set_option maxRecDepth 100000

/-- pairs written one behind the other -/
def wall (D : Dv) (h : Nat) : List (Nat × List Nat) → Option Nat × Dv
  | [] => (none, D)
  | iw :: ws => match wpair D h iw.1 iw.2 with
    | (none, D') => wall D' h ws
    | (some q, D') => (some q, D')
theorem wall_append (h : Nat) : ∀ (xs ys : List (Nat × List Nat)) (D : Dv), wall D h (xs ++ ys) = match wall D h xs with | (none, D') => wall D' h ys | (some q, D') => (some q, D')
  | [], ys, D => rfl
  | a :: xs, ys, D => by
    simp only [List.cons_append, wall]
    rcases hw : wpair D h a.1 a.2 with ⟨_ | q, D'⟩
    · exact wall_append h xs ys D'
    · rfl
theorem wall_snoc {D D' : Dv} {h : Nat} {xs : List (Nat × List Nat)} (i : Nat) (l : List Nat) (ha : wall D h xs = (none, D')) : wall D h (xs ++ [(i, l)]) = wpair D' h i l := by
  rw [wall_append, ha]
  simp only [wall]
  rcases wpair D' h i l with ⟨_ | q, D2⟩ <;> rfl
theorem wall_fail {D D' : Dv} {h q : Nat} {xs ys : List (Nat × List Nat)} (ha : wall D h xs = (some q, D')) : wall D h (xs ++ ys) = (some q, D') := by
  rw [wall_append, ha]
theorem wpair_in (D : Dv) (h i : Nat) (l : List Nat) : (wpair D h i l).2.np ≤ D.np + 2 ∧ (wpair D h i l).2.calls ≤ D.calls + 2 ∧ (wpair D h i l).2.blocks = D.blocks ∧ (wpair D h i l).2.fuse ≤ D.fuse := by
  unfold wpair
  split
  · have h := D.tick_same
    exact ⟨by simp [h.2.2.2.2.2.2.1], by simp [h.2.2.2.2.2.2.2.2.1], by simp [h.1], by simp [h.2.2.2.2.2.2.2.2.2]⟩
  · split
    · have h1 := DevG.Dv.wrote_np D i l
      have h := (DevG.Dv.wrote D i l).tick_same
      refine ⟨by simp only [h.2.2.2.2.2.2.1]; omega, by simp only [h.2.2.2.2.2.2.2.2.1]; omega, by simp only [h.1]; exact h1.2.2.1, ?_⟩
      have := h.2.2.2.2.2.2.2.2.2
      simp only
      omega
    · exact wstage_in D h i l 2
/-- all that a store's write does -/
def Dv.commit (D : Dv) (H ep : Nat) (ws : List (Nat × List Nat)) (T : List Ref) : Option Nat × Dv :=
  match wall D H ws with
  | (some q, D') => (some q, D')
  | (none, D') => match D'.flushT with
    | (some q, D2) => (some q, D2)
    | (none, D2) => D2.save (GeoW.half D.blocks) ep (RootP.enc ⟨ep, T⟩)
theorem sumP_fst (N : Int → Option (List Nat)) (F : Int → Option Ref) (p q : Nat) : (tref (sumP N F p) q).1 = (tref F q).1 := by
  unfold sumP tref upd
  by_cases h : (q : Int) = p
  · rw [if_pos h, h]; rfl
  · rw [if_neg h]
theorem sumsP_fst (N : Int → Option (List Nat)) (q : Nat) : ∀ (ps : List Nat) (F : Int → Option Ref), (tref (sumsP N F ps) q).1 = (tref F q).1
  | [], F => rfl
  | p :: ps, F => (sumsP_fst N q ps (sumP N F p)).trans (sumP_fst N F p q)
theorem sumsP_snoc (N : Int → Option (List Nat)) (F : Int → Option Ref) (ps : List Nat) (p : Nat) : sumsP N F (ps ++ [p]) = sumP N (sumsP N F ps) p := by simp [sumsP, List.foldl_append]
theorem sumT_fst (F : Int → Option Ref) (T : List Ref) (t u : Nat) : ((sumT F T t).getD u (0, 0)).1 = (T.getD u (0, 0)).1 := by
  unfold sumT
  by_cases hu : u < T.length
  · by_cases h : t = u
    · subst h
      simp [List.getD, hu]
    · simp [List.getD, List.getElem?_set_ne h]
  · simp [List.getD, hu]
theorem sumsT_fst (F : Int → Option Ref) (u : Nat) : ∀ (ts : List Nat) (T : List Ref), ((sumsT F T ts).getD u (0, 0)).1 = (T.getD u (0, 0)).1
  | [], T => rfl
  | t :: ts, T => (sumsT_fst F u ts (sumT F T t)).trans (sumT_fst F T t u)
theorem sumsT_snoc (F : Int → Option Ref) (T : List Ref) (ts : List Nat) (t : Nat) : sumsT F T (ts ++ [t]) = sumT F (sumsT F T ts) t := by simp [sumsT, List.foldl_append]
theorem sumsT_length (F : Int → Option Ref) : ∀ (ts : List Nat) (T : List Ref), (sumsT F T ts).length = T.length
  | [], T => rfl
  | t :: ts, T => by rw [show sumsT F T (t :: ts) = sumsT F (sumT F T t) ts from rfl, sumsT_length]; simp [sumT]
theorem sumP_ok {N : Int → Option (List Nat)} {F : Int → Option Ref} (hN : ∀ p : Nat, ((N (p : Int)).getD []).length ≤ 255 ∧ Crc.Bytes ((N (p : Int)).getD [])) (h : ∀ i r, F i = some r → 0 ≤ r.1 ∧ r.1 ≤ 6000 ∧ r.2 < 4294967296) (p : Nat) : ∀ i r, sumP N F p i = some r → 0 ≤ r.1 ∧ r.1 ≤ 6000 ∧ r.2 < 4294967296 := by
  intro i r hr
  unfold sumP upd at hr
  split at hr
  · cases hr
    have : Crc.sum (pblk ((N (p : Int)).getD [])) < 4294967296 := Crc.sum_lt (pblk_bytes (hN p).1 (hN p).2)
    unfold tref
    cases hF : F (p : Int) with
    | none => exact ⟨by simp, by simp, this⟩
    | some r => exact ⟨(h _ _ hF).1, (h _ _ hF).2.1, this⟩
  · exact h _ _ hr
theorem sumsP_ok {N : Int → Option (List Nat)} (hN : ∀ p : Nat, ((N (p : Int)).getD []).length ≤ 255 ∧ Crc.Bytes ((N (p : Int)).getD [])) : ∀ (ps : List Nat) {F : Int → Option Ref} (h : ∀ i r, F i = some r → 0 ≤ r.1 ∧ r.1 ≤ 6000 ∧ r.2 < 4294967296), ∀ i r, sumsP N F ps i = some r → 0 ≤ r.1 ∧ r.1 ≤ 6000 ∧ r.2 < 4294967296
  | [], F, h => h
  | p :: ps, F, h => sumsP_ok hN ps (sumP_ok hN h p)
theorem sumsT_ok {F : Int → Option Ref} : ∀ (ts : List Nat) {T : List Ref} (h : ∀ r ∈ T, 0 ≤ r.1 ∧ r.1 ≤ 6000 ∧ r.2 < 4294967296), ∀ r ∈ sumsT F T ts, 0 ≤ r.1 ∧ r.1 ≤ 6000 ∧ r.2 < 4294967296
  | [], T, h => h
  | t :: ts, T, h => sumsT_ok ts fun r hr => by
    rcases List.mem_or_eq_of_mem_set hr with hr | rfl
    · exact h r hr
    · have hs : Crc.sum (tblk F t) < 4294967296 := Crc.sum_lt (tblk_bytes F t)
      by_cases ht : t < T.length
      · have := h T[t] (List.getElem_mem ht)
        simp only [List.getD, List.getElem?_eq_getElem ht, Option.getD_some]
        exact ⟨this.1, this.2.1, hs⟩
      · simp [List.getD, ht, hs]
theorem splice_page {l : List Nat} {q : Nat} (hl : l.length ≤ 255) : splice ((List.replicate 256 0).set 0 q) 1 l = Crc.pad (q :: l) := by
  have e : (List.replicate 256 0).set 0 q = q :: List.replicate 255 0 := rfl
  rw [e]
  unfold splice Crc.pad
  simp only [List.take_succ_cons, List.take_zero, List.length_cons, List.cons_append, List.nil_append]
  rw [Nat.add_comm 1 l.length, List.drop_succ_cons, List.drop_replicate]
  rw [show 256 - (l.length + 1) = 255 - l.length by omega]
end Go.Proofs.YtbjfgdahfpfgdaaGreatDoor.PgW

namespace Go.Proofs.YtbjfgdahfpfgdaaGreatDoor.PgW
open Go.Proofs.YtbjfgdahfpfgdaaGreatDoor.RootP Go.Proofs.YtbjfgdahfpfgdaaGreatDoor.MapsW Go.Proofs.YtbjfgdahfpfgdaaGreatDoor.PgP Go.Proofs.YtbjfgdahfpfgdaaGreatDoor.DevG
set_option linter.unusedVariables false
set_option maxRecDepth 100000

abbrev ROk (r : Ref) : Prop := 0 ≤ r.1 ∧ r.1 ≤ 6000 ∧ r.2 < 4294967296
/-- a store that may be written -/
structure SOk (S : St) : Prop where
  t7 : S.tabs.length = 7
  dom : ∀ i, (S.at_ i).isSome = true → 0 ≤ i ∧ i < 256
  ok : ∀ i r, S.at_ i = some r → ROk r
  okT : ∀ r ∈ S.tabs, ROk r
  now : NowOk S.now
/-- a commit: what is told, the store, the device -/
def commitT (S : St) (D : Dv) (H : Nat) : Option Nat × St × Dv :=
  if cnt S.now = 0 then (none, S, D) else
  match laid S H with
  | none => (some 4, S, D)
  | some x => if fits x H then
      match Dv.commit D H (S.ep + 1) (writes S x) (behind S x).tabs with
      | (none, D') => (none, behind S x, D')
      | (some q, D') => (some q, S, D')
    else (some 4, S, D)
theorem mem_frees_lt {S : St} {H a : Nat} (h : a ∈ frees S.tabs S.at_ H) : 2 ≤ a ∧ a < H := ⟨(mem_frees.1 h).2.1, (mem_frees.1 h).1⟩
/-- what a layout gives its writes -/
structure LOk (S : St) (H : Nat) (x : Lay) : Prop where
  P : ∀ p ∈ x.pg, p < 256 ∧ ∃ c l, S.now (p : Int) = some (c :: l) ∧ l.length + 1 ≤ 248 ∧ Crc.Bytes (c :: l) ∧ ∃ f : Nat, f < H ∧ (tref x.at_ p).1 = (f : Int)
  T : ∀ t ∈ x.nt, t < 7 ∧ ∃ f : Nat, f < H ∧ (x.tabs.getD t (0, 0)).1 = (f : Int)
  ok : ∀ i r, x.at_ i = some r → ROk r
  okT : ∀ r ∈ x.tabs, ROk r
  nb : ∀ p : Nat, ((S.now (p : Int)).getD []).length ≤ 255 ∧ Crc.Bytes ((S.now (p : Int)).getD [])
  lp : x.pg.length ≤ cnt S.now
  lt : x.nt.length ≤ 7
  l7 : x.tabs.length = 7
  dom : ∀ i, (x.at_ i).isSome = true → 0 ≤ i ∧ i < 256
theorem keys_cnt (N : Int → Option (List Nat)) : (keys N).length = cnt N := by
  unfold keys cnt
  rw [List.countP_eq_length_filter]
theorem laid_ok {S : St} {H : Nat} {x : Lay} (hS : SOk S) (hH : H ≤ 6000) (hx : laid S H = some x) : LOk S H x := by
  obtain ⟨us, vs, L⟩ := laid_is hS.t7 hx
  obtain ⟨r, hr⟩ := L.pre
  have huf : ∀ a ∈ us, 2 ≤ a ∧ a < H := fun a ha => mem_frees_lt (S := S) (by rw [hr]; simp [ha])
  have hvf : ∀ a ∈ vs, 2 ≤ a ∧ a < H := fun a ha => mem_frees_lt (S := S) (by rw [hr]; simp [ha])
  have hl7 : x.tabs.length = 7 := L.len.trans hS.t7
  have hpm : ∀ p ∈ x.pg, p ∈ keys S.now ∧ needs S.now p = true := fun p hp => by rw [L.pg] at hp; exact List.mem_filter.1 hp
  have htm : ∀ t ∈ x.nt, t ∈ touched (keys S.now) ∧ has x.at_ t = true := fun t ht => by rw [L.nt] at ht; exact List.mem_filter.1 ht
  have hnew : ∀ p ∈ x.pg, ∃ f : Nat, f < H ∧ x.at_ (p : Int) = some ((f : Int), 0) := fun p hp => by
    obtain ⟨j, hj, rfl⟩ := mem_get hp
    have hu : j < us.length := by rw [L.ul]; exact hj
    exact ⟨us[j], (huf _ (List.getElem_mem hu)).2, L.new j hj hu⟩
  have htn : ∀ t ∈ x.nt, ∃ f : Nat, f < H ∧ x.tabs.getD t (0, 0) = ((f : Int), 0) := fun t ht => by
    obtain ⟨j, hj, rfl⟩ := mem_get ht
    have hu : j < vs.length := by rw [L.vl]; exact hj
    exact ⟨vs[j], (hvf _ (List.getElem_mem hu)).2, L.tnew j hj hu⟩
  have hat : ∀ i r, x.at_ i = some r → ROk r ∧ 0 ≤ i ∧ i < 256 := by
    intro i r hi
    by_cases hk : ∃ p ∈ keys S.now, (p : Int) = i
    · obtain ⟨p, hp, rfl⟩ := hk
      have h256 := (mem_keys.1 hp).1
      cases hn : needs S.now p with
      | false => rw [L.gone p hp hn] at hi; cases hi
      | true =>
        obtain ⟨f, h1, h2⟩ := hnew p (by rw [L.pg]; exact List.mem_filter.2 ⟨hp, hn⟩)
        rw [h2] at hi
        cases hi
        exact ⟨⟨by simp only; omega, by simp only; omega, by simp⟩, by omega, by omega⟩
    · rw [L.old i fun p hp e => hk ⟨p, hp, e⟩] at hi
      exact ⟨hS.ok i r hi, hS.dom i (by rw [hi]; rfl)⟩
  refine ⟨fun p hp => ?_, fun t ht => ?_, fun i r hi => (hat i r hi).1, fun r hr => ?_, fun p => ?_, ?_, ?_, hl7, fun i hi => ?_⟩
  · obtain ⟨h1, h2⟩ := hpm p hp
    obtain ⟨h3, h4⟩ := mem_keys.1 h1
    have h5 := needs_true h2
    obtain ⟨f, h6, h7⟩ := hnew p hp
    cases hN : S.now (p : Int) with
    | none => rw [hN] at h4; cases h4
    | some l =>
      rw [hN] at h5
      cases l with
      | nil => exact absurd rfl h5
      | cons c l =>
        have := hS.now.len _ _ hN
        exact ⟨h3, c, l, rfl, by have := this.1; simpa using this, this.2, f, h6, by unfold tref; rw [h7]; rfl⟩
  · obtain ⟨f, h1, h2⟩ := htn t ht
    exact ⟨(mem_touched.1 (htm t ht).1).1, f, h1, by rw [h2]⟩
  · obtain ⟨t, ht, rfl⟩ := mem_get hr
    have ht7 : t < 7 := by omega
    have e : x.tabs.getD t (0, 0) = x.tabs[t] := by simp [List.getD, ht]
    by_cases hto : t ∈ touched (keys S.now)
    · cases hh : has x.at_ t with
      | false => rw [← e, L.tgone t hto hh]; exact ⟨by decide, by decide, by decide⟩
      | true =>
        obtain ⟨f, h1, h2⟩ := htn t (by rw [L.nt]; exact List.mem_filter.2 ⟨hto, hh⟩)
        rw [← e, h2]
        exact ⟨by simp only; omega, by simp only; omega, by simp⟩
    · have h1 := L.told t hto
      have hs : t < S.tabs.length := by rw [hS.t7]; exact ht7
      rw [List.getElem?_eq_getElem ht, List.getElem?_eq_getElem hs] at h1
      rw [Option.some.inj h1]
      exact hS.okT _ (List.getElem_mem hs)
  · cases hN : S.now (p : Int) with
    | none => exact ⟨by simp, fun x hx => by cases hx⟩
    | some l =>
      have := hS.now.len _ _ hN
      exact ⟨by simp only [Option.getD_some]; omega, this.2⟩
  · rw [L.pg, ← keys_cnt]; exact List.length_filter_le _ _
  · rw [L.nt]
    refine Nat.le_trans (List.length_filter_le _ _) ?_
    unfold touched
    refine Nat.le_trans (List.length_filter_le _ _) ?_
    simp
  · cases hx : x.at_ i with
    | none => rw [hx] at hi; cases hi
    | some r => exact (hat i r hx).2
end Go.Proofs.YtbjfgdahfpfgdaaGreatDoor.PgW

namespace Go.Proofs.YtbjfgdahfpfgdaaGreatDoor.DevG
open Go Go.RowKit Go.Maps Go.Proofs.YtbjfgdahfpfgdaaGreatDoor.Mem Go.Proofs.YtbjfgdahfpfgdaaGreatDoor.MapsW
set_option linter.unusedVariables false

/-- up, unarmed, nothing pending -/
structure Dv.Idle (D : Dv) : Prop where
  down : D.down = false
  fuse : D.fuse = 0
  np : D.np = 0
  pe : ∀ i, D.pe i = none
  fl : ∀ i l, D.fl i = some l → Crc.Bytes l
theorem Dv.Idle.new (b : Nat) : (Dv.new b).Idle := ⟨rfl, rfl, rfl, fun _ => rfl, fun i l h => (by cases h)⟩
theorem Dv.Idle.kept {D : Dv} (h : D.Idle) (i : Int) : Crc.Bytes (keptOf D i) := by
  unfold keptOf
  cases hF : D.fl i with
  | none =>
    intro x hx
    rw [(List.mem_replicate.1 hx).2]; decide
  | some l => exact h.fl i l hF
theorem Dv.Idle.read {D : Dv} (h : D.Idle) (i : Int) : D.read i = if D.fi i then none else some (keptOf D i) := by
  unfold Dv.read; rw [h.pe]
theorem Dv.Idle.bytes {D : Dv} (h : D.Idle) : ∀ i l, D.read i = some l → Crc.Bytes l := by
  intro i l hr
  rw [h.read] at hr
  split at hr
  · cases hr
  · cases hr; exact h.kept i
theorem Dv.new_read (b : Nat) (i : Int) : (Dv.new b).read i = some (List.replicate 256 0) := rfl
/-- what a device has behind a save that was told well -/
def Dv.saved (D : Dv) (H ep : Nat) (b : List Nat) : Dv := ((D.put ((ep % 2 : Nat) : Int) b).put ((ep % 2 + H : Nat) : Int) b).flush
theorem Dv.save_idle {D : Dv} (h : D.Idle) (H ep : Nat) (b : List Nat) : D.save H ep b = (none, D.saved H ep b) := by
  have e0 : D.tick = D := Dv.tick_zero h.fuse
  have f1 : (D.wrote (ep % 2) b).fuse = 0 := by have := (D.wrote_np (ep % 2) b).2.2.2; have := h.fuse; omega
  have f2 : ((D.wrote (ep % 2) b).wrote (ep % 2 + H) b).fuse = 0 := by have := ((D.wrote (ep % 2) b).wrote_np (ep % 2 + H) b).2.2.2; omega
  have e1 : (D.wrote (ep % 2) b) = D.put ((ep % 2 : Nat) : Int) b := by unfold Dv.wrote; rw [e0]
  have e2 : (D.wrote (ep % 2) b).wrote (ep % 2 + H) b = (D.put ((ep % 2 : Nat) : Int) b).put ((ep % 2 + H : Nat) : Int) b := by
    rw [← e1]; show (D.wrote (ep % 2) b).tick.put _ b = _; rw [Dv.tick_zero f1]
  have d1 : (D.wrote (ep % 2) b).down = false := by rw [e1]; exact h.down
  have d2 : ((D.wrote (ep % 2) b).wrote (ep % 2 + H) b).down = false := by rw [e2]; exact h.down
  unfold Dv.save Dv.flushT
  rw [e0, h.down, if_neg (by decide), Dv.tick_zero f1, d1, if_neg (by decide), Dv.tick_zero f2, d2, if_neg (by decide), e2]
  rfl
theorem Dv.saved_pe {D : Dv} (h : D.Idle) (H ep : Nat) (b : List Nat) (i : Int) : ((D.put ((ep % 2 : Nat) : Int) b).put ((ep % 2 + H : Nat) : Int) b).pe i = if i = ((ep % 2 : Nat) : Int) ∨ i = ((ep % 2 + H : Nat) : Int) then some b else none := by
  show upd (upd D.pe _ _) _ _ i = _
  by_cases h2 : i = ((ep % 2 + H : Nat) : Int)
  · rw [if_pos (.inr h2), h2, upd_same]
  · rw [upd_other _ _ h2]
    by_cases h1 : i = ((ep % 2 : Nat) : Int)
    · rw [if_pos (.inl h1), h1, upd_same]
    · rw [upd_other _ _ h1, if_neg (fun e => e.elim h1 h2), h.pe]
theorem Dv.saved_idle {D : Dv} (h : D.Idle) (H ep : Nat) {b : List Nat} (hb : Crc.Bytes b) : (D.saved H ep b).Idle := by
  refine ⟨h.down, h.fuse, rfl, fun _ => rfl, fun i l hl => ?_⟩
  change (if (((D.put ((ep % 2 : Nat) : Int) b).put ((ep % 2 + H : Nat) : Int) b).pe i).isSome then ((D.put ((ep % 2 : Nat) : Int) b).put ((ep % 2 + H : Nat) : Int) b).pe i else D.fl i) = some l at hl
  rw [Dv.saved_pe h] at hl
  by_cases c : i = ((ep % 2 : Nat) : Int) ∨ i = ((ep % 2 + H : Nat) : Int)
  · rw [if_pos c] at hl
    have e : some b = some l := hl
    cases e
    exact hb
  · rw [if_neg c] at hl
    exact h.fl i l hl
theorem Dv.saved_calls (D : Dv) (H ep : Nat) (b : List Nat) : (D.saved H ep b).calls = D.calls + 3 ∧ (D.saved H ep b).blocks = D.blocks := ⟨rfl, rfl⟩
/-- what is read of it, whether it may be faulted -/
theorem Dv.saved_at {D : Dv} (h : D.Idle) (H ep : Nat) (b : List Nat) (i : Int) :
    (D.saved H ep b).fl i = (if i = ((ep % 2 : Nat) : Int) ∨ i = ((ep % 2 + H : Nat) : Int) then some b else D.fl i) ∧
    (D.saved H ep b).fi i = (if i = ((ep % 2 : Nat) : Int) ∨ i = ((ep % 2 + H : Nat) : Int) then false else D.fi i) ∧
    (D.saved H ep b).fa i = (if i = ((ep % 2 : Nat) : Int) ∨ i = ((ep % 2 + H : Nat) : Int) then false else D.fa i) := by
  refine ⟨?_, ?_, ?_⟩
  · change (if (((D.put ((ep % 2 : Nat) : Int) b).put ((ep % 2 + H : Nat) : Int) b).pe i).isSome then ((D.put ((ep % 2 : Nat) : Int) b).put ((ep % 2 + H : Nat) : Int) b).pe i else D.fl i) = _
    rw [Dv.saved_pe h]
    split <;> rfl
  · change (if (((D.put ((ep % 2 : Nat) : Int) b).put ((ep % 2 + H : Nat) : Int) b).pe i).isSome then false else D.fi i) = _
    rw [Dv.saved_pe h]
    split <;> rfl
  · change (if (((D.put ((ep % 2 : Nat) : Int) b).put ((ep % 2 + H : Nat) : Int) b).pe i).isSome then false else D.fa i) = _
    rw [Dv.saved_pe h]
    split <;> rfl
theorem Dv.saved_read {D : Dv} (h : D.Idle) (H ep : Nat) {b : List Nat} (hb : Crc.Bytes b) (i : Int) :
    (D.saved H ep b).read i = if i = ((ep % 2 : Nat) : Int) ∨ i = ((ep % 2 + H : Nat) : Int) then some b else D.read i := by
  obtain ⟨h1, h2, _⟩ := Dv.saved_at h H ep b i
  rw [(Dv.saved_idle h H ep hb).read, h.read]
  unfold keptOf
  rw [h1, h2]
  split
  · rfl
  · rfl
end Go.Proofs.YtbjfgdahfpfgdaaGreatDoor.DevG
namespace Go.Proofs.YtbjfgdahfpfgdaaGreatDoor.RootW
open Go Go.RowKit Go.Maps Go.Proofs.YtbjfgdahfpfgdaaGreatDoor.Mem Go.Proofs.YtbjfgdahfpfgdaaGreatDoor.MapsW Go.Proofs.YtbjfgdahfpfgdaaGreatDoor.RootP Go.Proofs.YtbjfgdahfpfgdaaGreatDoor.DevG
set_option linter.unusedVariables false
set_option maxRecDepth 100000

theorem parse_zeros : parse (List.replicate 256 0) = none := by
  unfold parse
  rw [if_pos (by decide), if_neg]
  intro h
  have := h.1.e1
  revert this
  decide
theorem fold_best (r : Rt) (f : Nat → Option Rt) : ∀ (l : List Nat) (b : Rt), (b = r ∨ b.ep < r.ep) → (∀ s ∈ l, ∀ q, f s = some q → q = r ∨ q.ep < r.ep) →
    (l.foldl (fun b i => better b (f i)) b = r ∨ (l.foldl (fun b i => better b (f i)) b).ep < r.ep) ∧ ((b = r ∨ ∃ s ∈ l, f s = some r) → l.foldl (fun b i => better b (f i)) b = r) := by
  intro l
  induction l with
  | nil =>
    intro b hb _
    exact ⟨hb, fun h => h.elim id (fun ⟨s, hs, _⟩ => by cases hs)⟩
  | cons s l ih =>
    intro b hb hl
    have h1 : better b (f s) = r ∨ (better b (f s)).ep < r.ep := by
      cases hf : f s with
      | none => exact hb
      | some q =>
        show (if b.ep < q.ep then q else b) = r ∨ (if b.ep < q.ep then q else b).ep < r.ep
        split
        · exact hl s (by simp) q hf
        · exact hb
    have h2 := ih (better b (f s)) h1 fun x hx => hl x (by simp [hx])
    refine ⟨h2.1, fun h => h2.2 ?_⟩
    rcases h with rfl | ⟨x, hx, hfx⟩
    · left
      cases hf : f s with
      | none => rfl
      | some q =>
        show (if b.ep < q.ep then q else b) = b
        rcases hl s (by simp) q hf with rfl | h3
        · simp
        · rw [if_neg (by omega)]
    · rcases List.mem_cons.1 hx with rfl | hx
      · left
        rw [hfx]
        show (if b.ep < r.ep then r else b) = r
        rcases hb with rfl | h3
        · simp
        · rw [if_pos h3]
      · exact .inr ⟨x, hx, hfx⟩
/-- the root of the greatest epoch is found -/
theorem best_of {D : Dv} {H : Nat} {r : Rt} (h0 : 0 < r.ep) (h1 : ∃ s ∈ spots H, oneOf D (s : Int) = some r) (h2 : ∀ s ∈ spots H, ∀ q, oneOf D (s : Int) = some q → q = r ∨ q.ep < r.ep) : bestOf D H = r :=
  (fold_best r (fun i => oneOf D (i : Int)) (spots H) ⟨0, []⟩ (.inr h0) h2).2 (.inr h1)
theorem best_none {D : Dv} {H : Nat} (h : ∀ s ∈ spots H, oneOf D (s : Int) = none) : bestOf D H = ⟨0, []⟩ := by
  unfold bestOf bestUp
  rw [show (spots H).take 4 = spots H from rfl]
  revert h
  generalize spots H = l
  induction l with
  | nil => intro _; rfl
  | cons s l ih =>
    intro h
    rw [List.foldl_cons, h s (by simp)]
    exact ih fun x hx => h x (by simp [hx])
end Go.Proofs.YtbjfgdahfpfgdaaGreatDoor.RootW

namespace Go.Proofs.YtbjfgdahfpfgdaaGreatDoor.DevG
open Go Go.RowKit Go.Maps Go.Proofs.YtbjfgdahfpfgdaaGreatDoor.Mem Go.Proofs.YtbjfgdahfpfgdaaGreatDoor.MapsW
set_option linter.unusedVariables false

end Go.Proofs.YtbjfgdahfpfgdaaGreatDoor.DevG
namespace Go.Proofs.YtbjfgdahfpfgdaaGreatDoor.RootW
open Go Go.RowKit Go.Maps Go.Proofs.YtbjfgdahfpfgdaaGreatDoor.Mem Go.Proofs.YtbjfgdahfpfgdaaGreatDoor.MapsW Go.Proofs.YtbjfgdahfpfgdaaGreatDoor.RootP Go.Proofs.YtbjfgdahfpfgdaaGreatDoor.DevG
set_option linter.unusedVariables false

/-- a root that may be, with its sums -/
structure Fine (r : Rt) : Prop where
  g : RootP.Good r
  s : ∀ x ∈ r.rs, x.2 < 4294967296
theorem Fine.parse {r : Rt} (h : Fine r) : parse (enc r) = some r := parse_enc h.g h.s
theorem Fine.bytes {r : Rt} (h : Fine r) : Crc.Bytes (enc r) := enc_bytes h.g.n
theorem Fine.ep {r : Rt} (h : Fine r) : 0 < r.ep ∧ ((r.ep.toNat : Nat) : Int) = r.ep ∧ 0 < r.ep.toNat ∧ r.ep.toNat ≤ 1099511627776 := by
  have h1 := h.g.e1
  have h2 := h.g.e2
  omega
/-- r saved, then q, in the other two blocks -/
def two (D : Dv) (H : Nat) (r q : Rt) : Dv := (D.saved H r.ep.toNat (enc r)).saved H q.ep.toNat (enc q)
theorem spots_mem {H s : Nat} (h : s ∈ spots H) : s = 0 ∨ s = H ∨ s = 1 ∨ s = 1 + H := by simpa [spots] using h
theorem spot_of (H ep : Nat) : ep % 2 ∈ spots H ∧ ep % 2 + H ∈ spots H := by
  rcases Nat.mod_two_eq_zero_or_one ep with h | h <;> rw [h] <;> simp [spots]
end Go.Proofs.YtbjfgdahfpfgdaaGreatDoor.RootW
