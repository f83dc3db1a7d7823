/- The walk of page.Open of a device with a root; The walk of a store's Read; The walk of a layout's take; The walk of a store's Used. -/
import Derived.Test.YtbjfgdahfpfgdaaGreatDoorKeepFaultsP13
import Derived.Test.YtbjfgdahfpfgdaaGreatDoorKeepFaultsP9
import Derived.Deep.RegionHeld3
import Derived.Test.YtbjfgdahfpfgdaaGreatDoorKeepFaultsP12
import Derived.Test.YtbjfgdahfpfgdaaGreatDoorKeepFaultsP11
import Derived.Test.YtbjfgdahfpfgdaaGreatDoorKeepFaultsP10
import Derived.Test.YtbjfgdahfpfgdaaGreatDoorKeepFaultsP3
import Derived.Test.YtbjfgdahfpfgdaaGreatDoorKeepFaultsP8
namespace Go.Proofs.YtbjfgdahfpfgdaaGreatDoor.PgW
open Go Go.RowKit Go.Maps Go.Proofs.YtbjfgdahfpfgdaaGreatDoor.Mem Go.Proofs.YtbjfgdahfpfgdaaGreatDoor.MapsW Go.Proofs.YtbjfgdahfpfgdaaGreatDoor.SeeW Go.Proofs.YtbjfgdahfpfgdaaGreatDoor.DevG Go.Proofs.YtbjfgdahfpfgdaaGreatDoor.PairG Go.Proofs.YtbjfgdahfpfgdaaGreatDoor.RefsW Go.Proofs.YtbjfgdahfpfgdaaGreatDoor.PgP Go.Proofs.YtbjfgdahfpfgdaaGreatDoor.RootP Go.Proofs.YtbjfgdahfpfgdaaGreatDoor.RootW
set_option linter.unusedVariables false
set_option maxRecDepth 100000

theorem or_err (s : Nat) (a : Addr) (w : World) : Calls Tryz.prog 55 #[ptr s, ev a] w fun e w' => e = .returned (.tuple #[.pointer none, ev a]) ∧ w' = w := by
  go_enter Tryz.func55, Tryz.ntmps55
  go_wp2
  exact bodyPost_ret (v := .tuple #[.pointer none, ev a]) (by simp [results, Tryz.results55, go_sem]) rfl ⟨rfl, rfl⟩
/-- the tables of a root read one behind the other: the devices, how many were mended -/
structure Tabs (D : Dv) (H : Nat) (T : List Ref) (G : Int → Option Ref) (Ds : Nat → Dv) (cs : Nat → Nat) : Prop where
  d0 : Ds 0 = D
  c0 : cs 0 = 0
  zero : ∀ t, t < 7 → PgP.has G t = false → T.getD t (0, 0) = (0, 0) ∧ Ds (t + 1) = Ds t ∧ cs (t + 1) = cs t
  some : ∀ t, t < 7 → PgP.has G t = true → ∃ a : Nat, T.getD t (0, 0) = ((a : Int), Crc.sum (tblk G t)) ∧ 2 ≤ a ∧ a < H ∧ readP (Ds t) H (cs t) a (Crc.sum (tblk G t)) = (some (tblk G t), Ds (t + 1), cs (t + 1)) ∧ (D.fuse = 0 ∨ (Ds t).read (a : Int) = some (tblk G t))
  down : ∀ t, t ≤ 7 → (Ds t).down = false
  fuse : ∀ t, t ≤ 7 → (Ds t).fuse = D.fuse
  blocks : ∀ t, t ≤ 7 → (Ds t).blocks = D.blocks
  np : ∀ t, t ≤ 7 → (Ds t).np ≤ D.np + t
  calls : ∀ t, t ≤ 7 → (Ds t).calls ≤ D.calls + t
  bytes : ∀ t, t ≤ 7 → ∀ i l, (Ds t).read i = Option.some l → Crc.Bytes l
  cle : ∀ t, t ≤ 7 → cs t ≤ t
  best : (bestOf (Ds 7) H).ep = (bestOf D H).ep
/-- what is opened -/
abbrev stOf (ep : Nat) (T : List Ref) (G : Int → Option Ref) : St := ⟨ep, T, T, G, fun _ => none⟩
/-- a store opened, or why not -/
def OpenTo (bs : List Addr) (w : World) (lo n d : Nat) (m : Mp) (H : Nat) (S : St) (r : Option Nat × Dv) (e : Ending) (w' : World) : Prop :=
  ∃ p', (p' = m.p ∨ w.heap.size ≤ p') ∧ Turn (own d m) w w' ∧ (match r.1 with
    | none => ∃ I : Si, e = .returned (.tuple #[ptr I.s, .nilIface]) ∧ I.d = d ∧ I.H = H ∧ 0 ≤ I.z ∧ I.z ≤ 2 ∧ I.c ≤ 7 ∧ SAt w' lo n { m with p := p' } r.2 I S ∧ (∀ x ∈ I.own { m with p := p' }, x ∈ own d m ∨ w.heap.size ≤ x) ∧ w.heap.size ≤ I.tb ∧ ∀ b o, I.ra = some ⟨b, o, none⟩ → w.heap.size ≤ b
    | some q => ∃ a, bs[q]? = some a ∧ e = .returned (.tuple #[.pointer none, ev a]) ∧ At w' lo d n { m with p := p' } r.2)
/-- a pair read, on a device that may be armed where the first copy is right -/
theorem tread_w (bs : List Addr) (lo d n : Nat) (m : Mp) (D D' : Dv) (p h c c' a s : Nat) (l : List Nat) (w : World) (k : PR w lo d n m D p h c) (hu : D.down = false) (hB : Ev w lo bs five) (hi : a < h) (hbt : ∀ j l, D.read j = some l → Crc.Bytes l)
    (hr : readP D h c a s = (some l, D', c')) (hf : D.fuse = 0 ∨ D.read (a : Int) = some l) (hs : Crc.sum l = s) (hn : n < 850000) (hc : D.calls < 1000000) (hc2 : c < 1000000) :
    Calls Tryz.prog 56 #[ptr p, PairG.Rf a s] w fun e w' => (∃ g cap, e = .returned (.tuple #[.slice (some ⟨g, 0, none⟩) 256 cap, .nilIface]) ∧ Nums .u8 w' (some ⟨g, 0, none⟩) 256 cap l ∧ w.heap.size ≤ g) ∧ PR w' lo d (n + 1) m D' p h c' ∧ Turn (p :: own d m) w w' := by
  rcases hf with hf | hf
  · refine (PairG.read_w bs lo d n m D p h c a s w (k.pat hu hf) hB hi hbt hn hc hc2).mono ?_
    rintro e w' ⟨h1, h2, h3⟩
    rw [hr] at h1 h2
    exact ⟨h1, PR.of h2, h3⟩
  · rw [readP_first hf hs] at hr
    obtain ⟨_, h2⟩ := Prod.mk.inj hr
    obtain ⟨rfl, rfl⟩ := Prod.mk.inj h2
    refine (pread_first bs lo d n m D p h c a s w k hu hB hi hbt hf hs).mono ?_
    rintro e w' ⟨h3, h4⟩
    exact ⟨h3, (k.below h4).mono (by omega) (Nat.le_refl _), Turn.of_below h4⟩
set_option maxHeartbeats 6400000 in
theorem open_some (bs : List Addr) (lo d n : Nat) (m : Mp) (D : Dv) (w : World) (k : At w lo d n m D) (hB : Ev w lo bs seven) (h1 : 300 ≤ D.blocks) (h2 : D.blocks ≤ 6000) (hlo : lo ≤ w.heap.size)
    {H : Nat} (hH : H = GeoW.half D.blocks) {ep : Nat} {T : List Ref} {G : Int → Option Ref} {Ds : Nat → Dv} {cs : Nat → Nat} (hT : Tabs D H T G Ds cs)
    (hb : bestOf D H = ⟨(ep : Int), T⟩) (h7 : T.length = 7) (hg : RootP.Good ⟨(ep : Int), T⟩) (hs : ∀ x ∈ T, x.2 < 4294967296)
    (hG : ∀ p : Nat, RefOk (tref G p)) (hp : ∀ i r, G i = some r → 0 < r.1) (hd : ∀ i, (G i).isSome = true → 0 ≤ i ∧ i < 256)
    (hn : n < 700000) (hnp : D.np < 8000) (hc : D.calls < 700000) (hz : D.fuse ≤ 1000000) :
    Calls Tryz.prog 18 #[ptr d] w (OpenTo bs w lo (n + 400 + 3 * D.np) d m H (stOf ep T G) (wholeT (Ds 7) (stOf ep T G))) := by
  have hmm := @run_makeMap Tryz.prog
  have hu : D.down = false := by have := hT.down 0 (by omega); rw [hT.d0] at this; exact this
  have hbt : ∀ i l, D.read i = some l → Crc.Bytes l := by have := hT.bytes 0 (by omega); rw [hT.d0] at this; exact this
  have he1 := hg.e1
  have he2 := hg.e2
  simp only at he1 he2
  go_enter Tryz.func18, Tryz.ntmps18
  go_wp2_with fail
  refine (popenR_w 0 lo d n m D _ k h1 h2 hlo).mono ?_
  rintro e w1 ⟨p, rfl, kp, b1, hpw⟩
  have HP := hid hpw
  have hB1 := hB.below b1
  go_wp2_with (at_make; refine wpList_mkn elRef rfl _ _ rfl w1.heap.size _ _ _ _ 7 rfl rfl rfl rfl (by omega) (by unfold maxLen; omega) (Nat.le_refl _) ?_; intro w2 hown2 hg2)
  have g2 := (below_growns hg2 (Nat.le_refl w1.heap.size))
  have kp2 := kp.below g2
  have hz2 := g2.size
  have hz1 := b1.size
  have hot : OwnRefs w2 w1.heap.size (.slice (some ⟨w1.heap.size, 0, none⟩) 7 7) 7 (List.replicate 7 (0, 0)) := by
    have e : (madeCells (Value.agg #[Value.int IntKind.i64 0, Value.int IntKind.u32 0]).cells (7 * 2)).toList = refCells (List.replicate 7 (0, 0)) := by first | kernel_rfl | (simp [madeCells, refCells]; done) | decide
    rw [e] at hown2
    exact hown2
  have hpl := kp.plt
  have hout : ∀ x ∈ own d m, x < w.heap.size := fun x hx => by
    rcases List.mem_cons.1 hx with rfl | hx
    · exact k.dlt
    · obtain ⟨es, ck, hb⟩ := k.maps _ hx
      exact (Array.getElem?_eq_some_iff.1 hb).1
  have hk := SAt.fresh0 kp2 hot (by omega) (fun hm => by
    rcases List.mem_cons.1 hm with h | hm
    · omega
    · have := hout _ hm; omega)
  have hfz : ∀ j, w2.frozen? ⟨w1.heap.size, j, none⟩ = false := fun j => World.ownsRow.frozenAt hot j
  have htb := (own_tab hot).2
  obtain ⟨S, hS⟩ : ∃ S, S = Obj.cells (scells d p 0 none 0 0 w1.heap.size 7 w2.heap.size (w2.heap.size + 1) 0) 93 := ⟨_, rfl⟩
  rw [← hS] at hk
  have b3 : Below w2.heap.size w2 (((w2.alloc (.map #[] 0)).alloc (.map #[] 0)).alloc S) := (((Below.refl _ w2).alloc (Nat.le_refl _) (.map #[] 0)).alloc (by simp) (.map #[] 0)).alloc (by simp; omega) S
  have kl := load_far bs d lo n m D _ (kp2.dev.below b3) (((hB1.below g2).below b3).sub (by decide)) hu h1 h2 hbt
  rw [← hH, hb, hS] at kl
  rw [hS] at hk b3
  refine kl.mono ?_
  rintro e w3 ⟨⟨a, c, he, hR, hfar⟩, b4⟩
  simp only [h7] at he hR
  have hep0 : decide ((0 : Int) < (ep : Int)) = true := decide_eq_true (by omega)
  rw [hep0] at he
  subst he
  have hz3 := b3.size
  have hz4 := b4.size
  have hz4' : w2.heap.size + 3 ≤ w3.heap.size := by have := hz4; simp only [World.size_alloc] at this; omega
  obtain ⟨rb, ro, rfl, hr0, _⟩ := hR.at (j := 0) (by rw [h7]; decide)
  have hrb := hfar rb ro rfl
  have hrl := World.block_lt_of_cell? _ _ hr0
  have hK4 := hk.below b4
  have hf3 : ∀ j, w3.frozen? ⟨w1.heap.size, j, none⟩ = false := fun j => by
    have := hfz j
    unfold World.frozen? at this ⊢
    rw [(b3.trans (b4.mono b3.size)).block w1.heap.size htb]
    exact this
  have b5 := (Below.refl w3.heap.size w3).alloc (Nat.le_refl _) (.cells #[.int .i64 ep, .slice (some ⟨rb, ro, none⟩) 7 c] 89)
  obtain ⟨t0, t1⟩ := new2 w3 (.int .i64 (ep : Int)) (.slice (some ⟨rb, ro, none⟩) 7 c) 89
  have hK5 := hK4.below b5
  have hR5 := hR.below b5
  have hf5 : ∀ j, (w3.alloc (.cells #[.int .i64 ep, .slice (some ⟨rb, ro, none⟩) 7 c] 89)).frozen? ⟨w1.heap.size, j, none⟩ = false := fun j => by
    have := hf3 j
    unfold World.frozen? at this ⊢
    rw [b5.block w1.heap.size (by omega)]
    exact this
  obtain ⟨s0, s1, s2, s3, s4, s5, s6, s7, sz⟩ := hK5.c
  have sz2 := sz 2
  have sz3 := sz 3
  simp only at s0 s1 s2 s3 s4 s5 s6 s7 sz2 sz3
  have HK5 := hid hK5
  clear hK4 hK5 hk sz hmm
  go_upto_region 9 with fail
  generalize w3.alloc (.cells #[.int .i64 ep, .slice (some ⟨rb, ro, none⟩) 7 c] 89) = w5 at *
  have hsz5 := b5.size
  have hown5 : ∀ b o, some (⟨rb, ro, none⟩ : Addr) = some ⟨b, o, none⟩ → b ∉ Si.own ⟨d, p, GeoW.half D.blocks, 0, w2.heap.size + 2, w2.heap.size, w2.heap.size + 1, none, 0, w1.heap.size, 7, 0⟩ m := fun b o e hm => by
    cases e
    simp only [World.size_alloc] at hrb
    simp only [Si.own, List.mem_cons] at hm
    rcases hm with h | h | h | h | h
    · omega
    · omega
    · omega
    · omega
    · have := hout rb (List.mem_cons.2 h); omega
  have k6 := SAt.setRoot (c := c) HK5.out ep (T := T) (by omega) (by rw [h7]; exact hR5) hown5
  rw [h7] at k6
  simp only at k6
  have ht6 : Turn [w2.heap.size + 2] w5 ((w5.setCell ⟨w2.heap.size + 2, 2, none⟩ (.int .i64 ep)).setCell ⟨w2.heap.size + 2, 3, none⟩ (.slice (some ⟨rb, ro, none⟩) 7 c)) := (Turn.setCell w5 _ 2 _ (by simp)).then (Turn.setCell _ _ 3 _ (by simp))
  rw [show w2.heap.size + 1 + 1 = w2.heap.size + 2 from rfl]
  have hR6 := refs_turn hR5 ht6 (fun b o e hm => hown5 b o e (by rw [List.mem_singleton.1 hm]; simp))
  generalize (w5.setCell ⟨w2.heap.size + 2, 2, none⟩ (.int .i64 ep)).setCell ⟨w2.heap.size + 2, 3, none⟩ (.slice (some ⟨rb, ro, none⟩) 7 c) = w6 at *
  have hf6 : ∀ j, w6.frozen? ⟨w1.heap.size, j, none⟩ = false := fun j => by
    have := hf5 j
    unfold World.frozen? at this ⊢
    rw [ht6.block w1.heap.size (by omega) (by simp; omega)]
    exact this
  have ht61 : w6.cell? ⟨w3.heap.size, 1, none⟩ = some (.slice (some ⟨rb, ro, none⟩) 7 c) := cell_turn t1 ht6 (by simp; omega)
  obtain ⟨s0, s1, s2, s3, s4, s5, s6, s7, _⟩ := k6.c
  simp only at s0 s1 s2 s3 s4 s5 s6 s7
  have hT6 : Turn (own d m) w w6 := (((((Turn.of_below b1).then (Turn.of_below g2)).then (Turn.of_below b3)).then (Turn.of_below b4)).then (Turn.of_below b5)).trans ht6 (fun x hx => .inr (by rw [List.mem_singleton.1 hx]; omega))
  have HK6 := hid k6
  have HT6 := hid hT6
  have HFACT := hid (And.intro hpl (And.intro htb (And.intro hz4' (And.intro hrb (And.intro hout (And.intro hz1 (And.intro hz2 hf6)))))))
  have HR6 := hid hR6
  have HK6t := hid k6.tabs
  have hcb := hR6.bound.1
  have hcb2 := hR6.bound.2
  clear hR hR5 hf5 hf3 hfz hot hown2 kp kp2 kl HK5 hown5 ht6 b1 g2 b3 b4 b5 hr0 t0 t1 k6 hT6 hR6 hout hfar hg2 hf6 hbt
  have hfin : ∀ wx, Below w6.heap.size w6 wx → SAt (wx.setCells w1.heap.size 0 (refCells T)) lo n m D ⟨d, p, GeoW.half D.blocks, 0, w2.heap.size + 2, w2.heap.size, w2.heap.size + 1, some ⟨rb, ro, none⟩, c, w1.heap.size, 7, 0⟩ ⟨ep, T, T, fun _ => none, fun _ => none⟩ ∧ Turn (own d m) w (wx.setCells w1.heap.size 0 (refCells T)) := fun wx hbx =>
    ⟨SAt.setTabs (HK6.out.below hbx) h7 (fun b o e h => by cases e; have := HFACT.out.2.2.2.1; simp only [World.size_alloc] at this; simp only at h; omega), (HT6.out.then (Turn.of_below hbx)).trans (turn_setCells _ _ _ _) (fun x hx => .inr (by rw [List.mem_singleton.1 hx]; omega))⟩
  go_cut [] from 50 to 55 (fun wx => SAt wx lo n m D ⟨d, p, GeoW.half D.blocks, 0, w2.heap.size + 2, w2.heap.size, w2.heap.size + 1, some ⟨rb, ro, none⟩, c, w1.heap.size, 7, 0⟩ ⟨ep, T, T, fun _ => none, fun _ => none⟩ ∧ Turn (own d m) w wx)
  case first =>
    go_region_law (refine step_copy_refs rfl _ _ rfl w1.heap.size 7 c ⟨rb, ro, none⟩ (List.replicate 7 (0, 0)) T rfl rfl h7 (by first | exact HK6t.out | exact HK6t.out.below (Below.refl _ _).drew) HFACT.out.2.2.2.2.2.2.2 (by first | exact HR6.out | exact HR6.out.below (Below.refl _ _).drew) ?_)
    all_goals
      go_wp2_with fail
      go_meet
      first | exact hfin _ (Below.refl _ _).drew | exact hfin _ (Below.refl _ _) | exact ⟨(hfin _ (Below.refl _ _)).1.below (Below.refl _ _).drew, (hfin _ (Below.refl _ _)).2.then (Turn.of_below (Below.refl _ _).drew)⟩
  case rest =>
    obtain ⟨K7, T7⟩ := hcut
    generalize wc = w7 at *
    have hnew : ∀ x ∈ Si.own ⟨d, p, GeoW.half D.blocks, 0, w2.heap.size + 2, w2.heap.size, w2.heap.size + 1, some ⟨rb, ro, none⟩, c, w1.heap.size, 7, 0⟩ m, x ∈ own d m ∨ w.heap.size ≤ x := fun x hx => by
      have hq := HP.out
      simp only [Si.own, List.mem_cons] at hx
      rcases hx with h | h | h | h | h
      · right; omega
      · right; omega
      · right; omega
      · right; omega
      · left; exact List.mem_cons.2 h
    have htbn : w.heap.size ≤ w1.heap.size ∧ w.heap.size ≤ rb := ⟨hz1, by have := HFACT.out.2.2.2.1; simp only [World.size_alloc] at this; omega⟩
    have HB := hid hB
    have HTT := hid hT
    have HH := hid (And.intro hH (And.intro hG (And.intro hp hd)))
    have HGD := hid (And.intro hg hs)
    have HBE := hid hb
    have htw := T7.size
    clear hz3 hz4 hz4' hfin HK6t HR6 HFACT HT6 HK6 hS hcb hcb2 hB hT hB1 hH hG hp hd hg hs hb ht61 s0 s1 s2 s3 s4 s5 s6 s7 hrb hrl htb hsz5
    generalize w2.heap.size + 2 = sx at *
    generalize w2.heap.size + 1 = ox at *
    generalize w2.heap.size = ax at *
    generalize w1.heap.size = tbx at *
    have HNEW := hid hnew
    have HTB := hid htbn
    have HK7 := hid K7
    have HT7 := hid T7
    obtain ⟨s0, s1, s2, s3, s4, s5, s6, s7, _⟩ := K7.c
    simp only at s0 s1 s2 s3 s4 s5 s6 s7
    clear K7 T7 hnew htbn
    have HD0 := hid (And.intro HTT.out.d0 HTT.out.c0)
    go_wp2_with fail
    go_loopw [61] (fun iv wr => ∃ t : Nat, t ≤ 7 ∧ iv = .int .i64 t ∧ SAt wr lo (n + 50 * t) m (Ds t) ⟨d, p, GeoW.half D.blocks, cs t, sx, ax, ox, some ⟨rb, ro, none⟩, c, tbx, 7, 0⟩ ⟨ep, T, T, PgP.upto G t, fun _ => none⟩ ∧ Turn (own d m) w wr) (fun iv _ => 7 - (RowKit.intOf iv).toNat)
    case atStart => exact ⟨0, by omega, rfl, by rw [HD0.out.1, HD0.out.2, PgP.upto_zero]; exact HK7.out, HT7.out⟩
    case round =>
      obtain ⟨t, ht, rfl, hk, hTu⟩ := hrel
      have HK := hid hk
      have HT := hid hTu
      obtain ⟨r0, r1, r2, r3, r4, r5, r6, r7, _⟩ := hk.c
      simp only at r0 r1 r2 r3 r4 r5 r6 r7
      clear s0 s1 s2 s3 s4 s5 s6 s7
      by_cases hlt : t < 7
      · have htT : t < T.length := by rw [h7]; exact hlt
        obtain ⟨tb', to', e, hc0, hc1⟩ := hk.tabs.at (j := t) htT
        cases e
        have hTt : T.getD t (0, 0) = T[t] := by simp [List.getD, htT]
        simp only at hc0 hc1
        rw [Nat.zero_add] at hc0 hc1
        cases hh : PgP.has G t with
        | false =>
          obtain ⟨e1, e2, e3⟩ := HTT.out.zero t hlt hh
          have HE := hid (And.intro e2 (And.intro e3 (PgP.upto_skip hh)))
          rw [hTt] at e1
          rw [e1] at hc0 hc1
          have bA := (Below.refl wr.heap.size wr).alloc (Nat.le_refl _) (.cells #[.int .i64 0, .int .u32 0] 111)
          have HC := hid (hk.below bA)
          have HTA := hid (hTu.then (Turn.of_below bA))
          obtain ⟨x0, x1⟩ := new2 wr (.int .i64 0) (.int .u32 0) 111
          simp only [Int.cast_ofNat_Int] at hc0 hc1
          clear hTt e1 e2 e3 hk hTu bA
          go_wp2_with fail
          go_roundw
          case rel =>
            have he := HE.out
            refine ⟨t + 1, by omega, by go_num, ?_, HTA.out⟩
            rw [he.1, he.2.1, he.2.2]
            exact HC.out.mono (by omega)
          case measure => simp [RowKit.intOf]; omega
        | true =>
          obtain ⟨q, e1, hq2, hqH, hrd, hfz⟩ := HTT.out.some t hlt hh
          rw [hTt] at e1
          rw [e1] at hc0 hc1
          simp only at hc0 hc1
          have hHe := HH.out.1
          have hq6 : q < 6000 := by have := GeoW.half_512 D.blocks; omega
          obtain ⟨sm, hsm⟩ : ∃ sm, sm = Crc.sum (tblk G t) := ⟨_, rfl⟩
          rw [← hsm] at hc1 hrd
          have bA := (Below.refl wr.heap.size wr).alloc (Nat.le_refl _) (.cells #[.int .i64 (q : Int), .int .u32 (sm : Int)] 111)
          have kA := hk.below bA
          have hB2 := (HB.out.turn hTu (fun x hx => (hk.pr.dev.own_lo x hx))).below bA
          obtain ⟨x0, x1⟩ := new2 wr (.int .i64 (q : Int)) (.int .u32 (sm : Int)) 111
          rw [hHe] at hrd
          have hbl := HTT.out.blocks t ht
          have hrw := tread_w bs lo d (n + 50 * t) m (Ds t) (Ds (t + 1)) p (GeoW.half D.blocks) (cs t) (cs (t + 1)) q sm (tblk G t) _ kA.pr (HTT.out.down t ht) (hB2.sub (by decide)) (by omega) (fun j l => HTT.out.bytes t ht j l) hrd (by have := HTT.out.fuse t ht; rw [this]; exact hfz) hsm.symm (by omega) (by have := HTT.out.calls t ht; omega) (by have := HTT.out.cle t ht; omega)
          have hq0 : ((q : Int) == 0) = false := by rw [beq_eq_false_iff_ne]; omega
          have hq1 : ¬ (q : Int) = 0 := by omega
          have HKA := hid kA
          have HTA := hid (hTu.then (Turn.of_below bA))
          have HBA := hid bA
          clear hTt e1 hk hTu bA kA hB2 hrd hfz hsm
          go_wp2_with fail
          refine hrw.mono ?_
          rintro e w8 ⟨⟨g, gc, rfl, hnm, hgl⟩, hpr8, ht8⟩
          have k8 := HKA.out.turn (c' := cs (t + 1)) (n' := n + 50 * t + 1) hpr8 ht8 (by omega) (fun x hx => .inl hx)
          have hz8 := ht8.size
          have hza := HBA.out.size
          have hgo : g ∉ Si.own ⟨d, p, GeoW.half D.blocks, cs (t + 1), sx, ax, ox, some ⟨rb, ro, none⟩, c, tbx, 7, 0⟩ m := fun hm => by
            have := HKA.out.own_lt g hm
            omega
          have hrT := readT_w lo (n + 50 * t + 1) m (Ds (t + 1)) _ _ t g gc (tblk G t) w8 k8 hnm (tblk_bytes _ _) hlt hgo (by omega)
          have HT8 := hid (HTA.out.trans ht8 (fun x hx => by
            rcases List.mem_cons.1 hx with e | h
            · subst e; exact .inr HP.out
            · exact .inl h))
          have hax : ax ∉ own d m := k8.ax
          have HX := hid (show ax ∈ own d m ∨ w.heap.size ≤ ax from HNEW.out ax (by simp [Si.own]))
          have hup := PgP.upto_read (t := t) HH.out.2.1 HH.out.2.2.1 HH.out.2.2.2
          have HUP := hid hup
          clear hrw k8 hpr8 ht8 hgo hnm hup HKA HTA
          simp only at hrT
          go_wp2_with fail
          refine hrT.mono ?_
          rintro e w9 ⟨rfl, k9, ht9⟩
          have HK9 := hid k9
          have HT9 := hid (HT8.out.trans ht9 (fun x hx => by
            rw [List.mem_singleton.1 hx]
            exact HX.out))
          clear hrT k9 ht9
          go_wp2_with fail
          go_roundw
          case rel =>
            refine ⟨t + 1, by omega, by go_num, ?_, HT9.out⟩
            have k10 := HK9.out
            rw [HUP.out] at k10
            exact k10.mono (by omega)
          case measure => simp [RowKit.intOf]; omega
      · obtain rfl : t = 7 := by omega
        have hup7 := PgP.upto_all HH.out.2.2.2
        rw [hup7] at hk
        have hbl := HTT.out.blocks 7 (by omega)
        have hfu := HTT.out.fuse 7 (by omega)
        have hnp7 := HTT.out.np 7 (by omega)
        have hca7 := HTT.out.calls 7 (by omega)
        have hcl7 := HTT.out.cle 7 (by omega)
        have hwh := whole_w bs lo (n + 50 * 7) m (Ds 7) _ _ wr hk (HB.out.turn hTu (fun x hx => (hk.pr.dev.own_lo x hx))) (HTT.out.down 7 (by omega)) (by omega) (HTT.out.bytes 7 (by omega)) (by
          rw [hbl, ← HH.out.1, HTT.out.best, HBE.out]) HGD.out.1 HGD.out.2 ⟨by simp, by simp⟩ (by omega) (by omega) (by omega) (by omega)
        obtain ⟨WT, hWT⟩ : ∃ WT, WT = wholeT (Ds 7) (stOf ep T G) := ⟨_, rfl⟩
        rw [← hWT]
        have hwh' : Calls Tryz.prog 58 #[ptr sx] wr (WholeTo bs wr lo (n + 50 * 7 + 8 + 3 * (Ds 7).np) m ⟨d, p, GeoW.half D.blocks, cs 7, sx, ax, ox, some ⟨rb, ro, none⟩, c, tbx, 7, 0⟩ (stOf ep T G) WT) := by rw [hWT]; exact hwh
        have HT7' := hid hTu
        have HWT := hid hWT
        clear hwh hk hTu hWT
        go_wp2_with fail
        refine hwh'.mono ?_
        rintro e w8 ⟨v, p', z', hv, rfl, k8, hp', t8, hz81, hz82⟩
        have HNW := hid (show ∀ x ∈ Si.own ⟨d, p, GeoW.half D.blocks, cs 7, sx, ax, ox, some ⟨rb, ro, none⟩, c, tbx, 7, z'⟩ { m with p := p' }, x ∈ own d m ∨ w.heap.size ≤ x from fun x hx => by
          have hw := HT7'.out.size
          simp only [Si.own, own, Mp.list, List.mem_cons, List.not_mem_nil, or_false] at hx
          rcases hx with h | h | h | h | h | h | h | h | h | h
          · exact HNEW.out x (by simp [Si.own, h])
          · exact HNEW.out x (by simp [Si.own, h])
          · exact HNEW.out x (by simp [Si.own, h])
          · exact HNEW.out x (by simp [Si.own, h])
          · left; simp [own, h]
          · left; simp [own, Mp.list, h]
          · rcases hp' with e | e
            · left; simp [own, Mp.list, h, e]
            · right; omega
          · left; simp [own, Mp.list, h]
          · left; simp [own, Mp.list, h]
          · left; simp [own, Mp.list, h])
        have HT8 := hid (show Turn (own d m) w w8 from HT7'.out.trans t8 (fun x hx => by
          rcases List.mem_cons.1 hx with e | h
          · subst e
            exact HNEW.out _ (by simp [Si.own])
          · exact .inl h))
        have HP8 := hid (show p' = m.p ∨ w.heap.size ≤ p' from hp'.imp id (fun h => Nat.le_trans HT7'.out.size h))
        have H8 := hid (k8.mono (n' := n + 400 + 3 * D.np) (by omega))
        have HZ := hid (And.intro hz81 hz82)
        clear k8 t8 hp' hz81 hz82 hwh' HT7'
        obtain ⟨W1, W2⟩ := WT
        cases W1 with
        | none =>
          have hv' : v = .nilIface := hv
          subst hv'
          go_wp2_with (refine (PageW.or_w _ _).mono ?_; rintro e w' ⟨rfl, rfl⟩)
          exact bodyPost_ret (v := .tuple #[ptr sx, .nilIface]) (by simp [results, Tryz.results18, go_sem]) rfl (by rw [← HWT.out]; exact ⟨p', HP8.out, HT8.out, _, rfl, rfl, HH.out.1.symm, HZ.out.1, HZ.out.2, hcl7, H8.out, HNW.out, HTB.out.1, fun b o e => by cases e; exact HTB.out.2⟩)
        | some qe =>
          obtain ⟨ad, had, rfl⟩ := hv
          have HAD := hid had
          clear had
          go_wp2_with (refine (or_err _ _ _).mono ?_; rintro e w' ⟨rfl, rfl⟩)
          exact bodyPost_ret (v := .tuple #[.pointer none, ev ad]) (by simp [results, Tryz.results18, go_sem]) rfl (by rw [← HWT.out]; exact ⟨p', HP8.out, HT8.out, ad, HAD.out, rfl, H8.out.pr.dev⟩)
end Go.Proofs.YtbjfgdahfpfgdaaGreatDoor.PgW

namespace Go.Proofs.YtbjfgdahfpfgdaaGreatDoor.PgW
open Go Go.RowKit Go.Maps Go.Proofs.YtbjfgdahfpfgdaaGreatDoor.Mem Go.Proofs.YtbjfgdahfpfgdaaGreatDoor.MapsW Go.Proofs.YtbjfgdahfpfgdaaGreatDoor.SeeW Go.Proofs.YtbjfgdahfpfgdaaGreatDoor.DevG Go.Proofs.YtbjfgdahfpfgdaaGreatDoor.PairG Go.Proofs.YtbjfgdahfpfgdaaGreatDoor.RefsW Go.Proofs.YtbjfgdahfpfgdaaGreatDoor.PgP
set_option linter.unusedVariables false
set_option maxRecDepth 100000

/-- a page that is none, or is not there -/
theorem read_bad (bs : List Addr) (lo n : Nat) (m : Mp) (D : Dv) (I : Si) (S : St) (p : Int) (w : World) (k : SAt w lo n m D I S) (hB : Ev w lo bs seven) (hf : Fits p) (q : Nat) (hq : (isP p = false ∧ q = 2) ∨ (isP p = true ∧ S.there p = false ∧ q = 8)) :
    Calls Tryz.prog 19 #[ptr I.s, .int .i64 p] w fun e w' => (∃ a, bs[q]? = some a ∧ e = .returned (.tuple #[.slice none 0 0, ev a])) ∧ Below w.heap.size w w' := by
  have hi := is_w p w
  rcases hq with ⟨hp, rfl⟩ | ⟨hp, hT, rfl⟩
  · obtain ⟨a2, h2, hA2⟩ := hB.get 2 _ (by decide) rfl
    obtain ⟨x2, _, _, _⟩ := hA2
    rw [hp] at hi
    clear k hB
    go_enter Tryz.func19, Tryz.ntmps19
    go_wp2_with fail
    refine hi.mono ?_
    rintro e w' ⟨rfl, hw⟩
    rw [hw]
    clear hw
    go_wp2_with fail
    go_quiet (fail)
    have hb := below_drewN (Below.refl w.heap.size w)
    go_wp2
    exact bodyPost_ret (v := .tuple #[.slice none 0 0, ev a2]) (by simp [results, Tryz.results19, go_sem]) rfl ⟨⟨a2, h2, rfl⟩, hb _⟩
  · obtain ⟨a2, h2, hA2⟩ := hB.get 8 _ (by decide) rfl
    obtain ⟨x2, _, _, _⟩ := hA2
    have ht := there_w lo n m D I S p w k hf
    rw [hp] at hi
    rw [hT] at ht
    clear k hB
    go_enter Tryz.func19, Tryz.ntmps19
    go_wp2_with fail
    refine hi.mono ?_
    rintro e w' ⟨rfl, hw⟩
    rw [hw]
    clear hw
    go_wp2_with fail
    refine ht.mono ?_
    rintro e w'' ⟨rfl, hw⟩
    rw [hw]
    clear hw
    go_wp2_with fail
    go_quiet (fail)
    have hb := below_drewN (Below.refl w.heap.size w)
    go_wp2
    exact bodyPost_ret (v := .tuple #[.slice none 0 0, ev a2]) (by simp [results, Tryz.results19, go_sem]) rfl ⟨⟨a2, h2, rfl⟩, hb _⟩
/-- a page that was written -/
theorem read_now (lo n : Nat) (m : Mp) (D : Dv) (I : Si) (S : St) (p : Int) (l : List Nat) (w : World) (k : SAt w lo n m D I S) (hp : isP p = true) (hN : S.now p = some l) (hl0 : l ≠ []) (hl1 : l.length ≤ 248) :
    Calls Tryz.prog 19 #[ptr I.s, .int .i64 p] w fun e w' => (∃ a c, e = .returned (.tuple #[.slice a l.length c, .nilIface]) ∧ Nums .u8 w' a l.length c l) ∧ Below w.heap.size w w' := by
  obtain ⟨p0, p1, hf⟩ := isP_fits hp
  have hi := is_w p w
  have ht := there_w lo n m D I S p w k hf
  have hT : S.there p = true := by
    unfold St.there; rw [hN]
    cases l with
    | nil => exact absurd rfl hl0
    | cons y l => simp
  rw [hp] at hi
  rw [hT] at ht
  obtain ⟨y, l', rfl⟩ : ∃ y l', l = y :: l' := by
    cases l with
    | nil => exact absurd rfl hl0
    | cons y l' => exact ⟨y, l', rfl⟩
  obtain ⟨ko, ho⟩ := k.now
  obtain ⟨g, gc, l5, hg, _⟩ := ho.ok_some hf hN
  have c6 := k.c.2.2.2.2.2.2.1
  rw [List.length_cons] at hl1 ⊢
  obtain ⟨q, hq⟩ : ∃ q, q = l'.length + 1 := ⟨_, rfl⟩
  rw [← hq] at hl1 l5 hg ⊢
  clear k ho hN hq hT
  go_enter Tryz.func19, Tryz.ntmps19
  go_wp2_with fail
  refine hi.mono ?_
  rintro e w' ⟨rfl, hw⟩
  rw [hw]
  clear hw
  go_wp2_with fail
  refine ht.mono ?_
  rintro e w'' ⟨rfl, hw⟩
  rw [hw]
  clear hw
  go_wp2_with fail
  refine (RefW.clone_w (some ⟨g, 0, none⟩) q gc (y :: l') _ hg (by omega)).mono ?_
  rintro e w3 ⟨v, rfl, own3, hb3⟩
  obtain ⟨va, vc, rfl, hvr⟩ := ownsRow_slice own3
  clear own3 l5 c6 hg
  go_wp2
  exact bodyPost_ret (v := .tuple #[.slice va q vc, .nilIface]) (by simp [results, Tryz.results19, go_sem]) rfl ⟨⟨va, vc, rfl, hvr⟩, hb3⟩
theorem pblk_get {l : List Nat} (h : l.length ≤ 255) : (pblk l)[0]? = some l.length := rfl
theorem pblk_take {l : List Nat} (h : l.length ≤ 255) : ((pblk l).drop 1).take l.length = l := by
  show (l ++ _).take l.length = l
  exact List.take_left
set_option maxHeartbeats 3200000 in
/-- a page as it was committed -/
theorem read_at (bs : List Addr) (lo n : Nat) (m : Mp) (D D' : Dv) (I : Si) (S : St) (p : Int) (l : List Nat) (a s c' : Nat) (w : World) (k : SAt w lo n m D I S) (hB : Ev w lo bs seven) (hp : isP p = true) (hN : S.now p = none) (hA : S.at_ p = some ((a : Int), s)) (ha : a < I.H) (ha0 : 0 < a) (hl1 : l.length ≤ 248)
    (hu : D.down = false) (hz : D.fuse = 0) (hbt : ∀ j l, D.read j = some l → Crc.Bytes l) (hn : n < 690000) (hc : D.calls < 1000000) (hc2 : I.c < 1000000) (hr : readP D I.H I.c a s = (some (pblk l), D', c')) (hD' : D'.blocks = D.blocks) :
    Calls Tryz.prog 19 #[ptr I.s, .int .i64 p] w fun e w' => (∃ a c, e = .returned (.tuple #[.slice a l.length c, .nilIface]) ∧ Nums .u8 w' a l.length c l ∧ ∀ b o, a = some ⟨b, o, none⟩ → w.heap.size ≤ b) ∧ SAt w' lo (n + 1) m D' { I with c := c' } S ∧ Turn (I.p :: own I.d m) w w' := by
  obtain ⟨p0, p1, hf⟩ := isP_fits hp
  have hi := is_w p w
  have ht := there_w lo n m D I S p w k hf
  have hT : S.there p = true := by
    unfold St.there; rw [hN, hA]
    simpa using ha0
  rw [hp] at hi
  rw [hT] at ht
  obtain ⟨ko, ho⟩ := k.now
  have l5 := ho.ok_none hf hN
  have c6 := k.c.2.2.2.2.2.2.1
  have hX : ∀ w', Below w.heap.size w w' → w'.cell? ⟨I.s, 1, none⟩ = some (ptr I.p) ∧ w'.cell? ⟨I.s, 5, none⟩ = some (.map (some I.a)) ∧ (Instr.lookup 90 (.map (some I.a)) (.int .i64 p) false).run Tryz.prog w' = .ok (PairG.Rf (a : Int) s) w' := by
    intro w' hb
    have k' := k.below hb
    obtain ⟨ka, hka⟩ := k'.at_
    have := hka.look hf
    rw [hA] at this
    exact ⟨k'.c.2.1, k'.c.2.2.2.2.2.1, this⟩
  have hS : ∀ w', SAt w' lo (n + 1) m D' { I with c := c' } S → w'.cell? ⟨I.s, 1, none⟩ = some (ptr I.p) ∧ w'.cell? ⟨I.s, 5, none⟩ = some (.map (some I.a)) ∧ (Instr.lookup 90 (.map (some I.a)) (.int .i64 p) false).run Tryz.prog w' = .ok (PairG.Rf (a : Int) s) w' := by
    intro w' k'
    obtain ⟨ka, hka⟩ := k'.at_
    have := hka.look hf
    rw [hA] at this
    exact ⟨k'.c.2.1, k'.c.2.2.2.2.2.1, this⟩
  have hrd := fun (w' : World) (hb : Below w.heap.size w w') => PairG.read_w bs lo I.d n m D I.p I.H I.c a s w' ((k.below hb).pr.pat hu hz) ((hB.sub (by decide)).below hb) ha hbt (by omega) hc hc2
  rw [hr] at hrd
  have hfin := fun (w' : World) (kp : PAt w' lo I.d (n + 1) m D' I.p I.H c') (w1 : World) (hb : Below w.heap.size w w1) (t : Turn (I.p :: own I.d m) w1 w') => (k.below hb).turn (PR.of kp) t (by omega) (fun x hx => .inl hx)
  have hg0 := pblk_get (l := l) (by omega)
  have htk := pblk_take (l := l) (by omega)
  generalize pblk l = b at *
  obtain ⟨q, hq⟩ : ∃ q, q = l.length := ⟨_, rfl⟩
  rw [← hq] at hg0 htk hl1 ⊢
  have HQ := hid hq
  clear hq
  have HT := hid hT
  have HX := hid hX
  have HS := hid hS
  have HF := hid hfin
  have HTK := hid htk
  obtain ⟨c1, c5, l4⟩ := hX w.drew (Below.refl _ _).drew
  clear hX hS hfin hT hN hA hr ho k hB htk
  go_enter Tryz.func19, Tryz.ntmps19
  go_wp2_with fail
  refine hi.mono ?_
  rintro e w' ⟨rfl, hw⟩
  rw [hw]
  clear hw
  go_wp2_with fail
  refine ht.mono ?_
  rintro e w'' ⟨rfl, hw⟩
  rw [hw]
  clear hw
  go_wp2_with fail
  go_region_held3 (fun w' => w'.cell? ⟨I.s, 1, none⟩ = some (ptr I.p) ∧ w'.cell? ⟨I.s, 5, none⟩ = some (.map (some I.a)) ∧ (Instr.lookup 90 (.map (some I.a)) (.int .i64 p) false).run Tryz.prog w' = .ok (PairG.Rf (a : Int) s) w') (first | exact ⟨c1, c5, l4⟩ | exact ⟨z1, z5, zl⟩ | go_keep)
    ((go_at_call 56; refine (hrd _ (below_drewN (Below.refl _ _) _)).mono ?_; rintro e w3 ⟨⟨g, gc, rfl, hg, hgb⟩, kp, t3⟩; have hgb' : w.heap.size ≤ g := hgb; have k3 := HF.out _ kp _ (below_drewN (Below.refl _ _) _) t3; obtain ⟨z1, z5, zl⟩ := HS.out _ k3))
  have HG := hid hg
  have T4 : Turn (I.p :: own I.d m) w w3 := (Turn.of_below (below_drewN (Below.refl _ w) 1)).then t3
  have HK := hid k3
  have HT4 := hid T4
  have hcell : w3.cell? ⟨g, 0, none⟩ = some (.int .u8 (q : Int)) := Row.cell hg (j := 0) (by simp [nums, hg0])
  have d1 : decide ((248 : Int) < (q : Int)) = false := decide_eq_false (by omega)
  have hcap : 256 ≤ gc := hg.bound.1
  have hcap2 := hg.bound.2
  clear hg kp t3 k3 T4 hrd hbt hgb z1 z5 zl c1 c5 l4
  go_wp2
  have hnd : Nums .u8 w3 (some ⟨g, 1, none⟩) q (gc - 1) l := by
    have h1 := (RootW.nums_drop HG.out 1 (by decide)).take (m := q) (by omega)
    rw [HTK.out, Nat.zero_add] at h1
    exact h1
  exact bodyPost_ret (v := .tuple #[.slice (some ⟨g, 1, none⟩) q (gc - 1), .nilIface]) (by simp [results, Tryz.results19, go_sem]) rfl ⟨⟨_, _, rfl, hnd, fun b o e => by cases e; exact hgb'⟩, HK.out, HT4.out⟩
end Go.Proofs.YtbjfgdahfpfgdaaGreatDoor.PgW

namespace Go.Proofs.YtbjfgdahfpfgdaaGreatDoor.PgW
open Go Go.RowKit Go.Maps Go.Proofs.YtbjfgdahfpfgdaaGreatDoor.Mem Go.Proofs.YtbjfgdahfpfgdaaGreatDoor.MapsW Go.Proofs.YtbjfgdahfpfgdaaGreatDoor.DevG Go.Proofs.YtbjfgdahfpfgdaaGreatDoor.PgP Go.Proofs.YtbjfgdahfpfgdaaGreatDoor.RefsW
set_option linter.unusedVariables false
set_option maxRecDepth 100000

theorem fz_of {w : World} {b : Nat} {cs : Array Value} {t : TypeId} (h : w.heap[b]? = some (.cells cs t)) (j : Nat) : w.frozen? ⟨b, j, none⟩ = false := by simp [World.frozen?, h]
theorem take_none (base n X tb tc a : Nat) (vn vp vf : Value) (x : Lay) (w : World) (h : LAt w base n X tb tc a vn vp vf x) (hf : x.free = []) (hb : base ≤ w.heap.size) :
    Calls Tryz.prog 83 #[ptr X] w fun e w' => e = .returned (.tuple #[refV (0, 0), .bool false]) ∧ LAt w' base n X tb tc a vn vp vf x ∧ Below w.heap.size w w' := by
  obtain ⟨fa, fc, hv, hn⟩ := h.free
  rw [hf] at hv
  have bx := (Below.refl w.heap.size w).alloc (Nat.le_refl _) (.cells #[.int .i64 0, .int .u32 0] 111)
  have c4 := (h.below bx).c.2.2.2.2.1
  rw [hv] at c4
  obtain ⟨x0, x1⟩ := new2 w (.int .i64 0) (.int .u32 0) 111
  have hr := heap_alloc_new w (.cells #[.int .i64 0, .int .u32 0] 111)
  have f0 := fz_of hr 0
  have f1 := fz_of hr 1
  have hF : ∀ u v, Below w.heap.size w (((w.alloc (.cells #[.int .i64 0, .int .u32 0] 111)).setCell ⟨w.heap.size, 0, none⟩ u).setCell ⟨w.heap.size, 1, none⟩ v) := fun u v => (bx.setCell (p := ⟨w.heap.size, 0, none⟩) (Nat.le_refl _) u).setCell (p := ⟨w.heap.size, 1, none⟩) (Nat.le_refl _) v
  have HF := hid hF
  have HH := hid h
  clear hF h hn hv hf hr
  go_enter Tryz.func83, Tryz.ntmps83
  go_wp2
  refine bodyPost_ret (v := .tuple #[refV (0, 0), .bool false]) (by simp [results, Tryz.results83, go_sem, x0, x1]) rfl ⟨rfl, HH.out.below ?_, ?_⟩ <;> first | exact HF.out _ _ | exact bx
set_option maxHeartbeats 1600000 in
theorem take_some (base n X tb tc a : Nat) (vn vp vf : Value) (x : Lay) (f : Nat) (fs : List Nat) (w : World) (h : LAt w base n X tb tc a vn vp vf x) (hf : x.free = f :: fs) (hb : base ≤ w.heap.size) :
    Calls Tryz.prog 83 #[ptr X] w fun e w' => e = .returned (.tuple #[refV ((f : Int), 0), .bool true]) ∧ (∃ vf', LAt w' base n X tb tc a vn vp vf' { x with free := fs } ∧ blk vf' = blk vf) ∧ Turn [X] w w' := by
  obtain ⟨fa, fc, hv, hn⟩ := h.free
  rw [hf, List.length_cons] at hv hn
  obtain ⟨b, o, rfl, hc⟩ := hn.at (j := 0) (by simp)
  have hcap := hn.bound
  rw [List.getElem_cons_zero, Nat.add_zero] at hc
  subst hv
  obtain ⟨o', ho'⟩ : ∃ o', o' = if fc = 1 then o else o + 1 := ⟨_, rfl⟩
  have hn' : Nums .i64 w (some ⟨b, o', none⟩) fs.length (fc - 1) fs := by
    by_cases h1 : fc = 1
    · have h0 : fs = [] := List.length_eq_zero_iff.1 (by omega)
      subst h0
      exact ⟨rfl, by simp, by unfold maxLen; omega, fun e => by simp at e, fun j u hj => by simp [nums] at hj⟩
    · rw [ho', if_neg h1]
      have h2 := RootW.nums_drop hn 1 (by simp)
      simpa using h2
  have hXlt := h.lt X (by simp)
  have c4 := h.c.2.2.2.2.1
  have fX := h.c.2.2.2.2.2 4
  have hbl : b < w.heap.size := World.block_lt_of_cell? w _ hc
  have hc9 := hcap.2
  have hL := h.setFree (o' := o') hf hn'
  have hg := grown_set w X 4 (.slice (some ⟨b, o', none⟩) fs.length (fc - 1))
  have hB : Turn [X] w (w.setCell ⟨X, 4, none⟩ (.slice (some ⟨b, o', none⟩) fs.length (fc - 1))) := Turn.setCell w X 4 _ (by simp)
  have hsz : (w.setCell ⟨X, 4, none⟩ (.slice (some ⟨b, o', none⟩) fs.length (fc - 1))).heap.size = w.heap.size := by simp
  have hFin : ∀ O : Obj, LAt (((w.setCell ⟨X, 4, none⟩ (.slice (some ⟨b, o', none⟩) fs.length (fc - 1))).alloc O).alloc O) base n X tb tc a vn vp (.slice (some ⟨b, o', none⟩) fs.length (fc - 1)) { x with free := fs } ∧ Turn [X] w (((w.setCell ⟨X, 4, none⟩ (.slice (some ⟨b, o', none⟩) fs.length (fc - 1))).alloc O).alloc O) := by
    intro O
    have b1 := ((Below.refl _ (w.setCell ⟨X, 4, none⟩ (.slice (some ⟨b, o', none⟩) fs.length (fc - 1)))).alloc (Nat.le_refl _) O).alloc (by simp) O
    exact ⟨hL.below b1, hB.then (Turn.of_below b1)⟩
  have HFIN := hid hFin
  clear hFin hL hg hB hsz h hn hn' hf
  obtain ⟨q, hq⟩ : ∃ q, q = fs.length + 1 := ⟨_, rfl⟩
  rw [← hq] at c4 hcap
  have hsub : q - 1 = fs.length := by omega
  have hq9 : q ≤ 9223372036854775807 := by omega
  have hd : (((q : Nat) : Int) == 0) = false := by rw [beq_eq_false_iff_ne]; omega
  have hq1 : 1 ≤ q := by omega
  clear hq
  go_enter Tryz.func83, Tryz.ntmps83
  rcases (by omega : fc = 1 ∨ 1 < fc) with h1 | h1
  · subst h1
    rw [if_pos rfl] at ho'
    subst ho'
    go_wp2
    obtain ⟨hL, hB⟩ := HFIN.out (.cells #[.int .i64 (f : Int), .int .u32 0] 111)
    simp only [Nat.sub_self] at hL hB
    exact bodyPost_ret (v := .tuple #[refV (f, 0), .bool true]) (by simp [results, Tryz.results83, go_sem]) rfl ⟨rfl, ⟨_, hL, rfl⟩, hB⟩
  · rw [if_neg (by omega)] at ho'
    subst ho'
    go_wp2
    obtain ⟨hL, hB⟩ := HFIN.out (.cells #[.int .i64 (f : Int), .int .u32 0] 111)
    exact bodyPost_ret (v := .tuple #[refV (f, 0), .bool true]) (by simp [results, Tryz.results83, go_sem]) rfl ⟨rfl, ⟨_, hL, rfl⟩, hB⟩
end Go.Proofs.YtbjfgdahfpfgdaaGreatDoor.PgW

namespace Go.Proofs.YtbjfgdahfpfgdaaGreatDoor.PgW
open Go Go.RowKit Go.Maps Go.Proofs.YtbjfgdahfpfgdaaGreatDoor.Mem Go.Proofs.YtbjfgdahfpfgdaaGreatDoor.MapsW Go.Proofs.YtbjfgdahfpfgdaaGreatDoor.SeeW Go.Proofs.YtbjfgdahfpfgdaaGreatDoor.DevG Go.Proofs.YtbjfgdahfpfgdaaGreatDoor.PairG Go.Proofs.YtbjfgdahfpfgdaaGreatDoor.RefsW Go.Proofs.YtbjfgdahfpfgdaaGreatDoor.PgP Go.Proofs.YtbjfgdahfpfgdaaGreatDoor.Ints Go.Proofs.YtbjfgdahfpfgdaaGreatDoor.ConcatW Go.Proofs.YtbjfgdahfpfgdaaGreatDoor.SortW
set_option linter.unusedVariables false
set_option maxRecDepth 100000

abbrev mkR (c : Int × Int) : Value := .agg #[.int .i64 c.1, .int .u32 c.2]
theorem invR (v : Value) (y : DataW Unit × List MemPlace) (h : refR v = some y) : ∃ c, v = mkR c := by
  cases v with
  | agg vs =>
    obtain ⟨l⟩ := vs
    have h' : refL l = some y := h
    unfold refL at h'
    split at h'
    · exact ⟨(_, _), rfl⟩
    · cases h'
  | _ => cases h
theorem rg_of {R : Value → Option (DataW Unit × List MemPlace)} {w w' : World} {b r n : Nat} {D : DataW Unit} {left : Lit → Bool} {cnt : Nat} (h : w.ranges Tryz.prog 3 R b r n D left cnt) (e1 : w'.heap[b]? = w.heap[b]?) (e2 : w'.heap[r]? = w.heap[r]?) : w'.ranges Tryz.prog 3 R b r n D left cnt := by
  obtain ⟨es, clock, since, seen, c0, h1, h2, h3, h4, h5, h6⟩ := h
  exact ⟨es, clock, since, seen, c0, e1.trans h1, h2, h3, h4, e2.trans h5, h6⟩
theorem rg_iter {R : Value → Option (DataW Unit × List MemPlace)} {w : World} {b r n : Nat} {D : DataW Unit} {left : Lit → Bool} {cnt : Nat} (h : w.ranges Tryz.prog 3 R b r n D left cnt) : NoCells w r ∧ (∀ es ck, w.heap[r]? ≠ some (.map es ck)) ∧ r < w.heap.size := by
  obtain ⟨es, clock, since, seen, c0, h1, h2, h3, h4, h5, h6⟩ := h
  refine ⟨fun c t f e => ?_, fun es ck e => ?_, (Array.getElem?_eq_some_iff.1 h5).1⟩ <;> rw [h5] at e <;> cases e
/-- what is in use, as it is gathered -/
def tabsOf (T : List Ref) : List Int := (T.filter fun r => decide (0 < r.1)).map (·.1)
theorem tabsOf_succ (T : List Ref) (k : Nat) (h : k < T.length) : tabsOf (T.take (k + 1)) = tabsOf (T.take k) ++ (if 0 < T[k].1 then [T[k].1] else []) := by
  unfold tabsOf
  rw [List.take_succ_eq_append_getElem h, List.filter_append, List.map_append]
  by_cases h0 : 0 < T[k].1 <;> simp [h0]
theorem tabsOf_le (T : List Ref) : (tabsOf T).length ≤ T.length := by
  unfold tabsOf
  rw [List.length_map]
  exact List.length_filter_le _ _
theorem own_lit {w : World} {vs : Array Value} (t : TypeId) (base : Nat) (hb : base ≤ w.heap.size) (n : Nat) (hn : vs.size = n) (h9 : n ≤ maxLen) : (w.alloc (.cells vs t)).ownsRow base t 1 (.slice (some ⟨w.heap.size, 0, none⟩) n n) n vs.toList := by
  refine ⟨by simp [hn], .inr ⟨w.heap.size, n, vs, rfl, hb, heap_alloc_new _ _, Nat.le_refl _, h9, by simp [hn], ?_⟩⟩
  rw [List.take_of_length_le (by simp [hn])]
/-- what writes where no cells are leaves a row -/
theorem own_gone {w w' : World} {base r : Nat} {e : TypeId} {size : Nat} {v : Value} {n : Nat} {xs : List Value} (h : w.ownsRow base e size v n xs) (hg : w.grownBy w' (some r)) (hr : NoCells w r) : w'.ownsRow base e size v n xs := by
  refine h.kept hg ?_
  rcases h.2 with ⟨rfl, _⟩ | ⟨g, c, cur, rfl, hb, hc, q⟩
  · exact .inl rfl
  · refine .inr fun e => ?_
    have : g = r := by simpa [Value.ownBlock] using e
    subst this
    exact hr _ _ _ hc
/-- where a row is no iterator lies -/
theorem own_ne {w : World} {base r : Nat} {e : TypeId} {size : Nat} {v : Value} {n : Nat} {xs : List Value} (h : w.ownsRow base e size v n xs) (hr : NoCells w r) : (some r) ≠ v.ownBlock := by
  rcases h.2 with ⟨rfl, _⟩ | ⟨g, c, cur, rfl, hb, hc, q⟩
  · simp [Value.ownBlock]
  · intro e
    have : r = g := by simpa [Value.ownBlock] using e
    subst this
    exact hr _ _ _ hc
theorem alloc_other2 (w : World) (o o' : Obj) {b : Nat} (h : b < w.heap.size) : ((w.alloc o).alloc o').heap[b]? = w.heap[b]? := by
  rw [((Below.refl _ (w.alloc o)).alloc (Nat.le_refl _) o').block b (by simp; omega), ((Below.refl _ w).alloc (Nat.le_refl _) o).block b h]
/-- what a store has in use -/
def usedZ (T : List Ref) (F : Int → Option Ref) (zs : List Int) : Prop := ∀ x, x ∈ zs ↔ (x = 0 ∨ x = 1) ∨ x ∈ tabsOf T ∨ ∃ i r, F i = some r ∧ r.1 = x
set_option maxHeartbeats 800000 in
theorem used_w (lo n : Nat) (m : Mp) (D : Dv) (I : Si) (S : St) (w : World) (k : SAt w lo n m D I S) (hd : ∀ i, (S.at_ i).isSome = true → 0 ≤ i ∧ i < 256) :
    Calls Tryz.prog 42 #[ptr I.s] w fun e w' => (∃ g c zs, e = .returned (.slice (some ⟨g, 0, none⟩) zs.length c) ∧ w'.ownsRow w.heap.size 3 1 (.slice (some ⟨g, 0, none⟩) zs.length c) zs.length (ints zs) ∧ zs.Pairwise (· < ·) ∧ usedZ S.tabs S.at_ zs ∧ zs.length ≤ 1000) ∧ Below w.heap.size w w' := by
  obtain ⟨c0, c1, c2, c3, c4, c5, c6, c7, fz⟩ := k.c
  obtain ⟨ka, ha⟩ := k.at_
  have hcnt := ha.cnt hd
  have hc256 : cnt S.at_ ≤ 256 := by
    unfold cnt
    have := List.countP_le_length (p := fun (p : Nat) => (S.at_ (p : Int)).isSome) (l := List.range 256)
    simpa using this
  have HK := hid k
  have hT7 : S.tabs.length = 7 := k.tabs.len
  have hsl := k.slt
  have HTS := hid (tabsOf_succ S.tabs)
  have HTL := hid (fun k : Nat => tabsOf_le (S.tabs.take k))
  have h0 : tabsOf (S.tabs.take 0) = [] := rfl
  have hall : tabsOf (S.tabs.take 7) = tabsOf S.tabs := by rw [List.take_of_length_le (by omega)]
  have HALL := hid hall
  clear k hall
  obtain ⟨tk, htk⟩ : ∃ f : Nat → List Int, f = fun k => tabsOf (S.tabs.take k) := ⟨_, rfl⟩
  have htk' : ∀ k, tabsOf (S.tabs.take k) = tk k := fun k => by rw [htk]
  simp only [htk'] at h0 HTS HTL HALL
  have HTS' := hid (show ∀ k (h : k < S.tabs.length), tk (k + 1) = tk k ++ (if 0 < S.tabs[k].1 then [S.tabs[k].1] else []) from fun k h => by rw [← htk', ← htk']; exact tabsOf_succ S.tabs k h)
  have HTL' := hid (show ∀ k, (tk k).length ≤ 7 from fun k => by rw [← htk']; have := tabsOf_le (S.tabs.take k); rw [List.length_take] at this; omega)
  clear HTS HTL htk htk'
  have HC4 := hid c4
  clear c0 c1 c2 c3 c7 fz
  go_enter Tryz.func42, Tryz.ntmps42
  have b1 := (Below.refl w.heap.size w).alloc (Nat.le_refl _) (.cells #[.int .i64 0, .int .i64 1] 3)
  have o1 := own_lit (w := w) (vs := #[.int .i64 0, .int .i64 1]) 3 w.heap.size (Nat.le_refl _) 2 rfl (by decide)
  have o1' : (w.alloc (.cells #[.int .i64 0, .int .i64 1] 3)).ownsRow w.heap.size 3 1 (.slice (some ⟨w.heap.size, 0, none⟩) 2 2) (tk 0 ++ [0, 1]).length (ints ([0, 1] ++ tk 0)) := by rw [h0]; exact o1
  replace c4 := kept b1 c4
  go_wp2
  generalize w.alloc (.cells #[.int .i64 0, .int .i64 1] 3) = w1 at *
  clear o1
  go_loopw [3, 14] (fun v i wr => ∃ j : Nat, j ≤ 7 ∧ i = .int .i64 j ∧ wr.ownsRow w.heap.size 3 1 v (2 + (tk j).length) (ints ([0, 1] ++ tk j)) ∧ Below w.heap.size w wr) (fun _ i _ => 7 - (RowKit.intOf i).toNat)
  case atStart => exact ⟨0, by omega, rfl, by simpa [Nat.add_comm] using o1', b1⟩
  case round =>
    clear o1' c4 b1
    obtain ⟨j, hj, rfl, own, hb⟩ := hrel
    have HB := hid hb
    have k1 := HK.out.below hb
    have hsz := hb.size
    by_cases hlt : j < 7
    · have hjl : j < S.tabs.length := by omega
      obtain ⟨b', o', e, x0, x1⟩ := k1.tabs.at hjl
      cases e
      rw [Nat.zero_add] at x0 x1
      have hs := HTS'.out j hjl
      have hle := HTL'.out j
      obtain ⟨va, vc, rfl, hvr⟩ := ownsRow_slice own
      generalize S.tabs[j] = r at hs x0 x1
      have bx := (Below.refl w.heap.size wr).alloc hsz (.cells #[.int .i64 r.1, .int .u32 r.2] 111)
      by_cases h0 : 0 < r.1
      · have hs' : tk (j + 1) = tk j ++ [r.1] := by rw [hs, if_pos h0]
        have HS' := hid hs'
        have hd : decide ((0 : Int) < r.1) = true := decide_eq_true h0
        have own2 := own.alloc (.cells #[.int .i64 r.1, .int .u32 r.2] 111)
        have HB2 := hid (HB.out.trans bx)
        clear hvr hb hs hs' h0 own k1 bx
        go_wp2_with (at_builtin; go_must (refine wpList_push elInt rfl _ _ rfl w.heap.size _ _ _ rfl (own2.alloc _) _ (.int .i64 r.1) rfl (by simp) rfl (by unfold maxLen; omega) (by omega) (by simp; omega) ?_); intro v3 w3 o3 hb3 hg3)
        go_roundw
        case rel => exact ⟨j + 1, by omega, by go_num, by rw [HS'.out]; simpa [ints, Nat.add_assoc] using o3, HB2.out.trans (((Below.refl _ _).alloc (by simp; omega) _).trans hb3)⟩
        case measure => simp [RowKit.intOf]; omega
      · have hs' : tk (j + 1) = tk j := by rw [hs, if_neg h0]; simp
        have hd : decide ((0 : Int) < r.1) = false := decide_eq_false h0
        have own2 := own.alloc (.cells #[.int .i64 r.1, .int .u32 r.2] 111)
        have HB2 := hid (HB.out.trans bx)
        clear hvr hb hs h0 own k1 bx
        go_wp2
        go_roundw
        case rel => exact ⟨j + 1, by omega, by go_num, by rw [hs']; exact own2, HB2.out⟩
        case measure => simp [RowKit.intOf]; omega
    · obtain rfl : j = 7 := by omega
      generalize wr = w2 at *
      obtain ⟨X, hX⟩ : ∃ X, X = [0, 1] ++ tk 7 := ⟨_, rfl⟩
      have hXl : 2 + (tk 7).length = X.length := by rw [hX, List.length_append]; rfl
      have hle := HTL'.out 7
      rw [hXl, ← hX] at own
      have hX9 : X.length ≤ 9 := by omega
      have HX := hid hX
      have hX2 : 2 ≤ X.length := by omega
      obtain ⟨va0, vc0, rfl, hvr0⟩ := ownsRow_slice own
      clear hX hXl hle hlt hj hvr0
      obtain ⟨c0, c1, c2, c3, c4, c5', c6', c7, fz⟩ := k1.c
      obtain ⟨ka', ha'⟩ := k1.at_
      have hcnt' := ha'.cnt hd
      obtain ⟨E, hE, hnp, hEi⟩ := ha'
      have hal : I.a < w2.heap.size := by obtain ⟨es, ck, hb⟩ := k1.amap; exact (Array.getElem?_eq_some_iff.1 hb).1
      have hal0 : I.a < w.heap.size := by obtain ⟨es, ck, hb⟩ := HK.out.amap; exact (Array.getElem?_eq_some_iff.1 hb).1
      clear c0 c1 c2 c3 c4 c7 fz k1 c5 c6
      go_wp2_with (at_range; refine wpList_range_own _ rfl _ 90 rfl 3 111 law Tryz.underlying90 refR I.a n E rfl hE ?_; intro wq hrg0 hg0 hsq)
      go_frame
      have hown0 : wq.ownsRow w.heap.size 3 1 (.slice va0 X.length vc0) (X.length + ([] : List Int).length) (ints (X ++ [])) := by
        rw [List.append_nil]
        exact ownsRow_below own ((Below.refl _ _).grown hg0 (Nat.le_refl _) (fun j hj => by cases hj))
      have hq0 : Below w.heap.size w wq := HB.out.grown hg0 hsz (fun j hj => by cases hj)
      clear own
      go_loopw [3] (fun v wr => ∃ (left : Lit → Bool) (n1 : Nat) (ys : List Int), wr.ranges Tryz.prog 3 refR I.a w2.heap.size n E left n1 ∧ wr.ownsRow w.heap.size 3 1 v (X.length + ys.length) (ints (X ++ ys)) ∧ Below w.heap.size w wr ∧ ys.length + n1 ≤ cnt S.at_ ∧ w2.heap.size < wr.heap.size ∧
        (∀ x ∈ ys, ∃ i r, S.at_ i = some r ∧ r.1 = x) ∧ (∀ i r, S.at_ i = some r → left (.int .i64 i) = true ∨ r.1 ∈ ys)) (fun _ wr => wr.rangeLeft I.a w2.heap.size)
      case atStart =>
        refine ⟨_, _, [], hrg0, hown0, hq0, by simp; omega, by omega, fun x hx => absurd hx List.not_mem_nil, fun i r hi => .inl ?_⟩
        have := hEi i
        rw [hi] at this
        exact this.1
      case round =>
        clear hown0 hq0 hrg0 hg0 hsq
        obtain ⟨left, n1, ys, hrg, own, hbw, hcn, hsw, hy1, hy2⟩ := hrel
        have HBW := hid hbw
        have HY1 := hid hy1
        have HY2 := hid hy2
        have hsz2 := hbw.size
        obtain ⟨q, hq⟩ : ∃ q, q = X.length + ys.length := ⟨_, rfl⟩
        rw [← hq] at own
        have hql : q ≤ 1000000 := by omega
        have hpos : 0 < q := by omega
        have HQ := hid hq
        clear hq
        obtain ⟨va, vc, rfl, hvr⟩ := ownsRow_slice own
        clear hbw hy1 hy2
        go_wp2_with (at_next; refine wpList_next_ranges _ rfl _ rfl 3 law refR (Value.int .i64) mkR invK invR I.a w2.heap.size n _ _ _ rfl hrg ?_ ?_)
        · intro e0 hl0
          obtain ⟨g, rfl⟩ := own_some own hpos
          have hso := SortW.sort_w w.heap.size g q vc (X ++ ys) wr own hql hsz2
          have HL := hid hl0
          have HUL := hid (show (uniq (X ++ ys)).length ≤ 1000 by
            have h1 := Lib.compact_length_le ((X ++ ys).mergeSort fun x y => decide (x ≤ y))
            have h2 : ((X ++ ys).mergeSort fun x y => decide (x ≤ y)).length = (X ++ ys).length := List.length_mergeSort _
            have h3 : (X ++ ys).length ≤ 1000 := by rw [List.length_append]; omega
            unfold uniq
            omega)
          clear hrg hvr hpos hl0 e0
          go_wp2_with fail
          refine hso.mono ?_
          rintro e w4 ⟨rfl, own4, b4⟩
          have hco := SortW.compact_w w.heap.size g q vc _ w4 own4 hql
          have B4 := hid (HBW.out.trans b4)
          clear hso own own4 b4
          go_wp2_with fail
          refine hco.mono ?_
          rintro e w5 ⟨rfl, own5, b5⟩
          have B5 := hid (B4.out.trans b5)
          have HO := hid own5
          clear hco own5 b5
          go_wp2
          go_ret
          refine ⟨⟨g, vc, uniq (X ++ ys), rfl, HO.out, uniq_rise _, fun x => ?_, HUL.out⟩, B5.out⟩
          rw [uniq_mem, List.mem_append, HX.out, HALL.out, List.mem_append]
          constructor
          · rintro ((h | h) | h)
            · simp at h; exact .inl h
            · exact .inr (.inl h)
            · exact .inr (.inr (HY1.out x h))
          · rintro (h | h | ⟨i, r, h1, h2⟩)
            · exact .inl (.inl (by simpa using h))
            · exact .inl (.inr h)
            · rcases HY2.out i r h1 with h3 | h3
              · rw [HL.out] at h3; cases h3
              · rw [← h2]; exact .inr h3
        · intro x ca cb kl yd yp w4 n2 hkey hlx hR hat1 hrg1 hlt1 hg1 hs1 hen
          obtain ⟨x', ex, rfl, hwx⟩ := Maps.keyOf_int_inv Tryz.underlying3 hkey
          cases ex
          have hx := hEi x
          cases hF : S.at_ x with
          | none =>
            exfalso
            rw [hF] at hx
            have e1 := hat1 .nil
            have e2 := hat1 (.agg [])
            rw [atKey_of_not_has hx] at e1 e2
            rw [← e1] at e2
            cases e2
          | some r =>
            rw [hF] at hx
            have ey : yd = refd r.1 (r.2 : Int) := (hat1 .nil).symm.trans (hx.2 .nil)
            have hc1 : mkR (ca, cb) = .agg #[.int .i64 r.1, .int .u32 (r.2 : Int)] := refR_inv (ps := yp) (by rw [hR, ← ey])
            obtain ⟨ri1, ri2, ri3⟩ := rg_iter hrg
            obtain ⟨ri4, ri5, ri6⟩ := rg_iter hrg1
            have hB4 : Below w.heap.size w w4 := HBW.out.trans ((Below.refl _ _).grown hg1 hsz2 (fun j hj => by cases hj; omega))
            have own4 := own_gone own hg1 ri1
            have own5 := own4.alloc (.cells #[.int .i64 r.1, .int .u32 (r.2 : Int)] 111)
            have bx := (Below.refl w.heap.size w4).alloc hB4.size (.cells #[.int .i64 r.1, .int .u32 (r.2 : Int)] 111)
            have bx4 := (Below.refl w4.heap.size w4).alloc (Nat.le_refl _) (.cells #[.int .i64 r.1, .int .u32 (r.2 : Int)] 111)
            have HB5 := hid (hB4.trans bx)
            have hw4 := hB4.size
            have hF' := hid hF
            have HHAT := hid hx
            have HRG := hid hrg1
            have ML := hid (show w4.rangeLeft I.a w2.heap.size < wr.rangeLeft I.a w2.heap.size by rw [hrg1.left_eq, hrg.left_eq]; exact hlt1)
            rw [hc1] at hen ⊢
            have hsr : w2.heap.size < w4.heap.size := by omega
            clear hR hat1 hkey ey hx hF own4 own hvr hrg hc1 hg1 hs1 bx
            go_wp2_with (at_builtin; go_must (refine wpList_push elInt rfl _ _ rfl w.heap.size _ _ _ rfl (own5.alloc _) _ (.int .i64 r.1) rfl (by simp) rfl (by unfold maxLen; omega) (by omega) (by simp; omega) ?_); intro v3 w6 o3 hb3 hg3)
            have rr := rg_of (w' := w6) HRG.out (by
              rw [hb3.block I.a hal0]; exact alloc_other2 w4 _ _ (by omega)) (by
              rw [hg3.block w2.heap.size (by simp; omega) (own_ne own5 (fun c t f => by rw [bx4.block _ hsr]; exact ri4 c t f))]; exact alloc_other2 w4 _ _ hsr)
            go_roundw
            case rel =>
              have hya := hb3.size
              have hyb := hg3.size
              refine ⟨_, n2, rr, ys ++ [r.1], ?_, HB5.out.trans (((Below.refl _ _).alloc (by simp; omega) _).trans hb3), by simp; omega, by simp at hyb; omega, ?_, ?_⟩
              · have e1 : X.length + (ys ++ [r.1]).length = q + 1 := by rw [HQ.out, List.length_append]; rfl
                rw [e1, ← List.append_assoc]
                simpa [ints] using o3
              · intro y hy
                rcases List.mem_append.1 hy with hy | hy
                · obtain ⟨i, r', e1, rfl⟩ := HY1.out y hy
                  exact ⟨i, r'.2, e1⟩
                · rw [List.mem_singleton.1 hy]
                  exact ⟨x, r.2, hF'.out⟩
              · intro i ra rb hi
                by_cases hix : i = x
                · subst hix
                  rw [hF'.out] at hi
                  have := Option.some.inj hi
                  exact .inr (by simp [this])
                · rcases HY2.out i (ra, rb) hi with h3 | h3
                  · refine .inl ?_
                    rw [h3, same_int, decide_eq_false hix]
                    rfl
                  · exact .inr (by simp [h3])
            case measure => rw [rr.left_eq]; have := ML.out; rw [HRG.out.left_eq] at this; exact this
end Go.Proofs.YtbjfgdahfpfgdaaGreatDoor.PgW
