/- A byte array beside a store: what writes into it leaves the store whose rows lie beyond it; A page read where its first copy is right; PageLong: what its walk leans on. -/
import Derived.Test.YtbjfgdahfpfgdaaGreatDoorPgBaseP11
import Derived.Test.YtbjfgdahfpfgdaaGreatDoorPgBaseP8
import Derived.Test.YtbjfgdahfpfgdaaGreatDoorPgBaseP7
import Derived.Deep.RegionHeld3
import Derived.Test.YtbjfgdahfpfgdaaGreatDoorPgBaseP5
namespace Go.Proofs.YtbjfgdahfpfgdaaGreatDoor.PgW
open Go Go.RowKit Go.Maps Go.Proofs.YtbjfgdahfpfgdaaGreatDoor.Mem Go.Proofs.YtbjfgdahfpfgdaaGreatDoor.MapsW Go.Proofs.YtbjfgdahfpfgdaaGreatDoor.SeeW Go.Proofs.YtbjfgdahfpfgdaaGreatDoor.DevG Go.Proofs.YtbjfgdahfpfgdaaGreatDoor.PairG Go.Proofs.YtbjfgdahfpfgdaaGreatDoor.RefsW Go.Proofs.YtbjfgdahfpfgdaaGreatDoor.PgP
set_option linter.unusedVariables false
set_option maxRecDepth 100000

set_option maxHeartbeats 1600000 in
theorem write_far (lo n nb : Nat) (m : Mp) (D : Dv) (I : Si) (S : St) (p : Int) (a : Option Addr) (cap : Nat) (l : List Nat) (w : World) (k : SAt w lo n m D I S) (hp : isP p = true) (hs1 : 1 ≤ l.length) (hs2 : l.length ≤ 248) (hl : Nums .u8 w a l.length cap l) (hn : n < 1000000) (hnb : nb ≤ w.heap.size) {k0 : Nat} (hN : NowMap w nb I.o n S.now k0) :
    Calls Tryz.prog 15 #[ptr I.s, .int .i64 p, .slice a l.length cap] w fun e w' => e = .returned .nilIface ∧ SAt w' lo (n + 1) m D I { S with now := upd S.now p (some l) } ∧ Turn [I.o] w w' ∧ ∃ k', NowMap w' nb I.o (n + 1) (upd S.now p (some l)) k' := by
  obtain ⟨p0, p1, hf⟩ := isP_fits hp
  have hs : ¬ (l.length < 1 ∨ 248 < l.length) := by omega
  have hb := hl.bound
  have hi := is_w p w
  rw [hp] at hi
  have d1 : decide ((l.length : Int) < 1) = false := decide_eq_false (by omega)
  have d2 : decide ((248 : Int) < (l.length : Int)) = false := decide_eq_false (by omega)
  obtain ⟨y, l', rfl⟩ : ∃ y l', l = y :: l' := by
    cases l with
    | nil => exact absurd (.inl (by simp)) hs
    | cons y l' => exact ⟨y, l', rfl⟩
  have hlo := k.own_lo I.s (by simp)
  have hsl := k.slt
  have c6 := k.c.2.2.2.2.2.2.1
  have hq2 : l'.length + 1 ≤ 248 := by
    have : ¬ 248 < (y :: l').length := fun e => hs (.inr e)
    simpa using this
  clear hs hs1 hs2
  rw [List.length_cons] at hl d1 d2 hb ⊢
  have hst := fun (w : World) (base b n k : Nat) (F : Int → Option (List Nat)) (h : NowMap w base b n F k) (hn : n < 1000000) (g cap : Nat) (hl : Nums .u8 w (some ⟨g, 0, none⟩) (l'.length + 1) cap (y :: l')) (hbg : base ≤ g) => h.store hn hf hl hbg
  obtain ⟨q, hq⟩ : ∃ q, q = l'.length + 1 := ⟨_, rfl⟩
  rw [← hq] at hl d1 d2 hb hq2 ⊢
  simp only [← hq] at hst
  have hq1 : 1 ≤ q := by omega
  clear hq
  go_enter Tryz.func15, Tryz.ntmps15
  go_wp2_with fail
  refine hi.mono ?_
  rintro e w' ⟨rfl, rfl⟩
  go_wp2_with fail
  go_region_held3 (fun w' => w'.cell? ⟨I.s, 6, none⟩ = some (.map (some I.o))) (first | exact c6 | exact z3 | exact z4 | go_keep)
    ((go_at_call 48; refine (RefW.clone_w a q cap (y :: l') _ (Nums.below hl (below_drewN (Below.refl _ _) _)) (by omega)).mono ?_; rintro e w3 ⟨v, rfl, own3, hb3⟩; obtain ⟨g, gc, rfl, hg, hgb⟩ := row1 own3 hq1; have hgb' : w'.heap.size ≤ g := hgb; have k3 := (SAt.below k (below_drewN (Below.refl _ _) 1)).below hb3; obtain ⟨ko, ho⟩ := k3.now; obtain ⟨w4, hrun, hr4, hg4⟩ := hst _ _ _ _ _ _ ho hn _ _ hg (by omega); have hN3 := (NowMap.below hN (below_drewN (Below.refl _ _) 1)).below hb3; obtain ⟨w4', hrun', hr4', _⟩ := hst _ _ _ _ _ _ hN3 hn _ _ hg (by omega); have e44 : w4' = w4 := (Result.ok.inj (hrun'.symm.trans hrun)).2; have HN4 := hid (show ∃ k', NowMap w4 nb I.o (n + 1) _ k' from ⟨_, by rw [← e44]; exact hr4'⟩); clear hrun' hr4' e44 hN3; have z3 := k3.c.2.2.2.2.2.2.1; have k4 := k3.putO hr4 hg4; have z4 := k4.c.2.2.2.2.2.2.1))
  have hT : Turn [I.o] w' w4 := ((Turn.of_below (below_drewN (Below.refl _ w') 1)).then (Turn.of_below hb3)).then (Turn.of_grown hg4 (by simp))
  have H4 := hid k4
  clear k4 k3 ho k hr4 hg4 hrun hg hgb hgb' own3 hb3 hl z3 z4 c6
  go_wp2
  go_ret
  exact ⟨rfl, H4.out, hT, HN4.out⟩

theorem rows_small {y : Nat} {w w' : World} {base b n np : Nat} {F : Int → Option (List Nat)} (h : RowMap w base b n F np) (ht : Turn [y] w w') (hb : b ≠ y) (hy : ∃ (cs : Array Value) (t : TypeId), w.heap[y]? = some (.cells cs t) ∧ cs.size < 256) : RowMap w' base b n F np := by
  obtain ⟨es0, ck0, hb0⟩ := h.block
  obtain ⟨D, h1, h2, h3⟩ := h
  refine ⟨D, ownsMap_of h1 (ht.block b (Array.getElem?_eq_some_iff.1 hb0).1 (by simpa using hb)), h2, fun i => ?_⟩
  have := h3 i
  cases hF : F i with
  | none => rw [hF] at this; exact this
  | some l =>
    rw [hF] at this
    obtain ⟨a, g, cap, b1, b2, b3⟩ := this
    obtain ⟨c, t, f, hc⟩ := nums_cells b2 (by decide)
    refine ⟨a, g, cap, b1, nums_of_cells b2 (ht.block g (Array.getElem?_eq_some_iff.1 hc).1 fun hm => ?_), b3⟩
    obtain ⟨cs, t', e1, e2⟩ := hy
    obtain ⟨b', o', he, hc'⟩ := b2.at (j := 255) (by rw [b2.len]; decide)
    cases he
    have hgy := List.mem_singleton.1 hm
    subst hgy
    simp only [World.cell?, e1, Nat.zero_add] at hc'
    rw [Array.getElem?_eq_none (by omega)] at hc'
    cases hc'
theorem At.small {y : Nat} {w w' : World} {lo d n : Nat} {m : Mp} {D : Dv} (h : At w lo d n m D) (ht : Turn [y] w w') (hd : d ≠ y) (hm : ∀ x ∈ m.list, x ≠ y) (hy : ∃ (cs : Array Value) (t : TypeId), w.heap[y]? = some (.cells cs t) ∧ cs.size < 256) : At w' lo d n m D := by
  obtain ⟨k, hk⟩ := h.rf
  have mm : m.f ∈ m.list ∧ m.p ∈ m.list ∧ m.a ∈ m.list ∧ m.i ∈ m.list ∧ m.e ∈ m.list := by simp [Mp.list]
  obtain ⟨m1, m2, m3, m4, m5⟩ := mm
  exact ⟨ht.cells h.cells (by simpa using hd), ⟨k, rows_small hk ht (hm _ m1) hy⟩, rows_small h.rp ht (hm _ m2) hy, bools_turn h.ba ht (by simpa using hm _ m3), bools_turn h.bi ht (by simpa using hm _ m4), sets_turn h.be ht (by simpa using hm _ m5), h.nodup, h.lod, h.lom⟩
theorem SAt.small {y : Nat} {w w' : World} {lo n : Nat} {m : Mp} {D : Dv} {I : Si} {S : St} (k : SAt w lo n m D I S) (ht : Turn [y] w w') (ho : y ∉ I.all m) (hy : ∃ (cs : Array Value) (t : TypeId), w.heap[y]? = some (.cells cs t) ∧ cs.size < 256) (hl : lo ≤ y + 1) {k0 : Nat} (hN : NowMap w (y + 1) I.o n S.now k0) :
    SAt w' lo n m D I S ∧ NowMap w' (y + 1) I.o n S.now k0 := by
  obtain ⟨k1, h1⟩ := k.at_
  have ow : ∀ x ∈ I.own m, x ≠ y := fun x hx e => ho (Si.own_all (by rw [← e]; exact hx))
  have ob : ∀ x ∈ I.own m, x ∉ [y] := fun x hx => by simpa using ow x hx
  have hdv : ∀ x ∈ own I.d m, x ≠ y := fun x hx => ow x (by simp only [List.mem_cons]; exact .inr (.inr (.inr (.inr (List.mem_cons.1 hx)))))
  obtain ⟨es, ck, hb⟩ := hN.block
  have hN' : NowMap w' (y + 1) I.o n S.now k0 := hN.keep (ht.block I.o (Array.getElem?_eq_some_iff.1 hb).1 (ob _ (by simp))) fun g hg hc _ => by
    obtain ⟨c, t, f, hc⟩ := hc
    exact ht.block g (Array.getElem?_eq_some_iff.1 hc).1 (by simp; omega)
  refine ⟨⟨⟨At.small k.pr.dev ht (hdv _ (by simp)) (fun x hx => hdv x (by simp [hx])) hy, ht.cells k.pr.cells (ob _ (by simp)), k.pr.half, k.pr.most, k.pr.lop⟩, ht.cells k.cells (ob _ (by simp)), refs_turn k.refs ht (fun b o e hm => ho ?_), refs_turn k.tabs ht (fun b o e hm => ho ?_), ⟨k1, ref_turn h1 ht (ob _ (by simp))⟩, ⟨k0, hN'.mono (Nat.le_refl _) hl⟩, k.ao, k.sx, k.ax, k.ox, fun b off e => ⟨Nat.lt_of_lt_of_le (k.rx b off e).1 ht.size, (k.rx b off e).2⟩, k.tx, k.slo⟩, hN'⟩
  · rw [← List.mem_singleton.1 hm]
    exact List.mem_cons_of_mem _ (List.mem_append.2 (.inl (by unfold raB; rw [e]; simp)))
  · cases e
    rw [← List.mem_singleton.1 hm]
    exact List.mem_cons_self
/-- a store beside a byte array at y, its changed pages beyond it -/
def StoreL (y : Nat) (bs : List Addr) (w : World) (lo b n c s d : Nat) (V N : Int → Option (List Nat)) (ep : Nat) : Prop := ∃ m D I S, Up [y] bs w lo b n c s d V N ep m D I S ∧ ∃ k, NowMap w (y + 1) I.o n N k
theorem NowMap.any {w : World} {base base' b n k : Nat} (h : NowMap w base b n (fun _ => none) k) : NowMap w base' b n (fun _ => none) k := by
  obtain ⟨D, h1, h2, h3⟩ := h
  exact ⟨D, h1, h2, h3⟩
theorem Store.toL {y : Nat} {bs : List Addr} {w : World} {lo b n c s d : Nat} {V : Int → Option (List Nat)} {ep : Nat} (h : Store [y] bs w lo b n c s d V (fun _ => none) ep) : StoreL y bs w lo b n c s d V (fun _ => none) ep := by
  obtain ⟨m, D, I, S, h⟩ := h
  refine ⟨m, D, I, S, h, ?_⟩
  obtain ⟨k, hk⟩ := h.at_.now
  rw [h.now] at hk
  exact ⟨k, NowMap.any hk⟩
theorem StoreL.st {y : Nat} {bs : List Addr} {w : World} {lo b n c s d : Nat} {V N : Int → Option (List Nat)} {ep : Nat} (h : StoreL y bs w lo b n c s d V N ep) : Store [y] bs w lo b n c s d V N ep := by
  obtain ⟨m, D, I, S, h, _⟩ := h
  exact ⟨m, D, I, S, h⟩
theorem StoreL.below {y : Nat} {bs : List Addr} {w w' : World} {lo b n c s d : Nat} {V N : Int → Option (List Nat)} {ep : Nat} (h : StoreL y bs w lo b n c s d V N ep) (hb : Below w.heap.size w w') : StoreL y bs w' lo b n c s d V N ep := by
  obtain ⟨m, D, I, S, h, k, hk⟩ := h
  exact ⟨m, D, I, S, h.on hb (Nat.le_refl _), k, hk.below hb⟩
theorem StoreL.write {y : Nat} {bs : List Addr} {w : World} {lo b n c s d : Nat} {V N : Int → Option (List Nat)} {ep : Nat} (h : StoreL y bs w lo b n c s d V N ep) (hn : n < 690000) {p : Int} (hp : isP p = true) {a : Option Addr} {cap : Nat} {l : List Nat} (hl : Nums .u8 w a l.length cap l) (h1 : 1 ≤ l.length) (h2 : l.length ≤ 248) (hb : Crc.Bytes l) :
    Calls Tryz.prog 15 #[ptr s, .int .i64 p, .slice a l.length cap] w fun e w' => e = .returned .nilIface ∧ StoreL y bs w' lo b (n + 1) c s d V (upd N p (some l)) ep ∧ Below lo w w' ∧ Kp [y] w w' := by
  obtain ⟨m, D, I, S, h, k0, hk0⟩ := h
  obtain ⟨p0, p1, hf⟩ := isP_fits hp
  have hy := (h.out y (by simp)).1
  rw [← h.now] at hk0
  have hw := write_far lo n (y + 1) m D I S p a cap l w h.at_ hp h1 h2 hl (by omega) (by omega) hk0
  rw [h.hs] at hw
  refine hw.mono ?_
  rintro e w' ⟨rfl, h2', h3', k', hk'⟩
  have hbl := h3'.below h.los (fun x hx => by rw [List.mem_singleton.1 hx]; exact h.at_.slo.2.2)
  rw [h.now] at hk'
  refine ⟨rfl, ⟨m, D, I, _, ⟨h2', ⟨⟨h.st.fit.t7, h.st.fit.dom, h.st.fit.len, h.st.fit.off, h.st.fit.pg, h.st.fit.tno, h.st.fit.tb, h.st.fit.inj, h.st.fit.tinj, h.st.fit.pt, h.st.fit.rs, h.st.fit.zero⟩, ⟨fun i hi => ?_, fun i k hi => ?_⟩, h.st.idle, h.st.root, h.st.new⟩, h.hs, h.hd, h.hH, h.bl, h.b1, h.b2, h.cl, h.ic, h.ev.turn h3' (fun x hx => by rw [List.mem_singleton.1 hx]; exact h.at_.slo.2.2), Nat.le_trans h.los h3'.size, by show upd S.now p (some l) = _; rw [h.now], h.ep, h.outs h3'.size (fun x hx => .inl hx)⟩, k', hk'⟩, hbl, h.kp h3' (fun x hx => by rw [List.mem_singleton.1 hx]; simp)⟩
  · change (upd S.now p (some l) i).isSome = true at hi
    by_cases e : i = p
    · omega
    · rw [upd_other _ _ e] at hi; exact h.st.now.dom i hi
  · change upd S.now p (some l) i = some k at hi
    by_cases e : i = p
    · subst e; rw [upd_same] at hi; cases hi; exact ⟨h2, hb⟩
    · rw [upd_other _ _ e] at hi; exact h.st.now.len i k hi
/-- the array's cell is another -/
theorem StoreL.set {y : Nat} {bs : List Addr} {w w' : World} {lo b n c s d : Nat} {V N : Int → Option (List Nat)} {ep : Nat} (h : StoreL y bs w lo b n c s d V N ep) (ht : Turn [y] w w') (hy : ∃ (cs : Array Value) (t : TypeId), w.heap[y]? = some (.cells cs t) ∧ cs.size < 256) (hl : lo ≤ y) : StoreL y bs w' lo b n c s d V N ep := by
  obtain ⟨m, D, I, S, h, k0, hk0⟩ := h
  rw [← h.now] at hk0
  obtain ⟨k, hk⟩ := h.at_.small ht (h.out y (by simp)).2 hy (by omega) hk0
  rw [h.now] at hk
  exact ⟨m, D, I, S, ⟨k, h.st, h.hs, h.hd, h.hH, h.bl, h.b1, h.b2, h.cl, h.ic, h.ev.turn ht (fun x hx => by rw [List.mem_singleton.1 hx]; exact hl), Nat.le_trans h.los ht.size, h.now, h.ep, h.outs ht.size (fun x hx => .inl hx)⟩, k0, hk⟩
end Go.Proofs.YtbjfgdahfpfgdaaGreatDoor.PgW

namespace Go.Proofs.YtbjfgdahfpfgdaaGreatDoor.PgW
open Go Go.RowKit Go.Maps Go.Proofs.YtbjfgdahfpfgdaaGreatDoor.Mem Go.Proofs.YtbjfgdahfpfgdaaGreatDoor.MapsW Go.Proofs.YtbjfgdahfpfgdaaGreatDoor.SeeW Go.Proofs.YtbjfgdahfpfgdaaGreatDoor.DevG Go.Proofs.YtbjfgdahfpfgdaaGreatDoor.PairG Go.Proofs.YtbjfgdahfpfgdaaGreatDoor.RefsW Go.Proofs.YtbjfgdahfpfgdaaGreatDoor.PgP
set_option linter.unusedVariables false
set_option maxRecDepth 100000

set_option maxHeartbeats 3200000 in
/-- a page as it was committed -/
theorem read_at0 (bs : List Addr) (lo n : Nat) (m : Mp) (D : Dv) (I : Si) (S : St) (p : Int) (l : List Nat) (a s : Nat) (w : World) (k : SAt w lo n m D I S) (hB : Ev w lo bs seven) (hp : isP p = true) (hN : S.now p = none) (hA : S.at_ p = some ((a : Int), s)) (ha : a < I.H) (ha0 : 0 < a) (hl1 : l.length ≤ 248)
    (hu : D.down = false) (hbt : ∀ j l, D.read j = some l → Crc.Bytes l) (hr1 : D.read (a : Int) = some (pblk l)) (hr2 : Crc.sum (pblk l) = s) :
    Calls Tryz.prog 19 #[ptr I.s, .int .i64 p] w fun e w' => (∃ a c, e = .returned (.tuple #[.slice a l.length c, .nilIface]) ∧ Nums .u8 w' a l.length c l) ∧ Below w.heap.size w w' := by
  obtain ⟨p0, p1, hf⟩ := isP_fits hp
  have hi := is_w p w
  have ht := there_w lo n m D I S p w k hf
  have hT : S.there p = true := by
    unfold St.there; rw [hN, hA]
    simpa using ha0
  rw [hp] at hi
  rw [hT] at ht
  obtain ⟨ko, ho⟩ := k.now
  have l5 := ho.ok_none hf hN
  have c6 := k.c.2.2.2.2.2.2.1
  have hX : ∀ w', Below w.heap.size w w' → w'.cell? ⟨I.s, 1, none⟩ = some (ptr I.p) ∧ w'.cell? ⟨I.s, 5, none⟩ = some (.map (some I.a)) ∧ (Instr.lookup 90 (.map (some I.a)) (.int .i64 p) false).run Tryz.prog w' = .ok (PairG.Rf (a : Int) s) w' := by
    intro w' hb
    have k' := k.below hb
    obtain ⟨ka, hka⟩ := k'.at_
    have := hka.look hf
    rw [hA] at this
    exact ⟨k'.c.2.1, k'.c.2.2.2.2.2.1, this⟩
  have hrd := fun (w' : World) (hb : Below w.heap.size w w') => pread_first bs lo I.d n m D I.p I.H I.c a s w' ((k.below hb).pr) hu ((hB.sub (by decide)).below hb) ha hbt hr1 hr2
  have hg0 := pblk_get (l := l) (by omega)
  have htk := pblk_take (l := l) (by omega)
  generalize pblk l = b at *
  obtain ⟨q, hq⟩ : ∃ q, q = l.length := ⟨_, rfl⟩
  rw [← hq] at hg0 htk hl1 ⊢
  have HQ := hid hq
  clear hq
  have HT := hid hT
  have HX := hid hX
  have HTK := hid htk
  obtain ⟨c1, c5, l4⟩ := hX w.drew (Below.refl _ _).drew
  clear hX hT hN hA hr1 hr2 ho k hB htk
  go_enter Tryz.func19, Tryz.ntmps19
  go_wp2_with fail
  refine hi.mono ?_
  rintro e w' ⟨rfl, hw⟩
  rw [hw]
  clear hw
  go_wp2_with fail
  refine ht.mono ?_
  rintro e w'' ⟨rfl, hw⟩
  rw [hw]
  clear hw
  go_wp2_with fail
  go_region_held3 (fun w' => w'.cell? ⟨I.s, 1, none⟩ = some (ptr I.p) ∧ w'.cell? ⟨I.s, 5, none⟩ = some (.map (some I.a)) ∧ (Instr.lookup 90 (.map (some I.a)) (.int .i64 p) false).run Tryz.prog w' = .ok (PairG.Rf (a : Int) s) w') (first | exact ⟨c1, c5, l4⟩ | exact ⟨z1, z5, zl⟩ | go_keep)
    ((go_at_call 56; refine (hrd _ (below_drewN (Below.refl _ _) _)).mono ?_; rintro e w3 ⟨⟨g, gc, rfl, hg, hgb⟩, t3⟩; have B3 := (below_drewN (Below.refl w.heap.size w) 1).trans (t3.mono (below_drewN (Below.refl w.heap.size w) 1).size); obtain ⟨z1, z5, zl⟩ := HX.out _ B3))
  have HG := hid hg
  have HB3 := hid B3
  have hcell : w3.cell? ⟨g, 0, none⟩ = some (.int .u8 (q : Int)) := Row.cell hg (j := 0) (by simp [nums, hg0])
  have d1 : decide ((248 : Int) < (q : Int)) = false := decide_eq_false (by omega)
  have hcap : 256 ≤ gc := hg.bound.1
  have hcap2 := hg.bound.2
  clear hg t3 B3 hrd hbt hgb z1 z5 zl c1 c5 l4
  go_wp2
  have hnd : Nums .u8 w3 (some ⟨g, 1, none⟩) q (gc - 1) l := by
    have h1 := (RootW.nums_drop HG.out 1 (by decide)).take (m := q) (by omega)
    rw [HTK.out, Nat.zero_add] at h1
    exact h1
  exact bodyPost_ret (v := .tuple #[.slice (some ⟨g, 1, none⟩) q (gc - 1), .nilIface]) (by simp [results, Tryz.results19, go_sem]) rfl ⟨⟨_, _, rfl, hnd⟩, HB3.out⟩
end Go.Proofs.YtbjfgdahfpfgdaaGreatDoor.PgW

namespace Go.Proofs.YtbjfgdahfpfgdaaGreatDoor.PgW
open Go Go.RowKit Go.Maps Go.Proofs.YtbjfgdahfpfgdaaGreatDoor.Mem Go.Proofs.YtbjfgdahfpfgdaaGreatDoor.MapsW Go.Proofs.YtbjfgdahfpfgdaaGreatDoor.SeeW Go.Proofs.YtbjfgdahfpfgdaaGreatDoor.DevG Go.Proofs.YtbjfgdahfpfgdaaGreatDoor.PgP
set_option linter.unusedVariables false
set_option maxRecDepth 100000

theorem ev_of7 {w : World} (h : Err.All w [1, 0, 6, 2, 5, 4, 3]) : ∃ bs, Ev w w.heap.size bs seven := by
  obtain ⟨bs, h1, h2, h3⟩ := h
  have h1' : bs.length = 7 := h1
  obtain ⟨a0, a1, a2, a3, a4, a5, a6, rfl⟩ : ∃ a0 a1 a2 a3 a4 a5 a6, bs = [a0, a1, a2, a3, a4, a5, a6] := by
    match bs, h1' with
    | [a0, a1, a2, a3, a4, a5, a6], _ => exact ⟨_, _, _, _, _, _, _, rfl⟩
  have g0 := h3 0 _ rfl
  have g1 := h3 1 _ rfl
  have g2 := h3 2 _ rfl
  have g3 := h3 3 _ rfl
  have g4 := h3 4 _ rfl
  have g5 := h3 5 _ rfl
  have g6 := h3 6 _ rfl
  have fin : ∀ {g : Nat} {a b : Addr}, (some b = some a ∧ Err.At w g a) → Err.At w g b ∧ g < w.heap.size ∧ b.block < w.heap.size := fun {g a b} h => by
    obtain ⟨e, hA⟩ := h
    cases e
    exact ⟨hA, World.block_lt_of_cell? w ⟨g, 0, none⟩ hA.1, hA.lt⟩
  refine ⟨[⟨0, 0, none⟩, a0, a1, a2, a3, a4, a5, ⟨0, 0, none⟩, a6], fun i hi g hg => ?_, fun i hi j hj e => ?_⟩
  · simp only [seven, List.mem_cons, List.not_mem_nil, or_false] at hi
    rcases hi with rfl | rfl | rfl | rfl | rfl | rfl | rfl
    · cases hg; obtain ⟨a, ha⟩ := g0; exact ⟨a0, rfl, fin ha⟩
    · cases hg; obtain ⟨a, ha⟩ := g1; exact ⟨a1, rfl, fin ha⟩
    · cases hg; obtain ⟨a, ha⟩ := g2; exact ⟨a2, rfl, fin ha⟩
    · cases hg; obtain ⟨a, ha⟩ := g3; exact ⟨a3, rfl, fin ha⟩
    · cases hg; obtain ⟨a, ha⟩ := g4; exact ⟨a4, rfl, fin ha⟩
    · cases hg; obtain ⟨a, ha⟩ := g5; exact ⟨a5, rfl, fin ha⟩
    · cases hg; obtain ⟨a, ha⟩ := g6; exact ⟨a6, rfl, fin ha⟩
  · simp only [List.nodup_cons, List.mem_cons, List.not_mem_nil, or_false, not_or] at h2
    simp only [seven, List.mem_cons, List.not_mem_nil, or_false] at hi hj
    rcases hi with rfl | rfl | rfl | rfl | rfl | rfl | rfl <;> rcases hj with rfl | rfl | rfl | rfl | rfl | rfl | rfl <;> first | rfl | (exfalso; simp at e; simp_all)
/-- a page is read: what there is -/
def ReadToL (bs : List Addr) (o : Option (List Nat)) (w : World) (e : Ending) (w' : World) : Prop := (match o with
  | none => ∃ a, bs[8]? = some a ∧ e = .returned (.tuple #[.slice none 0 0, ev a])
  | some l => ∃ a cap, e = .returned (.tuple #[.slice a l.length cap, .nilIface]) ∧ Nums .u8 w' a l.length cap l) ∧ Below w.heap.size w w'
theorem Store.readL {Y : List Nat} {bs : List Addr} {w : World} {lo b n c : Nat} {s d : Nat} {V : Int → Option (List Nat)} {ep : Nat} (h : Store Y bs w lo b n c s d V (fun _ => none) ep) {p : Int} (hp : isP p = true) :
    Calls Tryz.prog 19 #[ptr s, .int .i64 p] w (ReadToL bs (V p) w) := by
  obtain ⟨m, D, I, S, h⟩ := h
  obtain ⟨p0, p1, hf⟩ := isP_fits hp
  have hth := h.st.there p
  unfold ReadToL
  cases hv : V p with
  | none =>
    rw [h.now, show view (fun _ => none) V p = none from hv] at hth
    have hr := read_bad bs lo n m D I S p w h.at_ h.ev hf 8 (.inr ⟨hp, hth, rfl⟩)
    rw [h.hs] at hr
    exact hr
  | some l =>
    obtain ⟨a, e1, e2, e3, e4⟩ := h.st.fit.pg p l hv
    have hr := read_at0 bs lo n m D I S p l a _ w h.at_ h.ev hp (by rw [h.now]) e1 e3 (by omega) (h.st.fit.len p l hv).2.1 h.st.idle.down h.st.idle.bytes e4.1 rfl
    rw [h.hs] at hr
    exact hr
/-- fifteen bytes at block y -/
structure Ar15 (w : World) (y : Nat) (F : Nat → Nat) : Prop where
  blk : ∃ (cs : Array Value) (t : TypeId), w.heap[y]? = some (.cells cs t) ∧ cs.size = 15
  at_ : ∀ q, q < 15 → w.cell? ⟨y, q, none⟩ = some (.int .u8 (F q : Nat))
abbrev z15 : Array Value := #[.int .u8 0, .int .u8 0, .int .u8 0, .int .u8 0, .int .u8 0, .int .u8 0, .int .u8 0, .int .u8 0, .int .u8 0, .int .u8 0, .int .u8 0, .int .u8 0, .int .u8 0, .int .u8 0, .int .u8 0]
theorem Ar15.made (w : World) : Ar15 (w.alloc (.cells z15 44)) w.heap.size (fun _ => 0) := by
  refine ⟨⟨_, _, alloc_at rfl _, rfl⟩, fun q hq => ?_⟩
  rw [World.cell?_alloc_mark, show z15 = Array.replicate 15 (.int .u8 0) from rfl, Array.getElem?_replicate, if_pos hq]
  rfl
theorem Ar15.small {w : World} {y : Nat} {F : Nat → Nat} (h : Ar15 w y F) : ∃ (cs : Array Value) (t : TypeId), w.heap[y]? = some (.cells cs t) ∧ cs.size < 256 := by
  obtain ⟨cs, t, h1, h2⟩ := h.blk
  exact ⟨cs, t, h1, by omega⟩
theorem Ar15.frozen {w : World} {y : Nat} {F : Nat → Nat} (h : Ar15 w y F) : ∃ f : Bool, f = f := ⟨true, rfl⟩
theorem Ar15.keep {w w' : World} {y : Nat} {F : Nat → Nat} (h : Ar15 w y F) (e : w'.heap[y]? = w.heap[y]?) : Ar15 w' y F :=
  ⟨by rw [e]; exact h.blk, fun q hq => by rw [World.cell?_of_block (w := w) e]; exact h.at_ q hq⟩
theorem Ar15.lt {w : World} {y : Nat} {F : Nat → Nat} (h : Ar15 w y F) : y < w.heap.size := let ⟨_, _, e, _⟩ := h.blk; (Array.getElem?_eq_some_iff.1 e).1
theorem Ar15.below {w w' : World} {y : Nat} {F : Nat → Nat} (h : Ar15 w y F) (hb : Below w.heap.size w w') : Ar15 w' y F := h.keep (hb.block y h.lt)
theorem Ar15.unfrozen {w : World} {y : Nat} {F : Nat → Nat} (h : Ar15 w y F) (q : Nat) : w.frozen? ⟨y, q, none⟩ = false := by
  obtain ⟨cs, t, h1, h2⟩ := h.blk
  simp [World.frozen?, h1]
def upn (F : Nat → Nat) (p v : Nat) : Nat → Nat := fun q => if q = p then v else F q
theorem Ar15.set {w : World} {y : Nat} {F : Nat → Nat} (h : Ar15 w y F) {p : Nat} (hp : p < 15) (v : Nat) : Ar15 (w.setCell ⟨y, p, none⟩ (.int .u8 (v : Int))) y (upn F p v) := by
  obtain ⟨cs, t, h1, h2⟩ := h.blk
  refine ⟨⟨_, _, heap_setCell_same w y p cs _ _ h1, by simp [h2]⟩, fun q hq => ?_⟩
  unfold upn
  by_cases e : q = p
  · subst e
    rw [if_pos rfl]
    exact World.cell?_setCell_same w _ _ (h.at_ q hq)
  · rw [if_neg e, World.cell?_setCell_other w (a := ⟨y, p, none⟩) (b := ⟨y, q, none⟩) (v := _) (fun h => e (congrArg Addr.off h).symm)]
    exact h.at_ q hq
/-- the pages that the array tells of -/
def Vh (F : Nat → Nat) : Int → Option (List Nat) := fun i => if 0 ≤ i ∧ i < 15 ∧ 0 < F i.toNat then some [F i.toNat] else none
theorem Vh_zero : Vh (fun _ => 0) = fun _ => none := by
  funext i
  unfold Vh
  rw [if_neg (fun h => Nat.lt_irrefl 0 h.2.2)]
theorem Vh_upd {F : Nat → Nat} {N V : Int → Option (List Nat)} (h : view N V = Vh F) {p v : Nat} (hp : p < 15) (hv : 0 < v) : view (upd N (p : Int) (some [v])) V = Vh (upn F p v) := by
  funext i
  rw [view_upd _ _ _ (by simp), h]
  unfold Vh upn
  by_cases e : i = (p : Int)
  · subst e
    rw [if_pos rfl, Int.toNat_natCast, if_pos rfl, if_pos ⟨by omega, by omega, hv⟩]
  · rw [if_neg e]
    by_cases c : 0 ≤ i ∧ i < 15
    · have e2 : i.toNat ≠ p := by omega
      rw [if_neg e2]
    · rw [if_neg (fun h => c ⟨h.1, h.2.1⟩), if_neg (fun h => c ⟨h.1, h.2.1⟩)]
theorem Vh_cnt (F : Nat → Nat) : cnt (Vh F) ≤ 15 := cnt_le fun p hp => by
  unfold Vh at hp
  split at hp
  · omega
  · cases hp
theorem Vh_at (F : Nat → Nat) {p : Nat} (hp : p < 15) : Vh F (p : Int) = if 0 < F p then some [F p] else none := by
  unfold Vh
  rw [Int.toNat_natCast]
  by_cases h : 0 < F p
  · rw [if_pos ⟨by omega, by omega, h⟩, if_pos h]
  · rw [if_neg (fun c => h c.2.2), if_neg h]
end Go.Proofs.YtbjfgdahfpfgdaaGreatDoor.PgW
