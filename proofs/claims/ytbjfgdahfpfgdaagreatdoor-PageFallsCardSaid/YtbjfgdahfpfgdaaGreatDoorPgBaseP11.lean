/- A store over a device that stands, as a law sees it: its pages, what was changed, how many commits; A store on a new device; the chapter's examples; breviaryworld.Number: a number's rest. -/
import Derived.Test.YtbjfgdahfpfgdaaGreatDoorPgBaseP7
import Derived.Test.YtbjfgdahfpfgdaaGreatDoorPgBaseP8
import Derived.Test.YtbjfgdahfpfgdaaGreatDoorPgBaseP10
import Derived.Lib.SmallJoins
import Derived.Test.YtbjfgdahfpfgdaaGreatDoorProg
import Derived.Test.YtbjfgdahfpfgdaaGreatDoorPgBaseP1
namespace Go.Proofs.YtbjfgdahfpfgdaaGreatDoor.PgW
open Go Go.RowKit Go.Maps Go.Proofs.YtbjfgdahfpfgdaaGreatDoor.Mem Go.Proofs.YtbjfgdahfpfgdaaGreatDoor.MapsW Go.Proofs.YtbjfgdahfpfgdaaGreatDoor.SeeW Go.Proofs.YtbjfgdahfpfgdaaGreatDoor.DevG Go.Proofs.YtbjfgdahfpfgdaaGreatDoor.PairG Go.Proofs.YtbjfgdahfpfgdaaGreatDoor.RefsW Go.Proofs.YtbjfgdahfpfgdaaGreatDoor.PgP Go.Proofs.YtbjfgdahfpfgdaaGreatDoor.RootP Go.Proofs.YtbjfgdahfpfgdaaGreatDoor.RootW
set_option linter.unusedVariables false
set_option maxRecDepth 100000

theorem Stand.tabs {H : Nat} {S : St} {V : Int → Option (List Nat)} {D : Dv} (h : Stand H S V D) : Tabs D H S.tabs S.at_ (fun _ => D) (fun _ => 0) := by
  refine ⟨rfl, rfl, fun t ht hh => ⟨h.fit.tno t ht hh, rfl, rfl⟩, fun t ht hh => ?_, fun _ _ => h.idle.down, fun _ _ => rfl, fun _ _ => rfl, fun _ _ => Nat.le_add_right _ _, fun _ _ => Nat.le_add_right _ _, fun _ _ => h.idle.bytes, fun _ _ => Nat.zero_le _, rfl⟩
  obtain ⟨a, h1, h2, h3, h4⟩ := h.fit.tb t ht hh
  exact ⟨a, h1, h2, h3, readP_first h4.1 rfl, .inr h4.1⟩
theorem Stand.zero {H : Nat} {S : St} {V : Int → Option (List Nat)} {D : Dv} (h : Stand H S V D) (h0 : S.ep = 0) : { S with now := fun _ => none } = St0 := by
  have ha : S.at_ = fun _ => none := funext fun i => h.fit.off i (h.fit.zero h0 i)
  have ht : S.tabs = List.replicate 7 (0, 0) := by
    have hh : ∀ t, PgP.has S.at_ t = false := fun t => by
      rw [ha]
      unfold PgP.has
      rw [List.any_eq_false]
      intro i _
      simp
    refine List.ext_getElem (by rw [h.fit.t7]; rfl) fun t h1 h2 => ?_
    have h7 : t < 7 := by rw [← h.fit.t7]; exact h1
    have := h.fit.tno t h7 (hh t)
    rw [List.getElem_replicate, ← this]
    simp [List.getD, h1]
  have hr := h.new h0
  obtain ⟨ep, rs, tabs, at_, now⟩ := S
  simp only at ha ht hr h0
  subst ha ht hr h0
  rfl
/-- the block of an address -/
def raB : Option Addr → List Nat
  | some ⟨b, _, none⟩ => [b]
  | _ => []
/-- all blocks that are a store's alone -/
def Si.all (I : Si) (m : Mp) : List Nat := I.tb :: (raB I.ra ++ I.own m)
theorem Si.own_all {I : Si} {m : Mp} {x : Nat} (h : x ∈ I.own m) : x ∈ I.all m := List.mem_cons_of_mem _ (List.mem_append.2 (.inr h))
theorem mem_raB {a : Option Addr} {x : Nat} (h : x ∈ raB a) : ∃ o, a = some ⟨x, o, none⟩ := by
  unfold raB at h
  split at h
  · rw [List.mem_singleton.1 h]; exact ⟨_, rfl⟩
  · cases h
theorem Si.all_sub {B : Nat} {I I' : Si} {m m' : Mp} (htb : I'.tb = I.tb ∨ B ≤ I'.tb) (hra : I'.ra = I.ra ∨ ∀ b o, I'.ra = some ⟨b, o, none⟩ → B ≤ b) (hown : ∀ x ∈ I'.own m', x ∈ I.own m ∨ B ≤ x) : ∀ x ∈ I'.all m', x ∈ I.all m ∨ B ≤ x := by
  intro x hx
  rcases List.mem_cons.1 hx with e | hx
  · rcases htb with h | h
    · left; rw [e, h]; exact List.mem_cons_self
    · right; rw [e]; exact h
  · rcases List.mem_append.1 hx with hx | hx
    · rcases hra with h | h
      · left; rw [h] at hx; exact List.mem_cons_of_mem _ (List.mem_append.2 (.inl hx))
      · obtain ⟨o, e⟩ := mem_raB hx
        exact .inr (h x o e)
    · exact (hown x hx).imp Si.own_all id
theorem Moved.all {w : World} {m m' : Mp} {I I' : Si} (h : Moved w m m' I I') : ∀ x ∈ I'.all m', x ∈ I.all m ∨ w.heap.size ≤ x := Si.all_sub h.tb h.ra h.own
/-- a store at s over the device at d, of b blocks; the pages committed, what was changed, how many commits, how many calls -/
structure Up (Y : List Nat) (bs : List Addr) (w : World) (lo b n c : Nat) (s d : Nat) (V N : Int → Option (List Nat)) (ep : Nat) (m : Mp) (D : Dv) (I : Si) (S : St) : Prop where
  at_ : SAt w lo n m D I S
  st : Stand I.H S V D
  hs : I.s = s
  hd : I.d = d
  hH : I.H = GeoW.half b
  bl : D.blocks = b
  b1 : 300 ≤ b
  b2 : b ≤ 6000
  cl : D.calls = c
  ic : I.c ≤ 7
  ev : Ev w lo bs seven
  los : lo ≤ w.heap.size
  now : S.now = N
  ep : S.ep = ep
  out : ∀ y ∈ Y, y < w.heap.size ∧ y ∉ I.all m
/-- other blocks, and all rows of bytes, are as they were -/
structure Kp (Y : List Nat) (w w' : World) : Prop where
  blk : ∀ y ∈ Y, w'.heap[y]? = w.heap[y]?
  row : ∀ (a : Option Addr) (n cap : Nat) (l : List Nat), Nums .u8 w a n cap l → Nums .u8 w' a n cap l
theorem Kp.trans {Y : List Nat} {w w' w'' : World} (h : Kp Y w w') (k : Kp Y w' w'') : Kp Y w w'' := ⟨fun y hy => (k.blk y hy).trans (h.blk y hy), fun a n cap l hl => k.row a n cap l (h.row a n cap l hl)⟩
def Store (Y : List Nat) (bs : List Addr) (w : World) (lo b n c : Nat) (s d : Nat) (V N : Int → Option (List Nat)) (ep : Nat) : Prop := ∃ m D I S, Up Y bs w lo b n c s d V N ep m D I S
theorem Up.on {Y : List Nat} {bs : List Addr} {w w' : World} {lo b n n' c : Nat} {s d : Nat} {V N : Int → Option (List Nat)} {ep : Nat} {m : Mp} {D : Dv} {I : Si} {S : St} (h : Up Y bs w lo b n c s d V N ep m D I S) (hb : Below w.heap.size w w') (hn : n ≤ n') : Up Y bs w' lo b n' c s d V N ep m D I S :=
  ⟨(h.at_.below hb).mono hn, h.st, h.hs, h.hd, h.hH, h.bl, h.b1, h.b2, h.cl, h.ic, h.ev.below hb, Nat.le_trans h.los hb.size, h.now, h.ep, fun y hy => ⟨Nat.lt_of_lt_of_le (h.out y hy).1 hb.size, (h.out y hy).2⟩⟩
theorem Up.kp {Y : List Nat} {bs : List Addr} {w w' : World} {lo b n c : Nat} {s d : Nat} {V N : Int → Option (List Nat)} {ep : Nat} {m : Mp} {D : Dv} {I : Si} {S : St} (h : Up Y bs w lo b n c s d V N ep m D I S) {X : List Nat} (ht : Turn X w w') (hX : ∀ x ∈ X, x ∈ I.own m) : Kp Y w w' := ⟨fun y hy => ht.block y (h.out y hy).1 fun hm => (h.out y hy).2 (Si.own_all (hX y hm)), fun a n cap l hl => DevG.nums_turn hl ht fun x hx => h.at_.nou8 x (hX x hx)⟩
theorem Up.kpb {Y : List Nat} {bs : List Addr} {w w' : World} {lo b n c : Nat} {s d : Nat} {V N : Int → Option (List Nat)} {ep : Nat} {m : Mp} {D : Dv} {I : Si} {S : St} (h : Up Y bs w lo b n c s d V N ep m D I S) (hb : Below w.heap.size w w') : Kp Y w w' := ⟨fun y hy => hb.block y (h.out y hy).1, fun a n cap l hl => Nums.below hl hb⟩
theorem Up.outs {Y : List Nat} {bs : List Addr} {w w' : World} {lo b n c : Nat} {s d : Nat} {V N : Int → Option (List Nat)} {ep : Nat} {m m' : Mp} {D : Dv} {I I' : Si} {S : St} (h : Up Y bs w lo b n c s d V N ep m D I S) (hz : w.heap.size ≤ w'.heap.size) (hI : ∀ x ∈ I'.all m', x ∈ I.all m ∨ w.heap.size ≤ x) : ∀ y ∈ Y, y < w'.heap.size ∧ y ∉ I'.all m' := fun y hy => ⟨Nat.lt_of_lt_of_le (h.out y hy).1 hz, fun hm => by
  rcases hI y hm with h1 | h1
  · exact (h.out y hy).2 h1
  · have := (h.out y hy).1; omega⟩
theorem Store.below {Y : List Nat} {bs : List Addr} {w w' : World} {lo b n c : Nat} {s d : Nat} {V N : Int → Option (List Nat)} {ep : Nat} (h : Store Y bs w lo b n c s d V N ep) (hb : Below w.heap.size w w') : Store Y bs w' lo b n c s d V N ep := by
  obtain ⟨m, D, I, S, h⟩ := h
  exact ⟨m, D, I, S, h.on hb (Nat.le_refl _)⟩
theorem Store.mono {Y : List Nat} {bs : List Addr} {w : World} {lo b n n' c : Nat} {s d : Nat} {V N : Int → Option (List Nat)} {ep : Nat} (h : Store Y bs w lo b n c s d V N ep) (hn : n ≤ n') : Store Y bs w lo b n' c s d V N ep := by
  obtain ⟨m, D, I, S, h⟩ := h
  exact ⟨m, D, I, S, h.on (Below.refl _ _) hn⟩
theorem Store.lo {Y : List Nat} {bs : List Addr} {w : World} {lo b n c : Nat} {s d : Nat} {V N : Int → Option (List Nat)} {ep : Nat} (h : Store Y bs w lo b n c s d V N ep) : lo ≤ w.heap.size := by
  obtain ⟨m, D, I, S, h⟩ := h
  exact h.los
theorem Up.at_half {Y : List Nat} {bs : List Addr} {w : World} {lo b n c : Nat} {s d : Nat} {V N : Int → Option (List Nat)} {ep : Nat} {m : Mp} {D : Dv} {I : Si} {S : St} (h : Up Y bs w lo b n c s d V N ep m D I S) : 2 ≤ I.H ∧ I.H ≤ 512 := by
  have h1 := h.hH
  have h2 := GeoW.half_512 b
  have h3 := h.b1
  unfold GeoW.half at h1 h2
  omega
/-- a page is written -/
theorem Store.write {Y : List Nat} {bs : List Addr} {w : World} {lo b n c : Nat} {s d : Nat} {V N : Int → Option (List Nat)} {ep : Nat} (h : Store Y bs w lo b n c s d V N ep) (hn : n < 690000) {p : Int} (hp : isP p = true) {a : Option Addr} {cap : Nat} {l : List Nat} (hl : Nums .u8 w a l.length cap l) (h1 : 1 ≤ l.length) (h2 : l.length ≤ 248) (hb : Crc.Bytes l) :
    Calls Tryz.prog 15 #[ptr s, .int .i64 p, .slice a l.length cap] w fun e w' => e = .returned .nilIface ∧ Store Y bs w' lo b (n + 1) c s d V (upd N p (some l)) ep ∧ Below lo w w' ∧ Kp Y w w' := by
  obtain ⟨m, D, I, S, h⟩ := h
  obtain ⟨p0, p1, hf⟩ := isP_fits hp
  have hw := write_w bs lo n m D I S p a cap l w h.at_ h.ev hf hl (by omega)
  have hput : St.put S p l = (none, { S with now := upd S.now p (some l) }) := by
    unfold St.put
    rw [hp, if_neg (by decide), if_neg (by omega)]
  rw [hput, h.hs] at hw
  refine hw.mono ?_
  rintro e w' ⟨⟨v, hv, rfl⟩, h2', h3'⟩
  have hv' : v = .nilIface := hv
  subst hv'
  have hbl := h3'.below h.los (fun x hx => by rw [List.mem_singleton.1 hx]; exact h.at_.slo.2.2)
  refine ⟨rfl, ⟨m, D, I, _, h2', ⟨⟨h.st.fit.t7, h.st.fit.dom, h.st.fit.len, h.st.fit.off, h.st.fit.pg, h.st.fit.tno, h.st.fit.tb, h.st.fit.inj, h.st.fit.tinj, h.st.fit.pt, h.st.fit.rs, h.st.fit.zero⟩, ⟨fun i hi => ?_, fun i k hi => ?_⟩, h.st.idle, h.st.root, h.st.new⟩, h.hs, h.hd, h.hH, h.bl, h.b1, h.b2, h.cl, h.ic, h.ev.turn h3' (fun x hx => by rw [List.mem_singleton.1 hx]; exact h.at_.slo.2.2), Nat.le_trans h.los h3'.size, by show upd S.now p (some l) = _; rw [h.now], h.ep, h.outs h3'.size (fun x hx => .inl hx)⟩, hbl, h.kp h3' (fun x hx => by rw [List.mem_singleton.1 hx]; simp)⟩
  · change (upd S.now p (some l) i).isSome = true at hi
    by_cases e : i = p
    · omega
    · rw [upd_other _ _ e] at hi; exact h.st.now.dom i hi
  · change upd S.now p (some l) i = some k at hi
    by_cases e : i = p
    · subst e; rw [upd_same] at hi; cases hi; exact ⟨h2, hb⟩
    · rw [upd_other _ _ e] at hi; exact h.st.now.len i k hi
theorem Stand.there {H : Nat} {S : St} {V : Int → Option (List Nat)} {D : Dv} (h : Stand H S V D) (p : Int) : S.there p = (view S.now V p).isSome := by
  unfold St.there view
  cases hN : S.now p with
  | some l => cases l <;> simp
  | none =>
    simp only
    cases hV : V p with
    | none => rw [h.fit.off p hV]; rfl
    | some l =>
      obtain ⟨a, h1, h2, _⟩ := h.fit.pg p l hV
      rw [h1]
      simp only [Option.getD_some, Option.isSome_some, decide_eq_true_eq]
      omega
/-- a page is dropped -/
theorem Store.drop {Y : List Nat} {bs : List Addr} {w : World} {lo b n c : Nat} {s d : Nat} {V N : Int → Option (List Nat)} {ep : Nat} (h : Store Y bs w lo b n c s d V N ep) (hn : n < 690000) {p : Int} (hp : isP p = true) :
    Calls Tryz.prog 26 #[ptr s, .int .i64 p] w fun e w' => e = .returned .nilIface ∧ Store Y bs w' lo b (n + 1) c s d V (if (view N V p).isSome then upd N p (some []) else N) ep ∧ Below lo w w' ∧ Kp Y w w' := by
  obtain ⟨m, D, I, S, h⟩ := h
  obtain ⟨p0, p1, hf⟩ := isP_fits hp
  have hw := drop_w bs lo n m D I S p w h.at_ h.ev hf (by omega)
  have hth := h.st.there p
  rw [h.now] at hth
  have hput : St.drop S p = (none, { S with now := if (view N V p).isSome then upd N p (some []) else N }) := by
    unfold St.drop
    rw [hp, if_neg (by decide), hth]
    split
    · rw [h.now]
    · have e := h.now
      obtain ⟨a, b, c, d, f⟩ := S
      simp only at e
      subst e
      rfl
  rw [hput, h.hs] at hw
  refine hw.mono ?_
  rintro e w' ⟨⟨v, hv, rfl⟩, h2', h3'⟩
  have hv' : v = .nilIface := hv
  subst hv'
  have hbl := h3'.below h.los (fun x hx => by rw [List.mem_singleton.1 hx]; exact h.at_.slo.2.2)
  have hNo : NowOk (if (view N V p).isSome then upd N p (some []) else N) := by
    have h0 := h.st.now
    rw [h.now] at h0
    split
    · refine ⟨fun i hi => ?_, fun i k hi => ?_⟩
      · by_cases e : i = p
        · omega
        · rw [upd_other _ _ e] at hi; exact h0.dom i hi
      · by_cases e : i = p
        · subst e; rw [upd_same] at hi; cases hi; exact ⟨by simp, fun x hx => by cases hx⟩
        · rw [upd_other _ _ e] at hi; exact h0.len i k hi
    · exact h0
  exact ⟨rfl, ⟨m, D, I, _, h2', ⟨⟨h.st.fit.t7, h.st.fit.dom, h.st.fit.len, h.st.fit.off, h.st.fit.pg, h.st.fit.tno, h.st.fit.tb, h.st.fit.inj, h.st.fit.tinj, h.st.fit.pt, h.st.fit.rs, h.st.fit.zero⟩, hNo, h.st.idle, h.st.root, h.st.new⟩, h.hs, h.hd, h.hH, h.bl, h.b1, h.b2, h.cl, h.ic, h.ev.turn h3' (fun x hx => by rw [List.mem_singleton.1 hx]; exact h.at_.slo.2.2), Nat.le_trans h.los h3'.size, rfl, h.ep, h.outs h3'.size (fun x hx => .inl hx)⟩, hbl, h.kp h3' (fun x hx => by rw [List.mem_singleton.1 hx]; simp)⟩
/-- what leaves the store, with the pairs and the device, to be -/
theorem Up.far {Y : List Nat} {bs : List Addr} {w w' : World} {lo b n n' c c' : Nat} {s d : Nat} {V V' N N' : Int → Option (List Nat)} {ep ep' : Nat} {m m' : Mp} {D D' : Dv} {I I' : Si} {S S' : St} (h : Up Y bs w lo b n c s d V N ep m D I S) {X : List Nat}
    (k : SAt w' lo n' m' D' I' S') (hS : Stand I.H S' V' D') (hs : I'.s = I.s) (hd : I'.d = I.d) (hH : I'.H = I.H) (hb : D'.blocks = D.blocks) (hc : D'.calls = c') (hic : I'.c ≤ 7) (ht : Turn X w w') (hX : ∀ x ∈ X, lo ≤ x) (hN : S'.now = N') (he : S'.ep = ep') (hI : ∀ x ∈ I'.all m', x ∈ I.all m ∨ w.heap.size ≤ x) :
    Up Y bs w' lo b n' c' s d V' N' ep' m' D' I' S' :=
  ⟨k, by rw [hH]; exact hS, hs.trans h.hs, hd.trans h.hd, hH.trans h.hH, hb.trans h.bl, h.b1, h.b2, hc, hic, h.ev.turn ht hX, Nat.le_trans h.los ht.size, hN, he, h.outs ht.size hI⟩
/-- all is committed -/
theorem Store.commit {Y : List Nat} {bs : List Addr} {w : World} {lo b n c : Nat} {s d : Nat} {V N : Int → Option (List Nat)} {ep : Nat} (h : Store Y bs w lo b n c s d V N ep) (hn : n + 8 * (cnt N + 7) + 700 < 690000) (hc : c < 700000) (hep : ep < 1000000) (h0 : cnt N ≠ 0) {q : Nat} (h1 : cnt V ≤ q) (h2 : cnt (view N V) ≤ q) (hq : 2 * q + 18 ≤ GeoW.half b) :
    Calls Tryz.prog 16 #[ptr s] w fun e w' => e = .returned .nilIface ∧ (∃ c', c' ≤ c + 2 * (cnt N + 7) + 4 ∧ Store Y bs w' lo b (n + 8 * (cnt N + 7) + 700) c' s d (view N V) (fun _ => none) (ep + 1)) ∧ Below lo w w' ∧ Kp Y w w' := by
  obtain ⟨m, D, I, S, h⟩ := h
  obtain ⟨hH2, hH5⟩ := h.at_half
  have hnp := h.st.idle.np
  have hcl := h.cl
  have hco := commit_w bs lo n m D I S w h.at_ h.ev (Fit.sok h.st.fit h.st.now (by omega)) hH2 (by rw [h.now, hnp]; omega) (by omega) (by omega) (by rw [h.st.idle.fuse]; omega) (by rw [h.ep]; omega) (by rw [h.bl]; exact h.b1)
  obtain ⟨x, hx, hf⟩ := h.st.fit.room h.st.now h1 (by rw [h.now]; exact h2) (by rw [h.hH]; exact hq)
  obtain ⟨D', e1, e2, e3, e4⟩ := h.st.commit (by rw [h.bl]; exact h.hH) hH2 (by rw [h.ep]; omega) (by rw [h.now]; exact h0) hx hf
  rw [e1, hnp, h.now, h.hs] at hco
  rw [h.now] at e2 e4
  refine hco.mono ?_
  rintro e w' ⟨v, m', I', hv, rfl, k, hM, ht⟩
  have hv' : v = .nilIface := hv
  subst hv'
  have hX : ∀ x ∈ I.s :: own I.d m, lo ≤ x := fun x hx => by
    rcases List.mem_cons.1 hx with rfl | hx
    · exact h.at_.slo.1
    · exact h.at_.pr.dev.own_lo x hx
  have hXo : ∀ x ∈ I.s :: own I.d m, x ∈ I.own m := fun x hx => by
    rcases List.mem_cons.1 hx with rfl | hx
    · simp
    · simp only [List.mem_cons]; exact .inr (.inr (.inr (.inr (List.mem_cons.1 hx))))
  exact ⟨rfl, ⟨D'.calls, by omega, m', D', I', behind S x, h.far k e2 hM.s hM.d hM.H e3 rfl (by rw [hM.c]; exact h.ic) ht hX rfl (by show S.ep + 1 = _; rw [h.ep]) hM.all⟩, ht.below h.los hX, h.kp ht hXo⟩
/-- nothing is committed -/
theorem Store.commit0 {Y : List Nat} {bs : List Addr} {w : World} {lo b n c : Nat} {s d : Nat} {V N : Int → Option (List Nat)} {ep : Nat} (h : Store Y bs w lo b n c s d V N ep) (hn : n + 8 * (cnt N + 7) + 700 < 690000) (hc : c < 700000) (hep : ep < 1000000) (h0 : cnt N = 0) :
    Calls Tryz.prog 16 #[ptr s] w fun e w' => e = .returned .nilIface ∧ Store Y bs w' lo b (n + 8 * (cnt N + 7) + 700) c s d V N ep ∧ Below lo w w' ∧ Kp Y w w' := by
  obtain ⟨m, D, I, S, h⟩ := h
  obtain ⟨hH2, hH5⟩ := h.at_half
  have hnp := h.st.idle.np
  have hcl := h.cl
  have hco := commit_w bs lo n m D I S w h.at_ h.ev (Fit.sok h.st.fit h.st.now (by omega)) hH2 (by rw [h.now, hnp]; omega) (by omega) (by omega) (by rw [h.st.idle.fuse]; omega) (by rw [h.ep]; omega) (by rw [h.bl]; exact h.b1)
  have e1 : commitT S D I.H = (none, S, D) := by unfold commitT; rw [if_pos (by rw [h.now]; exact h0)]
  rw [e1, hnp, h.now, h.hs] at hco
  refine hco.mono ?_
  rintro e w' ⟨v, m', I', hv, rfl, k, hM, ht⟩
  have hv' : v = .nilIface := hv
  subst hv'
  have hX : ∀ x ∈ I.s :: own I.d m, lo ≤ x := fun x hx => by
    rcases List.mem_cons.1 hx with rfl | hx
    · exact h.at_.slo.1
    · exact h.at_.pr.dev.own_lo x hx
  have hXo : ∀ x ∈ I.s :: own I.d m, x ∈ I.own m := fun x hx => by
    rcases List.mem_cons.1 hx with rfl | hx
    · simp
    · simp only [List.mem_cons]; exact .inr (.inr (.inr (.inr (List.mem_cons.1 hx))))
  exact ⟨rfl, ⟨m', D, I', S, h.far k h.st hM.s hM.d hM.H rfl hcl (by rw [hM.c]; exact h.ic) ht hX h.now h.ep hM.all⟩, ht.below h.los hX, h.kp ht hXo⟩
/-- where there is no room -/
theorem Store.full {Y : List Nat} {bs : List Addr} {w : World} {lo b n c : Nat} {s d : Nat} {V N : Int → Option (List Nat)} {ep : Nat} (h : Store Y bs w lo b n c s d V N ep) (hn : n + 8 * (cnt N + 7) + 700 < 690000) (hc : c < 700000) (hep : ep < 1000000) (h0 : cnt N ≠ 0) :
    Calls Tryz.prog 16 #[ptr s] w fun e w' => ((e = .returned .nilIface ∧ ∃ c', c' ≤ c + 2 * (cnt N + 7) + 4 ∧ Store Y bs w' lo b (n + 8 * (cnt N + 7) + 700) c' s d (view N V) (fun _ => none) (ep + 1)) ∨
      ((∃ a, bs[4]? = some a ∧ e = .returned (ev a)) ∧ Store Y bs w' lo b (n + 8 * (cnt N + 7) + 700) c s d V N ep ∧ ∀ q, cnt V ≤ q → cnt (view N V) ≤ q → GeoW.half b < 2 * q + 18)) ∧ Below lo w w' ∧ Kp Y w w' := by
  by_cases hr : ∃ q, cnt V ≤ q ∧ cnt (view N V) ≤ q ∧ 2 * q + 18 ≤ GeoW.half b
  · obtain ⟨q, h1, h2, h3⟩ := hr
    refine (h.commit hn hc hep h0 h1 h2 h3).mono ?_
    rintro e w' ⟨h4, h5, h6⟩
    exact ⟨.inl ⟨h4, h5⟩, h6⟩
  have hno : ∀ q, cnt V ≤ q → cnt (view N V) ≤ q → GeoW.half b < 2 * q + 18 := fun q h1 h2 => Nat.lt_of_not_le fun h3 => hr ⟨q, h1, h2, h3⟩
  obtain ⟨m, D, I, S, h⟩ := h
  obtain ⟨hH2, hH5⟩ := h.at_half
  have hnp := h.st.idle.np
  have hcl := h.cl
  have hco := commit_w bs lo n m D I S w h.at_ h.ev (Fit.sok h.st.fit h.st.now (by omega)) hH2 (by rw [h.now, hnp]; omega) (by omega) (by omega) (by rw [h.st.idle.fuse]; omega) (by rw [h.ep]; omega) (by rw [h.bl]; exact h.b1)
  have hX : ∀ x ∈ I.s :: own I.d m, lo ≤ x := fun x hx => by
    rcases List.mem_cons.1 hx with rfl | hx
    · exact h.at_.slo.1
    · exact h.at_.pr.dev.own_lo x hx
  have hXo : ∀ x ∈ I.s :: own I.d m, x ∈ I.own m := fun x hx => by
    rcases List.mem_cons.1 hx with rfl | hx
    · simp
    · simp only [List.mem_cons]; exact .inr (.inr (.inr (.inr (List.mem_cons.1 hx))))
  by_cases hxf : ∃ x, laid S I.H = some x ∧ fits x I.H = true
  · obtain ⟨x, hx, hf⟩ := hxf
    obtain ⟨D', e1, e2, e3, e4⟩ := h.st.commit (by rw [h.bl]; exact h.hH) hH2 (by rw [h.ep]; omega) (by rw [h.now]; exact h0) hx hf
    rw [e1, hnp, h.now, h.hs] at hco
    rw [h.now] at e2 e4
    refine hco.mono ?_
    rintro e w' ⟨v, m', I', hv, rfl, k, hM, ht⟩
    have hv' : v = .nilIface := hv
    subst hv'
    exact ⟨.inl ⟨rfl, D'.calls, by omega, m', D', I', behind S x, h.far k e2 hM.s hM.d hM.H e3 rfl (by rw [hM.c]; exact h.ic) ht hX rfl (by show S.ep + 1 = _; rw [h.ep]) hM.all⟩, ht.below h.los hX, h.kp ht hXo⟩
  · have e1 : commitT S D I.H = (some 4, S, D) := by
      unfold commitT
      rw [if_neg (by rw [h.now]; exact h0)]
      cases hx : laid S I.H with
      | none => rfl
      | some x =>
        simp only
        rw [if_neg fun hf => hxf ⟨x, hx, hf⟩]
    rw [e1, hnp, h.now, h.hs] at hco
    refine hco.mono ?_
    rintro e w' ⟨v, m', I', hv, rfl, k, hM, ht⟩
    obtain ⟨a, ha, rfl⟩ := hv
    exact ⟨.inr ⟨⟨a, ha, rfl⟩, ⟨m', D, I', S, h.far k h.st hM.s hM.d hM.H rfl hcl (by rw [hM.c]; exact h.ic) ht hX h.now h.ep hM.all⟩, hno⟩, ht.below h.los hX, h.kp ht hXo⟩
/-- taken back -/
theorem Store.abort {Y : List Nat} {bs : List Addr} {w : World} {lo b n c : Nat} {s d : Nat} {V N : Int → Option (List Nat)} {ep : Nat} (h : Store Y bs w lo b n c s d V N ep) :
    Calls Tryz.prog 27 #[ptr s] w fun e w' => e = .returned (.tuple #[]) ∧ Store Y bs w' lo b n c s d V (fun _ => none) ep ∧ Below lo w w' ∧ Kp Y w w' := by
  obtain ⟨m, D, I, S, h⟩ := h
  have ha := abort_w lo n m D I S w h.at_
  rw [h.hs] at ha
  refine ha.mono ?_
  rintro e w' ⟨rfl, o', ho, k, ht⟩
  exact ⟨rfl, ⟨m, D, _, _, h.far k h.st.opened h.hs.symm rfl rfl rfl h.cl h.ic ht h.at_.own_lo rfl h.ep (Si.all_sub (.inl rfl) (.inl rfl) fun x hx => by
    simp only [Si.own, List.mem_cons] at hx ⊢
    rcases hx with e | e | e | e | e
    · exact .inl (.inl (e.trans h.hs.symm))
    · exact .inl (.inr (.inl e))
    · exact .inl (.inr (.inr (.inl e)))
    · exact .inr (by omega)
    · exact .inl (.inr (.inr (.inr (.inr e)))))⟩, ht.below h.los h.at_.own_lo, h.kp ht (fun x hx => hx)⟩
/-- opened anew -/
theorem Store.open_ {Y : List Nat} {bs : List Addr} {w : World} {lo b n c : Nat} {s d : Nat} {V N : Int → Option (List Nat)} {ep : Nat} (h : Store Y bs w lo b n c s d V N ep) (hn : n < 680000) (hc : c < 700000) (hep : ep < 1000000) :
    Calls Tryz.prog 18 #[ptr d] w fun e w' => (∃ s', e = .returned (.tuple #[ptr s', .nilIface]) ∧ Store Y bs w' lo b (n + 400) c s' d V (fun _ => none) ep) ∧ Below lo w w' ∧ Kp Y w w' := by
  obtain ⟨m, D, I, S, h⟩ := h
  obtain ⟨hH2, hH5⟩ := h.at_half
  have hX := h.at_.pr.dev.own_lo
  have hown : ∀ {x : Nat}, x ∈ own d m → x ∈ I.own m := fun {x} hx => by
    rw [← h.hd] at hx
    simp only [List.mem_cons]
    exact .inr (.inr (.inr (.inr (List.mem_cons.1 hx))))
  have hnp := h.st.idle.np
  have hbl := h.bl
  have hb1 := h.b1
  have hb2 := h.b2
  have hcl := h.cl
  have hSt := h.st.opened
  rcases Nat.eq_zero_or_pos S.ep with h0 | h0
  · have hbe : bestOf D (GeoW.half D.blocks) = ⟨0, []⟩ := by
      have hr := h.st.root
      rw [h0] at hr
      rw [h.bl, ← h.hH]
      exact hr.none
    have hz := h.st.zero h0
    rw [hz] at hSt
    have ho := open_none bs lo I.d n m D w h.at_.pr.dev (h.ev.sub (by decide)) (by omega) (by omega) h.los h.st.idle.down h.st.idle.bytes hbe
    rw [h.hd] at ho
    refine ho.mono ?_
    rintro e w' ⟨I', rfl, k, hd, hH, _, hic, hio, ⟨htb, hra⟩, hb⟩
    refine ⟨⟨I'.s, rfl, m, D, I', St0, ⟨k.mono (by omega), ?_, rfl, hd, by rw [hH, h.bl], h.bl, h.b1, h.b2, h.cl, by omega, h.ev.below hb, Nat.le_trans h.los hb.size, rfl, ?_, h.outs hb.size (Si.all_sub (.inr htb) (.inr fun b o e => by rw [hra] at e; cases e) fun x hx => (hio x hx).imp hown id)⟩⟩, hb.mono h.los, h.kpb hb⟩
    · rw [hH, h.bl, ← h.hH]; exact hSt
    · rw [← h.ep, h0]
  · have hr := h.st.root
    have hrt := h.st.fit.rs h0
    have hfine := Fit.fine h.st.fit (by omega) h0 (by have := h.ep; omega)
    have hok := Fit.ok h.st.fit (by omega)
    have hbe := hr.best h0
    rw [hrt] at hbe
    have ho := open_some bs lo I.d n m D w h.at_.pr.dev h.ev (by omega) (by omega) h.los (H := I.H) (by rw [h.bl]; exact h.hH) h.st.tabs hbe h.st.fit.t7 hfine.g hfine.s (fun p => ?_) (fun i r hi => ?_) hok.2.2 (by omega) (by omega) (by omega) (by rw [h.st.idle.fuse]; omega)
    · have hwt : wholeT D (stOf S.ep S.tabs S.at_) = (none, D) := by
        unfold wholeT
        rw [if_pos]
        have := hr.copies h0
        rw [h.hH, ← h.bl] at this
        exact this
      rw [hwt, hnp, h.hd] at ho
      refine ho.mono ?_
      rintro e w' ⟨p', hp', ht, hres⟩
      obtain ⟨I', rfl, hd, hH, _, _, hic, k, hio, htb, hra⟩ := hres
      have hX' : ∀ x ∈ own d m, lo ≤ x := by rw [← h.hd]; exact hX
      refine ⟨⟨I'.s, rfl, _, D, I', _, ⟨k.mono (by omega), ?_, rfl, hd, by rw [hH, h.hH], h.bl, h.b1, h.b2, h.cl, hic, h.ev.turn ht hX', Nat.le_trans h.los ht.size, rfl, h.ep, h.outs ht.size (Si.all_sub (.inr htb) (.inr hra) fun x hx => (hio x hx).imp hown id)⟩⟩, ht.below h.los hX', h.kp ht (fun x hx => hown hx)⟩
      rw [hH]
      have e : stOf S.ep S.tabs S.at_ = { S with now := fun _ => none } := by unfold stOf; rw [← hrt]
      rw [e]
      exact hSt
    · unfold tref
      cases hA : S.at_ (p : Int) with
      | none => exact ⟨by decide, by decide, by decide⟩
      | some r => exact hok.1 _ r hA
    · obtain ⟨a, l, _, rfl, h2, _⟩ := h.st.fit.old_pg hi
      simp only
      omega
/-- a page is read -/
theorem Store.read {Y : List Nat} {bs : List Addr} {w : World} {lo b n c : Nat} {s d : Nat} {V N : Int → Option (List Nat)} {ep : Nat} (h : Store Y bs w lo b n c s d V N ep) (hn : n < 680000) (hc : c < 700000) {p : Int} (hp : isP p = true) :
    Calls Tryz.prog 19 #[ptr s, .int .i64 p] w fun e w' => (match view N V p with
      | none => ∃ a, bs[8]? = some a ∧ e = .returned (.tuple #[.slice none 0 0, ev a])
      | some l => ∃ a cap, e = .returned (.tuple #[.slice a l.length cap, .nilIface]) ∧ Nums .u8 w' a l.length cap l) ∧ Store Y bs w' lo b (n + 1) c s d V N ep ∧ Below lo w w' ∧ (view N V p = none → Below w.heap.size w w') ∧ Kp Y w w' := by
  obtain ⟨m, D, I, S, h⟩ := h
  obtain ⟨p0, p1, hf⟩ := isP_fits hp
  have hth := h.st.there p
  have hcl := h.cl
  cases hv : view N V p with
  | none =>
    rw [h.now, hv] at hth
    have hr := read_bad bs lo n m D I S p w h.at_ h.ev hf 8 (.inr ⟨hp, hth, rfl⟩)
    rw [h.hs] at hr
    refine hr.mono ?_
    rintro e w' ⟨h1, h2⟩
    exact ⟨h1, ⟨m, D, I, S, h.on h2 (by omega)⟩, h2.mono h.los, fun _ => h2, h.kpb h2⟩
  | some l =>
    cases hN : N p with
    | some k =>
      have hkl : k = l ∧ k ≠ [] := by
        unfold view at hv
        rw [hN] at hv
        cases k with
        | nil => cases hv
        | cons y k => exact ⟨Option.some.inj hv, by simp⟩
      obtain ⟨rfl, hk0⟩ := hkl
      have hN' : S.now p = some k := by rw [h.now]; exact hN
      have hr := read_now lo n m D I S p k w h.at_ hp hN' hk0 (h.st.now.len p k hN').1
      rw [h.hs] at hr
      refine hr.mono ?_
      rintro e w' ⟨⟨a, cap, h1, h2⟩, h3⟩
      exact ⟨⟨a, cap, h1, h2⟩, ⟨m, D, I, S, h.on h3 (by omega)⟩, h3.mono h.los, fun e => (by cases e), h.kpb h3⟩
    | none =>
      have hV : V p = some l := by
        unfold view at hv
        rw [hN] at hv
        exact hv
      obtain ⟨a, e1, e2, e3, e4⟩ := h.st.fit.pg p l hV
      have hr := read_at bs lo n m D D I S p l a _ I.c w h.at_ h.ev hp (by rw [h.now]; exact hN) e1 e3 (by omega) (h.st.fit.len p l hV).2.1 h.st.idle.down h.st.idle.fuse h.st.idle.bytes (by omega) (by omega) (by have := h.ic; omega) (readP_first e4.1 rfl) rfl
      rw [h.hs] at hr
      refine hr.mono ?_
      rintro e w' ⟨⟨x, cap, h1, h2, _⟩, k, ht⟩
      have hX : ∀ x ∈ I.p :: own I.d m, lo ≤ x := fun x hx => by
        rcases List.mem_cons.1 hx with rfl | hx
        · exact h.at_.pr.lop
        · exact h.at_.pr.dev.own_lo x hx
      exact ⟨⟨x, cap, h1, h2⟩, ⟨m, D, _, S, h.far k h.st h.hs.symm rfl rfl rfl h.cl h.ic ht hX h.now h.ep (Si.all_sub (.inl rfl) (.inl rfl) fun x hx => .inl (by have e := h.hs; subst e; exact hx))⟩, ht.below h.los hX, fun e => (by cases e), h.kp ht (fun x hx => by
        rcases List.mem_cons.1 hx with rfl | hx
        · simp
        · simp only [List.mem_cons]; exact .inr (.inr (.inr (.inr (List.mem_cons.1 hx)))))⟩
/-- which pages there are -/
def there (N V : Int → Option (List Nat)) : List Nat := (List.range 256).filter fun (p : Nat) => (view N V (p : Int)).isSome
theorem Store.pages {Y : List Nat} {bs : List Addr} {w : World} {lo b n c : Nat} {s d : Nat} {V N : Int → Option (List Nat)} {ep : Nat} (h : Store Y bs w lo b n c s d V N ep) :
    Calls Tryz.prog 45 #[ptr s] w fun e w' => (∃ a cap, e = .returned (.slice a (there N V).length cap) ∧ Nums .i64 w' a (there N V).length cap (there N V)) ∧ Below w.heap.size w w' := by
  obtain ⟨m, D, I, S, h⟩ := h
  have hp := pages_w lo n m D I S w h.at_
  have e : psOf S 256 = there N V := by
    unfold psOf there
    refine List.filter_congr fun p _ => ?_
    rw [h.st.there, h.now]
  rw [e, h.hs] at hp
  exact hp
theorem Store.changed {Y : List Nat} {bs : List Addr} {w : World} {lo b n c : Nat} {s d : Nat} {V N : Int → Option (List Nat)} {ep : Nat} (h : Store Y bs w lo b n c s d V N ep) :
    Calls Tryz.prog 28 #[ptr s] w fun e w' => e = .returned (.int .i64 (cnt N : Nat)) ∧ w' = w := by
  obtain ⟨m, D, I, S, h⟩ := h
  have hp := changed_w lo n m D I S w h.at_ h.st.now.dom
  rw [h.now, h.hs] at hp
  exact hp
theorem Store.epoch {Y : List Nat} {bs : List Addr} {w : World} {lo b n c : Nat} {s d : Nat} {V N : Int → Option (List Nat)} {ep : Nat} (h : Store Y bs w lo b n c s d V N ep) :
    Calls Tryz.prog 21 #[ptr s] w fun e w' => e = .returned (.int .i64 (ep : Int)) ∧ w' = w := by
  obtain ⟨m, D, I, S, h⟩ := h
  have hp := epoch_w lo n m D I S w h.at_
  rw [h.ep, h.hs] at hp
  exact hp
theorem Store.calls {Y : List Nat} {bs : List Addr} {w : World} {lo b n c : Nat} {s d : Nat} {V N : Int → Option (List Nat)} {ep : Nat} (h : Store Y bs w lo b n c s d V N ep) :
    Calls Tryz.prog 25 #[ptr d] w fun e w' => e = .returned (.int .i64 (c : Int)) ∧ w' = w := by
  obtain ⟨m, D, I, S, h⟩ := h
  have hp := calls_w I.d lo n m D w h.at_.pr.dev
  rw [h.cl, h.hd] at hp
  refine hp.mono ?_
  rintro e w' ⟨h1, h2⟩
  exact ⟨h1, h2.symm⟩
theorem Up.all_lt {Y : List Nat} {bs : List Addr} {w : World} {lo b n c : Nat} {s d : Nat} {V N : Int → Option (List Nat)} {ep : Nat} {m : Mp} {D : Dv} {I : Si} {S : St} (h : Up Y bs w lo b n c s d V N ep m D I S) : ∀ x ∈ I.all m, x < w.heap.size := by
  intro x hx
  rcases List.mem_cons.1 hx with e | hx
  · obtain ⟨b', o', e', hc, _⟩ := h.at_.tabs.at (j := 0) (by rw [h.at_.tabs.len]; decide)
    cases e'
    rw [e]
    exact World.block_lt_of_cell? _ _ hc
  · rcases List.mem_append.1 hx with hx | hx
    · obtain ⟨o, e⟩ := mem_raB hx
      exact (h.at_.rx x o e).1
    · exact h.at_.own_lt x hx
/-- another block beside the store -/
theorem Store.alloc {Y : List Nat} {bs : List Addr} {w : World} {lo b n c : Nat} {s d : Nat} {V N : Int → Option (List Nat)} {ep : Nat} (h : Store Y bs w lo b n c s d V N ep) (o : Obj) : Store (w.heap.size :: Y) bs (w.alloc o) lo b n c s d V N ep := by
  obtain ⟨m, D, I, S, h⟩ := h
  have h' := h.on ((Below.refl w.heap.size w).alloc (Nat.le_refl _) o) (Nat.le_refl n)
  refine ⟨m, D, I, S, ⟨h'.at_, h'.st, h'.hs, h'.hd, h'.hH, h'.bl, h'.b1, h'.b2, h'.cl, h'.ic, h'.ev, h'.los, h'.now, h'.ep, fun y hy => ?_⟩⟩
  rcases List.mem_cons.1 hy with rfl | hy
  · exact ⟨by simp, fun hm => by
      have := h.all_lt _ hm
      omega⟩
  · exact h'.out y hy
/-- what is written into another block leaves the store -/
theorem Store.set {Y : List Nat} {bs : List Addr} {w w' : World} {lo b n c : Nat} {s d : Nat} {V N : Int → Option (List Nat)} {ep : Nat} (h : Store Y bs w lo b n c s d V N ep) {y : Nat} (hy : y ∈ Y) (ht : Turn [y] w w') (hb : NoCells w y ∨ ∃ v, w.cell? ⟨y, 0, none⟩ = some v ∧ ∀ z, v ≠ .int .u8 z) (hl : lo ≤ y) : Store Y bs w' lo b n c s d V N ep := by
  obtain ⟨m, D, I, S, h⟩ := h
  have ho := (h.out y hy).2
  have k := h.at_.away ht (fun x hx => by rw [List.mem_singleton.1 hx]; exact ⟨fun hm => ho (Si.own_all hm), fun e => ho (by rw [e]; exact List.mem_cons_self), fun b o e1 e2 => ho (by rw [e2]; exact List.mem_cons_of_mem _ (List.mem_append.2 (.inl (by unfold raB; rw [e1]; simp))))⟩) (fun x hx => by rw [List.mem_singleton.1 hx]; exact hb)
  exact ⟨m, D, I, S, ⟨k, h.st, h.hs, h.hd, h.hH, h.bl, h.b1, h.b2, h.cl, h.ic, h.ev.turn ht (fun x hx => by rw [List.mem_singleton.1 hx]; exact hl), Nat.le_trans h.los ht.size, h.now, h.ep, h.outs ht.size (fun x hx => .inl hx)⟩⟩
end Go.Proofs.YtbjfgdahfpfgdaaGreatDoor.PgW

namespace Go.Proofs.YtbjfgdahfpfgdaaGreatDoor.PgW
open Go Go.RowKit Go.Maps Go.Proofs.YtbjfgdahfpfgdaaGreatDoor.Mem Go.Proofs.YtbjfgdahfpfgdaaGreatDoor.MapsW Go.Proofs.YtbjfgdahfpfgdaaGreatDoor.SeeW Go.Proofs.YtbjfgdahfpfgdaaGreatDoor.DevG Go.Proofs.YtbjfgdahfpfgdaaGreatDoor.PairG Go.Proofs.YtbjfgdahfpfgdaaGreatDoor.RefsW Go.Proofs.YtbjfgdahfpfgdaaGreatDoor.PgP Go.Proofs.YtbjfgdahfpfgdaaGreatDoor.RootP Go.Proofs.YtbjfgdahfpfgdaaGreatDoor.RootW
set_option linter.unusedVariables false
set_option maxRecDepth 100000

/-- nothing -/
abbrev Non : Int → Option (List Nat) := fun _ => none
theorem new_best (b : Nat) : bestOf (Dv.new b) (GeoW.half b) = ⟨0, []⟩ := best_none fun s _ => by
  unfold oneOf
  rw [Dv.new_read]
  exact parse_zeros
theorem byte1 (w : World) (x : Nat) : Nums .u8 (w.alloc (.cells #[.int .u8 (x : Int)] 5)) (some ⟨w.heap.size, 0, none⟩) 1 1 [x] := by
  refine ⟨rfl, Nat.le_refl _, by decide, (fun e => nomatch e), fun j u hj => ⟨_, _, rfl, ?_⟩⟩
  cases j with
  | zero => cases hj; rw [World.cell?, heap_alloc_new]; rfl
  | succ j => simp [nums] at hj
set_option maxHeartbeats 800000 in
theorem opened_w (bs : List Addr) (lo b : Nat) (w : World) (hB : Ev w lo bs seven) (hlo : lo ≤ w.heap.size) (h1 : 300 ≤ b) (h2 : b ≤ 6000) :
    Calls Tryz.prog 14 #[.int .i64 b] w fun e w' => ∃ s d, e = .returned (.tuple #[ptr s, ptr d]) ∧ Store [] bs w' lo b 400 0 s d Non Non 0 ∧ Below w.heap.size w w' := by
  go_enter Tryz.func14, Tryz.ntmps14
  go_wp2_with fail
  refine (new_w b _ (by omega) (by omega)).mono ?_
  rintro e w1 ⟨rfl, k1, b1, z1⟩
  have hB1 := hB.below b1
  have ho := open_none bs lo _ _ _ _ w1 (k1.mono (Nat.le_refl _) hlo) (hB1.sub (by decide)) (by exact h1) (by exact h2) (by omega) rfl (Dv.Idle.new b).bytes (new_best b)
  have HX := hid (And.intro hB1 b1)
  have HH := hid (And.intro h1 h2)
  clear k1 hB hB1 b1 h1 h2
  go_wp2_with fail
  refine ho.mono ?_
  rintro e w2 ⟨I, rfl, K, hd, hH, hz, hc, hown, _, b2⟩
  have hU : Store [] bs w2 lo b 400 0 I.s (w.heap.size + 5) Non Non 0 := ⟨_, _, I, St0, K.mono (by omega), Stand.fresh b I.H, rfl, hd, hH, rfl, HH.out.1, HH.out.2, rfl, by omega, HX.out.1.below b2, by have := b2.size; omega, rfl, rfl, fun y hy => (by cases hy)⟩
  have HU := hid hU
  have HB2 := hid (HX.out.2.trans (b2.mono HX.out.2.size))
  clear ho K hd hH hz hc hown b2 hU
  go_wp2_with fail
  exact bodyPost_ret (v := .tuple #[ptr I.s, ptr (w.heap.size + 5)]) (by simp [results, Tryz.results14, go_sem]) rfl ⟨_, _, rfl, HU.out, HB2.out⟩
theorem isP_of {p : Nat} (h : p < 256) : isP (p : Int) = true := by unfold isP; rw [decide_eq_true (by omega), decide_eq_true (by omega)]; rfl
theorem view_none (V : Int → Option (List Nat)) : view Non V = V := rfl
/-- a page written alone -/
theorem view_upd (N V : Int → Option (List Nat)) (p : Int) {l : List Nat} (hl : l ≠ []) (i : Int) : view (upd N p (some l)) V i = if i = p then some l else view N V i := by
  unfold view
  by_cases e : i = p
  · subst e
    rw [upd_same, if_pos rfl]
    cases l with
    | nil => exact absurd rfl hl
    | cons y l => rfl
  · rw [upd_other _ _ e, if_neg e]
set_option maxHeartbeats 3200000 in
theorem first_w (bs : List Addr) (w : World) (hB : Ev w w.heap.size bs seven) : Calls Tryz.prog 11 #[] w fun e w' => e = .returned (.bool true) ∧ Below w.heap.size w w' := by
  go_enter Tryz.func11, Tryz.ntmps11
  go_wp2_with fail
  refine (opened_w bs w.heap.size 500 w hB (Nat.le_refl _) (by decide) (by decide)).mono ?_
  rintro e w1 ⟨s, d, rfl, K1, b1⟩
  have hp := K1.pages
  have HK1 := hid K1
  have HB1 := hid b1
  have e0 : there Non Non = [] := by decide
  rw [e0] at hp
  clear hB K1 b1 e0
  go_wp2_with fail
  refine hp.mono ?_
  rintro e w2 ⟨⟨a2, c2, rfl, n2⟩, b2⟩
  have HK2 := hid (HK1.out.below b2)
  have HB2 := hid (HB1.out.trans (b2.mono HB1.out.size))
  have hbd := n2.bound
  clear hp n2 b2
  have bA := (Below.refl w2.heap.size w2).alloc (Nat.le_refl _) (.cells #[.int .u8 ((7 : Nat) : Int)] 5)
  have hw := (HK2.out.below bA).write (by decide) (p := ((3 : Nat) : Int)) (isP_of (by decide)) (byte1 w2 7) (by decide) (by decide) (by intro x hx; simp at hx; omega)
  have HBA := hid (HB2.out.trans (bA.mono HB2.out.size))
  clear bA
  go_wp2_with fail
  refine hw.mono ?_
  rintro e w3 ⟨rfl, K3, b3, _⟩
  have HB3 := hid (HBA.out.trans b3)
  have hc0 : cnt (upd Non ((3 : Nat) : Int) (some [7])) ≠ 0 := cnt_pos (i := 3) (by decide) (by decide) rfl
  have hc1 := cnt_le256 (upd Non ((3 : Nat) : Int) (some [7]))
  have hc2 : cnt (view (upd Non ((3 : Nat) : Int) (some [7])) Non) ≤ 4 := cnt_le fun p hp => by
    rw [view_upd _ _ _ (by simp)] at hp
    split at hp
    · omega
    · cases hp
  have hco := K3.commit (q := 4) (by omega) (by decide) (by decide) hc0 (by decide) hc2 (by decide)
  clear hw K3 b3 hc0 hc2
  go_wp2_with fail
  refine hco.mono ?_
  rintro e w4 ⟨rfl, ⟨c4, hc4, K4⟩, b4, _⟩
  have HB4 := hid (HB3.out.trans b4)
  have hop := K4.open_ (by omega) (by omega) (by decide)
  clear hco b4 K4
  go_wp2_with fail
  refine hop.mono ?_
  rintro e w5 ⟨⟨s5, rfl, K5⟩, b5, _⟩
  have HB5 := hid (HB4.out.trans b5)
  have hrd := K5.read (by omega) (by omega) (p := ((3 : Nat) : Int)) (isP_of (by decide))
  rw [show view (fun _ => none) (view (upd Non ((3 : Nat) : Int) (some [7])) Non) ((3 : Nat) : Int) = some [7] from rfl] at hrd
  clear hop b5 K5
  go_wp2_with fail
  refine hrd.mono ?_
  rintro e w6 ⟨⟨a6, cap6, rfl, n6⟩, K6, b6, _, _⟩
  have HB6 := hid (HB5.out.trans b6)
  have bA := (Below.refl w6.heap.size w6).alloc (Nat.le_refl _) (.cells #[.int .u8 ((7 : Nat) : Int)] 5)
  have hsm := RefW.same_w a6 1 cap6 [7] (some ⟨w6.heap.size, 0, none⟩) 1 1 [7] _ (n6.below bA) (byte1 w6 7)
  rw [decide_eq_true rfl] at hsm
  have HBA6 := hid (HB6.out.trans (bA.mono HB6.out.size))
  clear hrd b6 K6 n6 bA
  go_wp2_with fail
  refine hsm.mono ?_
  rintro e w7 ⟨rfl, b7⟩
  have HB7 := hid (HBA6.out.trans (b7.mono HBA6.out.size))
  clear hsm b7
  go_wp2_with fail
  go_ret
  exact ⟨rfl, HB7.out⟩
end Go.Proofs.YtbjfgdahfpfgdaaGreatDoor.PgW

namespace Go.Proofs.YtbjfgdahfpfgdaaGreatDoor.NumW
open Go Go.RowKit Go.Proofs.YtbjfgdahfpfgdaaGreatDoor.Mem
set_option linter.unusedVariables false
set_option maxRecDepth 100000

theorem tmod_pos {n b : Int} (hb : 0 < b) (h : ¬ n.tmod b < 0) : n.tmod b = n % b := by
  have h2 := Int.tmod_lt_of_pos n hb
  have h3 : n.tmod b % b = n % b := Int.emod_eq_emod_iff_emod_sub_eq_zero.2 (by
    have := Int.mul_tdiv_add_tmod n b
    have e : n.tmod b - n = b * (- n.tdiv b) := by rw [Int.mul_neg]; omega
    rw [e]; exact Int.mul_emod_right _ _)
  rw [← h3, Int.emod_eq_of_lt (by omega) h2]
theorem tmod_neg {n b : Int} (hb : 0 < b) (h : n.tmod b < 0) : n.tmod b + b = n % b := by
  have h1 : -b < n.tmod b := by
    have := Int.lt_tmod_of_pos n hb
    omega
  have h3 : (n.tmod b + b) % b = n % b := Int.emod_eq_emod_iff_emod_sub_eq_zero.2 (by
    have := Int.mul_tdiv_add_tmod n b
    have e : n.tmod b + b - n = b * (1 - n.tdiv b) := by rw [Int.mul_sub]; omega
    rw [e]; exact Int.mul_emod_right _ _)
  rw [← h3, Int.emod_eq_of_lt (by omega) (by omega)]

theorem number_w (n b : Int) (w : World) (hb : 0 < b) (hb2 : b ≤ 9223372036854775807) (h1 : -9223372036854775808 ≤ n) (h2 : n ≤ 9223372036854775807) :
    Calls Tryz.prog 12 #[.int .i64 n, .int .i64 b] w fun e w' => e = .returned (.int .i64 (n % b)) ∧ w = w' := by
  have q1 := Int.tmod_lt_of_pos n hb
  have q2 := Int.lt_tmod_of_pos n hb
  by_cases h : n.tmod b < 0
  · have HE := hid (tmod_neg hb h)
    go_enter Tryz.func12, Tryz.ntmps12
    go_wp2
    go_ret
    exact ⟨ret_int HE.out, rfl⟩
  · have HE := hid (tmod_pos hb h)
    go_enter Tryz.func12, Tryz.ntmps12
    go_wp2
    go_ret
    exact ⟨ret_int HE.out, rfl⟩
end Go.Proofs.YtbjfgdahfpfgdaaGreatDoor.NumW
