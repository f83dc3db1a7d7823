/- A keep while it is read, over the store that it is read from; The walk of package keep's Open of a store with pages; The walk of package keep's Scan: the round; A keep on a new device; the chapter's examples. -/
import Derived.Test.YtbjfgdahfpfgdaaGreatDoorKeepFaultsP23
import Derived.Test.YtbjfgdahfpfgdaaGreatDoorKeepFaultsP7
import Derived.Test.YtbjfgdahfpfgdaaGreatDoorKeepFaultsP12
import Derived.Lib.SmallJoins
import Derived.Lib.SlBytesConst
namespace Go.Proofs.YtbjfgdahfpfgdaaGreatDoor.KeepW
open Go Go.RowKit Go.Maps Go.Proofs.YtbjfgdahfpfgdaaGreatDoor.Mem Go.Proofs.YtbjfgdahfpfgdaaGreatDoor.MapsW Go.Proofs.YtbjfgdahfpfgdaaGreatDoor.DevG Go.Proofs.YtbjfgdahfpfgdaaGreatDoor.Text Go.Proofs.YtbjfgdahfpfgdaaGreatDoor.KeepP Go.Proofs.YtbjfgdahfpfgdaaGreatDoor.SeeW Go.Proofs.YtbjfgdahfpfgdaaGreatDoor.PgP Go.Proofs.YtbjfgdahfpfgdaaGreatDoor.PgW
set_option linter.unusedVariables false
set_option maxRecDepth 100000

/-- what stands while a keep is read: j pages so far -/
structure KR (Y : List Nat) (bs : List Addr) (w0 w : World) (lo b n c s d : Nat) (V : Int → Option (List Nat)) (C : Nat → List Nat) (ep np : Nat) (m : Mp) (I : Si) (S : St) (k l nk : Nat) (F : List UInt8 → Option (List Nat)) (nq : Nat) (pv : Value) (j : Nat) (vs : List Value) (pa : Option Addr) (q pcap : Nat) : Prop where
  ko : KO w w0.heap.size s k l nk F nq pv j vs
  li : ∃ D' c', LimM Y bs w lo b n c s d V C ep np m D' { I with c := c' } S
  ht : Turn (I.p :: own I.d m) w0 w
  pg : w.ownsRow w0.heap.size 3 1 (.slice pa q pcap) q (nums .i64 (List.range q))
theorem own_mono {w : World} {base base' : Nat} {e : TypeId} {size : Nat} {v : Value} {n : Nat} {xs : List Value} (h : w.ownsRow base e size v n xs) (hb : base' ≤ base) : w.ownsRow base' e size v n xs := by
  rcases h with ⟨h1, ⟨e, h2⟩ | ⟨g, c, cur, e, hg, q⟩⟩
  · exact ⟨h1, .inl ⟨e, h2⟩⟩
  · exact ⟨h1, .inr ⟨g, c, cur, e, Nat.le_trans hb hg, q⟩⟩
theorem encG_pos {g : List Kv} (h : g ≠ []) : 0 < (encG g).length := by
  cases g with
  | nil => exact absurd rfl h
  | cons x r => rw [encG_cons, List.length_append, encK_length]; omega
/-- a row of another type's cells is where it was -/
theorem own_obj {w w' : World} {base : Nat} {e : TypeId} {size : Nat} {v : Value} {n : Nat} {xs : List Value} (h : w.ownsRow base e size v n xs) {X : List Nat} (ht : Turn X w w') (hX : ∀ x ∈ X, ∃ ob, w.heap[x]? = some ob ∧ ∀ cur, ob ≠ .cells cur e) : w'.ownsRow base e size v n xs := by
  rcases h with ⟨h1, ⟨rfl, h2⟩ | ⟨g, c, cur, rfl, hb, hc, q⟩⟩
  · exact ⟨h1, .inl ⟨rfl, h2⟩⟩
  · exact ⟨h1, .inr ⟨g, c, cur, rfl, hb, (ht.block g (Array.getElem?_eq_some_iff.1 hc).1 fun hm => by
      obtain ⟨ob, h3, h4⟩ := hX g hm
      rw [h3] at hc
      exact h4 _ (Option.some.inj hc)).trans hc, q⟩⟩
theorem own_obj' {w w' : World} {base : Nat} {e : TypeId} {size : Nat} {v : Value} {n : Nat} {xs : List Value} (h : w.ownsRow base e size v n xs) {x : Option Nat} (hg : w.grownBy w' x) (hX : ∀ y, x = some y → ∃ ob, w.heap[y]? = some ob ∧ ∀ cur, ob ≠ .cells cur e) : w'.ownsRow base e size v n xs := by
  cases x with
  | none => exact own_obj h (X := []) (Turn.of_none hg) fun x hx => by cases hx
  | some y => exact own_obj h (X := [y]) (Turn.of_grown hg (by simp)) fun x hx => by rw [List.mem_singleton.1 hx]; exact hX y rfl
/-- what a pair's put leaves of what was read -/
theorem held5 {w w' : World} {base s k l n n' : Nat} {F F' : List UInt8 → Option (List Nat)} {np np' : Nat} {pv : Value} {j : Nat} {vs : List Value} (h : KO w base s k l n F np pv j vs) (hg : w.grownBy w' (some l)) {P g1 m1 d1 : Nat} {v2 : Value} {K : List UInt8}
    (hN : Nums .u8 w (some ⟨g1, 0, none⟩) m1 d1 (KeepP.nat K)) (h0 : 0 < m1)
    (hS : w.cell? ⟨k, 1, none⟩ = some (.map (some l)) ∧ w.cell? ⟨P, 0, none⟩ = some (.slice (some ⟨g1, 0, none⟩) m1 d1) ∧ w.cell? ⟨P, 1, none⟩ = some v2 ∧ (convert 35 9 (.slice (some ⟨g1, 0, none⟩) m1 d1)).run Tryz.prog w = .ok (.string ⟨K.toArray⟩) w) (hm : TextMap w' base l n' F' np') :
    w'.cell? ⟨k, 1, none⟩ = some (.map (some l)) ∧ w'.cell? ⟨P, 0, none⟩ = some (.slice (some ⟨g1, 0, none⟩) m1 d1) ∧ w'.cell? ⟨P, 1, none⟩ = some v2 ∧ (convert 35 9 (.slice (some ⟨g1, 0, none⟩) m1 d1)).run Tryz.prog w' = .ok (.string ⟨K.toArray⟩) w' := by
  obtain ⟨es, ck, hb⟩ := h.at_.map.block
  have hP : P ≠ l := fun e => by
    have := hS.2.1
    rw [e] at this
    simp [World.cell?, hb] at this
  have hPl := World.block_lt_of_cell? w ⟨P, 0, none⟩ hS.2.1
  have eP := hg.block P hPl fun e => hP (Option.some.inj e)
  obtain ⟨c, t, f, hc⟩ := nums_cells hN h0
  have hN' := nums_of_cells hN (hg.block g1 (Array.getElem?_eq_some_iff.1 hc).1 fun e => by
    rw [Option.some.inj e, hb] at hc
    cases hc)
  refine ⟨(h.store hm hg).at_.c1, (World.cell?_of_block (w := w) eP).trans hS.2.1, (World.cell?_of_block (w := w) eP).trans hS.2.2.1, ?_⟩
  have := conv hN'
  rwa [of_nat] at this
/-- a row is no map -/
theorem row_grown {w w' : World} {size : Nat} {a : Option Addr} {n cap : Nat} {xs : List Value} (h : Row w size a n cap xs) (h0 : 0 < xs.length) {l : Nat} (hm : ∃ es ck, w.heap[l]? = some (.map es ck)) (hg : w.grownBy w' (some l)) : Row w' size a n cap xs := by
  obtain ⟨es, ck, hm⟩ := hm
  refine Row.keep h fun b o e hlt => hg.block b hlt fun e' => ?_
  obtain ⟨b', o', e2, hc⟩ := h.2.2.2.2 0 xs[0] (List.getElem?_eq_getElem h0)
  rw [e] at e2
  cases e2
  rw [Option.some.inj e'] at hc
  simp [World.cell?, hm] at hc
theorem flat_le {α : Type} (gs : List (List α)) (j : Nat) : (gs.take j).flatten.length ≤ gs.flatten.length := by
  have a : gs.flatten = (gs.take j).flatten ++ (gs.drop j).flatten := by rw [← List.flatten_append, List.take_append_drop]
  rw [a, List.length_append]
  omega
theorem dev_sub {I : Si} {m : Mp} : ∀ x ∈ I.p :: own I.d m, x ∈ I.own m := fun x hx => by
  rcases List.mem_cons.1 hx with rfl | hx
  · simp
  · exact UpF.own_sub hx
/-- the store's own blocks were changed -/
theorem KR.turn {Y : List Nat} {bs : List Addr} {w0 w w' : World} {lo b n n' c c' s d : Nat} {V : Int → Option (List Nat)} {C : Nat → List Nat} {ep np np' : Nat} {m : Mp} {I : Si} {S : St} {k l nk : Nat} {F : List UInt8 → Option (List Nat)} {nq : Nat} {pv : Value} {j : Nat} {vs : List Value} {pa : Option Addr} {q pcap : Nat}
    (h : KR Y bs w0 w lo b n c s d V C ep np m I S k l nk F nq pv j vs pa q pcap) (hall : ∀ x ∈ I.all m, x < w0.heap.size) (li : ∃ D' c'', LimM Y bs w' lo b n' c' s d V C ep np' m D' { I with c := c'' } S) (ht : Turn (I.p :: own I.d m) w w') :
    KR Y bs w0 w' lo b n' c' s d V C ep np' m I S k l nk F nq pv j vs pa q pcap := by
  have hX : ∀ x ∈ I.p :: own I.d m, x < w0.heap.size := fun x hx => hall x (Si.own_all (dev_sub x hx))
  obtain ⟨D', c1, h1⟩ := h.li
  exact ⟨h.ko.turn ht hX fun x hx => h1.at_.nou8 x (dev_sub x hx), li, h.ht.then ht, own_far h.pg ht hX⟩
theorem KR.below {Y : List Nat} {bs : List Addr} {w0 w w' : World} {lo b n c s d : Nat} {V : Int → Option (List Nat)} {C : Nat → List Nat} {ep np : Nat} {m : Mp} {I : Si} {S : St} {k l nk : Nat} {F : List UInt8 → Option (List Nat)} {nq : Nat} {pv : Value} {j : Nat} {vs : List Value} {pa : Option Addr} {q pcap : Nat}
    (h : KR Y bs w0 w lo b n c s d V C ep np m I S k l nk F nq pv j vs pa q pcap) (hb : Below w.heap.size w w') : KR Y bs w0 w' lo b n c s d V C ep np m I S k l nk F nq pv j vs pa q pcap := by
  obtain ⟨D', c1, h1⟩ := h.li
  exact ⟨h.ko.below hb, ⟨D', c1, h1.on hb⟩, h.ht.then (Turn.of_below hb), ownsRow_below h.pg hb⟩
theorem KR.read {Y : List Nat} {bs : List Addr} {w0 w : World} {lo b n c s d : Nat} {V : Int → Option (List Nat)} {C : Nat → List Nat} {ep np : Nat} {m : Mp} {I : Si} {S : St} {k l nk : Nat} {F : List UInt8 → Option (List Nat)} {nq : Nat} {pv : Value} {j : Nat} {vs : List Value} {pa : Option Addr} {q pcap : Nat}
    (h : KR Y bs w0 w lo b n c s d V C ep np m I S k l nk F nq pv j vs pa q pcap) (hall : ∀ x ∈ I.all m, x < w0.heap.size) (hn : n < 680000) (hc : c < 700000) (hnp : np < 900000) {p : Nat} (hp : p < 256) {x : List Nat} (hV : V (p : Int) = some x) :
    Calls Tryz.prog 19 #[ptr s, .int .i64 (p : Int)] w fun e w' => (∃ a cap, e = .returned (.tuple #[.slice a x.length cap, .nilIface]) ∧ Nums .u8 w' a x.length cap x) ∧ KR Y bs w0 w' lo b (n + 1) (c + 1) s d V C ep (np + 1) m I S k l nk F nq pv j vs pa q pcap := by
  obtain ⟨D', c1, h1⟩ := h.li
  have hr := Lim.readM h1 hn hc hnp (p := (p : Int)) (by unfold isP; simp; omega)
  rw [hV] at hr
  refine hr.mono ?_
  rintro e w' ⟨h2, h3, h4⟩
  exact ⟨h2, h.turn hall h3 h4⟩
/-- a pair is put into its map -/
theorem KR.store {Y : List Nat} {bs : List Addr} {w0 w : World} {lo b n c s d : Nat} {V : Int → Option (List Nat)} {C : Nat → List Nat} {ep np : Nat} {m : Mp} {I : Si} {S : St} {k l nk : Nat} {F : List UInt8 → Option (List Nat)} {nq : Nat} {pv : Value} {j : Nat} {vs : List Value} {pa : Option Addr} {q pcap : Nat} (h : KR Y bs w0 w lo b n c s d V C ep np m I S k l nk F nq pv j vs pa q pcap) (hall : ∀ x ∈ I.all m, x < w0.heap.size) (hl : w0.heap.size ≤ l) (hlo : lo ≤ w0.heap.size) {w' : World} {nk' : Nat} {F' : List UInt8 → Option (List Nat)} {nq' : Nat} (hr : TextMap w' w0.heap.size l nk' F' nq') (hg : w.grownBy w' (some l)) :
    KR Y bs w0 w' lo b n c s d V C ep np m I S k l nk' F' nq' pv j vs pa q pcap := by
  obtain ⟨D', c1, h1⟩ := h.li
  have ht : Turn [l] w w' := Turn.of_grown hg (by simp)
  obtain ⟨es, ck, hb⟩ := h.ko.at_.map.block
  refine ⟨h.ko.store hr hg, ⟨D', c1, h1.set (y := l) (fun hm => by have := hall l hm; omega) ht (.inl h.ko.kl.2) (by omega)⟩, h.ht.trans ht fun x hx => .inr (by rw [List.mem_singleton.1 hx]; exact hl), own_obj h.pg ht fun x hx => by rw [List.mem_singleton.1 hx]; exact ⟨_, hb, fun cur e => by cases e⟩⟩
/-- a page is told of -/
theorem KR.push {Y : List Nat} {bs : List Addr} {w0 w : World} {lo b n c s d : Nat} {V : Int → Option (List Nat)} {C : Nat → List Nat} {ep np : Nat} {m : Mp} {I : Si} {S : St} {k l nk : Nat} {F : List UInt8 → Option (List Nat)} {nq : Nat} {pv : Value} {j : Nat} {vs : List Value} {pa : Option Addr} {q pcap : Nat} (h : KR Y bs w0 w lo b n c s d V C ep np m I S k l nk F nq pv j vs pa q pcap) (hall : ∀ x ∈ I.all m, x < w0.heap.size) (hlo : lo ≤ w0.heap.size) {o : Obj} {w' : World} {pv' : Value} {j' : Nat} {vs' : List Value} (hg : (w.alloc o).grownBy w' pv.ownBlock) (own : w'.ownsRow w0.heap.size 35 1 pv' j' vs') (hn : vs' = [] → pv' = .slice none 0 0) (hu : ∀ u ∈ vs', ∀ z, u ≠ .int .u8 z) :
    KR Y bs w0 (w'.setCell ⟨k, 3, none⟩ pv') lo b n c s d V C ep np m I S k l nk F nq pv' j' vs' pa q pcap := by
  have bA := (Below.refl w.heap.size w).alloc (Nat.le_refl _) o
  obtain ⟨D', c1, h1⟩ := h.li
  have hA := h.ko.below bA
  obtain ⟨h2, h3⟩ := h1.push (o := o) hall hlo h.ko.own (fun e => by
    have hl : vs.length = j * 1 := h.ko.own.1
    rw [e] at hl
    rw [h.ko.nil (List.length_eq_zero_iff.1 (by simpa using hl))]
    rfl) h.ko.nou hg
  obtain ⟨K2, t2⟩ := hA.push hg own hn hu
  obtain ⟨e1, _⟩ := hA.grow hg
  have hbk := h.ko.bk
  have pg2 : w'.ownsRow w0.heap.size 3 1 (.slice pa q pcap) q (nums .i64 (List.range q)) := own_obj' (ownsRow_below h.pg bA) hg fun y hy => by
    rcases hA.own with ⟨_, ⟨e, _⟩ | ⟨g, c, cur, e, hb, hc, _⟩⟩
    · rw [e] at hy; cases hy
    · rw [e] at hy
      cases hy
      exact ⟨_, hc, fun cur e => by cases e⟩
  refine ⟨K2, ⟨D', c1, h2.set (y := k) (fun hm => by have := hall k hm; omega) t2 (.inr ⟨ptr s, by simp [World.cell?, e1], fun z e => by cases e⟩) (by omega)⟩, (h3 _ _ h.ht (Nat.le_refl _)).trans t2 fun x hx => .inr (by rw [List.mem_singleton.1 hx]; exact hbk), own_obj pg2 t2 fun x hx => by rw [List.mem_singleton.1 hx]; exact ⟨_, e1, fun cur e => by cases e⟩⟩
end Go.Proofs.YtbjfgdahfpfgdaaGreatDoor.KeepW

namespace Go.Proofs.YtbjfgdahfpfgdaaGreatDoor.KeepW
open Go Go.RowKit Go.Maps Go.Proofs.YtbjfgdahfpfgdaaGreatDoor.Mem Go.Proofs.YtbjfgdahfpfgdaaGreatDoor.MapsW Go.Proofs.YtbjfgdahfpfgdaaGreatDoor.DevG Go.Proofs.YtbjfgdahfpfgdaaGreatDoor.Text Go.Proofs.YtbjfgdahfpfgdaaGreatDoor.KeepP Go.Proofs.YtbjfgdahfpfgdaaGreatDoor.SeeW Go.Proofs.YtbjfgdahfpfgdaaGreatDoor.PgP Go.Proofs.YtbjfgdahfpfgdaaGreatDoor.PgW
set_option linter.unusedVariables false
set_option maxRecDepth 100000

set_option maxHeartbeats 6400000 in
theorem kopen_w (Y : List Nat) (bs : List Addr) (lo b n c s d ep np : Nat) (C : Nat → List Nat) (m : Mp) (D : Dv) (I : Si) (S : St) (gs : List (List Kv)) (w : World) (h : LimM Y bs w lo b n c s d (PgOf (gs.map encG)) C ep np m D I S)
    (hg : ∀ g ∈ gs, (∀ p ∈ g, Kok p) ∧ (encG g).length ≤ 1000 ∧ g.length ≤ 1000 ∧ g ≠ []) (hd : (gs.flatten.map Prod.fst).Nodup) (hq : gs.length ≤ 250) (hf : gs.flatten.length ≤ 1000) (hn : n < 600000) (hc : c < 600000) (hnp : np < 800000) :
    Calls Tryz.prog 69 #[ptr s] w fun e w' => ∃ k l nk, e = .returned (.tuple #[ptr k, .nilIface]) ∧ KAt w' w.heap.size k l nk (Fof gs.flatten) gs.flatten.length ∧ Turn (I.p :: own I.d m) w w' := by
  have hmm := @run_makeMap Tryz.prog
  obtain ⟨W, hW⟩ : ∃ W, W = (w.alloc MO).alloc (.cells #[ptr s, .map (some w.heap.size), .map none, .slice none 0 0] 129) := ⟨_, rfl⟩
  have bW : Below w.heap.size w W := by rw [hW]; exact ((Below.refl _ w).alloc (Nat.le_refl _) MO).alloc (by simp) _
  have zW : w.heap.size ≤ W.heap.size := bW.size
  have hk : W.heap[w.heap.size + 1]? = some (.cells #[ptr s, .map (some w.heap.size), .map none, .slice none 0 0] 129) := by rw [hW]; exact alloc_at (by simp) _
  have hm : TextMap W w.heap.size w.heap.size 0 (fun _ => none) 0 := by
    have h0 := (TextMap.made w w.heap.size).below ((Below.refl _ _).alloc (Nat.le_refl _) (.cells #[ptr s, .map (some w.heap.size), .map none, .slice none 0 0] 129))
    rw [hW]; exact h0
  have hKO : KO W w.heap.size s (w.heap.size + 1) w.heap.size 0 (fun _ => none) 0 (.slice none 0 0) 0 [] := ⟨hk, ⟨by simp [World.cell?, hk], Nat.le_refl _, hm⟩, World.ownsRow_nil _ _ _ _, fun _ => rfl, fun u hu => by simp at hu, by omega⟩
  have hL := h.on bW
  have hp := hL.pagesO
  rw [there_of _ (by rw [List.length_map]; omega), List.length_range, List.length_map] at hp
  have hall := h.all_lt
  go_enter Tryz.func69, Tryz.ntmps69
  go_wp2_with fail
  rw [← hW]
  refine hp.mono ?_
  rintro e w1 ⟨⟨pa, pcap, rfl, hpo⟩, b1⟩
  have HR : Hid (KR Y bs w w1 lo b n c s d (PgOf (gs.map encG)) C ep np m I S (w.heap.size + 1) w.heap.size 0 (fun _ => none) 0 (.slice none 0 0) 0 [] pa gs.length pcap) := hid ⟨hKO.below b1, ⟨D, I.c, hL.on b1⟩, (Turn.of_below bW).then (Turn.of_below b1), own_mono hpo zW⟩
  have HL := hid h
  have HG := hid hg
  have HD := hid hd
  have HALL := hid hall
  have HLO := hid h.los
  obtain ⟨k, hk'⟩ : ∃ k, k = w.heap.size + 1 := ⟨_, rfl⟩
  obtain ⟨l, hl'⟩ : ∃ l, l = w.heap.size := ⟨_, rfl⟩
  clear hmm hW bW hk hm hKO hL hp hpo b1 h hg hd hall zW W
  go_wp2_with fail
  go_loopw [22] (fun i wr => ∃ (j nk : Nat) (pv : Value) (vs : List Value), j ≤ gs.length ∧ i = .int .i64 j ∧ nk ≤ (gs.take j).flatten.length ∧ KR Y bs w wr lo b (n + j) (c + j) s d (PgOf (gs.map encG)) C ep (np + j) m I S (w.heap.size + 1) w.heap.size nk (Fof (gs.take j).flatten) (gs.take j).flatten.length pv j vs pa gs.length pcap) (fun i _ => gs.length - (RowKit.intOf i).toNat)
  case atStart => exact ⟨0, 0, _, [], by omega, rfl, by omega, HR.out⟩
  case round =>
    obtain ⟨j, nk, pv, vs, hj, rfl, hnk, hR⟩ := hrel
    have HNK := hid hnk
    by_cases hlt : j < gs.length
    · obtain ⟨gk, gl40, gle, gne⟩ := HG.out _ (List.getElem_mem hlt)
      have hV : PgOf (gs.map encG) (j : Int) = some (encG gs[j]) := by rw [PgOf.at, List.getElem?_map, List.getElem?_eq_getElem hlt]; rfl
      have hrd := hR.read HALL.out (by omega) (by omega) (by omega) (p := j) (by omega) hV
      have HTK := hid (List.take_succ_eq_append_getElem hlt)
      obtain ⟨va, vc, e1, hrow⟩ := ownsRow_slice hR.pg
      cases e1
      obtain ⟨pb, po, rfl, hcell⟩ := hrow.2.2.2.2 j (.int .i64 (j : Int)) (by rw [nums_get (by rw [List.length_range]; exact hlt)]; simp)
      generalize gs[j] = g at gk gl40 gle gne hrd HTK
      have i1 : (0 : Int) ≤ (j : Int) := by omega
      have i2 : (j : Int) < (gs.length : Int) := by omega
      have HK := hid gk
      clear hR hrow hV gk
      go_wp2_with fail
      refine hrd.mono ?_
      rintro e w2 ⟨⟨ra, rc, rfl, hn2⟩, hR2⟩
      have hpa := pairs_w ra rc g w2 hn2 HK.out gl40 gle
      have HR2 := hid hR2
      have zz2 := hR2.ht.size
      have h0g := encG_pos gne
      clear hrd hn2 hR2
      go_wp2_with fail
      refine hpa.mono ?_
      rintro e w3 ⟨qa, qc, ws, rfl, hrow, hP, b3⟩
      have HR3 := hid (HR2.out.below b3)
      have HROW := hid hrow
      have HP := hid hP
      have z3 := b3.size
      clear hpa b3 hrow hP HR2
      go_wp2_with fail
      go_loopw [45] (fun i wr => ∃ (t nk : Nat), t ≤ g.length ∧ i = .int .i64 t ∧ nk ≤ ((gs.take j).flatten ++ g.take t).length ∧ KR Y bs w wr lo b (n + j + 1) (c + j + 1) s d (PgOf (gs.map encG)) C ep (np + j + 1) m I S (w.heap.size + 1) w.heap.size nk (Fof ((gs.take j).flatten ++ g.take t)) ((gs.take j).flatten ++ g.take t).length pv j vs (some ⟨pb, po, none⟩) gs.length pcap ∧ Row wr 2 qa g.length qc (pc ws) ∧ Prs w2.heap.size wr ws g) (fun i _ => g.length - (RowKit.intOf i).toNat)
      case atStart => exact ⟨0, nk, by omega, rfl, by simpa using HNK.out, by simpa using HR3.out, HROW.out, HP.out⟩
      case round =>
        obtain ⟨t, nk2, ht, rfl, hnk2, hR, hrow, hP⟩ := hrel
        have HNK2 := hid hnk2
        by_cases hlt2 : t < g.length
        · have hko := HK.out _ (List.getElem_mem hlt2)
          have hwl := hP.len
          obtain ⟨B1, B2, B3⟩ := hP.get t (by omega) hlt2
          obtain ⟨qb, qo, rfl, c1⟩ := hrow.2.2.2.2 (t * 2) _ (pc_get ws t (by omega)).1
          obtain ⟨qb', qo', e2, c2⟩ := hrow.2.2.2.2 (t * 2 + 1) _ (pc_get ws t (by omega)).2
          cases e2
          rw [show qo + (t * 2 + 1) = qo + t * 2 + 1 by omega] at c2
          have HTT := hid (List.take_succ_eq_append_getElem hlt2)
          obtain ⟨k1, k40, v1, v120⟩ := (⟨hko.k1, hko.k40, hko.v1, hko.v120⟩ : _ ∧ _ ∧ _ ∧ _)
          obtain ⟨g1, d1, E1, N1, L1⟩ := B1
          obtain ⟨g2, d2, E2, N2, L2⟩ := B2
          have F2 := B3 _ _ _ _ E2
          rw [E1] at c1
          rw [E2] at c2
          generalize g[t] = kv at c1 c2 N1 N2 L1 L2 k1 k40 v1 v120 HTT E1 E2
          obtain ⟨K, x⟩ := kv
          simp only at c1 c2 N1 N2 L1 L2 k1 k40 v1 v120 E1 E2
          have i3 : (0 : Int) ≤ (t : Int) := by omega
          have i4 : (t : Int) < (g.length : Int) := by omega
          have HR4 := hid hR
          have HN1 := hid N1
          have HM1 := hid (show 0 < (KeepP.nat K).length by rw [nat_length]; omega)
          have HN2 := hid N2
          have HRW := hid hrow
          have HP4 := hid hP
          clear hR hrow hP E1 E2 B3 hko hwl N1 N2 L1 L2
          go_wp2_with fail
          obtain ⟨W1, hW1⟩ : ∃ W1, W1 = wr.alloc (.cells #[.slice (some ⟨g1, 0, none⟩) (KeepP.nat K).length d1, .slice (some ⟨g2, 0, none⟩) x.length d2] 125) := ⟨_, rfl⟩
          have bA : Below wr.heap.size wr W1 := by rw [hW1]; exact (Below.refl _ wr).alloc (Nat.le_refl _) _
          have p0 : W1.cell? ⟨wr.heap.size, 0, none⟩ = some (.slice (some ⟨g1, 0, none⟩) (KeepP.nat K).length d1) := by rw [hW1, World.cell?_alloc_mark]; rfl
          have p1 : W1.cell? ⟨wr.heap.size, 1, none⟩ = some (.slice (some ⟨g2, 0, none⟩) x.length d2) := by rw [hW1, World.cell?_alloc_mark]; rfl
          have HR5 := hid (HR4.out.below bA)
          have m1 := HR5.out.ko.at_.c1
          have cv := fun nn => conv (Nums.below (Nums.below HN1.out bA) (below_drewN (Below.refl W1.heap.size W1) nn))
          simp only [of_nat] at cv
          have hlk := fun nn => TextMap.look_no (HR5.out.ko.at_.map.below (below_drewN (Below.refl W1.heap.size W1) nn)) k40 (Fof.none (fresh_key HD.out HTK.out HTT.out))
          have HBA := hid bA
          rw [← hW1]
          clear hW1 bA c1 c2
          go_quiet (fail)
          go_wp2_with fail
          have HSW := hid (fun nn => (⟨(HR5.out.below (below_drewN (Below.refl W1.heap.size W1) nn)).ko.at_.c1, kept (below_drewN (Below.refl W1.heap.size W1) nn) p0, kept (below_drewN (Below.refl W1.heap.size W1) nn) p1, cv nn⟩ : _ ∧ _ ∧ _ ∧ _))
          have hnk9 := HNK2.out
          have hnk8 := flat_le gs j
          have hnk7 : (g.take t).length ≤ g.length := by rw [List.length_take]; omega
          have HST := hid (fun nn => store (HR5.out.below (below_drewN (Below.refl W1.heap.size W1) nn)).ko.at_.map (by rw [List.length_append] at hnk9; omega) k40 (Nums.below (HN2.out.below HBA.out) (below_drewN (Below.refl W1.heap.size W1) nn)) (show w.heap.size ≤ g2 by omega) v1)
          clear m1 p0 p1 cv hlk hnk9 hnk8 hnk7
          --R17
          refine wp_region_held_drew (S := fun w' => w'.cell? ⟨w.heap.size + 1, 1, none⟩ = some (.map (some w.heap.size)) ∧ w'.cell? ⟨wr.heap.size, 0, none⟩ = some (.slice (some ⟨g1, 0, none⟩) (KeepP.nat K).length d1) ∧ w'.cell? ⟨wr.heap.size, 1, none⟩ = some (.slice (some ⟨g2, 0, none⟩) x.length d2) ∧ (convert 35 9 (.slice (some ⟨g1, 0, none⟩) (KeepP.nat K).length d1)).run Tryz.prog w' = .ok (.string ⟨K.toArray⟩) w') (by kernel_rfl) (by first | exact HSW.out (nq + 1) | exact HSW.out nq) (fun hHeld => ?_)
          refine wpAnyH_take (i := 0) (v := ptr (w.heap.size + 1)) (by simp only [List.getElem?_toArray, List.getElem?_cons_zero]; rfl) (by kernel_rfl) (by kernel_rfl) (by kernel_rfl) (by exact fun _ _ _ h => h) (Or.inl ⟨by rfl, ?_⟩) (by assumption) ?_
          · intro w hSw
            go_simp
          simp only [Act.put, List.setIfInBounds_toArray, List.set_cons_zero, List.set_cons_succ]
          refine wpAnyH_take (i := 1) (v := ptr (w.heap.size + 1)) (by simp only [List.getElem?_toArray, List.getElem?_cons_zero, List.getElem?_cons_succ]; rfl) (by kernel_rfl) (by kernel_rfl) (by kernel_rfl) (by exact fun _ _ _ h => h) (Or.inl ⟨by rfl, ?_⟩) (by assumption) ?_
          · intro w hSw
            go_simp
          simp only [Act.put, List.setIfInBounds_toArray, List.set_cons_zero, List.set_cons_succ]
          refine wpAnyH_take (i := 2) (v := .pointer (some ⟨w.heap.size + 1, 1, none⟩)) (by simp only [List.getElem?_toArray, List.getElem?_cons_zero, List.getElem?_cons_succ]; rfl) (by kernel_rfl) (by kernel_rfl) (by kernel_rfl) (by exact fun _ _ _ h => h) (Or.inl ⟨by rfl, ?_⟩) (by assumption) ?_
          · intro w hSw
            go_simp
          simp only [Act.put, List.setIfInBounds_toArray, List.set_cons_zero, List.set_cons_succ]
          refine wpAnyH_take (i := 3) (v := .map (some w.heap.size)) (by simp only [List.getElem?_toArray, List.getElem?_cons_zero, List.getElem?_cons_succ]; rfl) (by kernel_rfl) (by kernel_rfl) (by kernel_rfl) (by exact fun _ _ _ h => h) (Or.inl ⟨by rfl, ?_⟩) (by assumption) ?_
          · intro w hSw
            go_simp
          simp only [Act.put, List.setIfInBounds_toArray, List.set_cons_zero, List.set_cons_succ]
          refine wpAnyH_take (i := 4) (v := .pointer (some ⟨wr.heap.size, 0, none⟩)) (by simp only [List.getElem?_toArray, List.getElem?_cons_zero, List.getElem?_cons_succ]; rfl) (by kernel_rfl) (by kernel_rfl) (by kernel_rfl) (by exact fun _ _ _ h => h) (Or.inl ⟨by rfl, ?_⟩) (by assumption) ?_
          · intro w hSw
            go_simp
          simp only [Act.put, List.setIfInBounds_toArray, List.set_cons_zero, List.set_cons_succ]
          refine wpAnyH_take (i := 5) (v := .slice (some ⟨g1, 0, none⟩) (KeepP.nat K).length d1) (by simp only [List.getElem?_toArray, List.getElem?_cons_zero, List.getElem?_cons_succ]; rfl) (by kernel_rfl) (by kernel_rfl) (by kernel_rfl) (by exact fun _ _ _ h => h) (Or.inl ⟨by rfl, ?_⟩) (by assumption) ?_
          · intro w hSw
            go_simp
          simp only [Act.put, List.setIfInBounds_toArray, List.set_cons_zero, List.set_cons_succ]
          refine wpAnyH_take (i := 6) (v := .string ⟨K.toArray⟩) (by simp only [List.getElem?_toArray, List.getElem?_cons_zero, List.getElem?_cons_succ]; rfl) (by kernel_rfl) (by kernel_rfl) (by kernel_rfl) (by exact fun _ _ _ h => h) (Or.inl ⟨by rfl, ?_⟩) (by assumption) ?_
          · intro w hSw
            go_simp
          simp only [Act.put, List.setIfInBounds_toArray, List.set_cons_zero, List.set_cons_succ]
          refine wpAnyH_take (i := 7) (v := .pointer (some ⟨wr.heap.size, 1, none⟩)) (by simp only [List.getElem?_toArray, List.getElem?_cons_zero, List.getElem?_cons_succ]; rfl) (by kernel_rfl) (by kernel_rfl) (by kernel_rfl) (by exact fun _ _ _ h => h) (Or.inl ⟨by rfl, ?_⟩) (by assumption) ?_
          · intro w hSw
            go_simp
          simp only [Act.put, List.setIfInBounds_toArray, List.set_cons_zero, List.set_cons_succ]
          refine wpAnyH_take (i := 8) (v := .slice (some ⟨g2, 0, none⟩) x.length d2) (by simp only [List.getElem?_toArray, List.getElem?_cons_zero, List.getElem?_cons_succ]; rfl) (by kernel_rfl) (by kernel_rfl) (by kernel_rfl) (by exact fun _ _ _ h => h) (Or.inl ⟨by rfl, ?_⟩) (by assumption) ?_
          · intro w hSw
            go_simp
          simp only [Act.put, List.setIfInBounds_toArray, List.set_cons_zero, List.set_cons_succ]
          refine wpAnyH_ready (rs := [9]) (by kernel_rfl) (by simp) ?_
          refine AllReadyH.cons (by simp only [List.getElem?_toArray, List.getElem?_cons_zero, List.getElem?_cons_succ]; rfl) (fun K0 hK => ?_) AllReadyH.nil
          obtain ⟨w5, hrun, hmap, hg5⟩ := HST.out (nq + 1)
          go_simp
          have HMAP := hid hmap
          have HG5 := hid hg5
          clear hmap hg5 hrun
          have HSE := hid (held5 (HR5.out.below (below_drewN (Below.refl W1.heap.size W1) (nq + 1))).ko HG5.out (Nums.below (Nums.below HN1.out HBA.out) (below_drewN (Below.refl W1.heap.size W1) (nq + 1))) HM1.out (HSW.out (nq + 1)) HMAP.out)
          refine hK.out _ _ HSE.out (fun hHeld => ?_)
          clear hK K0
          refine wpAnyH_done (by kernel_rfl) ?_ _
          --R17E
          have hfk := Fof.none (fresh_key HD.out HTK.out HTT.out)
          have hKS := (HR5.out.below (below_drewN (Below.refl W1.heap.size W1) (nq + 1))).store HALL.out (Nat.le_refl _) HLO.out HMAP.out HG5.out
          rw [hfk] at hKS
          have eF : updS (Fof ((gs.take j).flatten ++ g.take t)) K (some x) = Fof ((gs.take j).flatten ++ g.take (t + 1)) := by rw [HTT.out, ← List.append_assoc, Fof.snoc]
          have eL : ((gs.take j).flatten ++ g.take t).length + 1 = ((gs.take j).flatten ++ g.take (t + 1)).length := by rw [HTT.out, ← List.append_assoc]; simp [Nat.add_assoc]
          rw [if_neg (by simp), eF, eL] at hKS
          have HKS := hid hKS
          have hmb := (HR5.out.below (below_drewN (Below.refl W1.heap.size W1) (nq + 1))).ko.at_.map.block
          have bD := below_drewN (Below.refl W1.heap.size W1) (nq + 1)
          have HRW5 := hid (row_grown ((Row.below HRW.out HBA.out).below bD) (by rw [HRW.out.1]; omega) hmb HG5.out)
          have HP5 := hid ((((HP4.out.below HBA.out).below bD)).imp fun v l hb => Bt.grown hmb HG5.out hb)
          have HNL := hid (show nk2 + 1 ≤ ((gs.take j).flatten ++ g.take (t + 1)).length by rw [← eL]; exact Nat.succ_le_succ HNK2.out)
          clear hfk hKS eF eL hmb bD
          go_wp2_with fail
          go_roundw
          case rel => exact ⟨t + 1, nk2 + 1, by omega, by go_num, HNL.out, HKS.out, HRW5.out, HP5.out⟩
          case measure => simp [RowKit.intOf]; omega
        · obtain rfl : t = g.length := by omega
          have HKR := hid hR
          have hcells := hR.ko.cells
          have hlt2 := hR.ko.lt
          obtain ⟨pva, pvc, e1, hpr⟩ := ownsRow_slice hR.ko.own
          subst e1
          have hb1 := hpr.2.1
          have hb2 : pvc ≤ 9223372036854775807 := hpr.2.2.1
          have m3 : wr.cell? ⟨w.heap.size + 1, 3, none⟩ = some (.slice pva j pvc) := by simp [World.cell?, hcells]
          have hwz : w.heap.size ≤ wr.heap.size := by omega
          clear hR hcells hlt2 hpr hrow hP
          go_wp2_with fail
          go_loopw [] (fun wx => wx = wr) (fun _ => 0)
          case atStart => rfl
          case round =>
            subst hrel
            go_wp2_with (at_builtin; go_must (refine wpList_push elRow rfl _ _ rfl w.heap.size _ _ _ rfl (HKR.out.ko.own.alloc _) wr.heap.size (.slice ra (encG g).length rc) rfl (by simp) rfl (by unfold maxLen; omega) (by omega) (by simp; omega) ?_); intro ov3 w3 o3 hb3 hg3; obtain ⟨oa3, oc3, e3, _⟩ := ownsRow_slice o3; subst e3; obtain ⟨ob3, e3⟩ := own_some o3 (by omega); subst e3; have ek3 := ((HKR.out.ko.below ((Below.refl wr.heap.size wr).alloc (Nat.le_refl _) _)).grow hg3).1; have c33 : w3.cell? ⟨w.heap.size + 1, 3, none⟩ = some (.slice pva j pvc) := (by simp [World.cell?, ek3]); have f33 : w3.frozen? ⟨w.heap.size + 1, 3, none⟩ = false := (by simp [World.frozen?, ek3]))
            have hF := HKR.out.push HALL.out HLO.out hg3 o3 (fun e => by simp at e) (fun u hu z => by
              rcases List.mem_append.1 hu with hu | hu
              · exact HKR.out.ko.nou u hu z
              · have e1 := List.mem_singleton.1 hu
                subst e1
                exact fun e => by cases e)
            have eT : (gs.take (j + 1)).flatten = (gs.take j).flatten ++ g.take g.length := by rw [HTK.out, List.flatten_append, List.take_length]; simp
            rw [← eT] at hF
            have HF := hid hF
            have HNL := hid (show nk2 ≤ (gs.take (j + 1)).flatten.length by rw [eT]; exact HNK2.out)
            clear hF eT o3 hb3 hg3 ek3
            go_wp2_with fail
            go_roundw
            case rel => exact ⟨j + 1, nk2, _, _, by omega, by go_num, HNL.out, HF.out⟩
            case measure => simp [RowKit.intOf]; omega
    · obtain rfl : j = gs.length := by omega
      rw [List.take_length] at hR
      have HKR := hid hR
      obtain ⟨es, ck, hm⟩ := hR.ko.at_.map.block
      have hk1 := hR.ko.cells
      have hkc : wr.cell? ⟨w.heap.size + 1, 1, none⟩ = some (.map (some w.heap.size)) := by simp [World.cell?, hk1]
      have kf1 : wr.cell? ⟨w.heap.size + 1, 2, none⟩ = some (.map none) := by simp [World.cell?, hk1]
      have kf2 : wr.frozen? ⟨w.heap.size + 1, 2, none⟩ = false := by simp [World.frozen?, hk1]
      have hlt3 := hR.ko.lt
      clear hR
      go_wp2_with fail
      refine (cloneTexts_w _ _ _ _ hm).mono ?_
      rintro e w2 ⟨rfl, rfl⟩
      obtain ⟨X, hX⟩ : ∃ X, X = (wr.setCell ⟨w.heap.size + 1, 2, none⟩ (.map (some wr.heap.size))).alloc (.map es ck) := ⟨_, rfl⟩
      have ht : Turn [w.heap.size + 1] wr (wr.setCell ⟨w.heap.size + 1, 2, none⟩ (.map (some wr.heap.size))) := Turn.setCell wr _ 2 _ (by simp)
      have bA := (Below.refl (wr.setCell ⟨w.heap.size + 1, 2, none⟩ (.map (some wr.heap.size))).heap.size (wr.setCell ⟨w.heap.size + 1, 2, none⟩ (.map (some wr.heap.size)))).alloc (Nat.le_refl _) (.map es ck)
      have hF : KAt X w.heap.size (w.heap.size + 1) w.heap.size nk (Fof gs.flatten) gs.flatten.length := by
        rw [hX]
        refine KAt.below ⟨?_, Nat.le_refl _, HKR.out.ko.at_.map.keep (heap_setCell_other _ ⟨w.heap.size + 1, 2, none⟩ _ _ (by simp)) ?_⟩ bA
        · simp [World.cell?, World.setCell, Array.getElem?_modify, hk1]
        · intro g hg hc hz
          refine heap_setCell_other _ ⟨w.heap.size + 1, 2, none⟩ _ _ ?_
          rintro rfl
          obtain ⟨z, hz⟩ := hz
          simp [World.cell?, hk1] at hz
      have HFF := hid hF
      have HTT := hid (show Turn (I.p :: own I.d m) w X by
        rw [hX]
        exact (HKR.out.ht.trans ht fun x hx => .inr (by rw [List.mem_singleton.1 hx]; omega)).then (Turn.of_below bA))
      clear hF bA ht hm hk1
      go_wp2
      rw [← hX]
      exact bodyPost_ret (v := .tuple #[ptr (w.heap.size + 1), .nilIface]) (by simp [results, Tryz.results69, go_sem]) rfl ⟨_, _, _, rfl, HFF.out, HTT.out⟩
end Go.Proofs.YtbjfgdahfpfgdaaGreatDoor.KeepW

namespace Go.Proofs.YtbjfgdahfpfgdaaGreatDoor.KeepW
open Go Go.RowKit Go.Maps Go.Proofs.YtbjfgdahfpfgdaaGreatDoor.Mem Go.Proofs.YtbjfgdahfpfgdaaGreatDoor.MapsW Go.Proofs.YtbjfgdahfpfgdaaGreatDoor.DevG Go.Proofs.YtbjfgdahfpfgdaaGreatDoor.Text Go.Proofs.YtbjfgdahfpfgdaaGreatDoor.KeepP
set_option linter.unusedVariables false
set_option maxRecDepth 100000

/-- which keys are told -/
def sel (f t : List UInt8) (s : List UInt8) : Bool := !decide (s < f) && (decide (t = []) || decide (s < t))
theorem filter_take {α : Type} (p : α → Bool) (l : List α) (j : Nat) (h : j < l.length) : (l.take (j + 1)).filter p = (l.take j).filter p ++ (if p l[j] = true then [l[j]] else []) := by
  rw [List.take_succ_eq_append_getElem h, List.filter_append]
  congr 1
  by_cases hp : p l[j] = true
  · simp [hp]
  · simp [hp]
set_option maxHeartbeats 3200000 in
theorem scan_w (base k l n np : Nat) (F : List UInt8 → Option (List Nat)) (fa : Option Addr) (fc : Nat) (f : List UInt8) (ta : Option Addr) (tc : Nat) (t : List UInt8) (w : World) (h : KAt w base k l n F np) (hnp : np ≤ 1000) (hF0 : ∀ s x, F s = some x → 0 < s.length ∧ x.length ≤ 1000)
    (hf : Nums .u8 w fa f.length fc (KeepP.nat f)) (ht : Nums .u8 w ta t.length tc (KeepP.nat t)) :
    Calls Tryz.prog 65 #[ptr k, .slice fa f.length fc, .slice ta t.length tc] w fun e w' => ∃ (a : Option Addr) (cap : Nat) (ks : List (List UInt8)) (vs : List (Value × Value)), e = .returned (.slice a (ks.filter (sel f t)).length cap) ∧ SKeys F ks ∧ ks.length = np ∧
      Row w' 2 a (ks.filter (sel f t)).length cap (pc vs) ∧ Pt w' F vs (ks.filter (sel f t)) ∧ Below w.heap.size w w' := by
  go_enter Tryz.func65, Tryz.ntmps65
  go_wp2_with fail
  refine (keys_w base k l n np F w h (by omega)).mono ?_
  rintro e w1 ⟨a, cap, ks, rfl, hK, hkl, hR, b1⟩
  have HK := hid hK
  have HR := hid hR
  have HA := hid (h.below b1)
  have Hf := hid (hf.below b1)
  have Ht := hid (ht.below b1)
  have Hb := hid b1
  have hb40 := hR.2.1
  have hb41 := hR.2.2.1
  unfold maxLen at hb41
  clear h hf ht hK hR b1
  go_wp2_with fail
  go_loopw [7, 13] (fun v i wr => ∃ (j : Nat) (vs : List (Value × Value)), j ≤ ks.length ∧ i = .int .i64 j ∧ wr.ownsRow w1.heap.size 125 2 v ((ks.take j).filter (sel f t)).length (pc vs) ∧ (vs = [] → v = .slice none 0 0) ∧ Pt wr F vs ((ks.take j).filter (sel f t)) ∧ Below w1.heap.size w1 wr) (fun _ i _ => ks.length - (RowKit.intOf i).toNat)
  case atStart => exact ⟨0, [], by omega, rfl, World.ownsRow_nil _ _ _ _, fun _ => rfl, trivial, Below.refl _ _⟩
  case round =>
    obtain ⟨j, vs, hj, rfl, hown, h0, hP, hB⟩ := hrel
    by_cases hlt : j < ks.length
    · have KA := HA.out.below hB
      have c1 := KA.c1
      have hcf : (convert 35 9 (.slice fa f.length fc)).run Tryz.prog wr = .ok (.string ⟨f.toArray⟩) wr := by have := conv (Hf.out.below hB); rw [of_nat] at this; exact this
      have hct : (convert 35 9 (.slice ta t.length tc)).run Tryz.prog wr = .ok (.string ⟨t.toArray⟩) wr := by have := conv (Ht.out.below hB); rw [of_nat] at this; exact this
      obtain ⟨b, off, rfl, hc⟩ := (Row.below HR.out hB).2.2.2.2 j (encStr ks[j]) (by simp [hlt])
      have hmem : ks[j] ∈ ks := List.getElem_mem hlt
      have HF := hid (filter_take (sel f t) ks j hlt)
      have hfl : ((ks.take j).filter (sel f t)).length ≤ 1000 := Nat.le_trans (List.length_filter_le _ _) (by rw [List.length_take]; omega)
      have hsl := HK.out.fit _ hmem
      obtain ⟨xl, hFs⟩ := Option.isSome_iff_exists.1 ((HK.out.mem _).1 hmem)
      obtain ⟨hs0, hx1⟩ := hF0 _ _ hFs
      have i1 : (0 : Int) ≤ (j : Int) := by omega
      have i2 : (j : Int) < (ks.length : Int) := by omega
      generalize ks[j] = s at hc HF hsl hFs hs0
      have hc' : wr.cell? ⟨b, off + j, none⟩ = some (.string ⟨s.toArray⟩) := hc
      have hsz : (ByteArray.mk s.toArray).size ≤ maxLen := by show s.toArray.size ≤ maxLen; rw [List.size_toArray]; exact hsl
      have hlf := less_lt s f
      have hlt' := less_lt s t
      clear hc hmem
      cases h1 : decide (s < f)
      · rw [h1] at hlf
        by_cases ht0 : t = []
        · have hsel : sel f t s = true := by simp [sel, h1, ht0]
          rw [if_pos hsel] at HF
          have d0 : (((t.length : Nat) : Int) == 0) = true := by rw [ht0]; rfl
          clear ht0
          obtain ⟨bc, W1, hrun, hn1, hb1, hz1⟩ := bytes_run s hsl wr
          have KA1 := KA.below hb1
          have c1' := KA1.c1
          obtain ⟨gl, cl, hlook, hnl, hgl, hl0⟩ := KA1.map.look_some (s := ⟨s.toArray⟩) hsz (l := xl) hFs
          have hown1 := ownsRow_below hown hb1
          have hP1 := hP.below hb1
          have bt1 : Bt W1 (.slice (some ⟨wr.heap.size, 0, none⟩) s.length bc) (KeepP.nat s) := ⟨_, _, by rw [KeepP.nat, List.length_map], by rw [KeepP.nat, List.length_map]; exact hn1, by rw [KeepP.nat, List.length_map]; exact hs0⟩
          have hz := hB.size
          clear hown hP hn1 KA KA1
          go_wp2_with (first
            | (go_at_call 48; go_loud (refine (RefW.clone_w _ xl.length cl xl _ hnl (by omega)).mono ?_; rintro e W2 ⟨y, rfl, own3, hb2⟩; obtain ⟨gy, cy, rfl, hny, hgy⟩ := row1 own3 hl0; have hown2 := ownsRow_below hown1 hb2; have hP2 := hP1.below hb2; have bt2 := bt1.below hb2; have bty : Bt W2 (.slice (some ⟨gy, 0, none⟩) xl.length cy) xl := ⟨_, _, rfl, hny, hl0⟩; have z2 := hb2.size; have zz : w1.heap.size ≤ W2.heap.size := (by omega); clear hown1 hP1 bt1 hny own3 hlook hnl))
            | (at_builtin; go_must (refine wpList_app elPair rfl _ _ rfl w1.heap.size _ _ (pc vs) rfl (ownsRow_below hown2 ((Below.refl _ W2).alloc (Nat.le_refl _) _)) (some ⟨W2.heap.size, 0, none⟩) 1 1 [_, _] rfl (Row.fresh2 W2 _ _ _) (oneCell2 rfl rfl) (by unfold maxLen; omega) (by omega) (by simp; omega) ?_); intro v' W3 hown3 hb3 hg3))
          have bA := (Below.refl W2.heap.size W2).alloc (Nat.le_refl _) (.cells #[.slice (some ⟨wr.heap.size, 0, none⟩) s.length bc, .slice (some ⟨gy, 0, none⟩) xl.length cy] 125)
          have hownA := ownsRow_below hown2 bA
          have hPA := hP2.below bA
          have hlenv : vs.length = ((ks.take j).filter (sel f t)).length := hP2.len
          have im : ∀ x l', Bt _ x l' → Bt W3 x l' := fun x l' hx => Bt.away hownA hPA h0 hlenv.symm hg3 hx
          have hP3 := Pt.snoc (im _ _ (bt2.below bA)) hFs (im _ _ (bty.below bA)) (hPA.imp im)
          rw [show pc vs ++ [Value.slice (some ⟨wr.heap.size, 0, none⟩) s.length bc, Value.slice (some ⟨gy, 0, none⟩) xl.length cy] = pc (vs ++ [(Value.slice (some ⟨wr.heap.size, 0, none⟩) s.length bc, Value.slice (some ⟨gy, 0, none⟩) xl.length cy)]) by rw [pc_append]; rfl] at hown3
          have hB3 : Below w1.heap.size w1 W3 := ((hB.trans (hb1.mono hz)).trans (hb2.mono (by omega))).trans ((bA.mono zz).trans hb3)
          clear hown2 hP2 hownA hPA bt2 bty im bA hg3 hb3 hb2 hb1
          go_wp2_with fail
          go_roundw
          case rel => exact ⟨j + 1, vs ++ [(Value.slice (some ⟨wr.heap.size, 0, none⟩) s.length bc, Value.slice (some ⟨gy, 0, none⟩) xl.length cy)], by omega, by go_num, by rw [HF.out, List.length_append]; exact hown3, fun e => by simp at e, by rw [HF.out]; exact hP3, hB3⟩
          case measure => simp [RowKit.intOf]; omega
        · have d0 : (((t.length : Nat) : Int) == 0) = false := by rw [beq_eq_false_iff_ne]; intro e; exact ht0 (List.eq_nil_of_length_eq_zero (by omega))
          cases h2 : decide (s < t)
          · rw [h2] at hlt'
            have hsel : ¬ sel f t s = true := by simp [sel, h1, h2, ht0]
            rw [if_neg hsel, List.append_nil] at HF
            go_wp2_with fail
            go_roundw
            case rel => exact ⟨j + 1, vs, by omega, by go_num, by rw [HF.out]; exact hown, h0, by rw [HF.out]; exact hP, hB⟩
            case measure => simp [RowKit.intOf]; omega
          · rw [h2] at hlt'
            have hsel : sel f t s = true := by simp [sel, h1, h2]
            rw [if_pos hsel] at HF
            obtain ⟨bc, W1, hrun, hn1, hb1, hz1⟩ := bytes_run s hsl wr
            have KA1 := KA.below hb1
            have c1' := KA1.c1
            obtain ⟨gl, cl, hlook, hnl, hgl, hl0⟩ := KA1.map.look_some (s := ⟨s.toArray⟩) hsz (l := xl) hFs
            have hown1 := ownsRow_below hown hb1
            have hP1 := hP.below hb1
            have bt1 : Bt W1 (.slice (some ⟨wr.heap.size, 0, none⟩) s.length bc) (KeepP.nat s) := ⟨_, _, by rw [KeepP.nat, List.length_map], by rw [KeepP.nat, List.length_map]; exact hn1, by rw [KeepP.nat, List.length_map]; exact hs0⟩
            have hz := hB.size
            clear hown hP hn1 KA KA1
            go_wp2_with (first
              | (go_at_call 48; go_loud (refine (RefW.clone_w _ xl.length cl xl _ hnl (by omega)).mono ?_; rintro e W2 ⟨y, rfl, own3, hb2⟩; obtain ⟨gy, cy, rfl, hny, hgy⟩ := row1 own3 hl0; have hown2 := ownsRow_below hown1 hb2; have hP2 := hP1.below hb2; have bt2 := bt1.below hb2; have bty : Bt W2 (.slice (some ⟨gy, 0, none⟩) xl.length cy) xl := ⟨_, _, rfl, hny, hl0⟩; have z2 := hb2.size; have zz : w1.heap.size ≤ W2.heap.size := (by omega); clear hown1 hP1 bt1 hny own3 hlook hnl))
              | (at_builtin; go_must (refine wpList_app elPair rfl _ _ rfl w1.heap.size _ _ (pc vs) rfl (ownsRow_below hown2 ((Below.refl _ W2).alloc (Nat.le_refl _) _)) (some ⟨W2.heap.size, 0, none⟩) 1 1 [_, _] rfl (Row.fresh2 W2 _ _ _) (oneCell2 rfl rfl) (by unfold maxLen; omega) (by omega) (by simp; omega) ?_); intro v' W3 hown3 hb3 hg3))
            have bA := (Below.refl W2.heap.size W2).alloc (Nat.le_refl _) (.cells #[.slice (some ⟨wr.heap.size, 0, none⟩) s.length bc, .slice (some ⟨gy, 0, none⟩) xl.length cy] 125)
            have hownA := ownsRow_below hown2 bA
            have hPA := hP2.below bA
            have hlenv : vs.length = ((ks.take j).filter (sel f t)).length := hP2.len
            have im : ∀ x l', Bt _ x l' → Bt W3 x l' := fun x l' hx => Bt.away hownA hPA h0 hlenv.symm hg3 hx
            have hP3 := Pt.snoc (im _ _ (bt2.below bA)) hFs (im _ _ (bty.below bA)) (hPA.imp im)
            rw [show pc vs ++ [Value.slice (some ⟨wr.heap.size, 0, none⟩) s.length bc, Value.slice (some ⟨gy, 0, none⟩) xl.length cy] = pc (vs ++ [(Value.slice (some ⟨wr.heap.size, 0, none⟩) s.length bc, Value.slice (some ⟨gy, 0, none⟩) xl.length cy)]) by rw [pc_append]; rfl] at hown3
            have hB3 : Below w1.heap.size w1 W3 := ((hB.trans (hb1.mono hz)).trans (hb2.mono (by omega))).trans ((bA.mono zz).trans hb3)
            clear hown2 hP2 hownA hPA bt2 bty im bA hg3 hb3 hb2 hb1
            go_wp2_with fail
            go_roundw
            case rel => exact ⟨j + 1, vs ++ [(Value.slice (some ⟨wr.heap.size, 0, none⟩) s.length bc, Value.slice (some ⟨gy, 0, none⟩) xl.length cy)], by omega, by go_num, by rw [HF.out, List.length_append]; exact hown3, fun e => by simp at e, by rw [HF.out]; exact hP3, hB3⟩
            case measure => simp [RowKit.intOf]; omega
      · rw [h1] at hlf
        have hsel : ¬ sel f t s = true := by simp [sel, h1]
        rw [if_neg hsel, List.append_nil] at HF
        go_wp2_with fail
        go_roundw
        case rel => exact ⟨j + 1, vs, by omega, by go_num, by rw [HF.out]; exact hown, h0, by rw [HF.out]; exact hP, hB⟩
        case measure => simp [RowKit.intOf]; omega
    · obtain rfl : j = ks.length := by omega
      rw [List.take_length] at hown hP
      obtain ⟨va, vc, rfl, hr⟩ := ownsRow_slice hown
      have HO := hid (And.intro hr hP)
      clear hown hP
      go_wp2_with fail
      go_ret
      exact ⟨_, _, ks, vs, rfl, HK.out, hkl, HO.out.1, HO.out.2, Hb.out.trans (hB.mono Hb.out.size)⟩
end Go.Proofs.YtbjfgdahfpfgdaaGreatDoor.KeepW

namespace Go.Proofs.YtbjfgdahfpfgdaaGreatDoor.KeepW
open Go Go.RowKit Go.Maps Go.Proofs.YtbjfgdahfpfgdaaGreatDoor.Mem Go.Proofs.YtbjfgdahfpfgdaaGreatDoor.MapsW Go.Proofs.YtbjfgdahfpfgdaaGreatDoor.DevG Go.Proofs.YtbjfgdahfpfgdaaGreatDoor.Text Go.Proofs.YtbjfgdahfpfgdaaGreatDoor.KeepP Go.Proofs.YtbjfgdahfpfgdaaGreatDoor.PageW Go.Proofs.YtbjfgdahfpfgdaaGreatDoor.RootW Go.Proofs.YtbjfgdahfpfgdaaGreatDoor.RootP
set_option linter.unusedVariables false
set_option maxRecDepth 100000

theorem new_best (b : Nat) : bestOf (Dv.new b) (GeoW.half b) = ⟨0, []⟩ := best_none fun s _ => by
  unfold oneOf
  rw [Dv.new_read]
  exact parse_zeros
theorem KAt.mono {w : World} {base base' k l n : Nat} {F : List UInt8 → Option (List Nat)} {np : Nat} (h : KAt w base k l n F np) (hb : base' ≤ base) : KAt w base' k l n F np :=
  ⟨h.c1, Nat.le_trans hb h.bl, h.map.mono (Nat.le_refl _) hb⟩
set_option maxHeartbeats 800000 in
theorem reopened_w (bs : List Addr) (lo d n : Nat) (m : Mp) (D : Dv) (w : World) (k : At w lo d n m D) (hB : Ev w lo bs six) (h1 : 300 ≤ D.blocks) (h2 : D.blocks ≤ 6000) (hlo : lo ≤ w.heap.size) (hu : D.down = false) (hz : D.fuse = 0) (hbt : ∀ i l, D.read i = some l → Crc.Bytes l)
    (hb : bestOf D (GeoW.half D.blocks) = ⟨0, []⟩) :
    Calls Tryz.prog 36 #[ptr d] w fun e w' => ∃ q l, e = .returned (ptr q) ∧ KAt w' w.heap.size q l 0 (fun _ => none) 0 ∧ Below w.heap.size w w' := by
  go_enter Tryz.func36, Tryz.ntmps36
  go_wp2_with fail
  refine (page_w bs lo d n m D _ k hB h1 h2 hlo hu hz hbt hb).mono ?_
  rintro e w1 ⟨s, a, o, rfl, hF, b1⟩
  have hco := copen_w s a o w1 hF
  have z1 := b1.size
  clear k hB hF
  go_wp2_with fail
  refine hco.mono ?_
  rintro e w2 ⟨q, l, rfl, hK, b2⟩
  have HK := hid (And.intro (hK.mono z1) (b1.trans (b2.mono z1)))
  clear hco hK b1 b2
  go_wp2_with fail
  go_ret
  exact ⟨_, _, rfl, HK.out.1, HK.out.2⟩
set_option maxHeartbeats 800000 in
theorem opened_w (bs : List Addr) (w : World) (hB : Ev w w.heap.size bs six) :
    Calls Tryz.prog 33 #[.int .i64 1500] w fun e w' => ∃ q d l, e = .returned (.tuple #[ptr q, ptr d]) ∧ KAt w' w.heap.size q l 0 (fun _ => none) 0 ∧ Below w.heap.size w w' := by
  go_enter Tryz.func33, Tryz.ntmps33
  go_wp2_with fail
  refine (new_w 1500 _ (by omega) (by omega)).mono ?_
  rintro e w1 ⟨rfl, h1, b1, z1⟩
  have hr := reopened_w bs _ _ _ _ _ w1 h1 (hB.below b1) (by decide) (by decide) (by omega) rfl rfl (Dv.Idle.new 1500).bytes (new_best 1500)
  clear h1 hB
  go_wp2_with fail
  refine hr.mono ?_
  rintro e w2 ⟨q, l, rfl, hK, b2⟩
  have zz : w.heap.size ≤ w1.heap.size := by omega
  have HK := hid (And.intro (hK.mono zz) (b1.trans (b2.mono zz)))
  clear hr hK b1 b2
  go_wp2_with fail
  exact bodyPost_ret (v := .tuple #[ptr q, ptr (w.heap.size + 5)]) (by simp [results, Tryz.results33, go_sem]) rfl ⟨_, _, _, rfl, HK.out.1, HK.out.2⟩
/-- where F has a row, it is of a key of a byte and more, and short -/
def Small (F : List UInt8 → Option (List Nat)) : Prop := ∀ s x, F s = some x → 0 < s.length ∧ x.length ≤ 1000
theorem Small.upd {F : List UInt8 → Option (List Nat)} (h : Small F) {K : List UInt8} {l : List Nat} (hK : 1 ≤ K.length) (hl : l.length ≤ 120) : Small (updS F K (some l)) := by
  intro s x hx
  by_cases hs : s = K
  · subst hs
    rw [updS_same] at hx
    cases hx
    omega
  · rw [updS_other _ _ hs] at hx
    exact h s x hx
theorem Small.none : Small (fun _ => Option.none) := fun s x h => by cases h
/-- the first example's map -/
abbrev F1 : List UInt8 → Option (List Nat) := updS (updS (fun _ => none) [98] (some [49])) [97] (some [50])
theorem keys1 {ks : List (List UInt8)} (h : SKeys F1 ks) : ks = [[97], [98]] := by
  have hm : ∀ i, i ∈ ks ↔ i ∈ [[97], [98]] := fun i => by
    rw [h.mem i]
    by_cases h1 : i = [97]
    · subst h1; simp [updS]
    · by_cases h2 : i = [98]
      · subst h2; simp [updS]
      · simp [updS, h1, h2]
  have hp : ([[97], [98]] : List (List UInt8)).Pairwise (· < ·) := by decide
  refine List.Perm.eq_of_pairwise (le := fun a b => a < b) (fun a b _ _ h1 h2 => absurd h2 (List.lt_asymm h1)) h.rise hp ?_
  refine (List.perm_ext_iff_of_nodup ?_ (by decide)).2 hm
  exact h.rise.imp fun {a b} hlt e => by subst e; exact List.lt_irrefl _ hlt
/-- a byte's block, marked -/
abbrev mk1 (x : Int) : Obj := .cells #[.int .u8 x] 5 (1, 2)
theorem conv1 (w : World) (x : Int) (g : Nat) (hg : g = w.heap.size) : (convert 35 35 (.slice (some ⟨g, 0, none⟩) 1 1)).run Tryz.prog (w.alloc (.cells #[.int .u8 x] 5)) = .ok (.slice (some ⟨g, 0, none⟩) 1 1) (w.alloc (mk1 x)) :=
  Joins.run_convert_bytes_const_at w 35 5 #[.int .u8 x] 1 1 g hg Tryz.underlying35 Tryz.underlying5
theorem buf1m (w : World) (x : Nat) : Nums .u8 (w.alloc (mk1 (x : Int))) (some ⟨w.heap.size, 0, none⟩) 1 1 [x] := by
  refine ⟨rfl, Nat.le_refl _, by decide, (fun e => nomatch e), fun j u hj => ⟨_, _, rfl, ?_⟩⟩
  cases j with
  | zero => cases hj; rw [World.cell?, heap_alloc_new]; rfl
  | succ j => simp [nums] at hj
theorem buf2 (w : World) (x y : Nat) : Nums .u8 ((w.alloc (mk1 (x : Int))).alloc (mk1 (y : Int))) (some ⟨w.heap.size, 0, none⟩) 1 1 [x] ∧
    Nums .u8 ((w.alloc (mk1 (x : Int))).alloc (mk1 (y : Int))) (some ⟨w.heap.size + 1, 0, none⟩) 1 1 [y] ∧ Below w.heap.size w ((w.alloc (mk1 (x : Int))).alloc (mk1 (y : Int))) := by
  refine ⟨(buf1m w x).below ((Below.refl _ _).alloc (Nat.le_refl _) _), ?_, ((Below.refl _ w).alloc (Nat.le_refl _) _).alloc (by simp) _⟩
  have := buf1m (w.alloc (mk1 (x : Int))) y
  rw [show (w.alloc (mk1 (x : Int))).heap.size = w.heap.size + 1 by simp] at this
  exact this
set_option maxHeartbeats 3200000 in
theorem first_w (bs : List Addr) (w : World) (hB : Ev w w.heap.size bs six) : Calls Tryz.prog 32 #[] w fun e w' => e = .returned (.bool true) ∧ Below w.heap.size w w' := by
  go_enter Tryz.func32, Tryz.ntmps32
  go_wp2_with fail
  refine (opened_w bs w hB).mono ?_
  rintro e w1 ⟨q, d, l, rfl, K1, b1⟩
  obtain ⟨n1, n2, n3⟩ := buf2 w1 98 49
  have e1 := conv1 w1 98 _ rfl
  have e2 := conv1 (w1.alloc (mk1 98)) 49 (w1.heap.size + 1) (by simp)
  clear hB
  go_wp2_with fail
  refine (put_w _ q l 0 _ 0 w1.heap.size 1 [98] (some ⟨w1.heap.size + 1, 0, none⟩) 1 [49] _ (K1.below n3) n1 (by decide) (by decide) n2 (by decide) (by decide) (by decide)).mono ?_
  rintro e w2 ⟨rfl, K2, t2⟩
  have B2 := (b1.trans (n3.mono b1.size)).trans (t2.below (lo := w.heap.size) (by have := b1.size; have := n3.size; omega) (by simpa using K1.bl))
  obtain ⟨m1, m2, m3⟩ := buf2 w2 97 50
  clear n1 n2 n3 K1 b1 t2 e1 e2
  have e1 := conv1 w2 97 _ rfl
  have e2 := conv1 (w2.alloc (mk1 97)) 50 (w2.heap.size + 1) (by simp)
  go_wp2_with fail
  refine (put_w _ q l 1 _ 1 w2.heap.size 1 [97] (some ⟨w2.heap.size + 1, 0, none⟩) 1 [50] _ (K2.below m3) m1 (by decide) (by decide) m2 (by decide) (by decide) (by decide)).mono ?_
  rintro e w3 ⟨rfl, K3, t3⟩
  have B3 := (B2.trans (m3.mono B2.size)).trans (t3.below (lo := w.heap.size) (by have := B2.size; have := m3.size; omega) (by simpa using K2.bl))
  clear m1 m2 m3 K2 B2 t3 e1 e2
  go_wp2_with fail
  refine (scan_w _ q l 2 2 F1 none 0 [] none 0 [] w3 K3 (by decide) ((Small.none.upd (by decide) (by decide)).upd (by decide) (by decide)) (Nums.nil _ _) (Nums.nil _ _)).mono ?_
  rintro e w4 ⟨a, cap, ks, vs, rfl, hK, hkl, hR, hP, b4⟩
  have B4 := B3.trans (b4.mono B3.size)
  obtain rfl := keys1 hK
  have hfs : [[97], [98]].filter (sel [] []) = [[97], [98]] := by decide
  rw [hfs] at hR hP ⊢
  have hlen := hP.len
  obtain ⟨x0, x1, rfl⟩ : ∃ x0 x1, vs = [x0, x1] := by
    match vs, hlen with
    | [x0, x1], _ => exact ⟨x0, x1, rfl⟩
  obtain ⟨⟨g0, c0, ex0, hx0, _⟩, _⟩ := hP.get 0 (by simp) (by simp)
  obtain ⟨_, l1, hl1, ⟨g1, c1, ex1, hx1, _⟩⟩ := hP.get 1 (by simp) (by simp)
  have hl1' : l1 = [49] := by
    have : F1 [98] = some [49] := by decide
    exact Option.some.inj (hl1.symm.trans this)
  subst hl1'
  obtain ⟨x0a, x0b⟩ := x0
  obtain ⟨x1a, x1b⟩ := x1
  have ex0' : x0a = .slice (some ⟨g0, 0, none⟩) 1 c0 := ex0
  have ex1' : x1b = .slice (some ⟨g1, 0, none⟩) 1 c1 := ex1
  subst ex0' ex1'
  obtain ⟨b, off, rfl, y0⟩ := hR.2.2.2.2 0 (.slice (some ⟨g0, 0, none⟩) 1 c0) rfl
  obtain ⟨b', off', eb, y3⟩ := hR.2.2.2.2 3 (.slice (some ⟨g1, 0, none⟩) 1 c1) rfl
  cases eb
  have cv0 : (convert 35 9 (.slice (some ⟨g0, 0, none⟩) 1 c0)).run Tryz.prog w4 = .ok (.string ⟨#[97]⟩) w4 := conv hx0
  have cv1 : (convert 35 9 (.slice (some ⟨g1, 0, none⟩) 1 c1)).run Tryz.prog w4 = .ok (.string ⟨#[49]⟩) w4 := conv hx1
  have y0' : w4.cell? ⟨b, off, none⟩ = some (.slice (some ⟨g0, 0, none⟩) 1 c0) := y0
  have hcap : 2 ≤ cap := hR.2.1
  have hcap2 : cap ≤ 9223372036854775807 := hR.2.2.1
  clear B3 b4 K3 hK hkl hfs hP hR hx0 hx1 hl1 ex0 ex1 hlen y0
  go_wp2_with fail
  go_ret
  exact ⟨rfl, B4⟩
end Go.Proofs.YtbjfgdahfpfgdaaGreatDoor.KeepW
