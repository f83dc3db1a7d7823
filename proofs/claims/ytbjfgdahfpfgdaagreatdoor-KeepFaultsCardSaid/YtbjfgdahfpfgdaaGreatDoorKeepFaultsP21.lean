/- The walk of package keep's lay: pages laid into a store; The walk of package keep's Commit; a keep over a store, as a law sees it; The walk of package keep's Pairs. -/
import Derived.Test.YtbjfgdahfpfgdaaGreatDoorKeepFaultsP7
import Derived.Test.YtbjfgdahfpfgdaaGreatDoorKeepFaultsP20
import Derived.Test.YtbjfgdahfpfgdaaGreatDoorKeepFaultsP5
import Derived.Test.YtbjfgdahfpfgdaaGreatDoorKeepFaultsP6
import Derived.Deep.RegionHeld3
namespace Go.Proofs.YtbjfgdahfpfgdaaGreatDoor.KeepW
open Go Go.RowKit Go.Maps Go.Proofs.YtbjfgdahfpfgdaaGreatDoor.Mem Go.Proofs.YtbjfgdahfpfgdaaGreatDoor.MapsW Go.Proofs.YtbjfgdahfpfgdaaGreatDoor.DevG Go.Proofs.YtbjfgdahfpfgdaaGreatDoor.Text Go.Proofs.YtbjfgdahfpfgdaaGreatDoor.KeepP Go.Proofs.YtbjfgdahfpfgdaaGreatDoor.SeeW Go.Proofs.YtbjfgdahfpfgdaaGreatDoor.PgP Go.Proofs.YtbjfgdahfpfgdaaGreatDoor.PgW
set_option linter.unusedVariables false
set_option maxRecDepth 100000

/-- pages one behind the other -/
def PgOf (ps : List (List Nat)) : Int → Option (List Nat) := fun i => if 0 ≤ i then ps[i.toNat]? else none
theorem PgOf.at (ps : List (List Nat)) (p : Nat) : PgOf ps (p : Int) = ps[p]? := by unfold PgOf; rw [if_pos (by omega), Int.toNat_natCast]
theorem PgOf.neg (ps : List (List Nat)) {i : Int} (h : i < 0) : PgOf ps i = none := by unfold PgOf; rw [if_neg (by omega)]
theorem PgOf.nil : PgOf [] = fun _ => none := by funext i; unfold PgOf; split <;> simp
theorem nat_or (i : Int) : i < 0 ∨ ∃ p : Nat, i = (p : Int) := by
  rcases Int.lt_or_le i 0 with h | h
  · exact .inl h
  · exact .inr ⟨i.toNat, by omega⟩
/-- what was written so far -/
def NL (ps L : List (List Nat)) (p : Nat) : Int → Option (List Nat) := fun i => if 0 ≤ i ∧ i < (p : Int) ∧ ps[i.toNat]? ≠ L[i.toNat]? then L[i.toNat]? else none
/-- and dropped -/
def ND (ps L : List (List Nat)) (q : Nat) : Int → Option (List Nat) := fun i => if (L.length : Int) ≤ i ∧ i < (q : Int) then some [] else NL ps L L.length i
theorem NL.zero (ps L : List (List Nat)) : NL ps L 0 = fun _ => none := by funext i; unfold NL; rw [if_neg (by omega)]
theorem NL.same {ps L : List (List Nat)} {p : Nat} (h : ps[p]? = L[p]?) : NL ps L (p + 1) = NL ps L p := by
  funext i
  unfold NL
  by_cases e : i = (p : Int)
  · subst e
    rw [if_neg (fun c => c.2.2 (by rw [Int.toNat_natCast]; exact h)), if_neg (fun c => by omega)]
  · by_cases c : 0 ≤ i ∧ i < (p : Int) ∧ ps[i.toNat]? ≠ L[i.toNat]?
    · rw [if_pos c, if_pos ⟨c.1, by omega, c.2.2⟩]
    · rw [if_neg c, if_neg (fun d => c ⟨d.1, by omega, d.2.2⟩)]
theorem NL.put {ps L : List (List Nat)} {p : Nat} {l : List Nat} (hl : L[p]? = some l) (h : ps[p]? ≠ L[p]?) : NL ps L (p + 1) = upd (NL ps L p) (p : Int) (some l) := by
  funext i
  by_cases e : i = (p : Int)
  · subst e
    rw [upd_same]
    unfold NL
    rw [if_pos ⟨by omega, by omega, by rw [Int.toNat_natCast]; exact h⟩, Int.toNat_natCast]
    exact hl
  · rw [upd_other _ _ e]
    unfold NL
    by_cases c : 0 ≤ i ∧ i < (p : Int) ∧ ps[i.toNat]? ≠ L[i.toNat]?
    · rw [if_pos c, if_pos ⟨c.1, by omega, c.2.2⟩]
    · rw [if_neg c, if_neg (fun d => c ⟨d.1, by omega, d.2.2⟩)]
theorem ND.first (ps L : List (List Nat)) : ND ps L L.length = NL ps L L.length := by funext i; unfold ND; rw [if_neg (by omega)]
theorem ND.drop {ps L : List (List Nat)} {q : Nat} (hq : L.length ≤ q) : ND ps L (q + 1) = upd (ND ps L q) (q : Int) (some []) := by
  funext i
  by_cases e : i = (q : Int)
  · subst e
    rw [upd_same]
    unfold ND
    rw [if_pos ⟨by omega, by omega⟩]
  · rw [upd_other _ _ e]
    unfold ND
    by_cases c : (L.length : Int) ≤ i ∧ i < (q : Int)
    · rw [if_pos c, if_pos ⟨c.1, by omega⟩]
    · rw [if_neg c, if_neg (fun d => c ⟨d.1, by omega⟩)]
theorem ND.there {ps L : List (List Nat)} {q : Nat} (hq : L.length ≤ q) (hp : q < ps.length) : (view (ND ps L q) (PgOf ps) (q : Int)).isSome = true := by
  have e : ND ps L q (q : Int) = none := by
    unfold ND
    rw [if_neg (by omega)]
    unfold NL
    rw [if_neg (by omega)]
  unfold view
  rw [e]
  simp only
  rw [PgOf.at, List.getElem?_eq_getElem hp]
  rfl
/-- all that was changed -/
def NZ (ps L : List (List Nat)) : Int → Option (List Nat) := ND ps L (max L.length ps.length)
theorem NZ.view {ps L : List (List Nat)} (hL : ∀ l ∈ L, l ≠ []) : view (NZ ps L) (PgOf ps) = PgOf L := by
  funext i
  rcases nat_or i with h | ⟨p, rfl⟩
  · have e : NZ ps L i = none := by
      unfold NZ ND
      rw [if_neg (by omega)]
      unfold NL
      rw [if_neg (by omega)]
    unfold PgP.view
    rw [e]
    simp only
    rw [PgOf.neg _ h, PgOf.neg _ h]
  · by_cases h1 : p < L.length
    · have e : NZ ps L (p : Int) = if ps[p]? ≠ L[p]? then L[p]? else none := by
        unfold NZ ND
        rw [if_neg (by omega)]
        unfold NL
        rw [Int.toNat_natCast]
        by_cases c : ps[p]? ≠ L[p]?
        · rw [if_pos ⟨by omega, by omega, c⟩, if_pos c]
        · rw [if_neg (fun d => c d.2.2), if_neg c]
      unfold PgP.view
      rw [e, PgOf.at, PgOf.at]
      by_cases c : ps[p]? ≠ L[p]?
      · rw [if_pos c, List.getElem?_eq_getElem h1]
        have hne := hL _ (List.getElem_mem h1)
        generalize L[p] = l at hne
        cases l with
        | nil => exact absurd rfl hne
        | cons x l => rfl
      · rw [if_neg c]
        simp only
        exact Classical.byContradiction fun h => c h
    · have e2 : L[p]? = none := List.getElem?_eq_none (by omega)
      by_cases h2 : p < ps.length
      · have e : NZ ps L (p : Int) = some [] := by
          unfold NZ ND
          rw [if_pos (by omega)]
        unfold PgP.view
        rw [e]
        show none = PgOf L (p : Int)
        rw [PgOf.at, e2]
      · have e : NZ ps L (p : Int) = none := by
          unfold NZ ND
          rw [if_neg (by omega)]
          unfold NL
          rw [if_neg (by omega)]
        unfold PgP.view
        rw [e]
        simp only
        rw [PgOf.at, PgOf.at, e2, List.getElem?_eq_none (by omega)]
theorem NZ.dom {ps L : List (List Nat)} {i : Int} (h : (NZ ps L i).isSome = true) : 0 ≤ i ∧ i < ((max L.length ps.length : Nat) : Int) := by
  unfold NZ ND at h
  by_cases c : (L.length : Int) ≤ i ∧ i < ((max L.length ps.length : Nat) : Int)
  · omega
  · rw [if_neg c] at h
    unfold NL at h
    by_cases d : 0 ≤ i ∧ i < (L.length : Int) ∧ ps[i.toNat]? ≠ L[i.toNat]?
    · omega
    · rw [if_neg d] at h; cases h
theorem PgOf.cnt {ps : List (List Nat)} {q : Nat} (h : ps.length ≤ q) : cnt (PgOf ps) ≤ q := cnt_le fun p hp => by
  rw [PgOf.at] at hp
  rcases Nat.lt_or_ge p ps.length with h1 | h1
  · omega
  · rw [List.getElem?_eq_none h1] at hp; cases hp
/-- bytes are the same -/
theorem ofTxt_inj {l m : List Nat} (hl : Crc.Bytes l) (hm : Crc.Bytes m) : (ofTxt l = ofTxt m) ↔ l = m := by
  constructor
  · intro h
    rw [← txt_of hl, ← txt_of hm, h]
  · rintro rfl; rfl
theorem bytesEq_w (a : Option Addr) (n c : Nat) (l : List Nat) (a' : Option Addr) (n' c' : Nat) (l' : List Nat) (w : World) (h : Nums .u8 w a n c l) (h' : Nums .u8 w a' n' c' l') (hb : Crc.Bytes l) (hb' : Crc.Bytes l') :
    Calls Tryz.prog 106 #[.slice a n c, .slice a' n' c'] w fun e w' => e = .returned (.bool (decide (l = l'))) ∧ w' = w := by
  have c1 := conv h
  have c2 := conv h'
  have he : ((ofTxt l).toList == (ofTxt l').toList) = decide (l = l') := by
    rw [Bool.eq_iff_iff, beq_iff_eq, decide_eq_true_eq, ByteArray.toList_eq, ByteArray.toList_eq]
    refine Iff.trans ?_ (ofTxt_inj hb hb')
    constructor
    · intro h
      generalize ofTxt l = x at *
      generalize ofTxt l' = y at *
      obtain ⟨⟨x⟩⟩ := x
      obtain ⟨⟨y⟩⟩ := y
      simp at h
      rw [h]
    · intro h; rw [h]
  have HE := hid he
  clear h h' he
  go_enter Tryz.func106, Tryz.ntmps106
  go_wp2
  go_ret
  exact ⟨ret_bool (by simpa using HE.out), rfl⟩
/-- a keep in memory, over the store at s: its pages as they were committed -/
structure KpAt (w : World) (base s k l n : Nat) (F : List UInt8 → Option (List Nat)) (np : Nat) (pa : Option Addr) (pc : Nat) (ps : List (List Nat)) : Prop where
  cells : ∃ wv : Option Nat, w.heap[k]? = some (.cells #[ptr s, .map (some l), .map wv, .slice pa ps.length pc] 129)
  at_ : KAt w base k l n F np
  rows : ∃ vs, Row w 1 pa ps.length pc vs ∧ Rows w vs ps
theorem KpAt.c {w : World} {base s k l n : Nat} {F : List UInt8 → Option (List Nat)} {np : Nat} {pa : Option Addr} {pc : Nat} {ps : List (List Nat)} (h : KpAt w base s k l n F np pa pc ps) :
    w.cell? ⟨k, 0, none⟩ = some (ptr s) ∧ w.cell? ⟨k, 1, none⟩ = some (.map (some l)) ∧ w.cell? ⟨k, 3, none⟩ = some (.slice pa ps.length pc) ∧ ∀ j, w.frozen? ⟨k, j, none⟩ = false := by
  obtain ⟨wv, h⟩ := h.cells
  simp [World.cell?, World.frozen?, h]
/-- what leaves its blocks, and all rows of bytes -/
theorem TextMap.kp {w w' : World} {base b n : Nat} {F : List UInt8 → Option (List Nat)} {np : Nat} (h : TextMap w base b n F np) (e : w'.heap[b]? = w.heap[b]?) (hr : ∀ (a : Option Addr) (n cap : Nat) (l : List Nat), Nums .u8 w a n cap l → Nums .u8 w' a n cap l) : TextMap w' base b n F np := by
  obtain ⟨D, h1, h2, h3⟩ := h
  refine ⟨D, ownsMap_of h1 e, h2, fun i => ?_⟩
  have := h3 i
  cases hF : F i with
  | none => rw [hF] at this; exact this
  | some l =>
    rw [hF] at this
    obtain ⟨a, g, cap, b1, b2, b3, b4⟩ := this
    exact ⟨a, g, cap, b1, hr _ _ _ _ b2, b3, b4⟩
theorem Bt.kp {w w' : World} (hr : ∀ (a : Option Addr) (n cap : Nat) (l : List Nat), Nums .u8 w a n cap l → Nums .u8 w' a n cap l) {v : Value} {l : List Nat} (h : Bt w v l) : Bt w' v l := by
  obtain ⟨g, cap, h1, h2, h3⟩ := h
  exact ⟨g, cap, h1, hr _ _ _ _ h2, h3⟩
theorem KpAt.kp {Y : List Nat} {w w' : World} {base s k l n : Nat} {F : List UInt8 → Option (List Nat)} {np : Nat} {pa : Option Addr} {pc : Nat} {ps : List (List Nat)} (h : KpAt w base s k l n F np pa pc ps) (hk : Kp Y w w') (hY : k ∈ Y ∧ l ∈ Y ∧ ∀ b o, pa = some ⟨b, o, none⟩ → b ∈ Y) : KpAt w' base s k l n F np pa pc ps := by
  obtain ⟨wv, hc⟩ := h.cells
  obtain ⟨vs, h1, h2⟩ := h.rows
  have ek := hk.blk k hY.1
  refine ⟨⟨wv, ek.trans hc⟩, ⟨(World.cell?_of_block ek).trans h.at_.c1, h.at_.bl, TextMap.kp h.at_.map (hk.blk l hY.2.1) hk.row⟩, ⟨vs, Row.keep h1 fun b o e hlt => hk.blk b (hY.2.2 b o e), h2.imp fun v l hb => hb.kp hk.row⟩⟩
set_option maxHeartbeats 6400000 in
theorem lay_w (Y : List Nat) (bs : List Addr) (lo b n c s d ep k l nk np q : Nat) (F : List UInt8 → Option (List Nat)) (pa : Option Addr) (pc : Nat) (ps : List (List Nat)) (la : Option Addr) (lc : Nat) (L : List (List Nat)) (lv : List Value) (w : World)
    (hS : Store Y bs w lo b n c s d (PgOf ps) (fun _ => none) ep) (hK : KpAt w lo s k l nk F np pa pc ps) (hY : k ∈ Y ∧ l ∈ Y ∧ ∀ b o, pa = some ⟨b, o, none⟩ → b ∈ Y) (hLr : Row w 1 la L.length lc lv) (hLv : Rows w lv L) (hLY : ∀ b o, la = some ⟨b, o, none⟩ → b ∈ Y)
    (hL : ∀ x ∈ L, 1 ≤ x.length ∧ x.length ≤ 248 ∧ Crc.Bytes x) (hP : ∀ x ∈ ps, Crc.Bytes x) (hq1 : L.length ≤ q) (hq2 : ps.length ≤ q) (hq : 2 * q + 18 ≤ GeoW.half b) (hq9 : q ≤ 250) (hn : n < 600000) (hc : c < 600000) (hep : ep < 900000) :
    Calls Tryz.prog 67 #[ptr k, .slice la L.length lc] w fun e w' => e = .returned .nilIface ∧ (∃ n' c' ep', n' ≤ n + 10 * q + 760 ∧ c' ≤ c + 2 * q + 20 ∧ ep' ≤ ep + 1 ∧ Store Y bs w' lo b n' c' s d (PgOf L) (fun _ => none) ep') ∧ Below lo w w' ∧ Kp Y w w' := by
  have hlo := hS.lo
  have HS := hid hS
  have HKP := hid (fun (w' : World) (kp : Kp Y w w') => hK.kp kp hY)
  have HLR := hid (fun (w' : World) (kp : Kp Y w w') => (⟨Row.keep hLr fun b o e hlt => kp.blk b (hLY b o e), hLv.imp fun v l hb => hb.kp kp.row⟩ : Row w' 1 la L.length lc lv ∧ Rows w' lv L))
  have HL := hid hL
  have HP := hid hP
  have hb1 := hLr.2.1
  have hb2 := hLr.2.2.1
  unfold maxLen at hb2
  obtain ⟨ln, hln⟩ : ∃ ln, ln = L.length := ⟨_, rfl⟩
  obtain ⟨pn, hpn⟩ : ∃ pn, pn = ps.length := ⟨_, rfl⟩
  rw [← hln] at hq1 hb1 ⊢
  rw [← hpn] at hq2
  have HLN := hid hln
  have HPN := hid hpn
  clear hS hK hY hLr hLv hLY hL hP hln hpn
  go_enter Tryz.func67, Tryz.ntmps67
  go_wp2_with fail
  go_loopw [12] (fun iv wr => ∃ p : Nat, p ≤ ln ∧ iv = .int .i64 p ∧ Store Y bs wr lo b (n + p) c s d (PgOf ps) (NL ps L p) ep ∧ Below lo w wr ∧ Kp Y w wr) (fun iv _ => ln - (RowKit.intOf iv).toNat)
  case atStart => exact ⟨0, by omega, rfl, by rw [NL.zero]; exact HS.out, Below.refl _ _, ⟨fun y _ => rfl, fun a n c l h => h⟩⟩
  case round =>
    obtain ⟨p, hp, rfl, hS, hb, hk⟩ := hrel
    have HSR := hid hS
    have HBR := hid hb
    have HKR := hid hk
    have K1 := HKP.out wr hk
    obtain ⟨c0, c1, c3, cf⟩ := K1.c
    rw [← HPN.out] at c3
    obtain ⟨R1, R2⟩ := HLR.out wr hk
    have hpb : pn ≤ pc ∧ pc ≤ 9223372036854775807 := by
      obtain ⟨vs, g1, g2⟩ := K1.rows
      have h1 := g1.2.1
      have h2 := g1.2.2.1
      rw [← HPN.out] at h1
      unfold maxLen at h2
      exact ⟨h1, by omega⟩
    clear hS hb hk
    by_cases hlt : p < ln
    · have hpl : p < L.length := by rw [← HLN.out]; exact hlt
      have hvl : p < lv.length := by rw [R2.len]; exact hpl
      obtain ⟨g, gc, hgv, hgn, hg0⟩ := R2.get p hvl hpl
      obtain ⟨b0, o0, rfl, hcell⟩ := R1.2.2.2.2 p lv[p] (List.getElem?_eq_getElem hvl)
      rw [hgv] at hcell
      have hlp := HL.out _ (List.getElem_mem hpl)
      have hlg : L[p]? = some L[p] := List.getElem?_eq_getElem hpl
      have HLG := hid hlg
      have hwr := fun (hne : ps[p]? ≠ L[p]?) => (HSR.out.write (by omega) (p := (p : Int)) (isP_of (by omega)) hgn hlp.1 hlp.2.1 hlp.2.2).mono fun e w' ⟨g1, g2, g3, g4⟩ => (⟨g1, by rw [NL.put HLG.out hne]; exact g2, HBR.out.trans g3, HKR.out.trans g4⟩ : e = Ending.returned .nilIface ∧ Store Y bs w' lo b (n + p + 1) c s d (PgOf ps) (NL ps L (p + 1)) ep ∧ Below lo w w' ∧ Kp Y w w')
      have HWR := hid hwr
      have hsm := fun (he : ps[p]? = L[p]?) => NL.same he
      have HSM := hid hsm
      have hxb := hlp.2.2
      clear hwr hsm hlg
      by_cases hpn : p < pn
      · have hpp : p < ps.length := by rw [← HPN.out]; exact hpn
        obtain ⟨vs, g1, g2⟩ := K1.rows
        have hvp : p < vs.length := by rw [g2.len]; exact hpp
        obtain ⟨h', hc', hgv', hgn', _⟩ := g2.get p hvp hpp
        obtain ⟨b1, o1, rfl, hcell'⟩ := g1.2.2.2.2 p vs[p] (List.getElem?_eq_getElem hvp)
        rw [hgv'] at hcell'
        have hbe := bytesEq_w _ _ _ _ _ _ _ _ wr hgn' hgn (HP.out _ (List.getElem_mem hpp)) hxb
        have hee : (ps[p]? = L[p]?) ↔ ps[p] = L[p] := by rw [List.getElem?_eq_getElem hpp, List.getElem?_eq_getElem hpl]; simp
        have HEE := hid hee
        have e1 : List.length (ps[p]) = List.length (ps[p]) := rfl
        clear hgn hgn' hee g1 g2 R1 R2 K1 hgv hgv' hlp e1
        generalize ps[p] = y at hbe hcell' HEE
        generalize L[p] = x at hbe hcell HEE HLG HWR hxb
        by_cases hyx : y = x
        · have HYX := hid hyx
          rw [decide_eq_true hyx] at hbe
          clear hyx
          go_wp2_with fail
          refine hbe.mono ?_
          rintro e w5 ⟨rfl, hw5⟩
          subst w5
          clear hbe
          go_wp2_with fail
          go_roundw
          case rel => exact ⟨p + 1, by omega, by go_num, by rw [HSM.out (HEE.out.2 HYX.out)]; exact HSR.out.mono (by omega), HBR.out, HKR.out⟩
          case measure => simp [RowKit.intOf]; omega
        · have hw2 := HWR.out (fun he => hyx (HEE.out.1 he))
          rw [decide_eq_false hyx] at hbe
          clear hyx
          go_wp2_with fail
          refine hbe.mono ?_
          rintro e w5 ⟨rfl, hw5⟩
          subst w5
          clear hbe
          go_wp2_with fail
          refine hw2.mono ?_
          rintro e w6 ⟨rfl, g1, g2, g3⟩
          have HG := hid (And.intro g1 (And.intro g2 g3))
          clear hw2 g1 g2 g3
          go_wp2_with fail
          go_roundw
          case rel => exact ⟨p + 1, by omega, by go_num, HG.out.1, HG.out.2.1, HG.out.2.2⟩
          case measure => simp [RowKit.intOf]; omega
      · have hw2 := HWR.out (fun he => by
          rw [HLG.out, List.getElem?_eq_none (by rw [← HPN.out]; omega)] at he
          cases he)
        clear hgn R1 R2 K1 hgv hlp
        generalize L[p] = x at hcell HLG HWR hxb hw2
        go_wp2_with fail
        refine hw2.mono ?_
        rintro e w6 ⟨rfl, g1, g2, g3⟩
        have HG := hid (And.intro g1 (And.intro g2 g3))
        clear hw2 g1 g2 g3
        go_wp2_with fail
        go_roundw
        case rel => exact ⟨p + 1, by omega, by go_num, HG.out.1, HG.out.2.1, HG.out.2.2⟩
        case measure => simp [RowKit.intOf]; omega
    · obtain rfl : p = ln := by omega
      have hS0 : Store Y bs wr lo b (n + p) c s d (PgOf ps) (ND ps L p) ep := by
        have e := ND.first ps L
        rw [← HLN.out] at e
        rw [e]
        have h1 := HSR.out
        rw [HLN.out] at h1 ⊢
        exact h1
      have HS0 := hid hS0
      clear hS0 R1 R2 K1 hlt hp c0 c1 c3 cf hpb
      go_wp2_with fail
      go_loopw [8] (fun iv wr => ∃ r : Nat, p ≤ r ∧ r ≤ max p pn ∧ iv = .int .i64 r ∧ Store Y bs wr lo b (n + r) c s d (PgOf ps) (ND ps L r) ep ∧ Below lo w wr ∧ Kp Y w wr) (fun iv _ => pn - (RowKit.intOf iv).toNat)
      case atStart => exact ⟨p, Nat.le_refl _, by omega, rfl, HS0.out, HBR.out, HKR.out⟩
      case round =>
        obtain ⟨r, hr1, hr2, rfl, hS, hb, hk⟩ := hrel
        have HSR2 := hid hS
        have HBR2 := hid hb
        have HKR2 := hid hk
        have K2 := HKP.out _ hk
        obtain ⟨c0, c1, c3, cf⟩ := K2.c
        rw [← HPN.out] at c3
        clear hS hb hk K2
        by_cases hlt : r < pn
        · have hdr := HSR2.out.drop (by omega) (p := (r : Int)) (isP_of (by omega))
          rw [ND.there (by rw [← HLN.out]; exact hr1) (by rw [← HPN.out]; exact hlt), if_pos rfl, ← ND.drop (by rw [← HLN.out]; exact hr1)] at hdr
          go_wp2_with fail
          refine hdr.mono ?_
          rintro e w6 ⟨rfl, g1, g2, g3⟩
          have HG := hid (And.intro g1 (And.intro (HBR2.out.trans g2) (HKR2.out.trans g3)))
          clear hdr g1 g2 g3
          go_wp2_with fail
          go_roundw
          case rel => exact ⟨r + 1, by omega, by omega, by go_num, HG.out.1, HG.out.2.1, HG.out.2.2⟩
          case measure => simp [RowKit.intOf]; omega
        · have hrm : r = max L.length ps.length := by rw [← HLN.out, ← HPN.out]; omega
          have hN : ND ps L r = NZ ps L := by rw [hrm]; rfl
          have hview := NZ.view (ps := ps) (L := L) fun x hx e => by
            have := (HL.out x hx).1
            rw [e] at this
            exact absurd this (by decide)
          have hcn : cnt (NZ ps L) ≤ q := cnt_le fun x hx => by
            have := (NZ.dom hx).2
            have h1 := HLN.out
            have h2 := HPN.out
            omega
          have hst := HSR2.out
          rw [hN] at hst
          have hcom : Calls Tryz.prog 16 #[ptr s] wr fun e w' => e = .returned .nilIface ∧ (∃ n' c' ep', n' ≤ n + 10 * q + 760 ∧ c' ≤ c + 2 * q + 20 ∧ ep' ≤ ep + 1 ∧ Store Y bs w' lo b n' c' s d (PgOf L) (fun _ => none) ep') ∧ Below lo w w' ∧ Kp Y w w' := by
            by_cases h0 : cnt (NZ ps L) = 0
            · refine (hst.commit0 (by omega) (by omega) (by omega) h0).mono ?_
              rintro e w' ⟨g1, g2, g3, g4⟩
              have hz : NZ ps L = fun _ => none := cnt_zero (fun i hi => by
                have := NZ.dom hi
                have h1 := HLN.out
                have h2 := HPN.out
                omega) h0
              have hv : PgOf ps = PgOf L := by rw [← hview, hz]; rfl
              rw [h0] at g2
              rw [hv, hz] at g2
              exact ⟨g1, ⟨_, _, _, by omega, by omega, by omega, g2⟩, HBR2.out.trans g3, HKR2.out.trans g4⟩
            · refine (hst.commit (by omega) (by omega) (by omega) h0 (q := q) (PgOf.cnt (by rw [← HPN.out]; exact hq2)) (by rw [hview]; exact PgOf.cnt (by rw [← HLN.out]; exact hq1)) hq).mono ?_
              rintro e w' ⟨g1, ⟨c', hc', g2⟩, g3, g4⟩
              rw [hview] at g2
              exact ⟨g1, ⟨_, c', _, by omega, by omega, by omega, g2⟩, HBR2.out.trans g3, HKR2.out.trans g4⟩
          clear hrm hN hview hcn hst
          go_wp2_with fail
          refine hcom.mono ?_
          rintro e w' ⟨rfl, g2, g3, g4⟩
          have HG := hid (And.intro g2 (And.intro g3 g4))
          clear hcom g2 g3 g4
          go_wp2_with fail
          go_ret
          exact ⟨rfl, HG.out.1, HG.out.2.1, HG.out.2.2⟩
end Go.Proofs.YtbjfgdahfpfgdaaGreatDoor.KeepW

namespace Go.Proofs.YtbjfgdahfpfgdaaGreatDoor.KeepW
open Go Go.RowKit Go.Maps Go.Proofs.YtbjfgdahfpfgdaaGreatDoor.Mem Go.Proofs.YtbjfgdahfpfgdaaGreatDoor.MapsW Go.Proofs.YtbjfgdahfpfgdaaGreatDoor.DevG Go.Proofs.YtbjfgdahfpfgdaaGreatDoor.Text Go.Proofs.YtbjfgdahfpfgdaaGreatDoor.KeepP Go.Proofs.YtbjfgdahfpfgdaaGreatDoor.SeeW Go.Proofs.YtbjfgdahfpfgdaaGreatDoor.PgP Go.Proofs.YtbjfgdahfpfgdaaGreatDoor.PgW
set_option linter.unusedVariables false
set_option maxRecDepth 100000

/-- a keep over a store -/
structure Kept (Y : List Nat) (bs : List Addr) (w : World) (lo b n c s d ep k l nk : Nat) (F : List UInt8 → Option (List Nat)) (np : Nat) (pa : Option Addr) (pc : Nat) (ps : List (List Nat)) : Prop where
  st : Store Y bs w lo b n c s d (PgOf ps) (fun _ => none) ep
  kp : KpAt w lo s k l nk F np pa pc ps
  inY : k ∈ Y ∧ l ∈ Y ∧ ∀ b o, pa = some ⟨b, o, none⟩ → b ∈ Y
  lok : lo ≤ k
  by_ : ∀ x ∈ ps, Crc.Bytes x
theorem KpAt.below {w w' : World} {base s k l n : Nat} {F : List UInt8 → Option (List Nat)} {np : Nat} {pa : Option Addr} {pc : Nat} {ps : List (List Nat)} (h : KpAt w base s k l n F np pa pc ps) (hb : Below w.heap.size w w') : KpAt w' base s k l n F np pa pc ps := by
  obtain ⟨wv, hc⟩ := h.cells
  obtain ⟨vs, h1, h2⟩ := h.rows
  exact ⟨⟨wv, (hb.block k (Array.getElem?_eq_some_iff.1 hc).1).trans hc⟩, h.at_.below hb, ⟨vs, Row.below h1 hb, h2.below hb⟩⟩
theorem Kept.below {Y : List Nat} {bs : List Addr} {w w' : World} {lo b n c s d ep k l nk : Nat} {F : List UInt8 → Option (List Nat)} {np : Nat} {pa : Option Addr} {pc : Nat} {ps : List (List Nat)} (h : Kept Y bs w lo b n c s d ep k l nk F np pa pc ps) (hb : Below w.heap.size w w') : Kept Y bs w' lo b n c s d ep k l nk F np pa pc ps :=
  ⟨h.st.below hb, h.kp.below hb, h.inY, h.lok, h.by_⟩
theorem Kept.mono {Y : List Nat} {bs : List Addr} {w : World} {lo b n n' c s d ep k l nk : Nat} {F : List UInt8 → Option (List Nat)} {np : Nat} {pa : Option Addr} {pc : Nat} {ps : List (List Nat)} (h : Kept Y bs w lo b n c s d ep k l nk F np pa pc ps) (hn : n ≤ n') : Kept Y bs w lo b n' c s d ep k l nk F np pa pc ps :=
  ⟨h.st.mono hn, h.kp, h.inY, h.lok, h.by_⟩
theorem KpAt.kl {w : World} {base s k l n : Nat} {F : List UInt8 → Option (List Nat)} {np : Nat} {pa : Option Addr} {pc : Nat} {ps : List (List Nat)} (h : KpAt w base s k l n F np pa pc ps) : k ≠ l ∧ NoCells w l ∧ k < w.heap.size := by
  obtain ⟨wv, hc⟩ := h.cells
  obtain ⟨es, ck, hm⟩ := h.at_.map.block
  refine ⟨fun e => ?_, fun c t f e => ?_, (Array.getElem?_eq_some_iff.1 hc).1⟩
  · rw [e, hm] at hc; cases hc
  · rw [hm] at e; cases e
theorem row_keep0 {w w' : World} {size : Nat} {a : Option Addr} {n cap : Nat} {xs : List Value} (h : Row w size a n cap xs) (hk : ∀ b o, a = some ⟨b, o, none⟩ → b < w.heap.size → 0 < xs.length → w'.heap[b]? = w.heap[b]?) : Row w' size a n cap xs := by
  rcases Nat.eq_zero_or_pos xs.length with h0 | h0
  · exact ⟨h.1, h.2.1, h.2.2.1, h.2.2.2.1, fun j u hj => by
      rw [List.length_eq_zero_iff.1 h0] at hj
      simp at hj⟩
  · exact Row.keep h fun b o e hlt => hk b o e hlt h0
/-- a key is put -/
theorem Kept.put {Y : List Nat} {bs : List Addr} {w w' : World} {lo b n c s d ep k l nk nk' : Nat} {F F' : List UInt8 → Option (List Nat)} {np np' : Nat} {pa : Option Addr} {pc : Nat} {ps : List (List Nat)} (h : Kept Y bs w lo b n c s d ep k l nk F np pa pc ps) (hk : KAt w' lo k l nk' F' np') (ht : Turn [l] w w') : Kept Y bs w' lo b n c s d ep k l nk' F' np' pa pc ps := by
  obtain ⟨k1, k2, k3⟩ := h.kp.kl
  obtain ⟨wv, hc⟩ := h.kp.cells
  obtain ⟨vs, h1, h2⟩ := h.kp.rows
  have hu : ∀ x ∈ [l], ∀ off z, w.cell? ⟨x, off, none⟩ ≠ some (.int .u8 z) := fun x hx off z e => by
    rw [List.mem_singleton.1 hx] at e
    obtain ⟨es, ck, hm⟩ := h.kp.at_.map.block
    simp [World.cell?, hm] at e
  refine ⟨h.st.set h.inY.2.1 ht (.inl k2) h.kp.at_.bl, ⟨⟨wv, ht.cells hc (by simpa using k1)⟩, hk, ⟨vs, row_keep0 h1 fun b o e hlt h0 => ht.block b hlt fun hm => ?_, h2.imp fun v m hb => hb.kp fun a n c l hl => DevG.nums_turn hl ht hu⟩⟩, h.inY, h.lok, h.by_⟩
  · rw [List.mem_singleton.1 hm] at e
    obtain ⟨b', o', e', hcell⟩ := h1.2.2.2.2 0 vs[0] (List.getElem?_eq_getElem h0)
    rw [e] at e'
    cases e'
    obtain ⟨es, ck, hm⟩ := h.kp.at_.map.block
    simp [World.cell?, hm] at hcell
theorem ownr_ge {w : World} {base : Nat} {e : TypeId} {va : Option Addr} {n c m : Nat} {xs : List Value} (h : w.ownsRow base e 1 (.slice va n c) m xs) : ∀ b o, va = some ⟨b, o, none⟩ → base ≤ b := by
  rintro b o rfl
  rcases h.2 with ⟨e, _⟩ | ⟨g, c', cur, e, hb, _⟩
  · cases e
  · cases e; exact hb
/-- two cells of a keep are others -/
theorem KpAt.recell {w : World} {base s k l n : Nat} {F : List UInt8 → Option (List Nat)} {np : Nat} {pa : Option Addr} {pc : Nat} {ps : List (List Nat)} (h : KpAt w base s k l n F np pa pc ps) {la : Option Addr} {lc : Nat} {L : List (List Nat)} {vs : List Value} (h1 : Row w 1 la L.length lc vs) (h2 : Rows w vs L) (hk : ∀ b o, la = some ⟨b, o, none⟩ → b ≠ k) (z : Nat) :
    KpAt ((w.setCell ⟨k, 3, none⟩ (.slice la L.length lc)).setCell ⟨k, 2, none⟩ (.map (some z))) base s k l n F np la lc L ∧ Turn [k] w ((w.setCell ⟨k, 3, none⟩ (.slice la L.length lc)).setCell ⟨k, 2, none⟩ (.map (some z))) := by
  obtain ⟨k1, k2, k3⟩ := h.kl
  obtain ⟨wv, hc⟩ := h.cells
  have ht : Turn [k] w ((w.setCell ⟨k, 3, none⟩ (.slice la L.length lc)).setCell ⟨k, 2, none⟩ (.map (some z))) := (Turn.setCell w k 3 _ (by simp)).then (Turn.setCell _ k 2 _ (by simp))
  have hu : ∀ x ∈ [k], ∀ off z, w.cell? ⟨x, off, none⟩ ≠ some (.int .u8 z) := fun x hx off z e => by
    rw [List.mem_singleton.1 hx] at e
    refine nou8_cells hc ?_ off z e
    intro v hv z e
    subst e
    simp at hv
  have hr : ∀ (a : Option Addr) (n cap : Nat) (l : List Nat), Nums .u8 w a n cap l → Nums .u8 ((w.setCell ⟨k, 3, none⟩ (.slice la L.length lc)).setCell ⟨k, 2, none⟩ (.map (some z))) a n cap l := fun a n cap l hl => DevG.nums_turn hl ht hu
  have hc2 : ((w.setCell ⟨k, 3, none⟩ (.slice la L.length lc)).setCell ⟨k, 2, none⟩ (.map (some z))).heap[k]? = some (.cells #[ptr s, .map (some l), .map (some z), .slice la L.length lc] 129) := by simp [World.setCell, Array.getElem?_modify, hc]
  obtain ⟨es, ck, hm⟩ := h.at_.map.block
  refine ⟨⟨⟨some z, hc2⟩, ⟨by simp [World.cell?, hc2], h.at_.bl, TextMap.kp h.at_.map (ht.block l (Array.getElem?_eq_some_iff.1 hm).1 (by simpa using Ne.symm k1)) hr⟩, ⟨vs, Row.keep h1 fun b o e hlt => ht.block b hlt fun hm => hk b o e (List.mem_singleton.1 hm), h2.imp fun v m hb => hb.kp hr⟩⟩, ht⟩
set_option maxHeartbeats 6400000 in
theorem kcommit_w (Y : List Nat) (bs : List Addr) (lo b n c s d ep k l nk np q : Nat) (F : List UInt8 → Option (List Nat)) (pa : Option Addr) (pc : Nat) (ps : List (List Nat)) (w : World) (h : Kept Y bs w lo b n c s d ep k l nk F np pa pc ps) (hF : ∀ s x, F s = some x → Kok (s, x)) (hnp : np ≤ 1000)
    (hq1 : ∀ ks, SKeys F ks → ks.length = np → (pagesOf (kvs F ks)).length ≤ q) (hq2 : ps.length ≤ q) (hq : 2 * q + 18 ≤ GeoW.half b) (hq9 : q ≤ 250) (hn : n < 600000) (hc : c < 600000) (hep : ep < 900000) :
    Calls Tryz.prog 35 #[ptr k] w fun e w' => e = .returned .nilIface ∧ (∃ (Y' : List Nat) (n' c' ep' : Nat) (la : Option Addr) (lc : Nat) (ks : List (List UInt8)), n' ≤ n + 10 * q + 760 ∧ c' ≤ c + 2 * q + 20 ∧ ep' ≤ ep + 1 ∧ SKeys F ks ∧ ks.length = np ∧ Kept Y' bs w' lo b n' c' s d ep' k l nk F np la lc (pagesOf (kvs F ks))) ∧ Below lo w w' := by
  have hpk := packed_w lo k l nk np F w h.kp.at_ hnp hF
  have hlo := h.st.lo
  have HK := hid h
  have HF := hid hF
  have HQ := hid hq1
  have hkl := h.kp.kl
  obtain ⟨hk1, hk2, hk3⟩ := hkl
  clear h hF hq1 hk1 hk2
  go_enter Tryz.func35, Tryz.ntmps35
  go_wp2_with fail
  refine hpk.mono ?_
  rintro e w1 ⟨ks, la, lc, vs, rfl, hS, hkn, ow, hR, b1⟩
  have hPm := pagesOf_mem (ps := kvs F ks) fun p hp => by
    obtain ⟨K, hKm, rfl⟩ := List.mem_map.1 hp
    obtain ⟨x, hx⟩ := Option.isSome_iff_exists.1 ((hS.mem _).1 hKm)
    rw [hx]
    exact HF.out _ _ hx
  have hpq := HQ.out ks hS hkn
  have HSK := hid (And.intro hS hkn)
  generalize hP : pagesOf (kvs F ks) = P at *
  have HPP := hid hP
  obtain ⟨va, vc, e1, hrow⟩ := ownsRow_slice ow
  cases e1
  have hge := ownr_ge ow
  have K1 := HK.out.below b1
  obtain ⟨Y1, hY1, hYs, hYl⟩ : ∃ Y1, Store Y1 bs w1 lo b n c s d (PgOf ps) (fun _ => none) ep ∧ (∀ y ∈ Y, y ∈ Y1) ∧ ∀ b o, la = some ⟨b, o, none⟩ → b ∈ Y1 := by
    cases la with
    | none => exact ⟨Y, K1.st, fun y hy => hy, fun b o e => by cases e⟩
    | some ad =>
      obtain ⟨g, o, sp⟩ := ad
      by_cases hsp : sp = none
      · subst hsp
        have hgl : g < w1.heap.size := by
          rcases ow.2 with ⟨e, _⟩ | ⟨g', c', cur, e, hb, hc, _⟩
          · cases e
          · cases e; exact (Array.getElem?_eq_some_iff.1 hc).1
        exact ⟨g :: Y, HK.out.st.grow b1 (hge g o rfl) hgl, fun y hy => List.mem_cons_of_mem _ hy, fun b o' e => by cases e; exact List.mem_cons_self⟩
      · exact ⟨Y, K1.st, fun y hy => hy, fun b o' e => by cases e; exact absurd rfl hsp⟩
  have hin := HK.out.inY
  have hly := lay_w Y1 bs lo b n c s d ep k l nk np q F pa pc ps la lc P vs w1 hY1 K1.kp ⟨hYs _ hin.1, hYs _ hin.2.1, fun b o e => hYs _ (hin.2.2 b o e)⟩ hrow hR hYl hPm HK.out.by_ hpq hq2 hq hq9 hn hc hep
  have HB1 := hid (b1.mono hlo)
  have HKP := hid (fun (w' : World) (kp : Kp Y1 w1 w') => K1.kp.kp kp ⟨hYs _ hin.1, hYs _ hin.2.1, fun b o e => hYs _ (hin.2.2 b o e)⟩)
  have HRW := hid (fun (w' : World) (kp : Kp Y1 w1 w') => (⟨Row.keep hrow fun b o e hlt => kp.blk b (hYl b o e), hR.imp fun v l hb => hb.kp kp.row⟩ : Row w' 1 la P.length lc vs ∧ Rows w' vs P))
  have HIN := hid (show k ∈ Y1 ∧ l ∈ Y1 from ⟨hYs _ hin.1, hYs _ hin.2.1⟩)
  have HYL := hid hYl
  have HGE := hid hge
  have HPM := hid hPm
  obtain ⟨pl, hpl⟩ : ∃ pl, pl = P.length := ⟨_, rfl⟩
  rw [← hpl] at hly hpq ⊢
  have HPL := hid hpl
  clear hpk hS hkn ow hR b1 hPm hP hrow hge K1 hY1 hYs hYl hin hpl
  go_wp2_with fail
  refine hly.mono ?_
  rintro e w2 ⟨rfl, ⟨n', c', ep', e1, e2, e3, S2⟩, b2, kp2⟩
  have K2 := HKP.out w2 kp2
  obtain ⟨R1, R2⟩ := HRW.out w2 kp2
  obtain ⟨c0, c1, c3, cf⟩ := K2.c
  have c2 : ∃ wz : Option Nat, w2.cell? ⟨k, 2, none⟩ = some (.map wz) := by
    obtain ⟨wz, hz⟩ := K2.cells
    exact ⟨wz, by simp [World.cell?, hz]⟩
  obtain ⟨wz, c2⟩ := c2
  have cf2 := cf 2
  have cf3 := cf 3
  obtain ⟨es, ck, hm⟩ := K2.at_.map.block
  have hcl := cloneTexts_w l es ck w2 hm
  have bA := (Below.refl w2.heap.size w2).alloc (Nat.le_refl _) (.map es ck)
  have KA := K2.below bA
  have SA := S2.below bA
  have HKA := hid KA
  have HSA := hid SA
  have HRA := hid (And.intro (Row.below R1 bA) (R2.below bA))
  have HB2 := hid (HB1.out.trans (b2.trans (bA.mono S2.lo)))
  have hk2 : k < w2.heap.size := K2.kl.2.2
  have cA3 := kept bA c3
  have cA2 := kept bA c2
  have HE := hid (And.intro e1 (And.intro e2 e3))
  clear hly e1 e2 e3 S2 b2 kp2 K2 R1 R2 c0 cf hm bA KA SA
  go_wp2_with fail
  refine hcl.mono ?_
  rintro e w3 ⟨rfl, hw3⟩
  subst w3
  have HT := hid (HKA.out.recell (la := la) (lc := lc) (L := P) HRA.out.1 HRA.out.2 (fun b o e => by have := HGE.out b o e; omega) w2.heap.size)
  rw [← HPL.out] at HT
  rw [World.setCell_alloc_past _ k 3 _ hk2, World.setCell_alloc_past _ k 2 _ (by simpa using hk2)] at HT
  have c0A := HKA.out.c.1
  have HC0 := hid c0A
  clear hcl c0A
  go_wp2_with fail
  go_ret
  have ht := HT.out.2
  have hS2 := HSA.out.set HIN.out.1 ht (.inr ⟨_, HC0.out, fun z e => by cases e⟩) HK.out.lok
  refine ⟨rfl, ⟨Y1, n', c', ep', la, lc, ks, HE.out.1, HE.out.2.1, HE.out.2.2, HSK.out.1, HSK.out.2, ?_⟩, HB2.out.trans (ht.below (by have := HSA.out.lo; exact this) fun y hy => by rw [List.mem_singleton.1 hy]; exact HK.out.lok)⟩
  rw [HPP.out]
  have hk := HT.out.1
  exact ⟨hS2, hk, ⟨HIN.out.1, HIN.out.2, HYL.out⟩, HK.out.lok, fun x hx => (HPM.out x hx).2.2⟩
end Go.Proofs.YtbjfgdahfpfgdaaGreatDoor.KeepW

namespace Go.Proofs.YtbjfgdahfpfgdaaGreatDoor.KeepW
open Go Go.RowKit Go.Maps Go.Proofs.YtbjfgdahfpfgdaaGreatDoor.Mem Go.Proofs.YtbjfgdahfpfgdaaGreatDoor.MapsW Go.Proofs.YtbjfgdahfpfgdaaGreatDoor.DevG Go.Proofs.YtbjfgdahfpfgdaaGreatDoor.Text Go.Proofs.YtbjfgdahfpfgdaaGreatDoor.KeepP
set_option linter.unusedVariables false
set_option maxRecDepth 100000

/-- a slice's block is not below -/
def From (base : Nat) (v : Value) : Prop := ∀ g o n c, v = .slice (some ⟨g, o, none⟩) n c → base ≤ g
/-- pairs in memory, the values' bytes not below -/
def Prs (base : Nat) (w : World) : List (Value × Value) → List Kv → Prop
  | [], [] => True
  | x :: vs, p :: g => Bt w x.1 (KeepP.nat p.1) ∧ Bt w x.2 p.2 ∧ From base x.2 ∧ Prs base w vs g
  | _, _ => False
theorem Prs.len {base : Nat} {w : World} : ∀ {vs : List (Value × Value)} {g : List Kv}, Prs base w vs g → vs.length = g.length
  | [], [], _ => rfl
  | x :: vs, p :: g, h => by simp only [List.length_cons]; rw [Prs.len h.2.2.2]
theorem Prs.imp {base : Nat} {w w' : World} (hw : ∀ v l, Bt w v l → Bt w' v l) : ∀ {vs : List (Value × Value)} {g : List Kv}, Prs base w vs g → Prs base w' vs g
  | [], [], _ => trivial
  | x :: vs, p :: g, h => ⟨hw _ _ h.1, hw _ _ h.2.1, h.2.2.1, Prs.imp hw h.2.2.2⟩
theorem Prs.below {base : Nat} {w w' : World} {vs : List (Value × Value)} {g : List Kv} (h : Prs base w vs g) (hb : Below w.heap.size w w') : Prs base w' vs g := h.imp fun _ _ k => k.below hb
theorem Prs.snoc {base : Nat} {w : World} {x y : Value} {p : Kv} (hx : Bt w x (KeepP.nat p.1)) (hy : Bt w y p.2) (hf : From base y) : ∀ {vs : List (Value × Value)} {g : List Kv}, Prs base w vs g → Prs base w (vs ++ [(x, y)]) (g ++ [p])
  | [], [], _ => ⟨hx, hy, hf, trivial⟩
  | z :: vs, t :: g, h => ⟨h.1, h.2.1, h.2.2.1, Prs.snoc hx hy hf h.2.2.2⟩
theorem Prs.get {base : Nat} {w : World} : ∀ {vs : List (Value × Value)} {g : List Kv}, Prs base w vs g → ∀ (j : Nat) (h1 : j < vs.length) (h2 : j < g.length), Bt w vs[j].1 (KeepP.nat g[j].1) ∧ Bt w vs[j].2 g[j].2 ∧ From base vs[j].2
  | x :: vs, p :: g, h, 0, _, _ => ⟨h.1, h.2.1, h.2.2.1⟩
  | x :: vs, p :: g, h, j + 1, h1, h2 => Prs.get h.2.2.2 j (by simpa using h1) (by simpa using h2)
theorem Prs.nou8 {base : Nat} {w : World} : ∀ {vs : List (Value × Value)} {g : List Kv}, Prs base w vs g → ∀ u ∈ pc vs, ∀ z, u ≠ .int .u8 z
  | x :: vs, p :: g, h, u, hu, z => by
    simp only [pc, List.mem_cons] at hu
    rcases hu with rfl | rfl | hu
    · obtain ⟨g, cap, e, _⟩ := h.1
      rw [e]; exact fun e => by cases e
    · obtain ⟨g, cap, e, _⟩ := h.2.1
      rw [e]; exact fun e => by cases e
    · exact Prs.nou8 h.2.2.2 u hu z
/-- bytes are not where cells that are no bytes are -/
theorem Bt.far2 {w w' : World} {base : Nat} {e : TypeId} {size : Nat} {v : Value} {n : Nat} {vs : List Value} (own : w.ownsRow base e size v n vs) (hv : ∀ u ∈ vs, ∀ z, u ≠ .int .u8 z) (h0 : vs = [] → v = .slice none 0 0) (hg : w.grownBy w' v.ownBlock) {x : Value} {l : List Nat} (hx : Bt w x l) : Bt w' x l := by
  obtain ⟨g, cap, h1, h2, h3⟩ := hx
  refine ⟨g, cap, h1, nums_of_cells h2 ?_, h3⟩
  obtain ⟨c, t, f, hc⟩ := nums_cells h2 h3
  refine hg.block g (Array.getElem?_eq_some_iff.1 hc).1 fun e => ?_
  cases vs with
  | nil => rw [h0 rfl] at e; cases e
  | cons z r =>
    obtain ⟨va, vc, rfl, hr⟩ := ownsRow_slice own
    have hn : 0 < n := by
      have := hr.1
      rcases Nat.eq_zero_or_pos n with h | h
      · rw [h] at this; simp at this
      · exact h
    obtain ⟨b, rfl⟩ := own_some own hn
    cases e
    obtain ⟨b', o', e1, e2⟩ := hr.2.2.2.2 0 z rfl
    cases e1
    obtain ⟨b'', o'', e3, e4⟩ := h2.at (j := 0) (by rw [h2.len]; exact h3)
    cases e3
    rw [e2] at e4
    exact hv z (by simp) _ (Option.some.inj e4)
/-- bytes of which there are none -/
theorem Nums.stay {w : World} {b o b' o' n c : Nat} {l : List Nat} (h : Nums .u8 w (some ⟨b, o, none⟩) n c l) (hc : c = 0) : Nums .u8 w (some ⟨b', o', none⟩) n c l := by
  have hl := h.len
  obtain ⟨h1, h2, h3, h4, h5⟩ := h
  obtain rfl : l = [] := List.eq_nil_of_length_eq_zero (by omega)
  exact ⟨h1, h2, h3, fun e => (by cases e), fun j u hj => by simp [nums] at hj⟩
theorem Bt.of {w : World} {g n c : Nat} {l : List Nat} (h : Nums .u8 w (some ⟨g, 0, none⟩) n c l) (hn : 0 < n) : Bt w (.slice (some ⟨g, 0, none⟩) n c) l := by
  obtain rfl := h.len
  exact ⟨g, c, rfl, h, hn⟩
theorem pc0 {vs : List (Value × Value)} {v : Value} (h : vs = [] → v = .slice none 0 0) : pc vs = [] → v = .slice none 0 0 := by
  cases vs with
  | nil => exact fun _ => h rfl
  | cons x r => intro e; cases e
/-- a pair appended, in a region that draws its order -/
theorem step_pushP {ops : Array Oper} {o : Oper} {a : Act} {K : Act → World → Prop} {Q : Exit → Act → World → Prop} {E : Prop} {w : World} (hgd : o.guard = none) (s x : Operand)
    (ho : o.op = .call { callee := .builtin .append, args := #[s, x], argTypes := #[122, 122] })
    (base : Nat) (v : Value) (n : Nat) (xs : List Value) (hs : a.eval s = v) (hown : w.ownsRow base 125 2 v n xs)
    (g : Nat) (y z : Value) (hx : a.eval x = .slice (some ⟨g, 0, none⟩) 1 1) (hr : Row w 2 (some ⟨g, 0, none⟩) 1 1 [y, z]) (h1 : y.oneCell' = true) (h2 : z.oneCell' = true) (hn : n ≤ 1000000) (hbase : base ≤ w.heap.size)
    (h : ∀ g' cap' w', w'.ownsRow base 125 2 (.slice (some ⟨g', 0, none⟩) (n + 1) cap') (n + 1) (xs ++ [y, z]) → Below base w w' → w.grownBy w' v.ownBlock → K (a.put o.dst (.slice (some ⟨g', 0, none⟩) (n + 1) cap')) w') :
    if Region.wanted o (yielded ops a.tmps) = true then Oper.wp Tryz.prog o a w K Q else E := by
  obtain ⟨i, hi, hz0, hz1, hz2⟩ := info_parts elPair.hi
  refine step_append_lies w hgd s x _ ho base _ i _ 2 48 elPair.ht hi hz0 hz1 hz2 elPair.hz elPair.h0 v n _ hs hown ⟨g, 0, none⟩ 1 1 [y, z] hx rfl ?_ (oneCell2 h1 h2) (by decide) (by unfold maxLen; omega) (by omega) hbase _ rfl ?_
  · intro j u hj
    obtain ⟨b, off, ha, hc⟩ := hr.2.2.2.2 j u hj
    cases ha
    rw [Addr.add_lit]
    exact hc
  · intro g' cap' w' h2 h3 _ _
    exact h _ _ w' h2 ((Below.refl _ _).grown h3 hbase fun b hb => (hown.lt b hb).1) h3
def lenV : Value → Nat
  | .slice _ n _ => n
  | _ => 0
/-- what Pairs gives -/
def PairsTo (w : World) (g : List Kv) (e : Ending) (w' : World) : Prop :=
  ∃ (a : Option Addr) (cap : Nat) (vs : List (Value × Value)), e = .returned (.tuple #[.slice a g.length cap, .bool true]) ∧ Row w' 2 a g.length cap (pc vs) ∧ Prs w.heap.size w' vs g ∧ Below w.heap.size w w'
theorem drop_cons {g : List Kv} {j : Nat} (h : j < g.length) : encG (g.drop j) = encK g[j] ++ encG (g.drop (j + 1)) := by
  rw [List.drop_eq_getElem_cons h]
  exact encG_cons _ _
theorem Nums.part {w : World} {b o n cap : Nat} {l : List Nat} (h : Nums .u8 w (some ⟨b, o, none⟩) n cap l) (i m : Nat) (hm : i + m ≤ n) : Nums .u8 w (some ⟨b, o + i, none⟩) m (cap - i) ((l.drop i).take m) := by
  have hl := h.len
  obtain ⟨h1, h2, h3, h4, h5⟩ := h
  refine ⟨by rw [nums_length, List.length_take, List.length_drop]; omega, by omega, by omega, fun e => (by cases e), fun j u hj => ?_⟩
  have e : nums .u8 ((l.drop i).take m) = ((nums .u8 l).drop i).take m := by simp [nums, List.map_take, List.map_drop]
  rw [e, List.getElem?_take] at hj
  split at hj
  · rw [List.getElem?_drop] at hj
    obtain ⟨b', o', e', hc⟩ := h5 _ u hj
    cases e'
    exact ⟨b, o + i, rfl, by rw [Nat.add_assoc]; exact hc⟩
  · simp at hj
theorem cutK {w : World} {bb bo q bc kl xl : Nat} {K : List UInt8} {x tl : List Nat} (h : Nums .u8 w (some ⟨bb, bo, none⟩) q bc (encK (K, x) ++ tl)) (hk : kl = K.length) (hx : xl = x.length) (hq : q = 2 + kl + xl + tl.length) :
    Nums .u8 w (some ⟨bb, bo + 2, none⟩) kl (bc - 2) (KeepP.nat K) ∧ Nums .u8 w (some ⟨bb, bo + (2 + kl), none⟩) xl (bc - (2 + kl)) x ∧ Nums .u8 w (some ⟨bb, bo + (2 + kl + xl), none⟩) (q - (2 + kl + xl)) (bc - (2 + kl + xl)) tl := by
  subst hk hx hq
  have hn : (KeepP.nat K).length = K.length := List.length_map _
  refine ⟨?_, ?_, ?_⟩
  · have := Nums.part h 2 K.length (by omega)
    have e : ((encK (K, x) ++ tl).drop 2).take K.length = KeepP.nat K := by
      show ((KeepP.nat K ++ x) ++ tl).take K.length = _
      rw [List.append_assoc, ← hn, List.take_left]
    rwa [e] at this
  · have := Nums.part h (2 + K.length) x.length (by omega)
    have e : ((encK (K, x) ++ tl).drop (2 + K.length)).take x.length = x := by
      rw [Nat.add_comm 2]
      show (((KeepP.nat K ++ x) ++ tl).drop K.length).take x.length = _
      rw [List.append_assoc, ← hn, List.drop_left, List.take_left]
    rwa [e] at this
  · have := Nums.part h (2 + K.length + x.length) tl.length (by omega)
    have e : ((encK (K, x) ++ tl).drop (2 + K.length + x.length)).take tl.length = tl := by
      rw [show 2 + K.length + x.length = (K.length + x.length) + 2 from by omega]
      show (((KeepP.nat K ++ x) ++ tl).drop (K.length + x.length)).take tl.length = _
      rw [← hn, ← List.length_append, List.drop_left, List.take_length]
    rw [e] at this
    rw [show 2 + K.length + x.length + tl.length - (2 + K.length + x.length) = tl.length from by omega]
    exact this
set_option maxHeartbeats 6400000 in
theorem pairs_w (a : Option Addr) (cap : Nat) (g : List Kv) (w : World) (h : Nums .u8 w a (encG g).length cap (encG g)) (hg : ∀ p ∈ g, Kok p) (hle : (encG g).length ≤ 1000) (hgl : g.length ≤ 1000) :
    Calls Tryz.prog 108 #[.slice a (encG g).length cap] w (PairsTo w g) := by
  have HG := hid hg
  go_enter Tryz.func108, Tryz.ntmps108
  go_wp2_with fail
  go_loopw [0, 4] (fun bv ov wr => ∃ (j : Nat) (ba : Option Addr) (bc : Nat) (vs : List (Value × Value)), j ≤ g.length ∧ bv = .slice ba (encG (g.drop j)).length bc ∧ Nums .u8 w ba (encG (g.drop j)).length bc (encG (g.drop j)) ∧ (encG (g.drop j)).length ≤ 1000 ∧ wr.ownsRow w.heap.size 125 2 ov j (pc vs) ∧ (vs = [] → ov = .slice none 0 0) ∧ Prs w.heap.size wr vs (g.take j) ∧ Below w.heap.size w wr) (fun bv _ _ => lenV bv)
  case atStart => exact ⟨0, a, cap, [], by omega, rfl, h, hle, World.ownsRow_nil _ _ _ _, fun _ => rfl, trivial, Below.refl _ _⟩
  case round =>
    clear h
    obtain ⟨j, ba, bc, vs, hj, rfl, hn, hl9, hown, h0, hP, hB⟩ := hrel
    by_cases hlt : j < g.length
    · have hko := HG.out _ (List.getElem_mem hlt)
      have hdc := drop_cons hlt
      have htk : g.take (j + 1) = g.take j ++ [g[j]] := List.take_succ_eq_append_getElem hlt
      obtain ⟨k1, k40, v1, v120⟩ := (⟨hko.k1, hko.k40, hko.v1, hko.v120⟩ : _ ∧ _ ∧ _ ∧ _)
      have hvb := hko.by_
      generalize g[j] = p at hdc htk k1 k40 v1 v120 hvb
      obtain ⟨K, x⟩ := p
      simp only at k1 k40 v1 v120 hvb
      have hlen : (encG (g.drop j)).length = 2 + K.length + x.length + (encG (g.drop (j + 1))).length := by rw [hdc, List.length_append, encK_length]
      obtain ⟨tl, htl⟩ : ∃ tl, tl = encG (g.drop (j + 1)) := ⟨_, rfl⟩
      rw [← htl] at hdc hlen
      rw [hdc] at hn
      obtain ⟨q, hq⟩ : ∃ q, q = (encG (g.drop j)).length := ⟨_, rfl⟩
      have HQ := hid hq
      rw [← hdc, ← hq] at hn
      rw [← hq] at hl9 hlen ⊢
      rw [hdc] at hn
      have HNW := hid hn
      replace hn := Nums.below hn hB
      have hh0 : 0 < (encK (K, x) ++ tl).length := by rw [hn.len]; omega
      obtain ⟨bb, bo, rfl, cell0⟩ := hn.at (j := 0) hh0
      obtain ⟨bb', bo', e', cell1⟩ := hn.at (j := 1) (by rw [hn.len]; omega)
      cases e'
      have z0 : (encK (K, x) ++ tl)[0]'hh0 = K.length := rfl
      have z1 : (encK (K, x) ++ tl)[1]'(by rw [hn.len]; omega) = x.length := rfl
      rw [z0, Nat.add_zero] at cell0
      rw [z1] at cell1
      have hqc := hn.bound
      have HN := hid hn
      have HTL := hid htl
      have HTK := hid htk
      clear hko hdc htk hq hn htl z0 z1 hh0
      have t2 : decide ((q : Int) < 2) = false := decide_eq_false (by omega)
      have t3 : ((K.length : Int) == 0) = false := by rw [beq_eq_false_iff_ne]; omega
      have t4 : decide ((40 : Int) < (K.length : Int)) = false := decide_eq_false (by omega)
      have t5 : decide ((120 : Int) < (x.length : Int)) = false := decide_eq_false (by omega)
      have t6 : decide ((q : Int) - 2 < (K.length : Int) + (x.length : Int)) = false := decide_eq_false (by omega)
      have i0 : (0 : Int) < (q : Int) := by omega
      have i1 : (1 : Int) < (q : Int) := by omega
      have w1 : IntKind.i64.wrap (K.length : Int) = (K.length : Int) := by rw [IntKind.wrap_i64]; omega
      have w2 : IntKind.i64.wrap (x.length : Int) = (x.length : Int) := by rw [IntKind.wrap_i64]; omega
      have HP := hid hP
      have HOW := hid hown
      have HH0 := hid h0
      have HB := hid hB
      obtain ⟨kl, hkl⟩ : ∃ kl, kl = K.length := ⟨_, rfl⟩
      obtain ⟨xl, hxl⟩ : ∃ xl, xl = x.length := ⟨_, rfl⟩
      have HKL := hid hkl
      have HXL := hid hxl
      rw [← hkl] at t3 t4 t6 w1 cell0 k1 k40 hlen
      rw [← hxl] at t5 t6 w2 cell1 v1 v120 hlen
      have HNK : Hid (Nums .u8 wr (some ⟨bb, bo + 2, none⟩) kl (bc - 2) (KeepP.nat K)) := hid ((cutK HN.out hkl hxl hlen).1)
      have HNX : Hid (Nums .u8 wr (some ⟨bb, bo + (2 + kl), none⟩) xl (bc - (2 + kl)) x) := hid ((cutK HN.out hkl hxl hlen).2.1)
      have HNT : Hid (Nums .u8 w (some ⟨bb, bo + (2 + kl + xl), none⟩) (q - (2 + kl + xl)) (bc - (2 + kl + xl)) tl) := hid ((cutK HNW.out hkl hxl hlen).2.2)
      have q1 : 2 + kl ≤ q := by omega
      have w3 : IntKind.i64.wrap (2 + (kl : Int)) = 2 + (kl : Int) := by rw [IntKind.wrap_i64]; omega
      have w4 : IntKind.i64.wrap (2 + (kl : Int) + (xl : Int)) = 2 + (kl : Int) + (xl : Int) := by rw [IntKind.wrap_i64]; omega
      have q2 : 2 + kl + xl ≤ q := by omega
      have HLEN := hid hlen
      clear hP hown h0 hB hkl hxl hlen
      go_wp2_with fail
      go_quiet (fail)
      go_wp2_with fail
      --R8
      refine wp_region_held_drew (S := fun _ => True) (by kernel_rfl) trivial (fun hHeld => ?_)
      refine wpAnyH_take (i := 0) (v := u4) (by simp only [List.getElem?_toArray, List.getElem?_cons_zero]; rfl) (by kernel_rfl) (by kernel_rfl) (by kernel_rfl) (by exact fun _ _ _ h => h) (Or.inl ⟨by rfl, ?_⟩) (by assumption) ?_
      · intro w hSw
        go_simp
      simp only [Act.put, List.setIfInBounds_toArray, List.set_cons_zero, List.set_cons_succ]
      refine wpAnyH_take (i := 1) (v := .slice (some ⟨bb, bo, none⟩) q bc) (by simp only [List.getElem?_toArray, List.getElem?_cons_zero, List.getElem?_cons_succ]; rfl) (by kernel_rfl) (by kernel_rfl) (by kernel_rfl) (by exact fun _ _ _ h => h) (Or.inl ⟨by rfl, ?_⟩) (by assumption) ?_
      · intro w hSw
        go_simp
      simp only [Act.put, List.setIfInBounds_toArray, List.set_cons_zero, List.set_cons_succ]
      refine wpAnyH_take (i := 2) (v := .int .i64 (kl : Int)) (by simp only [List.getElem?_toArray, List.getElem?_cons_zero, List.getElem?_cons_succ]; rfl) (by kernel_rfl) (by kernel_rfl) (by kernel_rfl) (by exact fun _ _ _ h => h) (Or.inl ⟨by rfl, ?_⟩) (by assumption) ?_
      · intro w hSw
        go_simp
      simp only [Act.put, List.setIfInBounds_toArray, List.set_cons_zero, List.set_cons_succ]
      refine wpAnyH_take (i := 3) (v := .int .i64 (2 + (kl : Int))) (by simp only [List.getElem?_toArray, List.getElem?_cons_zero, List.getElem?_cons_succ]; rfl) (by kernel_rfl) (by kernel_rfl) (by kernel_rfl) (by exact fun _ _ _ h => h) (Or.inl ⟨by rfl, ?_⟩) (by assumption) ?_
      · intro w hSw
        go_simp
      simp only [Act.put, List.setIfInBounds_toArray, List.set_cons_zero, List.set_cons_succ]
      refine wpAnyH_take (i := 4) (v := .slice (some ⟨bb, bo + 2, none⟩) kl (bc - 2)) (by simp only [List.getElem?_toArray, List.getElem?_cons_zero, List.getElem?_cons_succ]; rfl) (by kernel_rfl) (by kernel_rfl) (by kernel_rfl) (by exact fun _ _ _ h => h) (Or.inl ⟨by rfl, ?_⟩) (by assumption) ?_
      · intro w hSw
        go_simp
        rw [if_pos ⟨by omega, by omega⟩, if_pos (by omega), if_neg (by omega), show (2 + (kl : Int)).toNat - 2 = kl from by omega]
      simp only [Act.put, List.setIfInBounds_toArray, List.set_cons_zero, List.set_cons_succ]
      refine wpAnyH_take (i := 6) (v := .slice (some ⟨bb, bo, none⟩) q bc) (by simp only [List.getElem?_toArray, List.getElem?_cons_zero, List.getElem?_cons_succ]; rfl) (by kernel_rfl) (by kernel_rfl) (by kernel_rfl) (by exact fun _ _ _ h => h) (Or.inl ⟨by rfl, ?_⟩) (by assumption) ?_
      · intro w hSw
        go_simp
      simp only [Act.put, List.setIfInBounds_toArray, List.set_cons_zero, List.set_cons_succ]
      refine wpAnyH_take (i := 7) (v := .int .i64 (kl : Int)) (by simp only [List.getElem?_toArray, List.getElem?_cons_zero, List.getElem?_cons_succ]; rfl) (by kernel_rfl) (by kernel_rfl) (by kernel_rfl) (by exact fun _ _ _ h => h) (Or.inl ⟨by rfl, ?_⟩) (by assumption) ?_
      · intro w hSw
        go_simp
      simp only [Act.put, List.setIfInBounds_toArray, List.set_cons_zero, List.set_cons_succ]
      refine wpAnyH_take (i := 8) (v := .int .i64 (2 + (kl : Int))) (by simp only [List.getElem?_toArray, List.getElem?_cons_zero, List.getElem?_cons_succ]; rfl) (by kernel_rfl) (by kernel_rfl) (by kernel_rfl) (by exact fun _ _ _ h => h) (Or.inl ⟨by rfl, ?_⟩) (by assumption) ?_
      · intro w hSw
        go_simp
      simp only [Act.put, List.setIfInBounds_toArray, List.set_cons_zero, List.set_cons_succ]
      refine wpAnyH_take (i := 9) (v := .int .i64 (kl : Int)) (by simp only [List.getElem?_toArray, List.getElem?_cons_zero, List.getElem?_cons_succ]; rfl) (by kernel_rfl) (by kernel_rfl) (by kernel_rfl) (by exact fun _ _ _ h => h) (Or.inl ⟨by rfl, ?_⟩) (by assumption) ?_
      · intro w hSw
        go_simp
      simp only [Act.put, List.setIfInBounds_toArray, List.set_cons_zero, List.set_cons_succ]
      refine wpAnyH_take (i := 10) (v := .int .i64 (2 + (kl : Int))) (by simp only [List.getElem?_toArray, List.getElem?_cons_zero, List.getElem?_cons_succ]; rfl) (by kernel_rfl) (by kernel_rfl) (by kernel_rfl) (by exact fun _ _ _ h => h) (Or.inl ⟨by rfl, ?_⟩) (by assumption) ?_
      · intro w hSw
        go_simp
      simp only [Act.put, List.setIfInBounds_toArray, List.set_cons_zero, List.set_cons_succ]
      refine wpAnyH_take (i := 11) (v := .int .i64 (xl : Int)) (by simp only [List.getElem?_toArray, List.getElem?_cons_zero, List.getElem?_cons_succ]; rfl) (by kernel_rfl) (by kernel_rfl) (by kernel_rfl) (by exact fun _ _ _ h => h) (Or.inl ⟨by rfl, ?_⟩) (by assumption) ?_
      · intro w hSw
        go_simp
      simp only [Act.put, List.setIfInBounds_toArray, List.set_cons_zero, List.set_cons_succ]
      refine wpAnyH_take (i := 12) (v := .int .i64 (2 + (kl : Int) + (xl : Int))) (by simp only [List.getElem?_toArray, List.getElem?_cons_zero, List.getElem?_cons_succ]; rfl) (by kernel_rfl) (by kernel_rfl) (by kernel_rfl) (by exact fun _ _ _ h => h) (Or.inl ⟨by rfl, ?_⟩) (by assumption) ?_
      · intro w hSw
        go_simp
      simp only [Act.put, List.setIfInBounds_toArray, List.set_cons_zero, List.set_cons_succ]
      refine wpAnyH_take (i := 13) (v := .slice (some ⟨bb, bo + (2 + kl), none⟩) xl (bc - (2 + kl))) (by simp only [List.getElem?_toArray, List.getElem?_cons_zero, List.getElem?_cons_succ]; rfl) (by kernel_rfl) (by kernel_rfl) (by kernel_rfl) (by exact fun _ _ _ h => h) (Or.inl ⟨by rfl, ?_⟩) (by assumption) ?_
      · intro w hSw
        go_simp
        rw [if_pos ⟨by omega, by omega⟩, if_pos ⟨by omega, by omega⟩, show (2 + (kl : Int)).toNat = 2 + kl from by omega, show (2 + (kl : Int) + (xl : Int)).toNat - (2 + kl) = xl from by omega, if_neg (by omega)]
      simp only [Act.put, List.setIfInBounds_toArray, List.set_cons_zero, List.set_cons_succ]
      refine wpAnyH_ready (rs := [5]) (by kernel_rfl) (by simp) ?_
      refine AllReadyH.cons (by simp only [List.getElem?_toArray, List.getElem?_cons_zero, List.getElem?_cons_succ]; rfl) (fun K0 hK => ?_) AllReadyH.nil
      go_simp
      refine (RefW.clone_w _ kl _ (KeepP.nat K) _ (HNK.out.below (below_drewN (Below.refl _ _) _)) (by omega)).mono ?_
      rintro e W1 ⟨y1, rfl, own1, hb1⟩
      obtain ⟨g1, d1, rfl, hn1, hg1⟩ := row1 own1 (by omega)
      have HN1 := hid hn1
      have HB1 : Hid (Below wr.heap.size wr W1) := hid ((below_drewN (Below.refl wr.heap.size wr) _).trans hb1)
      clear own1 hb1 hn1 hg1
      go_wp2_with fail
      refine hK.out _ _ trivial (fun hHeld => ?_)
      clear hK K0
      refine wpAnyH_ready (rs := [14]) (by kernel_rfl) (by simp) ?_
      refine AllReadyH.cons (by simp only [List.getElem?_toArray, List.getElem?_cons_zero, List.getElem?_cons_succ]; rfl) (fun K0 hK => ?_) AllReadyH.nil
      go_simp
      refine (RefW.clone_w _ xl _ x _ (HNX.out.below HB1.out) (by omega)).mono ?_
      rintro e W2 ⟨y2, rfl, own2, hb2⟩
      obtain ⟨g2, d2, rfl, hn2, hg2⟩ := row1 own2 (by omega)
      have HN2 := hid hn2
      have HG2 : Hid (w.heap.size ≤ g2) := hid (by have h1 := HB.out.size; have h2 := HB1.out.size; exact Nat.le_trans h1 (Nat.le_trans h2 hg2))
      have HB2 : Hid (Below W1.heap.size W1 W2) := hid hb2
      clear own2 hb2 hn2 hg2
      go_wp2_with fail
      refine hK.out _ _ trivial (fun hHeld => ?_)
      clear hK K0
      refine wpAnyH_take (i := 15) (v := .agg #[.slice (some ⟨g1, 0, none⟩) kl d1, .slice (some ⟨g2, 0, none⟩) xl d2]) (by simp only [List.getElem?_toArray, List.getElem?_cons_zero, List.getElem?_cons_succ]; rfl) (by kernel_rfl) (by kernel_rfl) (by kernel_rfl) (by exact fun _ _ _ h => h) (Or.inl ⟨by rfl, ?_⟩) (by assumption) ?_
      · intro w hSw
        go_simp
      simp only [Act.put, List.setIfInBounds_toArray, List.set_cons_zero, List.set_cons_succ]
      refine wpAnyH_ready (rs := [16]) (by kernel_rfl) (by simp) ?_
      refine AllReadyH.cons (by simp only [List.getElem?_toArray, List.getElem?_cons_zero, List.getElem?_cons_succ]; rfl) (fun K0 hK => ?_) AllReadyH.nil
      go_simp
      have HB3 := hid ((Below.refl W2.heap.size W2).alloc (Nat.le_refl _) (.cells #[.slice (some ⟨g1, 0, none⟩) kl d1, .slice (some ⟨g2, 0, none⟩) xl d2] 125))
      have z0 := HB.out.size
      have z1 := HB1.out.size
      have z2 := HB2.out.size
      have HBC : Hid (Below wr.heap.size wr _) := hid ((HB1.out.trans (HB2.out.mono z1)).trans (HB3.out.mono (by omega)))
      have HOW3 := hid (ownsRow_below HOW.out HBC.out)
      have HBB := hid (HB.out.trans (HBC.out.mono z0))
      have HP3 := hid (HP.out.below HBC.out)
      refine hK.out _ _ trivial (fun hHeld => ?_)
      clear hK K0
      refine wpAnyH_ready (rs := [17]) (by kernel_rfl) (by simp) ?_
      refine AllReadyH.cons (by simp only [List.getElem?_toArray, List.getElem?_cons_zero, List.getElem?_cons_succ]; rfl) (fun K0 hK => ?_) AllReadyH.nil
      refine step_pushP rfl _ _ rfl w.heap.size u4 j (pc vs) rfl HOW3.out W2.heap.size _ _ rfl (Row.fresh2 _ _ _ _) rfl rfl (by omega) HBB.out.size ?_
      intro g4 c4 w4 hown4 hb4 hg4
      have im : ∀ v l, Bt _ v l → Bt w4 v l := fun v l hv => Bt.far2 HOW3.out HP3.out.nou8 (pc0 HH0.out) hg4 hv
      have HP4 := hid (Prs.snoc (p := (K, x)) (im _ _ ((Bt.of HN1.out (by omega)).below (HB2.out.trans (HB3.out.mono z2)))) (im _ _ ((Bt.of HN2.out (by omega)).below HB3.out)) (fun g o n c e => by cases e; exact HG2.out) (HP3.out.imp im))
      have HB4 := hid (HBB.out.trans hb4)
      have HO4 := hid hown4
      clear im hown4 hb4 hg4
      refine hK.out _ _ trivial (fun hHeld => ?_)
      clear hK K0
      refine wpAnyH_take (i := 18) (v := .slice (some ⟨g4, 0, none⟩) (j + 1) c4) (by simp only [List.getElem?_toArray, List.getElem?_cons_zero, List.getElem?_cons_succ]; rfl) (by kernel_rfl) (by kernel_rfl) (by kernel_rfl) (by exact fun _ _ _ h => h) (Or.inl ⟨by rfl, ?_⟩) (by assumption) ?_
      · intro w hSw
        go_simp
      simp only [Act.put, List.setIfInBounds_toArray, List.set_cons_zero, List.set_cons_succ]
      refine wpAnyH_done (by kernel_rfl) ?_ _
      --R8E
      have s1 : (0 : Int) ≤ 2 + (kl : Int) + (xl : Int) := by omega
      have s2 : 2 + (kl : Int) + (xl : Int) ≤ (q : Int) := by omega
      have s3 : (2 + (kl : Int) + (xl : Int)).toNat = 2 + kl + xl := by omega
      clear hHeld
      go_wp2_with fail
      go_roundw
      case rel =>
        have hT := HTL.out
        have hl : q - (2 + kl + xl) = tl.length := by have := HLEN.out; omega
        have hN := HNT.out
        rw [hl] at hN ⊢
        rw [hT] at hN ⊢
        refine ⟨j + 1, _, _, vs ++ [(.slice (some ⟨g1, 0, none⟩) kl d1, .slice (some ⟨g2, 0, none⟩) xl d2)], by omega, rfl, ?_, by have := HLEN.out; rw [← hT]; omega, by rw [pc_append]; exact HO4.out, fun e => by simp at e, by rw [HTK.out]; exact HP4.out, HB4.out⟩
        split
        · rename_i e
          exact Nums.stay hN (by omega)
        · exact hN
      case measure => simp [lenV]; omega
    · obtain rfl : j = g.length := by omega
      rw [List.drop_length, encG_nil] at *
      rw [List.take_length] at hP
      obtain ⟨va, vc, rfl, hr⟩ := ownsRow_slice hown
      have HO := hid (And.intro hr hP)
      have HB := hid hB
      clear hown hP h0 hn hB hg hle
      go_wp2_with fail
      go_ret2
      exact ⟨_, _, vs, rfl, HO.out.1, HO.out.2, HB.out⟩
end Go.Proofs.YtbjfgdahfpfgdaaGreatDoor.KeepW
