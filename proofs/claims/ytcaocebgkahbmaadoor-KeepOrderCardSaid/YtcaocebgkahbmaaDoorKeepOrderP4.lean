/- Maps of rows of bytes keyed by texts; The keys of a map of rows keyed by texts, rising: slices.Sorted of maps.Keys; Texts: their bytes as numbers; appended to bytes, and made of bytes; Keys in order: plain law; The walks of package keep: Open of a store without a page, Put, Len; The walks of package keep: Open of a store without a page, Len, keys; The walk of package keep's Scan; The walk of package keep's Scan: the round; The walk of root.Save; Plain facts: what is found of a device on which roots were saved; A keep on a new device; the chapter's examples; breviaryworld.Number: a number's rest; The walks of package rec: numbers laid as three bytes, and read; A text appended to bytes of one's own; small rows; A slice of integers: sought through; Places and bytes in order: the program's and the library's comparisons; Places and bytes in order: Less, Ahead. -/
import Derived.Test.YtcaocebgkahbmaaDoorKeepOrderP1
import Derived.StringKeys
import Derived.Test.YtcaocebgkahbmaaDoorShelfS
import Derived.Test.YtcaocebgkahbmaaDoorProg
import Derived.Lib.AppendStr
import Derived.Laws.BytesString
import Derived.Laws.BytesArg
import Derived.Test.YtcaocebgkahbmaaDoorKeepOrderP3
import Derived.Deep.RegionHeld3
import Derived.Lib.ConvBytes
import Derived.Lib.AtoiErrMem
import Derived.Laws.Cover1
import Derived.Test.YtcaocebgkahbmaaDoorKeepOrderP2
import Derived.Lib.SmallJoins
import Derived.Lib.SlBytesConst
import Derived.BigQuiet
import Derived.Lib.Bytealg
namespace Go.Proofs.YtcaocebgkahbmaaDoor.MapsW
open Go Go.RowKit Go.Maps Go.Proofs.YtcaocebgkahbmaaDoor.Mem
set_option linter.unusedVariables false
set_option maxRecDepth 100000

theorem lawS : Keyed Tryd.prog 9 := string_keyed Tryd.underlying9
theorem keyS {s : ByteArray} (hs : s.size ≤ maxLen) : keyOf Tryd.prog 9 (.string s) = some (.string s.data.toList) := WideMaps.keyOf_string_mk Tryd.underlying9 hs
theorem islitS (k : List UInt8) : WideAt.IsKeyLit (.string k) := trivial
theorem litneS {i j : List UInt8} (h : j ≠ i) : Lit.string j ≠ Lit.string i := fun e => h (Lit.string.inj e)
/-- one more, or another, at a text -/
def updS {α : Type} (F : List UInt8 → α) (i : List UInt8) (x : α) : List UInt8 → α := fun j => if j = i then x else F j
theorem updS_same {α : Type} (F : List UInt8 → α) (i : List UInt8) (x : α) : updS F i x i = x := if_pos rfl
theorem updS_other {α : Type} (F : List UInt8 → α) {i j : List UInt8} (x : α) (h : j ≠ i) : updS F i x j = F j := if_neg h
/-- block b of w is a map of rows of a byte and more, one at each text at which F has one; np of them; the rows lie from base on -/
def TextMap (w : World) (base b n : Nat) (F : List UInt8 → Option (List Nat)) (np : Nat) : Prop :=
  ∃ D, w.ownsMap Tryd.prog 9 rowR b n D ∧ Maps.size D = np ∧
    ∀ i, match F i with
      | none => Maps.has D (.string i) = false
      | some l => Maps.has D (.string i) = true ∧ ∃ g cap, (∀ z, D.atKey (.string i) z = rowd g l.length cap) ∧ Nums .u8 w (some ⟨g, 0, none⟩) l.length cap l ∧ base ≤ g ∧ 0 < l.length
theorem TextMap.mono {w : World} {base base' b n n' : Nat} {F : List UInt8 → Option (List Nat)} {np : Nat} (h : TextMap w base b n F np) (hn : n ≤ n') (hb : base' ≤ base) : TextMap w base' b n' F np := by
  obtain ⟨D, h1, h2, h3⟩ := h
  refine ⟨D, h1.mono hn, h2, fun i => ?_⟩
  have := h3 i
  cases hF : F i with
  | none => rw [hF] at this; exact this
  | some l =>
    rw [hF] at this
    obtain ⟨a, g, cap, b1, b2, b3, b4⟩ := this
    exact ⟨a, g, cap, b1, b2, by omega, b4⟩
theorem TextMap.block {w : World} {base b n : Nat} {F : List UInt8 → Option (List Nat)} {np : Nat} (h : TextMap w base b n F np) : ∃ es ck, w.heap[b]? = some (.map es ck) := by
  obtain ⟨D, ⟨es, ck, h1, _⟩, _⟩ := h
  exact ⟨es, ck, h1⟩
theorem TextMap.made (w : World) (base : Nat) : TextMap (w.alloc (.map #[] 0)) base w.heap.size 0 (fun _ => none) 0 :=
  ⟨.map [], World.ownsMap_made _ _ _ _, rfl, fun i => rfl⟩
/-- where its block, and all rows, are as they were -/
theorem TextMap.keep {w w' : World} {base b n : Nat} {F : List UInt8 → Option (List Nat)} {np : Nat} (h : TextMap w base b n F np) (e : w'.heap[b]? = w.heap[b]?) (hr : ∀ g, base ≤ g → (∃ c t f, w.heap[g]? = some (.cells c t f)) → (∃ z, w.cell? ⟨g, 0, none⟩ = some (.int .u8 z)) → w'.heap[g]? = w.heap[g]?) : TextMap w' base b n F np := by
  obtain ⟨D, h1, h2, h3⟩ := h
  refine ⟨D, ownsMap_of h1 e, h2, fun i => ?_⟩
  have := h3 i
  cases hF : F i with
  | none => rw [hF] at this; exact this
  | some l =>
    rw [hF] at this
    obtain ⟨a, g, cap, b1, b2, b3, b4⟩ := this
    refine ⟨a, g, cap, b1, nums_of_cells b2 (hr g b3 (nums_cells b2 b4) ?_), b3, b4⟩
    obtain ⟨b', o', he, hc⟩ := b2.at (j := 0) (by rw [b2.len]; exact b4)
    cases he
    exact ⟨_, by rw [Nat.zero_add] at hc; exact hc⟩
theorem TextMap.below {w w' : World} {base b n : Nat} {F : List UInt8 → Option (List Nat)} {np : Nat} (h : TextMap w base b n F np) (hb : Below w.heap.size w w') : TextMap w' base b n F np := by
  obtain ⟨es, ck, hk⟩ := h.block
  exact h.keep (hb.block b (Array.getElem?_eq_some_iff.1 hk).1) fun g _ hc _ => let ⟨_, _, _, e⟩ := hc; hb.block g (Array.getElem?_eq_some_iff.1 e).1
/-- what is looked up -/
theorem TextMap.look_none {w : World} {base b n : Nat} {F : List UInt8 → Option (List Nat)} {np : Nat} (h : TextMap w base b n F np) {s : ByteArray} (hs : s.size ≤ maxLen) (hF : F s.data.toList = none) :
    (Instr.lookup 45 (.map (some b)) (.string s) false).run Tryd.prog w = .ok (.slice none 0 0) w := by
  obtain ⟨D, h1, _, h3⟩ := h
  have := h3 s.data.toList
  rw [hF] at this
  obtain ⟨v, ps, hr, hv⟩ := h1.lookup lawS Tryd.underlying45 (zeroRow w) (zd := .nil) (zp := []) rfl (keyS hs)
  rw [atKey_of_not_has this] at hv
  rw [rowR_nil hv] at hr
  exact hr
theorem TextMap.look_some {w : World} {base b n : Nat} {F : List UInt8 → Option (List Nat)} {np : Nat} (h : TextMap w base b n F np) {s : ByteArray} (hs : s.size ≤ maxLen) {l : List Nat} (hF : F s.data.toList = some l) :
    ∃ g cap, (Instr.lookup 45 (.map (some b)) (.string s) false).run Tryd.prog w = .ok (.slice (some ⟨g, 0, none⟩) l.length cap) w ∧ Nums .u8 w (some ⟨g, 0, none⟩) l.length cap l ∧ base ≤ g ∧ 0 < l.length := by
  obtain ⟨D, h1, _, h3⟩ := h
  have := h3 s.data.toList
  rw [hF] at this
  obtain ⟨_, g, cap, b1, b2, b3, b4⟩ := this
  obtain ⟨v, ps, hr, hv⟩ := h1.lookup lawS Tryd.underlying45 (zeroRow w) (zd := .nil) (zp := []) rfl (keyS hs)
  rw [b1] at hv
  rw [rowR_row hv] at hr
  exact ⟨g, cap, hr, b2, b3, b4⟩
theorem TextMap.len {w : World} {base b n : Nat} {F : List UInt8 → Option (List Nat)} {np : Nat} (h : TextMap w base b n F np) : ∃ D : DataW Unit, w.ownsMap Tryd.prog 9 rowR b n D ∧ Maps.size D = np := by
  obtain ⟨D, h1, h2, _⟩ := h
  exact ⟨D, h1, h2⟩
theorem TextMap.put {w w' : World} {base b n : Nat} {F : List UInt8 → Option (List Nat)} {np : Nat} {D : DataW Unit} (h2 : Maps.size D = np)
    (h3 : ∀ i, match F i with
      | none => Maps.has D (.string i) = false
      | some l => Maps.has D (.string i) = true ∧ ∃ g cap, (∀ z, D.atKey (.string i) z = rowd g l.length cap) ∧ Nums .u8 w (some ⟨g, 0, none⟩) l.length cap l ∧ base ≤ g ∧ 0 < l.length)
    (hT : Tidy D) {K : List UInt8} {g cap : Nat} {l : List Nat} (ho : w'.ownsMap Tryd.prog 9 rowR b (n + 1) (D.put (.string K) (rowd g l.length cap))) (hgw : w.grownBy w' (some b)) (hb : ∃ es ck, w.heap[b]? = some (.map es ck)) (hl : Nums .u8 w (some ⟨g, 0, none⟩) l.length cap l) (hbg : base ≤ g) (hl0 : 0 < l.length) :
    TextMap w' base b (n + 1) (updS F K (some l)) (if (F K).isSome then np else np + 1) := by
  have hk : ∀ g' cap' (l' : List Nat), 0 < l'.length → Nums .u8 w (some ⟨g', 0, none⟩) l'.length cap' l' → Nums .u8 w' (some ⟨g', 0, none⟩) l'.length cap' l' := by
    intro g' cap' l' h0 hn'
    obtain ⟨c, t, f, hc⟩ := nums_cells hn' h0
    refine nums_of_cells hn' (hgw.block g' (Array.getElem?_eq_some_iff.1 hc).1 fun e => ?_)
    obtain ⟨es, ck, hmm⟩ := hb
    rw [Option.some.inj e] at hc
    rw [hmm] at hc
    cases hc
  refine ⟨_, ho, ?_, fun j => ?_⟩
  · rw [size_put hT, h2]
    have := h3 K
    cases hF : F K with
    | none => rw [hF] at this; rw [this]; rfl
    | some l' => rw [hF] at this; rw [this.1]; rfl
  · by_cases hj : j = K
    · subst hj
      rw [updS_same]
      exact ⟨has_put_same hT.isMap (islitS _) _, g, cap, fun z => atKey_put_same hT.isMap (islitS _) _ z, hk _ _ _ hl0 hl, hbg, hl0⟩
    · rw [updS_other _ _ hj]
      have := h3 j
      cases hF : F j with
      | none => rw [hF] at this; exact (has_put_other (litneS hj) _).trans this
      | some l' =>
        rw [hF] at this
        obtain ⟨a, g', cap', b1, b2, b3, b4⟩ := this
        exact ⟨(has_put_other (litneS hj) _).trans a, g', cap', fun z => (atKey_put_other (litneS hj) _ z).trans (b1 z), hk _ _ _ b4 b2, b3, b4⟩
/-- 'm[s] = b' -/
theorem wpList_putText (w : World) {ops : Array Oper} {rest : List Oper} {o : Oper} {a : Act} {Q : Exit → Act → World → Prop} (hg : o.guard = none) (m x v : Operand) (hop : o.op = Op.mapUpdate 45 m x v)
    {base b n : Nat} {F : List UInt8 → Option (List Nat)} {np : Nat} (h : TextMap w base b n F np) (hn : n < 1000000) {s : ByteArray} (hs : s.size ≤ maxLen) {g cap : Nat} {l : List Nat} (hl : Nums .u8 w (some ⟨g, 0, none⟩) l.length cap l) (hbg : base ≤ g) (hl0 : 0 < l.length)
    (hm : a.eval m = .map (some b)) (hx : a.eval x = .string s) (hv : a.eval v = .slice (some ⟨g, 0, none⟩) l.length cap)
    (hK : ∀ w', TextMap w' base b (n + 1) (updS F s.data.toList (some l)) (if (F s.data.toList).isSome then np else np + 1) → w.grownBy w' (some b) → wpList Tryd.prog ops Q rest (a.put o.dst undef) w') : wpList Tryd.prog ops Q (o :: rest) a w := by
  have hb := h.block
  obtain ⟨D, h1, h2, h3⟩ := h
  refine wpList_mapUpdate_own w hg m x v _ hop 9 29 lawS Tryd.underlying45 rowR b n D hm h1 (by unfold maxLen; omega) _ _ _ hx hv (keyS hs) _ [] (rowR_mk g l.length cap) fun w' ho hgw => ?_
  exact hK w' (TextMap.put h2 h3 (h1.tidy lawS) ho hgw hb hl hbg hl0) hgw
end Go.Proofs.YtcaocebgkahbmaaDoor.MapsW

namespace Go.Proofs.YtcaocebgkahbmaaDoor.MapsW
open Go Go.RowKit Go.Maps Go.Sort Go.Shelf Go.Proofs Go.Proofs.YtcaocebgkahbmaaDoor.Mem
set_option linter.unusedVariables false
set_option maxRecDepth 100000

theorem skeys_w (mb : Option Nat) (w : World) : Calls Tryd.prog 18 #[.map mb] w fun e w' => e = .returned (.func (.func 31) #[] #[.pointer (some ⟨w.heap.size, 0, none⟩)]) ∧ w' = w.alloc (.cells #[.map mb] 45) :=
  (callsIn_wide (n := 5)).1 (AnyZ.keys_in Tryd.skeysA Fence.wide 5 trivial rfl mb w)
theorem ssorts_in (m : Nat) : AnyZ.SortsIn Tryd.prog Tryd.ssortedA_ren Fence.wide m :=
  ⟨fun blk off cap ss W hH hblk hsz => callsIn_wide.2 (AnyM.slices_Sort_string Tryd.ssortA blk off cap ss W hH hblk hsz),
   fun p cap W => callsIn_wide.2 (AnyM.slices_Sort_string_none Tryd.ssortA p cap W)⟩
theorem ssorted_w {H : Type} (b nn Bm : Nat) (D0 : DataW H) (R : Value → Option (DataW H × List MemPlace)) (w : World) (hBm : Bm < w.heap.size) (hm : w.cell? ⟨Bm, 0, none⟩ = some (.map (some b))) (hown : w.ownsMap Tryd.prog 9 R b nn D0) (hmax : Maps.size D0 ≤ 1000000) :
    Calls Tryd.prog 17 #[.func (.func 31) #[] #[.pointer (some ⟨Bm, 0, none⟩)]] w fun e w' => ∃ (v : Value) (ss : List (List UInt8)), e = .returned v ∧ ss.Perm (strKeys D0) ∧
      w'.ownsRow w.heap.size 9 1 v ss.length ((ss.mergeSort (fun x y => decide (x ≤ y))).map encStr) ∧ (v = .slice none 0 0 ↔ ss = []) ∧ Below w.heap.size w w' := by
  have hseq : SeqGives Fence.wide 2 Tryd.prog 31 #[.pointer (some ⟨Bm, 0, none⟩)] encStr (fun ss => ss.Perm (strKeys D0)) (Maps.size D0) w :=
    AnyZ.keys_gives (ρ := Tryd.skeysA_ren) { Tryd.skeysA with } Fence.wide _ trivial rfl (by omega) Bm b nn D0 _ hBm hm hown
  have cS := AnyZ.sorted_in Tryd.ssortedA Fence.wide 5 trivial trivial trivial trivial rfl (by omega) (ssorts_in _) (enters_of Tryd.func30 (by kernel_rfl) rfl) 31 #[.pointer (some ⟨Bm, 0, none⟩)] trivial (enters_of Tryd.func31 (by kernel_rfl) rfl) _ _ (by unfold maxLen; omega) (by omega) _ hseq
  exact callsIn_wide.1 cS
/-- what a map of rows has keys at: rising -/
structure SKeys (F : List UInt8 → Option (List Nat)) (ks : List (List UInt8)) : Prop where
  rise : ks.Pairwise (· < ·)
  mem : ∀ i, i ∈ ks ↔ (F i).isSome = true
  fit : ∀ i ∈ ks, i.length ≤ maxLen
theorem strKeys_is {H : Type} {w : World} {b n : Nat} {D : DataW H} {R : Value → Option (DataW H × List MemPlace)} (h : w.ownsMap Tryd.prog 9 R b n D) : (strKeys D).Nodup ∧ ∀ x, x ∈ strKeys D ↔ Maps.has D (.string x) = true := by
  obtain ⟨es, rfl, hpw, _⟩ := h.entries lawS
  obtain ⟨es', hD', hko⟩ := h.keysOf
  obtain rfl : es = es' := by simpa using hD'
  have hk : ∀ p ∈ es, ∃ x, p.1 = .string x := fun p hp => by
    obtain ⟨v, hv⟩ := hko p hp
    obtain ⟨x, _, hx, _⟩ := Maps.keyOf_str Tryd.underlying9 hv
    exact ⟨x, hx⟩
  constructor
  · show (es.map fun p => strOf p.1).Nodup
    refine List.pairwise_map.2 (hpw.imp_of_mem fun {p q} hp' hq' hne e => hne ?_)
    obtain ⟨a, ha⟩ := hk p hp'
    obtain ⟨b, hb⟩ := hk q hq'
    rw [ha, hb] at e ⊢
    exact congrArg _ e
  · intro x
    rw [has_eq, List.any_eq_true]
    show x ∈ es.map (fun p => strOf p.1) ↔ _
    rw [List.mem_map]
    constructor
    · rintro ⟨p, hp', rfl⟩
      obtain ⟨a, ha⟩ := hk p hp'
      exact ⟨p, hp', by rw [ha]; simp [Lit.sameKey, strOf]⟩
    · rintro ⟨p, hp', hs⟩
      obtain ⟨a, ha⟩ := hk p hp'
      rw [ha] at hs
      exact ⟨p, hp', by rw [ha]; simpa [Lit.sameKey, strOf] using hs⟩
/-- slices.Sorted of a map's keys -/
theorem skeys_sorted (b n Bm base np : Nat) (F : List UInt8 → Option (List Nat)) (w : World) (hBm : Bm < w.heap.size) (hm : w.cell? ⟨Bm, 0, none⟩ = some (.map (some b))) (h : TextMap w base b n F np) (hnp : np ≤ 1000000) :
    Calls Tryd.prog 17 #[.func (.func 31) #[] #[.pointer (some ⟨Bm, 0, none⟩)]] w fun e w' => ∃ (v : Value) (ks : List (List UInt8)), e = .returned v ∧ SKeys F ks ∧ ks.length = np ∧
      w'.ownsRow w.heap.size 9 1 v ks.length (ks.map encStr) ∧ Below w.heap.size w w' := by
  obtain ⟨D, h1, h2, h3⟩ := h
  obtain ⟨k1, k2⟩ := strKeys_is h1
  refine (ssorted_w b n Bm D rowR w hBm hm h1 (by omega)).mono ?_
  rintro e w' ⟨v, ss, rfl, hp, ho, _, hb⟩
  have hle : ∀ a b c : List UInt8, decide (a ≤ b) = true → decide (b ≤ c) = true → decide (a ≤ c) = true := fun a b c x y => by
    simp only [decide_eq_true_eq] at *; exact List.le_trans x y
  have hto : ∀ a b : List UInt8, (decide (a ≤ b) || decide (b ≤ a)) = true := fun a b => by
    simp only [Bool.or_eq_true, decide_eq_true_eq]; exact List.le_total a b
  have hs := List.pairwise_mergeSort hle hto ss
  have hpm := List.mergeSort_perm ss (fun x y => decide (x ≤ y))
  have hnd : (ss.mergeSort fun x y => decide (x ≤ y)).Nodup := (hpm.trans hp).nodup_iff.2 k1
  refine ⟨v, ss.mergeSort (fun x y => decide (x ≤ y)), rfl, ⟨?_, fun i => ?_, fun i hi => strKeys_le h1 Tryd.underlying9 i ((hpm.trans hp).mem_iff.1 hi)⟩, ?_, ?_, hb⟩
  · refine (hs.and hnd).imp fun {a b} q => ?_
    have q1 := q.1
    simp only [decide_eq_true_eq] at q1
    exact Classical.byContradiction fun hn => q.2 (List.le_antisymm q1 (List.not_lt.1 hn))
  · rw [(hpm.trans hp).mem_iff, k2]
    have := h3 i
    cases hF : F i with
    | none => rw [hF] at this; rw [this]; rfl
    | some l => rw [hF] at this; rw [this.1]; rfl
  · rw [hpm.length_eq, hp.length_eq, ← h2]
    obtain ⟨es, hD, _⟩ := h1.tidy lawS
    rw [hD]; simp [strKeys, Maps.size]
  · rw [hpm.length_eq]
    exact ho
end Go.Proofs.YtcaocebgkahbmaaDoor.MapsW

namespace Go.Proofs.YtcaocebgkahbmaaDoor.Text
open Go Go.RowKit Go.Proofs.YtcaocebgkahbmaaDoor.Mem
set_option linter.unusedVariables false
set_option maxRecDepth 100000

/-- a text's bytes -/
def txt (s : ByteArray) : List Nat := s.data.toList.map UInt8.toNat
/-- the text of bytes -/
def ofTxt (l : List Nat) : ByteArray := ⟨(l.map UInt8.ofNat).toArray⟩
theorem cells (s : ByteArray) : Lib.strCells s = nums .u8 (txt s) := by
  unfold Lib.strCells nums txt
  rw [List.map_map]
  rfl
theorem length (s : ByteArray) : (txt s).length = s.size := by
  unfold txt
  rw [List.length_map, Array.length_toList]
  rfl
theorem lt (s : ByteArray) : ∀ x ∈ txt s, x < 256 := by
  intro x hx
  simp only [txt, List.mem_map] at hx
  obtain ⟨b, _, rfl⟩ := hx
  exact b.toNat_lt
theorem txt_of {l : List Nat} (h : ∀ x ∈ l, x < 256) : txt (ofTxt l) = l := by
  unfold txt ofTxt
  simp only [List.map_map]
  induction l with
  | nil => rfl
  | cons x l ih =>
    rw [List.map_cons, ih fun y hy => h y (List.mem_cons_of_mem _ hy)]
    have := h x (by simp)
    simp only [Function.comp]
    rw [UInt8.toNat_ofNat', Nat.mod_eq_of_lt (by simpa using this)]
theorem of_txt (s : ByteArray) : ofTxt (txt s) = s := by
  unfold txt ofTxt
  rw [List.map_map]
  have : (UInt8.ofNat ∘ UInt8.toNat) = id := by funext b; simp
  rw [this, List.map_id]
theorem inj {s t : ByteArray} (h : txt s = txt t) : s = t := by rw [← of_txt s, ← of_txt t, h]
theorem size_of (l : List Nat) : (ofTxt l).size = l.length := by
  show (l.map UInt8.ofNat).toArray.size = _
  simp
theorem fold_push : ∀ (l : List Nat) (s : ByteArray), (l.map fun (x : Nat) => (x : Int)).foldl (fun r n => r.push (UInt8.ofNat n.toNat)) s = ⟨s.data ++ (l.map UInt8.ofNat).toArray⟩ := by
  intro l
  induction l with
  | nil => intro s; simp
  | cons x l ih =>
    intro s
    rw [List.map_cons, List.foldl_cons, ih]
    congr 1
    apply Array.ext'
    simp [ByteArray.push]

/-- bytes as a text -/
theorem conv {w : World} {a : Option Addr} {n cap : Nat} {l : List Nat} (h : Nums .u8 w a n cap l) :
    (convert 29 9 (.slice a n cap)).run Tryd.prog w = .ok (.string (ofTxt l)) w := by
  rw [run_convert_bytes_string w _ _ _ a n cap Tryd.underlying29 Tryd.underlying5 Tryd.underlying9]
  cases a with
  | none =>
    have hc := h.2.2.2.1 rfl
    have hn : n = 0 := by have := h.2.1; omega
    have hl : l = [] := List.eq_nil_of_length_eq_zero (by rw [h.len]; exact hn)
    subst hn; subst hl
    rfl
  | some ad =>
    have hlen := h.len
    have hl := run_loadCells_list (P := Tryd.prog) (w := w) ad ((l.map fun (x : Nat) => (x : Int)).map (Value.int .u8)) (fun j v hv => by
      obtain ⟨b, off, he, hc⟩ := h.2.2.2.2 j v (by unfold nums; rw [List.map_map] at hv; exact hv)
      cases he
      rw [Addr.add_lit]
      exact hc)
    rw [List.length_map, List.length_map, hlen] at hl
    rw [run_bytesToString w ad n cap (l.map fun (x : Nat) => (x : Int)) hl, fold_push]
    simp [ofTxt]
end Go.Proofs.YtcaocebgkahbmaaDoor.Text

namespace Go.Proofs.YtcaocebgkahbmaaDoor.KeepP
open Go
set_option linter.unusedVariables false

/-- bytes ahead of bytes, as texts are compared -/
theorem less_lt : ∀ (x y : List UInt8), Op.bytesLess x y = decide (x < y)
  | x, [] => by
    cases x with
    | nil => rfl
    | cons a x =>
      show false = _
      symm; rw [decide_eq_false_iff_not]; exact List.not_lt_nil _
  | [], b :: y => by
    show true = _
    symm; rw [decide_eq_true_eq]; exact List.nil_lt_cons _ _
  | a :: x, b :: y => by
    show (decide (a < b) || (a == b && Op.bytesLess x y)) = _
    rw [less_lt x y, Bool.eq_iff_iff]
    simp only [Bool.or_eq_true, Bool.and_eq_true, decide_eq_true_eq, beq_iff_eq, List.cons_lt_cons_iff]
/-- as numbers -/
def nat (x : List UInt8) : List Nat := x.map UInt8.toNat
/-- a list that rises, parted at a place -/
theorem filter_lt {l : List (List UInt8)} (h : l.Pairwise (· < ·)) {k : Nat} (hk : k < l.length) : l.filter (fun s => decide (s < l[k])) = l.take k := by
  have e : l = l.take k ++ l.drop k := (List.take_append_drop k l).symm
  have hp := List.pairwise_iff_getElem.1 h
  conv => lhs; arg 2; rw [e]
  rw [List.filter_append]
  have h1 : (l.take k).filter (fun s => decide (s < l[k])) = l.take k := by
    rw [List.filter_eq_self]
    intro a ha
    obtain ⟨i, hi, rfl⟩ := List.mem_iff_getElem.1 ha
    rw [List.length_take] at hi
    rw [List.getElem_take, decide_eq_true_eq]
    exact hp i k (by omega) hk (by omega)
  have h2 : (l.drop k).filter (fun s => decide (s < l[k])) = [] := by
    rw [List.filter_eq_nil_iff]
    intro a ha
    obtain ⟨i, hi, rfl⟩ := List.mem_iff_getElem.1 ha
    rw [List.length_drop] at hi
    rw [List.getElem_drop, decide_eq_true_eq]
    intro hlt
    by_cases hi0 : i = 0
    · subst hi0
      exact List.lt_irrefl _ hlt
    · have := hp k (k + i) hk (by omega) (by omega)
      exact List.lt_irrefl _ (List.lt_trans this hlt)
  rw [h1, h2, List.append_nil]
theorem filter_ge {l : List (List UInt8)} (h : l.Pairwise (· < ·)) {k : Nat} (hk : k < l.length) : l.filter (fun s => !decide (s < l[k])) = l.drop k := by
  have e : l = l.take k ++ l.drop k := (List.take_append_drop k l).symm
  have hp := List.pairwise_iff_getElem.1 h
  conv => lhs; arg 2; rw [e]
  rw [List.filter_append]
  have h1 : (l.take k).filter (fun s => !decide (s < l[k])) = [] := by
    rw [List.filter_eq_nil_iff]
    intro a ha
    obtain ⟨i, hi, rfl⟩ := List.mem_iff_getElem.1 ha
    rw [List.length_take] at hi
    rw [List.getElem_take, decide_eq_true (hp i k (by omega) hk (by omega))]
    decide
  have h2 : (l.drop k).filter (fun s => !decide (s < l[k])) = l.drop k := by
    rw [List.filter_eq_self]
    intro a ha
    obtain ⟨i, hi, rfl⟩ := List.mem_iff_getElem.1 ha
    rw [List.length_drop] at hi
    rw [List.getElem_drop]
    have : ¬ l[k + i] < l[k] := by
      intro hlt
      by_cases hi0 : i = 0
      · subst hi0
        exact List.lt_irrefl _ hlt
      · have := hp k (k + i) hk (by omega) (by omega)
        exact List.lt_irrefl _ (List.lt_trans this hlt)
    rw [decide_eq_false this]; rfl
  rw [h1, h2, List.nil_append]
/-- the j-th key -/
def key (j : Nat) : List UInt8 := if j % 6 = 0 then [UInt8.ofNat (j / 6)] else [UInt8.ofNat (j / 6), UInt8.ofNat (j % 6)]
theorem key_inj : ∀ i, i < 41 → ∀ j, j < 41 → key i = key j → i = j := by decide
def steps : List Nat := [1, 3, 7, 11, 13]
theorem step_inj : ∀ s ∈ steps, ∀ i, i < 41 → ∀ j, j < 41 → i * s % 41 = j * s % 41 → i = j := by decide
/-- the keys put so far -/
def ks (s n : Nat) : List (List UInt8) := (List.range n).map fun i => key (i * s % 41)
theorem ks_nodup {s n : Nat} (hs : s ∈ steps) (hn : n ≤ 41) : (ks s n).Nodup := by
  unfold ks
  rw [List.nodup_iff_pairwise_ne, List.pairwise_map]
  refine (List.nodup_range (n := n)).imp_of_mem fun {i j} hi hj hne e => hne ?_
  have hi := List.mem_range.1 hi
  have hj := List.mem_range.1 hj
  exact step_inj s hs i (by omega) j (by omega) (key_inj _ (Nat.mod_lt _ (by decide)) _ (Nat.mod_lt _ (by decide)) e)
theorem ks_new {s n : Nat} (hs : s ∈ steps) (hn : n < 41) : key (n * s % 41) ∉ ks s n := by
  intro h
  obtain ⟨i, hi, e⟩ := List.mem_map.1 h
  have hi := List.mem_range.1 hi
  have := step_inj s hs i (by omega) n hn (key_inj _ (Nat.mod_lt _ (by decide)) _ (Nat.mod_lt _ (by decide)) e)
  omega
theorem ks_succ (s n : Nat) : ks s (n + 1) = ks s n ++ [key (n * s % 41)] := by unfold ks; rw [List.range_succ, List.map_append]; rfl
end Go.Proofs.YtcaocebgkahbmaaDoor.KeepP

namespace Go.Proofs.YtcaocebgkahbmaaDoor.KeepW
open Go Go.RowKit Go.Maps Go.Proofs.YtcaocebgkahbmaaDoor.Mem Go.Proofs.YtcaocebgkahbmaaDoor.MapsW Go.Proofs.YtcaocebgkahbmaaDoor.DevG Go.Proofs.YtcaocebgkahbmaaDoor.Text Go.Proofs.YtcaocebgkahbmaaDoor.KeepP
set_option linter.unusedVariables false
set_option maxRecDepth 100000

theorem of_nat (K : List UInt8) : ofTxt (KeepP.nat K) = ⟨K.toArray⟩ := by
  unfold ofTxt KeepP.nat
  rw [List.map_map]
  have : (UInt8.ofNat ∘ UInt8.toNat) = id := by funext b; simp
  rw [this, List.map_id]
/-- a keep: its map l of n updates, with np keys -/
structure KAt (w : World) (base k l n : Nat) (F : List UInt8 → Option (List Nat)) (np : Nat) : Prop where
  c1 : w.cell? ⟨k, 1, none⟩ = some (.map (some l))
  bl : base ≤ l
  map : TextMap w base l n F np
theorem KAt.below {w w' : World} {base k l n : Nat} {F : List UInt8 → Option (List Nat)} {np : Nat} (h : KAt w base k l n F np) (hb : Below w.heap.size w w') : KAt w' base k l n F np :=
  ⟨kept hb h.c1, h.bl, h.map.below hb⟩
theorem KAt.lt {w : World} {base k l n : Nat} {F : List UInt8 → Option (List Nat)} {np : Nat} (h : KAt w base k l n F np) : l < w.heap.size := by
  obtain ⟨es, ck, hk⟩ := h.map.block
  exact (Array.getElem?_eq_some_iff.1 hk).1
theorem KAt.size {w : World} {base k l n : Nat} {F : List UInt8 → Option (List Nat)} {np : Nat} (h : KAt w base k l n F np) : base ≤ w.heap.size := by have := h.lt; have := h.bl; omega
theorem KAt.put {w w' : World} {base k l n n' : Nat} {F F' : List UInt8 → Option (List Nat)} {np np' : Nat} (h : KAt w base k l n F np) (hr : TextMap w' base l n' F' np') (hg : w.grownBy w' (some l)) : KAt w' base k l n' F' np' := by
  obtain ⟨es, ck, hm⟩ := h.map.block
  refine ⟨?_, h.bl, hr⟩
  have hlt := World.block_lt_of_cell? w ⟨k, 1, none⟩ h.c1
  rw [World.cell?_of_block (w := w) (hg.block k hlt fun e => by
    obtain rfl := Option.some.inj e
    have := h.c1
    simp [World.cell?, hm] at this)]
  exact h.c1
/-- a row of bytes is not the map -/
theorem KAt.row {w w' : World} {base k l n : Nat} {F : List UInt8 → Option (List Nat)} {np : Nat} (h : KAt w base k l n F np) (ht : Turn [l] w w') {g m cap : Nat} {xs : List Nat} (hx : Nums .u8 w (some ⟨g, 0, none⟩) m cap xs) (hm : 0 < m) : Nums .u8 w' (some ⟨g, 0, none⟩) m cap xs := by
  obtain ⟨es, ck, hmm⟩ := h.map.block
  obtain ⟨c, t, f, hc⟩ := nums_cells hx hm
  refine nums_of_cells hx (ht.block g (Array.getElem?_eq_some_iff.1 hc).1 fun e => ?_)
  rw [List.mem_singleton.1 e, hmm] at hc
  cases hc
theorem store {w : World} {base b n : Nat} {F : List UInt8 → Option (List Nat)} {np : Nat} (h : TextMap w base b n F np) (hn : n < 1000000) {K : List UInt8} (hs : K.length ≤ 40) {g cap : Nat} {l : List Nat} (hl : Nums .u8 w (some ⟨g, 0, none⟩) l.length cap l) (hbg : base ≤ g) (hl0 : 0 < l.length) :
    ∃ w', (Instr.mapUpdate 45 (.map (some b)) (.string ⟨K.toArray⟩) (.slice (some ⟨g, 0, none⟩) l.length cap)).run Tryd.prog w = .ok () w' ∧ TextMap w' base b (n + 1) (updS F K (some l)) (if (F K).isSome then np else np + 1) ∧ w.grownBy w' (some b) := by
  have hb := h.block
  obtain ⟨D, h1, h2, h3⟩ := h
  obtain ⟨w', hr, ho, hgw⟩ := h1.update lawS Tryd.underlying45 (by unfold maxLen; omega) (keyS (s := ⟨K.toArray⟩) (by show K.toArray.size ≤ maxLen; simp; unfold maxLen; omega)) (rowR_mk g l.length cap)
  exact ⟨w', hr, TextMap.put h2 h3 (h1.tidy lawS) ho hgw hb hl hbg hl0, hgw⟩
theorem row1 {w : World} {base : Nat} {v : Value} {n : Nat} {l : List Nat} (h : w.ownsRow base 5 1 v n (nums .u8 l)) (hn : 0 < n) : ∃ g cap, v = .slice (some ⟨g, 0, none⟩) n cap ∧ Nums .u8 w (some ⟨g, 0, none⟩) n cap l ∧ base ≤ g := by
  obtain ⟨a, cap, rfl, hr⟩ := ownsRow_slice h
  obtain ⟨g, rfl⟩ := own_some h hn
  exact ⟨g, cap, rfl, hr, (h.lt g rfl).1⟩
set_option maxHeartbeats 1600000 in
theorem put_w (base k l n : Nat) (F : List UInt8 → Option (List Nat)) (np : Nat) (kg kc : Nat) (K : List UInt8) (va : Option Addr) (vc : Nat) (vl : List Nat) (w : World) (h : KAt w base k l n F np) (hk : Nums .u8 w (some ⟨kg, 0, none⟩) K.length kc (KeepP.nat K)) (h1 : 1 ≤ K.length) (h40 : K.length ≤ 40)
    (hv : Nums .u8 w va vl.length vc vl) (v1 : 1 ≤ vl.length) (v120 : vl.length ≤ 120) (hn : n < 1000000) :
    Calls Tryd.prog 7 #[ptr k, .slice (some ⟨kg, 0, none⟩) K.length kc, .slice va vl.length vc] w fun e w' => e = .returned .nilIface ∧ KAt w' base k l (n + 1) (updS F K (some vl)) (if (F K).isSome then np else np + 1) ∧ Turn [l] w w' := by
  have d1 : decide ((K.length : Int) < 1) = false := decide_eq_false (by omega)
  have d2 : decide ((40 : Int) < (K.length : Int)) = false := decide_eq_false (by omega)
  have d3 : decide ((120 : Int) < (vl.length : Int)) = false := decide_eq_false (by omega)
  obtain ⟨np', hnp⟩ : ∃ q, q = (if (F K).isSome then np else np + 1) := ⟨_, rfl⟩
  rw [← hnp]
  have c1 := h.c1
  have hsz := h.size
  have cv : (convert 29 9 (.slice (some ⟨kg, 0, none⟩) K.length kc)).run Tryd.prog w.drew = .ok (.string ⟨K.toArray⟩) w.drew := by have := conv (Nums.below hk (Below.refl _ _).drew); rw [of_nat] at this; exact this
  go_enter Tryd.func7, Tryd.ntmps7
  go_wp2_with fail
  go_region_held3 (fun w' => w'.cell? ⟨k, 1, none⟩ = some (.map (some l)) ∧ (convert 29 9 (.slice (some ⟨kg, 0, none⟩) K.length kc)).run Tryd.prog w' = .ok (.string ⟨K.toArray⟩) w') (first | exact ⟨c1, cv⟩ | exact ⟨x3, cv3⟩ | exact ⟨x4, cv4⟩ | go_keep)
    ((go_at_call 13; refine (RefW.clone_w va vl.length vc vl _ (Nums.below hv (below_drewN (Below.refl _ _) _)) (by omega)).mono ?_; rintro e w3 ⟨v, rfl, own3, hb3⟩; obtain ⟨g, gc, rfl, hg, hgb⟩ := row1 own3 v1; have hgb' : w.heap.size ≤ g := hgb; have h3 := (KAt.below h (below_drewN (Below.refl _ _) 1)).below hb3; have hk3 := Nums.below (Nums.below hk (below_drewN (Below.refl _ _) 1)) hb3; have cv3 := conv hk3; rw [of_nat] at cv3; obtain ⟨w4, hrun, hr4, hg4⟩ := store h3.map hn h40 hg (show base ≤ g by omega) v1; rw [← hnp] at hr4; have x3 := h3.c1; have cv4 := conv (h3.row (Turn.of_grown hg4 (by simp)) hk3 h1); rw [of_nat] at cv4; have h4 := h3.put hr4 hg4; have x4 := h4.c1))
  have hT : Turn [l] w w4 := ((Turn.of_below (below_drewN (Below.refl _ w) 1)).then (Turn.of_below hb3)).then (Turn.of_grown hg4 (by simp))
  have H4 := hid h4
  clear h4 h3 h hr4 hg4 hrun hg hgb hgb' own3 hb3 hv hk hk3 x3 x4 c1 cv cv3 cv4
  go_wp2
  go_ret
  exact ⟨rfl, H4.out, hT⟩
end Go.Proofs.YtcaocebgkahbmaaDoor.KeepW

namespace Go.Proofs.YtcaocebgkahbmaaDoor.KeepW
open Go Go.RowKit Go.Maps Go.Proofs.YtcaocebgkahbmaaDoor.Mem Go.Proofs.YtcaocebgkahbmaaDoor.MapsW Go.Proofs.YtcaocebgkahbmaaDoor.DevG Go.Proofs.YtcaocebgkahbmaaDoor.Text Go.Proofs.YtcaocebgkahbmaaDoor.KeepP Go.Proofs.YtcaocebgkahbmaaDoor.PageW
set_option linter.unusedVariables false
set_option maxRecDepth 100000

theorem cloneTexts_w (b : Nat) (es : Array MapEntry) (ck : Nat) (w : World) (hb : w.heap[b]? = some (.map es ck)) :
    Calls Tryd.prog 28 #[.map (some b)] w fun e w' => e = .returned (.map (some w.heap.size)) ∧ w' = w.alloc (.map es ck) :=
  AnyW.maps_Clone Tryd.scloneA b es ck w hb
theorem len_w (base k l n np : Nat) (F : List UInt8 → Option (List Nat)) (w : World) (h : KAt w base k l n F np) :
    Calls Tryd.prog 10 #[ptr k] w fun e w' => e = .returned (.int .i64 np) ∧ w = w' := by
  have c1 := h.c1
  obtain ⟨E, hE, hnp⟩ := h.map.len
  have hl := hE.len Tryd.underlying45 3
  rw [hnp] at hl
  clear h hE hnp
  go_enter Tryd.func10, Tryd.ntmps10
  go_wp2
  go_ret
  exact ⟨rfl, rfl⟩
set_option maxHeartbeats 1600000 in
theorem keys_w (base k l n np : Nat) (F : List UInt8 → Option (List Nat)) (w : World) (h : KAt w base k l n F np) (hnp : np ≤ 1000000) :
    Calls Tryd.prog 14 #[ptr k] w fun e w' => ∃ (a : Option Addr) (cap : Nat) (ks : List (List UInt8)), e = .returned (.slice a ks.length cap) ∧ SKeys F ks ∧ ks.length = np ∧
      Row w' 1 a ks.length cap (ks.map encStr) ∧ Below w.heap.size w w' := by
  have c1 := h.c1
  have b1 := (Below.refl w.heap.size w).alloc (Nat.le_refl _) (.cells #[.map (some l)] 45)
  have hs := skeys_sorted l n w.heap.size base np F (w.alloc (.cells #[.map (some l)] 45)) (by simp) (by simp) (h.below b1).map hnp
  go_enter Tryd.func14, Tryd.ntmps14
  go_wp2_with fail
  refine (skeys_w (some l) w).mono ?_
  rintro e w1 ⟨rfl, rfl⟩
  go_wp2_with fail
  refine hs.mono ?_
  rintro e w2 ⟨v, ks, rfl, hK, hkl, own2, b2⟩
  have B2 := b1.trans (b2.mono (by simp))
  obtain ⟨va, vc, rfl, hvr⟩ := ownsRow_slice own2
  have HK := hid (And.intro hK hkl)
  clear hs b1 b2 own2 hK hkl h c1
  go_wp2_with fail
  go_ret
  exact ⟨_, _, ks, rfl, HK.out.1, HK.out.2, hvr, B2⟩
set_option maxHeartbeats 1600000 in
theorem copen_w (s a o : Nat) (w : World) (h : Fresh w s a o) :
    Calls Tryd.prog 16 #[ptr s] w fun e w' => ∃ k l, e = .returned (.tuple #[ptr k, .nilIface]) ∧ KAt w' w.heap.size k l 0 (fun _ => none) 0 ∧ Below w.heap.size w w' := by
  have hmm := @run_makeMap Tryd.prog
  obtain ⟨W, hW⟩ : ∃ W, W = (w.alloc MO).alloc (.cells #[ptr s, .map (some w.heap.size), .map none, .slice none 0 0] 48) := ⟨_, rfl⟩
  have bW : Below w.heap.size w W := by rw [hW]; exact ((Below.refl _ w).alloc (Nat.le_refl _) MO).alloc (by simp) _
  have zW : W.heap.size = w.heap.size + 2 := by rw [hW]; simp
  have hk : W.heap[w.heap.size + 1]? = some (.cells #[ptr s, .map (some w.heap.size), .map none, .slice none 0 0] 48) := by rw [hW]; exact alloc_at (by simp) _
  have hl : W.heap[w.heap.size]? = some MO := by rw [hW]; exact alloc_old (heap_alloc_new _ _)
  have hm : TextMap W w.heap.size w.heap.size 0 (fun _ => none) 0 := by
    have h0 := (TextMap.made w w.heap.size).below ((Below.refl _ _).alloc (Nat.le_refl _) (.cells #[ptr s, .map (some w.heap.size), .map none, .slice none 0 0] 48))
    rw [hW]; exact h0
  have hp := pages_w s a o W (h.below bW)
  go_enter Tryd.func16, Tryd.ntmps16
  go_wp2_with fail
  rw [← hW]
  refine hp.mono ?_
  rintro e W' ⟨rfl, hWW⟩
  rw [hWW]
  clear hWW W' hW hp h hmm
  go_wp2_with fail
  go_loopw [22] (fun i wr => i = .int .i64 0 ∧ wr = W) (fun _ _ => 0)
  case atStart => exact ⟨rfl, rfl⟩
  case round =>
    obtain ⟨rfl, hwr⟩ := hrel
    rw [hwr]
    clear hwr
    have hk1 : W.cell? ⟨w.heap.size + 1, 1, none⟩ = some (.map (some w.heap.size)) := by simp [World.cell?, hk]
    go_wp2_with fail
    refine (cloneTexts_w _ _ _ _ hl).mono ?_
    rintro e w2 ⟨rfl, rfl⟩
    obtain ⟨X, hX⟩ : ∃ X, X = (W.setCell ⟨w.heap.size + 1, 2, none⟩ (.map (some (w.heap.size + 2)))).alloc MO := ⟨_, rfl⟩
    have kf1 : W.cell? ⟨w.heap.size + 1, 2, none⟩ = some (.map none) ∧ W.frozen? ⟨w.heap.size + 1, 2, none⟩ = false := by simp [World.cell?, World.frozen?, hk]
    obtain ⟨kf1, kf2⟩ := kf1
    have bS : Below w.heap.size w (W.setCell ⟨w.heap.size + 1, 2, none⟩ (.map (some (w.heap.size + 2)))) := bW.setCell (by simp) _
    have bA := (Below.refl (W.setCell ⟨w.heap.size + 1, 2, none⟩ (.map (some (w.heap.size + 2)))).heap.size (W.setCell ⟨w.heap.size + 1, 2, none⟩ (.map (some (w.heap.size + 2))))).alloc (Nat.le_refl _) MO
    have bB : Below w.heap.size w X := by rw [hX]; exact bS.trans (bA.mono bS.size)
    have hF : KAt X w.heap.size (w.heap.size + 1) w.heap.size 0 (fun _ => none) 0 := by
      rw [hX]
      refine KAt.below ⟨?_, Nat.le_refl _, hm.keep (heap_setCell_other _ ⟨w.heap.size + 1, 2, none⟩ _ _ (by simp)) ?_⟩ bA
      · simp [World.cell?, World.setCell, Array.getElem?_modify, hk]
      · intro g hg hc hz
        refine heap_setCell_other _ ⟨w.heap.size + 1, 2, none⟩ _ _ ?_
        rintro rfl
        obtain ⟨z, hz⟩ := hz
        simp [World.cell?, hk] at hz
    clear hm bA bS hl hk
    go_wp2
    rw [← hX]
    exact bodyPost_ret (v := .tuple #[ptr (w.heap.size + 1), .nilIface]) (by simp [results, Tryd.results16, go_sem]) rfl ⟨_, _, rfl, hF, bB⟩
end Go.Proofs.YtcaocebgkahbmaaDoor.KeepW

namespace Go.Proofs.YtcaocebgkahbmaaDoor.KeepW
open Go Go.RowKit Go.Maps Go.Proofs.YtcaocebgkahbmaaDoor.Mem Go.Proofs.YtcaocebgkahbmaaDoor.MapsW Go.Proofs.YtcaocebgkahbmaaDoor.DevG Go.Proofs.YtcaocebgkahbmaaDoor.Text Go.Proofs.YtcaocebgkahbmaaDoor.KeepP
set_option linter.unusedVariables false
set_option maxRecDepth 100000

/-- []byte(s) -/
theorem bytes_run (K : List UInt8) (hK : K.length ≤ maxLen) (w : World) : ∃ cap w', (convert 9 29 (.string ⟨K.toArray⟩)).run Tryd.prog w = .ok (.slice (some ⟨w.heap.size, 0, none⟩) K.length cap) w' ∧
    Nums .u8 w' (some ⟨w.heap.size, 0, none⟩) K.length cap (KeepP.nat K) ∧ Below w.heap.size w w' ∧ w'.heap.size = w.heap.size + 1 := by
  have hs : (ByteArray.mk K.toArray).size = K.length := by show K.toArray.size = _; simp
  have h := Lib.run_convert_string_bytes (P := Tryd.prog) w 9 29 5 ⟨K.toArray⟩ Tryd.underlying9 Tryd.underlying29 Tryd.underlying5
  rw [hs] at h
  refine ⟨_, _, h, ⟨?_, grownCap_ge _ _ _ _, ?_, (fun e => nomatch e), fun j u hj => ?_⟩, Lib.bytesWorld_below _ _ _, Lib.bytesWorld_size _ _ _⟩
  · simp [nums, KeepP.nat]
  · exact grownCap_le_maxLen _ _ _ _ hK
  · refine ⟨_, _, rfl, ?_⟩
    have hj1 : j < K.length := by
      have := (List.getElem?_eq_some_iff.1 hj).1
      simpa [nums, KeepP.nat] using this
    rw [Nat.zero_add, Lib.bytesWorld_cell w _ _ j (by rw [hs]; exact hj1)]
    rw [← hj]
    simp [nums, KeepP.nat, hj1]
/-- pairs as cells -/
def pc : List (Value × Value) → List Value
  | [] => []
  | x :: r => x.1 :: x.2 :: pc r
theorem pc_append (a b : List (Value × Value)) : pc (a ++ b) = pc a ++ pc b := by
  induction a with
  | nil => rfl
  | cons x r ih => simp only [List.cons_append, pc, ih]
theorem pc_get : ∀ (a : List (Value × Value)) (j : Nat) (h : j < a.length), (pc a)[j * 2]? = some a[j].1 ∧ (pc a)[j * 2 + 1]? = some a[j].2
  | x :: r, 0, _ => ⟨rfl, rfl⟩
  | x :: r, j + 1, h => by
    have := pc_get r j (by simpa using h)
    rw [Nat.succ_mul]
    exact this
/-- bytes at the head of a block -/
def Bt (w : World) (v : Value) (l : List Nat) : Prop := ∃ g cap, v = .slice (some ⟨g, 0, none⟩) l.length cap ∧ Nums .u8 w (some ⟨g, 0, none⟩) l.length cap l ∧ 0 < l.length
theorem Bt.below {w w' : World} {v : Value} {l : List Nat} (h : Bt w v l) (hb : Below w.heap.size w w') : Bt w' v l := by
  obtain ⟨g, cap, h1, h2, h3⟩ := h
  exact ⟨g, cap, h1, h2.below hb, h3⟩
/-- the pairs of keys -/
def Pt (w : World) (F : List UInt8 → Option (List Nat)) : List (Value × Value) → List (List UInt8) → Prop
  | [], [] => True
  | x :: vs, s :: ks => Bt w x.1 (KeepP.nat s) ∧ (∃ l, F s = some l ∧ Bt w x.2 l) ∧ Pt w F vs ks
  | _, _ => False
theorem Pt.len {w : World} {F : List UInt8 → Option (List Nat)} : ∀ {vs : List (Value × Value)} {ks : List (List UInt8)}, Pt w F vs ks → vs.length = ks.length
  | [], [], _ => rfl
  | x :: vs, s :: ks, h => by simp only [List.length_cons]; rw [Pt.len h.2.2]
theorem Pt.imp {w w' : World} {F : List UInt8 → Option (List Nat)} (hw : ∀ v l, Bt w v l → Bt w' v l) : ∀ {vs : List (Value × Value)} {ks : List (List UInt8)}, Pt w F vs ks → Pt w' F vs ks
  | [], [], _ => trivial
  | x :: vs, s :: ks, h => by
    obtain ⟨h1, ⟨l, h2, h3⟩, h4⟩ := h
    exact ⟨hw _ _ h1, ⟨l, h2, hw _ _ h3⟩, Pt.imp hw h4⟩
theorem Pt.below {w w' : World} {F : List UInt8 → Option (List Nat)} {vs : List (Value × Value)} {ks : List (List UInt8)} (h : Pt w F vs ks) (hb : Below w.heap.size w w') : Pt w' F vs ks := h.imp fun _ _ k => k.below hb
theorem Pt.snoc {w : World} {F : List UInt8 → Option (List Nat)} {x y : Value} {s : List UInt8} {l : List Nat} (hx : Bt w x (KeepP.nat s)) (hF : F s = some l) (hy : Bt w y l) : ∀ {vs : List (Value × Value)} {ks : List (List UInt8)}, Pt w F vs ks → Pt w F (vs ++ [(x, y)]) (ks ++ [s])
  | [], [], _ => ⟨hx, ⟨l, hF, hy⟩, trivial⟩
  | z :: vs, t :: ks, h => ⟨h.1, h.2.1, Pt.snoc hx hF hy h.2.2⟩
theorem Pt.get {w : World} {F : List UInt8 → Option (List Nat)} : ∀ {vs : List (Value × Value)} {ks : List (List UInt8)}, Pt w F vs ks → ∀ (j : Nat) (h1 : j < vs.length) (h2 : j < ks.length), Bt w vs[j].1 (KeepP.nat ks[j]) ∧ ∃ l, F ks[j] = some l ∧ Bt w vs[j].2 l
  | x :: vs, s :: ks, h, 0, _, _ => ⟨h.1, h.2.1⟩
  | x :: vs, s :: ks, h, j + 1, h1, h2 => Pt.get h.2.2 j (by simpa using h1) (by simpa using h2)
theorem elPair : El Tryd.prog 33 37 (.agg #[.slice none 0 0, .slice none 0 0]) 2 48 := ⟨Tryd.underlying33, by kernel_rfl, rfl, by decide⟩
/-- bytes are not the pairs' own block -/
theorem Bt.away {w w' : World} {base : Nat} {v : Value} {n : Nat} {vs : List (Value × Value)} {F : List UInt8 → Option (List Nat)} {ks : List (List UInt8)} (own : w.ownsRow base 37 2 v n (pc vs)) (hp : Pt w F vs ks) (h0 : vs = [] → v = .slice none 0 0) (hn : n = vs.length) (hg : w.grownBy w' v.ownBlock) {x : Value} {l : List Nat} (hx : Bt w x l) : Bt w' x l := by
  obtain ⟨g, cap, h1, h2, h3⟩ := hx
  refine ⟨g, cap, h1, nums_of_cells h2 ?_, h3⟩
  obtain ⟨c, t, f, hc⟩ := nums_cells h2 h3
  refine hg.block g (Array.getElem?_eq_some_iff.1 hc).1 fun e => ?_
  cases vs with
  | nil => rw [h0 rfl] at e; cases e
  | cons z r =>
    obtain ⟨va, vc, rfl, hr⟩ := ownsRow_slice own
    obtain ⟨b, rfl⟩ := own_some own (by rw [hn]; simp)
    cases e
    obtain ⟨b', o', e1, e2⟩ := hr.2.2.2.2 0 z.1 rfl
    cases e1
    obtain ⟨b'', o'', e3, e4⟩ := h2.at (j := 0) (by rw [h2.len]; exact h3)
    cases e3
    cases ks with
    | nil => exact hp
    | cons s ks =>
      obtain ⟨g', cap', hz, _⟩ := hp.1
      rw [hz] at e2
      rw [e2] at e4
      cases e4
end Go.Proofs.YtcaocebgkahbmaaDoor.KeepW

namespace Go.Proofs.YtcaocebgkahbmaaDoor.KeepW
open Go Go.RowKit Go.Maps Go.Proofs.YtcaocebgkahbmaaDoor.Mem Go.Proofs.YtcaocebgkahbmaaDoor.MapsW Go.Proofs.YtcaocebgkahbmaaDoor.DevG Go.Proofs.YtcaocebgkahbmaaDoor.Text Go.Proofs.YtcaocebgkahbmaaDoor.KeepP
set_option linter.unusedVariables false
set_option maxRecDepth 100000

/-- which keys are told -/
def sel (f t : List UInt8) (s : List UInt8) : Bool := !decide (s < f) && (decide (t = []) || decide (s < t))
theorem less_mk (x y : List UInt8) : Op.bytesLess (ByteArray.mk x.toArray).toList (ByteArray.mk y.toArray).toList = decide (x < y) := by
  rw [ByteArray.toList_eq, ByteArray.toList_eq]
  exact less_lt x y
theorem filter_take {α : Type} (p : α → Bool) (l : List α) (j : Nat) (h : j < l.length) : (l.take (j + 1)).filter p = (l.take j).filter p ++ (if p l[j] = true then [l[j]] else []) := by
  rw [List.take_succ_eq_append_getElem h, List.filter_append]
  congr 1
  by_cases hp : p l[j] = true
  · simp [hp]
  · simp [hp]
set_option maxHeartbeats 3200000 in
theorem scan_w (base k l n np : Nat) (F : List UInt8 → Option (List Nat)) (fa : Option Addr) (fc : Nat) (f : List UInt8) (ta : Option Addr) (tc : Nat) (t : List UInt8) (w : World) (h : KAt w base k l n F np) (hnp : np ≤ 1000) (hF0 : ∀ s x, F s = some x → 0 < s.length ∧ x.length ≤ 1000)
    (hf : Nums .u8 w fa f.length fc (KeepP.nat f)) (ht : Nums .u8 w ta t.length tc (KeepP.nat t)) :
    Calls Tryd.prog 8 #[ptr k, .slice fa f.length fc, .slice ta t.length tc] w fun e w' => ∃ (a : Option Addr) (cap : Nat) (ks : List (List UInt8)) (vs : List (Value × Value)), e = .returned (.slice a (ks.filter (sel f t)).length cap) ∧ SKeys F ks ∧ ks.length = np ∧
      Row w' 2 a (ks.filter (sel f t)).length cap (pc vs) ∧ Pt w' F vs (ks.filter (sel f t)) ∧ Below w.heap.size w w' := by
  go_enter Tryd.func8, Tryd.ntmps8
  go_wp2_with fail
  refine (keys_w base k l n np F w h (by omega)).mono ?_
  rintro e w1 ⟨a, cap, ks, rfl, hK, hkl, hR, b1⟩
  have HK := hid hK
  have HR := hid hR
  have HA := hid (h.below b1)
  have Hf := hid (hf.below b1)
  have Ht := hid (ht.below b1)
  have Hb := hid b1
  have hb40 := hR.2.1
  have hb41 := hR.2.2.1
  unfold maxLen at hb41
  clear h hf ht hK hR b1
  go_wp2_with fail
  go_loopw [7, 13] (fun v i wr => ∃ (j : Nat) (vs : List (Value × Value)), j ≤ ks.length ∧ i = .int .i64 j ∧ wr.ownsRow w1.heap.size 37 2 v ((ks.take j).filter (sel f t)).length (pc vs) ∧ (vs = [] → v = .slice none 0 0) ∧ Pt wr F vs ((ks.take j).filter (sel f t)) ∧ Below w1.heap.size w1 wr) (fun _ i _ => ks.length - (intOf i).toNat)
  case atStart => exact ⟨0, [], by omega, rfl, World.ownsRow_nil _ _ _ _, fun _ => rfl, trivial, Below.refl _ _⟩
  case round =>
    obtain ⟨j, vs, hj, rfl, hown, h0, hP, hB⟩ := hrel
    by_cases hlt : j < ks.length
    · have KA := HA.out.below hB
      have c1 := KA.c1
      have hcf : (convert 29 9 (.slice fa f.length fc)).run Tryd.prog wr = .ok (.string ⟨f.toArray⟩) wr := by have := conv (Hf.out.below hB); rw [of_nat] at this; exact this
      have hct : (convert 29 9 (.slice ta t.length tc)).run Tryd.prog wr = .ok (.string ⟨t.toArray⟩) wr := by have := conv (Ht.out.below hB); rw [of_nat] at this; exact this
      obtain ⟨b, off, rfl, hc⟩ := (Row.below HR.out hB).2.2.2.2 j (encStr ks[j]) (by simp [hlt])
      have hmem : ks[j] ∈ ks := List.getElem_mem hlt
      have HF := hid (filter_take (sel f t) ks j hlt)
      have hfl : ((ks.take j).filter (sel f t)).length ≤ 1000 := Nat.le_trans (List.length_filter_le _ _) (by rw [List.length_take]; omega)
      have hsl := HK.out.fit _ hmem
      obtain ⟨xl, hFs⟩ := Option.isSome_iff_exists.1 ((HK.out.mem _).1 hmem)
      obtain ⟨hs0, hx1⟩ := hF0 _ _ hFs
      have i1 : (0 : Int) ≤ (j : Int) := by omega
      have i2 : (j : Int) < (ks.length : Int) := by omega
      generalize ks[j] = s at hc HF hsl hFs hs0
      have hc' : wr.cell? ⟨b, off + j, none⟩ = some (.string ⟨s.toArray⟩) := hc
      have hsz : (ByteArray.mk s.toArray).size ≤ maxLen := by show s.toArray.size ≤ maxLen; rw [List.size_toArray]; exact hsl
      have hlf := less_lt s f
      have hlt' := less_lt s t
      clear hc hmem
      cases h1 : decide (s < f)
      · rw [h1] at hlf
        by_cases ht0 : t = []
        · have hsel : sel f t s = true := by simp [sel, h1, ht0]
          rw [if_pos hsel] at HF
          have d0 : (((t.length : Nat) : Int) == 0) = true := by rw [ht0]; rfl
          clear ht0
          obtain ⟨bc, W1, hrun, hn1, hb1, hz1⟩ := bytes_run s hsl wr
          have KA1 := KA.below hb1
          have c1' := KA1.c1
          obtain ⟨gl, cl, hlook, hnl, hgl, hl0⟩ := KA1.map.look_some (s := ⟨s.toArray⟩) hsz (l := xl) hFs
          have hown1 := ownsRow_below hown hb1
          have hP1 := hP.below hb1
          have bt1 : Bt W1 (.slice (some ⟨wr.heap.size, 0, none⟩) s.length bc) (KeepP.nat s) := ⟨_, _, by rw [KeepP.nat, List.length_map], by rw [KeepP.nat, List.length_map]; exact hn1, by rw [KeepP.nat, List.length_map]; exact hs0⟩
          have hz := hB.size
          clear hown hP hn1 KA KA1
          go_wp2_with (first
            | (go_at_call 13; go_loud (refine (RefW.clone_w _ xl.length cl xl _ hnl (by omega)).mono ?_; rintro e W2 ⟨y, rfl, own3, hb2⟩; obtain ⟨gy, cy, rfl, hny, hgy⟩ := row1 own3 hl0; have hown2 := ownsRow_below hown1 hb2; have hP2 := hP1.below hb2; have bt2 := bt1.below hb2; have bty : Bt W2 (.slice (some ⟨gy, 0, none⟩) xl.length cy) xl := ⟨_, _, rfl, hny, hl0⟩; have z2 := hb2.size; have zz : w1.heap.size ≤ W2.heap.size := (by omega); clear hown1 hP1 bt1 hny own3 hlook hnl))
            | (at_builtin; go_must (refine wpList_app elPair rfl _ _ rfl w1.heap.size _ _ (pc vs) rfl (ownsRow_below hown2 ((Below.refl _ W2).alloc (Nat.le_refl _) _)) (some ⟨W2.heap.size, 0, none⟩) 1 1 [_, _] rfl (Row.fresh2 W2 _ _ _) (oneCell2 rfl rfl) (by unfold maxLen; omega) (by omega) (by simp; omega) ?_); intro v' W3 hown3 hb3 hg3))
          have bA := (Below.refl W2.heap.size W2).alloc (Nat.le_refl _) (.cells #[.slice (some ⟨wr.heap.size, 0, none⟩) s.length bc, .slice (some ⟨gy, 0, none⟩) xl.length cy] 37)
          have hownA := ownsRow_below hown2 bA
          have hPA := hP2.below bA
          have hlenv : vs.length = ((ks.take j).filter (sel f t)).length := hP2.len
          have im : ∀ x l', Bt _ x l' → Bt W3 x l' := fun x l' hx => Bt.away hownA hPA h0 hlenv.symm hg3 hx
          have hP3 := Pt.snoc (im _ _ (bt2.below bA)) hFs (im _ _ (bty.below bA)) (hPA.imp im)
          rw [show pc vs ++ [Value.slice (some ⟨wr.heap.size, 0, none⟩) s.length bc, Value.slice (some ⟨gy, 0, none⟩) xl.length cy] = pc (vs ++ [(Value.slice (some ⟨wr.heap.size, 0, none⟩) s.length bc, Value.slice (some ⟨gy, 0, none⟩) xl.length cy)]) by rw [pc_append]; rfl] at hown3
          have hB3 : Below w1.heap.size w1 W3 := ((hB.trans (hb1.mono hz)).trans (hb2.mono (by omega))).trans ((bA.mono zz).trans hb3)
          clear hown2 hP2 hownA hPA bt2 bty im bA hg3 hb3 hb2 hb1
          go_wp2_with fail
          go_roundw
          case rel => exact ⟨j + 1, vs ++ [(Value.slice (some ⟨wr.heap.size, 0, none⟩) s.length bc, Value.slice (some ⟨gy, 0, none⟩) xl.length cy)], by omega, by go_num, by rw [HF.out, List.length_append]; exact hown3, fun e => by simp at e, by rw [HF.out]; exact hP3, hB3⟩
          case measure => simp [intOf]; omega
        · have d0 : (((t.length : Nat) : Int) == 0) = false := by rw [beq_eq_false_iff_ne]; intro e; exact ht0 (List.eq_nil_of_length_eq_zero (by omega))
          cases h2 : decide (s < t)
          · rw [h2] at hlt'
            have hsel : ¬ sel f t s = true := by simp [sel, h1, h2, ht0]
            rw [if_neg hsel, List.append_nil] at HF
            go_wp2_with fail
            go_roundw
            case rel => exact ⟨j + 1, vs, by omega, by go_num, by rw [HF.out]; exact hown, h0, by rw [HF.out]; exact hP, hB⟩
            case measure => simp [intOf]; omega
          · rw [h2] at hlt'
            have hsel : sel f t s = true := by simp [sel, h1, h2]
            rw [if_pos hsel] at HF
            obtain ⟨bc, W1, hrun, hn1, hb1, hz1⟩ := bytes_run s hsl wr
            have KA1 := KA.below hb1
            have c1' := KA1.c1
            obtain ⟨gl, cl, hlook, hnl, hgl, hl0⟩ := KA1.map.look_some (s := ⟨s.toArray⟩) hsz (l := xl) hFs
            have hown1 := ownsRow_below hown hb1
            have hP1 := hP.below hb1
            have bt1 : Bt W1 (.slice (some ⟨wr.heap.size, 0, none⟩) s.length bc) (KeepP.nat s) := ⟨_, _, by rw [KeepP.nat, List.length_map], by rw [KeepP.nat, List.length_map]; exact hn1, by rw [KeepP.nat, List.length_map]; exact hs0⟩
            have hz := hB.size
            clear hown hP hn1 KA KA1
            go_wp2_with (first
              | (go_at_call 13; go_loud (refine (RefW.clone_w _ xl.length cl xl _ hnl (by omega)).mono ?_; rintro e W2 ⟨y, rfl, own3, hb2⟩; obtain ⟨gy, cy, rfl, hny, hgy⟩ := row1 own3 hl0; have hown2 := ownsRow_below hown1 hb2; have hP2 := hP1.below hb2; have bt2 := bt1.below hb2; have bty : Bt W2 (.slice (some ⟨gy, 0, none⟩) xl.length cy) xl := ⟨_, _, rfl, hny, hl0⟩; have z2 := hb2.size; have zz : w1.heap.size ≤ W2.heap.size := (by omega); clear hown1 hP1 bt1 hny own3 hlook hnl))
              | (at_builtin; go_must (refine wpList_app elPair rfl _ _ rfl w1.heap.size _ _ (pc vs) rfl (ownsRow_below hown2 ((Below.refl _ W2).alloc (Nat.le_refl _) _)) (some ⟨W2.heap.size, 0, none⟩) 1 1 [_, _] rfl (Row.fresh2 W2 _ _ _) (oneCell2 rfl rfl) (by unfold maxLen; omega) (by omega) (by simp; omega) ?_); intro v' W3 hown3 hb3 hg3))
            have bA := (Below.refl W2.heap.size W2).alloc (Nat.le_refl _) (.cells #[.slice (some ⟨wr.heap.size, 0, none⟩) s.length bc, .slice (some ⟨gy, 0, none⟩) xl.length cy] 37)
            have hownA := ownsRow_below hown2 bA
            have hPA := hP2.below bA
            have hlenv : vs.length = ((ks.take j).filter (sel f t)).length := hP2.len
            have im : ∀ x l', Bt _ x l' → Bt W3 x l' := fun x l' hx => Bt.away hownA hPA h0 hlenv.symm hg3 hx
            have hP3 := Pt.snoc (im _ _ (bt2.below bA)) hFs (im _ _ (bty.below bA)) (hPA.imp im)
            rw [show pc vs ++ [Value.slice (some ⟨wr.heap.size, 0, none⟩) s.length bc, Value.slice (some ⟨gy, 0, none⟩) xl.length cy] = pc (vs ++ [(Value.slice (some ⟨wr.heap.size, 0, none⟩) s.length bc, Value.slice (some ⟨gy, 0, none⟩) xl.length cy)]) by rw [pc_append]; rfl] at hown3
            have hB3 : Below w1.heap.size w1 W3 := ((hB.trans (hb1.mono hz)).trans (hb2.mono (by omega))).trans ((bA.mono zz).trans hb3)
            clear hown2 hP2 hownA hPA bt2 bty im bA hg3 hb3 hb2 hb1
            go_wp2_with fail
            go_roundw
            case rel => exact ⟨j + 1, vs ++ [(Value.slice (some ⟨wr.heap.size, 0, none⟩) s.length bc, Value.slice (some ⟨gy, 0, none⟩) xl.length cy)], by omega, by go_num, by rw [HF.out, List.length_append]; exact hown3, fun e => by simp at e, by rw [HF.out]; exact hP3, hB3⟩
            case measure => simp [intOf]; omega
      · rw [h1] at hlf
        have hsel : ¬ sel f t s = true := by simp [sel, h1]
        rw [if_neg hsel, List.append_nil] at HF
        go_wp2_with fail
        go_roundw
        case rel => exact ⟨j + 1, vs, by omega, by go_num, by rw [HF.out]; exact hown, h0, by rw [HF.out]; exact hP, hB⟩
        case measure => simp [intOf]; omega
    · obtain rfl : j = ks.length := by omega
      rw [List.take_length] at hown hP
      obtain ⟨va, vc, rfl, hr⟩ := ownsRow_slice hown
      have HO := hid (And.intro hr hP)
      clear hown hP
      go_wp2_with fail
      go_ret
      exact ⟨_, _, ks, vs, rfl, HK.out, hkl, HO.out.1, HO.out.2, Hb.out.trans (hB.mono Hb.out.size)⟩
end Go.Proofs.YtcaocebgkahbmaaDoor.KeepW

namespace Go.Proofs.YtcaocebgkahbmaaDoor.DevG
open Go Go.RowKit Go.Maps Go.Proofs.YtcaocebgkahbmaaDoor.Mem Go.Proofs.YtcaocebgkahbmaaDoor.MapsW
set_option linter.unusedVariables false
set_option maxRecDepth 100000

/-- a device behind a write that was told well -/
def Dv.wrote (D : Dv) (p : Nat) (l : List Nat) : Dv := D.tick.put p l
theorem Dv.wrote_np (D : Dv) (p : Nat) (l : List Nat) : (D.wrote p l).np ≤ D.np + 1 ∧ (D.wrote p l).calls = D.calls + 1 ∧ (D.wrote p l).blocks = D.blocks ∧ (D.wrote p l).fuse ≤ D.fuse := by
  have h := D.tick_same
  unfold Dv.wrote Dv.put
  refine ⟨?_, by simp [h.2.2.2.2.2.2.2.2.1], by simp [h.1], by simp [h.2.2.2.2.2.2.2.2.2]⟩
  simp only
  split
  · rw [h.2.2.2.2.2.2.1]; omega
  · rw [h.2.2.2.2.2.2.1]; omega
/-- a root saved: what is told, what the device has then -/
def Dv.save (D : Dv) (H ep : Nat) (b : List Nat) : Option Nat × Dv :=
  if D.tick.down then (some 5, D.tick) else
  if (D.wrote (ep % 2) b).tick.down then (some 5, (D.wrote (ep % 2) b).tick) else
  ((D.wrote (ep % 2) b).wrote (ep % 2 + H) b).flushT
/-- .. step by step -/
def Dv.stage (D : Dv) (H ep : Nat) (b : List Nat) : Nat → Dv
  | 0 => D
  | 1 => D.wrote (ep % 2) b
  | _ => (D.wrote (ep % 2) b).wrote (ep % 2 + H) b
theorem Dv.stage_succ (D : Dv) (H ep : Nat) (b : List Nat) (k : Nat) (hk : k < [ep % 2, ep % 2 + H].length) : D.stage H ep b (k + 1) = (D.stage H ep b k).wrote ([ep % 2, ep % 2 + H][k]) b := by
  match k, hk with
  | 0, _ => rfl
  | 1, _ => rfl
theorem Dv.stage_in (D : Dv) (H ep : Nat) (b : List Nat) (k : Nat) : (D.stage H ep b k).np ≤ D.np + 2 ∧ (D.stage H ep b k).calls ≤ D.calls + 2 ∧ (D.stage H ep b k).blocks = D.blocks ∧ (D.stage H ep b k).fuse ≤ D.fuse := by
  have h1 := D.wrote_np (ep % 2) b
  have h2 := (D.wrote (ep % 2) b).wrote_np (ep % 2 + H) b
  unfold Dv.stage
  split
  · exact ⟨by omega, by omega, rfl, Nat.le_refl _⟩
  · exact ⟨by omega, by omega, h1.2.2.1, h1.2.2.2⟩
  · exact ⟨by omega, by omega, h2.2.2.1.trans h1.2.2.1, Nat.le_trans h2.2.2.2 h1.2.2.2⟩
theorem Dv.save_down (D : Dv) (H ep : Nat) (b : List Nat) (k : Nat) (hk : k < 2) (hup : ∀ j, j < k → (D.stage H ep b j).tick.down = false) (hd : (D.stage H ep b k).tick.down = true) : D.save H ep b = (some 5, (D.stage H ep b k).tick) := by
  unfold Dv.save
  match k, hk with
  | 0, _ =>
    simp only [Dv.stage] at hd ⊢
    rw [if_pos hd]
  | 1, _ =>
    have h0 := hup 0 (by decide)
    simp only [Dv.stage] at h0 hd ⊢
    rw [h0, if_neg (by decide), if_pos hd]
theorem Dv.save_up (D : Dv) (H ep : Nat) (b : List Nat) (hup : ∀ j, j < 2 → (D.stage H ep b j).tick.down = false) : D.save H ep b = (D.stage H ep b 2).flushT := by
  unfold Dv.save
  have h0 := hup 0 (by decide)
  have h1 := hup 1 (by decide)
  simp only [Dv.stage] at h0 h1 ⊢
  rw [h0, if_neg (by decide), h1, if_neg (by decide)]
end Go.Proofs.YtcaocebgkahbmaaDoor.DevG
namespace Go.Proofs.YtcaocebgkahbmaaDoor.RootW
open Go Go.RowKit Go.Maps Go.Proofs.YtcaocebgkahbmaaDoor.Mem Go.Proofs.YtcaocebgkahbmaaDoor.MapsW Go.Proofs.YtcaocebgkahbmaaDoor.RootP Go.Proofs.YtcaocebgkahbmaaDoor.SeeW Go.Proofs.YtcaocebgkahbmaaDoor.RefsW Go.Proofs.YtcaocebgkahbmaaDoor.DevG Go.Proofs.YtcaocebgkahbmaaDoor.ConcatW
set_option linter.unusedVariables false
set_option maxRecDepth 100000

theorem nums_turn {k : IntKind} {S : List Nat} {w w' : World} {a : Option Addr} {n cap : Nat} {l : List Nat} (h : Nums k w a n cap l) (ht : Turn S w w') (hS : ∀ b o, a = some ⟨b, o, none⟩ → b ∉ S) : Nums k w' a n cap l :=
  Row.keep h fun b o e hlt => ht.block b hlt (hS b o e)
theorem cell_turn {S : List Nat} {w w' : World} {b o : Nat} {v : Value} (h : w.cell? ⟨b, o, none⟩ = some v) (ht : Turn S w w') (hS : b ∉ S) : w'.cell? ⟨b, o, none⟩ = some v :=
  (World.cell?_of_block (ht.block b (World.block_lt_of_cell? w _ h) hS)).trans h
def SaveTo (bs : List Addr) (w : World) (lo d n : Nat) (m : Mp) (r : Option Nat × Dv) (e : Ending) (w' : World) : Prop :=
  (∃ v, Says bs r.1 v ∧ e = .returned v) ∧ ∃ p', (p' = m.p ∨ w.heap.size ≤ p') ∧ At w' lo d n { m with p := p' } r.2 ∧ Turn (own d m) w w'
set_option maxHeartbeats 3200000 in
theorem save_w (bs : List Addr) (d lo n : Nat) (m : Mp) (D : Dv) (ep : Nat) (rs : List (Int × Nat)) (a : Option Addr) (c : Nat) (w : World) (h : At w lo d n m D) (hB : Ev w lo bs six) (hb1 : 300 ≤ D.blocks) (hb2 : D.blocks ≤ 6000) (hl : Refs w a rs.length c rs) (hg : RootP.Good ⟨ep, rs⟩) (hs : ∀ x ∈ rs, x.2 < 4294967296)
    (hn : n < 10000) (hp : D.np < 10000) (hc : D.calls < 900000) (hz : D.fuse ≤ 1000000) :
    Calls Tryd.prog 41 #[ptr d, Rv ep a rs.length c] w (SaveTo bs w lo d (n + 8 + 3 * D.np) m (D.save (GeoW.half D.blocks) ep (enc ⟨ep, rs⟩))) := by
  have bx := (Below.refl w.heap.size w).alloc (Nat.le_refl _) (.cells #[.int .i64 (ep : Int), .slice a rs.length c] 69)
  obtain ⟨x0, x1⟩ := new2 w (.int .i64 (ep : Int)) (.slice a rs.length c) 69
  obtain ⟨H, hH⟩ : ∃ H, H = GeoW.half D.blocks := ⟨_, rfl⟩
  have hH1 := GeoW.half_le D.blocks
  have hH2 := GeoW.half_512 D.blocks
  have hof := fun w => GeoW.of_good D.blocks w hb1 hb2
  rw [← hH] at hH1 hH2 ⊢
  simp only [← hH] at hof
  clear hH
  have h40 := hg.e2
  simp only at h40
  have hby := fun (w : World) (hl : Refs w a rs.length c rs) (hB : Ev w lo bs six) => bytes_ok bs lo ⟨ep, rs⟩ a rs.length c w hl (hB.sub (by decide)) hg hs
  have HOLD := hid h.old
  clear hg
  go_enter Tryd.func41, Tryd.ntmps41
  go_wp2_with fail
  refine (blocks_w d lo n m D _ (h.below bx)).mono ?_
  rintro e w' ⟨rfl, rfl⟩
  go_wp2_with fail
  refine (hof _).mono ?_
  rintro e w1 ⟨rfl, b1⟩
  have B1 := bx.trans (b1.mono bx.size)
  replace x0 := kept b1 x0
  replace x1 := kept b1 x1
  have al := (Below.refl w1.heap.size w1).alloc (Nat.le_refl _) (.cells #[.int .i64 (D.blocks : Int), .int .i64 (H : Int)] 91)
  obtain ⟨g0, g1⟩ := new2 w1 (.int .i64 (D.blocks : Int)) (.int .i64 (H : Int)) 91
  replace x0 := kept al x0
  replace x1 := kept al x1
  have B2 := B1.trans (al.mono B1.size)
  clear b1 al B1 hof
  go_wp2_with fail
  refine (hby _ (hl.below B2) (hB.below B2)).mono ?_
  rintro e w2 ⟨⟨v, rfl, own2⟩, b2⟩
  obtain ⟨gb, cb, rfl, nb, fb⟩ := row_of own2
  have zB := B2.size
  replace x0 := kept b2 x0
  replace g0 := kept b2 g0
  replace g1 := kept b2 g1
  have B3 := B2.trans (b2.mono B2.size)
  have fb' : w.heap.size ≤ gb := Nat.le_trans zB fb
  clear x1 own2 b2 B2 hby fb zB
  go_wp2_with fail
  refine (places_w D.blocks H ep _ (by omega) (by omega)).mono ?_
  rintro e w3 ⟨gp, rfl, np, b3, fp⟩
  have nb3 := nb.below b3
  have fp' : w.heap.size ≤ gp := Nat.le_trans B3.size fp
  have B4 := B3.trans (b3.mono B3.size)
  have h3 := h.below B4
  have hB3 := hB.below B4
  have hlo := h.own_lo
  have ob : gb ∉ own d m := fun hm => by have := HOLD.out gb hm; omega
  have op : gp ∉ own d m := fun hm => by have := HOLD.out gp hm; omega
  clear g0 g1 x0 nb b3 fp B3 h hB hl fb' fp'
  have HI := hid (Dv.stage_in D H ep (enc ⟨ep, rs⟩))
  have HS := hid (Dv.stage_succ D H ep (enc ⟨ep, rs⟩))
  have HD := hid (Dv.save_down D H ep (enc ⟨ep, rs⟩))
  have HU := hid (Dv.save_up D H ep (enc ⟨ep, rs⟩))
  have h0 : At w3 lo d n m (D.stage H ep (enc ⟨ep, rs⟩) 0) := h3
  generalize hst : D.stage H ep (enc ⟨ep, rs⟩) = st at *
  generalize hbe : enc ⟨ep, rs⟩ = b at *
  clear h3 hst hbe hs
  go_wp2_with fail
  go_loopw [33] (fun i wr => ∃ k : Nat, k ≤ 2 ∧ i = .int .i64 k ∧ At wr lo d (n + k) m (st k) ∧ Turn (own d m) w3 wr ∧ ∀ j, j < k → (st j).tick.down = false) (fun i _ => 2 - (intOf i).toNat)
  case atStart => exact ⟨0, by omega, rfl, h0, Turn.refl _ _, fun j hj => by omega⟩
  case round =>
    clear h0
    obtain ⟨k, hk, rfl, h0, hT, hup⟩ := hrel
    have HUP := hid hup
    clear hup
    obtain ⟨i1, i2, i3, i4⟩ := HI.out k
    have nb' := nums_turn nb3 hT (fun b o e => by cases e; exact ob)
    have np' := nums_turn np hT (fun b o e => by cases e; exact op)
    have hB' := hB3.turn hT hlo
    by_cases hlt : k < 2
    · have hkl : k < [ep % 2, ep % 2 + H].length := hlt
      obtain ⟨bq, oq, e, hc'⟩ := np'.at hkl
      cases e
      have HS2 := hid (HS.out k hkl)
      have hin : [ep % 2, ep % 2 + H][k] < D.blocks := by
        have : ∀ x ∈ [ep % 2, ep % 2 + H], x < D.blocks := by simp; omega
        exact this _ (List.getElem_mem hkl)
      generalize [ep % 2, ep % 2 + H][k] = x at hc' HS2 hin
      rw [Nat.zero_add] at hc'
      by_cases hd : (st k).tick.down = true
      · have hw := write_no bs d lo _ m (st k) x (some ⟨gb, 0, none⟩) 256 cb wr h0 (hB'.sub (by decide)) (by omega) (fits_nat (by omega)) 5 _ (by decide) rfl (.inl ⟨hd, rfl⟩)
        have HR := hid (HD.out k hlt HUP.out hd)
        have HT := hid hT
        clear hd nb' np' hB' h0 hT
        go_wp2_with fail
        refine hw.mono ?_
        rintro e w4 ⟨⟨ax, hax, rfl⟩, h4, t4⟩
        go_wp2_with fail
        go_ret
        rw [HR.out]
        exact ⟨⟨_, ⟨ax, hax, rfl⟩, rfl⟩, m.p, .inl rfl, h4.mono (by omega) (Nat.le_refl _), ((Turn.of_below B4).trans HT.out (fun x hx => .inl hx)).then (own1 t4)⟩
      · have hd : (st k).tick.down = false := by simpa using hd
        have hw := write_ok d lo _ m (st k) x _ cb b wr h0 (by omega) (by omega) nb' (by omega) (by omega) (by omega) hd
        have HT := hid hT
        have HUQ := hid (show ∀ j, j < k + 1 → (st j).tick.down = false from fun j hj => (Nat.lt_or_ge j k).elim (fun h => HUP.out j h) (fun h => by rw [show j = k by omega]; exact hd))
        clear hd nb' np' hB' h0 hT
        go_wp2_with fail
        refine hw.mono ?_
        rintro e w4 ⟨rfl, h4, t4⟩
        have H4 := hid h4
        have T4 := hid t4
        clear h4 t4
        go_wp2_with fail
        go_roundw
        case rel => exact ⟨k + 1, by omega, by go_num, by rw [HS2.out]; exact H4.out, HT.out.then T4.out, HUQ.out⟩
        case measure => simp [intOf]; omega
    · obtain rfl : k = 2 := by omega
      have hw := flush_w bs d lo _ m (st 2) wr h0 (hB'.sub (by decide)) (by omega) (by omega) (by omega) (by omega)
      have HR := hid (HU.out HUP.out)
      have HT := hid hT
      clear nb' np' hB' h0 hT
      go_wp2_with fail
      refine hw.mono ?_
      rintro e w4 ⟨⟨v, hv, rfl⟩, p', hp', h4, t4⟩
      have H4 := hid h4
      have T4 := hid t4
      clear h4 t4
      go_wp2_with fail
      go_ret
      rw [HR.out]
      exact ⟨⟨v, hv, rfl⟩, p', hp'.imp id (fun h => by have := HT.out.size; have := B4.size; omega), H4.out.mono (by omega) (Nat.le_refl _), ((Turn.of_below B4).trans HT.out (fun x hx => .inl hx)).then T4.out⟩
end Go.Proofs.YtcaocebgkahbmaaDoor.RootW

namespace Go.Proofs.YtcaocebgkahbmaaDoor.DevG
open Go Go.RowKit Go.Maps Go.Proofs.YtcaocebgkahbmaaDoor.Mem Go.Proofs.YtcaocebgkahbmaaDoor.MapsW
set_option linter.unusedVariables false

/-- up, unarmed, nothing pending -/
structure Dv.Idle (D : Dv) : Prop where
  down : D.down = false
  fuse : D.fuse = 0
  np : D.np = 0
  pe : ∀ i, D.pe i = none
  fl : ∀ i l, D.fl i = some l → Crc.Bytes l
theorem Dv.Idle.new (b : Nat) : (Dv.new b).Idle := ⟨rfl, rfl, rfl, fun _ => rfl, fun i l h => (by cases h)⟩
theorem Dv.Idle.kept {D : Dv} (h : D.Idle) (i : Int) : Crc.Bytes (keptOf D i) := by
  unfold keptOf
  cases hF : D.fl i with
  | none =>
    intro x hx
    rw [(List.mem_replicate.1 hx).2]; decide
  | some l => exact h.fl i l hF
theorem Dv.Idle.read {D : Dv} (h : D.Idle) (i : Int) : D.read i = if D.fi i then none else some (keptOf D i) := by
  unfold Dv.read; rw [h.pe]
theorem Dv.Idle.bytes {D : Dv} (h : D.Idle) : ∀ i l, D.read i = some l → Crc.Bytes l := by
  intro i l hr
  rw [h.read] at hr
  split at hr
  · cases hr
  · cases hr; exact h.kept i
theorem Dv.new_read (b : Nat) (i : Int) : (Dv.new b).read i = some (List.replicate 256 0) := rfl
/-- what a device has behind a save that was told well -/
def Dv.saved (D : Dv) (H ep : Nat) (b : List Nat) : Dv := ((D.put ((ep % 2 : Nat) : Int) b).put ((ep % 2 + H : Nat) : Int) b).flush
theorem Dv.save_idle {D : Dv} (h : D.Idle) (H ep : Nat) (b : List Nat) : D.save H ep b = (none, D.saved H ep b) := by
  have e0 : D.tick = D := Dv.tick_zero h.fuse
  have f1 : (D.wrote (ep % 2) b).fuse = 0 := by have := (D.wrote_np (ep % 2) b).2.2.2; have := h.fuse; omega
  have f2 : ((D.wrote (ep % 2) b).wrote (ep % 2 + H) b).fuse = 0 := by have := ((D.wrote (ep % 2) b).wrote_np (ep % 2 + H) b).2.2.2; omega
  have e1 : (D.wrote (ep % 2) b) = D.put ((ep % 2 : Nat) : Int) b := by unfold Dv.wrote; rw [e0]
  have e2 : (D.wrote (ep % 2) b).wrote (ep % 2 + H) b = (D.put ((ep % 2 : Nat) : Int) b).put ((ep % 2 + H : Nat) : Int) b := by
    rw [← e1]; show (D.wrote (ep % 2) b).tick.put _ b = _; rw [Dv.tick_zero f1]
  have d1 : (D.wrote (ep % 2) b).down = false := by rw [e1]; exact h.down
  have d2 : ((D.wrote (ep % 2) b).wrote (ep % 2 + H) b).down = false := by rw [e2]; exact h.down
  unfold Dv.save Dv.flushT
  rw [e0, h.down, if_neg (by decide), Dv.tick_zero f1, d1, if_neg (by decide), Dv.tick_zero f2, d2, if_neg (by decide), e2]
  rfl
theorem Dv.saved_pe {D : Dv} (h : D.Idle) (H ep : Nat) (b : List Nat) (i : Int) : ((D.put ((ep % 2 : Nat) : Int) b).put ((ep % 2 + H : Nat) : Int) b).pe i = if i = ((ep % 2 : Nat) : Int) ∨ i = ((ep % 2 + H : Nat) : Int) then some b else none := by
  show upd (upd D.pe _ _) _ _ i = _
  by_cases h2 : i = ((ep % 2 + H : Nat) : Int)
  · rw [if_pos (.inr h2), h2, upd_same]
  · rw [upd_other _ _ h2]
    by_cases h1 : i = ((ep % 2 : Nat) : Int)
    · rw [if_pos (.inl h1), h1, upd_same]
    · rw [upd_other _ _ h1, if_neg (fun e => e.elim h1 h2), h.pe]
theorem Dv.saved_idle {D : Dv} (h : D.Idle) (H ep : Nat) {b : List Nat} (hb : Crc.Bytes b) : (D.saved H ep b).Idle := by
  refine ⟨h.down, h.fuse, rfl, fun _ => rfl, fun i l hl => ?_⟩
  change (if (((D.put ((ep % 2 : Nat) : Int) b).put ((ep % 2 + H : Nat) : Int) b).pe i).isSome then ((D.put ((ep % 2 : Nat) : Int) b).put ((ep % 2 + H : Nat) : Int) b).pe i else D.fl i) = some l at hl
  rw [Dv.saved_pe h] at hl
  by_cases c : i = ((ep % 2 : Nat) : Int) ∨ i = ((ep % 2 + H : Nat) : Int)
  · rw [if_pos c] at hl
    have e : some b = some l := hl
    cases e
    exact hb
  · rw [if_neg c] at hl
    exact h.fl i l hl
theorem Dv.saved_calls (D : Dv) (H ep : Nat) (b : List Nat) : (D.saved H ep b).calls = D.calls + 3 ∧ (D.saved H ep b).blocks = D.blocks := ⟨rfl, rfl⟩
/-- what is read of it, whether it may be faulted -/
theorem Dv.saved_at {D : Dv} (h : D.Idle) (H ep : Nat) (b : List Nat) (i : Int) :
    (D.saved H ep b).fl i = (if i = ((ep % 2 : Nat) : Int) ∨ i = ((ep % 2 + H : Nat) : Int) then some b else D.fl i) ∧
    (D.saved H ep b).fi i = (if i = ((ep % 2 : Nat) : Int) ∨ i = ((ep % 2 + H : Nat) : Int) then false else D.fi i) ∧
    (D.saved H ep b).fa i = (if i = ((ep % 2 : Nat) : Int) ∨ i = ((ep % 2 + H : Nat) : Int) then false else D.fa i) := by
  refine ⟨?_, ?_, ?_⟩
  · change (if (((D.put ((ep % 2 : Nat) : Int) b).put ((ep % 2 + H : Nat) : Int) b).pe i).isSome then ((D.put ((ep % 2 : Nat) : Int) b).put ((ep % 2 + H : Nat) : Int) b).pe i else D.fl i) = _
    rw [Dv.saved_pe h]
    split <;> rfl
  · change (if (((D.put ((ep % 2 : Nat) : Int) b).put ((ep % 2 + H : Nat) : Int) b).pe i).isSome then false else D.fi i) = _
    rw [Dv.saved_pe h]
    split <;> rfl
  · change (if (((D.put ((ep % 2 : Nat) : Int) b).put ((ep % 2 + H : Nat) : Int) b).pe i).isSome then false else D.fa i) = _
    rw [Dv.saved_pe h]
    split <;> rfl
theorem Dv.saved_read {D : Dv} (h : D.Idle) (H ep : Nat) {b : List Nat} (hb : Crc.Bytes b) (i : Int) :
    (D.saved H ep b).read i = if i = ((ep % 2 : Nat) : Int) ∨ i = ((ep % 2 + H : Nat) : Int) then some b else D.read i := by
  obtain ⟨h1, h2, _⟩ := Dv.saved_at h H ep b i
  rw [(Dv.saved_idle h H ep hb).read, h.read]
  unfold keptOf
  rw [h1, h2]
  split
  · rfl
  · rfl
end Go.Proofs.YtcaocebgkahbmaaDoor.DevG
namespace Go.Proofs.YtcaocebgkahbmaaDoor.RootW
open Go Go.RowKit Go.Maps Go.Proofs.YtcaocebgkahbmaaDoor.Mem Go.Proofs.YtcaocebgkahbmaaDoor.MapsW Go.Proofs.YtcaocebgkahbmaaDoor.RootP Go.Proofs.YtcaocebgkahbmaaDoor.DevG
set_option linter.unusedVariables false
set_option maxRecDepth 100000

theorem parse_zeros : parse (List.replicate 256 0) = none := by
  unfold parse
  rw [if_pos (by decide), if_neg]
  intro h
  have := h.1.e1
  revert this
  decide
theorem fold_best (r : Rt) (f : Nat → Option Rt) : ∀ (l : List Nat) (b : Rt), (b = r ∨ b.ep < r.ep) → (∀ s ∈ l, ∀ q, f s = some q → q = r ∨ q.ep < r.ep) →
    (l.foldl (fun b i => better b (f i)) b = r ∨ (l.foldl (fun b i => better b (f i)) b).ep < r.ep) ∧ ((b = r ∨ ∃ s ∈ l, f s = some r) → l.foldl (fun b i => better b (f i)) b = r) := by
  intro l
  induction l with
  | nil =>
    intro b hb _
    exact ⟨hb, fun h => h.elim id (fun ⟨s, hs, _⟩ => by cases hs)⟩
  | cons s l ih =>
    intro b hb hl
    have h1 : better b (f s) = r ∨ (better b (f s)).ep < r.ep := by
      cases hf : f s with
      | none => exact hb
      | some q =>
        show (if b.ep < q.ep then q else b) = r ∨ (if b.ep < q.ep then q else b).ep < r.ep
        split
        · exact hl s (by simp) q hf
        · exact hb
    have h2 := ih (better b (f s)) h1 fun x hx => hl x (by simp [hx])
    refine ⟨h2.1, fun h => h2.2 ?_⟩
    rcases h with rfl | ⟨x, hx, hfx⟩
    · left
      cases hf : f s with
      | none => rfl
      | some q =>
        show (if b.ep < q.ep then q else b) = b
        rcases hl s (by simp) q hf with rfl | h3
        · simp
        · rw [if_neg (by omega)]
    · rcases List.mem_cons.1 hx with rfl | hx
      · left
        rw [hfx]
        show (if b.ep < r.ep then r else b) = r
        rcases hb with rfl | h3
        · simp
        · rw [if_pos h3]
      · exact .inr ⟨x, hx, hfx⟩
/-- the root of the greatest epoch is found -/
theorem best_of {D : Dv} {H : Nat} {r : Rt} (h0 : 0 < r.ep) (h1 : ∃ s ∈ spots H, oneOf D (s : Int) = some r) (h2 : ∀ s ∈ spots H, ∀ q, oneOf D (s : Int) = some q → q = r ∨ q.ep < r.ep) : bestOf D H = r :=
  (fold_best r (fun i => oneOf D (i : Int)) (spots H) ⟨0, []⟩ (.inr h0) h2).2 (.inr h1)
theorem best_none {D : Dv} {H : Nat} (h : ∀ s ∈ spots H, oneOf D (s : Int) = none) : bestOf D H = ⟨0, []⟩ := by
  unfold bestOf bestUp
  rw [show (spots H).take 4 = spots H from rfl]
  revert h
  generalize spots H = l
  induction l with
  | nil => intro _; rfl
  | cons s l ih =>
    intro h
    rw [List.foldl_cons, h s (by simp)]
    exact ih fun x hx => h x (by simp [hx])
/-- a root that was turned -/
theorem parse_turned {r : Rt} (hg : RootP.Good r) (hs : ∀ x ∈ r.rs, x.2 < 4294967296) (at_ : Int) (t : Nat) (hne : Crc.turned (enc r) at_ t ≠ enc r) : parse (Crc.turned (enc r) at_ t) = none := by
  cases hp : parse (Crc.turned (enc r) at_ t) with
  | none => rfl
  | some q =>
    exfalso
    obtain ⟨h1, h2⟩ := parse_some hp
    have h3 : half q = half r := by
      rcases Int.lt_or_le at_ 0 with hn | hn
      · exact absurd (Crc.turned_neg _ t hn 4) hne
      · obtain ⟨p, rfl⟩ := Int.eq_ofNat_of_zero_le hn
        refine halves_eq p fun i hi => ?_
        rw [h2]
        rw [show Crc.turned (enc r) (p : Int) t = Crc.turnK (enc r) (p : Int) t 4 from rfl, Crc.turnK_get]
        cases (enc r)[i]? with
        | none => rfl
        | some c => simp only [Option.map_some]; rw [if_neg hi]
    exact hne (by rw [← h2]; unfold enc; rw [h3])
end Go.Proofs.YtcaocebgkahbmaaDoor.RootW

namespace Go.Proofs.YtcaocebgkahbmaaDoor.KeepW
open Go Go.RowKit Go.Maps Go.Proofs.YtcaocebgkahbmaaDoor.Mem Go.Proofs.YtcaocebgkahbmaaDoor.MapsW Go.Proofs.YtcaocebgkahbmaaDoor.DevG Go.Proofs.YtcaocebgkahbmaaDoor.Text Go.Proofs.YtcaocebgkahbmaaDoor.KeepP Go.Proofs.YtcaocebgkahbmaaDoor.PageW Go.Proofs.YtcaocebgkahbmaaDoor.RootW Go.Proofs.YtcaocebgkahbmaaDoor.RootP
set_option linter.unusedVariables false
set_option maxRecDepth 100000

theorem new_best (b : Nat) : bestOf (Dv.new b) (GeoW.half b) = ⟨0, []⟩ := best_none fun s _ => by
  unfold oneOf
  rw [Dv.new_read]
  exact parse_zeros
theorem KAt.mono {w : World} {base base' k l n : Nat} {F : List UInt8 → Option (List Nat)} {np : Nat} (h : KAt w base k l n F np) (hb : base' ≤ base) : KAt w base' k l n F np :=
  ⟨h.c1, Nat.le_trans hb h.bl, h.map.mono (Nat.le_refl _) hb⟩
set_option maxHeartbeats 800000 in
theorem reopened_w (bs : List Addr) (lo d n : Nat) (m : Mp) (D : Dv) (w : World) (k : At w lo d n m D) (hB : Ev w lo bs six) (h1 : 300 ≤ D.blocks) (h2 : D.blocks ≤ 6000) (hlo : lo ≤ w.heap.size) (hu : D.down = false) (hz : D.fuse = 0) (hbt : ∀ i l, D.read i = some l → Crc.Bytes l)
    (hb : bestOf D (GeoW.half D.blocks) = ⟨0, []⟩) :
    Calls Tryd.prog 12 #[ptr d] w fun e w' => ∃ q l, e = .returned (ptr q) ∧ KAt w' w.heap.size q l 0 (fun _ => none) 0 ∧ Below w.heap.size w w' := by
  go_enter Tryd.func12, Tryd.ntmps12
  go_wp2_with fail
  refine (page_w bs lo d n m D _ k hB h1 h2 hlo hu hz hbt hb).mono ?_
  rintro e w1 ⟨s, a, o, rfl, hF, b1⟩
  have hco := copen_w s a o w1 hF
  have z1 := b1.size
  clear k hB hF
  go_wp2_with fail
  refine hco.mono ?_
  rintro e w2 ⟨q, l, rfl, hK, b2⟩
  have HK := hid (And.intro (hK.mono z1) (b1.trans (b2.mono z1)))
  clear hco hK b1 b2
  go_wp2_with fail
  go_ret
  exact ⟨_, _, rfl, HK.out.1, HK.out.2⟩
set_option maxHeartbeats 800000 in
theorem opened_w (bs : List Addr) (w : World) (hB : Ev w w.heap.size bs six) :
    Calls Tryd.prog 6 #[.int .i64 1500] w fun e w' => ∃ q d l, e = .returned (.tuple #[ptr q, ptr d]) ∧ KAt w' w.heap.size q l 0 (fun _ => none) 0 ∧ Below w.heap.size w w' := by
  go_enter Tryd.func6, Tryd.ntmps6
  go_wp2_with fail
  refine (new_w 1500 _ (by omega) (by omega)).mono ?_
  rintro e w1 ⟨rfl, h1, b1, z1⟩
  have hr := reopened_w bs _ _ _ _ _ w1 h1 (hB.below b1) (by decide) (by decide) (by omega) rfl rfl (Dv.Idle.new 1500).bytes (new_best 1500)
  clear h1 hB
  go_wp2_with fail
  refine hr.mono ?_
  rintro e w2 ⟨q, l, rfl, hK, b2⟩
  have zz : w.heap.size ≤ w1.heap.size := by omega
  have HK := hid (And.intro (hK.mono zz) (b1.trans (b2.mono zz)))
  clear hr hK b1 b2
  go_wp2_with fail
  exact bodyPost_ret (v := .tuple #[ptr q, ptr (w.heap.size + 5)]) (by simp [results, Tryd.results6, go_sem]) rfl ⟨_, _, _, rfl, HK.out.1, HK.out.2⟩
theorem buf1 (w : World) (x : Nat) : Nums .u8 (w.alloc (.cells #[.int .u8 (x : Int)] 5)) (some ⟨w.heap.size, 0, none⟩) 1 1 [x] := by
  refine ⟨rfl, Nat.le_refl _, by decide, (fun e => nomatch e), fun j u hj => ⟨_, _, rfl, ?_⟩⟩
  cases j with
  | zero => cases hj; rw [World.cell?, heap_alloc_new]; rfl
  | succ j => simp [nums] at hj
/-- where F has a row, it is of a key of a byte and more, and short -/
def Small (F : List UInt8 → Option (List Nat)) : Prop := ∀ s x, F s = some x → 0 < s.length ∧ x.length ≤ 1000
theorem Small.upd {F : List UInt8 → Option (List Nat)} (h : Small F) {K : List UInt8} {l : List Nat} (hK : 1 ≤ K.length) (hl : l.length ≤ 120) : Small (updS F K (some l)) := by
  intro s x hx
  by_cases hs : s = K
  · subst hs
    rw [updS_same] at hx
    cases hx
    omega
  · rw [updS_other _ _ hs] at hx
    exact h s x hx
theorem Small.none : Small (fun _ => Option.none) := fun s x h => by cases h
/-- the first example's map -/
abbrev F1 : List UInt8 → Option (List Nat) := updS (updS (fun _ => none) [98] (some [49])) [97] (some [50])
theorem keys1 {ks : List (List UInt8)} (h : SKeys F1 ks) : ks = [[97], [98]] := by
  have hm : ∀ i, i ∈ ks ↔ i ∈ [[97], [98]] := fun i => by
    rw [h.mem i]
    by_cases h1 : i = [97]
    · subst h1; simp [updS]
    · by_cases h2 : i = [98]
      · subst h2; simp [updS]
      · simp [updS, h1, h2]
  have hp : ([[97], [98]] : List (List UInt8)).Pairwise (· < ·) := by decide
  refine List.Perm.eq_of_pairwise (le := fun a b => a < b) (fun a b _ _ h1 h2 => absurd h2 (List.lt_asymm h1)) h.rise hp ?_
  refine (List.perm_ext_iff_of_nodup ?_ (by decide)).2 hm
  exact h.rise.imp fun {a b} hlt e => by subst e; exact List.lt_irrefl _ hlt
/-- a byte's block, marked -/
abbrev mk1 (x : Int) : Obj := .cells #[.int .u8 x] 5 (1, 2)
theorem conv1 (w : World) (x : Int) (g : Nat) (hg : g = w.heap.size) : (convert 29 29 (.slice (some ⟨g, 0, none⟩) 1 1)).run Tryd.prog (w.alloc (.cells #[.int .u8 x] 5)) = .ok (.slice (some ⟨g, 0, none⟩) 1 1) (w.alloc (mk1 x)) :=
  Joins.run_convert_bytes_const_at w 29 5 #[.int .u8 x] 1 1 g hg Tryd.underlying29 Tryd.underlying5
theorem buf1m (w : World) (x : Nat) : Nums .u8 (w.alloc (mk1 (x : Int))) (some ⟨w.heap.size, 0, none⟩) 1 1 [x] := by
  refine ⟨rfl, Nat.le_refl _, by decide, (fun e => nomatch e), fun j u hj => ⟨_, _, rfl, ?_⟩⟩
  cases j with
  | zero => cases hj; rw [World.cell?, heap_alloc_new]; rfl
  | succ j => simp [nums] at hj
theorem buf2 (w : World) (x y : Nat) : Nums .u8 ((w.alloc (mk1 (x : Int))).alloc (mk1 (y : Int))) (some ⟨w.heap.size, 0, none⟩) 1 1 [x] ∧
    Nums .u8 ((w.alloc (mk1 (x : Int))).alloc (mk1 (y : Int))) (some ⟨w.heap.size + 1, 0, none⟩) 1 1 [y] ∧ Below w.heap.size w ((w.alloc (mk1 (x : Int))).alloc (mk1 (y : Int))) := by
  refine ⟨(buf1m w x).below ((Below.refl _ _).alloc (Nat.le_refl _) _), ?_, ((Below.refl _ w).alloc (Nat.le_refl _) _).alloc (by simp) _⟩
  have := buf1m (w.alloc (mk1 (x : Int))) y
  rw [show (w.alloc (mk1 (x : Int))).heap.size = w.heap.size + 1 by simp] at this
  exact this
set_option maxHeartbeats 3200000 in
theorem first_w (bs : List Addr) (w : World) (hB : Ev w w.heap.size bs six) : Calls Tryd.prog 4 #[] w fun e w' => e = .returned (.bool true) ∧ Below w.heap.size w w' := by
  go_enter Tryd.func4, Tryd.ntmps4
  go_wp2_with fail
  refine (opened_w bs w hB).mono ?_
  rintro e w1 ⟨q, d, l, rfl, K1, b1⟩
  obtain ⟨n1, n2, n3⟩ := buf2 w1 98 49
  have e1 := conv1 w1 98 _ rfl
  have e2 := conv1 (w1.alloc (mk1 98)) 49 (w1.heap.size + 1) (by simp)
  clear hB
  go_wp2_with fail
  refine (put_w _ q l 0 _ 0 w1.heap.size 1 [98] (some ⟨w1.heap.size + 1, 0, none⟩) 1 [49] _ (K1.below n3) n1 (by decide) (by decide) n2 (by decide) (by decide) (by decide)).mono ?_
  rintro e w2 ⟨rfl, K2, t2⟩
  have B2 := (b1.trans (n3.mono b1.size)).trans (t2.below (lo := w.heap.size) (by have := b1.size; have := n3.size; omega) (by simpa using K1.bl))
  obtain ⟨m1, m2, m3⟩ := buf2 w2 97 50
  clear n1 n2 n3 K1 b1 t2 e1 e2
  have e1 := conv1 w2 97 _ rfl
  have e2 := conv1 (w2.alloc (mk1 97)) 50 (w2.heap.size + 1) (by simp)
  go_wp2_with fail
  refine (put_w _ q l 1 _ 1 w2.heap.size 1 [97] (some ⟨w2.heap.size + 1, 0, none⟩) 1 [50] _ (K2.below m3) m1 (by decide) (by decide) m2 (by decide) (by decide) (by decide)).mono ?_
  rintro e w3 ⟨rfl, K3, t3⟩
  have B3 := (B2.trans (m3.mono B2.size)).trans (t3.below (lo := w.heap.size) (by have := B2.size; have := m3.size; omega) (by simpa using K2.bl))
  clear m1 m2 m3 K2 B2 t3 e1 e2
  go_wp2_with fail
  refine (scan_w _ q l 2 2 F1 none 0 [] none 0 [] w3 K3 (by decide) ((Small.none.upd (by decide) (by decide)).upd (by decide) (by decide)) (Nums.nil _ _) (Nums.nil _ _)).mono ?_
  rintro e w4 ⟨a, cap, ks, vs, rfl, hK, hkl, hR, hP, b4⟩
  have B4 := B3.trans (b4.mono B3.size)
  obtain rfl := keys1 hK
  have hfs : [[97], [98]].filter (sel [] []) = [[97], [98]] := by decide
  rw [hfs] at hR hP ⊢
  have hlen := hP.len
  obtain ⟨x0, x1, rfl⟩ : ∃ x0 x1, vs = [x0, x1] := by
    match vs, hlen with
    | [x0, x1], _ => exact ⟨x0, x1, rfl⟩
  obtain ⟨⟨g0, c0, ex0, hx0, _⟩, _⟩ := hP.get 0 (by simp) (by simp)
  obtain ⟨_, l1, hl1, ⟨g1, c1, ex1, hx1, _⟩⟩ := hP.get 1 (by simp) (by simp)
  have hl1' : l1 = [49] := by
    have : F1 [98] = some [49] := by decide
    exact Option.some.inj (hl1.symm.trans this)
  subst hl1'
  obtain ⟨x0a, x0b⟩ := x0
  obtain ⟨x1a, x1b⟩ := x1
  have ex0' : x0a = .slice (some ⟨g0, 0, none⟩) 1 c0 := ex0
  have ex1' : x1b = .slice (some ⟨g1, 0, none⟩) 1 c1 := ex1
  subst ex0' ex1'
  obtain ⟨b, off, rfl, y0⟩ := hR.2.2.2.2 0 (.slice (some ⟨g0, 0, none⟩) 1 c0) rfl
  obtain ⟨b', off', eb, y3⟩ := hR.2.2.2.2 3 (.slice (some ⟨g1, 0, none⟩) 1 c1) rfl
  cases eb
  have cv0 : (convert 29 9 (.slice (some ⟨g0, 0, none⟩) 1 c0)).run Tryd.prog w4 = .ok (.string ⟨#[97]⟩) w4 := conv hx0
  have cv1 : (convert 29 9 (.slice (some ⟨g1, 0, none⟩) 1 c1)).run Tryd.prog w4 = .ok (.string ⟨#[49]⟩) w4 := conv hx1
  have y0' : w4.cell? ⟨b, off, none⟩ = some (.slice (some ⟨g0, 0, none⟩) 1 c0) := y0
  have hcap : 2 ≤ cap := hR.2.1
  have hcap2 : cap ≤ 9223372036854775807 := hR.2.2.1
  clear B3 b4 K3 hK hkl hfs hP hR hx0 hx1 hl1 ex0 ex1 hlen y0
  go_wp2_with fail
  go_ret
  exact ⟨rfl, B4⟩
end Go.Proofs.YtcaocebgkahbmaaDoor.KeepW

namespace Go.Proofs.YtcaocebgkahbmaaDoor.NumW
open Go Go.RowKit Go.Proofs.YtcaocebgkahbmaaDoor.Mem
set_option linter.unusedVariables false
set_option maxRecDepth 100000

theorem tmod_pos {n b : Int} (hb : 0 < b) (h : ¬ n.tmod b < 0) : n.tmod b = n % b := by
  have h2 := Int.tmod_lt_of_pos n hb
  have h3 : n.tmod b % b = n % b := Int.emod_eq_emod_iff_emod_sub_eq_zero.2 (by
    have := Int.mul_tdiv_add_tmod n b
    have e : n.tmod b - n = b * (- n.tdiv b) := by rw [Int.mul_neg]; omega
    rw [e]; exact Int.mul_emod_right _ _)
  rw [← h3, Int.emod_eq_of_lt (by omega) h2]
theorem tmod_neg {n b : Int} (hb : 0 < b) (h : n.tmod b < 0) : n.tmod b + b = n % b := by
  have h1 : -b < n.tmod b := by
    have := Int.lt_tmod_of_pos n hb
    omega
  have h3 : (n.tmod b + b) % b = n % b := Int.emod_eq_emod_iff_emod_sub_eq_zero.2 (by
    have := Int.mul_tdiv_add_tmod n b
    have e : n.tmod b + b - n = b * (1 - n.tdiv b) := by rw [Int.mul_sub]; omega
    rw [e]; exact Int.mul_emod_right _ _)
  rw [← h3, Int.emod_eq_of_lt (by omega) (by omega)]

theorem number_w (n b : Int) (w : World) (hb : 0 < b) (hb2 : b ≤ 9223372036854775807) (h1 : -9223372036854775808 ≤ n) (h2 : n ≤ 9223372036854775807) :
    Calls Tryd.prog 5 #[.int .i64 n, .int .i64 b] w fun e w' => e = .returned (.int .i64 (n % b)) ∧ w = w' := by
  have q1 := Int.tmod_lt_of_pos n hb
  have q2 := Int.lt_tmod_of_pos n hb
  by_cases h : n.tmod b < 0
  · have HE := hid (tmod_neg hb h)
    go_enter Tryd.func5, Tryd.ntmps5
    go_wp2
    go_ret
    exact ⟨ret_int HE.out, rfl⟩
  · have HE := hid (tmod_pos hb h)
    go_enter Tryd.func5, Tryd.ntmps5
    go_wp2
    go_ret
    exact ⟨ret_int HE.out, rfl⟩
end Go.Proofs.YtcaocebgkahbmaaDoor.NumW

namespace Go.Proofs.YtcaocebgkahbmaaDoor.RecW
open Go Go.RowKit Go.Proofs.YtcaocebgkahbmaaDoor.Mem Go.Proofs.YtcaocebgkahbmaaDoor.RefW Go.Proofs.YtcaocebgkahbmaaDoor.Text
set_option linter.unusedVariables false
set_option maxRecDepth 100000

/-- a place as a value -/
abbrev P (k n i : Int) (s : ByteArray) : Value := .agg #[.int .i64 k, .int .i64 n, .int .i64 i, .string s]
/-- three bytes of a number -/
def b3 (n : Nat) : List Nat := [n / 65536 % 256, n / 256 % 256, n % 256]
/-- the number of bytes -/
def num (l : List Nat) : Nat := l.foldl (fun n c => n * 256 + c) 0
theorem num_snoc (l : List Nat) (c : Nat) : num (l ++ [c]) = num l * 256 + c := by simp [num]
theorem num_lt : ∀ (l : List Nat), (∀ x ∈ l, x < 256) → num l.reverse < 256 ^ l.length := by
  intro l
  induction l with
  | nil => intro; decide
  | cons x l ih =>
    intro h
    rw [List.reverse_cons, num_snoc, List.length_cons, Nat.pow_succ]
    have h1 := ih fun y hy => h y (List.mem_cons_of_mem _ hy)
    have h2 := h x (by simp)
    omega
theorem num_lt' (l : List Nat) (h : ∀ x ∈ l, x < 256) : num l < 256 ^ l.length := by
  have := num_lt l.reverse (fun x hx => h x (by simpa using hx))
  simpa using this

theorem or_i64 (v c : Nat) (hv : v < 65536) (hc : c < 256) : bits .or .i64 ((v : Int) * 256) (c : Int) = ((v * 256 + c : Nat) : Int) := by
  rw [bits_join .i64 62 (by decide) (fun n h0 h1 => IntWalk.i64_in _ (by omega)) 8 _ _ (by omega) (by omega) (by omega) (by omega) (by omega) (by omega)]
  omega

end Go.Proofs.YtcaocebgkahbmaaDoor.RecW

namespace Go.Proofs.YtcaocebgkahbmaaDoor.Text
open Go Go.RowKit Go.Proofs.YtcaocebgkahbmaaDoor.Mem Go.Proofs.YtcaocebgkahbmaaDoor.RefW
set_option linter.unusedVariables false
set_option maxRecDepth 100000

theorem own1 (w : World) (x : Nat) : (w.alloc (.cells #[.int .u8 (x : Int)] 5)).ownsRow w.heap.size 5 1 (.slice (some ⟨w.heap.size, 0, none⟩) 1 1) 1 (nums .u8 [x]) :=
  ⟨rfl, .inr ⟨w.heap.size, 1, #[.int .u8 (x : Int)], rfl, Nat.le_refl _, heap_alloc_new w _, by decide, by decide, rfl, rfl⟩⟩
theorem own4 (w : World) (x y z u : Nat) : (w.alloc (.cells #[.int .u8 (x : Int), .int .u8 (y : Int), .int .u8 (z : Int), .int .u8 (u : Int)] 5)).ownsRow w.heap.size 5 1 (.slice (some ⟨w.heap.size, 0, none⟩) 4 4) 4 (nums .u8 [x, y, z, u]) :=
  ⟨rfl, .inr ⟨w.heap.size, 4, #[.int .u8 (x : Int), .int .u8 (y : Int), .int .u8 (z : Int), .int .u8 (u : Int)], rfl, Nat.le_refl _, heap_alloc_new w _, by decide, by decide, rfl, rfl⟩⟩
theorem new4 (w : World) (x y z u : Value) (t : TypeId) : (w.alloc (.cells #[x, y, z, u] t)).cell? ⟨w.heap.size, 0, none⟩ = some x ∧ (w.alloc (.cells #[x, y, z, u] t)).cell? ⟨w.heap.size, 1, none⟩ = some y ∧ (w.alloc (.cells #[x, y, z, u] t)).cell? ⟨w.heap.size, 2, none⟩ = some z ∧ (w.alloc (.cells #[x, y, z, u] t)).cell? ⟨w.heap.size, 3, none⟩ = some u := by
  refine ⟨?_, ?_, ?_, ?_⟩ <;> simp

/-- append of a text to bytes of one's own -/
theorem wpList_text {w : World} {ops : Array Oper} {rest : List Oper} {o : Oper} {a : Act} {Q : Exit → Act → World → Prop}
    (hg : o.guard = none) (s x : Operand) (hop : o.op = .call { callee := .builtin .append, args := #[s, x], argTypes := #[29, 9] })
    (base : Nat) (v : Value) (n : Nat) (l : List Nat) (hs : a.eval s = v) (hown : w.ownsRow base 5 1 v n (nums .u8 l)) (t : ByteArray) (hx : a.eval x = .string t)
    (hb : n + t.size ≤ 140737488355328) (hbase : base ≤ w.heap.size)
    (h : ∀ v' w', w'.ownsRow base 5 1 v' (n + t.size) (nums .u8 (l ++ txt t)) → Below base w w' → wpList Tryd.prog ops Q rest (a.put o.dst v') w') : wpList Tryd.prog ops Q (o :: rest) a w := by
  obtain ⟨i, hi, hz0, hz1, hz2⟩ := info_parts elU8.hi
  refine Lib.wpList_append_own_string w hg s x _ _ hop base _ i Tryd.underlying29 Tryd.underlying9 hi hz0 hz1 hz2 v n _ hs hown t hx (by unfold maxLen; omega) hb hbase ?_
  intro v' w' h1 h2 h3
  refine h v' w' ?_ ((Below.refl _ _).grown h2 hbase fun b hb => (hown.lt b hb).1)
  rw [Text.cells] at h1
  unfold nums at h1 ⊢
  rw [List.map_append]
  exact h1
end Go.Proofs.YtcaocebgkahbmaaDoor.Text

namespace Go.Proofs.YtcaocebgkahbmaaDoor.Ints
open Go Go.RowKit Go.Proofs.YtcaocebgkahbmaaDoor.Mem
set_option linter.unusedVariables false
set_option maxRecDepth 100000

def ints (zs : List Int) : List Value := zs.map fun z => .int .i64 z
/-- a slice of integers -/
def Is (w : World) (a : Option Addr) (n cap : Nat) (zs : List Int) : Prop := Row w 1 a n cap (ints zs)
theorem Is.below {w w' : World} {a : Option Addr} {n cap : Nat} {zs : List Int} (h : Is w a n cap zs) (hb : Below w.heap.size w w') : Is w' a n cap zs := Row.below h hb
theorem Is.len {w : World} {a : Option Addr} {n cap : Nat} {zs : List Int} (h : Is w a n cap zs) : zs.length = n := by
  have := h.1; simp [ints] at this; omega
theorem Is.bound {w : World} {a : Option Addr} {n cap : Nat} {zs : List Int} (h : Is w a n cap zs) : n ≤ cap ∧ cap ≤ 9223372036854775807 := by
  have := h.2.2.1; unfold maxLen at this; exact ⟨h.2.1, by omega⟩
theorem Is.at {w : World} {a : Option Addr} {n cap : Nat} {zs : List Int} (h : Is w a n cap zs) {j : Nat} (hj : j < zs.length) :
    ∃ b off, a = some ⟨b, off, none⟩ ∧ w.cell? ⟨b, off + j, none⟩ = some (.int .i64 zs[j]) :=
  h.2.2.2.2 j _ (by simp [ints, hj])
/-- as the row's datum gives them -/
theorem is_of {w : World} {a : Option Addr} {len cap : Nat} {zs : List Int} (h : IsRow .i64 w a len cap zs) :
    ∃ l : List Int, Is w a len cap l ∧ ∀ x ∈ l, (Lit.int .i64 x).wf = true := by
  rcases h with ⟨rfl, rfl, rfl, rfl⟩ | ⟨x, rfl, hl, hm, hz, hc, hw⟩
  · exact ⟨[], ⟨rfl, Nat.le_refl _, Nat.zero_le _, fun _ => rfl, fun j u h => by simp [ints] at h⟩, by simp⟩
  · refine ⟨zs.take len, ⟨?_, hl, hm, fun h => by simp at h, fun j u hj => ?_⟩, ?_⟩
    · simp [ints]; omega
    · have hjl : j < len := by
        have := (List.getElem?_eq_some_iff.1 hj).1
        simp [ints] at this; omega
      have h1 := hc j (by omega)
      obtain ⟨b, off, spot⟩ := x
      have hs : spot = none := by
        have h0 := hc 0 (by omega)
        simpa [Addr.add] using World.cell?_spot h0
      subst hs
      refine ⟨b, off, rfl, ?_⟩
      rw [Addr.add_lit] at h1
      rw [h1]
      have hjz : j < zs.length := by omega
      have hu : u = .int .i64 (zs[j]) := by
        have h2 : (ints (zs.take len))[j]? = some (.int .i64 (zs[j])) := by
          simp [ints, hjl, hjz]
        rw [h2] at hj
        rw [← Option.some.inj hj]
      rw [hu, List.getD_eq_getElem?_getD, List.getElem?_eq_getElem hjz]
      rfl
    · intro y hy
      exact hw y (List.mem_of_mem_take hy)

theorem mem_take_succ {zs : List Int} {k : Nat} (h : k < zs.length) (x : Int) : x ∈ zs.take (k + 1) ↔ x ∈ zs.take k ∨ x = zs[k] := by
  rw [List.take_succ_eq_append_getElem h, List.mem_append, List.mem_singleton]

end Go.Proofs.YtcaocebgkahbmaaDoor.Ints

namespace Go.Proofs.YtcaocebgkahbmaaDoor.RecW
open Go Go.RowKit Go.Proofs.YtcaocebgkahbmaaDoor.Mem Go.Proofs.YtcaocebgkahbmaaDoor.RefW Go.Proofs.YtcaocebgkahbmaaDoor.Text
set_option linter.unusedVariables false
set_option maxRecDepth 100000

/-- two numbers held against one another -/
def sgn (x y : Int) : Int := if x < y then -1 else if y < x then 1 else 0
/-- the first that is not nothing -/
def orL : List Int → Int
  | [] => 0
  | x :: l => if x ≠ 0 then x else orL l
theorem orL_drop {zs : List Int} {k : Nat} (hk : k < zs.length) (h : zs[k] = 0) : orL (zs.drop k) = orL (zs.drop (k + 1)) := by
  rw [List.drop_eq_getElem_cons hk, orL, if_neg (by simpa using h)]
theorem orL_hit {zs : List Int} {k : Nat} (hk : k < zs.length) (h : zs[k] ≠ 0) : orL (zs.drop k) = zs[k] := by
  rw [List.drop_eq_getElem_cons hk, orL, if_pos h]

end Go.Proofs.YtcaocebgkahbmaaDoor.RecW

namespace Go.Proofs.YtcaocebgkahbmaaDoor.RecW
open Go Go.RowKit Go.Proofs.YtcaocebgkahbmaaDoor.Mem Go.Proofs.YtcaocebgkahbmaaDoor.RefW Go.Proofs.YtcaocebgkahbmaaDoor.Text
set_option linter.unusedVariables false
set_option maxRecDepth 100000

/-- bytes ahead of bytes -/
def lt : List Nat → List Nat → Bool
  | _, [] => false
  | [], _ :: _ => true
  | a :: x, b :: y => decide (a < b) || (a == b && lt x y)
theorem lt_self (x : List Nat) : lt x x = false := by
  induction x with
  | nil => rfl
  | cons a x ih => simp [lt, ih]
theorem lt_append (p x y : List Nat) : lt (p ++ x) (p ++ y) = lt x y := by
  induction p with
  | nil => rfl
  | cons a p ih => simp [lt, ih]
theorem lt_at {l l' : List Nat} {k x y : Nat} (h : l.take k = l'.take k) (hk : l[k]? = some x) (hk' : l'[k]? = some y) (hne : x ≠ y) : lt l l' = decide (x < y) := by
  obtain ⟨a, rfl⟩ := List.getElem?_eq_some_iff.1 hk
  obtain ⟨b, rfl⟩ := List.getElem?_eq_some_iff.1 hk'
  have e : lt l l' = lt (l.take k ++ l.drop k) (l'.take k ++ l'.drop k) := by rw [List.take_append_drop, List.take_append_drop]
  rw [e, h, lt_append, List.drop_eq_getElem_cons a, List.drop_eq_getElem_cons b, lt]
  have : (l[k] == l'[k]) = false := by simpa using hne
  rw [this, Bool.false_and, Bool.or_false]
theorem lt_end {l l' : List Nat} (h : l.take (min l.length l'.length) = l'.take (min l.length l'.length)) : lt l l' = decide (l.length < l'.length) := by
  rcases Nat.lt_or_ge l.length l'.length with hl | hl
  · rw [Nat.min_eq_left (by omega), List.take_length] at h
    have e : l' = l ++ l'.drop l.length := by
      conv => lhs; rw [← List.take_append_drop l.length l', ← h]
    have hd : l'.drop l.length ≠ [] := by
      intro e'
      have := congrArg List.length e'
      simp at this; omega
    have e2 : l = l ++ [] := by simp
    rw [decide_eq_true hl]
    conv => lhs; rw [e, e2]
    rw [List.append_nil]
    conv => lhs; arg 1; rw [e2]
    rw [lt_append]
    cases hc : l'.drop l.length with
    | nil => exact absurd hc hd
    | cons a y => rfl
  · rw [Nat.min_eq_right hl, List.take_length] at h
    have e : l = l' ++ l.drop l'.length := by
      conv => lhs; rw [← List.take_append_drop l'.length l, h]
    rw [decide_eq_false (by omega)]
    conv => lhs; rw [e]; arg 2; rw [← List.append_nil l']
    rw [lt_append]
    cases l.drop l'.length <;> rfl

set_option maxHeartbeats 1600000 in
theorem ahead_w (a : Option Addr) (n cap : Nat) (l : List Nat) (b : Option Addr) (m cap' : Nat) (l' : List Nat) (w : World) (h0 : Nums .u8 w a n cap l) (h1 : Nums .u8 w b m cap' l') :
    Calls Tryd.prog 9 #[.slice a n cap, .slice b m cap'] w fun e w' => e = .returned (.bool (lt l l')) ∧ Below w.heap.size w w' := by
  have HL0 := hid h0.len
  have HL1 := hid h1.len
  obtain ⟨c1, c2⟩ := h0.bound
  obtain ⟨c3, c4⟩ := h1.bound
  go_enter Tryd.func9, Tryd.ntmps9
  go_wp2
  all_goals
    go_loopw [6] (fun i wr => ∃ k : Nat, k ≤ min n m ∧ i = .int .i64 k ∧ l.take k = l'.take k ∧ Below w.heap.size w wr) (fun i _ => min n m - (intOf i).toNat)
    case atStart => exact ⟨0, by omega, rfl, by simp, Below.refl _ _⟩
    case round =>
      obtain ⟨k, hk, rfl, hT, hb⟩ := hrel
      have HT := hid hT
      clear hT
      by_cases hlt : k < min n m
      · have hkl : k < l.length := by rw [HL0.out]; omega
        have hkl' : k < l'.length := by rw [HL1.out]; omega
        obtain ⟨b0, o0, rfl, hc0⟩ := (h0.below hb).at hkl
        obtain ⟨b1, o1, rfl, hc1⟩ := (h1.below hb).at hkl'
        have HS0 := hid (List.take_succ_eq_append_getElem hkl)
        have HS1 := hid (List.take_succ_eq_append_getElem hkl')
        have HE0 := hid (List.getElem?_eq_getElem hkl)
        have HE1 := hid (List.getElem?_eq_getElem hkl')
        generalize l[k] = x at hc0 HS0 HE0
        generalize l'[k] = y at hc1 HS1 HE1
        have k1 : (k : Int) < n := by omega
        have k2 : (k : Int) < m := by omega
        clear h0 h1
        by_cases hxy : x = y
        · subst hxy
          go_wp2
          go_quiet (fail)
          go_wp2
          go_roundw
          case rel => exact ⟨k + 1, by omega, by go_num, by rw [HS0.out, HS1.out, HT.out], below_drewN hb _⟩
          case measure => simp [intOf]; omega
        · have hne : ((x : Int) != (y : Int)) = true := by simp; omega
          go_wp2
          go_quiet (fail)
          go_wp2
          go_quiet (fail)
          go_wp2
          go_ret
          refine ⟨ret_bool ?_, below_drewN (below_drewN hb _) _⟩
          rw [lt_at HT.out HE0.out HE1.out hxy]
      · have HN := hid (show l.take (min l.length l'.length) = l'.take (min l.length l'.length) by rw [HL0.out, HL1.out, show min n m = k by omega]; exact HT.out)
        have hkm : k = m ∨ k = n := by omega
        rcases hkm with rfl | rfl
        all_goals first | (exfalso; omega) | skip
        all_goals
          go_wp2
          go_ret
          refine ⟨ret_bool ?_, hb⟩
          rw [lt_end HN.out, HL0.out, HL1.out]
end Go.Proofs.YtcaocebgkahbmaaDoor.RecW
