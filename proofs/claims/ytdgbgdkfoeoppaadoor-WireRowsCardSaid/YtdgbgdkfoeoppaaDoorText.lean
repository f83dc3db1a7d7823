/- Texts: their bytes as numbers; appended to bytes, and made of bytes. -/
import Derived.Test.YtdgbgdkfoeoppaaDoorProg
import Derived.Test.YtdgbgdkfoeoppaaDoorMem
import Derived.Lib.AppendStr
import Derived.Laws.BytesString
import Derived.Laws.BytesArg
namespace Go.Proofs.YtdgbgdkfoeoppaaDoor.Text
open Go Go.RowKit Go.Proofs.YtdgbgdkfoeoppaaDoor.Mem
set_option linter.unusedVariables false
set_option maxRecDepth 100000

/-- a text's bytes -/
def txt (s : ByteArray) : List Nat := s.data.toList.map UInt8.toNat
/-- the text of bytes -/
def ofTxt (l : List Nat) : ByteArray := ⟨(l.map UInt8.ofNat).toArray⟩
theorem cells (s : ByteArray) : Lib.strCells s = nums .u8 (txt s) := by
  unfold Lib.strCells nums txt
  rw [List.map_map]
  rfl
theorem length (s : ByteArray) : (txt s).length = s.size := by
  unfold txt
  rw [List.length_map, Array.length_toList]
  rfl
theorem lt (s : ByteArray) : ∀ x ∈ txt s, x < 256 := by
  intro x hx
  simp only [txt, List.mem_map] at hx
  obtain ⟨b, _, rfl⟩ := hx
  exact b.toNat_lt
theorem txt_of {l : List Nat} (h : ∀ x ∈ l, x < 256) : txt (ofTxt l) = l := by
  unfold txt ofTxt
  simp only [List.map_map]
  induction l with
  | nil => rfl
  | cons x l ih =>
    rw [List.map_cons, ih fun y hy => h y (List.mem_cons_of_mem _ hy)]
    have := h x (by simp)
    simp only [Function.comp]
    rw [UInt8.toNat_ofNat', Nat.mod_eq_of_lt (by simpa using this)]
theorem of_txt (s : ByteArray) : ofTxt (txt s) = s := by
  unfold txt ofTxt
  rw [List.map_map]
  have : (UInt8.ofNat ∘ UInt8.toNat) = id := by funext b; simp
  rw [this, List.map_id]
theorem inj {s t : ByteArray} (h : txt s = txt t) : s = t := by rw [← of_txt s, ← of_txt t, h]
theorem size_of (l : List Nat) : (ofTxt l).size = l.length := by
  show (l.map UInt8.ofNat).toArray.size = _
  simp
theorem fold_push : ∀ (l : List Nat) (s : ByteArray), (l.map fun (x : Nat) => (x : Int)).foldl (fun r n => r.push (UInt8.ofNat n.toNat)) s = ⟨s.data ++ (l.map UInt8.ofNat).toArray⟩ := by
  intro l
  induction l with
  | nil => intro s; simp
  | cons x l ih =>
    intro s
    rw [List.map_cons, List.foldl_cons, ih]
    congr 1
    apply Array.ext'
    simp [ByteArray.push]

/-- bytes as a text -/
theorem conv {w : World} {a : Option Addr} {n cap : Nat} {l : List Nat} (h : Nums .u8 w a n cap l) :
    (convert 44 9 (.slice a n cap)).run Tryd.prog w = .ok (.string (ofTxt l)) w := by
  rw [run_convert_bytes_string w _ _ _ a n cap Tryd.underlying44 Tryd.underlying5 Tryd.underlying9]
  cases a with
  | none =>
    have hc := h.2.2.2.1 rfl
    have hn : n = 0 := by have := h.2.1; omega
    have hl : l = [] := List.eq_nil_of_length_eq_zero (by rw [h.len]; exact hn)
    subst hn; subst hl
    rfl
  | some ad =>
    have hlen := h.len
    have hl := run_loadCells_list (P := Tryd.prog) (w := w) ad ((l.map fun (x : Nat) => (x : Int)).map (Value.int .u8)) (fun j v hv => by
      obtain ⟨b, off, he, hc⟩ := h.2.2.2.2 j v (by unfold nums; rw [List.map_map] at hv; exact hv)
      cases he
      rw [Addr.add_lit]
      exact hc)
    rw [List.length_map, List.length_map, hlen] at hl
    rw [run_bytesToString w ad n cap (l.map fun (x : Nat) => (x : Int)) hl, fold_push]
    simp [ofTxt]
end Go.Proofs.YtdgbgdkfoeoppaaDoor.Text
