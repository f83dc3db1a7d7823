/- Plain facts: a pair written over, the power gone, some copies kept; pairs on two devices. -/
import Derived.Test.YtlljpljfmaaejaaDoorGPairFirst
import Derived.Test.YtlljpljfmaaejaaDoorDevTwo
import Derived.Test.YtlljpljfmaaejaaDoorPickOdd
namespace Go.Proofs.YtlljpljfmaaejaaDoor.PairG
open Go Go.RowKit Go.Maps Go.Proofs.YtlljpljfmaaejaaDoor.Mem Go.Proofs.YtlljpljfmaaejaaDoor.MapsW Go.Proofs.YtlljpljfmaaejaaDoor.SeeW Go.Proofs.YtlljpljfmaaejaaDoor.DevG Go.Proofs.YtlljpljfmaaejaaDoor.DevL
set_option linter.unusedVariables false
set_option maxRecDepth 100000

/-- a written, flushed; b written -/
def over (n : Nat) (A B : List Nat) : Dv := put2 (put2 (Dv.new 320) 80 n A).flush 80 n B
theorem over_pe (n : Nat) (A B : List Nat) (i : Int) : (over n A B).pe i = if i = (n : Int) ∨ i = ((n + 80 : Nat) : Int) then some B else none := put2_pe _ 80 n B (by decide) i
theorem over_fl (n : Nat) (A B : List Nat) (i : Int) (h : i = (n : Int) ∨ i = ((n + 80 : Nat) : Int)) : (over n A B).fl i = some A ∧ (over n A B).fi i = false := by
  obtain ⟨a1, a2, a3, a4⟩ := flushed (Dv.new 320) 80 n A (by decide) i h
  exact ⟨a2, a4⟩
theorem over_keys {n : Nat} {A B : List Nat} {ks : List Int} (hK : Keys (over n A B).pe ks) : ks = [(n : Int), ((n + 80 : Nat) : Int)] := by
  refine rising_same hK.rise ?_ fun i => ?_
  · simp; omega
  · rw [hK.mem i, over_pe]
    simp only [List.mem_cons, List.not_mem_nil, or_false]
    split
    · rename_i c; exact ⟨fun _ => c, fun _ => rfl⟩
    · rename_i c; simp only [Option.isSome_none, Bool.false_eq_true, false_iff]; exact c
def bit (b : Bool) : Int := if b then 1 else 0
theorem pick_bits (one two : Bool) : pick [bit one, bit two] 0 = one ∧ pick [bit one, bit two] 1 = two := by
  have h : ∀ b : Bool, (bits .and .i64 (bit b) 1 == 1) = b := fun b => by
    rw [pick_odd]
    cases b <;> rfl
  exact ⟨h one, h two⟩
/-- what there is behind the fall -/
structure Fallen (D : Dv) (n : Nat) (A B : List Nat) (one two : Bool) : Prop where
  blocks : D.blocks = 320
  down : D.down = false
  fuse : D.fuse = 0
  calls : D.calls ≤ 10
  np : D.np = 0
  ok : Ok D
  first : D.read (n : Int) = some (if one then B else A)
  second : D.read ((n + 80 : Nat) : Int) = some (if two then B else A)
theorem fallen {n : Nat} {A B : List Nat} (hA : Blk A) (hB : Blk B) (one two : Bool) {ks : List Int} (hK : Keys (over n A B).pe ks) : Fallen ((over n A B).crash ks [bit one, bit two]) n A B one two := by
  obtain rfl := over_keys hK
  obtain ⟨p0, p1⟩ := pick_bits one two
  have hs : ∀ i, sel [(n : Int), ((n + 80 : Nat) : Int)] [bit one, bit two] i = ((one && decide ((n : Int) = i)) || ((two && decide (((n + 80 : Nat) : Int) = i)) || false)) := fun i => by
    have : sel [(n : Int), ((n + 80 : Nat) : Int)] [bit one, bit two] i = ((pick [bit one, bit two] 0 && decide ((n : Int) = i)) || ((pick [bit one, bit two] 1 && decide (((n + 80 : Nat) : Int) = i)) || false)) := rfl
    rw [this, p0, p1]
  have hr : ∀ (i : Int) (k : Bool), (i = (n : Int) ∨ i = ((n + 80 : Nat) : Int)) → sel [(n : Int), ((n + 80 : Nat) : Int)] [bit one, bit two] i = k → ((over n A B).crash [(n : Int), ((n + 80 : Nat) : Int)] [bit one, bit two]).read i = some (if k then B else A) := fun i k hi hk => by
    obtain ⟨f1, f2⟩ := over_fl n A B i hi
    have hp := over_pe n A B i
    rw [if_pos hi] at hp
    show (match (none : Option (List Nat)) with
      | some l => some l
      | none => if (if sel [(n : Int), ((n + 80 : Nat) : Int)] [bit one, bit two] i then false else (over n A B).fi i) then none else some ((if sel [(n : Int), ((n + 80 : Nat) : Int)] [bit one, bit two] i then (over n A B).pe i else (over n A B).fl i).getD _)) = _
    rw [hk, hp, f1, f2]
    cases k <;> rfl
  have hok : Ok (over n A B) := ((Ok.put (i := ((n + 80 : Nat) : Int)) (Ok.put (i := (n : Int)) (Ok.new 320) hA) hA).flush.put hB).put hB
  refine ⟨rfl, rfl, rfl, by show 0 + 1 + 1 + 1 + 1 + 1 ≤ 10; decide, rfl, ⟨fun j l hl => ?_, fun j l hl => (by cases hl)⟩, hr _ one (.inl rfl) ?_, hr _ two (.inr rfl) ?_⟩
  · change (if sel [(n : Int), ((n + 80 : Nat) : Int)] [bit one, bit two] j then (over n A B).pe j else (over n A B).fl j) = some l at hl
    split at hl
    · exact hok.pe j l hl
    · exact hok.fl j l hl
  · rw [hs, decide_eq_true rfl, decide_eq_false (show ¬ ((n + 80 : Nat) : Int) = (n : Int) by omega)]
    cases one <;> cases two <;> rfl
  · rw [hs, decide_eq_true (show ((n + 80 : Nat) : Int) = ((n + 80 : Nat) : Int) from rfl), decide_eq_false (show ¬ (n : Int) = ((n + 80 : Nat) : Int) by omega)]
    cases one <;> cases two <;> rfl
/-- what is read by the sum of A -/
theorem Fallen.elder {D : Dv} {n : Nat} {A B : List Nat} {one two : Bool} (h : Fallen D n A B one two) (hne : Crc.sum A ≠ Crc.sum B) : ∃ D' c', readP D 80 0 n (Crc.sum A) = (if one && two then none else some A, D', c') := by
  cases one with
  | false => exact ⟨_, _, readP_first h.first rfl⟩
  | true =>
    rw [readP_second (i := n) (fun l hl => by rw [h.first] at hl; cases hl; exact fun e => hne e.symm)]
    unfold PairG.second
    rw [h.second]
    cases two with
    | false => exact ⟨_, _, if_pos rfl⟩
    | true => exact ⟨_, _, if_neg fun e => hne e.symm⟩
theorem Fallen.newer {D : Dv} {n : Nat} {A B : List Nat} {one two : Bool} (h : Fallen D n A B one two) (hne : Crc.sum A ≠ Crc.sum B) : ∃ D' c', readP D 80 0 n (Crc.sum B) = (if one || two then some B else none, D', c') := by
  cases one with
  | true => exact ⟨_, _, readP_first h.first rfl⟩
  | false =>
    rw [readP_second (i := n) (fun l hl => by rw [h.first] at hl; cases hl; exact hne)]
    unfold PairG.second
    rw [h.second]
    cases two with
    | true => exact ⟨_, _, if_pos rfl⟩
    | false => exact ⟨_, _, if_neg hne⟩
theorem Fallen.same {D : Dv} {n : Nat} {A B : List Nat} {one two : Bool} (h : Fallen D n A B one two) (he : Crc.sum A = Crc.sum B) : ∃ l, readP D 80 0 n (Crc.sum A) = (some l, D, 0) ∧ readP D 80 0 n (Crc.sum B) = (some l, D, 0) := by
  refine ⟨if one then B else A, readP_first h.first ?_, readP_first h.first ?_⟩
  · cases one
    · rfl
    · exact he.symm
  · cases one
    · exact he
    · rfl
theorem cells_below {w w' : World} {k : Nat} {o : Obj} (h : w.heap[k]? = some o) (hb : Below w.heap.size w w') : w'.heap[k]? = some o :=
  (hb.block k (Array.getElem?_eq_some_iff.1 h).1).trans h
theorem Ses.mono {w0 w : World} {n n' : Nat} {m : Mp} {D : Dv} {p h c : Nat} (s : Ses w0 w n m D p h c) (hn : n ≤ n') : Ses w0 w n' m D p h c := ⟨s.k.mono hn (Nat.le_refl _), s.b, s.ok⟩
/-- pairs on another device -/
theorem PAt.aside {w w' : World} {lo d n : Nat} {m : Mp} {D : Dv} {p h c : Nat} {lo' d' n' : Nat} {m' : Mp} {D' : Dv} {p' h' c' : Nat} (kx : PAt w lo' d' n' m' D' p' h' c') (k : PAt w lo d n m D p h c) (ht : Turn (p :: own d m) w w')
    (hap : ∀ y ∈ own d' m', y ∉ own d m) (hp : p ∉ own d' m') (hpp : p' ≠ p) (hd : p' ≠ d) : PAt w' lo' d' n' m' D' p' h' c' := by
  have hS : ∀ x ∈ p :: own d m, NoCells w x ∨ ∃ v, w.cell? ⟨x, 0, none⟩ = some v ∧ ∀ z, v ≠ .int .u8 z := fun x hx => by
    rcases List.mem_cons.1 hx with rfl | hx
    · exact .inr ⟨_, k.c.1, fun z e => by cases e⟩
    · exact k.dev.soft x hx
  have hn : ∀ y ∈ own d' m', y ∉ p :: own d m := fun y hy hm => by
    rcases List.mem_cons.1 hm with rfl | hm
    · exact hp hy
    · exact hap y hy hm
  refine ⟨kx.dev.turn ht (hn _ List.mem_cons_self) (fun y hy => hn y (List.mem_cons_of_mem _ hy)) hS, ht.cells kx.cells fun hm => ?_, kx.half, kx.most, kx.lop, kx.up, kx.still⟩
  rcases List.mem_cons.1 hm with e | hm
  · exact hpp e
  · exact k.dev.out kx.cells hd hm
end Go.Proofs.YtlljpljfmaaejaaDoor.PairG
