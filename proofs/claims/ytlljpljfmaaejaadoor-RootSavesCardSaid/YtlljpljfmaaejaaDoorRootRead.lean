/- The walk of root.Read, and of slices.Equal. -/
import Derived.Test.YtlljpljfmaaejaaDoorRootBytes
import Derived.Test.YtlljpljfmaaejaaDoorGDevPut
import Derived.Deep.AppendLies
import Derived.Deep.RegionLaw
import Derived.WalkSpells
import Derived.StillTactics
import Derived.OwnWalk
namespace Go.Proofs.YtlljpljfmaaejaaDoor.RootW
open Go Go.RowKit Go.Proofs.YtlljpljfmaaejaaDoor.Mem Go.Proofs.YtlljpljfmaaejaaDoor.RootP Go.Proofs.YtlljpljfmaaejaaDoor.SeeW Go.Proofs.YtlljpljfmaaejaaDoor.RefsW Go.Proofs.YtlljpljfmaaejaaDoor.DevG Go.Proofs.YtlljpljfmaaejaaDoor.ConcatW
set_option linter.unusedVariables false
set_option maxRecDepth 100000

set_option maxHeartbeats 1600000 in
/-- two lists of bytes held against one another -/
theorem equal_w (a : Option Addr) (n cap : Nat) (l : List Nat) (b : Option Addr) (m cap' : Nat) (l' : List Nat) (w : World) (h0 : Nums .u8 w a n cap l) (h1 : Nums .u8 w b m cap' l') :
    Calls Tryd.prog 136 #[.slice a n cap, .slice b m cap'] w fun e w' => e = .returned (.bool (decide (l = l'))) ∧ Below w.heap.size w w' := by
  have hbd0 := h0.bound
  have hbd1 := h1.bound
  have HL0 := hid h0.len
  have HL1 := hid h1.len
  obtain ⟨c1, c2⟩ := hbd0
  obtain ⟨c3, c4⟩ := hbd1
  by_cases hn : n = m
  · subst hn
    go_enter Tryd.func136, Tryd.ntmps136
    go_wp2
    go_loopw [13] (fun i wr => ∃ k : Nat, k ≤ n ∧ i = .int .i64 k ∧ l.take k = l'.take k ∧ Below w.heap.size w wr) (fun i _ => n - (intOf i).toNat)
    case atStart => exact ⟨0, by omega, rfl, by simp, Below.refl _ _⟩
    case round =>
      obtain ⟨k, hk, rfl, hT, hb⟩ := hrel
      have HT := hid hT
      clear hT
      by_cases hlt : k < n
      · have hkl : k < l.length := by rw [HL0.out]; exact hlt
        have hkl' : k < l'.length := by rw [HL1.out]; exact hlt
        obtain ⟨b0, o0, rfl, hc0⟩ := (h0.below hb).at hkl
        obtain ⟨b1, o1, rfl, hc1⟩ := (h1.below hb).at hkl'
        have HS0 := hid (List.take_succ_eq_append_getElem hkl)
        have HS1 := hid (List.take_succ_eq_append_getElem hkl')
        have HE0 := hid (List.getElem?_eq_getElem hkl)
        have HE1 := hid (List.getElem?_eq_getElem hkl')
        generalize l[k] = x at hc0 HS0 HE0
        generalize l'[k] = y at hc1 HS1 HE1
        clear h0 h1
        by_cases hxy : x = y
        · subst hxy
          go_wp2
          go_quiet (fail)
          go_wp2
          go_roundw
          case rel => exact ⟨k + 1, by omega, by go_num, by rw [HS0.out, HS1.out, HT.out], below_drewN hb _⟩
          case measure => simp [intOf]; omega
        · have hne : ((x : Int) == (y : Int)) = false := by simp; omega
          go_wp2
          go_quiet (fail)
          go_wp2
          go_ret
          refine ⟨ret_bool ?_, below_drewN hb _⟩
          simp only [decide_eq_false_iff_not, Bool.false_eq, decide_eq_false_iff_not]
          intro he
          have h2 := HE0.out
          rw [he, HE1.out] at h2
          exact hxy (Option.some.inj h2).symm
      · obtain rfl : k = n := by omega
        have he : l = l' := RefW.same_of_take HL0.out.symm HL1.out.symm HT.out
        go_wp2
        go_ret
        exact ⟨ret_bool (by simp [he]), hb⟩
  · have hne : ((n : Int) != (m : Int)) = true := by rw [bne_iff_ne]; omega
    go_enter Tryd.func136, Tryd.ntmps136
    go_wp2
    go_ret
    exact ⟨ret_bool (by simp; intro h; exact hn (by rw [← HL0.out, ← HL1.out, h])), Below.refl _ _⟩

theorem getD_take {l : List Nat} {n : Nat} (h : l.length = n) (j : Nat) (hj : j < n) : ∃ x, l[j]? = some x ∧ l.getD j 0 = x := by
  have hj' : j < l.length := by omega
  exact ⟨l[j], List.getElem?_eq_getElem hj', by rw [List.getD_eq_getElem?_getD, List.getElem?_eq_getElem hj']; rfl⟩
theorem parse_len {l : List Nat} (h : l.length ≠ 256) : parse l = none := by unfold parse; rw [if_neg (fun x => h x.1)]
theorem parse_many {l : List Nat} (h : 16 < l.getD 6 0) : parse l = none := by unfold parse; rw [if_neg (fun x => by omega)]
theorem parse_in {l : List Nat} (h1 : l.length = 256) (h2 : l.getD 6 0 ≤ 16) : parse l = if RootP.Good (dec l) ∧ enc (dec l) = l then some (dec l) else none := by unfold parse; rw [if_pos ⟨h1, h2⟩]
theorem dec_sums {l : List Nat} (hl : Crc.Bytes l) : ∀ x ∈ (dec l).rs, x.2 < 4294967296 := by
  intro x hx
  obtain ⟨i, _, rfl⟩ := List.mem_map.1 hx
  exact refAt_sum l hl i

/-- the row from a place on -/
theorem nums_drop {k : IntKind} {w : World} {b o n cap : Nat} {l : List Nat} (h : Nums k w (some ⟨b, o, none⟩) n cap l) (j : Nat) (hj : j ≤ n) : Nums k w (some ⟨b, o + j, none⟩) (n - j) (cap - j) (l.drop j) := by
  have hl := h.len
  obtain ⟨h1, h2, h3, h4, h5⟩ := h
  refine ⟨by rw [nums_length, List.length_drop]; omega, by omega, by omega, fun h => by simp at h, fun i u hi => ?_⟩
  have e : nums k (l.drop j) = (nums k l).drop j := by simp [nums, List.map_drop]
  rw [e, List.getElem?_drop] at hi
  obtain ⟨b', o', he, hc⟩ := h5 _ _ hi
  cases he
  exact ⟨b, o + j, rfl, by rw [Nat.add_assoc]; exact hc⟩

/-- what is read: a root, or none -/
def ReadTo (w : World) (r : Option Rt) (e : Ending) (w' : World) : Prop := (match r with
  | some r => ∃ a cap, e = .returned (.tuple #[Rv r.ep a r.rs.length cap, .bool true]) ∧ Refs w' a r.rs.length cap r.rs ∧ ∀ b o, a = some ⟨b, o, none⟩ → w.heap.size ≤ b
  | none => e = .returned (.tuple #[Rv 0 none 0 0, .bool false])) ∧ Below w.heap.size w w'
set_option maxHeartbeats 3200000 in
theorem read_out (a : Option Addr) (n cap : Nat) (l : List Nat) (w : World) (h : Nums .u8 w a n cap l) (hb : n ≠ 256 ∨ 16 < l.getD 6 0) :
    Calls Tryd.prog 123 #[.slice a n cap] w (ReadTo w none) := by
  have HL := hid h.len
  by_cases hn : n = 256
  · subst hn
    have h6 : 16 < l.getD 6 0 := by omega
    obtain ⟨b, o, rfl, hc⟩ := h.at (j := 6) (by rw [HL.out]; decide)
    rw [show l[6]'(by rw [HL.out]; decide) = l.getD 6 0 by rw [List.getD_eq_getElem?_getD, List.getElem?_eq_getElem (by rw [HL.out]; decide)]; rfl] at hc
    have bx := (Below.refl w.heap.size w).alloc (Nat.le_refl _) (.cells #[.int .i64 0, .slice none 0 0] 98)
    replace hc := kept bx hc
    generalize l.getD 6 0 = x at hc h6
    have hx : decide ((16 : Int) < x) = true := decide_eq_true (by omega)
    clear hb h
    go_enter Tryd.func123, Tryd.ntmps123
    go_wp2
    refine bodyPost_ret (v := .tuple #[Rv 0 none 0 0, .bool false]) (by simp [results, Tryd.results123, go_sem]) rfl ⟨rfl, (Below.refl w.heap.size w).alloc (Nat.le_refl _) _⟩
  · have hx : ((n : Int) != 256) = true := by rw [bne_iff_ne]; omega
    clear hb h
    go_enter Tryd.func123, Tryd.ntmps123
    go_wp2
    refine bodyPost_ret (v := .tuple #[Rv 0 none 0 0, .bool false]) (by simp [results, Tryd.results123, go_sem]) rfl ⟨rfl, (Below.refl w.heap.size w).alloc (Nat.le_refl _) _⟩

theorem dec_take_succ {l : List Nat} {k : Nat} (h : k < l.getD 6 0) : (dec l).rs.take (k + 1) = (dec l).rs.take k ++ [refAt l k] := by
  have hlen : (dec l).rs.length = l.getD 6 0 := by simp [dec]
  rw [List.take_succ_eq_append_getElem (by omega)]
  simp [dec]
/-- what the rounds have: the block of the root, its places so far -/
structure Rounds (w0 w : World) (R : Nat) (ep : Int) (v : Value) (k : Nat) (rs : List (Int × Nat)) : Prop where
  blk0 : w.heap[w0.heap.size]? = some (.cells #[.int .i64 0, .slice none 0 0] 98)
  blk : w.heap[R]? = some (.cells #[.int .i64 ep, v] 98)
  own : OwnRefs w (R + 1) v k rs
  b : Below w0.heap.size w0 w
  r : w0.heap.size < R
theorem Rounds.c {w0 w : World} {R : Nat} {ep : Int} {v : Value} {k : Nat} {rs : List (Int × Nat)} (h : Rounds w0 w R ep v k rs) : w.cell? ⟨R, 0, none⟩ = some (.int .i64 ep) ∧ w.cell? ⟨R, 1, none⟩ = some v ∧ w.frozen? ⟨R, 1, none⟩ = false ∧ R < w.heap.size := by
  have := h.blk
  refine ⟨by simp [World.cell?, this], by simp [World.cell?, this], by simp [World.frozen?, this], (Array.getElem?_eq_some_iff.1 this).1⟩
theorem Rounds.push {w0 wr w1 : World} {R : Nat} {ep : Int} {v : Value} {k : Nat} {rs rs' : List (Int × Nat)} (h : Rounds w0 wr R ep v k rs) {g c : Nat} (o : Obj)
    (own1 : OwnRefs w1 (R + 1) (.slice (some ⟨g, 0, none⟩) (k + 1) c) (k + 1) rs') (hb : Below (R + 1) (wr.alloc o).drew w1) :
    Rounds w0 (w1.setCell ⟨R, 1, none⟩ (.slice (some ⟨g, 0, none⟩) (k + 1) c)) R ep (.slice (some ⟨g, 0, none⟩) (k + 1) c) (k + 1) rs' := by
  have hlt := h.c.2.2.2
  have hr := h.r
  have e : ∀ i, i < R + 1 → w1.heap[i]? = wr.heap[i]? := fun i hi => (hb.block i hi).trans (((Below.refl wr.heap.size wr).alloc (Nat.le_refl _) o).block i (by omega))
  have hz := h.b.size
  refine ⟨?_, ?_, ownsRow_setCell_below own1 (Nat.lt_succ_self R) _, ?_, hr⟩
  · rw [heap_setCell_other _ ⟨R, 1, none⟩ _ _ (by simp; omega), e _ (by omega)]; exact h.blk0
  · have := (e R (by omega)).trans h.blk
    simp [World.setCell, Array.getElem?_modify, this]
  · exact (((h.b.alloc hz o).drew).trans (hb.mono (by omega))).setCell (by simp; omega) _
theorem blk_c {w : World} {R : Nat} {x y : Value} {t : TypeId} (h : w.heap[R]? = some (.cells #[x, y] t)) : w.cell? ⟨R, 0, none⟩ = some x ∧ w.cell? ⟨R, 1, none⟩ = some y ∧ w.frozen? ⟨R, 0, none⟩ = false ∧ w.frozen? ⟨R, 1, none⟩ = false := by
  refine ⟨by simp [World.cell?, h], by simp [World.cell?, h], by simp [World.frozen?, h], by simp [World.frozen?, h]⟩
theorem own_ge {w : World} {base : Nat} {e : TypeId} {size : Nat} {a : Option Addr} {n cap m : Nat} {xs : List Value} (h : w.ownsRow base e size (.slice a n cap) m xs) : ∀ b o, a = some ⟨b, o, none⟩ → base ≤ b := by
  rintro b o rfl
  rcases h.2 with ⟨h0, _⟩ | ⟨g, c, cur, hv, hb, _⟩
  · cases h0
  · cases hv; exact hb
theorem Refs.far {w : World} {a : Option Addr} {n cap : Nat} {rs : List (Int × Nat)} (h : Refs w a n cap rs) {B : Nat} (hB : ∀ b o, a = some ⟨b, o, none⟩ → B < b) (j : Nat) (x : Value) : Refs (w.setCell ⟨B, j, none⟩ x) a n cap rs :=
  Row.keep h fun b o e _ => heap_setCell_other _ ⟨B, j, none⟩ _ _ (by have := hB b o e; simp; omega)
theorem out_read {w w4 : World} {r : Rt} {k ep cp : Nat} {a : Option Addr} (h1 : r.ep = ep) (h2 : r.rs.length = k) (h3 : Refs w4 a k cp r.rs) (h4 : Below w.heap.size w w4) (h5 : ∀ b o, a = some ⟨b, o, none⟩ → w.heap.size < b) (x y : Value) :
    ReadTo w (some r) (.returned (.tuple #[Rv ep a k cp, .bool true])) ((w4.setCell ⟨w.heap.size, 0, none⟩ x).setCell ⟨w.heap.size, 1, none⟩ y) := by
  subst h2
  refine ⟨⟨a, cp, by rw [h1], Refs.far (Refs.far h3 h5 0 x) h5 1 y, fun b o e => Nat.le_of_lt (h5 b o e)⟩, (h4.setCell (Nat.le_refl _) _).setCell (Nat.le_refl _) _⟩
theorem out_none {w w4 : World} (h4 : Below w.heap.size w w4) (x y : Value) :
    ReadTo w none (.returned (.tuple #[Rv 0 none 0 0, .bool false])) ((w4.setCell ⟨w.heap.size, 0, none⟩ x).setCell ⟨w.heap.size, 1, none⟩ y) :=
  ⟨rfl, (h4.setCell (Nat.le_refl _) _).setCell (Nat.le_refl _) _⟩
theorem frozen_keep {B : Nat} {w w' : World} {b o : Nat} (hb : Below B w w') (hlt : b < B) : w'.frozen? ⟨b, o, none⟩ = w.frozen? ⟨b, o, none⟩ :=
  World.frozen?_of_block (hb.block b hlt)
/-- a call that changes nothing, in a region that draws its order -/
theorem step_call {P : Program} {ops : Array Oper} {o : Oper} {a : Act} {K : Act → World → Prop} {Q : Exit → Act → World → Prop} {E : Prop} {w : World} (hgd : o.guard = none)
    (f : FuncId) (args : Array Value) (hrun : (execOp a.eval o).run P w = .ok (.enter f args) w) (R : Value) (hc : Calls P f args w fun e w' => e = .returned R ∧ w = w') (h : K (a.put o.dst R) w) :
    if Region.wanted o (yielded ops a.tmps) = true then Oper.wp P o a w K Q else E := by
  have hw : Region.wanted o (yielded ops a.tmps) = true := by simp [Region.wanted, hgd]
  rw [if_pos hw]
  unfold Oper.wp
  rw [hrun, Oper.upon_enter]
  refine hc.mono ?_
  rintro e w' ⟨rfl, rfl⟩
  exact h
/-- a place appended, in a region that draws its order -/
theorem step_push2 {ops : Array Oper} {o : Oper} {a : Act} {K : Act → World → Prop} {Q : Exit → Act → World → Prop} {E : Prop} {w : World} (hgd : o.guard = none) (s x : Operand)
    (ho : o.op = .call { callee := .builtin .append, args := #[s, x], argTypes := #[65, 65] })
    (base : Nat) (v : Value) (n : Nat) (rs : List (Int × Nat)) (hs : a.eval s = v) (hown : OwnRefs w base v n rs)
    (g : Nat) (y : Int) (z : Nat) (hx : a.eval x = .slice (some ⟨g, 0, none⟩) 1 1) (hr : Row w 2 (some ⟨g, 0, none⟩) 1 1 [.int .i64 y, .int .u32 (z : Int)]) (hn : n ≤ 1000000000) (hbase : base ≤ w.heap.size)
    (h : ∀ g' cap' w', OwnRefs w' base (.slice (some ⟨g', 0, none⟩) (n + 1) cap') (n + 1) (rs ++ [(y, z)]) → Below base w w' → w.grownBy w' v.ownBlock → K (a.put o.dst (.slice (some ⟨g', 0, none⟩) (n + 1) cap')) w') :
    if Region.wanted o (yielded ops a.tmps) = true then Oper.wp Tryd.prog o a w K Q else E := by
  obtain ⟨i, hi, hz0, hz1, hz2⟩ := info_parts elRef.hi
  refine step_append_lies w hgd s x _ ho base _ i _ 2 16 elRef.ht hi hz0 hz1 hz2 elRef.hz elRef.h0 v n _ hs hown ⟨g, 0, none⟩ 1 1 [.int .i64 y, .int .u32 (z : Int)] hx rfl ?_ (oneCell2 rfl rfl) (by decide) (by unfold maxLen; omega) (by omega) hbase _ rfl ?_
  · intro j u hj
    obtain ⟨b, off, ha, hc⟩ := hr.2.2.2.2 j u hj
    cases ha
    rw [Addr.add_lit]
    exact hc
  · intro g' cap' w' h2 h3 _ _
    refine h _ _ w' ?_ ((Below.refl _ _).grown h3 hbase fun b hb => (hown.lt b hb).1) h3
    show World.ownsRow _ _ _ _ _ _ (refCells (rs ++ [(y, z)]))
    rw [refCells_append]
    exact h2

set_option maxHeartbeats 3200000 in
theorem read_in (bs : List Addr) (lo : Nat) (a : Option Addr) (cap : Nat) (l : List Nat) (w : World) (h : Nums .u8 w a 256 cap l) (hl : Crc.Bytes l) (h6 : l.getD 6 0 ≤ 16) (hB : Ev w lo bs rerr) :
    Calls Tryd.prog 123 #[.slice a 256 cap] w (ReadTo w (parse l)) := by
  have HL := hid h.len
  have hbd := h.bound
  obtain ⟨b, o, rfl, hc⟩ := h.at (j := 6) (by rw [HL.out]; decide)
  rw [show l[6]'(by rw [HL.out]; decide) = l.getD 6 0 by rw [List.getD_eq_getElem?_getD, List.getElem?_eq_getElem (by rw [HL.out]; decide)]; rfl] at hc
  obtain ⟨m, hm⟩ : ∃ m, m = l.getD 6 0 := ⟨_, rfl⟩
  rw [← hm] at hc h6
  have HM := hid hm
  clear hm
  have hx : decide ((16 : Int) < m) = false := decide_eq_false (by omega)
  have bx := (Below.refl w.heap.size w).alloc (Nat.le_refl _) (.cells #[.int .i64 0, .slice none 0 0] 98)
  have hcx := kept bx hc
  have hu := un_lt (l.take 6) fun x hx => hl x (List.mem_of_mem_take hx)
  have hu6 : (l.take 6).length = 6 := by rw [List.length_take]; have := HL.out; omega
  rw [hu6] at hu
  have hw1 : IntKind.i64.wrap ((un (l.take 6) : Nat) : Int) = ((un (l.take 6) : Nat) : Int) := by rw [IntKind.wrap_i64]; omega
  have hs := says_w _ 256 cap l 6 _ (h.below bx) hl (by decide) (by decide)
  have HEp := hid (show (dec l).ep = ((un (l.take 6) : Nat) : Int) from rfl)
  obtain ⟨ep, hep⟩ : ∃ x : Nat, x = un (l.take 6) := ⟨_, rfl⟩
  rw [← hep] at hs hw1 HEp
  clear hu hu6 hep hc
  go_enter Tryd.func123, Tryd.ntmps123
  go_wp2_with fail
  refine hs.mono ?_
  rintro e w' ⟨rfl, rfl⟩
  have z1 : (w.alloc (.cells #[.int .i64 0, .slice none 0 0] 98)).heap.size = w.heap.size + 1 := by simp
  have h2 : Rounds w ((w.alloc (.cells #[.int .i64 0, .slice none 0 0] 98)).alloc (.cells #[.int .i64 (ep : Int), .slice none 0 0] 98)) (w.heap.size + 1) ep (.slice none 0 0) 0 [] :=
    ⟨by rw [((Below.refl _ _).alloc (Nat.le_refl _) _).block _ (by omega)]; exact heap_alloc_new _ _, by rw [← z1]; exact heap_alloc_new _ _, World.ownsRow_nil _ _ _ _, bx.alloc (by omega) _, by omega⟩
  have hc2 := kept ((Below.refl _ _).alloc (Nat.le_refl _) (.cells #[.int .i64 (ep : Int), .slice none 0 0] 98)) hcx
  clear hs
  go_wp2_with fail
  clear hx hcx hw1 z1
  generalize (w.alloc (.cells #[.int .i64 0, .slice none 0 0] 98)).alloc (.cells #[.int .i64 (ep : Int), .slice none 0 0] 98) = w2 at *
  go_loopw [27] (fun i wr => ∃ (k : Nat) (v : Value), k ≤ m ∧ i = .int .i64 k ∧ Rounds w wr (w.heap.size + 1) ep v k ((dec l).rs.take k)) (fun i _ => m - (intOf i).toNat)
  case atStart => exact ⟨0, _, by omega, rfl, h2⟩
  case round =>
    clear h2 hc2
    obtain ⟨k, v, hk, rfl, hr⟩ := hrel
    obtain ⟨q0, q1, qf, qlt⟩ := hr.c
    by_cases hlt : k < m
    · have hD := nums_drop (h.below hr.b) (7 + 6 * k) (by omega)
      have hD2 := nums_drop hD 2 (by omega)
      rw [List.drop_drop] at hD2
      have HS := hid (dec_take_succ (l := l) (k := k) (by rw [← HM.out]; exact hlt))
      have hR := refAt_sum l hl k
      have u1 := un_lt ((l.drop (7 + 6 * k)).take 2) fun x hx => hl x (List.mem_of_mem_drop (List.mem_of_mem_take hx))
      have l1 : ((l.drop (7 + 6 * k)).take 2).length ≤ 2 := by rw [List.length_take]; omega
      have u1' : un ((l.drop (7 + 6 * k)).take 2) < 65536 := Nat.lt_of_lt_of_le u1 (Nat.pow_le_pow_right (by decide) l1)
      have b1 : Crc.Bytes (l.drop (7 + 6 * k)) := fun x hx => hl x (List.mem_of_mem_drop hx)
      have b2 : Crc.Bytes (l.drop (7 + 6 * k + 2)) := fun x hx => hl x (List.mem_of_mem_drop hx)
      have s1 : ∀ w', Below wr.heap.size wr w' → _ := fun w' hb => says_w _ _ _ _ 2 w' (hD.below hb) b1 (by omega) (by decide)
      have s2 : ∀ w', Below wr.heap.size wr w' → _ := fun w' hb => says_w _ _ _ _ 4 w' (hD2.below hb) b2 (by omega) (by decide)
      have HX1 := hid (show refAt l k = (((un ((l.drop (7 + 6 * k)).take 2) : Nat) : Int), un ((l.drop (7 + 6 * k + 2)).take 4)) from rfl)
      rw [show (refAt l k).2 = un ((l.drop (7 + 6 * k + 2)).take 4) from rfl] at hR
      generalize un ((l.drop (7 + 6 * k)).take 2) = x1 at s1 u1' HX1
      generalize un ((l.drop (7 + 6 * k + 2)).take 4) = x2 at s2 hR HX1
      have w1 : IntKind.i64.wrap (x1 : Int) = x1 := by rw [IntKind.wrap_i64]; omega
      have w3 : IntKind.u32.wrap (x2 : Int) = x2 := by rw [IntKind.wrap_u32]; omega
      have f1 : IntKind.i64.wrap (7 + 6 * (k : Int)) = ((7 + 6 * k : Nat) : Int) := by rw [IntKind.wrap_i64]; omega
      obtain ⟨M, hM⟩ : ∃ M, M = 256 - (7 + 6 * k) := ⟨_, rfl⟩
      have hM2 : (2 : Int) ≤ (M : Int) := by omega
      have hMne : ¬ M = 2 := by omega
      have hcne : ¬ cap - (7 + 6 * k) = 2 := by omega
      rw [← hM] at s1 s2
      have HMM := hid hM
      simp only [Int.cast_ofNat_Int] at s1 s2
      clear hR u1 u1' l1 b1 b2 hD hD2
      go_wp2_with fail
      rw [← HMM.out]
      clear f1 hM
      go_region_law
        (first
          | (refine step_call rfl _ _ ?hr _ (s1 _ ?hb) ?_; (case hb => first | exact (Below.refl _ _).drew | exact (Below.refl _ _).drew.drew | exact Below.refl _ _); (case hr => first | rfl | go_simp))
          | (refine step_call rfl _ _ ?hr _ (s2 _ ?hb) ?_; (case hb => first | exact (Below.refl _ _).drew | exact (Below.refl _ _).drew.drew | exact Below.refl _ _); (case hr => first | rfl | go_simp))
          | (refine step_push2 rfl _ _ rfl (w.heap.size + 2) v k _ rfl (by first | exact World.ownsRow.alloc (World.ownsRow.drew hr.own) _ | exact World.ownsRow.alloc hr.own _) _ _ _ rfl (Row.fresh2 _ _ _ _) (by omega) (by simp <;> omega) ?_; intro g1 cap1 w1 own1 hb1 hg1; have t1 := keep hb1 (kept (Below.alloc (Below.drew (Below.refl wr.heap.size wr)) (by simp) (.cells #[.int .i64 (x1 : Int), .int .u32 (x2 : Int)] 68)) q1) (by omega); have t2 := (frozen_keep (o := 1) hb1 (Nat.lt_succ_self _)).trans ((frozen_keep (B := wr.heap.size) (Below.alloc (Below.drew (Below.refl _ _)) (by simp) _) qlt).trans qf)))
      all_goals
        go_wp2
        go_roundw
        case rel => exact ⟨k + 1, _, by omega, by go_num, by rw [HS.out, HX1.out]; exact hr.push _ own1 hb1⟩
        case measure => simp [intOf]; omega
    · obtain rfl : k = m := by omega
      have hlen : (dec l).rs.length = k := by rw [HM.out]; simp [dec]
      rw [List.take_of_length_le (by omega)] at hr
      obtain ⟨a, cp, rfl, hR⟩ := refs_of hr.own
      have z0 : w.heap.size < wr.heap.size := by omega
      have hB2 := hB.turn (S := []) (Turn.of_below (hr.b.mono (Nat.le_refl _))) (by simp)
      have hl2 := h.below hr.b
      have HP := hid (parse_in HL.out (by rw [← HM.out]; exact h6))
      by_cases hG : RootP.Good (dec l)
      · have hb := bytes_ok bs lo (dec l) a k cp wr hR hB2 hG (dec_sums hl)
        rw [HEp.out] at hb
        go_wp2_with fail
        refine hb.mono ?_
        rintro e w3 ⟨⟨v3, rfl, own3⟩, b3⟩
        obtain ⟨g3, c3, rfl, n3, _⟩ := row_of own3
        have hbb := hr.b.trans (b3.mono (by omega))
        have q0' := kept b3 q0
        have q1' := kept b3 q1
        have eqw := equal_w _ _ _ _ _ _ _ _ w3 n3 (hl2.below b3)
        go_wp2_with fail
        refine eqw.mono ?_
        rintro e w4 ⟨rfl, b4⟩
        have B4 := b3.trans (b4.mono b3.size)
        have B5 := hr.b.trans (B4.mono hr.b.size)
        obtain ⟨x0, x1, y0, y1⟩ := blk_c ((B4.block _ z0).trans hr.blk0)
        obtain ⟨x2, x3, y2, y3⟩ := blk_c ((B4.block _ qlt).trans hr.blk)
        have hr4 := hR.below B4
        have HR4 := hid (out_read (r := dec l) (k := k) (ep := ep) (a := a) (cp := cp) HEp.out hlen hr4 B5 (fun b o e => by have := own_ge hr.own b o e; omega))
        have HN4 := hid B5
        clear hr4 hr hR hB2 hl2 hb eqw own3 n3 b3 b4 B4 B5 q0' q1' hbb q0 q1 qf hB
        have HN := hid (out_none HN4.out)
        by_cases he : enc (dec l) = l
        · have HQ := hid (show parse l = some (dec l) by rw [HP.out, if_pos ⟨hG, he⟩])
          rw [decide_eq_true he]
          clear he hG
          go_wp2_with fail
          refine bodyPost_ret (v := .tuple #[Rv ep a k cp, .bool true]) (by simp [results, Tryd.results123, go_sem, x0, x1]) rfl ?_
          rw [HQ.out]
          exact HR4.out _ _
        · have HQ := hid (show parse l = none by rw [HP.out, if_neg (fun x => he x.2)])
          rw [decide_eq_false he]
          clear he hG
          go_wp2_with fail
          refine bodyPost_ret (v := .tuple #[Rv 0 none 0 0, .bool false]) (by simp [results, Tryd.results123, go_sem, x0, x1]) rfl ?_
          rw [HQ.out]
          exact HN.out _ _
      · obtain ⟨kk, hkk⟩ : ∃ kk, amiss (dec l) = some kk := by
          cases hm : amiss (dec l) with
          | none => exact absurd ((good_iff _).1 hm) hG
          | some kk => exact ⟨kk, rfl⟩
        have hb := bytes_no bs lo (dec l) a k cp wr hR hB2 kk hkk
        rw [HEp.out] at hb
        have HQ := hid (show parse l = none by rw [HP.out, if_neg (fun x => hG x.1)])
        go_wp2_with fail
        refine hb.mono ?_
        rintro e w3 ⟨⟨ax, hax, rfl⟩, b3⟩
        have B5 := hr.b.trans (b3.mono hr.b.size)
        obtain ⟨x0, x1, y0, y1⟩ := blk_c ((b3.block _ z0).trans hr.blk0)
        obtain ⟨x2, x3, y2, y3⟩ := blk_c ((b3.block _ qlt).trans hr.blk)
        have HN := hid (out_none B5)
        clear hr hR hB2 hl2 hb b3 B5 q0 q1 qf hB hG hkk hax
        go_wp2_with fail
        refine bodyPost_ret (v := .tuple #[Rv 0 none 0 0, .bool false]) (by simp [results, Tryd.results123, go_sem, x0, x1]) rfl ?_
        rw [HQ.out]
        exact HN.out _ _
theorem read_w' (bs : List Addr) (lo : Nat) (a : Option Addr) (n cap : Nat) (l : List Nat) (w : World) (h : Nums .u8 w a n cap l) (hl : Crc.Bytes l) (hB : Ev w lo bs rerr) :
    Calls Tryd.prog 123 #[.slice a n cap] w (ReadTo w (parse l)) := by
  by_cases hn : n = 256
  · subst hn
    by_cases h6 : l.getD 6 0 ≤ 16
    · exact read_in bs lo a cap l w h hl h6 hB
    · rw [parse_many (by omega)]
      exact read_out a 256 cap l w h (.inr (by omega))
  · rw [parse_len (by rw [h.len]; exact hn)]
    exact read_out a n cap l w h (.inl hn)
end Go.Proofs.YtlljpljfmaaejaaDoor.RootW
