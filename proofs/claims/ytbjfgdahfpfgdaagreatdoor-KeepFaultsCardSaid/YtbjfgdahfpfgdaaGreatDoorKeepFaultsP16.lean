/- The walk of a store's laid. -/
import Derived.Test.YtbjfgdahfpfgdaaGreatDoorKeepFaultsP14
import Derived.Test.YtbjfgdahfpfgdaaGreatDoorKeepFaultsP9
import Derived.Test.YtbjfgdahfpfgdaaGreatDoorKeepFaultsP15
import Derived.Test.YtbjfgdahfpfgdaaGreatDoorKeepFaultsP3
import Derived.Test.YtbjfgdahfpfgdaaGreatDoorKeepFaultsP5
import Derived.Deep.RegionLaw
import Derived.Deep.CutRange
namespace Go.Proofs.YtbjfgdahfpfgdaaGreatDoor.PgW
open Go Go.RowKit Go.Maps Go.Proofs.YtbjfgdahfpfgdaaGreatDoor.Mem Go.Proofs.YtbjfgdahfpfgdaaGreatDoor.MapsW Go.Proofs.YtbjfgdahfpfgdaaGreatDoor.DevG Go.Proofs.YtbjfgdahfpfgdaaGreatDoor.PgP Go.Proofs.YtbjfgdahfpfgdaaGreatDoor.RefsW Go.Proofs.YtbjfgdahfpfgdaaGreatDoor.Ints Go.Proofs.YtbjfgdahfpfgdaaGreatDoor.ConcatW
set_option linter.unusedVariables false
set_option maxRecDepth 100000

theorem pgeo_w (lo d n : Nat) (m : Mp) (D : Dv) (p h c : Nat) (w : World) (k : PR w lo d n m D p h c) :
    Calls Tryz.prog 74 #[ptr p] w fun e w' => e = .returned (GeoW.G D.blocks h) ∧ Below w.heap.size w w' := by
  have bx := (Below.refl w.heap.size w).alloc (Nat.le_refl _) (.cells #[.int .i64 0, .int .i64 0] 25)
  obtain ⟨c0, c1, c2, c3, f3⟩ := (k.below bx).c
  have hr := heap_alloc_new w (.cells #[.int .i64 0, .int .i64 0] 25)
  have f0 := fz_of hr 0
  have f1 := fz_of hr 1
  have hF := fun O : Obj => (Below.refl w.heap.size w).alloc (Nat.le_refl _) O
  clear k hr
  go_enter Tryz.func74, Tryz.ntmps74
  go_wp2
  exact bodyPost_ret (v := GeoW.G D.blocks h) (by simp [results, Tryz.results74, go_sem]) rfl ⟨rfl, hF _⟩
/-- the free blocks below k -/
def frs (T : List Ref) (F : Int → Option Ref) (H k : Nat) : List Nat := (List.range k).filter fun (a : Nat) => decide (2 ≤ a) && !(used T F H).contains a
theorem frs_succ (T : List Ref) (F : Int → Option Ref) (H k : Nat) (h2 : 2 ≤ k) : frs T F H (k + 1) = frs T F H k ++ (if k ∈ used T F H then [] else [k]) := by
  unfold frs
  rw [List.range_succ, List.filter_append]
  by_cases h : k ∈ used T F H <;> simp [h, h2]
theorem frs_le (T : List Ref) (F : Int → Option Ref) (H k : Nat) : (frs T F H k).length ≤ k := by
  unfold frs
  have := List.length_filter_le (fun (a : Nat) => decide (2 ≤ a) && !(used T F H).contains a) (List.range k)
  simpa using this
/-- what is in use is what is in use -/
theorem used_iff {T : List Ref} {F : Int → Option Ref} {H k : Nat} {zs : List Int} (hz : usedZ T F zs) (hd : ∀ i, (F i).isSome = true → 0 ≤ i ∧ i < 256) (h2 : 2 ≤ k) (hk : k < H) : ((k : Int) ∈ zs) ↔ k ∈ used T F H := by
  rw [hz, mem_used]
  unfold tabsOf
  simp only [List.mem_map, List.mem_filter, decide_eq_true_eq]
  constructor
  · rintro (h | ⟨r, ⟨h1, h2⟩, h3⟩ | ⟨i, r, h1, h3⟩)
    · omega
    · exact ⟨hk, .inr (.inl ⟨r, h1, h3⟩)⟩
    · obtain ⟨d1, d2⟩ := hd i (by rw [h1]; rfl)
      exact ⟨hk, .inr (.inr ⟨i.toNat, by omega, r, by rw [show ((i.toNat : Nat) : Int) = i by omega]; exact h1, h3⟩)⟩
  · rintro ⟨_, h | ⟨r, h1, h3⟩ | ⟨p, _, r, h1, h3⟩⟩
    · omega
    · exact .inr (.inl ⟨r, ⟨h1, by omega⟩, h3⟩)
    · exact .inr (.inr ⟨p, r, h1, h3⟩)
theorem below_then {w a b : World} (h : Below w.heap.size w a) (k : Below a.heap.size a b) : Below w.heap.size w b := h.trans (k.mono h.size)
theorem LAt.start {wb : World} {base n tb tc a k : Nat} {T : List Ref} {F : Int → Option Ref} (h1 : OwnRefs wb base (.slice (some ⟨tb, 0, none⟩) 7 tc) 7 T) (h2 : RefMap wb a n F k) (hb : base ≤ a) (hb2 : base ≤ wb.heap.size) :
    LAt (wb.alloc (.cells (lcells tb tc a (.slice none 0 0) (.slice none 0 0) (.slice none 0 0)) 100)) base n wb.heap.size tb tc a (.slice none 0 0) (.slice none 0 0) (.slice none 0 0) ⟨T, F, [], [], []⟩ := by
  have hx := (Below.refl wb.heap.size wb).alloc (Nat.le_refl _) (.cells (lcells tb tc a (.slice none 0 0) (.slice none 0 0) (.slice none 0 0)) 100)
  obtain ⟨es, ck, ha⟩ := h2.block
  have hal := (Array.getElem?_eq_some_iff.1 ha).1
  obtain ⟨_, htl⟩ := h1.lt tb rfl
  have hne : a ≠ tb := by
    rintro rfl
    rcases h1.2 with ⟨e, _⟩ | ⟨g, c, cur, hv, _, hc, _⟩
    · cases e
    · cases hv
      rw [ha] at hc
      cases hc
  refine ⟨heap_alloc_new _ _, ownsRow_below h1 hx, ⟨k, h2.below hx⟩, World.ownsRow_nil _ _ _ _, World.ownsRow_nil _ _ _ _, ⟨none, 0, rfl, Nums.nil _ _⟩, ⟨hb2, hb⟩, ?_, ?_⟩
  · simp [blk, Value.ownBlock]
    omega
  · intro b hbm
    simp [blk, Value.ownBlock] at hbm
    simp
    omega
/-- 'append(out, p)' of a row of one's own, and where it lies -/
theorem wpList_pushI {w : World} {ops : Array Oper} {rest : List Oper} {o : Oper} {a : Act} {Q : Exit → Act → World → Prop} (hg : o.guard = none) (s x : Operand)
    (hop : o.op = .call { callee := .builtin .append, args := #[s, x], argTypes := #[62, 62] })
    (base : Nat) (v : Value) (n : Nat) (l : List Nat) (hs : a.eval s = v) (hown : w.ownsRow base 3 1 v n (nums .i64 l)) (g0 p : Nat) (hx : a.eval x = .slice (some ⟨g0, 0, none⟩) 1 1) (hc : w.cell? ⟨g0, 0, none⟩ = some (.int .i64 (p : Int))) (hn : n ≤ 100000) (hbase : base ≤ w.heap.size)
    (h : ∀ g cap w', w'.ownsRow base 3 1 (.slice (some ⟨g, 0, none⟩) (n + 1) cap) (n + 1) (nums .i64 (l ++ [p])) → w.grownBy w' v.ownBlock → (v.ownBlock = some g ∨ g = w.heap.size) → g < w'.heap.size → wpList Tryz.prog ops Q rest (a.put o.dst (.slice (some ⟨g, 0, none⟩) (n + 1) cap)) w') : wpList Tryz.prog ops Q (o :: rest) a w := by
  obtain ⟨i, hi, hz0, hz1, hz2⟩ := info_parts elInt.hi
  refine wpList_append_lies w hg s x _ hop base _ i _ 1 8 elInt.ht hi hz0 hz1 hz2 elInt.hz elInt.h0 v n _ hs hown ⟨g0, 0, none⟩ 1 1 [.int .i64 (p : Int)] hx rfl ?_ (fun u hu => by rw [List.mem_singleton.1 hu]; rfl) (by decide) (by unfold maxLen; omega) (by omega) hbase _ rfl ?_
  · intro j u hj
    match j, hj with
    | 0, hj => simp at hj; subst hj; rw [Addr.add_lit]; exact hc
    | j + 1, hj => simp at hj
  · intro g cap w' h1 h2 h3 h4
    refine h g cap w' ?_ h2 h3 h4
    have e : nums .i64 (l ++ [p]) = nums .i64 l ++ [.int .i64 (p : Int)] := by simp [nums]
    rw [e]
    exact h1
theorem step_pushI {ops : Array Oper} {o : Oper} {a : Act} {K : Act → World → Prop} {Q : Exit → Act → World → Prop} {E : Prop} {w : World} (hgd : o.guard = none) (s x : Operand)
    (hop : o.op = .call { callee := .builtin .append, args := #[s, x], argTypes := #[62, 62] })
    (base : Nat) (v : Value) (n : Nat) (l : List Nat) (hs : a.eval s = v) (hown : w.ownsRow base 3 1 v n (nums .i64 l)) (g0 p : Nat) (hx : a.eval x = .slice (some ⟨g0, 0, none⟩) 1 1) (hc : w.cell? ⟨g0, 0, none⟩ = some (.int .i64 (p : Int))) (hn : n ≤ 100000) (hbase : base ≤ w.heap.size)
    (h : ∀ g cap w', w'.ownsRow base 3 1 (.slice (some ⟨g, 0, none⟩) (n + 1) cap) (n + 1) (nums .i64 (l ++ [p])) → w.grownBy w' v.ownBlock → (v.ownBlock = some g ∨ g = w.heap.size) → g < w'.heap.size → K (a.put o.dst (.slice (some ⟨g, 0, none⟩) (n + 1) cap)) w') :
    if Region.wanted o (yielded ops a.tmps) = true then Oper.wp Tryz.prog o a w K Q else E := by
  obtain ⟨i, hi, hz0, hz1, hz2⟩ := info_parts elInt.hi
  refine step_append_lies w hgd s x _ hop base _ i _ 1 8 elInt.ht hi hz0 hz1 hz2 elInt.hz elInt.h0 v n _ hs hown ⟨g0, 0, none⟩ 1 1 [.int .i64 (p : Int)] hx rfl ?_ (fun u hu => by rw [List.mem_singleton.1 hu]; rfl) (by decide) (by unfold maxLen; omega) (by omega) hbase _ rfl ?_
  · intro j u hj
    match j, hj with
    | 0, hj => simp at hj; subst hj; rw [Addr.add_lit]; exact hc
    | j + 1, hj => simp at hj
  · intro g cap w' h1 h2 h3 h4
    refine h g cap w' ?_ h2 h3 h4
    have e : nums .i64 (l ++ [p]) = nums .i64 l ++ [.int .i64 (p : Int)] := by simp [nums]
    rw [e]
    exact h1
theorem upd_upd {α : Type} (F : Int → α) (i : Int) (x y : α) : upd (upd F i x) i y = upd F i y := by
  funext j
  unfold upd
  split <;> rfl
theorem foldlM_cut {α β : Type} (f : β → α → Option β) (l : List α) (x : β) (k : Nat) (h : (l.take k).foldlM f x = none) : l.foldlM f x = none := by
  have e := List.take_append_drop k l
  rw [← e, List.foldlM_append, h]
  rfl
/-- the tables of some pages -/
def tF (ks : List Nat) (i : Int) : Bool := ks.any fun p => decide (((p / 42 : Nat) : Int) = i)
theorem tF_snoc (ks : List Nat) (p : Nat) : tF (ks ++ [p]) = upd (tF ks) ((p / 42 : Nat) : Int) true := by
  funext i
  unfold tF upd
  rw [List.any_append]
  by_cases h : i = ((p / 42 : Nat) : Int)
  · simp [h]
  · rw [if_neg h]
    have : decide (((p / 42 : Nat) : Int) = i) = false := decide_eq_false fun e => h e.symm
    simp only [List.any_cons, List.any_nil, Bool.or_false, this]
theorem take_snoc {α β : Type} (f : β → α → Option β) (l : List α) (x : β) (k : Nat) (hk : k < l.length) {y : β} (h : (l.take k).foldlM f x = some y) : (l.take (k + 1)).foldlM f x = f y l[k] := by
  rw [List.take_succ_eq_append_getElem hk, foldlM_snoc, h]
  rfl
theorem num_below {w w' : World} {b n k : Nat} {F : Int → Bool} (h : NumMap w b n F k) (hb : Below w.heap.size w w') : NumMap w' b n F k := by
  obtain ⟨es, ck, hk⟩ := h.block
  exact h.still (hb.block b (Array.getElem?_eq_some_iff.1 hk).1)
theorem num_grown {w w' : World} {b n k r : Nat} {F : Int → Bool} (h : NumMap w b n F k) (hg : w.grownBy w' (some r)) (hr : b ≠ r) : NumMap w' b n F k := by
  obtain ⟨es, ck, hk⟩ := h.block
  exact h.still (hg.block b (Array.getElem?_eq_some_iff.1 hk).1 fun e => hr (Option.some.inj e))
theorem num_turn {S : List Nat} {w w' : World} {b n k : Nat} {F : Int → Bool} (h : NumMap w b n F k) (ht : Turn S w w') (hb : b ∉ S) : NumMap w' b n F k := by
  obtain ⟨es, ck, hk⟩ := h.block
  exact h.still (ht.block b (Array.getElem?_eq_some_iff.1 hk).1 hb)
theorem LAt.mono {w : World} {base base' n n' X tb tc a : Nat} {vn vp vf : Value} {x : Lay} (h : LAt w base n X tb tc a vn vp vf x) (hn : n ≤ n') (hb : base' ≤ base) : LAt w base' n' X tb tc a vn vp vf x := by
  obtain ⟨k, hk⟩ := h.at_
  exact ⟨h.cells, ownsRow_base h.tabs hb, ⟨k, hk.mono hn⟩, ownsRow_base h.nt hb, ownsRow_base h.pg hb, h.free, ⟨Nat.le_trans hb h.b0.1, Nat.le_trans hb h.b0.2⟩, h.nd, h.lt⟩
/-- what laid gives -/
def LaidTo (w : World) (n : Nat) (S : St) (H : Nat) (e : Ending) (w' : World) : Prop :=
  (match laid S H with
    | none => e = .returned (.tuple #[.pointer none, .bool false])
    | some x => ∃ X tb tc a vn vp vf, e = .returned (.tuple #[ptr X, .bool (fits x H)]) ∧ LAt w' w.heap.size (n + 300) X tb tc a vn vp vf x) ∧ Below w.heap.size w w'
set_option maxHeartbeats 1600000 in
theorem laid_w (lo n : Nat) (m : Mp) (D : Dv) (I : Si) (S : St) (w : World) (k : SAt w lo n m D I S) (hd4 : ∀ i, (S.at_ i).isSome = true → 0 ≤ i ∧ i < 256) (hN : NowOk S.now) (hn : n < 800000) (hH2 : 2 ≤ I.H) :
    Calls Tryz.prog 49 #[ptr I.s] w (LaidTo w n S I.H) := by
  have hH : I.H ≤ 3000 := by have := k.pr.half; have := k.pr.most; omega
  have HK := hid k
  have hfl : ∀ (b h : Int) w, (Instr.field 25 (GeoW.G b h) 1).run Tryz.prog w = .ok (.int .i64 h) w := fun b h w => by kernel_rfl
  have hgeo := pgeo_w lo I.d n m D I.p I.H I.c w k.pr
  have c1 := k.c.2.1
  clear k
  go_enter Tryz.func49, Tryz.ntmps49
  go_wp2_with fail
  refine hgeo.mono ?_
  rintro e w1 ⟨rfl, b1⟩
  have husd := used_w lo n m D I S w1 (HK.out.below b1) hd4
  have HB1 := hid b1
  clear b1 hgeo c1
  go_wp2_with fail
  refine husd.mono ?_
  rintro e w2 ⟨⟨ug, uc, zs, rfl, ownu, hrise, hz, hzl0⟩, b2⟩
  have B2 := below_then HB1.out b2
  have k2 := HK.out.below B2
  have HX := hid (show ∀ w', Below w2.heap.size w2 w' → w'.cell? ⟨I.s, 4, none⟩ = some (.slice (some ⟨I.tb, 0, none⟩) 7 I.tc) ∧ w'.cell? ⟨I.s, 5, none⟩ = some (.map (some I.a)) from fun w' hb => ⟨(k2.below hb).c.2.2.2.2.1, (k2.below hb).c.2.2.2.2.2.1⟩)
  have HT := hid (show ∀ w', Below w2.heap.size w2 w' → Refs w' (some ⟨I.tb, 0, none⟩) 7 I.tc S.tabs from fun w' hb => (k2.below hb).tabs)
  have HM := hid (show ∀ w', Below w2.heap.size w2 w' → ∃ k, RefMap w' I.a n S.at_ k from fun w' hb => (k2.below hb).at_)
  have HUO := hid (And.intro ownu (And.intro hrise hz))
  have HB2 := hid B2
  obtain ⟨c4, c5⟩ := HX.out w2.drew (Below.refl _ _).drew
  clear husd ownu hrise hz b2 B2 k2
  go_upto_region 3 with fail
  go_cut [6] from 27 to 38 (fun v wx => ∃ X tb tc a, v = ptr X ∧ LAt wx w2.heap.size n X tb tc a (.slice none 0 0) (.slice none 0 0) (.slice none 0 0) ⟨S.tabs, S.at_, [], [], []⟩ ∧ Below w2.heap.size w2 wx)
  case first =>
    go_region_held3 (fun w' => w'.cell? ⟨I.s, 4, none⟩ = some (.slice (some ⟨I.tb, 0, none⟩) 7 I.tc) ∧ w'.cell? ⟨I.s, 5, none⟩ = some (.map (some I.a))) (first | exact ⟨c4, c5⟩ | exact x34 | exact x3 | exact x4 | go_keep)
      ((first
        | (go_at_call 80
           refine (cloneRefs_w I.tb 0 7 I.tc S.tabs _ (by first | exact HT.out _ B4 | exact HT.out _ (below_drewN (Below.refl _ _) _)) (by decide)).mono ?_
           rintro e w3 ⟨g3, cap3, rfl, own3, b3⟩
           have B3 : Below w2.heap.size w2 w3 := by first | exact below_then B4 b3 | exact below_then (below_drewN (Below.refl _ _) _) b3
           have x3 := HX.out w3 B3)
        | (go_at_call 81
           obtain ⟨k4, hk4⟩ := HM.out w2 (Below.refl _ _)
           refine (cloneMap_w I.a n _ S.at_ _ (by first | exact RefMap.below hk4 B3 | exact RefMap.below hk4 (below_drewN (Below.refl _ _) _))).mono ?_
           rintro e w4 ⟨rfl, hm4, -, b4⟩
           have B4 : Below w2.heap.size w2 w4 := by first | exact below_then B3 b4 | exact below_then (below_drewN (Below.refl _ _) _) b4
           have x4 := HX.out w4 B4)))
    all_goals
      have hw2 := HB2.out.size
      have hw3 := B3.size
      have hw4 := B4.size
      go_wp2_with fail
      go_meet
      first
        | exact ⟨_, _, _, _, rfl, LAt.start (ownsRow_base (ownsRow_below own3 b4) (Nat.le_refl _)) hm4 hw3 hw4, B4.alloc hw4 _⟩
        | exact ⟨_, _, _, _, rfl, LAt.start (ownsRow_base own3 hw4) (hm4.below b3) (Nat.le_refl _) hw3, B3.alloc hw3 _⟩
  case rest =>
    obtain ⟨X, tb, tc, a, rfl, hL, bc⟩ := hcut
    obtain ⟨fr, hfr⟩ : ∃ f : Nat → List Nat, f = frs S.tabs S.at_ I.H := ⟨_, rfl⟩
    have HFS := hid (show ∀ k, 2 ≤ k → fr (k + 1) = fr k ++ (if k ∈ used S.tabs S.at_ I.H then [] else [k]) by rw [hfr]; exact frs_succ S.tabs S.at_ I.H)
    have HFL := hid (show ∀ k, (fr k).length ≤ k by rw [hfr]; exact frs_le S.tabs S.at_ I.H)
    have h2 : fr 2 = [] := by rw [hfr]; rfl
    have HFA := hid (show fr I.H = frees S.tabs S.at_ I.H by rw [hfr]; rfl)
    have HUI := hid (fun (k : Nat) (h2 : 2 ≤ k) (hk : k < I.H) => used_iff (T := S.tabs) (F := S.at_) HUO.out.2.2 hd4 h2 hk)
    have HL0 := hid hL
    have HBC := hid bc
    have hzl : zs.length ≤ 1000000 := by omega
    clear hfr hL bc c4 c5
    go_wp2_with fail
    go_loopw [7] (fun iv wr => ∃ (j : Nat) (vf : Value), 2 ≤ j ∧ j ≤ I.H ∧ iv = .int .i64 j ∧ LAt wr w2.heap.size n X tb tc a (.slice none 0 0) (.slice none 0 0) vf ⟨S.tabs, S.at_, [], [], fr j⟩ ∧ wr.ownsRow w2.heap.size 3 1 vf (fr j).length (nums .i64 (fr j)) ∧ Below w2.heap.size w2 wr) (fun iv _ => I.H - (RowKit.intOf iv).toNat)
    case atStart => exact ⟨2, _, by omega, hH2, rfl, by rw [h2]; exact HL0.out, by rw [h2]; exact World.ownsRow_nil _ _ _ _, HBC.out⟩
    case round =>
      obtain ⟨j, vf, hj2, hjH, rfl, hL, hof, hb⟩ := hrel
      by_cases hlt : j < I.H
      · have hsr := search_w ug 0 zs.length uc zs (j : Int) wr ((Row.owned HUO.out.1).2.below hb) hzl HUO.out.2.1
        have hui := HUI.out j hj2 hlt
        have hs := HFS.out j hj2
        have hle := HFL.out j
        have hw2 := HB2.out.size
        have hsz := hb.size
        have HB := hid hb
        have HLL := hid hL
        have HOF := hid hof
        by_cases hin : j ∈ used S.tabs S.at_ I.H
        · rw [decide_eq_true (hui.2 hin)] at hsr
          rw [if_pos hin, List.append_nil] at hs
          have HS := hid hs
          clear hui hin hs hL hof hb
          go_wp2_with fail
          refine hsr.mono ?_
          rintro e w4 ⟨⟨x, rfl⟩, b4⟩
          have HP := hid (And.intro (HLL.out.below b4) (And.intro (ownsRow_below HOF.out b4) (below_then HB.out b4)))
          clear b4 hsr
          go_wp2_with fail
          go_roundw
          case rel =>
            obtain ⟨q1, q2, q3⟩ := HP.out
            exact ⟨j + 1, vf, by omega, by omega, by go_num, by rw [HS.out]; exact q1, by rw [HS.out]; exact q2, q3⟩
          case measure => simp [RowKit.intOf]; omega
        · rw [decide_eq_false (fun h => hin (hui.1 h))] at hsr
          rw [if_neg hin] at hs
          have HS := hid hs
          clear hui hin hs hL hof hb
          go_wp2_with fail
          refine hsr.mono ?_
          rintro e w4 ⟨⟨x, rfl⟩, b4⟩
          have hB4 := below_then HB.out b4
          have hL4 := HLL.out.below b4
          have hO4 := ownsRow_below HOF.out b4
          have hsz4 := hB4.size
          have HB4 := hid hB4
          have z4 := hL4.c.2.2.2.2.1
          have HL4 := hid hL4
          have hw4 : w.heap.size ≤ w4.heap.size := by omega
          clear b4 hsr hB4 hL4
          have hq9 : (fr j).length ≤ 100000 := by omega
          have hOl := hO4.alloc (.cells #[.int .i64 (j : Int)] 3)
          have hLl := HL4.out.below ((Below.refl _ w4).alloc (Nat.le_refl _) (.cells #[.int .i64 (j : Int)] 3))
          have HLl := hid hLl
          clear hLl hO4
          go_wp2_with (at_builtin; go_must (refine wpList_pushI rfl _ _ rfl w2.heap.size _ _ _ rfl hOl _ j rfl (by simp) hq9 (by simp; omega) ?_); intro g5 c5 w5 own5 hg5 hat5 hlt5; obtain ⟨y4, yf, hL5, ho5⟩ := HLl.out.pushFree rfl own5 hg5 hat5 hlt5; have yf4 := yf 4)
          have HB5 := hid (((HB4.out.alloc hsz4 (.cells #[.int .i64 (j : Int)] 3)).grown hg5 (by simp; omega) (fun g e => (hOl.lt g e).1)).setCell (p := ⟨X, 4, none⟩) HL4.out.b0.1 (.slice (some ⟨g5, 0, none⟩) ((fr j).length + 1) c5))
          have HP := hid (And.intro hL5 ho5)
          clear hL5 ho5 own5 hg5 hat5 hlt5 hOl y4 yf yf4 z4
          go_wp2
          go_roundw
          case rel =>
            obtain ⟨q1, q2⟩ := HP.out
            have e1 : (fr (j + 1)).length = (fr j).length + 1 := by rw [HS.out]; simp
            refine ⟨j + 1, .slice (some ⟨g5, 0, none⟩) ((fr j).length + 1) c5, by omega, by omega, by go_num, ?_, ?_, HB5.out⟩
            · rw [HS.out]; exact q1
            · rw [e1, HS.out]; exact q2
          case measure => simp [RowKit.intOf]; omega
      · obtain rfl : j = I.H := by omega
        generalize wr = w3 at *
        have hB3 := below_then HB2.out (hb.mono (Nat.le_refl _))
        have hmm := @run_makeMap Tryz.prog
        obtain ⟨ks, hks⟩ : ∃ ks, ks = keys S.now := ⟨_, rfl⟩
        have hk256 : ks.length ≤ 256 := by
          rw [hks]
          unfold keys
          have := List.length_filter_le (fun (p : Nat) => (S.now (p : Int)).isSome) (List.range 256)
          simpa using this
        have HKM := hid (show ∀ p ∈ ks, p < 256 ∧ (S.now (p : Int)).isSome = true from fun p hp => mem_keys.1 (by rw [← hks]; exact hp))
        rw [HFA.out] at hL
        have bM := (Below.refl w3.heap.size w3).alloc (Nat.le_refl _) (.map #[] 0)
        have bK := bM.alloc (by simp) (.cells #[.map (some I.o)] 91)
        obtain ⟨wM, hwM⟩ : ∃ x, x = (w3.alloc (.map #[] 0)).alloc (.cells #[.map (some I.o)] 91) := ⟨_, rfl⟩
        have zM : wM.heap.size = w3.heap.size + 2 := by rw [hwM]; simp
        have hLM := hL.below (by rw [← hwM] at bK; exact bK)
        have kM := HK.out.below (below_then hB3 (by rw [← hwM] at bK; exact bK))
        obtain ⟨kk, hno⟩ := kM.now
        have hcK : wM.cell? ⟨w3.heap.size + 1, 0, none⟩ = some (.map (some I.o)) := by
          have : wM.heap[w3.heap.size + 1]? = some (.cells #[.map (some I.o)] 91) := by rw [hwM]; exact alloc_at (by simp) _
          simp [World.cell?, this]
        have hso := now_sorted I.o n (w3.heap.size + 1) lo kk S.now wM (by omega) hcK hno hN.dom
        rw [← hks] at hso
        have HKS := hid hks
        clear hks
        have hnm : NumMap wM w3.heap.size 0 (fun _ => false) 0 := (NumMap.made w3).still (by rw [hwM]; exact ((Below.refl _ (w3.alloc (.map #[] 0))).alloc (Nat.le_refl _) (.cells #[.map (some I.o)] 91)).block _ (by simp))
        have c6 := (HK.out.below hB3).c.2.2.2.2.2.2.1
        have c6M := (HK.out.below (below_then hB3 bM)).c.2.2.2.2.2.2.1
        have bKM : Below w3.heap.size w3 wM := by rw [hwM]; exact bK
        have HWM := hid hwM
        have HBM := hid (below_then hB3 bKM)
        have HLM := hid hLM
        have HNM := hid hnm
        have HLT := hid hL.lt
        clear hL hof hb hB3 bM bK hLM kM hno hcK hnm hlt hjH hj2 bKM
        go_wp2_with fail
        refine (keys_w (some I.o) _).mono ?_
        rintro e wx ⟨rfl, rfl⟩
        have hz1 : (w3.alloc (.map #[] 0)).heap.size = w3.heap.size + 1 := by simp
        rw [hz1]
        clear hz1
        go_wp2_with fail
        rw [← HWM.out]
        refine hso.mono ?_
        rintro e wS ⟨v, rfl, ownK, bS⟩
        obtain ⟨va, vc, rfl, hvr⟩ := ownsRow_slice ownK
        have hnk : Nums .i64 wS va ks.length vc ks := hvr
        obtain ⟨tm, htm⟩ : ∃ tm, tm = w3.heap.size := ⟨_, rfl⟩
        have hzS := bS.size
        have hLS := HLM.out.below bS
        have hNS := num_below HNM.out bS
        have hBS := below_then HBM.out bS
        have hlt3 : ∀ b ∈ X :: a :: tb :: (blk (.slice none 0 0) ++ (blk (.slice none 0 0) ++ blk vf)), b < tm := by rw [htm]; exact HLT.out
        have hX3 : X < tm := hlt3 X (by simp)
        have ha3 : a < tm := hlt3 a (by simp)
        have htb3 : tb < tm := hlt3 tb (by simp)
        have hvf3 : ∀ b ∈ blk vf, b < tm := fun b hb => hlt3 b (by simp [hb])
        have hbX := hLS.b0
        rw [← htm] at hNS zM ⊢
        have hwm : tm < wM.heap.size := by omega
        have hww : w.heap.size ≤ w2.heap.size := HB2.out.size
        have HROW := hid (show ∀ wr, Turn [X, a, tm] wS wr → Nums .i64 wr va ks.length vc ks from fun wr T => RootW.nums_turn hnk T fun b o e hm => by
          have h1 := RootW.own_ge ownK b o e
          simp at hm
          omega)
        have HKT := hid (show ∀ wr, Turn [X, a, tm] wS wr → SAt wr lo n m D I S from fun wr T => HK.out.below (hBS.trans (T.below hBS.size (fun x hx => by simp at hx; have := hbX.1; have := hbX.2; omega))))
        have HBT := hid (show ∀ wr, Turn [X, a, tm] wS wr → Below w.heap.size w wr from fun wr T => hBS.trans (T.below hBS.size (fun x hx => by simp at hx; have := hbX.1; have := hbX.2; omega)))
        have HS0 := hid (And.intro hLS hNS)
        clear hvr hnk ownK hso htm hLS hNS hBS bS c6 c6M hlt3
        go_wp2_with fail
        go_loopw [70] (fun iv wr => ∃ j : Nat, j ≤ ks.length ∧ iv = .int .i64 j ∧ ∃ vp vf x, (ks.take j).foldlM (layP S.now) (PgP.start S I.H) = some x ∧ LAt wr w2.heap.size (n + j) X tb tc a (.slice none 0 0) vp vf x ∧ (∃ kk, NumMap wr tm j (tF (ks.take j)) kk) ∧ (∀ b ∈ blk vp, wS.heap.size ≤ b) ∧ (∀ b ∈ blk vf, b < tm) ∧ Turn [X, a, tm] wS wr) (fun iv _ => ks.length - (RowKit.intOf iv).toNat)
        case atStart => exact ⟨0, by omega, rfl, _, _, _, rfl, HS0.out.1, ⟨0, HS0.out.2⟩, by simp [blk_nil], hvf3, Turn.refl _ _⟩
        case round =>
          clear hvf3
          obtain ⟨j, hj, rfl, vp, vf, x, hx, hL, ⟨kn, hnum⟩, hbp, hbf, hT⟩ := hrel
          by_cases hlt : j < ks.length
          · have hdl : decide ((j : Int) < (ks.length : Int)) = true := decide_eq_true (by omega)
            obtain ⟨bk, ok, e, hc⟩ := (HROW.out wr hT).at (j := j) hlt
            subst e
            have hpl : x.pg.length ≤ 256 := by
              rcases layP_all S.now S.tabs S.at_ (frees S.tabs S.at_ I.H) (ks.take j) ((by rw [HKS.out]; exact keys_nodup _ : ks.Nodup).sublist (List.take_sublist _ _)) with ⟨x', e', hP⟩ | ⟨e', _⟩
              · have : some x' = some x := e'.symm.trans hx
                obtain rfl := Option.some.inj this
                rw [hP.pg]
                have h1 := List.length_filter_le (needs S.now) (ks.take j)
                have h2 := List.length_take_le j ks
                omega
              · have : (none : Option Lay) = some x := e'.symm.trans hx
                cases this
            have hsn := hid (take_snoc (layP S.now) ks (PgP.start S I.H) j hlt hx)
            have htk := hid (List.take_succ_eq_append_getElem hlt)
            obtain ⟨p, hp⟩ : ∃ p, p = ks[j] := ⟨_, rfl⟩
            rw [← hp] at hc
            have hpm := HKM.out p (by rw [hp]; exact List.getElem_mem hlt)
            have HPP := hid hp
            have hp256 : p < 256 := hpm.1
            have hfp : Fits (p : Int) := by unfold Fits; omega
            have hfq : Fits ((p / 42 : Nat) : Int) := by unfold Fits; omega
            have htl : tm ∉ X :: a :: tb :: (blk (.slice none 0 0) ++ (blk vp ++ blk vf)) := by
              rw [blk_nil]
              simp only [List.mem_cons, List.mem_append, List.not_mem_nil, not_or]
              exact ⟨by omega, by omega, by omega, not_false, fun h => by have := hbp tm h; omega, fun h => by have := hbf tm h; omega⟩
            have HTL := hid htl
            have HL := hid hL
            have HT := hid hT
            have hno0 := (HKT.out wr hT)
            clear hpm hp hx htl hT hL hno0
            cases hnd : needs S.now p with
            | false =>
              have hnf := needs_false hnd
              have HND := hid hnd
              clear hnd
              go_wp2_with (first
                | (at_mapUpdate; refine wpList_putNum _ rfl _ _ _ rfl hnum (by omega) hfq rfl rfl rfl ?_; intro w4 hr4 hg4; have hL4 := HL.out.grown hg4 HTL.out; have T4 : Turn [X, a, tm] wr w4 := Turn.of_grown hg4 (by simp); obtain ⟨y0, y1, y2, y3, y4, yz⟩ := hL4.c)
                | (at_delete; obtain ⟨ka4, hat4⟩ := hL4.at_; refine wpList_delRef _ rfl _ _ rfl hat4 hfp rfl rfl ?_; intro w5 hr5 hg5; have hL5 := hL4.setAt hr5 hg5; have T5 : Turn [X, a, tm] wS w5 := (HT.out.then T4).then (Turn.of_grown hg5 (by simp)); have hn5 := num_grown hr4 hg5 (by omega); have k5 := HKT.out w5 T5; obtain ⟨kn5, hno5⟩ := k5.now; have l5 := hno5.look_none hfp hnf; have c65 := k5.c.2.2.2.2.2.2.1))
              have HE := hid (And.intro hL5 (And.intro hn5 T5))
              clear hL4 hL5 hn5 hno5 k5 T4 T5 hr4 hr5 hg4 hg5 hat4 hnum y0 y1 y2 y3 y4 yz
              go_roundw
              case rel =>
                obtain ⟨q1, q2, q3⟩ := HE.out
                refine ⟨j + 1, by omega, by go_num, vp, vf, { x with at_ := upd x.at_ p none }, ?_, q1.mono (by omega) (Nat.le_refl _), ?_, hbp, hbf, q3⟩
                · rw [hsn.out, ← HPP.out]
                  unfold layP
                  rw [if_pos hnf]
                · rw [htk.out, ← HPP.out, tF_snoc]
                  exact ⟨_, q2⟩
              case measure => simp [RowKit.intOf]; omega
            | true =>
              obtain ⟨y, l, hNp⟩ : ∃ y l, S.now (p : Int) = some (y :: l) := by
                have := needs_true hnd
                cases hh : S.now (p : Int) with
                | none => rw [hh] at this; exact absurd rfl this
                | some l0 =>
                  rw [hh] at this
                  cases l0 with
                  | nil => exact absurd rfl this
                  | cons y l => exact ⟨y, l, rfl⟩
              have hlk : ∀ (w' : World) (kk : Nat), NowMap w' lo I.o n S.now kk → ∃ g cap q, (Instr.lookup 91 (.map (some I.o)) (.int .i64 (p : Int)) false).run Tryz.prog w' = .ok (.slice (some ⟨g, 0, none⟩) q cap) w' ∧ ((q : Int) == 0) = false := by
                intro w' kk hno
                obtain ⟨g, cap, h1, _, _⟩ := hno.look_some hfp hNp
                exact ⟨g, cap, l.length + 1, h1, by rw [beq_eq_false_iff_ne]; omega⟩
              have HND := hid hnd
              have HNP := hid hNp
              clear hnd hNp
              go_wp2_with (first
                | (at_mapUpdate; refine wpList_putNum _ rfl _ _ _ rfl hnum (by omega) hfq rfl rfl rfl ?_; intro w4 hr4 hg4; have hL4 := HL.out.grown hg4 HTL.out; have T4 : Turn [X, a, tm] wr w4 := Turn.of_grown hg4 (by simp); obtain ⟨y0, y1, y2, y3, y4, yz⟩ := hL4.c)
                | (at_delete; obtain ⟨ka4, hat4⟩ := hL4.at_; refine wpList_delRef _ rfl _ _ rfl hat4 hfp rfl rfl ?_; intro w5 hr5 hg5; have hL5 := hL4.setAt hr5 hg5; have T5 : Turn [X, a, tm] wS w5 := (HT.out.then T4).then (Turn.of_grown hg5 (by simp)); have hn5 := num_grown hr4 hg5 (by omega); have k5 := HKT.out w5 T5; obtain ⟨kn5, hno5⟩ := k5.now; obtain ⟨gq, gcq, q, l5, hq0⟩ := hlk w5 _ hno5; have c65 := k5.c.2.2.2.2.2.2.1))
              have HE := hid (And.intro hL5 (And.intro hn5 T5))
              have hsz5 : w2.heap.size ≤ w5.heap.size := by
                have h1 := HBT.out w5 T5
                have h2 := T5.size
                omega
              have hsn' := hsn.out
              rw [← HPP.out] at hsn'
              have HSN := hid hsn'
              clear hL4 hL5 hn5 hno5 k5 T4 T5 hr4 hr5 hg4 hg5 hat4 hnum y0 y1 y2 y3 y4 yz l5 hq0 c65 hlk hsn'
              cases hfr : x.free with
              | nil =>
                have htn := take_none w2.heap.size (n + j) X tb tc a (.slice none 0 0) vp vf { x with at_ := upd x.at_ p none } w5 HE.out.1 hfr hsz5
                have hnone : laid S I.H = none := by
                  unfold laid laid0
                  have h1 : layP S.now x p = none := by unfold layP; rw [if_neg (needs_true HND.out), hfr]
                  have := HSN.out
                  rw [h1] at this
                  rw [← HKS.out, foldlM_cut _ _ _ (j + 1) this]
                  rfl
                have HNO := hid hnone
                have HB5 := hid (HBT.out w5 HE.out.2.2)
                clear hnone hfr
                refine htn.mono ?_
                rintro e w6 ⟨rfl, hL6, b6⟩
                have HB6 := hid (below_then HB5.out b6)
                clear hL6 b6 htn
                have bz := HB6.out.alloc (by have := HB6.out.size; omega) (.cells #[.int .i64 0, .int .u32 0] 111)
                have HBZ := hid bz
                clear bz
                go_wp2
                refine bodyPost_ret (v := .tuple #[.pointer none, .bool false]) (by simp [results, Tryz.results49, go_sem]) rfl ?_
                unfold LaidTo
                rw [HNO.out]
                exact ⟨rfl, HBZ.out⟩
              | cons f fs =>
                have hts := take_some w2.heap.size (n + j) X tb tc a (.slice none 0 0) vp vf { x with at_ := upd x.at_ p none } f fs w5 HE.out.1 hfr hsz5
                have HFR := hid hfr
                clear hfr
                refine hts.mono ?_
                rintro e w6 ⟨rfl, ⟨vf', hL6, hbf6⟩, t6⟩
                have hsz6 := t6.size
                have b7 := (Below.refl w6.heap.size w6).alloc (Nat.le_refl _) (.cells #[.int .i64 (f : Int), .int .u32 0] 111)
                have b7' := (Below.refl w6.heap.size w6).alloc (Nat.le_refl _) (.cells #[.int .i64 (f : Int), .int .u32 ((0 : Nat) : Int)] 111)
                have hL7 := hL6.below b7
                have n6 := num_turn HE.out.2.1 t6 (by simp; omega)
                have n7 := num_below n6 b7
                obtain ⟨y0, y1, y2, y3, y4, yz⟩ := hL7.c
                obtain ⟨r0, r1⟩ := new2 w6 (.int .i64 (f : Int)) (.int .u32 0) 111
                have rr := heap_alloc_new w6 (.cells #[.int .i64 (f : Int), .int .u32 0] 111)
                have T7 : Turn [X, a, tm] wS (w6.alloc (.cells #[.int .i64 (f : Int), .int .u32 0] 111)) := (HE.out.2.2.then (t6.mono (by simp))).then (Turn.of_below b7)
                obtain ⟨w7, hw7⟩ : ∃ x, x = w6.alloc (.cells #[.int .i64 (f : Int), .int .u32 0] 111) := ⟨_, rfl⟩
                have z7 : w7.heap.size = w6.heap.size + 1 := by rw [hw7]; simp
                have HW7 := hid hw7
                have HZ7 := hid z7
                have hOl : (w7.alloc (.cells #[.int .i64 (p : Int)] 3)).ownsRow w2.heap.size 3 1 vp x.pg.length (nums .i64 x.pg) := by rw [hw7]; exact hL7.pg.alloc _
                have hLl := hL7.below ((Below.refl _ _).alloc (Nat.le_refl _) (.cells #[.int .i64 (p : Int)] 3))
                rw [← hw7] at hLl y0 y1 y2 y3 y4 r0 r1 rr n7 T7
                have HLl := hid hLl
                have HN7 := hid (And.intro n7 T7)
                have hql : x.pg.length ≤ 100000 := by omega
                have hw27 : w2.heap.size ≤ w7.heap.size := by omega
                have hbx : w6.heap.size ∉ blk vp := fun hm => by have := hL6.lt w6.heap.size (by simp [hm]); omega
                have hXlt : X < w6.heap.size := hL6.lt X (by simp)
                have htm6 : tm < w6.heap.size := by have := HE.out.2.2.size; omega
                have RR := hid rr
                clear hL6 t6 hts b7 b7' hL7 hLl n6 n7 T7 z7 yz rr
                go_upto_region 20 with fail
                rw [← HW7.out]
                clear hw7
                go_upto_region 21 with (at_builtin; go_must (refine wpList_pushI rfl _ _ rfl w2.heap.size _ _ _ rfl hOl _ p rfl (by simp) hql (by simp; omega) ?_); intro g8 c8 w8 own8 hg8 hat8 hlt8; obtain ⟨z3, zf, hL9⟩ := HLl.out.pushPg rfl own8 hg8 hat8 hlt8; have zf3 := zf 3)
                replace hg8 : (w7.alloc (.cells #[.int .i64 (p : Int)] 3)).grownBy w8 vp.ownBlock := hg8
                obtain ⟨W8, hW8⟩ : ∃ W, W = w8.setCell ⟨X, 3, none⟩ (.slice (some ⟨g8, 0, none⟩) (x.pg.length + 1) c8) := ⟨_, rfl⟩
                rw [← hW8] at hL9 ⊢
                have hset := grown_set w8 X 3 (.slice (some ⟨g8, 0, none⟩) (x.pg.length + 1) c8)
                rw [← hW8] at hset
                have hz7 := HZ7.out
                have hbl : (w7.alloc (.cells #[.int .i64 (p : Int)] 3)).heap.size = w7.heap.size + 1 := by simp
                have hlit := (Below.refl w7.heap.size w7).alloc (Nat.le_refl _) (.cells #[.int .i64 (p : Int)] 3)
                have hs8 := hg8.size
                have hvpn : ∀ b, b < w7.heap.size → b ∉ blk vp → b ≠ X → W8.heap[b]? = w7.heap[b]? := fun b h1 h2 h3 => by
                  rw [hset.block b (by omega) (fun e => h3 (Option.some.inj e)), hg8.block b (by omega) (fun e => h2 (by unfold blk; rw [← e]; simp)), hlit.block b h1]
                have rr8 := (hvpn w6.heap.size (by omega) hbx (by omega)).trans RR.out
                have hdr := (Below.refl W8.heap.size W8).drew
                obtain ⟨ka9, hka9⟩ := hL9.at_
                obtain ⟨w10, hrun0, hr10, hg10⟩ := (hka9.below hdr).store (by omega) hfp ((f : Int), 0)
                have hrun : (Instr.mapUpdate 90 (.map (some a)) (.int .i64 (p : Int)) (.agg #[.int .i64 (f : Int), .int .u32 0])).run Tryz.prog W8.drew = .ok () w10 := hrun0
                have hL10 := (hL9.below hdr).setAt hr10 hg10
                have rrd := (hdr.block w6.heap.size (by have := (Array.getElem?_eq_some_iff.1 rr8).1; omega)).trans rr8
                have rc : W8.drew.cell? ⟨w6.heap.size, 0, none⟩ = some (.int .i64 (f : Int)) ∧ W8.drew.cell? ⟨w6.heap.size, 1, none⟩ = some (.int .u32 0) := by simp only [World.cell?, rrd]; exact ⟨rfl, rfl⟩
                obtain ⟨rc0, rc1⟩ := rc
                have xc1 := (hL9.below hdr).c.2.1
                have hkeepT : Turn [X, a, tm] wS w10 := by
                  have t1 : Turn [X, a, tm] wS (w7.alloc (.cells #[.int .i64 (p : Int)] 3)) := HN7.out.2.then (Turn.of_below hlit)
                  have t2 : Turn (blk vp) (w7.alloc (.cells #[.int .i64 (p : Int)] 3)) w8 := ⟨hg8.os, hg8.tape, hg8.output, hg8.size, fun b h1 h2 => hg8.block b h1 fun e => h2 (by unfold blk; rw [← e]; simp)⟩
                  have t3 : Turn [X] w8 W8 := Turn.of_grown hset (by simp)
                  have t4 : Turn [a] W8 w10 := (Turn.of_below hdr).then (Turn.of_grown hg10 (by simp))
                  exact ((t1.trans t2 (fun b hb => .inr (hbp b hb))).then (t3.mono (by simp))).then (t4.mono (by simp))
                have hnum10 : NumMap w10 tm (j + 1) (upd (tF (ks.take j)) ((p / 42 : Nat) : Int) true) _ := num_grown ((HN7.out.1.still (hvpn tm (by omega) (fun hm => by have := hbp tm hm; omega) (by omega))).still (hdr.block tm (by have := hset.size; omega))) hg10 (by omega)
                have HF := hid (And.intro hL10 (And.intro hnum10 hkeepT))
                have HAT := hid hat8
                have hws7 : wS.heap.size ≤ w7.heap.size := HN7.out.2.size
                have HBL := hid hbl
                clear hL10 hnum10 hkeepT hL9 hset hlit hvpn rr8 hka9 hr10 hg10 rrd hdr own8 hg8 hat8 hOl hbl hrun0 hs8 hW8 hlt8 z3 zf zf3 y0 y1 y2 y3 y4 r0 r1
                go_region
                all_goals
                  go_wp2_with fail
                  go_roundw
                  case rel =>
                    obtain ⟨q1, q2, q3⟩ := HF.out
                    refine ⟨j + 1, by omega, by go_num, .slice (some ⟨g8, 0, none⟩) (x.pg.length + 1) c8, vf', { x with at_ := upd x.at_ p (some ((f : Int), 0)), pg := x.pg ++ [p], free := fs }, ?_, ?_, ?_, ?_, by rw [hbf6]; exact hbf, q3⟩
                    · rw [HSN.out]
                      unfold layP
                      rw [if_neg (needs_true HND.out), HFR.out]
                    · have := q1.mono (n' := n + (j + 1)) (by omega) (Nat.le_refl _)
                      rw [upd_upd] at this
                      exact this
                    · rw [htk.out, ← HPP.out, tF_snoc]
                      exact ⟨_, q2⟩
                    · intro b hb
                      rw [blk_slice] at hb
                      rw [List.mem_singleton.1 hb]
                      rcases HAT.out with e | e
                      · exact hbp g8 (by unfold blk; rw [show vp.ownBlock = some g8 from e]; simp)
                      · rw [e, HBL.out]; omega
                  case measure => simp [RowKit.intOf]; omega
          · obtain rfl : j = ks.length := by omega
            have hx' : ks.foldlM (layP S.now) (PgP.start S I.H) = some x := by rw [List.take_of_length_le (Nat.le_refl _)] at hx; exact hx
            rw [List.take_of_length_le (Nat.le_refl _)] at hnum
            obtain ⟨ts, hts⟩ : ∃ ts, ts = touched ks := ⟨_, rfl⟩
            have hts7 : ts.length ≤ 7 := by
              rw [hts]
              unfold touched
              have := List.length_filter_le (fun t => ks.any fun p => decide (p / 42 = t)) (List.range 7)
              simpa using this
            have HTM := hid (show ∀ t ∈ ts, t < 7 from fun t ht => (mem_touched.1 (by rw [← hts]; exact ht)).1)
            have hdF : ∀ i, tF ks i = true → 0 ≤ i ∧ i < 7 := by
              intro i hi
              unfold tF at hi
              rw [List.any_eq_true] at hi
              obtain ⟨p, hp, e⟩ := hi
              have := (HKM.out p hp).1
              have := of_decide_eq_true e
              omega
            have hkn := num_le hnum (fun i hi => by have := hdF i hi; omega)
            have HWR := hid (HBT.out wr hT)
            have bK2 := (Below.refl wr.heap.size wr).alloc (Nat.le_refl _) (.cells #[.map (some tm)] 145)
            have hnk := nkeys_sorted tm ks.length wr.heap.size kn (tF ks) (wr.alloc (.cells #[.map (some tm)] 145)) (by simp) (by simp) (num_below hnum bK2) (by omega)
            have hLK := hL.below bK2
            have HBK := hid (below_then HWR.out bK2)
            have HLK := hid hLK
            have HX2 := hid hx'
            have HTS := hid hts
            have hww2 : w2.heap.size ≤ wr.heap.size := by have := hT.size; omega
            clear hL hT hnum hbp hbf hx hx' hts hLK bK2 hlt hj
            go_wp2_with fail
            refine (nkeys_w (some tm) _).mono ?_
            rintro e wx ⟨rfl, rfl⟩
            go_wp2_with fail
            refine hnk.mono ?_
            rintro e wT ⟨v, kz, rfl, hNK, hkl, ownT, bT⟩
            have hkz : kz = ts.map fun (t : Nat) => (t : Int) := by
              refine SortW.rise_eq hNK.rise (cast_rise (by rw [HTS.out]; exact List.pairwise_lt_range.filter _)) fun i => ?_
              rw [hNK.mem, List.mem_map]
              constructor
              · intro hi
                obtain ⟨d1, d2⟩ := hdF i hi
                refine ⟨i.toNat, by rw [HTS.out]; refine mem_touched.2 ⟨by omega, ?_⟩; unfold tF at hi; rw [List.any_eq_true] at hi; obtain ⟨p, hp, e⟩ := hi; exact ⟨p, hp, by have := of_decide_eq_true e; omega⟩, by omega⟩
              · rintro ⟨t, ht, rfl⟩
                rw [HTS.out] at ht
                obtain ⟨_, p, hp, e⟩ := mem_touched.1 ht
                unfold tF
                rw [List.any_eq_true]
                exact ⟨p, hp, decide_eq_true (by omega)⟩
            rw [hkz, List.length_map] at ownT
            have ownT' : wT.ownsRow (wr.alloc (.cells #[.map (some tm)] 145)).heap.size 3 1 v ts.length (nums .i64 ts) := by
              rw [List.map_map] at ownT
              exact ownT
            obtain ⟨va2, vc2, rfl, hvr2⟩ := ownsRow_slice ownT'
            have hLT := HLK.out.below bT
            have hBT2 := below_then HBK.out bT
            have hzT := bT.size
            have hwrT : wr.heap.size < wT.heap.size := by simp at hzT; omega
            have hrow := RootW.own_ge ownT'
            have hLlt := hLT.lt
            have hXt : X < wr.heap.size + 1 ∧ tb < wr.heap.size + 1 := by
              have h1 := HLK.out.lt X (by simp)
              have h2 := HLK.out.lt tb (by simp)
              simp at h1 h2
              exact ⟨h1, h2⟩
            have HROW3 := hid (show ∀ wr', Turn [X, tb] wT wr' → Nums .i64 wr' va2 ts.length vc2 ts from fun wr' T => RootW.nums_turn hvr2 T fun b o e hm => by
              have h1 := hrow b o e
              simp at hm h1
              omega)
            have HBW3 := hid (show ∀ wr', Turn [X, tb] wT wr' → Below w.heap.size w wr' from fun wr' T => hBT2.trans (T.below hBT2.size (fun x hx => by
              have h1 := hLT.b0.1
              have h2 := (hLT.tabs.lt tb rfl).1
              simp at hx
              omega)))
            have HPI := hid (show PInv S.now S.tabs S.at_ (frees S.tabs S.at_ I.H) ks x by
              rcases layP_all S.now S.tabs S.at_ (frees S.tabs S.at_ I.H) ks (by rw [HKS.out]; exact keys_nodup _) with ⟨x', e', hP⟩ | ⟨e', _⟩
              · have : some x' = some x := e'.symm.trans HX2.out
                obtain rfl := Option.some.inj this
                exact hP
              · have : (none : Option Lay) = some x := e'.symm.trans HX2.out
                cases this)
            have HDX := hid (show ∀ i, (x.at_ i).isSome = true → 0 ≤ i ∧ i < 256 from fun i hi => by
              by_cases hex : ∃ p ∈ ks, (p : Int) = i
              · obtain ⟨p, hp, rfl⟩ := hex
                have := (HKM.out p hp).1
                omega
              · rw [HPI.out.old i (fun p hp e => hex ⟨p, hp, e⟩)] at hi
                exact hd4 i hi)
            have HTI := hid (show ∀ j y, (ts.take j).foldlM layT x = some y → y.at_ = x.at_ ∧ y.tabs.length = 7 ∧ y.nt.length ≤ 7 from fun j y hy => by
              have hxe : x = ⟨S.tabs, x.at_, [], x.pg, x.free⟩ := by
                have h1 := HPI.out.tabs
                have h2 := HPI.out.nt
                cases x
                simp only at h1 h2
                subst h1; subst h2
                rfl
              have h7 : S.tabs.length = 7 := HK.out.tabs.len
              rw [hxe] at hy
              rcases layT_all S.tabs x.at_ x.pg x.free (ts.take j) ((by rw [HTS.out]; exact touched_nodup _ : ts.Nodup).sublist (List.take_sublist _ _)) (fun t ht => by rw [h7]; exact HTM.out t (List.mem_of_mem_take ht)) with ⟨y', e', hT⟩ | ⟨e', _⟩
              · rw [hy] at e'
                obtain rfl := Option.some.inj e'
                refine ⟨hT.at_, by rw [hT.len, h7], ?_⟩
                rw [hT.nt]
                have h1 := List.length_filter_le (has x.at_) (ts.take j)
                have h2 : (ts.take j).length ≤ ts.length := by rw [List.length_take]; omega
                omega
              · rw [hy] at e'; cases e')
            have HL0' := hid hLT
            clear hLT hBT2 hvr2 ownT ownT' hrow hNK hkl hkz bT hnk hdF hkn hLlt
            go_wp2_with fail
            go_loopw [118] (fun iv wr => ∃ j : Nat, j ≤ ts.length ∧ iv = .int .i64 j ∧ ∃ vn vf y, (ts.take j).foldlM layT x = some y ∧ LAt wr w2.heap.size (n + ks.length) X tb tc a vn vp vf y ∧ (∀ b ∈ blk vn, wT.heap.size ≤ b) ∧ Turn [X, tb] wT wr) (fun iv _ => ts.length - (RowKit.intOf iv).toNat)
            case atStart => exact ⟨0, by omega, rfl, _, _, _, rfl, HL0'.out, by simp [blk_nil], Turn.refl _ _⟩
            case round =>
              clear HL0'
              obtain ⟨j, hj, rfl, vn, vf, y, hy, hL, hbn, hT⟩ := hrel
              by_cases hlt : j < ts.length
              · have hdl : decide ((j : Int) < (ts.length : Int)) = true := decide_eq_true (by omega)
                obtain ⟨bk, ok, e, hc⟩ := (HROW3.out wr hT).at (j := j) hlt
                subst e
                have hsn := hid (take_snoc layT ts x j hlt hy)
                obtain ⟨hya, hyl, hynl⟩ := HTI.out j y hy
                obtain ⟨t, ht⟩ : ∃ t, t = ts[j] := ⟨_, rfl⟩
                rw [← ht] at hc
                have ht7 : t < 7 := HTM.out t (by rw [ht]; exact List.getElem_mem hlt)
                have HTT := hid ht
                have hti : ((t : Nat) : Int) < 7 := by omega
                have HT := hid hT
                have bB := (Below.refl wr.heap.size wr).alloc (Nat.le_refl _) (.cells #[.int .i64 (t : Int)] 3)
                have rB := heap_alloc_new wr (.cells #[.int .i64 (t : Int)] 3)
                obtain ⟨wB, hwB⟩ : ∃ W, W = wr.alloc (.cells #[.int .i64 (t : Int)] 3) := ⟨_, rfl⟩
                rw [← hwB] at bB rB
                have zB : wB.heap.size = wr.heap.size + 1 := by rw [hwB]; simp
                have hLB := hL.below bB
                have cB : wB.cell? ⟨wr.heap.size, 0, none⟩ = some (.int .i64 (t : Int)) := by rw [World.cell?, rB]; rfl
                have cBd : wB.drew.cell? ⟨wr.heap.size, 0, none⟩ = some (.int .i64 (t : Int)) := cB
                have x0 := hLB.c.1
                have x0d : wB.drew.cell? ⟨X, 0, none⟩ = some (.slice (some ⟨tb, 0, none⟩) 7 tc) := x0
                obtain ⟨bq, oq, e, u0, u1⟩ := (own_refs hLB.tabs).at (j := t) (by rw [hyl]; exact ht7)
                cases e
                rw [Nat.zero_add] at u0 u1
                have f0 := own_frozen hLB.tabs (t * 2)
                have f1 := own_frozen hLB.tabs (t * 2 + 1)
                have hL2 := hLB.setTab t (0, 0)
                have TB : Turn [X, tb] wT wB := hT.then (Turn.of_below bB)
                have hXl : X < wr.heap.size := hL.lt X (by simp)
                have htl : tb < wr.heap.size := hL.lt tb (by simp)
                have hal2 : a < wr.heap.size := hL.lt a (by simp)
                have hbnl : ∀ b, b ∈ blk vn → b < wr.heap.size := fun b hb => hL.lt b (by simp [hb])
                obtain ⟨wC0, hwC0⟩ : ∃ W, W = (wB.setCell ⟨tb, t * 2, none⟩ (.int .i64 0)).setCell ⟨tb, t * 2 + 1, none⟩ (.int .u32 0) := ⟨_, rfl⟩
                have hdr := (Below.refl wC0.heap.size wC0).drew
                obtain ⟨wC, hwC⟩ : ∃ W, W = ((wB.setCell ⟨tb, t * 2, none⟩ (.int .i64 0)).setCell ⟨tb, t * 2 + 1, none⟩ (.int .u32 0)).drew := ⟨_, rfl⟩
                have hwC1 : wC = wC0.drew := by rw [hwC, hwC0]
                have hL2' : LAt wC w2.heap.size (n + ks.length) X tb tc a vn vp vf { y with tabs := y.tabs.set t (0, 0) } := by
                  rw [hwC1]
                  refine LAt.below ?_ hdr
                  rw [hwC0]
                  exact hL2
                have TC : Turn [X, tb] wT wC := by
                  rw [hwC1]
                  refine Turn.then ?_ (Turn.of_below hdr)
                  rw [hwC0]
                  exact (TB.then (Turn.setCell _ tb _ _ (by simp))).then (Turn.setCell _ tb _ _ (by simp))
                have rC : wC.heap[wr.heap.size]? = some (.cells #[.int .i64 (t : Int)] 3) := by
                  have h0 := (grown_set wB tb (t * 2) (.int .i64 0)).size
                  have h1 := (grown_set (wB.setCell ⟨tb, t * 2, none⟩ (.int .i64 0)) tb (t * 2 + 1) (.int .u32 0)).size
                  rw [hwC1, hdr.block wr.heap.size (by rw [hwC0]; omega), hwC0, (grown_set _ tb (t * 2 + 1) _).block _ (by omega) (by simp; omega), (grown_set _ tb (t * 2) _).block _ (by omega) (by simp; omega)]
                  exact rB
                have HWC := hid hwC
                have HWB := hid hwB
                have HC2 := hid (And.intro hL2' (And.intro TC rC))
                have HYA := hid hya
                clear hL hT hL2 hL2' TB TC rC bB rB hwB hdr hLB hy hya ht hwC hwC0 hwC1
                go_upto_region 26 with fail
                rw [← HWB.out]
                go_region
                all_goals
                  rw [← HWC.out]
                  obtain ⟨hLC, TC, rC⟩ := HC2.out
                  have HCW := hid (HBW3.out wC TC)
                  have xc1 := hLC.c.2.1
                  obtain ⟨kc, hkc⟩ := hLC.at_
                  have hkd : ∀ i, (y.at_ i).isSome = true → 0 ≤ i ∧ i < 256 := by rw [HYA.out]; exact HDX.out
                  have bR := (Below.refl wC.heap.size wC).alloc (Nat.le_refl _) (.cells #[.map (some a)] 90)
                  have hco := ref_collect a (n + ks.length) wC.heap.size kc y.at_ (wC.alloc (.cells #[.map (some a)] 90)) (by simp) (by simp) (RefMap.below hkc bR) hkd
                  have HLR := hid (hLC.below bR)
                  have HTR := hid (TC.then (Turn.of_below bR))
                  have hrl : wr.heap.size < wC.heap.size := (Array.getElem?_eq_some_iff.1 rC).1
                  have HRR := hid ((bR.block wr.heap.size hrl).trans rC)
                  clear hLC TC rC hkc bR
                  go_wp2_with fail
                  refine (rkeys_w (some a) _).mono ?_
                  rintro e wx ⟨rfl, rfl⟩
                  go_wp2_with fail
                  refine hco.mono ?_
                  rintro e wE ⟨v, ss, rfl, hss, ownE, hsl, bE⟩
                  have hLE := HLR.out.below bE
                  have TE := HTR.out.then (Turn.of_below bE)
                  have hrl2 : wr.heap.size < (wC.alloc (.cells #[.map (some a)] 90)).heap.size := by simp; omega
                  have rE := (bE.block wr.heap.size hrl2).trans HRR.out
                  have cE : wE.cell? ⟨wr.heap.size, 0, none⟩ = some (.int .i64 (t : Int)) := by rw [World.cell?, rE]; rfl
                  have hrl3 : wr.heap.size < wE.heap.size := (Array.getElem?_eq_some_iff.1 rE).1
                  have hhs := hasT_w _ wr.heap.size t v ss y.at_ wE ownE hsl hss hkd ht7 hrl3 cE
                  have HE3 := hid (And.intro hLE (And.intro TE rE))
                  clear hco hss ownE hsl bE hLE TE rE hrl2
                  cases hh : has y.at_ t with
                  | false =>
                    rw [hh] at hhs
                    have HH := hid hh
                    clear hh
                    go_wp2_with fail
                    refine hhs.mono ?_
                    rintro e wF ⟨rfl, q, hq⟩
                    have bF : Below wE.heap.size wE wF := by rw [hq]; exact below_drewN (Below.refl _ _) _
                    have HF3 := hid (And.intro (HE3.out.1.below bF) (HE3.out.2.1.then (Turn.of_below bF)))
                    clear hhs bF hq cE
                    go_wp2_with fail
                    go_roundw
                    case rel =>
                      obtain ⟨q1, q2⟩ := HF3.out
                      refine ⟨j + 1, by omega, by go_num, vn, vf, { y with tabs := y.tabs.set t (0, 0) }, ?_, q1, hbn, q2⟩
                      rw [hsn.out, ← HTT.out]
                      unfold layT
                      rw [if_neg (by rw [HH.out]; simp)]
                    case measure => simp [RowKit.intOf]; omega
                  | true =>
                    rw [hh] at hhs
                    have HH := hid hh
                    clear hh
                    go_wp2_with fail
                    refine hhs.mono ?_
                    rintro e wF ⟨rfl, q, hq⟩
                    have bF : Below wE.heap.size wE wF := by rw [hq]; exact below_drewN (Below.refl _ _) _
                    have hLF := HE3.out.1.below bF
                    have TF := HE3.out.2.1.then (Turn.of_below bF)
                    have rF := (bF.block wr.heap.size hrl3).trans HE3.out.2.2
                    have hwF : w2.heap.size ≤ wF.heap.size := by have := TF.size; omega
                    have HF3 := hid (And.intro hLF (And.intro TF rF))
                    have hrF : wr.heap.size < wF.heap.size := (Array.getElem?_eq_some_iff.1 rF).1
                    clear hhs bF hq cE hLF TF rF
                    go_wp2_with fail
                    cases hfr : y.free with
                    | nil =>
                      have htn := take_none w2.heap.size (n + ks.length) X tb tc a vn vp vf { y with tabs := y.tabs.set t (0, 0) } wF HF3.out.1 hfr hwF
                      have hnone : laid S I.H = none := by
                        have h1 : layT y t = none := by unfold layT; rw [if_pos HH.out, hfr]
                        have h2 := hsn.out
                        rw [← HTT.out, h1] at h2
                        unfold laid laid0
                        rw [← HKS.out, HX2.out, ← HTS.out]
                        exact foldlM_cut _ _ _ (j + 1) h2
                      have HNO := hid hnone
                      have HB5 := hid (HBW3.out wF HF3.out.2.1)
                      clear hnone hfr
                      refine htn.mono ?_
                      rintro e w6 ⟨rfl, hL6, b6⟩
                      have HB6 := hid (below_then HB5.out b6)
                      clear hL6 b6 htn
                      have bz := HB6.out.alloc (by have := HB6.out.size; omega) (.cells #[.int .i64 0, .int .u32 0] 111)
                      have HBZ := hid bz
                      clear bz
                      go_wp2
                      refine bodyPost_ret (v := .tuple #[.pointer none, .bool false]) (by simp [results, Tryz.results49, go_sem]) rfl ?_
                      unfold LaidTo
                      rw [HNO.out]
                      exact ⟨rfl, HBZ.out⟩
                    | cons f fs =>
                      have hts := take_some w2.heap.size (n + ks.length) X tb tc a vn vp vf { y with tabs := y.tabs.set t (0, 0) } f fs wF HF3.out.1 hfr hwF
                      have HFR := hid hfr
                      clear hfr
                      refine hts.mono ?_
                      rintro e w6 ⟨rfl, ⟨vf', hL6, hbf6⟩, t6⟩
                      have TG := HF3.out.2.1.then (t6.mono (by simp))
                      have rG := t6.cells HF3.out.2.2 (by simp; omega)
                      have b7 := (Below.refl w6.heap.size w6).alloc (Nat.le_refl _) (.cells #[.int .i64 (f : Int), .int .u32 0] 111)
                      have hL7 := hL6.below b7
                      have hr6 : wr.heap.size < w6.heap.size := (Array.getElem?_eq_some_iff.1 rG).1
                      have r7 := (b7.block wr.heap.size hr6).trans rG
                      have rr := heap_alloc_new w6 (.cells #[.int .i64 (f : Int), .int .u32 0] 111)
                      have TH := TG.then (Turn.of_below b7)
                      obtain ⟨w7, hw7⟩ : ∃ W, W = w6.alloc (.cells #[.int .i64 (f : Int), .int .u32 0] 111) := ⟨_, rfl⟩
                      have z7 : w7.heap.size = w6.heap.size + 1 := by rw [hw7]; simp
                      rw [← hw7] at hL7 r7 rr TH
                      have HW7 := hid hw7
                      have HZ7 := hid z7
                      clear hL6 t6 hts b7 TG rG z7
                      go_upto_region 31 with fail
                      rw [← HW7.out]
                      clear hw7
                      have blit := ((Below.refl w7.heap.size w7).alloc (Nat.le_refl _) (.cells #[.int .i64 (t : Int)] 3)).drew
                      have hLl := hL7.below blit
                      have cl : ((w7.alloc (.cells #[.int .i64 (t : Int)] 3)).drew).cell? ⟨w7.heap.size, 0, none⟩ = some (.int .i64 (t : Int)) := by
                        have : ((w7.alloc (.cells #[.int .i64 (t : Int)] 3)).drew).heap[w7.heap.size]? = some (.cells #[.int .i64 (t : Int)] 3) := heap_alloc_new _ _
                        rw [World.cell?, this]; rfl
                      have hnl : y.nt.length ≤ 100000 := by omega
                      have hw7s : w2.heap.size ≤ w7.heap.size := by have := TH.size; omega
                      have hbs : w2.heap.size ≤ ((w7.alloc (.cells #[.int .i64 (t : Int)] 3)).drew).heap.size := Nat.le_trans hw7s blit.size
                      have q2 := hL7.c.2.2.1
                      have q2d : w7.drew.cell? ⟨X, 2, none⟩ = some vn := q2
                      have q2l := hLl.c.2.2.1
                      have ct7 : w7.cell? ⟨wr.heap.size, 0, none⟩ = some (.int .i64 (t : Int)) := by rw [World.cell?, r7]; rfl
                      have ct7d : w7.drew.cell? ⟨wr.heap.size, 0, none⟩ = some (.int .i64 (t : Int)) := ct7
                      have hr7 : wr.heap.size < w7.heap.size := (Array.getElem?_eq_some_iff.1 r7).1
                      have hX7 : X < w7.heap.size := hL7.lt X (by simp)
                      have HLl := hid hLl
                      have hOl := hLl.nt
                      have HH7 := hid (And.intro TH (And.intro r7 rr))
                      have HBL := hid blit
                      clear hLl blit TH r7 rr hL7
                      have hbX : wr.heap.size ∉ blk vn ∧ w6.heap.size ∉ blk vn := ⟨fun hm => by have := hbnl _ hm; omega, fun hm => by have := hbnl _ hm; omega⟩
                      go_cut [] from 145 to 154 (fun wx => ∃ vn', LAt wx w2.heap.size (n + ks.length) X tb tc a vn' vp vf' { y with tabs := y.tabs.set t (0, 0), nt := y.nt ++ [t], free := fs } ∧ (∀ b ∈ blk vn', wT.heap.size ≤ b) ∧ Turn [X, tb] wT wx ∧ wx.heap[wr.heap.size]? = some (.cells #[.int .i64 (t : Int)] 3) ∧ wx.heap[w6.heap.size]? = some (.cells #[.int .i64 (f : Int), .int .u32 0] 111))
                      case first =>
                        go_region_law (refine step_pushI rfl _ _ rfl w2.heap.size vn y.nt.length y.nt rfl ?hown _ t rfl ?hc hnl hbs ?_; (case hown => exact hOl); (case hc => exact cl); intro g9 c9 w9 own9 hg9 hat9 hlt9; obtain ⟨z2, zf, hL9⟩ := HLl.out.pushNt rfl own9 hg9 hat9 hlt9; have zf2 := zf 2)
                        all_goals
                          replace hg9 : ((w7.alloc (.cells #[.int .i64 (t : Int)] 3)).drew).grownBy w9 vn.ownBlock := hg9
                          have hat9' : vn.ownBlock = some g9 ∨ g9 = ((w7.alloc (.cells #[.int .i64 (t : Int)] 3)).drew).heap.size := hat9
                          have hset := grown_set w9 X 2 (.slice (some ⟨g9, 0, none⟩) (y.nt.length + 1) c9)
                          have hs9 := hg9.size
                          have hls := HBL.out.size
                          have hk9 : ∀ b, b < w7.heap.size → b ∉ blk vn → b ≠ X → (w9.setCell ⟨X, 2, none⟩ (.slice (some ⟨g9, 0, none⟩) (y.nt.length + 1) c9)).heap[b]? = w7.heap[b]? := fun b h1 h2 h3 => by
                            rw [hset.block b (by omega) (fun e => h3 (Option.some.inj e)), hg9.block b (by omega) (fun e => h2 (by unfold blk; rw [← e]; simp)), HBL.out.block b h1]
                          have e1 := (hk9 wr.heap.size hr7 hbX.1 (by omega)).trans HH7.out.2.1
                          have hz7 := HZ7.out
                          have e2 := (hk9 w6.heap.size (by omega) hbX.2 (by omega)).trans HH7.out.2.2
                          have t1 : Turn [X, tb] wT (w9.setCell ⟨X, 2, none⟩ (.slice (some ⟨g9, 0, none⟩) (y.nt.length + 1) c9)) := by
                            have t2 : Turn (blk vn) ((w7.alloc (.cells #[.int .i64 (t : Int)] 3)).drew) w9 := ⟨hg9.os, hg9.tape, hg9.output, hg9.size, fun b h1 h2 => hg9.block b h1 fun e => h2 (by unfold blk; rw [← e]; simp)⟩
                            have t3 : Turn [X] w9 (w9.setCell ⟨X, 2, none⟩ (.slice (some ⟨g9, 0, none⟩) (y.nt.length + 1) c9)) := Turn.setCell w9 X 2 _ (by simp)
                            exact ((HH7.out.1.then (Turn.of_below HBL.out)).trans t2 (fun b hb => .inr (hbn b hb))).then (t3.mono (by simp))
                          have hb9 : ∀ b ∈ blk (.slice (some ⟨g9, 0, none⟩) (y.nt.length + 1) c9), wT.heap.size ≤ b := by
                            intro b hb
                            rw [blk_slice] at hb
                            rw [List.mem_singleton.1 hb]
                            rcases hat9' with e | e
                            · exact hbn g9 (by unfold blk; rw [e]; simp)
                            · have := HH7.out.1.size; omega
                          have HALL9 := hid (And.intro hL9 (And.intro hb9 (And.intro t1 (And.intro e1 e2))))
                          clear hL9 hb9 t1 e1 e2 hk9 hset hg9 own9 hat9 hat9' hs9 hls z2 zf zf2
                          go_wp2_with fail
                          go_meet
                          exact ⟨_, HALL9.out⟩
                      case rest =>
                        obtain ⟨vn', hLc, hbnc, Tc, e1, e2⟩ := hcut
                        have x0 := hLc.c.1
                        have x0d : wc.drew.cell? ⟨X, 0, none⟩ = some (.slice (some ⟨tb, 0, none⟩) 7 tc) := x0
                        have ct : wc.cell? ⟨wr.heap.size, 0, none⟩ = some (.int .i64 (t : Int)) := by rw [World.cell?, e1]; rfl
                        have ctd : wc.drew.cell? ⟨wr.heap.size, 0, none⟩ = some (.int .i64 (t : Int)) := ct
                        have cr0 : wc.cell? ⟨w6.heap.size, 0, none⟩ = some (.int .i64 (f : Int)) := by rw [World.cell?, e2]; rfl
                        have cr1 : wc.cell? ⟨w6.heap.size, 1, none⟩ = some (.int .u32 0) := by rw [World.cell?, e2]; rfl
                        have cr0d : wc.drew.cell? ⟨w6.heap.size, 0, none⟩ = some (.int .i64 (f : Int)) := cr0
                        have cr1d : wc.drew.cell? ⟨w6.heap.size, 1, none⟩ = some (.int .u32 0) := cr1
                        obtain ⟨bq2, oq2, e, v0, v1⟩ := (own_refs hLc.tabs).at (j := t) (by show t < (y.tabs.set t (0, 0)).length; rw [List.length_set, hyl]; exact ht7)
                        cases e
                        rw [Nat.zero_add] at v0 v1
                        have g0 := own_frozen hLc.tabs (t * 2)
                        have g1 := own_frozen hLc.tabs (t * 2 + 1)
                        have hL2 := hLc.setTab t ((f : Int), 0)
                        have hdr2 := (Below.refl ((wc.setCell ⟨tb, t * 2, none⟩ (.int .i64 (f : Int))).setCell ⟨tb, t * 2 + 1, none⟩ (.int .u32 0)).heap.size ((wc.setCell ⟨tb, t * 2, none⟩ (.int .i64 (f : Int))).setCell ⟨tb, t * 2 + 1, none⟩ (.int .u32 0))).drew
                        have hL3 : LAt (((wc.setCell ⟨tb, t * 2, none⟩ (.int .i64 (f : Int))).setCell ⟨tb, t * 2 + 1, none⟩ (.int .u32 0)).drew) w2.heap.size (n + ks.length) X tb tc a vn' vp vf' { y with tabs := y.tabs.set t ((f : Int), 0), nt := y.nt ++ [t], free := fs } := by
                          have := hL2.below hdr2
                          simp only [List.set_set] at this
                          exact this
                        have T3 : Turn [X, tb] wT (((wc.setCell ⟨tb, t * 2, none⟩ (.int .i64 (f : Int))).setCell ⟨tb, t * 2 + 1, none⟩ (.int .u32 0)).drew) :=
                          ((Tc.then (Turn.setCell _ tb _ _ (by simp))).then (Turn.setCell _ tb _ _ (by simp))).then (Turn.of_below hdr2)
                        have HFIN := hid (And.intro hL3 (And.intro hbnc T3))
                        have hXc : X < wc.heap.size := hLc.lt X (by simp)
                        clear hL3 hbnc T3 hL2 hdr2 hLc Tc e1 e2
                        go_upto_region 32 with fail
                        go_region
                        all_goals
                          go_wp2_with fail
                          go_roundw
                          case rel =>
                            obtain ⟨q1, q2, q3⟩ := HFIN.out
                            refine ⟨j + 1, by omega, by go_num, vn', vf', { y with tabs := y.tabs.set t ((f : Int), 0), nt := y.nt ++ [t], free := fs }, ?_, q1, q2, q3⟩
                            rw [hsn.out, ← HTT.out]
                            unfold layT
                            rw [if_pos HH.out, HFR.out]
                          case measure => simp [RowKit.intOf]; omega
              · obtain rfl : j = ts.length := by omega
                obtain ⟨hya, hyl, hynl⟩ := HTI.out _ y hy
                have hlaid : laid S I.H = some y := by
                  unfold laid laid0
                  rw [← HKS.out, HX2.out, ← HTS.out]
                  rw [List.take_of_length_le (Nat.le_refl _)] at hy
                  exact hy
                have hkd : ∀ i, (y.at_ i).isSome = true → 0 ≤ i ∧ i < 256 := by rw [hya]; exact HDX.out
                obtain ⟨kc, hkc⟩ := hL.at_
                have hkcn := hkc.cnt hkd
                have hkc256 : kc ≤ 256 := by
                  rw [hkcn]
                  unfold cnt
                  have := List.countP_le_length (p := fun (p : Nat) => (y.at_ (p : Int)).isSome) (l := List.range 256)
                  simpa using this
                obtain ⟨q, hq⟩ : ∃ q, q = tcnt y.tabs := ⟨_, rfl⟩
                have hq7 : q ≤ 7 := by
                  rw [hq, ← hyl]
                  unfold tcnt
                  exact List.countP_le_length
                have hfit : fits y I.H = decide ((2 : Int) + (kc : Int) + (q : Int) ≤ (I.H : Int) / 2) := by
                  unfold fits
                  rw [← hkcn, ← hq, Bool.eq_iff_iff, decide_eq_true_eq, decide_eq_true_eq]
                  omega
                have HS3 := hid (show ∀ w', Below wr.heap.size wr w' → w'.cell? ⟨X, 1, none⟩ = some (.map (some a)) ∧ w'.cell? ⟨X, 0, none⟩ = some (.slice (some ⟨tb, 0, none⟩) 7 tc) ∧ ∀ ty, (Builtin.len_ #[90] ty #[.map (some a)]).run Tryz.prog w' = .ok (.int .i64 (kc : Int)) w' from fun w' hb => by
                  have hl' := hL.below hb
                  obtain ⟨E, hE, hsz⟩ := (hkc.below hb).len
                  refine ⟨hl'.c.2.1, hl'.c.1, fun ty => ?_⟩
                  have := hE.len Tryz.underlying90 ty
                  rw [hsz] at this
                  exact this)
                have hcw := fun (w' : World) (hb : Below wr.heap.size wr w') => count_w tb 7 tc y.tabs w' (own_refs (hL.below hb).tabs) (by decide)
                rw [← hq] at hcw
                have hBw := HBW3.out wr hT
                have HEND := hid (show ∀ w', Below wr.heap.size wr w' → LaidTo w n S I.H (.returned (.tuple #[ptr X, .bool (decide ((2 : Int) + (kc : Int) + (q : Int) ≤ (I.H : Int) / 2))])) w' from fun w' hb => by
                  unfold LaidTo
                  rw [hlaid, ← hfit]
                  exact ⟨⟨X, tb, tc, a, vn, vp, vf, rfl, (hL.below hb).mono (by omega) HB2.out.size⟩, below_then hBw hb⟩)
                obtain ⟨c1, c0, cl⟩ := HS3.out wr.drew (Below.refl _ _).drew
                clear hL hy hya hkc hkcn hq hfit hT hBw hlaid hkd hbn
                go_wp2_with fail
                go_region_held3 (fun w' => w'.cell? ⟨X, 1, none⟩ = some (.map (some a)) ∧ w'.cell? ⟨X, 0, none⟩ = some (.slice (some ⟨tb, 0, none⟩) 7 tc) ∧ ∀ ty, (Builtin.len_ #[90] ty #[.map (some a)]).run Tryz.prog w' = .ok (.int .i64 (kc : Int)) w') (first | exact ⟨c1, c0, cl⟩ | exact x9 | go_keep)
                  ((go_at_call 89; refine (hcw _ (below_drewN (Below.refl _ _) _)).mono ?_; rintro e w9 ⟨rfl, b9⟩; have B9 := below_then (below_drewN (Below.refl _ _) _) b9; have x9 := HS3.out w9 B9))
                have HE9 := hid (HEND.out w9 B9)
                clear b9 B9 x9 c1 c0 cl hcw
                have e1 : IntKind.i64.wrap (2 + (kc : Int)) = 2 + (kc : Int) := by rw [IntKind.wrap_i64]; omega
                have e2 : IntKind.i64.wrap (2 + (kc : Int) + (q : Int)) = 2 + (kc : Int) + (q : Int) := by rw [IntKind.wrap_i64]; omega
                have e3 : IntKind.i64.wrap ((I.H : Int) / 2) = (I.H : Int) / 2 := by rw [IntKind.wrap_i64]; omega
                have HE1 := hid (And.intro e1 (And.intro e2 e3))
                clear e1 e2 e3
                go_wp2
                obtain ⟨e1, e2, e3⟩ := HE1.out
                exact bodyPost_ret (v := .tuple #[ptr X, .bool (decide ((2 : Int) + (kc : Int) + (q : Int) ≤ (I.H : Int) / 2))]) (by simp [results, Tryz.results49, go_sem, e1, e2, e3]) rfl HE9.out
end Go.Proofs.YtbjfgdahfpfgdaaGreatDoor.PgW
