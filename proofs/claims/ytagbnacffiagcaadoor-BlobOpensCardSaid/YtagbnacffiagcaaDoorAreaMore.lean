/- The walks of blob's Drop, Done, Left. -/
import Derived.Test.YtagbnacffiagcaaDoorAreaPut
import Derived.StillTailTactics
namespace Go.Proofs.YtagbnacffiagcaaDoor.BlobW
open Go Go.RowKit Go.Maps Go.Proofs.YtagbnacffiagcaaDoor.Mem Go.Proofs.YtagbnacffiagcaaDoor.MapsW Go.Proofs.YtagbnacffiagcaaDoor.SeeW Go.Proofs.YtagbnacffiagcaaDoor.DevG
set_option linter.unusedVariables false
set_option maxRecDepth 100000

/-- a block not in use any more, held -/
def Ar.drop (A : Ar) (i : Int) : Ar := { A with used := upd A.used i false, nu := A.nu - 1, held := upd A.held i true, nh := if A.held i then A.nh else A.nh + 1 }
theorem drop_no (lo d n : Nat) (m : Mp) (D : Dv) (a u k : Nat) (A : Ar) (i s : Int) (w : World) (h : AAt w lo d n m D a u k A) (hi : Fits i) (hU : A.used i = false) :
    Calls Tryd.prog 67 #[ptr a, .agg #[.int .i64 i, .int .u32 s]] w fun e w' => e = .returned (.bool false) ∧ Below w.heap.size w w' := by
  have b0 := (Below.refl w.heap.size w).alloc (Nat.le_refl _) (.cells #[.int .i64 i, .int .u32 s] 32)
  obtain ⟨x0, x1⟩ := new2 w (.int .i64 i) (.int .u32 s) 32
  obtain ⟨c0, c1, c2, c3, c4, c5, f4, f5⟩ := (h.below b0).c
  have lu := (h.below b0.drew).mu.look0 hi hU
  clear h
  go_enter Tryd.func67, Tryd.ntmps67
  go_wp2
  go_region
  all_goals
    go_wp2
    go_ret
    exact ⟨rfl, b0.drew⟩
set_option maxHeartbeats 1600000 in
theorem drop_w (lo d n : Nat) (m : Mp) (D : Dv) (a u k : Nat) (A : Ar) (i s : Int) (w : World) (h : AAt w lo d n m D a u k A) (hi : Fits i) (hU : A.used i = true) (hn : n < 90000) :
    Calls Tryd.prog 67 #[ptr a, .agg #[.int .i64 i, .int .u32 s]] w fun e w' => e = .returned (.bool true) ∧ AAt w' lo d (n + 1) m D a u k (A.drop i) ∧ Turn (aown d m a u k) w w' := by
  have b0 := (Below.refl w.heap.size w).alloc (Nat.le_refl _) (.cells #[.int .i64 i, .int .u32 s] 32)
  obtain ⟨x0, x1⟩ := new2 w (.int .i64 i) (.int .u32 s) 32
  have H0 := hid (h.below b0)
  have OLD := hid h.old
  obtain ⟨c0, c1, c2, c3, c4, c5, f4, f5⟩ := H0.out.c
  have lu := (h.below b0.drew).mu.look1 hi hU
  clear h
  go_enter Tryd.func67, Tryd.ntmps67
  go_wp2
  go_region
  all_goals
    go_upto_region 3 with fail
    have B1 := b0.drew
    have H1 := hid (H0.out.below (Below.refl _ _).drew)
    have x0' : cells2 w.heap.size (.int .i64 i) (.int .u32 s) (w.alloc (.cells #[.int .i64 i, .int .u32 s] 32)).drew := heap_alloc_new _ _
    clear lu c0 c1 c2 c3 c4 c5 f4 f5 H0 b0 x0 x1
    generalize (w.alloc (.cells #[.int .i64 i, .int .u32 s] 32)).drew = w1 at *
    obtain ⟨c0, c1, c2, c3, c4, c5, f4, f5⟩ := H1.out.c
    obtain ⟨x0, x1, _, _⟩ := RootW.blk_c x0'
    go_still_tail 6, (by kernel_rfl)
    change wpList _ _ _ _ _ w1.drew
    refine wpList_delNum _ rfl _ _ rfl (H1.out.below (Below.refl _ _).drew).mu hi rfl rfl ?_
    intro w2 hr2 hg2
    obtain ⟨A2, t2⟩ := (H1.out.below (Below.refl _ _).drew).setU hg2 hr2 (Nat.le_refl _)
    have x1' : cells2 w.heap.size (.int .i64 i) (.int .u32 s) w1.drew := x0'
    have x2 : cells2 w.heap.size (.int .i64 i) (.int .u32 s) w2 := t2.cells x1' (fun e => by have := OLD.out u (by simp); rw [List.mem_singleton.1 e] at this; omega)
    have T2 := hid ((Turn.of_below (S := aown d m a u k) B1.drew).then (t2.mono fun x hx => by rw [List.mem_singleton.1 hx]; simp))
    obtain ⟨x0, x1, _, _⟩ := RootW.blk_c x2
    have HA2 := hid A2
    clear c0 c1 c2 c3 c4 c5 f4 f5 hr2 hg2 t2 A2 x2 x1' B1 H1 x0'
    obtain ⟨c0, c1, c2, c3, c4, c5, f4, f5⟩ := HA2.out.c
    go_upto_region 4 with fail
    go_still_tail 6, (by kernel_rfl)
    change wpList _ _ _ _ _ w2.drew
    refine wpList_putNum _ rfl _ _ _ rfl (HA2.out.below (Below.refl _ _).drew).mh (by omega) hi rfl rfl rfl ?_
    intro w3 hr3 hg3
    obtain ⟨A3, t3⟩ := (HA2.out.below (Below.refl _ _).drew).setK hg3 hr3 (Nat.le_succ _)
    have T3 := (T2.out.then (Turn.of_below (Below.refl _ _).drew)).then (t3.mono (S' := aown d m a u k) fun x hx => by rw [List.mem_singleton.1 hx]; simp)
    rw [hU, if_pos rfl] at A3
    have HA3 := hid A3
    clear c0 c1 c2 c3 c4 c5 f4 f5 hr3 hg3 t3 A3 x0 x1 HA2
    go_wp2
    go_ret
    exact ⟨rfl, HA3.out, T3⟩
theorem done_w (lo d n : Nat) (m : Mp) (D : Dv) (a u k : Nat) (A : Ar) (w : World) (h : AAt w lo d n m D a u k A) :
    Calls Tryd.prog 66 #[ptr a] w fun e w' => e = .returned (.tuple #[]) ∧ AAt w' lo d n m D a u w.heap.size { A with held := fun _ => false, nh := 0 } ∧ Turn [a] w w' := by
  have b0 := (Below.refl w.heap.size w).alloc (Nat.le_refl _) (.map #[] 0)
  obtain ⟨c0, c1, c2, c3, c4, c5, f4, f5⟩ := (h.below b0).c
  have H := hid h.setM
  have hmm := @run_makeMap Tryd.prog
  clear h
  go_enter Tryd.func66, Tryd.ntmps66
  go_wp2
  refine bodyPost_end (v := .tuple #[]) (by simp [results, Tryd.results66, go_sem]) rfl ?_
  exact ⟨rfl, H.out.1, H.out.2⟩
theorem AAt.lens {w : World} {lo d n : Nat} {m : Mp} {D : Dv} {a u k : Nat} {A : Ar} (h : AAt w lo d n m D a u k A) :
    w.cell? ⟨a, 1, none⟩ = some (.int .i64 D.blocks) ∧ w.cell? ⟨a, 2, none⟩ = some (.int .i64 (GeoW.half D.blocks)) ∧ w.cell? ⟨a, 3, none⟩ = some (.map (some u)) ∧ w.cell? ⟨a, 4, none⟩ = some (.map (some k)) ∧
    (Builtin.len_ #[146] 3 #[.map (some u)]).run Tryd.prog w = .ok (.int .i64 (A.nu : Nat)) w ∧ (Builtin.len_ #[146] 3 #[.map (some k)]).run Tryd.prog w = .ok (.int .i64 (A.nh : Nat)) w := by
  obtain ⟨c0, c1, c2, c3, c4, c5, f4, f5⟩ := h.c
  obtain ⟨E, hE, e1⟩ := h.mu.len
  obtain ⟨F, hF, e2⟩ := h.mh.len
  have l1 := hE.len Tryd.underlying146 3
  have l2 := hF.len Tryd.underlying146 3
  rw [e1] at l1
  rw [e2] at l2
  exact ⟨c1, c2, c3, c4, l1, l2⟩
theorem left_w (lo d n : Nat) (m : Mp) (D : Dv) (a u k : Nat) (A : Ar) (w : World) (h : AAt w lo d n m D a u k A) (h1 : A.nu ≤ 100000) (h2 : A.nh ≤ 100000) :
    Calls Tryd.prog 60 #[ptr a] w fun e w' => e = .returned (.int .i64 ((datas D.blocks : Nat) - (A.nu : Int) - (A.nh : Int))) ∧ Below w.heap.size w w' := by
  obtain ⟨c0, c1, c2, c3, c4, c5, f4, f5⟩ := h.c
  have hp := datas_pos h.b1
  have hb2 := h.b2
  have hd := fun w => datas_w D.blocks w h.b2
  have H := hid h
  clear h
  go_enter Tryd.func60, Tryd.ntmps60
  go_wp2_with fail
  have w1 : IntKind.i64.wrap ((datas D.blocks : Int) - (A.nu : Int)) = (datas D.blocks : Int) - (A.nu : Int) := by rw [IntKind.wrap_i64]; omega
  have w2 : IntKind.i64.wrap ((datas D.blocks : Int) - (A.nu : Int) - (A.nh : Int)) = (datas D.blocks : Int) - (A.nu : Int) - (A.nh : Int) := by rw [IntKind.wrap_i64]; omega
  go_region_held3 (fun w' => w'.cell? ⟨a, 1, none⟩ = some (.int .i64 D.blocks) ∧ w'.cell? ⟨a, 2, none⟩ = some (.int .i64 (GeoW.half D.blocks)) ∧ w'.cell? ⟨a, 3, none⟩ = some (.map (some u)) ∧ w'.cell? ⟨a, 4, none⟩ = some (.map (some k)) ∧
    (Builtin.len_ #[146] 3 #[.map (some u)]).run Tryd.prog w' = .ok (.int .i64 (A.nu : Nat)) w' ∧ (Builtin.len_ #[146] 3 #[.map (some k)]).run Tryd.prog w' = .ok (.int .i64 (A.nh : Nat)) w')
    (first | exact H.out.lens | exact (H.out.below (Below.refl _ _).drew).lens | exact ((H.out.below (Below.refl _ _).drew).below b3).lens | go_keep)
    ((go_at_call 104; refine (hd _).mono ?_; rintro e w3 ⟨rfl, b3⟩))
  go_wp2
  go_ret
  exact ⟨rfl, (Below.drew (Below.refl w.heap.size w)).trans b3⟩
end Go.Proofs.YtagbnacffiagcaaDoor.BlobW
