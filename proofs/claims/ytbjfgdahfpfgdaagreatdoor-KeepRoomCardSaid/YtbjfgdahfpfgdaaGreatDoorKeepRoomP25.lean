/- KeepRoom: what its walk leans on. -/
import Derived.Test.YtbjfgdahfpfgdaaGreatDoorKeepRoomP24
import Derived.Deep.OwnRows
namespace Go.Proofs.YtbjfgdahfpfgdaaGreatDoor.KeepW
open Go Go.RowKit Go.Maps Go.Proofs.YtbjfgdahfpfgdaaGreatDoor.Mem Go.Proofs.YtbjfgdahfpfgdaaGreatDoor.MapsW Go.Proofs.YtbjfgdahfpfgdaaGreatDoor.DevG Go.Proofs.YtbjfgdahfpfgdaaGreatDoor.Text Go.Proofs.YtbjfgdahfpfgdaaGreatDoor.KeepP Go.Proofs.YtbjfgdahfpfgdaaGreatDoor.SeeW Go.Proofs.YtbjfgdahfpfgdaaGreatDoor.PgP Go.Proofs.YtbjfgdahfpfgdaaGreatDoor.PgW
set_option linter.unusedVariables false
set_option maxRecDepth 100000

/-- the i-th key -/
def key3 (i : Nat) : List UInt8 := [UInt8.ofNat (i * 7), UInt8.ofNat i, UInt8.ofNat (i / 256)]
def z57 : List Nat := List.replicate 57 0
theorem key3_inj {i j : Nat} (hi : i < 300) (hj : j < 300) (h : key3 i = key3 j) : i = j := by
  unfold key3 at h
  simp only [List.cons.injEq, and_true] at h
  have h1 := congrArg UInt8.toNat h.2.1
  have h2 := congrArg UInt8.toNat h.2.2
  simp at h1 h2
  omega
theorem z57_bytes : Crc.Bytes z57 := by
  intro x hx
  have := List.eq_of_mem_replicate hx
  omega
/-- what was put -/
structure RInv (F : List UInt8 → Option (List Nat)) (j : Nat) : Prop where
  mem : ∀ s x, F s = some x → x = z57 ∧ ∃ i, i < j ∧ s = key3 i
theorem RInv.none : RInv (fun _ => Option.none) 0 := ⟨fun s x h => by cases h⟩
theorem RInv.fresh {F : List UInt8 → Option (List Nat)} {j : Nat} (h : RInv F j) (hj : j < 300) : F (key3 j) = Option.none := by
  cases hF : F (key3 j) with
  | none => rfl
  | some x =>
    obtain ⟨_, i, hi, e⟩ := h.mem _ _ hF
    have := key3_inj hj (by omega) e
    omega
theorem RInv.put {F : List UInt8 → Option (List Nat)} {j : Nat} (h : RInv F j) : RInv (updS F (key3 j) (some z57)) (j + 1) := by
  refine ⟨fun s x hx => ?_⟩
  by_cases hs : s = key3 j
  · subst hs
    rw [updS_same] at hx
    cases hx
    exact ⟨rfl, j, by omega, rfl⟩
  · rw [updS_other _ _ hs] at hx
    obtain ⟨h1, i, hi, e⟩ := h.mem s x hx
    exact ⟨h1, i, by omega, e⟩
theorem RInv.ok {F : List UInt8 → Option (List Nat)} {j : Nat} (h : RInv F j) (s : List UInt8) (x : List Nat) (hF : F s = some x) : Kok (s, x) := by
  obtain ⟨rfl, i, _, rfl⟩ := h.mem s x hF
  exact ⟨by simp [key3], by simp [key3], by simp [z57], by simp [z57], z57_bytes⟩
theorem kvs_ok {F : List UInt8 → Option (List Nat)} (h : ∀ s x, F s = some x → Kok (s, x)) {ks : List (List UInt8)} (hS : SKeys F ks) : ∀ p ∈ kvs F ks, Kok p := by
  intro p hp
  obtain ⟨K, hK, rfl⟩ := List.mem_map.1 hp
  obtain ⟨x, hx⟩ := Option.isSome_iff_exists.1 ((hS.mem K).1 hK)
  rw [hx]
  exact h K x hx
theorem kvs_length (F : List UInt8 → Option (List Nat)) (ks : List (List UInt8)) : (kvs F ks).length = ks.length := List.length_map _
theorem kvs_fst (F : List UInt8 → Option (List Nat)) (ks : List (List UInt8)) : (kvs F ks).map Prod.fst = ks := by unfold kvs; rw [List.map_map]; exact List.map_id' _
theorem RInv.enc {F : List UInt8 → Option (List Nat)} {j : Nat} (h : RInv F j) {ks : List (List UInt8)} (hS : SKeys F ks) : ∀ p ∈ kvs F ks, (encK p).length = 62 := by
  intro p hp
  obtain ⟨K, hK, rfl⟩ := List.mem_map.1 hp
  obtain ⟨x, hx⟩ := Option.isSome_iff_exists.1 ((hS.mem K).1 hK)
  obtain ⟨rfl, i, _, rfl⟩ := h.mem _ _ hx
  rw [encK_length, hx]
  rfl
theorem pagesOf_length (ps : List Kv) : (pagesOf ps).length = (groups ps).length := List.length_map _
theorem RInv.pages {F : List UInt8 → Option (List Nat)} {j : Nat} (h : RInv F j) {ks : List (List UInt8)} (hS : SKeys F ks) (hl : ks.length = j) : (pagesOf (kvs F ks)).length ≤ (j + 3) / 4 := by
  obtain ⟨g1, g2⟩ := groups_count (z := 62) (c := 4) (by decide) (fun k => by omega) (h.enc hS)
  rw [kvs_length, hl] at g1 g2
  rw [pagesOf_length]
  rcases Nat.eq_zero_or_pos j with h0 | h0
  · omega
  · have := g2 h0
    omega
theorem mem_flat_le {α : Type} : ∀ {gs : List (List α)} {g : List α}, g ∈ gs → g.length ≤ gs.flatten.length
  | a :: gs, g, h => by
    rw [List.flatten_cons, List.length_append]
    rcases List.mem_cons.1 h with rfl | h
    · omega
    · have := mem_flat_le h; omega
/-- what is to be known of pages that are read -/
theorem read_ok {F : List UInt8 → Option (List Nat)} (h : ∀ s x, F s = some x → Kok (s, x)) {ks : List (List UInt8)} (hS : SKeys F ks) (hn : ks.length ≤ 1000) :
    (∀ g ∈ groups (kvs F ks), (∀ p ∈ g, Kok p) ∧ (encG g).length ≤ 1000 ∧ g.length ≤ 1000 ∧ g ≠ []) ∧ ((groups (kvs F ks)).flatten.map Prod.fst).Nodup ∧ (groups (kvs F ks)).flatten.length = ks.length ∧ Fof (groups (kvs F ks)).flatten = F := by
  have hok := kvs_ok h hS
  obtain ⟨h1, h2⟩ := groups_ok hok
  have hk : (kvs F ks).map Prod.fst = ks := kvs_fst F ks
  have hnd : ks.Nodup := hS.rise.imp fun h e => by
    rw [e] at h
    exact List.lt_irrefl _ h
  refine ⟨fun g hg => ?_, by rw [h1, hk]; exact hnd, by rw [h1, kvs_length], by rw [h1]; exact Fof.kvs hS⟩
  obtain ⟨h3, h4⟩ := h2 g hg
  refine ⟨fun p hp => hok p ?_, by omega, ?_, h3⟩
  · rw [← h1]
    exact List.mem_flatten.2 ⟨g, hg, hp⟩
  · have := mem_flat_le hg
    rw [h1, kvs_length] at this
    omega
/-- a keep in the law's loop: j pairs were put -/
def KS (bs : List Addr) (lo B s d q l j : Nat) (w : World) : Prop :=
  ∃ F Y nn c ep pa pc ps, RInv F j ∧ nn ≤ 400 + 1600 * j ∧ c ≤ 200 * j ∧ ep ≤ j ∧ ps.length ≤ (j + 3) / 4 ∧ Kept Y bs w lo B nn c s d ep q l j F j pa pc ps
theorem KS.below {bs : List Addr} {lo B s d q l j : Nat} {w w' : World} (h : KS bs lo B s d q l j w) (hb : Below w.heap.size w w') : KS bs lo B s d q l j w' := by
  obtain ⟨F, Y, nn, c, ep, pa, pc, ps, h1, h2, h3, h4, h5, h6⟩ := h
  exact ⟨F, Y, nn, c, ep, pa, pc, ps, h1, h2, h3, h4, h5, h6.below hb⟩
/-- .. the j-th was put, not committed yet -/
def KS1 (bs : List Addr) (lo B s d q l j : Nat) (w : World) : Prop :=
  ∃ F Y nn c ep pa pc ps, RInv F (j + 1) ∧ nn ≤ 400 + 1600 * j ∧ c ≤ 200 * j ∧ ep ≤ j ∧ ps.length ≤ (j + 3) / 4 ∧ Kept Y bs w lo B nn c s d ep q l (j + 1) F (j + 1) pa pc ps
theorem KS1.skip {bs : List Addr} {lo B s d q l j : Nat} {w : World} (h : KS1 bs lo B s d q l j w) : KS bs lo B s d q l (j + 1) w := by
  obtain ⟨F, Y, nn, c, ep, pa, pc, ps, h1, h2, h3, h4, h5, h6⟩ := h
  exact ⟨F, Y, nn, c, ep, pa, pc, ps, h1, by omega, by omega, by omega, by omega, h6⟩
theorem KS.put {bs : List Addr} {lo B s d q l j : Nat} {w : World} (h : KS bs lo B s d q l j w) (hj : j < 300) {kg kc : Nat} (hk : Nums .u8 w (some ⟨kg, 0, none⟩) 3 kc (KeepP.nat (key3 j))) {va : Option Addr} {vc : Nat} (hv : Nums .u8 w va 57 vc z57) :
    Calls Tryz.prog 34 #[ptr q, .slice (some ⟨kg, 0, none⟩) 3 kc, .slice va 57 vc] w fun e w' => e = .returned .nilIface ∧ KS1 bs lo B s d q l j w' ∧ Below lo w w' := by
  obtain ⟨F, Y, nn, c, ep, pa, pc, ps, h1, h2, h3, h4, h5, h6⟩ := h
  refine (put_w lo q l j F j kg kc (key3 j) va vc z57 w h6.kp.at_ hk (by simp [key3]) (by simp [key3]) hv (by simp [z57]) (by simp [z57]) (by omega)).mono ?_
  rintro e w' ⟨rfl, hK, ht⟩
  rw [h1.fresh hj] at hK
  refine ⟨rfl, ⟨_, Y, nn, c, ep, pa, pc, ps, h1.put, h2, h3, h4, h5, h6.put hK ht⟩, ht.below h6.st.lo fun x hx => by rw [List.mem_singleton.1 hx]; exact h6.kp.at_.bl⟩
/-- a commit -/
theorem KS1.commit {bs : List Addr} {lo B s d q l j : Nat} {w : World} (h : KS1 bs lo B s d q l j w) (hj : j < 300) (hB : j + 1 + 40 ≤ GeoW.half B) :
    Calls Tryz.prog 35 #[ptr q] w fun e w' => e = .returned .nilIface ∧ KS bs lo B s d q l (j + 1) w' ∧ Below lo w w' := by
  obtain ⟨F, Y, nn, c, ep, pa, pc, ps, h1, h2, h3, h4, h5, h6⟩ := h
  refine (kcommit_w Y bs lo B nn c s d ep q l (j + 1) (j + 1) ((j + 4) / 4) F pa pc ps w h6 h1.ok (by omega) (fun ks hS hl => h1.pages hS hl) (by omega) (by omega) (by omega) (by omega) (by omega) (by omega)).mono ?_
  rintro e w' ⟨rfl, ⟨Y', n', c', ep', la, lc, ks, e1, e2, e3, hS, hl, hK⟩, hb⟩
  exact ⟨rfl, ⟨F, Y', n', c', ep', la, lc, _, h1, by omega, by omega, by omega, h1.pages hS hl, hK⟩, hb⟩
/-- the last commit, opened again -/
theorem KS.last {bs : List Addr} {lo B s d q l j : Nat} {w : World} (h : KS bs lo B s d q l j w) (hj : j < 300) (hB : j + 40 ≤ GeoW.half B) :
    Calls Tryz.prog 35 #[ptr q] w fun e w' => e = .returned .nilIface ∧ (Calls Tryz.prog 36 #[ptr d] w' fun e w'' => (∃ B k l nk F, e = .returned (ptr k) ∧ KAt w'' B k l nk F j) ∧ Below lo w' w'') ∧ Below lo w w' := by
  obtain ⟨F, Y, nn, c, ep, pa, pc, ps, h1, h2, h3, h4, h5, h6⟩ := h
  refine (kcommit_w Y bs lo B nn c s d ep q l j j ((j + 3) / 4) F pa pc ps w h6 h1.ok (by omega) (fun ks hS hl => h1.pages hS hl) (by omega) (by omega) (by omega) (by omega) (by omega) (by omega)).mono ?_
  rintro e w' ⟨rfl, ⟨Y', n', c', ep', la, lc, ks, e1, e2, e3, hS, hl, hK⟩, hb⟩
  obtain ⟨r1, r2, r3, r4⟩ := read_ok h1.ok hS (by omega)
  have hp := h1.pages hS hl
  rw [pagesOf_length] at hp
  refine ⟨rfl, (reopened8_w Y' bs lo B n' c' s d ep' (groups (kvs F ks)) w' hK.st r1 r2 (by omega) (by omega) (by omega) (by omega) (by omega)).mono ?_, hb⟩
  rintro e w'' ⟨⟨B, k, l, nk, rfl, hA⟩, hb⟩
  rw [r3, hl] at hA
  exact ⟨⟨B, k, l, nk, _, rfl, hA⟩, hb⟩
/-- the errors that the row lists -/
theorem ev7_of {w : World} (h : Err.All w [1, 0, 6, 2, 5, 4, 3]) : ∃ bs, Ev w w.heap.size bs seven := by
  obtain ⟨bs, h1, h2, h3⟩ := h
  match bs, h1 with
  | [b0, b1, b2, b3, b4, b5, b6], _ =>
    have hk : ∀ i ∈ seven, ∃ k : Nat, k < 7 ∧ i = (if k = 6 then 8 else k + 1) ∧ ([⟨0, 0, none⟩, b0, b1, b2, b3, b4, b5, ⟨0, 0, none⟩, b6] : List Addr)[i]? = [b0, b1, b2, b3, b4, b5, b6][k]? ∧ SeeW.gl[i]? = [1, 0, 6, 2, 5, 4, 3][k]? := by
      intro i hi
      simp only [seven, List.mem_cons, List.not_mem_nil, or_false] at hi
      rcases hi with rfl | rfl | rfl | rfl | rfl | rfl | rfl
      · exact ⟨0, by decide, rfl, rfl, rfl⟩
      · exact ⟨1, by decide, rfl, rfl, rfl⟩
      · exact ⟨2, by decide, rfl, rfl, rfl⟩
      · exact ⟨3, by decide, rfl, rfl, rfl⟩
      · exact ⟨4, by decide, rfl, rfl, rfl⟩
      · exact ⟨5, by decide, rfl, rfl, rfl⟩
      · exact ⟨6, by decide, rfl, rfl, rfl⟩
    refine ⟨[⟨0, 0, none⟩, b0, b1, b2, b3, b4, b5, ⟨0, 0, none⟩, b6], fun i hi g hg => ?_, fun i hi j hj e => ?_⟩
    · obtain ⟨k, _, _, e1, e2⟩ := hk i hi
      rw [e2] at hg
      obtain ⟨a, ha, hA⟩ := h3 k g hg
      exact ⟨a, by rw [e1]; exact ha, hA, World.block_lt_of_cell? w ⟨g, 0, none⟩ hA.1, hA.lt⟩
    · obtain ⟨k, k7, e1, e2, _⟩ := hk i hi
      obtain ⟨k', k7', e1', e2', _⟩ := hk j hj
      rw [e2, e2'] at e
      have := (List.getElem?_inj (by exact k7) h2).1 e
      rw [e1, e1', this]
theorem bytes3 (w : World) (x y z : Nat) : Nums .u8 (w.alloc (.cells #[.int .u8 (x : Int), .int .u8 (y : Int), .int .u8 (z : Int)] 5)) (some ⟨w.heap.size, 0, none⟩) 3 3 [x, y, z] := by
  refine ⟨rfl, Nat.le_refl _, by decide, (fun e => nomatch e), fun j u hj => ⟨_, _, rfl, ?_⟩⟩
  match j, hj with
  | 0, hj => cases hj; rw [World.cell?, heap_alloc_new]; rfl
  | 1, hj => cases hj; rw [World.cell?, heap_alloc_new]; rfl
  | 2, hj => cases hj; rw [World.cell?, heap_alloc_new]; rfl
theorem key3_nat (j : Nat) : KeepP.nat (key3 j) = [j * 7 % 256, j % 256, j / 256 % 256] := by
  unfold key3 KeepP.nat
  simp
/-- 57 bytes of nothing made -/
theorem make57 : ∃ Z : Array Value, (∀ w : World, (Instr.makeSlice 35 (.int .i64 57) (.int .i64 57)).run Tryz.prog w = .ok (.slice (some ⟨w.heap.size, 0, none⟩) 57 57) (w.alloc (.cells Z 5))) ∧ ∀ w : World, Nums .u8 (w.alloc (.cells Z 5)) (some ⟨w.heap.size, 0, none⟩) 57 57 z57 := by
  refine ⟨madeCells #[.int .u8 0] 57, fun w => ?_, fun w => ?_⟩
  · have := run_make_row' (P := Tryz.prog) 35 5 (.int .u8 0) 1 Tryz.underlying35 (by kernel_rfl) rfl .i64 .i64 57 (by decide) (by decide) w
    exact this
  · have e : nums .u8 z57 = (madeCells #[Value.int .u8 0] 57).toList := (RefW.made_nums .u8 57).symm
    refine ⟨rfl, Nat.le_refl _, by decide, (fun e => nomatch e), fun j u hj => ⟨_, _, rfl, ?_⟩⟩
    rw [World.cell?, heap_alloc_new]
    rw [e] at hj
    simpa using hj
end Go.Proofs.YtbjfgdahfpfgdaaGreatDoor.KeepW
