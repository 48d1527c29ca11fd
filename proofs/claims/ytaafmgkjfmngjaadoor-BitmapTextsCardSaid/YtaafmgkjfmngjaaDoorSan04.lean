/-
  indeliblelaw04.sanity: the chapter's examples.
-/
import Derived.Test.YtaafmgkjfmngjaaDoorBpr4
import Derived.Test.YtaafmgkjfmngjaaDoorBp4
import Derived.Test.YtaafmgkjfmngjaaDoorBc4
import Derived.Test.YtaafmgkjfmngjaaDoorBonly
import Derived.Test.YtaafmgkjfmngjaaDoorSm4
import Derived.Test.YtaafmgkjfmngjaaDoorSame4
namespace Go.Proofs.YtaafmgkjfmngjaaDoor
open Go.RowKit
set_option linter.unusedVariables false
set_option linter.unusedSimpArgs false
set_option maxRecDepth 100000

theorem isBm_form {w : World} {lo : Nat} {v : Value} {b : Bm} (h : IsBm w lo v b) : ∃ A cap, v = .agg #[.int .i64 b.1, .int .i64 b.2.1, .slice A b.2.2.length cap] ∧ IsBm w lo (.agg #[.int .i64 b.1, .int .i64 b.2.1, .slice A b.2.2.length cap]) b := by
  have h' := h
  obtain ⟨s, rfl, ⟨A, c, rfl, -⟩, -⟩ := h
  exact ⟨A, c, rfl, h'⟩
theorem isBm_formN {w : World} {lo : Nat} {v : Value} {b : Bm} {W H : Int} {n : Nat} (h : IsBm w lo v b) (h1 : b.1 = W) (h2 : b.2.1 = H) (hn : b.2.2.length = n) : ∃ A cap, v = .agg #[.int .i64 W, .int .i64 H, .slice A n cap] ∧ IsBm w lo (.agg #[.int .i64 W, .int .i64 H, .slice A n cap]) b := by
  subst h1 h2 hn
  exact isBm_form h
def bA : Bm := (3, 2, [false, true, true, true, false, true])
def bB : Bm := (2, 1, [true, true])
def bC : Bm := (3, 2, [false, false, false, true, true, false])
def bD : Bm := (2, 2, [false, true, true, false])
theorem s_crop : cropM bA 1 (-1) 3 2 = (bC, 0) := by kernel_rfl
theorem s_p1 : textB (pasteM bA bB 0 0) = [35, 46, 35, 10, 35, 35, 35, 10] := by kernel_rfl
theorem s_p2 : textB (pasteM bA bB 2 1) = [35, 46, 35, 10, 46, 35, 35, 10] := by kernel_rfl
theorem s_c : textB bC = [35, 35, 46, 10, 46, 46, 46, 10] := by kernel_rfl
theorem s_o1 : cntD bA (onlyP (validB bB) 0 0 0 0) = 3 := by kernel_rfl
theorem s_o2 : cntD bA (onlyP (validB bB) 1 0 0 0) = 2 := by kernel_rfl
theorem s_o3 : cntD bA (onlyP (validB bB) 1 0 0 1) = 1 := by kernel_rfl
theorem s_o4 : cntD bB (onlyP (validB bA) 0 0 0 0) = 1 := by kernel_rfl
theorem s_cnt : cntD bA (fun _ => true) = 4 := by kernel_rfl
theorem s_d : parseB [35, 46, 10, 46, 35, 10] = (bD, true) := by kernel_rfl
theorem s_6 : parseB [35, 46, 10, 35, 10] = (zeroB, false) := by kernel_rfl
theorem s_7 : parseB [35] = (zeroB, false) := by kernel_rfl
theorem s_8 : parseB [10] = (zeroB, false) := by kernel_rfl
theorem s_g1 : getB bA 0 1 = true := by kernel_rfl
theorem s_g2 : getB bA 0 0 = false := by kernel_rfl
theorem s_g3 : getB bA 3 0 = false := by kernel_rfl
theorem s_g4 : getB bA (-1) 0 = false := by kernel_rfl

set_option maxHeartbeats 8000000 in
theorem sanity_any (w : World) (R : Ending → World → Prop) (hmx : MaxOk w) (hR : ∀ w', Nw w w' → R (.returned (.bool true)) w') : Calls Tryd.prog 8 #[] w R := by
  have HR := Lib.hid hR
  clear hR
  have MX := Lib.hid hmx
  have hm0 := hmx.lt
  clear hmx
  have NX := Lib.hid (Ch.refl (fun _ => False) w)
  have hmk : ∀ w : World, (Instr.makeSlice 26 (.int .i64 3) (.int .i64 3)).run Tryd.prog w = .ok (.slice (some ⟨w.heap.size, 0, none⟩) 3 3) (w.alloc (.cells (boolC [false, false, false]) 4)) := fun w => make_bools 3 (by omega) w
  go_enter Tryd.func8, Tryd.ntmps8
  go_wp2_with (go_at_call 5; fail)
  refine Calls_nm ?_
  intro W1 hW
  have n : Nw w W1 := by rw [hW]; exact (((((Ch.refl _ _).alloc _).alloc _).alloc _).alloc _).alloc _
  replace NX := Lib.hid (NX.out.trans n)
  replace MX := Lib.hid (MX.out.kept n id)
  have D1 := Lib.hid (show W1.heap[w.heap.size]? = some (.cells (boolC [false, true, true, true, false, true]) 4 (0, 0)) from by rw [hW]; exact heap_alloc_old' _ (heap_alloc_old' _ (heap_alloc_old' _ (heap_alloc_old' _ (heap_alloc_eq _ rfl)))))
  have HB1 := Lib.hid (show W1.heap[w.heap.size + 1]? = some (.cells #[.int .i64 3, .int .i64 2, .slice (some ⟨w.heap.size, 0, none⟩) 6 6] 28 (0, 0)) from by rw [hW]; exact heap_alloc_old' _ (heap_alloc_old' _ (heap_alloc_old' _ (heap_alloc_eq _ (by simp only [alloc_size])))))
  have D2 := Lib.hid (show W1.heap[w.heap.size + 2]? = some (.cells (boolC [true, true]) 4 (0, 0)) from by rw [hW]; exact heap_alloc_old' _ (heap_alloc_old' _ (heap_alloc_eq _ (by simp only [alloc_size]))))
  have HB2 := Lib.hid (show W1.heap[w.heap.size + 3]? = some (.cells #[.int .i64 2, .int .i64 1, .slice (some ⟨w.heap.size + 2, 0, none⟩) 2 2] 28 (0, 0)) from by rw [hW]; exact heap_alloc_old' _ (heap_alloc_eq _ (by simp only [alloc_size])))
  have D3 := Lib.hid (show W1.heap[w.heap.size + 4]? = some (.cells (boolC [false, false, false]) 4 (0, 0)) from by rw [hW]; exact heap_alloc_eq _ (by simp only [alloc_size]))
  clear hW n
  have HA := Lib.hid (show IsBm W1 W1.heap.size (.agg #[.int .i64 3, .int .i64 2, .slice (some ⟨w.heap.size, 0, none⟩) 6 6]) bA from by exact ⟨_, rfl, isBools_block (l := [false, true, true, true, false, true]) D1.out (lt_of_heap D1.out) (by decide), by unfold wfI; decide, by unfold wfI; decide⟩)
  have HBb := Lib.hid (show IsBm W1 W1.heap.size (.agg #[.int .i64 2, .int .i64 1, .slice (some ⟨w.heap.size + 2, 0, none⟩) 2 2]) bB from by exact ⟨_, rfl, isBools_block (l := [true, true]) D2.out (lt_of_heap D2.out) (by decide), by unfold wfI; decide, by unfold wfI; decide⟩)
  have HC3 := Lib.hid (show IsBm W1 W1.heap.size (.agg #[.int .i64 2, .int .i64 2, .slice (some ⟨w.heap.size + 4, 0, none⟩) 3 3]) (2, 2, [false, false, false]) from by exact ⟨_, rfl, isBools_block (l := [false, false, false]) D3.out (lt_of_heap D3.out) (by decide), by unfold wfI; decide, by unfold wfI; decide⟩)
  refine bmCheck_any _ _ (2, 2, [false, false, false]) _ _ HC3.out ?_
  rw [show bmE (2, 2, [false, false, false]) = 5 from by kernel_rfl]
  intro w2 n
  replace NX := Lib.hid (NX.out.trans n)
  replace MX := Lib.hid (MX.out.kept n id)
  replace D1 := Lib.hid (n.heap D1.out id)
  replace HB1 := Lib.hid (n.heap HB1.out id)
  replace D2 := Lib.hid (n.heap D2.out id)
  replace HB2 := Lib.hid (n.heap HB2.out id)
  replace D3 := Lib.hid (n.heap D3.out id)
  replace HA := Lib.hid ((HA.out.kept n nof).hi n.size)
  replace HBb := Lib.hid ((HBb.out.kept n nof).hi n.size)
  replace HC3 := Lib.hid ((HC3.out.kept n nof).hi n.size)
  clear n
  go_wp2_with (go_at_call 5; fail)
  refine Calls_nm ?_
  intro W3 hW
  have n : Nw w2 W3 := by rw [hW]; first | exact Ch.refl _ _ | exact (Ch.refl _ _).alloc _ | exact ((Ch.refl _ _).alloc _).alloc _
  replace NX := Lib.hid (NX.out.trans n)
  replace MX := Lib.hid (MX.out.kept n id)
  replace D1 := Lib.hid (n.heap D1.out id)
  replace HB1 := Lib.hid (n.heap HB1.out id)
  replace D2 := Lib.hid (n.heap D2.out id)
  replace HB2 := Lib.hid (n.heap HB2.out id)
  replace D3 := Lib.hid (n.heap D3.out id)
  replace HA := Lib.hid ((HA.out.kept n nof).hi n.size)
  replace HBb := Lib.hid ((HBb.out.kept n nof).hi n.size)
  replace HC3 := Lib.hid ((HC3.out.kept n nof).hi n.size)
  clear hW n
  refine bmCheck_any _ _ (97, 0, []) _ _ (⟨_, rfl, ⟨none, 0, rfl, ⟨Nat.le_refl _, by simp⟩, fun i x hi => by simp at hi⟩, (by unfold wfI; decide), (by unfold wfI; decide)⟩ : IsBm _ 0 (.agg #[.int .i64 (97), .int .i64 0, .slice none 0 0]) (97, 0, [])) ?_
  rw [show bmE (97, 0, []) = 13 from by kernel_rfl]
  intro w4 n
  replace NX := Lib.hid (NX.out.trans n)
  replace MX := Lib.hid (MX.out.kept n id)
  replace D1 := Lib.hid (n.heap D1.out id)
  replace HB1 := Lib.hid (n.heap HB1.out id)
  replace D2 := Lib.hid (n.heap D2.out id)
  replace HB2 := Lib.hid (n.heap HB2.out id)
  replace D3 := Lib.hid (n.heap D3.out id)
  replace HA := Lib.hid ((HA.out.kept n nof).hi n.size)
  replace HBb := Lib.hid ((HBb.out.kept n nof).hi n.size)
  replace HC3 := Lib.hid ((HC3.out.kept n nof).hi n.size)
  clear n
  go_wp2_with (go_at_call 5; fail)
  refine Calls_nm ?_
  intro W5 hW
  have n : Nw w4 W5 := by rw [hW]; first | exact Ch.refl _ _ | exact (Ch.refl _ _).alloc _ | exact ((Ch.refl _ _).alloc _).alloc _
  replace NX := Lib.hid (NX.out.trans n)
  replace MX := Lib.hid (MX.out.kept n id)
  replace D1 := Lib.hid (n.heap D1.out id)
  replace HB1 := Lib.hid (n.heap HB1.out id)
  replace D2 := Lib.hid (n.heap D2.out id)
  replace HB2 := Lib.hid (n.heap HB2.out id)
  replace D3 := Lib.hid (n.heap D3.out id)
  replace HA := Lib.hid ((HA.out.kept n nof).hi n.size)
  replace HBb := Lib.hid ((HBb.out.kept n nof).hi n.size)
  replace HC3 := Lib.hid ((HC3.out.kept n nof).hi n.size)
  clear hW n
  refine bmCheck_any _ _ (-1, 0, []) _ _ (⟨_, rfl, ⟨none, 0, rfl, ⟨Nat.le_refl _, by simp⟩, fun i x hi => by simp at hi⟩, (by unfold wfI; decide), (by unfold wfI; decide)⟩ : IsBm _ 0 (.agg #[.int .i64 (-1), .int .i64 0, .slice none 0 0]) (-1, 0, [])) ?_
  rw [show bmE (-1, 0, []) = 13 from by kernel_rfl]
  intro w6 n
  replace NX := Lib.hid (NX.out.trans n)
  replace MX := Lib.hid (MX.out.kept n id)
  replace D1 := Lib.hid (n.heap D1.out id)
  replace HB1 := Lib.hid (n.heap HB1.out id)
  replace D2 := Lib.hid (n.heap D2.out id)
  replace HB2 := Lib.hid (n.heap HB2.out id)
  replace D3 := Lib.hid (n.heap D3.out id)
  replace HA := Lib.hid ((HA.out.kept n nof).hi n.size)
  replace HBb := Lib.hid ((HBb.out.kept n nof).hi n.size)
  replace HC3 := Lib.hid ((HC3.out.kept n nof).hi n.size)
  clear n
  have kHB10 : w6.cell? ⟨w.heap.size + 1, 0, none⟩ = some (.int .i64 3) := by rw [cell_of HB1.out]; rfl
  have jHB10 : ∀ o, (w6.alloc o).cell? ⟨w.heap.size + 1, 0, none⟩ = some (.int .i64 3) := fun o => cell_alloc_old o kHB10
  have kHB11 : w6.cell? ⟨w.heap.size + 1, 1, none⟩ = some (.int .i64 2) := by rw [cell_of HB1.out]; rfl
  have jHB11 : ∀ o, (w6.alloc o).cell? ⟨w.heap.size + 1, 1, none⟩ = some (.int .i64 2) := fun o => cell_alloc_old o kHB11
  have kHB12 : w6.cell? ⟨w.heap.size + 1, 2, none⟩ = some (.slice (some ⟨w.heap.size, 0, none⟩) 6 6) := by rw [cell_of HB1.out]; rfl
  have jHB12 : ∀ o, (w6.alloc o).cell? ⟨w.heap.size + 1, 2, none⟩ = some (.slice (some ⟨w.heap.size, 0, none⟩) 6 6) := fun o => cell_alloc_old o kHB12
  go_wp2_with (go_at_call 5; fail)
  clear kHB10 jHB10 kHB11 jHB11 kHB12 jHB12
  refine Calls_nm ?_
  intro W7 hW
  have n : Nw w6 W7 := by rw [hW]; first | exact Ch.refl _ _ | exact (Ch.refl _ _).alloc _ | exact ((Ch.refl _ _).alloc _).alloc _
  replace NX := Lib.hid (NX.out.trans n)
  replace MX := Lib.hid (MX.out.kept n id)
  replace D1 := Lib.hid (n.heap D1.out id)
  replace HB1 := Lib.hid (n.heap HB1.out id)
  replace D2 := Lib.hid (n.heap D2.out id)
  replace HB2 := Lib.hid (n.heap HB2.out id)
  replace D3 := Lib.hid (n.heap D3.out id)
  replace HA := Lib.hid ((HA.out.kept n nof).hi n.size)
  replace HBb := Lib.hid ((HBb.out.kept n nof).hi n.size)
  replace HC3 := Lib.hid ((HC3.out.kept n nof).hi n.size)
  clear hW n
  refine bmCheck_any _ _ bA _ _ HA.out ?_
  rw [show bmE bA = 0 from by kernel_rfl]
  intro w8 n
  replace NX := Lib.hid (NX.out.trans n)
  replace MX := Lib.hid (MX.out.kept n id)
  replace D1 := Lib.hid (n.heap D1.out id)
  replace HB1 := Lib.hid (n.heap HB1.out id)
  replace D2 := Lib.hid (n.heap D2.out id)
  replace HB2 := Lib.hid (n.heap HB2.out id)
  replace D3 := Lib.hid (n.heap D3.out id)
  replace HA := Lib.hid ((HA.out.kept n nof).hi n.size)
  replace HBb := Lib.hid ((HBb.out.kept n nof).hi n.size)
  replace HC3 := Lib.hid ((HC3.out.kept n nof).hi n.size)
  clear n
  have kHB10 : w8.cell? ⟨w.heap.size + 1, 0, none⟩ = some (.int .i64 3) := by rw [cell_of HB1.out]; rfl
  have jHB10 : ∀ o, (w8.alloc o).cell? ⟨w.heap.size + 1, 0, none⟩ = some (.int .i64 3) := fun o => cell_alloc_old o kHB10
  have kHB11 : w8.cell? ⟨w.heap.size + 1, 1, none⟩ = some (.int .i64 2) := by rw [cell_of HB1.out]; rfl
  have jHB11 : ∀ o, (w8.alloc o).cell? ⟨w.heap.size + 1, 1, none⟩ = some (.int .i64 2) := fun o => cell_alloc_old o kHB11
  have kHB12 : w8.cell? ⟨w.heap.size + 1, 2, none⟩ = some (.slice (some ⟨w.heap.size, 0, none⟩) 6 6) := by rw [cell_of HB1.out]; rfl
  have jHB12 : ∀ o, (w8.alloc o).cell? ⟨w.heap.size + 1, 2, none⟩ = some (.slice (some ⟨w.heap.size, 0, none⟩) 6 6) := fun o => cell_alloc_old o kHB12
  go_wp2_with (go_at_call 5; fail)
  clear kHB10 jHB10 kHB11 jHB11 kHB12 jHB12
  refine Calls_nm ?_
  intro W9 hW
  have n : Nw w8 W9 := by rw [hW]; first | exact Ch.refl _ _ | exact (Ch.refl _ _).alloc _ | exact ((Ch.refl _ _).alloc _).alloc _
  replace NX := Lib.hid (NX.out.trans n)
  replace MX := Lib.hid (MX.out.kept n id)
  replace D1 := Lib.hid (n.heap D1.out id)
  replace HB1 := Lib.hid (n.heap HB1.out id)
  replace D2 := Lib.hid (n.heap D2.out id)
  replace HB2 := Lib.hid (n.heap HB2.out id)
  replace D3 := Lib.hid (n.heap D3.out id)
  replace HA := Lib.hid ((HA.out.kept n nof).hi n.size)
  replace HBb := Lib.hid ((HBb.out.kept n nof).hi n.size)
  replace HC3 := Lib.hid ((HC3.out.kept n nof).hi n.size)
  clear hW n
  refine Get_any _ _ bA 0 1 _ _ HA.out ?_
  rw [s_g1]
  intro w10 n
  replace NX := Lib.hid (NX.out.trans n)
  replace MX := Lib.hid (MX.out.kept n id)
  replace D1 := Lib.hid (n.heap D1.out id)
  replace HB1 := Lib.hid (n.heap HB1.out id)
  replace D2 := Lib.hid (n.heap D2.out id)
  replace HB2 := Lib.hid (n.heap HB2.out id)
  replace D3 := Lib.hid (n.heap D3.out id)
  replace HA := Lib.hid ((HA.out.kept n nof).hi n.size)
  replace HBb := Lib.hid ((HBb.out.kept n nof).hi n.size)
  replace HC3 := Lib.hid ((HC3.out.kept n nof).hi n.size)
  clear n
  have kHB10 : w10.cell? ⟨w.heap.size + 1, 0, none⟩ = some (.int .i64 3) := by rw [cell_of HB1.out]; rfl
  have jHB10 : ∀ o, (w10.alloc o).cell? ⟨w.heap.size + 1, 0, none⟩ = some (.int .i64 3) := fun o => cell_alloc_old o kHB10
  have kHB11 : w10.cell? ⟨w.heap.size + 1, 1, none⟩ = some (.int .i64 2) := by rw [cell_of HB1.out]; rfl
  have jHB11 : ∀ o, (w10.alloc o).cell? ⟨w.heap.size + 1, 1, none⟩ = some (.int .i64 2) := fun o => cell_alloc_old o kHB11
  have kHB12 : w10.cell? ⟨w.heap.size + 1, 2, none⟩ = some (.slice (some ⟨w.heap.size, 0, none⟩) 6 6) := by rw [cell_of HB1.out]; rfl
  have jHB12 : ∀ o, (w10.alloc o).cell? ⟨w.heap.size + 1, 2, none⟩ = some (.slice (some ⟨w.heap.size, 0, none⟩) 6 6) := fun o => cell_alloc_old o kHB12
  go_wp2_with (go_at_call 5; fail)
  clear kHB10 jHB10 kHB11 jHB11 kHB12 jHB12
  refine Calls_nm ?_
  intro W11 hW
  have n : Nw w10 W11 := by rw [hW]; first | exact Ch.refl _ _ | exact (Ch.refl _ _).alloc _ | exact ((Ch.refl _ _).alloc _).alloc _
  replace NX := Lib.hid (NX.out.trans n)
  replace MX := Lib.hid (MX.out.kept n id)
  replace D1 := Lib.hid (n.heap D1.out id)
  replace HB1 := Lib.hid (n.heap HB1.out id)
  replace D2 := Lib.hid (n.heap D2.out id)
  replace HB2 := Lib.hid (n.heap HB2.out id)
  replace D3 := Lib.hid (n.heap D3.out id)
  replace HA := Lib.hid ((HA.out.kept n nof).hi n.size)
  replace HBb := Lib.hid ((HBb.out.kept n nof).hi n.size)
  replace HC3 := Lib.hid ((HC3.out.kept n nof).hi n.size)
  clear hW n
  refine Get_any _ _ bA 0 0 _ _ HA.out ?_
  rw [s_g2]
  intro w12 n
  replace NX := Lib.hid (NX.out.trans n)
  replace MX := Lib.hid (MX.out.kept n id)
  replace D1 := Lib.hid (n.heap D1.out id)
  replace HB1 := Lib.hid (n.heap HB1.out id)
  replace D2 := Lib.hid (n.heap D2.out id)
  replace HB2 := Lib.hid (n.heap HB2.out id)
  replace D3 := Lib.hid (n.heap D3.out id)
  replace HA := Lib.hid ((HA.out.kept n nof).hi n.size)
  replace HBb := Lib.hid ((HBb.out.kept n nof).hi n.size)
  replace HC3 := Lib.hid ((HC3.out.kept n nof).hi n.size)
  clear n
  have kHB10 : w12.cell? ⟨w.heap.size + 1, 0, none⟩ = some (.int .i64 3) := by rw [cell_of HB1.out]; rfl
  have jHB10 : ∀ o, (w12.alloc o).cell? ⟨w.heap.size + 1, 0, none⟩ = some (.int .i64 3) := fun o => cell_alloc_old o kHB10
  have kHB11 : w12.cell? ⟨w.heap.size + 1, 1, none⟩ = some (.int .i64 2) := by rw [cell_of HB1.out]; rfl
  have jHB11 : ∀ o, (w12.alloc o).cell? ⟨w.heap.size + 1, 1, none⟩ = some (.int .i64 2) := fun o => cell_alloc_old o kHB11
  have kHB12 : w12.cell? ⟨w.heap.size + 1, 2, none⟩ = some (.slice (some ⟨w.heap.size, 0, none⟩) 6 6) := by rw [cell_of HB1.out]; rfl
  have jHB12 : ∀ o, (w12.alloc o).cell? ⟨w.heap.size + 1, 2, none⟩ = some (.slice (some ⟨w.heap.size, 0, none⟩) 6 6) := fun o => cell_alloc_old o kHB12
  go_wp2_with (go_at_call 5; fail)
  clear kHB10 jHB10 kHB11 jHB11 kHB12 jHB12
  refine Calls_nm ?_
  intro W13 hW
  have n : Nw w12 W13 := by rw [hW]; first | exact Ch.refl _ _ | exact (Ch.refl _ _).alloc _ | exact ((Ch.refl _ _).alloc _).alloc _
  replace NX := Lib.hid (NX.out.trans n)
  replace MX := Lib.hid (MX.out.kept n id)
  replace D1 := Lib.hid (n.heap D1.out id)
  replace HB1 := Lib.hid (n.heap HB1.out id)
  replace D2 := Lib.hid (n.heap D2.out id)
  replace HB2 := Lib.hid (n.heap HB2.out id)
  replace D3 := Lib.hid (n.heap D3.out id)
  replace HA := Lib.hid ((HA.out.kept n nof).hi n.size)
  replace HBb := Lib.hid ((HBb.out.kept n nof).hi n.size)
  replace HC3 := Lib.hid ((HC3.out.kept n nof).hi n.size)
  clear hW n
  refine Get_any _ _ bA 3 0 _ _ HA.out ?_
  rw [s_g3]
  intro w14 n
  replace NX := Lib.hid (NX.out.trans n)
  replace MX := Lib.hid (MX.out.kept n id)
  replace D1 := Lib.hid (n.heap D1.out id)
  replace HB1 := Lib.hid (n.heap HB1.out id)
  replace D2 := Lib.hid (n.heap D2.out id)
  replace HB2 := Lib.hid (n.heap HB2.out id)
  replace D3 := Lib.hid (n.heap D3.out id)
  replace HA := Lib.hid ((HA.out.kept n nof).hi n.size)
  replace HBb := Lib.hid ((HBb.out.kept n nof).hi n.size)
  replace HC3 := Lib.hid ((HC3.out.kept n nof).hi n.size)
  clear n
  have kHB10 : w14.cell? ⟨w.heap.size + 1, 0, none⟩ = some (.int .i64 3) := by rw [cell_of HB1.out]; rfl
  have jHB10 : ∀ o, (w14.alloc o).cell? ⟨w.heap.size + 1, 0, none⟩ = some (.int .i64 3) := fun o => cell_alloc_old o kHB10
  have kHB11 : w14.cell? ⟨w.heap.size + 1, 1, none⟩ = some (.int .i64 2) := by rw [cell_of HB1.out]; rfl
  have jHB11 : ∀ o, (w14.alloc o).cell? ⟨w.heap.size + 1, 1, none⟩ = some (.int .i64 2) := fun o => cell_alloc_old o kHB11
  have kHB12 : w14.cell? ⟨w.heap.size + 1, 2, none⟩ = some (.slice (some ⟨w.heap.size, 0, none⟩) 6 6) := by rw [cell_of HB1.out]; rfl
  have jHB12 : ∀ o, (w14.alloc o).cell? ⟨w.heap.size + 1, 2, none⟩ = some (.slice (some ⟨w.heap.size, 0, none⟩) 6 6) := fun o => cell_alloc_old o kHB12
  go_wp2_with (go_at_call 5; fail)
  clear kHB10 jHB10 kHB11 jHB11 kHB12 jHB12
  refine Calls_nm ?_
  intro W15 hW
  have n : Nw w14 W15 := by rw [hW]; first | exact Ch.refl _ _ | exact (Ch.refl _ _).alloc _ | exact ((Ch.refl _ _).alloc _).alloc _
  replace NX := Lib.hid (NX.out.trans n)
  replace MX := Lib.hid (MX.out.kept n id)
  replace D1 := Lib.hid (n.heap D1.out id)
  replace HB1 := Lib.hid (n.heap HB1.out id)
  replace D2 := Lib.hid (n.heap D2.out id)
  replace HB2 := Lib.hid (n.heap HB2.out id)
  replace D3 := Lib.hid (n.heap D3.out id)
  replace HA := Lib.hid ((HA.out.kept n nof).hi n.size)
  replace HBb := Lib.hid ((HBb.out.kept n nof).hi n.size)
  replace HC3 := Lib.hid ((HC3.out.kept n nof).hi n.size)
  clear hW n
  refine Get_any _ _ bA (-1) 0 _ _ HA.out ?_
  rw [s_g4]
  intro w16 n
  replace NX := Lib.hid (NX.out.trans n)
  replace MX := Lib.hid (MX.out.kept n id)
  replace D1 := Lib.hid (n.heap D1.out id)
  replace HB1 := Lib.hid (n.heap HB1.out id)
  replace D2 := Lib.hid (n.heap D2.out id)
  replace HB2 := Lib.hid (n.heap HB2.out id)
  replace D3 := Lib.hid (n.heap D3.out id)
  replace HA := Lib.hid ((HA.out.kept n nof).hi n.size)
  replace HBb := Lib.hid ((HBb.out.kept n nof).hi n.size)
  replace HC3 := Lib.hid ((HC3.out.kept n nof).hi n.size)
  clear n
  have kHB10 : w16.cell? ⟨w.heap.size + 1, 0, none⟩ = some (.int .i64 3) := by rw [cell_of HB1.out]; rfl
  have jHB10 : ∀ o, (w16.alloc o).cell? ⟨w.heap.size + 1, 0, none⟩ = some (.int .i64 3) := fun o => cell_alloc_old o kHB10
  have kHB11 : w16.cell? ⟨w.heap.size + 1, 1, none⟩ = some (.int .i64 2) := by rw [cell_of HB1.out]; rfl
  have jHB11 : ∀ o, (w16.alloc o).cell? ⟨w.heap.size + 1, 1, none⟩ = some (.int .i64 2) := fun o => cell_alloc_old o kHB11
  have kHB12 : w16.cell? ⟨w.heap.size + 1, 2, none⟩ = some (.slice (some ⟨w.heap.size, 0, none⟩) 6 6) := by rw [cell_of HB1.out]; rfl
  have jHB12 : ∀ o, (w16.alloc o).cell? ⟨w.heap.size + 1, 2, none⟩ = some (.slice (some ⟨w.heap.size, 0, none⟩) 6 6) := fun o => cell_alloc_old o kHB12
  go_wp2_with (go_at_call 5; fail)
  clear kHB10 jHB10 kHB11 jHB11 kHB12 jHB12
  refine Calls_nm ?_
  intro W17 hW
  have n : Nw w16 W17 := by rw [hW]; first | exact Ch.refl _ _ | exact (Ch.refl _ _).alloc _ | exact ((Ch.refl _ _).alloc _).alloc _
  replace NX := Lib.hid (NX.out.trans n)
  replace MX := Lib.hid (MX.out.kept n id)
  replace D1 := Lib.hid (n.heap D1.out id)
  replace HB1 := Lib.hid (n.heap HB1.out id)
  replace D2 := Lib.hid (n.heap D2.out id)
  replace HB2 := Lib.hid (n.heap HB2.out id)
  replace D3 := Lib.hid (n.heap D3.out id)
  replace HA := Lib.hid ((HA.out.kept n nof).hi n.size)
  replace HBb := Lib.hid ((HBb.out.kept n nof).hi n.size)
  replace HC3 := Lib.hid ((HC3.out.kept n nof).hi n.size)
  clear hW n
  refine Count_any _ _ bA _ _ HA.out (Nat.le_refl _) (by decide) ?_
  rw [s_cnt]
  intro w18 n
  replace NX := Lib.hid (NX.out.trans n)
  replace MX := Lib.hid (MX.out.kept n id)
  replace D1 := Lib.hid (n.heap D1.out id)
  replace HB1 := Lib.hid (n.heap HB1.out id)
  replace D2 := Lib.hid (n.heap D2.out id)
  replace HB2 := Lib.hid (n.heap HB2.out id)
  replace D3 := Lib.hid (n.heap D3.out id)
  replace HA := Lib.hid ((HA.out.kept n nof).hi n.size)
  replace HBb := Lib.hid ((HBb.out.kept n nof).hi n.size)
  replace HC3 := Lib.hid ((HC3.out.kept n nof).hi n.size)
  clear n
  have kHB10 : w18.cell? ⟨w.heap.size + 1, 0, none⟩ = some (.int .i64 3) := by rw [cell_of HB1.out]; rfl
  have jHB10 : ∀ o, (w18.alloc o).cell? ⟨w.heap.size + 1, 0, none⟩ = some (.int .i64 3) := fun o => cell_alloc_old o kHB10
  have kHB11 : w18.cell? ⟨w.heap.size + 1, 1, none⟩ = some (.int .i64 2) := by rw [cell_of HB1.out]; rfl
  have jHB11 : ∀ o, (w18.alloc o).cell? ⟨w.heap.size + 1, 1, none⟩ = some (.int .i64 2) := fun o => cell_alloc_old o kHB11
  have kHB12 : w18.cell? ⟨w.heap.size + 1, 2, none⟩ = some (.slice (some ⟨w.heap.size, 0, none⟩) 6 6) := by rw [cell_of HB1.out]; rfl
  have jHB12 : ∀ o, (w18.alloc o).cell? ⟨w.heap.size + 1, 2, none⟩ = some (.slice (some ⟨w.heap.size, 0, none⟩) 6 6) := fun o => cell_alloc_old o kHB12
  go_wp2_with (go_at_call 5; fail)
  clear kHB10 jHB10 kHB11 jHB11 kHB12 jHB12
  refine Calls_nm ?_
  intro W19 hW
  have n : Nw w18 W19 := by rw [hW]; first | exact Ch.refl _ _ | exact (Ch.refl _ _).alloc _ | exact ((Ch.refl _ _).alloc _).alloc _
  replace NX := Lib.hid (NX.out.trans n)
  replace MX := Lib.hid (MX.out.kept n id)
  replace D1 := Lib.hid (n.heap D1.out id)
  replace HB1 := Lib.hid (n.heap HB1.out id)
  replace D2 := Lib.hid (n.heap D2.out id)
  replace HB2 := Lib.hid (n.heap HB2.out id)
  replace D3 := Lib.hid (n.heap D3.out id)
  replace HA := Lib.hid ((HA.out.kept n nof).hi n.size)
  replace HBb := Lib.hid ((HBb.out.kept n nof).hi n.size)
  replace HC3 := Lib.hid ((HC3.out.kept n nof).hi n.size)
  clear hW n
  refine bCrop_any _ _ bA 1 (-1) 3 2 _ _ HA.out (Nat.le_refl _) (by unfold wfI; decide) (by unfold wfI; decide) (by unfold wfI; decide) (by unfold wfI; decide) ?_
  rw [s_crop]
  intro w20 v hi n
  replace NX := Lib.hid (NX.out.trans n)
  replace MX := Lib.hid (MX.out.kept n id)
  replace D1 := Lib.hid (n.heap D1.out id)
  replace HB1 := Lib.hid (n.heap HB1.out id)
  replace D2 := Lib.hid (n.heap D2.out id)
  replace HB2 := Lib.hid (n.heap HB2.out id)
  replace D3 := Lib.hid (n.heap D3.out id)
  replace HA := Lib.hid ((HA.out.kept n nof).hi n.size)
  replace HBb := Lib.hid ((HBb.out.kept n nof).hi n.size)
  replace HC3 := Lib.hid ((HC3.out.kept n nof).hi n.size)
  obtain ⟨AC, cC, rfl, hI⟩ := isBm_formN (W := 3) (H := 2) (n := 6) hi rfl rfl rfl
  have HCc := Lib.hid hI
  clear hi hI n
  have kHB10 : w20.cell? ⟨w.heap.size + 1, 0, none⟩ = some (.int .i64 3) := by rw [cell_of HB1.out]; rfl
  have jHB10 : ∀ o, (w20.alloc o).cell? ⟨w.heap.size + 1, 0, none⟩ = some (.int .i64 3) := fun o => cell_alloc_old o kHB10
  have kHB11 : w20.cell? ⟨w.heap.size + 1, 1, none⟩ = some (.int .i64 2) := by rw [cell_of HB1.out]; rfl
  have jHB11 : ∀ o, (w20.alloc o).cell? ⟨w.heap.size + 1, 1, none⟩ = some (.int .i64 2) := fun o => cell_alloc_old o kHB11
  have kHB12 : w20.cell? ⟨w.heap.size + 1, 2, none⟩ = some (.slice (some ⟨w.heap.size, 0, none⟩) 6 6) := by rw [cell_of HB1.out]; rfl
  have jHB12 : ∀ o, (w20.alloc o).cell? ⟨w.heap.size + 1, 2, none⟩ = some (.slice (some ⟨w.heap.size, 0, none⟩) 6 6) := fun o => cell_alloc_old o kHB12
  have kHB20 : w20.cell? ⟨w.heap.size + 3, 0, none⟩ = some (.int .i64 2) := by rw [cell_of HB2.out]; rfl
  have jHB20 : ∀ o, (w20.alloc o).cell? ⟨w.heap.size + 3, 0, none⟩ = some (.int .i64 2) := fun o => cell_alloc_old o kHB20
  have kHB21 : w20.cell? ⟨w.heap.size + 3, 1, none⟩ = some (.int .i64 1) := by rw [cell_of HB2.out]; rfl
  have jHB21 : ∀ o, (w20.alloc o).cell? ⟨w.heap.size + 3, 1, none⟩ = some (.int .i64 1) := fun o => cell_alloc_old o kHB21
  have kHB22 : w20.cell? ⟨w.heap.size + 3, 2, none⟩ = some (.slice (some ⟨w.heap.size + 2, 0, none⟩) 2 2) := by rw [cell_of HB2.out]; rfl
  have jHB22 : ∀ o, (w20.alloc o).cell? ⟨w.heap.size + 3, 2, none⟩ = some (.slice (some ⟨w.heap.size + 2, 0, none⟩) 2 2) := fun o => cell_alloc_old o kHB22
  go_wp2_with (go_at_call 5; fail)
  clear kHB10 jHB10 kHB11 jHB11 kHB12 jHB12 kHB20 jHB20 kHB21 jHB21 kHB22 jHB22
  refine Calls_nm ?_
  intro W21 hW
  have n : Nw w20 W21 := by rw [hW]; first | exact Ch.refl _ _ | exact (Ch.refl _ _).alloc _ | exact ((Ch.refl _ _).alloc _).alloc _
  replace NX := Lib.hid (NX.out.trans n)
  replace MX := Lib.hid (MX.out.kept n id)
  replace D1 := Lib.hid (n.heap D1.out id)
  replace HB1 := Lib.hid (n.heap HB1.out id)
  replace D2 := Lib.hid (n.heap D2.out id)
  replace HB2 := Lib.hid (n.heap HB2.out id)
  replace D3 := Lib.hid (n.heap D3.out id)
  replace HA := Lib.hid ((HA.out.kept n nof).hi n.size)
  replace HBb := Lib.hid ((HBb.out.kept n nof).hi n.size)
  replace HC3 := Lib.hid ((HC3.out.kept n nof).hi n.size)
  replace HCc := Lib.hid ((HCc.out.kept n nof).hi n.size)
  have HB5 := Lib.hid (show W21.heap[w20.heap.size]? = some (.cells #[.int .i64 3, .int .i64 2, .slice AC 6 cC] 28 (0, 0)) from by rw [hW]; exact heap_alloc_eq _ rfl)
  clear hW n
  refine bPaste_any _ _ _ bA bB 0 0 _ _ HA.out HBb.out (Nat.le_refl _) (by unfold wfI; decide) (by unfold wfI; decide) (by decide) ?_
  intro w22 v hi n
  replace NX := Lib.hid (NX.out.trans n)
  replace MX := Lib.hid (MX.out.kept n id)
  replace D1 := Lib.hid (n.heap D1.out id)
  replace HB1 := Lib.hid (n.heap HB1.out id)
  replace D2 := Lib.hid (n.heap D2.out id)
  replace HB2 := Lib.hid (n.heap HB2.out id)
  replace D3 := Lib.hid (n.heap D3.out id)
  replace HA := Lib.hid ((HA.out.kept n nof).hi n.size)
  replace HBb := Lib.hid ((HBb.out.kept n nof).hi n.size)
  replace HC3 := Lib.hid ((HC3.out.kept n nof).hi n.size)
  replace HCc := Lib.hid ((HCc.out.kept n nof).hi n.size)
  replace HB5 := Lib.hid (n.heap HB5.out id)
  obtain ⟨AP, cP, rfl, hI⟩ := isBm_formN (W := 3) (H := 2) (n := 6) hi (by kernel_rfl) (by kernel_rfl) (by kernel_rfl)
  have HP := Lib.hid hI
  clear hi hI n
  go_wp2_with (go_at_call 5; fail)
  refine Calls_nm ?_
  intro W23 hW
  have n : Nw w22 W23 := by rw [hW]; first | exact Ch.refl _ _ | exact (Ch.refl _ _).alloc _ | exact ((Ch.refl _ _).alloc _).alloc _
  replace NX := Lib.hid (NX.out.trans n)
  replace MX := Lib.hid (MX.out.kept n id)
  replace D1 := Lib.hid (n.heap D1.out id)
  replace HB1 := Lib.hid (n.heap HB1.out id)
  replace D2 := Lib.hid (n.heap D2.out id)
  replace HB2 := Lib.hid (n.heap HB2.out id)
  replace D3 := Lib.hid (n.heap D3.out id)
  replace HA := Lib.hid ((HA.out.kept n nof).hi n.size)
  replace HBb := Lib.hid ((HBb.out.kept n nof).hi n.size)
  replace HC3 := Lib.hid ((HC3.out.kept n nof).hi n.size)
  replace HCc := Lib.hid ((HCc.out.kept n nof).hi n.size)
  replace HB5 := Lib.hid (n.heap HB5.out id)
  replace HP := Lib.hid ((HP.out.kept n nof).hi n.size)
  clear hW n
  refine texts_ok _ _ (pasteM bA bB 0 0) _ _ _ HP.out (Nat.le_refl _) (by rw [s_p1]) ?_
  intro w24 n
  replace NX := Lib.hid (NX.out.trans n)
  replace MX := Lib.hid (MX.out.kept n id)
  replace D1 := Lib.hid (n.heap D1.out id)
  replace HB1 := Lib.hid (n.heap HB1.out id)
  replace D2 := Lib.hid (n.heap D2.out id)
  replace HB2 := Lib.hid (n.heap HB2.out id)
  replace D3 := Lib.hid (n.heap D3.out id)
  replace HA := Lib.hid ((HA.out.kept n nof).hi n.size)
  replace HBb := Lib.hid ((HBb.out.kept n nof).hi n.size)
  replace HC3 := Lib.hid ((HC3.out.kept n nof).hi n.size)
  replace HCc := Lib.hid ((HCc.out.kept n nof).hi n.size)
  replace HB5 := Lib.hid (n.heap HB5.out id)
  replace HP := Lib.hid ((HP.out.kept n nof).hi n.size)
  clear n HP
  have kHB10 : w24.cell? ⟨w.heap.size + 1, 0, none⟩ = some (.int .i64 3) := by rw [cell_of HB1.out]; rfl
  have jHB10 : ∀ o, (w24.alloc o).cell? ⟨w.heap.size + 1, 0, none⟩ = some (.int .i64 3) := fun o => cell_alloc_old o kHB10
  have kHB11 : w24.cell? ⟨w.heap.size + 1, 1, none⟩ = some (.int .i64 2) := by rw [cell_of HB1.out]; rfl
  have jHB11 : ∀ o, (w24.alloc o).cell? ⟨w.heap.size + 1, 1, none⟩ = some (.int .i64 2) := fun o => cell_alloc_old o kHB11
  have kHB12 : w24.cell? ⟨w.heap.size + 1, 2, none⟩ = some (.slice (some ⟨w.heap.size, 0, none⟩) 6 6) := by rw [cell_of HB1.out]; rfl
  have jHB12 : ∀ o, (w24.alloc o).cell? ⟨w.heap.size + 1, 2, none⟩ = some (.slice (some ⟨w.heap.size, 0, none⟩) 6 6) := fun o => cell_alloc_old o kHB12
  have kHB20 : w24.cell? ⟨w.heap.size + 3, 0, none⟩ = some (.int .i64 2) := by rw [cell_of HB2.out]; rfl
  have jHB20 : ∀ o, (w24.alloc o).cell? ⟨w.heap.size + 3, 0, none⟩ = some (.int .i64 2) := fun o => cell_alloc_old o kHB20
  have kHB21 : w24.cell? ⟨w.heap.size + 3, 1, none⟩ = some (.int .i64 1) := by rw [cell_of HB2.out]; rfl
  have jHB21 : ∀ o, (w24.alloc o).cell? ⟨w.heap.size + 3, 1, none⟩ = some (.int .i64 1) := fun o => cell_alloc_old o kHB21
  have kHB22 : w24.cell? ⟨w.heap.size + 3, 2, none⟩ = some (.slice (some ⟨w.heap.size + 2, 0, none⟩) 2 2) := by rw [cell_of HB2.out]; rfl
  have jHB22 : ∀ o, (w24.alloc o).cell? ⟨w.heap.size + 3, 2, none⟩ = some (.slice (some ⟨w.heap.size + 2, 0, none⟩) 2 2) := fun o => cell_alloc_old o kHB22
  go_wp2_with (go_at_call 5; fail)
  clear kHB10 jHB10 kHB11 jHB11 kHB12 jHB12 kHB20 jHB20 kHB21 jHB21 kHB22 jHB22
  refine Calls_nm ?_
  intro W25 hW
  have n : Nw w24 W25 := by rw [hW]; first | exact Ch.refl _ _ | exact (Ch.refl _ _).alloc _ | exact ((Ch.refl _ _).alloc _).alloc _
  replace NX := Lib.hid (NX.out.trans n)
  replace MX := Lib.hid (MX.out.kept n id)
  replace D1 := Lib.hid (n.heap D1.out id)
  replace HB1 := Lib.hid (n.heap HB1.out id)
  replace D2 := Lib.hid (n.heap D2.out id)
  replace HB2 := Lib.hid (n.heap HB2.out id)
  replace D3 := Lib.hid (n.heap D3.out id)
  replace HA := Lib.hid ((HA.out.kept n nof).hi n.size)
  replace HBb := Lib.hid ((HBb.out.kept n nof).hi n.size)
  replace HC3 := Lib.hid ((HC3.out.kept n nof).hi n.size)
  replace HCc := Lib.hid ((HCc.out.kept n nof).hi n.size)
  replace HB5 := Lib.hid (n.heap HB5.out id)
  clear hW n
  refine bPaste_any _ _ _ bA bB 2 1 _ _ HA.out HBb.out (Nat.le_refl _) (by unfold wfI; decide) (by unfold wfI; decide) (by decide) ?_
  intro w26 v hi n
  replace NX := Lib.hid (NX.out.trans n)
  replace MX := Lib.hid (MX.out.kept n id)
  replace D1 := Lib.hid (n.heap D1.out id)
  replace HB1 := Lib.hid (n.heap HB1.out id)
  replace D2 := Lib.hid (n.heap D2.out id)
  replace HB2 := Lib.hid (n.heap HB2.out id)
  replace D3 := Lib.hid (n.heap D3.out id)
  replace HA := Lib.hid ((HA.out.kept n nof).hi n.size)
  replace HBb := Lib.hid ((HBb.out.kept n nof).hi n.size)
  replace HC3 := Lib.hid ((HC3.out.kept n nof).hi n.size)
  replace HCc := Lib.hid ((HCc.out.kept n nof).hi n.size)
  replace HB5 := Lib.hid (n.heap HB5.out id)
  obtain ⟨AP, cP, rfl, hI⟩ := isBm_formN (W := 3) (H := 2) (n := 6) hi (by kernel_rfl) (by kernel_rfl) (by kernel_rfl)
  have HP := Lib.hid hI
  clear hi hI n
  go_wp2_with (go_at_call 5; fail)
  refine Calls_nm ?_
  intro W27 hW
  have n : Nw w26 W27 := by rw [hW]; first | exact Ch.refl _ _ | exact (Ch.refl _ _).alloc _ | exact ((Ch.refl _ _).alloc _).alloc _
  replace NX := Lib.hid (NX.out.trans n)
  replace MX := Lib.hid (MX.out.kept n id)
  replace D1 := Lib.hid (n.heap D1.out id)
  replace HB1 := Lib.hid (n.heap HB1.out id)
  replace D2 := Lib.hid (n.heap D2.out id)
  replace HB2 := Lib.hid (n.heap HB2.out id)
  replace D3 := Lib.hid (n.heap D3.out id)
  replace HA := Lib.hid ((HA.out.kept n nof).hi n.size)
  replace HBb := Lib.hid ((HBb.out.kept n nof).hi n.size)
  replace HC3 := Lib.hid ((HC3.out.kept n nof).hi n.size)
  replace HCc := Lib.hid ((HCc.out.kept n nof).hi n.size)
  replace HB5 := Lib.hid (n.heap HB5.out id)
  replace HP := Lib.hid ((HP.out.kept n nof).hi n.size)
  clear hW n
  refine texts_ok _ _ (pasteM bA bB 2 1) _ _ _ HP.out (Nat.le_refl _) (by rw [s_p2]) ?_
  intro w28 n
  replace NX := Lib.hid (NX.out.trans n)
  replace MX := Lib.hid (MX.out.kept n id)
  replace D1 := Lib.hid (n.heap D1.out id)
  replace HB1 := Lib.hid (n.heap HB1.out id)
  replace D2 := Lib.hid (n.heap D2.out id)
  replace HB2 := Lib.hid (n.heap HB2.out id)
  replace D3 := Lib.hid (n.heap D3.out id)
  replace HA := Lib.hid ((HA.out.kept n nof).hi n.size)
  replace HBb := Lib.hid ((HBb.out.kept n nof).hi n.size)
  replace HC3 := Lib.hid ((HC3.out.kept n nof).hi n.size)
  replace HCc := Lib.hid ((HCc.out.kept n nof).hi n.size)
  replace HB5 := Lib.hid (n.heap HB5.out id)
  replace HP := Lib.hid ((HP.out.kept n nof).hi n.size)
  clear n HP
  have kHB50 : w28.cell? ⟨w20.heap.size, 0, none⟩ = some (.int .i64 3) := by rw [cell_of HB5.out]; rfl
  have jHB50 : ∀ o, (w28.alloc o).cell? ⟨w20.heap.size, 0, none⟩ = some (.int .i64 3) := fun o => cell_alloc_old o kHB50
  have kHB51 : w28.cell? ⟨w20.heap.size, 1, none⟩ = some (.int .i64 2) := by rw [cell_of HB5.out]; rfl
  have jHB51 : ∀ o, (w28.alloc o).cell? ⟨w20.heap.size, 1, none⟩ = some (.int .i64 2) := fun o => cell_alloc_old o kHB51
  have kHB52 : w28.cell? ⟨w20.heap.size, 2, none⟩ = some (.slice AC 6 cC) := by rw [cell_of HB5.out]; rfl
  have jHB52 : ∀ o, (w28.alloc o).cell? ⟨w20.heap.size, 2, none⟩ = some (.slice AC 6 cC) := fun o => cell_alloc_old o kHB52
  go_wp2_with (go_at_call 5; fail)
  clear kHB50 jHB50 kHB51 jHB51 kHB52 jHB52
  refine Calls_nm ?_
  intro W29 hW
  have n : Nw w28 W29 := by rw [hW]; first | exact Ch.refl _ _ | exact (Ch.refl _ _).alloc _ | exact ((Ch.refl _ _).alloc _).alloc _
  replace NX := Lib.hid (NX.out.trans n)
  replace MX := Lib.hid (MX.out.kept n id)
  replace D1 := Lib.hid (n.heap D1.out id)
  replace HB1 := Lib.hid (n.heap HB1.out id)
  replace D2 := Lib.hid (n.heap D2.out id)
  replace HB2 := Lib.hid (n.heap HB2.out id)
  replace D3 := Lib.hid (n.heap D3.out id)
  replace HA := Lib.hid ((HA.out.kept n nof).hi n.size)
  replace HBb := Lib.hid ((HBb.out.kept n nof).hi n.size)
  replace HC3 := Lib.hid ((HC3.out.kept n nof).hi n.size)
  replace HCc := Lib.hid ((HCc.out.kept n nof).hi n.size)
  replace HB5 := Lib.hid (n.heap HB5.out id)
  clear hW n
  refine texts_ok _ _ bC _ _ _ HCc.out (Nat.le_refl _) (by rw [s_c]) ?_
  intro w30 n
  replace NX := Lib.hid (NX.out.trans n)
  replace MX := Lib.hid (MX.out.kept n id)
  replace D1 := Lib.hid (n.heap D1.out id)
  replace HB1 := Lib.hid (n.heap HB1.out id)
  replace D2 := Lib.hid (n.heap D2.out id)
  replace HB2 := Lib.hid (n.heap HB2.out id)
  replace D3 := Lib.hid (n.heap D3.out id)
  replace HA := Lib.hid ((HA.out.kept n nof).hi n.size)
  replace HBb := Lib.hid ((HBb.out.kept n nof).hi n.size)
  replace HC3 := Lib.hid ((HC3.out.kept n nof).hi n.size)
  replace HCc := Lib.hid ((HCc.out.kept n nof).hi n.size)
  replace HB5 := Lib.hid (n.heap HB5.out id)
  clear n
  have kHB10 : w30.cell? ⟨w.heap.size + 1, 0, none⟩ = some (.int .i64 3) := by rw [cell_of HB1.out]; rfl
  have jHB10 : ∀ o, (w30.alloc o).cell? ⟨w.heap.size + 1, 0, none⟩ = some (.int .i64 3) := fun o => cell_alloc_old o kHB10
  have kHB11 : w30.cell? ⟨w.heap.size + 1, 1, none⟩ = some (.int .i64 2) := by rw [cell_of HB1.out]; rfl
  have jHB11 : ∀ o, (w30.alloc o).cell? ⟨w.heap.size + 1, 1, none⟩ = some (.int .i64 2) := fun o => cell_alloc_old o kHB11
  have kHB12 : w30.cell? ⟨w.heap.size + 1, 2, none⟩ = some (.slice (some ⟨w.heap.size, 0, none⟩) 6 6) := by rw [cell_of HB1.out]; rfl
  have jHB12 : ∀ o, (w30.alloc o).cell? ⟨w.heap.size + 1, 2, none⟩ = some (.slice (some ⟨w.heap.size, 0, none⟩) 6 6) := fun o => cell_alloc_old o kHB12
  have kHB20 : w30.cell? ⟨w.heap.size + 3, 0, none⟩ = some (.int .i64 2) := by rw [cell_of HB2.out]; rfl
  have jHB20 : ∀ o, (w30.alloc o).cell? ⟨w.heap.size + 3, 0, none⟩ = some (.int .i64 2) := fun o => cell_alloc_old o kHB20
  have kHB21 : w30.cell? ⟨w.heap.size + 3, 1, none⟩ = some (.int .i64 1) := by rw [cell_of HB2.out]; rfl
  have jHB21 : ∀ o, (w30.alloc o).cell? ⟨w.heap.size + 3, 1, none⟩ = some (.int .i64 1) := fun o => cell_alloc_old o kHB21
  have kHB22 : w30.cell? ⟨w.heap.size + 3, 2, none⟩ = some (.slice (some ⟨w.heap.size + 2, 0, none⟩) 2 2) := by rw [cell_of HB2.out]; rfl
  have jHB22 : ∀ o, (w30.alloc o).cell? ⟨w.heap.size + 3, 2, none⟩ = some (.slice (some ⟨w.heap.size + 2, 0, none⟩) 2 2) := fun o => cell_alloc_old o kHB22
  go_wp2_with (go_at_call 5; fail)
  clear kHB10 jHB10 kHB11 jHB11 kHB12 jHB12 kHB20 jHB20 kHB21 jHB21 kHB22 jHB22
  refine Calls_nm ?_
  intro W31 hW
  have n : Nw w30 W31 := by rw [hW]; first | exact Ch.refl _ _ | exact (Ch.refl _ _).alloc _ | exact ((Ch.refl _ _).alloc _).alloc _
  replace NX := Lib.hid (NX.out.trans n)
  replace MX := Lib.hid (MX.out.kept n id)
  replace D1 := Lib.hid (n.heap D1.out id)
  replace HB1 := Lib.hid (n.heap HB1.out id)
  replace D2 := Lib.hid (n.heap D2.out id)
  replace HB2 := Lib.hid (n.heap HB2.out id)
  replace D3 := Lib.hid (n.heap D3.out id)
  replace HA := Lib.hid ((HA.out.kept n nof).hi n.size)
  replace HBb := Lib.hid ((HBb.out.kept n nof).hi n.size)
  replace HC3 := Lib.hid ((HC3.out.kept n nof).hi n.size)
  replace HCc := Lib.hid ((HCc.out.kept n nof).hi n.size)
  replace HB5 := Lib.hid (n.heap HB5.out id)
  clear hW n
  refine Only_any _ _ _ bA bB 0 0 0 0 _ _ HA.out HBb.out (Nat.le_refl _) (by decide) ?_
  rw [s_o1]
  intro w32 n
  replace NX := Lib.hid (NX.out.trans n)
  replace MX := Lib.hid (MX.out.kept n id)
  replace D1 := Lib.hid (n.heap D1.out id)
  replace HB1 := Lib.hid (n.heap HB1.out id)
  replace D2 := Lib.hid (n.heap D2.out id)
  replace HB2 := Lib.hid (n.heap HB2.out id)
  replace D3 := Lib.hid (n.heap D3.out id)
  replace HA := Lib.hid ((HA.out.kept n nof).hi n.size)
  replace HBb := Lib.hid ((HBb.out.kept n nof).hi n.size)
  replace HC3 := Lib.hid ((HC3.out.kept n nof).hi n.size)
  replace HCc := Lib.hid ((HCc.out.kept n nof).hi n.size)
  replace HB5 := Lib.hid (n.heap HB5.out id)
  clear n
  have kHB10 : w32.cell? ⟨w.heap.size + 1, 0, none⟩ = some (.int .i64 3) := by rw [cell_of HB1.out]; rfl
  have jHB10 : ∀ o, (w32.alloc o).cell? ⟨w.heap.size + 1, 0, none⟩ = some (.int .i64 3) := fun o => cell_alloc_old o kHB10
  have kHB11 : w32.cell? ⟨w.heap.size + 1, 1, none⟩ = some (.int .i64 2) := by rw [cell_of HB1.out]; rfl
  have jHB11 : ∀ o, (w32.alloc o).cell? ⟨w.heap.size + 1, 1, none⟩ = some (.int .i64 2) := fun o => cell_alloc_old o kHB11
  have kHB12 : w32.cell? ⟨w.heap.size + 1, 2, none⟩ = some (.slice (some ⟨w.heap.size, 0, none⟩) 6 6) := by rw [cell_of HB1.out]; rfl
  have jHB12 : ∀ o, (w32.alloc o).cell? ⟨w.heap.size + 1, 2, none⟩ = some (.slice (some ⟨w.heap.size, 0, none⟩) 6 6) := fun o => cell_alloc_old o kHB12
  have kHB20 : w32.cell? ⟨w.heap.size + 3, 0, none⟩ = some (.int .i64 2) := by rw [cell_of HB2.out]; rfl
  have jHB20 : ∀ o, (w32.alloc o).cell? ⟨w.heap.size + 3, 0, none⟩ = some (.int .i64 2) := fun o => cell_alloc_old o kHB20
  have kHB21 : w32.cell? ⟨w.heap.size + 3, 1, none⟩ = some (.int .i64 1) := by rw [cell_of HB2.out]; rfl
  have jHB21 : ∀ o, (w32.alloc o).cell? ⟨w.heap.size + 3, 1, none⟩ = some (.int .i64 1) := fun o => cell_alloc_old o kHB21
  have kHB22 : w32.cell? ⟨w.heap.size + 3, 2, none⟩ = some (.slice (some ⟨w.heap.size + 2, 0, none⟩) 2 2) := by rw [cell_of HB2.out]; rfl
  have jHB22 : ∀ o, (w32.alloc o).cell? ⟨w.heap.size + 3, 2, none⟩ = some (.slice (some ⟨w.heap.size + 2, 0, none⟩) 2 2) := fun o => cell_alloc_old o kHB22
  go_wp2_with (go_at_call 5; fail)
  clear kHB10 jHB10 kHB11 jHB11 kHB12 jHB12 kHB20 jHB20 kHB21 jHB21 kHB22 jHB22
  refine Calls_nm ?_
  intro W33 hW
  have n : Nw w32 W33 := by rw [hW]; first | exact Ch.refl _ _ | exact (Ch.refl _ _).alloc _ | exact ((Ch.refl _ _).alloc _).alloc _
  replace NX := Lib.hid (NX.out.trans n)
  replace MX := Lib.hid (MX.out.kept n id)
  replace D1 := Lib.hid (n.heap D1.out id)
  replace HB1 := Lib.hid (n.heap HB1.out id)
  replace D2 := Lib.hid (n.heap D2.out id)
  replace HB2 := Lib.hid (n.heap HB2.out id)
  replace D3 := Lib.hid (n.heap D3.out id)
  replace HA := Lib.hid ((HA.out.kept n nof).hi n.size)
  replace HBb := Lib.hid ((HBb.out.kept n nof).hi n.size)
  replace HC3 := Lib.hid ((HC3.out.kept n nof).hi n.size)
  replace HCc := Lib.hid ((HCc.out.kept n nof).hi n.size)
  replace HB5 := Lib.hid (n.heap HB5.out id)
  clear hW n
  refine Only_any _ _ _ bA bB 1 0 0 0 _ _ HA.out HBb.out (Nat.le_refl _) (by decide) ?_
  rw [s_o2]
  intro w34 n
  replace NX := Lib.hid (NX.out.trans n)
  replace MX := Lib.hid (MX.out.kept n id)
  replace D1 := Lib.hid (n.heap D1.out id)
  replace HB1 := Lib.hid (n.heap HB1.out id)
  replace D2 := Lib.hid (n.heap D2.out id)
  replace HB2 := Lib.hid (n.heap HB2.out id)
  replace D3 := Lib.hid (n.heap D3.out id)
  replace HA := Lib.hid ((HA.out.kept n nof).hi n.size)
  replace HBb := Lib.hid ((HBb.out.kept n nof).hi n.size)
  replace HC3 := Lib.hid ((HC3.out.kept n nof).hi n.size)
  replace HCc := Lib.hid ((HCc.out.kept n nof).hi n.size)
  replace HB5 := Lib.hid (n.heap HB5.out id)
  clear n
  have kHB10 : w34.cell? ⟨w.heap.size + 1, 0, none⟩ = some (.int .i64 3) := by rw [cell_of HB1.out]; rfl
  have jHB10 : ∀ o, (w34.alloc o).cell? ⟨w.heap.size + 1, 0, none⟩ = some (.int .i64 3) := fun o => cell_alloc_old o kHB10
  have kHB11 : w34.cell? ⟨w.heap.size + 1, 1, none⟩ = some (.int .i64 2) := by rw [cell_of HB1.out]; rfl
  have jHB11 : ∀ o, (w34.alloc o).cell? ⟨w.heap.size + 1, 1, none⟩ = some (.int .i64 2) := fun o => cell_alloc_old o kHB11
  have kHB12 : w34.cell? ⟨w.heap.size + 1, 2, none⟩ = some (.slice (some ⟨w.heap.size, 0, none⟩) 6 6) := by rw [cell_of HB1.out]; rfl
  have jHB12 : ∀ o, (w34.alloc o).cell? ⟨w.heap.size + 1, 2, none⟩ = some (.slice (some ⟨w.heap.size, 0, none⟩) 6 6) := fun o => cell_alloc_old o kHB12
  have kHB20 : w34.cell? ⟨w.heap.size + 3, 0, none⟩ = some (.int .i64 2) := by rw [cell_of HB2.out]; rfl
  have jHB20 : ∀ o, (w34.alloc o).cell? ⟨w.heap.size + 3, 0, none⟩ = some (.int .i64 2) := fun o => cell_alloc_old o kHB20
  have kHB21 : w34.cell? ⟨w.heap.size + 3, 1, none⟩ = some (.int .i64 1) := by rw [cell_of HB2.out]; rfl
  have jHB21 : ∀ o, (w34.alloc o).cell? ⟨w.heap.size + 3, 1, none⟩ = some (.int .i64 1) := fun o => cell_alloc_old o kHB21
  have kHB22 : w34.cell? ⟨w.heap.size + 3, 2, none⟩ = some (.slice (some ⟨w.heap.size + 2, 0, none⟩) 2 2) := by rw [cell_of HB2.out]; rfl
  have jHB22 : ∀ o, (w34.alloc o).cell? ⟨w.heap.size + 3, 2, none⟩ = some (.slice (some ⟨w.heap.size + 2, 0, none⟩) 2 2) := fun o => cell_alloc_old o kHB22
  go_wp2_with (go_at_call 5; fail)
  clear kHB10 jHB10 kHB11 jHB11 kHB12 jHB12 kHB20 jHB20 kHB21 jHB21 kHB22 jHB22
  refine Calls_nm ?_
  intro W35 hW
  have n : Nw w34 W35 := by rw [hW]; first | exact Ch.refl _ _ | exact (Ch.refl _ _).alloc _ | exact ((Ch.refl _ _).alloc _).alloc _
  replace NX := Lib.hid (NX.out.trans n)
  replace MX := Lib.hid (MX.out.kept n id)
  replace D1 := Lib.hid (n.heap D1.out id)
  replace HB1 := Lib.hid (n.heap HB1.out id)
  replace D2 := Lib.hid (n.heap D2.out id)
  replace HB2 := Lib.hid (n.heap HB2.out id)
  replace D3 := Lib.hid (n.heap D3.out id)
  replace HA := Lib.hid ((HA.out.kept n nof).hi n.size)
  replace HBb := Lib.hid ((HBb.out.kept n nof).hi n.size)
  replace HC3 := Lib.hid ((HC3.out.kept n nof).hi n.size)
  replace HCc := Lib.hid ((HCc.out.kept n nof).hi n.size)
  replace HB5 := Lib.hid (n.heap HB5.out id)
  clear hW n
  refine Only_any _ _ _ bA bB 1 0 0 1 _ _ HA.out HBb.out (Nat.le_refl _) (by decide) ?_
  rw [s_o3]
  intro w36 n
  replace NX := Lib.hid (NX.out.trans n)
  replace MX := Lib.hid (MX.out.kept n id)
  replace D1 := Lib.hid (n.heap D1.out id)
  replace HB1 := Lib.hid (n.heap HB1.out id)
  replace D2 := Lib.hid (n.heap D2.out id)
  replace HB2 := Lib.hid (n.heap HB2.out id)
  replace D3 := Lib.hid (n.heap D3.out id)
  replace HA := Lib.hid ((HA.out.kept n nof).hi n.size)
  replace HBb := Lib.hid ((HBb.out.kept n nof).hi n.size)
  replace HC3 := Lib.hid ((HC3.out.kept n nof).hi n.size)
  replace HCc := Lib.hid ((HCc.out.kept n nof).hi n.size)
  replace HB5 := Lib.hid (n.heap HB5.out id)
  clear n
  have kHB10 : w36.cell? ⟨w.heap.size + 1, 0, none⟩ = some (.int .i64 3) := by rw [cell_of HB1.out]; rfl
  have jHB10 : ∀ o, (w36.alloc o).cell? ⟨w.heap.size + 1, 0, none⟩ = some (.int .i64 3) := fun o => cell_alloc_old o kHB10
  have kHB11 : w36.cell? ⟨w.heap.size + 1, 1, none⟩ = some (.int .i64 2) := by rw [cell_of HB1.out]; rfl
  have jHB11 : ∀ o, (w36.alloc o).cell? ⟨w.heap.size + 1, 1, none⟩ = some (.int .i64 2) := fun o => cell_alloc_old o kHB11
  have kHB12 : w36.cell? ⟨w.heap.size + 1, 2, none⟩ = some (.slice (some ⟨w.heap.size, 0, none⟩) 6 6) := by rw [cell_of HB1.out]; rfl
  have jHB12 : ∀ o, (w36.alloc o).cell? ⟨w.heap.size + 1, 2, none⟩ = some (.slice (some ⟨w.heap.size, 0, none⟩) 6 6) := fun o => cell_alloc_old o kHB12
  have kHB20 : w36.cell? ⟨w.heap.size + 3, 0, none⟩ = some (.int .i64 2) := by rw [cell_of HB2.out]; rfl
  have jHB20 : ∀ o, (w36.alloc o).cell? ⟨w.heap.size + 3, 0, none⟩ = some (.int .i64 2) := fun o => cell_alloc_old o kHB20
  have kHB21 : w36.cell? ⟨w.heap.size + 3, 1, none⟩ = some (.int .i64 1) := by rw [cell_of HB2.out]; rfl
  have jHB21 : ∀ o, (w36.alloc o).cell? ⟨w.heap.size + 3, 1, none⟩ = some (.int .i64 1) := fun o => cell_alloc_old o kHB21
  have kHB22 : w36.cell? ⟨w.heap.size + 3, 2, none⟩ = some (.slice (some ⟨w.heap.size + 2, 0, none⟩) 2 2) := by rw [cell_of HB2.out]; rfl
  have jHB22 : ∀ o, (w36.alloc o).cell? ⟨w.heap.size + 3, 2, none⟩ = some (.slice (some ⟨w.heap.size + 2, 0, none⟩) 2 2) := fun o => cell_alloc_old o kHB22
  go_wp2_with (go_at_call 5; fail)
  clear kHB10 jHB10 kHB11 jHB11 kHB12 jHB12 kHB20 jHB20 kHB21 jHB21 kHB22 jHB22
  refine Calls_nm ?_
  intro W37 hW
  have n : Nw w36 W37 := by rw [hW]; first | exact Ch.refl _ _ | exact (Ch.refl _ _).alloc _ | exact ((Ch.refl _ _).alloc _).alloc _
  replace NX := Lib.hid (NX.out.trans n)
  replace MX := Lib.hid (MX.out.kept n id)
  replace D1 := Lib.hid (n.heap D1.out id)
  replace HB1 := Lib.hid (n.heap HB1.out id)
  replace D2 := Lib.hid (n.heap D2.out id)
  replace HB2 := Lib.hid (n.heap HB2.out id)
  replace D3 := Lib.hid (n.heap D3.out id)
  replace HA := Lib.hid ((HA.out.kept n nof).hi n.size)
  replace HBb := Lib.hid ((HBb.out.kept n nof).hi n.size)
  replace HC3 := Lib.hid ((HC3.out.kept n nof).hi n.size)
  replace HCc := Lib.hid ((HCc.out.kept n nof).hi n.size)
  replace HB5 := Lib.hid (n.heap HB5.out id)
  clear hW n
  refine Only_any _ _ _ bB bA 0 0 0 0 _ _ HBb.out HA.out (Nat.le_refl _) (by decide) ?_
  rw [s_o4]
  intro w38 n
  replace NX := Lib.hid (NX.out.trans n)
  replace MX := Lib.hid (MX.out.kept n id)
  replace D1 := Lib.hid (n.heap D1.out id)
  replace HB1 := Lib.hid (n.heap HB1.out id)
  replace D2 := Lib.hid (n.heap D2.out id)
  replace HB2 := Lib.hid (n.heap HB2.out id)
  replace D3 := Lib.hid (n.heap D3.out id)
  replace HA := Lib.hid ((HA.out.kept n nof).hi n.size)
  replace HBb := Lib.hid ((HBb.out.kept n nof).hi n.size)
  replace HC3 := Lib.hid ((HC3.out.kept n nof).hi n.size)
  replace HCc := Lib.hid ((HCc.out.kept n nof).hi n.size)
  replace HB5 := Lib.hid (n.heap HB5.out id)
  clear n
  have kHB10 : w38.cell? ⟨w.heap.size + 1, 0, none⟩ = some (.int .i64 3) := by rw [cell_of HB1.out]; rfl
  have jHB10 : ∀ o, (w38.alloc o).cell? ⟨w.heap.size + 1, 0, none⟩ = some (.int .i64 3) := fun o => cell_alloc_old o kHB10
  have kHB11 : w38.cell? ⟨w.heap.size + 1, 1, none⟩ = some (.int .i64 2) := by rw [cell_of HB1.out]; rfl
  have jHB11 : ∀ o, (w38.alloc o).cell? ⟨w.heap.size + 1, 1, none⟩ = some (.int .i64 2) := fun o => cell_alloc_old o kHB11
  have kHB12 : w38.cell? ⟨w.heap.size + 1, 2, none⟩ = some (.slice (some ⟨w.heap.size, 0, none⟩) 6 6) := by rw [cell_of HB1.out]; rfl
  have jHB12 : ∀ o, (w38.alloc o).cell? ⟨w.heap.size + 1, 2, none⟩ = some (.slice (some ⟨w.heap.size, 0, none⟩) 6 6) := fun o => cell_alloc_old o kHB12
  have kHB20 : w38.cell? ⟨w.heap.size + 3, 0, none⟩ = some (.int .i64 2) := by rw [cell_of HB2.out]; rfl
  have jHB20 : ∀ o, (w38.alloc o).cell? ⟨w.heap.size + 3, 0, none⟩ = some (.int .i64 2) := fun o => cell_alloc_old o kHB20
  have kHB21 : w38.cell? ⟨w.heap.size + 3, 1, none⟩ = some (.int .i64 1) := by rw [cell_of HB2.out]; rfl
  have jHB21 : ∀ o, (w38.alloc o).cell? ⟨w.heap.size + 3, 1, none⟩ = some (.int .i64 1) := fun o => cell_alloc_old o kHB21
  have kHB22 : w38.cell? ⟨w.heap.size + 3, 2, none⟩ = some (.slice (some ⟨w.heap.size + 2, 0, none⟩) 2 2) := by rw [cell_of HB2.out]; rfl
  have jHB22 : ∀ o, (w38.alloc o).cell? ⟨w.heap.size + 3, 2, none⟩ = some (.slice (some ⟨w.heap.size + 2, 0, none⟩) 2 2) := fun o => cell_alloc_old o kHB22
  go_wp2_with (go_at_call 5; fail)
  clear kHB10 jHB10 kHB11 jHB11 kHB12 jHB12 kHB20 jHB20 kHB21 jHB21 kHB22 jHB22
  refine Calls_nm ?_
  intro W39 hW
  have n : Nw w38 W39 := by rw [hW]; first | exact Ch.refl _ _ | exact (Ch.refl _ _).alloc _ | exact ((Ch.refl _ _).alloc _).alloc _
  replace NX := Lib.hid (NX.out.trans n)
  replace MX := Lib.hid (MX.out.kept n id)
  replace D1 := Lib.hid (n.heap D1.out id)
  replace HB1 := Lib.hid (n.heap HB1.out id)
  replace D2 := Lib.hid (n.heap D2.out id)
  replace HB2 := Lib.hid (n.heap HB2.out id)
  replace D3 := Lib.hid (n.heap D3.out id)
  replace HA := Lib.hid ((HA.out.kept n nof).hi n.size)
  replace HBb := Lib.hid ((HBb.out.kept n nof).hi n.size)
  replace HC3 := Lib.hid ((HC3.out.kept n nof).hi n.size)
  replace HCc := Lib.hid ((HCc.out.kept n nof).hi n.size)
  replace HB5 := Lib.hid (n.heap HB5.out id)
  clear hW n
  refine bParse_any _ _ _ MX.out (by decide) ?_
  intro w40 v hi n
  replace NX := Lib.hid (NX.out.trans n)
  replace MX := Lib.hid (MX.out.kept n id)
  replace D1 := Lib.hid (n.heap D1.out id)
  replace HB1 := Lib.hid (n.heap HB1.out id)
  replace D2 := Lib.hid (n.heap D2.out id)
  replace HB2 := Lib.hid (n.heap HB2.out id)
  replace D3 := Lib.hid (n.heap D3.out id)
  replace HA := Lib.hid ((HA.out.kept n nof).hi n.size)
  replace HBb := Lib.hid ((HBb.out.kept n nof).hi n.size)
  replace HC3 := Lib.hid ((HC3.out.kept n nof).hi n.size)
  replace HCc := Lib.hid ((HCc.out.kept n nof).hi n.size)
  replace HB5 := Lib.hid (n.heap HB5.out id)
  have hs : parseB [35, 46, 10, 46, 35, 10] = (bD, true) := s_d
  have hi' := hi
  clear hi
  simp only [show ((⟨#[35, 46, 10, 46, 35, 10]⟩ : ByteArray).data.toList) = [35, 46, 10, 46, 35, 10] from rfl, s_d] at hi' ⊢
  obtain ⟨AQ, cQ, rfl, hI⟩ := isBm_formN (W := 2) (H := 2) (n := 4) hi' rfl rfl rfl
  clear hs hi'
  have HD := Lib.hid hI
  clear hI n
  go_wp2_with (go_at_call 5; fail)
  refine Calls_nm ?_
  intro W41 hW
  have n : Nw w40 W41 := by rw [hW]; first | exact Ch.refl _ _ | exact (Ch.refl _ _).alloc _ | exact ((Ch.refl _ _).alloc _).alloc _
  replace NX := Lib.hid (NX.out.trans n)
  replace MX := Lib.hid (MX.out.kept n id)
  replace D1 := Lib.hid (n.heap D1.out id)
  replace HB1 := Lib.hid (n.heap HB1.out id)
  replace D2 := Lib.hid (n.heap D2.out id)
  replace HB2 := Lib.hid (n.heap HB2.out id)
  replace D3 := Lib.hid (n.heap D3.out id)
  replace HA := Lib.hid ((HA.out.kept n nof).hi n.size)
  replace HBb := Lib.hid ((HBb.out.kept n nof).hi n.size)
  replace HC3 := Lib.hid ((HC3.out.kept n nof).hi n.size)
  replace HCc := Lib.hid ((HCc.out.kept n nof).hi n.size)
  replace HB5 := Lib.hid (n.heap HB5.out id)
  replace HD := Lib.hid ((HD.out.kept n nof).hi n.size)
  have HB9 := Lib.hid (show W41.heap[w40.heap.size]? = some (.cells #[.int .i64 2, .int .i64 2, .slice AQ 4 cQ] 28 (0, 0)) from by rw [hW]; exact heap_alloc_eq _ rfl)
  clear hW n
  refine bParse_any _ _ _ MX.out (by decide) ?_
  intro w42 v hi n
  replace NX := Lib.hid (NX.out.trans n)
  replace MX := Lib.hid (MX.out.kept n id)
  replace D1 := Lib.hid (n.heap D1.out id)
  replace HB1 := Lib.hid (n.heap HB1.out id)
  replace D2 := Lib.hid (n.heap D2.out id)
  replace HB2 := Lib.hid (n.heap HB2.out id)
  replace D3 := Lib.hid (n.heap D3.out id)
  replace HA := Lib.hid ((HA.out.kept n nof).hi n.size)
  replace HBb := Lib.hid ((HBb.out.kept n nof).hi n.size)
  replace HC3 := Lib.hid ((HC3.out.kept n nof).hi n.size)
  replace HCc := Lib.hid ((HCc.out.kept n nof).hi n.size)
  replace HB5 := Lib.hid (n.heap HB5.out id)
  replace HD := Lib.hid ((HD.out.kept n nof).hi n.size)
  replace HB9 := Lib.hid (n.heap HB9.out id)
  have hs : parseB [35, 46, 10, 35, 10] = (zeroB, false) := s_6
  have hi' := hi
  clear hi
  simp only [show ((⟨#[35, 46, 10, 35, 10]⟩ : ByteArray).data.toList) = [35, 46, 10, 35, 10] from rfl, s_6] at hi' ⊢
  obtain ⟨AP, cP, rfl, hI⟩ := isBm_formN (W := 0) (H := 0) (n := 0) hi' rfl rfl rfl
  clear hs hi'
  clear hI n
  go_wp2_with (go_at_call 5; fail)
  refine Calls_nm ?_
  intro W43 hW
  have n : Nw w42 W43 := by rw [hW]; first | exact Ch.refl _ _ | exact (Ch.refl _ _).alloc _ | exact ((Ch.refl _ _).alloc _).alloc _
  replace NX := Lib.hid (NX.out.trans n)
  replace MX := Lib.hid (MX.out.kept n id)
  replace D1 := Lib.hid (n.heap D1.out id)
  replace HB1 := Lib.hid (n.heap HB1.out id)
  replace D2 := Lib.hid (n.heap D2.out id)
  replace HB2 := Lib.hid (n.heap HB2.out id)
  replace D3 := Lib.hid (n.heap D3.out id)
  replace HA := Lib.hid ((HA.out.kept n nof).hi n.size)
  replace HBb := Lib.hid ((HBb.out.kept n nof).hi n.size)
  replace HC3 := Lib.hid ((HC3.out.kept n nof).hi n.size)
  replace HCc := Lib.hid ((HCc.out.kept n nof).hi n.size)
  replace HB5 := Lib.hid (n.heap HB5.out id)
  replace HD := Lib.hid ((HD.out.kept n nof).hi n.size)
  replace HB9 := Lib.hid (n.heap HB9.out id)
  clear hW n
  refine bParse_any _ _ _ MX.out (by decide) ?_
  intro w44 v hi n
  replace NX := Lib.hid (NX.out.trans n)
  replace MX := Lib.hid (MX.out.kept n id)
  replace D1 := Lib.hid (n.heap D1.out id)
  replace HB1 := Lib.hid (n.heap HB1.out id)
  replace D2 := Lib.hid (n.heap D2.out id)
  replace HB2 := Lib.hid (n.heap HB2.out id)
  replace D3 := Lib.hid (n.heap D3.out id)
  replace HA := Lib.hid ((HA.out.kept n nof).hi n.size)
  replace HBb := Lib.hid ((HBb.out.kept n nof).hi n.size)
  replace HC3 := Lib.hid ((HC3.out.kept n nof).hi n.size)
  replace HCc := Lib.hid ((HCc.out.kept n nof).hi n.size)
  replace HB5 := Lib.hid (n.heap HB5.out id)
  replace HD := Lib.hid ((HD.out.kept n nof).hi n.size)
  replace HB9 := Lib.hid (n.heap HB9.out id)
  have hs : parseB [35] = (zeroB, false) := s_7
  have hi' := hi
  clear hi
  simp only [show ((⟨#[35]⟩ : ByteArray).data.toList) = [35] from rfl, s_7] at hi' ⊢
  obtain ⟨AP, cP, rfl, hI⟩ := isBm_formN (W := 0) (H := 0) (n := 0) hi' rfl rfl rfl
  clear hs hi'
  clear hI n
  go_wp2_with (go_at_call 5; fail)
  refine Calls_nm ?_
  intro W45 hW
  have n : Nw w44 W45 := by rw [hW]; first | exact Ch.refl _ _ | exact (Ch.refl _ _).alloc _ | exact ((Ch.refl _ _).alloc _).alloc _
  replace NX := Lib.hid (NX.out.trans n)
  replace MX := Lib.hid (MX.out.kept n id)
  replace D1 := Lib.hid (n.heap D1.out id)
  replace HB1 := Lib.hid (n.heap HB1.out id)
  replace D2 := Lib.hid (n.heap D2.out id)
  replace HB2 := Lib.hid (n.heap HB2.out id)
  replace D3 := Lib.hid (n.heap D3.out id)
  replace HA := Lib.hid ((HA.out.kept n nof).hi n.size)
  replace HBb := Lib.hid ((HBb.out.kept n nof).hi n.size)
  replace HC3 := Lib.hid ((HC3.out.kept n nof).hi n.size)
  replace HCc := Lib.hid ((HCc.out.kept n nof).hi n.size)
  replace HB5 := Lib.hid (n.heap HB5.out id)
  replace HD := Lib.hid ((HD.out.kept n nof).hi n.size)
  replace HB9 := Lib.hid (n.heap HB9.out id)
  clear hW n
  refine bParse_any _ _ _ MX.out (by decide) ?_
  intro w46 v hi n
  replace NX := Lib.hid (NX.out.trans n)
  replace MX := Lib.hid (MX.out.kept n id)
  replace D1 := Lib.hid (n.heap D1.out id)
  replace HB1 := Lib.hid (n.heap HB1.out id)
  replace D2 := Lib.hid (n.heap D2.out id)
  replace HB2 := Lib.hid (n.heap HB2.out id)
  replace D3 := Lib.hid (n.heap D3.out id)
  replace HA := Lib.hid ((HA.out.kept n nof).hi n.size)
  replace HBb := Lib.hid ((HBb.out.kept n nof).hi n.size)
  replace HC3 := Lib.hid ((HC3.out.kept n nof).hi n.size)
  replace HCc := Lib.hid ((HCc.out.kept n nof).hi n.size)
  replace HB5 := Lib.hid (n.heap HB5.out id)
  replace HD := Lib.hid ((HD.out.kept n nof).hi n.size)
  replace HB9 := Lib.hid (n.heap HB9.out id)
  have hs : parseB [10] = (zeroB, false) := s_8
  have hi' := hi
  clear hi
  simp only [show ((⟨#[10]⟩ : ByteArray).data.toList) = [10] from rfl, s_8] at hi' ⊢
  obtain ⟨AP, cP, rfl, hI⟩ := isBm_formN (W := 0) (H := 0) (n := 0) hi' rfl rfl rfl
  clear hs hi'
  clear hI n
  have kHB90 : w46.cell? ⟨w40.heap.size, 0, none⟩ = some (.int .i64 2) := by rw [cell_of HB9.out]; rfl
  have jHB90 : ∀ o, (w46.alloc o).cell? ⟨w40.heap.size, 0, none⟩ = some (.int .i64 2) := fun o => cell_alloc_old o kHB90
  have kHB91 : w46.cell? ⟨w40.heap.size, 1, none⟩ = some (.int .i64 2) := by rw [cell_of HB9.out]; rfl
  have jHB91 : ∀ o, (w46.alloc o).cell? ⟨w40.heap.size, 1, none⟩ = some (.int .i64 2) := fun o => cell_alloc_old o kHB91
  have kHB92 : w46.cell? ⟨w40.heap.size, 2, none⟩ = some (.slice AQ 4 cQ) := by rw [cell_of HB9.out]; rfl
  have jHB92 : ∀ o, (w46.alloc o).cell? ⟨w40.heap.size, 2, none⟩ = some (.slice AQ 4 cQ) := fun o => cell_alloc_old o kHB92
  go_wp2_with (go_at_call 11; fail)
  clear kHB90 jHB90 kHB91 jHB91 kHB92 jHB92
  refine Calls_nm ?_
  intro W47 hW
  have n : Nw w46 W47 := by rw [hW]; first | exact Ch.refl _ _ | exact (Ch.refl _ _).alloc _ | exact ((Ch.refl _ _).alloc _).alloc _
  replace NX := Lib.hid (NX.out.trans n)
  replace MX := Lib.hid (MX.out.kept n id)
  replace D1 := Lib.hid (n.heap D1.out id)
  replace HB1 := Lib.hid (n.heap HB1.out id)
  replace D2 := Lib.hid (n.heap D2.out id)
  replace HB2 := Lib.hid (n.heap HB2.out id)
  replace D3 := Lib.hid (n.heap D3.out id)
  replace HA := Lib.hid ((HA.out.kept n nof).hi n.size)
  replace HBb := Lib.hid ((HBb.out.kept n nof).hi n.size)
  replace HC3 := Lib.hid ((HC3.out.kept n nof).hi n.size)
  replace HCc := Lib.hid ((HCc.out.kept n nof).hi n.size)
  replace HB5 := Lib.hid (n.heap HB5.out id)
  replace HD := Lib.hid ((HD.out.kept n nof).hi n.size)
  replace HB9 := Lib.hid (n.heap HB9.out id)
  have D9 := Lib.hid (show W47.heap[w46.heap.size + 1]? = some (.cells (boolC [false, true, true, false]) 4 (0, 0)) from by rw [hW]; exact heap_alloc_eq _ (by simp only [alloc_size]))
  clear hW n
  have HS : IsBm W47 W47.heap.size (.agg #[.int .i64 2, .int .i64 2, .slice (some ⟨w46.heap.size + 1, 0, none⟩) 4 4]) bD := ⟨_, rfl, isBools_block (l := [false, true, true, false]) D9.out (lt_of_heap D9.out) (by decide), by unfold wfI; decide, by unfold wfI; decide⟩
  refine rbSame_any _ _ _ bD bD _ _ HD.out HS ?_
  rw [show decide (bD = bD) = true from rfl]
  intro w48 n
  replace NX := Lib.hid (NX.out.trans n)
  replace MX := Lib.hid (MX.out.kept n id)
  replace D1 := Lib.hid (n.heap D1.out id)
  replace HB1 := Lib.hid (n.heap HB1.out id)
  replace D2 := Lib.hid (n.heap D2.out id)
  replace HB2 := Lib.hid (n.heap HB2.out id)
  replace D3 := Lib.hid (n.heap D3.out id)
  replace HA := Lib.hid ((HA.out.kept n nof).hi n.size)
  replace HBb := Lib.hid ((HBb.out.kept n nof).hi n.size)
  replace HC3 := Lib.hid ((HC3.out.kept n nof).hi n.size)
  replace HCc := Lib.hid ((HCc.out.kept n nof).hi n.size)
  replace HB5 := Lib.hid (n.heap HB5.out id)
  replace HD := Lib.hid ((HD.out.kept n nof).hi n.size)
  replace HB9 := Lib.hid (n.heap HB9.out id)
  replace D9 := Lib.hid (n.heap D9.out id)
  clear HS
  go_wp2_with (fail)
  exact ret_b (HR.out _ NX.out) (by simp)
end Go.Proofs.YtaafmgkjfmngjaaDoor
